/- The example schema and example values of layer 8. No condition. -/
import Derived.Test.YtjcoeolconelmaaFitP
import Derived.Test.YtjcoeolconelmaaFresh
namespace Go.Proofs.Ytjcoeolconelmaa
open Go.ChangeShapes Go.WideShapes Go.ChangeAt Go.RowKit

def numV (n : Int) : Val := .mk 2 false n [] 0 [] [] []
def strV (s : List UInt8) : Val := .mk 3 false 0 s 0 [] [] []
theorem rdvals_nil (w : World) (B : Nat) : RdVals w B (.slice none 0 0) [] := ⟨fun _ => [], ⟨none, 0, rfl, Nat.le_refl _, .inl rfl⟩, fun i h => by simp at h⟩
theorem rdmems_nil (w : World) (B : Nat) : RdMems w B (.slice none 0 0) [] := ⟨fun _ => [], ⟨none, 0, rfl, Nat.le_refl _, .inl rfl⟩, fun i h => by simp at h⟩
theorem leaf_at (w : World) (B : Nat) (k : Int) (b : Bool) (n : Int) (s : List UInt8) (id : Int) (h : I64 k ∧ I64 n ∧ I64 id) (hs : s.length ≤ 140737488351232) : ValAt w B (.mk k b n s id [] [] []) (.slice none 0 0) (.slice none 0 0) (.slice none 0 0) :=
  ⟨h, hs, ⟨by simp [Val.keys], by simp [Val.items], by simp [Val.rest]⟩, by simp [Val.rest], rdvals_nil w B, rdvals_nil w B, Rd.nil_ w B 2⟩
theorem num_at (w : World) (B : Nat) (n : Int) (h : I64 n) : ValAt w B (numV n) (.slice none 0 0) (.slice none 0 0) (.slice none 0 0) := leaf_at w B 2 false n [] 0 ⟨by simp [I64], h, by simp [I64]⟩ (by simp)
theorem str_at (w : World) (B : Nat) (s : List UInt8) (h : s.length ≤ 140737488351232) : ValAt w B (strV s) (.slice none 0 0) (.slice none 0 0) (.slice none 0 0) := leaf_at w B 3 false 0 s 0 ⟨by simp [I64], by simp [I64], by simp [I64]⟩ h
theorem val0_at (w : World) (B : Nat) : ValAt w B val0 (.slice none 0 0) (.slice none 0 0) (.slice none 0 0) := leaf_at w B 0 false 0 [] 0 ⟨by simp [I64], by simp [I64], by simp [I64]⟩ (by simp)

theorem alloc_hs' (w : World) (o : Obj) : (w.alloc o).heap.size = w.heap.size + 1 := by simp
set_option maxRecDepth 100000 in
set_option maxHeartbeats 400000 in
theorem num_any (n : Int) (w : World) : Calls Try.prog 42 #[.int .i64 n] w fun e w' => e = .returned (.agg #[.int .i64 2, .bool false, .int .i64 n, .string ⟨#[]⟩, .int .i64 0, .slice none 0 0, .slice none 0 0, .slice none 0 0]) ∧ Below w.heap.size w w' := by
  go_enter Try.func42, Try.ntmps42
  go_wp2_with fail
  exact bodyPost_ret (v := .agg #[.int .i64 2, .bool false, .int .i64 n, .string ⟨#[]⟩, .int .i64 0, .slice none 0 0, .slice none 0 0, .slice none 0 0]) (by simp [results, Try.results42, go_sem]) rfl ⟨rfl, (Below.refl _ _).alloc (Nat.le_refl _) _⟩
set_option maxRecDepth 100000 in
set_option maxHeartbeats 400000 in
theorem str_any (s : List UInt8) (w : World) : Calls Try.prog 43 #[.string ⟨s.toArray⟩] w fun e w' => e = .returned (.agg #[.int .i64 3, .bool false, .int .i64 0, .string ⟨s.toArray⟩, .int .i64 0, .slice none 0 0, .slice none 0 0, .slice none 0 0]) ∧ Below w.heap.size w w' := by
  go_enter Try.func43, Try.ntmps43
  go_wp2_with fail
  exact bodyPost_ret (v := .agg #[.int .i64 3, .bool false, .int .i64 0, .string ⟨s.toArray⟩, .int .i64 0, .slice none 0 0, .slice none 0 0, .slice none 0 0]) (by simp [results, Try.results43, go_sem]) rfl ⟨rfl, (Below.refl _ _).alloc (Nat.le_refl _) _⟩

def pointM : List Mem := [⟨1, [120], 1, false, false, val0⟩, ⟨3, [121], 2, false, false, val0⟩]
def pointT : List Typ := [⟨5, [80, 111, 105, 110, 116], 0, 0, 0, [], pointM, 0, 0, false⟩, ⟨2, [], 0, 9, 0, [], [], 0, 0, false⟩, ⟨9, [], 0, 0, 0, [], [], 0, 1, false⟩]
theorem row_hasP {w : World} {B g size n : Nat} {T : TypeId} {c : Nat → List Value} (h : Has w g T (rowsV c n).toArray) (hB : g < B) (hc : ∀ i, i < n → (c i).length = size) : Row w B size (.slice (some ⟨g, 0, none⟩) n n) n c := by
  refine ⟨_, n, rfl, Nat.le_refl _, ?_⟩
  refine .inr ⟨g, 0, rfl, hB, fun i hi j u hu => ?_⟩
  have hj : j < size := by rw [← hc i hi]; exact (List.getElem?_eq_some_iff.1 hu).1
  have h1 := h.cell (i * size + j)
  rw [List.getElem?_toArray, rowsV_get c size n hc i j hi hj, hu] at h1
  rw [show 0 + i * size + j = i * size + j by omega]
  exact h1
def ptMc : Nat → List Value
  | 0 => memV ⟨1, [120], 1, false, false, val0⟩ (.slice none 0 0) (.slice none 0 0) (.slice none 0 0)
  | _ => memV ⟨3, [121], 2, false, false, val0⟩ (.slice none 0 0) (.slice none 0 0) (.slice none 0 0)
theorem pointM_rd {w : World} {B g : Nat} {T : TypeId} (h : Has w g T (rowsV ptMc 2).toArray) (hB : g < B) : RdMems w B (.slice (some ⟨g, 0, none⟩) 2 2) pointM := by
  refine ⟨ptMc, row_hasP h hB (fun i hi => ?_), fun i hi => ?_⟩
  · match i, hi with
    | 0, _ => rfl
    | 1, _ => rfl
  · match i, hi with
    | 0, _ => exact ⟨_, _, _, rfl, ⟨by simp [I64, pointM], by simp [pointM], val0_at w B⟩⟩
    | 1, _ => exact ⟨_, _, _, rfl, ⟨by simp [I64, pointM], by simp [pointM], val0_at w B⟩⟩
def ptTc (g : Nat) : Nat → List Value
  | 0 => typV ⟨5, [80, 111, 105, 110, 116], 0, 0, 0, [], pointM, 0, 0, false⟩ (.slice none 0 0) (.slice (some ⟨g, 0, none⟩) 2 2)
  | 1 => typV ⟨2, [], 0, 9, 0, [], [], 0, 0, false⟩ (.slice none 0 0) (.slice none 0 0)
  | _ => typV ⟨9, [], 0, 0, 0, [], [], 0, 1, false⟩ (.slice none 0 0) (.slice none 0 0)
theorem pointT_rd {w : World} {B g g2 : Nat} {T T2 : TypeId} (h : Has w g T (rowsV ptMc 2).toArray) (h2 : Has w g2 T2 (rowsV (ptTc g) 3).toArray) (hB : g < B) (hB2 : g2 < B) : RdTyps w B (.slice (some ⟨g2, 0, none⟩) 3 3) pointT := by
  refine ⟨ptTc g, row_hasP h2 hB2 (fun i hi => ?_), fun i hi => ?_⟩
  · match i, hi with
    | 0, _ => rfl
    | 1, _ => rfl
    | 2, _ => rfl
  · match i, hi with
    | 0, _ => exact ⟨_, _, rfl, ⟨by simp [I64, pointT], by simp [pointT], by simp [pointT, pointM], by simp [pointT], Rd.nil_ w B 2, pointM_rd h hB⟩⟩
    | 1, _ => exact ⟨_, _, rfl, ⟨by simp [I64, pointT], by simp [pointT], by simp [pointT], by simp [pointT], Rd.nil_ w B 2, rdmems_nil w B⟩⟩
    | 2, _ => exact ⟨_, _, rfl, ⟨by simp [I64, pointT], by simp [pointT], by simp [pointT], by simp [pointT], Rd.nil_ w B 2, rdmems_nil w B⟩⟩
def PointPost (w : World) (e : Ending) (w' : World) : Prop := ∃ g, e = .returned (.agg #[.slice (some ⟨g, 0, none⟩) 3 3]) ∧ RdTyps w' w'.heap.size (.slice (some ⟨g, 0, none⟩) 3 3) pointT ∧ Below w.heap.size w w'
set_option maxRecDepth 100000 in
set_option maxHeartbeats 1600000 in
theorem point_any (w : World) : Calls Try.prog 41 #[] w (PointPost w) := by
  go_enter Try.func41, Try.ntmps41
  go_wp2_with fail
  refine bodyPost_ret (v := .agg #[.slice (some ⟨w.heap.size + 1 + 1, 0, none⟩) 3 3]) (by simp [results, Try.results41, go_sem]) rfl ⟨_, rfl, ?_, ?_⟩
  · have h1 := (Has.made (w.alloc (.cells #[.slice (some ⟨w.heap.size + 1 + 1, 0, none⟩) 3 3] 31)) 94 (rowsV ptMc 2).toArray).alloc (.cells (rowsV (ptTc (w.heap.size + 1)) 3).toArray 67)
    have h2 := Has.made ((w.alloc (.cells #[.slice (some ⟨w.heap.size + 1 + 1, 0, none⟩) 3 3] 31)).alloc (.cells (rowsV ptMc 2).toArray 94)) 67 (rowsV (ptTc (w.heap.size + 1)) 3).toArray
    rw [alloc_hs'] at h1
    rw [alloc_hs', alloc_hs'] at h2
    exact pointT_rd h1 h2 (by simp) (by simp)
  · exact (((Below.refl _ _).alloc (Nat.le_refl _) _).alloc (by simp) _).alloc (by simp; omega) _
end Go.Proofs.Ytjcoeolconelmaa

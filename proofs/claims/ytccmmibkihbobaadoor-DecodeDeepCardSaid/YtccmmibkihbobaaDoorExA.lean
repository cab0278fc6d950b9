/- The example schema of layer 10, and what is read by it. No condition. -/
import Derived.Test.YtccmmibkihbobaaDoorHAD
import Derived.Test.YtccmmibkihbobaaDoorHAK
set_option maxHeartbeats 1600000
namespace Go.Proofs.YtccmmibkihbobaaDoor
open Go.ChangeShapes Go.WideShapes Go.ChangeAt Go.RowKit
def exM : List Mem := [⟨1, [120], 1, false, false, val0⟩, ⟨2, [121], 2, false, true, numV 3⟩, ⟨3, [116, 97, 103], 3, true, false, val0⟩]
def exT : List Typ := [⟨5, [82], 0, 0, 0, [], exM, 0, 0, false⟩, ⟨2, [], -10, 10, 0, [], [], 0, 0, false⟩, ⟨2, [], 0, 5, 0, [], [], 0, 0, false⟩, ⟨3, [], 0, 0, 8, [], [], 0, 0, false⟩]
def exI : List Val := [numV (-2), numV 3, strV [97, 98]]
def exV : Val := .mk 5 false 0 [] 0 [] exI []
def exU : Val := .mk 5 false 0 [] 0 [] exI [(4, [5])]
theorem exSizes : Sizes exT := by
 intro x hx
 simp only [exT, List.mem_cons, List.not_mem_nil, or_false] at hx
 rcases hx with rfl | rfl | rfl | rfl <;> simp [exM]
theorem exR1 : readE exT 0 [2, 1, 3, 7, 2, 97, 98] = .ok (.ok exV) := by kernel_rfl
theorem exR2 : readE exT 0 [2, 1, 99, 7, 0] = .ok (.error ([1], 2)) := by kernel_rfl
theorem exR3 : readE exT 0 [2, 1, 3, 7, 2, 97, 98, 8, 1, 5] = .ok (.ok exU) := by kernel_rfl
theorem exR4 : readE exT 0 [2, 1, 3, 7, 2, 97, 98, 9, 1, 5] = .ok (.error ([4], 6)) := by kernel_rfl
theorem exR5 : fitV exT false exU 0 = true := by decide +kernel
theorem exR6 : unkR exT 0 (readE exT 0 [2, 1, 3, 7, 2, 97, 98, 8, 1, 5]) = (1, 0) := by rw [exR3]; kernel_rfl
theorem exR7 : reasonT [1] 2 = [49, 32, 114, 97, 110, 103, 101] := by
 unfold reasonT pathT wordT
 simp [Lib.itoa, Lib.decDigits_one, Lib.join_one, reasonL]
def exMc : Nat → List Value
 | 0 => memV ⟨1, [120], 1, false, false, val0⟩ (.slice none 0 0) (.slice none 0 0) (.slice none 0 0)
 | 1 => memV ⟨2, [121], 2, false, true, numV 3⟩ (.slice none 0 0) (.slice none 0 0) (.slice none 0 0)
 | _ => memV ⟨3, [116, 97, 103], 3, true, false, val0⟩ (.slice none 0 0) (.slice none 0 0) (.slice none 0 0)
theorem exM_rd {w : World} {B g : Nat} {T : TypeId} (h : Has w g T (rowsV exMc 3).toArray) (hB : g < B) : RdMems w B (.slice (some ⟨g, 0, none⟩) 3 3) exM := by
 refine ⟨exMc, row_hasP h hB (fun i hi => ?_), fun i hi => ?_⟩
 ·
  match i, hi with
  | 0, _ => rfl
  | 1, _ => rfl
  | 2, _ => rfl
 match i, hi with
 | 0, _ => exact ⟨_, _, _, rfl, ⟨by simp [I64, exM], by simp [exM], val0_at w B⟩⟩
 | 1, _ => exact ⟨_, _, _, rfl, ⟨by simp [I64, exM], by simp [exM], num_at w B 3 (by simp [I64])⟩⟩
 | 2, _ => exact ⟨_, _, _, rfl, ⟨by simp [I64, exM], by simp [exM], val0_at w B⟩⟩
def exTc (g : Nat) : Nat → List Value
 | 0 => typV ⟨5, [82], 0, 0, 0, [], exM, 0, 0, false⟩ (.slice none 0 0) (.slice (some ⟨g, 0, none⟩) 3 3)
 | 1 => typV ⟨2, [], -10, 10, 0, [], [], 0, 0, false⟩ (.slice none 0 0) (.slice none 0 0)
 | 2 => typV ⟨2, [], 0, 5, 0, [], [], 0, 0, false⟩ (.slice none 0 0) (.slice none 0 0)
 | _ => typV ⟨3, [], 0, 0, 8, [], [], 0, 0, false⟩ (.slice none 0 0) (.slice none 0 0)
theorem exT_rd {w : World} {B g g2 : Nat} {T T2 : TypeId} (h : Has w g T (rowsV exMc 3).toArray) (h2 : Has w g2 T2 (rowsV (exTc g) 4).toArray) (hB : g < B) (hB2 : g2 < B) : RdTyps w B (.slice (some ⟨g2, 0, none⟩) 4 4) exT := by
 refine ⟨exTc g, row_hasP h2 hB2 (fun i hi => ?_), fun i hi => ?_⟩
 ·
  match i, hi with
  | 0, _ => rfl
  | 1, _ => rfl
  | 2, _ => rfl
  | 3, _ => rfl
 match i, hi with
 | 0, _ => exact ⟨_, _, rfl, ⟨by simp [I64, exT], by simp [exT], by simp [exT, exM], by simp [exT], Rd.nil_ w B 2, exM_rd h hB⟩⟩
 | 1, _ => exact ⟨_, _, rfl, ⟨by simp [I64, exT], by simp [exT], by simp [exT], by simp [exT], Rd.nil_ w B 2, rdmems_nil w B⟩⟩
 | 2, _ => exact ⟨_, _, rfl, ⟨by simp [I64, exT], by simp [exT], by simp [exT], by simp [exT], Rd.nil_ w B 2, rdmems_nil w B⟩⟩
 | 3, _ => exact ⟨_, _, rfl, ⟨by simp [I64, exT], by simp [exT], by simp [exT], by simp [exT], Rd.nil_ w B 2, rdmems_nil w B⟩⟩
def ExPost (w : World) (e : Ending) (w' : World) : Prop := ∃ g, e = .returned (.agg #[.slice (some ⟨g, 0, none⟩) 4 4]) ∧ RdTyps w' w'.heap.size (.slice (some ⟨g, 0, none⟩) 4 4) exT ∧ Below w.heap.size w w'
set_option maxRecDepth 100000 in
theorem example_any (w : World) : Calls Tryd.prog 12 #[] w (ExPost w) := by
 go_enter Tryd.func12, Tryd.ntmps12
 go_wp2_with fail
 refine bodyPost_ret (v := .agg #[.slice (some ⟨w.heap.size + 1 + 1, 0, none⟩) 4 4]) (by simp [results, Tryd.results12, go_sem]) rfl ⟨_, rfl, ?_, ?_⟩
 ·
  have h1 := (Has.made (w.alloc (.cells #[.slice (some ⟨w.heap.size + 1 + 1, 0, none⟩) 4 4] 36)) 73 (rowsV exMc 3).toArray).alloc (.cells (rowsV (exTc (w.heap.size + 1)) 4).toArray 33)
  have h2 := Has.made ((w.alloc (.cells #[.slice (some ⟨w.heap.size + 1 + 1, 0, none⟩) 4 4] 36)).alloc (.cells (rowsV exMc 3).toArray 73)) 33 (rowsV (exTc (w.heap.size + 1)) 4).toArray
  rw [alloc_hs'] at h1
  rw [alloc_hs', alloc_hs'] at h2
  exact exT_rd h1 h2 (by simp) (by simp)
 exact (((Below.refl _ _).alloc (Nat.le_refl _) _).alloc (by simp) _).alloc (by simp; omega) _
end Go.Proofs.YtccmmibkihbobaaDoor

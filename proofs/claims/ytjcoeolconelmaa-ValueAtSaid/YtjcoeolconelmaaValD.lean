/- What Depth, Nodes and their references compute. No condition. -/
import Derived.Test.YtjcoeolconelmaaVal
namespace Go.Proofs.Ytjcoeolconelmaa
open Go.ChangeShapes Go.WideShapes Go.ChangeAt Go.RowKit

abbrev valA (x : Val) (vk vi vr : Value) : Value := .agg #[.int .i64 x.kind, .bool x.bool, .int .i64 x.num, .string ⟨x.str.toArray⟩, .int .i64 x.id, vk, vi, vr]
theorem depth_eq (x : Val) : depth x = max (depthL x.keys) (depthL x.items) + 1 := by cases x; rw [depth]; rfl
theorem nodes_eq (x : Val) : nodes x = nodesL x.keys + nodesL x.items + 1 := by cases x; rw [nodes]; rfl

set_option maxRecDepth 100000 in
set_option maxHeartbeats 400000 in
theorem vdepth_any : ∀ (N : Nat) (x : Val) (vk vi vr : Value) (w : World), nodes x ≤ N → N ≤ 1000 → ValAt w w.heap.size x vk vi vr →
    Calls Try.prog 21 #[valA x vk vi vr] w fun e w' => e = .returned (.int .i64 (depth x : Nat)) ∧ Below w.heap.size w w' := by
  intro N
  induction N with
  | zero => intro x vk vi vr w h; have := nodes_pos x; omega
  | succ N ih =>
    intro x vk vi vr w hN hN1 hv
    have hkeys := hv.keys
    have hitems := hv.items
    have HV := Lib.hid hv
    have hne := nodes_eq x
    have Hde := Lib.hid (depth_eq x)
    have hdk := depthL_nodes x.keys
    have hdi := depthL_nodes x.items
    have hkl := nodesL_len x.keys
    have hil := nodesL_len x.items
    have IH := Lib.hid ih
    obtain ⟨Ak, ck, rfl, hck⟩ := hkeys.form
    obtain ⟨Ai, ci, rfl, hci⟩ := hitems.form
    have hnk : nodesL x.keys ≤ N := by omega
    have hni : nodesL x.items ≤ N := by omega
    clear hv ih hne
    go_enter Try.func21, Try.ntmps21
    go_wp2
    have HL := Has.made (w.alloc (.cells #[.int .i64 x.kind, .bool x.bool, .int .i64 x.num, .string ⟨x.str.toArray⟩, .int .i64 x.id, .slice Ak x.keys.length ck, .slice Ai x.items.length ci, vr] 28)) 25 #[.slice Ak x.keys.length ck, .slice Ai x.items.length ci]
    have h01 : Below w.heap.size w ((w.alloc (.cells #[.int .i64 x.kind, .bool x.bool, .int .i64 x.num, .string ⟨x.str.toArray⟩, .int .i64 x.id, .slice Ak x.keys.length ck, .slice Ai x.items.length ci, vr] 28)).alloc (.cells #[.slice Ak x.keys.length ck, .slice Ai x.items.length ci] 25)) := ((Below.refl w.heap.size w).alloc (Nat.le_refl _) _).alloc (by simp) _
    have hg1 : (w.alloc (.cells #[.int .i64 x.kind, .bool x.bool, .int .i64 x.num, .string ⟨x.str.toArray⟩, .int .i64 x.id, .slice Ak x.keys.length ck, .slice Ai x.items.length ci, vr] 28)).heap.size = w.heap.size + 1 := by simp
    rw [hg1] at HL
    clear hg1
    generalize (w.alloc (.cells #[.int .i64 x.kind, .bool x.bool, .int .i64 x.num, .string ⟨x.str.toArray⟩, .int .i64 x.id, .slice Ak x.keys.length ck, .slice Ai x.items.length ci, vr] 28)).alloc (.cells #[.slice Ak x.keys.length ck, .slice Ai x.items.length ci] 25) = w1 at *
    have HK := Lib.hid (hkeys.on h01)
    have HI := Lib.hid (hitems.on h01)
    have hz1 := HL.here
    have HL := Lib.hid HL
    clear hkeys hitems
    go_loopw [3, 14] (fun m i wr => ∃ j m0 : Nat, i = .int .i64 j ∧ m = .int .i64 m0 ∧ ((j = 0 ∧ m0 = 0) ∨ (j = 1 ∧ m0 = depthL x.keys) ∨ (j = 2 ∧ m0 = max (depthL x.keys) (depthL x.items))) ∧ Below w1.heap.size w1 wr) (fun _ i _ => 2 - (intOf i).toNat)
    case atStart => exact ⟨0, 0, rfl, rfl, .inl ⟨rfl, rfl⟩, Below.refl _ _⟩
    case round =>
      obtain ⟨j, m0, rfl, rfl, hjm, hb⟩ := hrel
      by_cases hj : j < 2
      · obtain ⟨l, vl, hcl, hRl, hnl, hm0, hnext⟩ : ∃ (l : List Val) (vl : Value), wr.cell? ⟨w.heap.size + 1, j, none⟩ = some vl ∧ RdVals wr wr.heap.size vl l ∧ nodesL l ≤ N ∧ m0 ≤ 1000 ∧
            ((j + 1 = 0 ∧ max m0 (depthL l) = 0) ∨ (j + 1 = 1 ∧ max m0 (depthL l) = depthL x.keys) ∨ (j + 1 = 2 ∧ max m0 (depthL l) = max (depthL x.keys) (depthL x.items))) := by
          rcases hjm with ⟨rfl, rfl⟩ | ⟨rfl, rfl⟩ | ⟨rfl, rfl⟩
          · exact ⟨x.keys, _, (hb.cell (p := ⟨w.heap.size + 1, 0, none⟩) hz1).trans (HL.out.cell 0), HK.out.on hb, hnk, by omega, .inr (.inl ⟨rfl, by simp⟩)⟩
          · exact ⟨x.items, _, (hb.cell (p := ⟨w.heap.size + 1, 1, none⟩) hz1).trans (HL.out.cell 1), HI.out.on hb, hni, by omega, .inr (.inr ⟨rfl, rfl⟩)⟩
          · omega
        obtain ⟨Al, cl, rfl, hcl2⟩ := hRl.form
        have HRl := Lib.hid hRl
        have Hnext := Lib.hid hnext
        have hll := nodesL_len l
        have hdl := depthL_nodes l
        have hj2 : (j : Int) < 2 := by omega
        clear hjm hRl hnext
        obtain ⟨wo, rfl⟩ : ∃ wo : World, wo = wr := ⟨_, rfl⟩
        go_wp2_with fail
        go_loopw [3, 20] (fun m i wr => ∃ i1 m1 : Nat, i = .int .i64 i1 ∧ i1 ≤ l.length ∧ m = .int .i64 m1 ∧ m1 = max m0 (depthL (l.take i1)) ∧ m1 ≤ 1000 ∧ Below wo.heap.size wo wr) (fun _ i _ => l.length - (intOf i).toNat)
        case atStart => exact ⟨0, m0, rfl, by omega, rfl, by simp [depthL], hm0, Below.refl _ _⟩
        case round =>
          obtain ⟨i1, m1, rfl, hi1, rfl, hm1, hm1k, hb1⟩ := hrel
          have Hm1 := Lib.hid hm1
          clear hm1
          by_cases hlt : i1 < l.length
          · have hR := HRl.out.on hb1
            obtain ⟨b, o, rfl, hbb, hel⟩ := hR.elem (by omega)
            obtain ⟨yk, yi, yr, hcells, hva⟩ := hel i1 hlt
            have htk := depthL_take l i1 hlt
            have hym : nodes l[i1] ≤ nodesL l := nodesL_mem l _ (List.getElem_mem hlt)
            generalize l[i1] = y at *
            obtain ⟨A1, n1, A2, n2, A3, n3, rfl, rfl, rfl, _, _, _⟩ := hva.forms
            obtain ⟨c0, c1, c2, c3, c4, c5, c6, c7⟩ := hcells
            have hdy := depth_nodes y
            have HA := Lib.hid (hva.on ((Below.refl wr.heap.size wr).alloc (Nat.le_refl _) (.cells #[.int .i64 y.kind, .bool y.bool, .int .i64 y.num, .string ⟨y.str.toArray⟩, .int .i64 y.id, .slice A1 y.keys.length n1, .slice A2 y.items.length n2, .slice A3 y.rest.length n3] 28)))
            have Htk := Lib.hid htk
            clear hel hva htk hR
            go_wp2_with fail
            refine (IH.out y _ _ _ _ (by omega) (by omega) HA.out).mono ?_
            rintro e w2 ⟨rfl, hb2⟩
            have hb02 := (hb1.alloc hb1.size _).trans (hb2.mono (hb1.alloc hb1.size _).size)
            clear hb2 hb1
            go_wp2_with fail
            go_roundw
            case rel => exact ⟨i1 + 1, max m1 (depth y), by go_num, by omega, by go_num, by rw [Htk.out, Hm1.out]; omega, by omega, hb02⟩
            case measure => simp [intOf]; omega
          · go_wp2_with fail
            go_roundw
            case rel =>
              refine ⟨j + 1, m1, by go_num, rfl, ?_, hb.trans (hb1.mono hb.size)⟩
              rw [Hm1.out, List.take_of_length_le (by omega)]
              exact Hnext.out
            case measure => simp [intOf]; omega
      · obtain ⟨rfl, rfl⟩ : j = 2 ∧ m0 = max (depthL x.keys) (depthL x.items) := by omega
        clear hjm
        go_wp2_with fail
        go_ret
        exact ⟨ret_int (by rw [Hde.out]; go_num), h01.trans (hb.mono h01.size)⟩
set_option maxRecDepth 100000 in
set_option maxHeartbeats 400000 in
theorem vnodes_any : ∀ (N : Nat) (x : Val) (vk vi vr : Value) (w : World), nodes x ≤ N → N ≤ 1000 → ValAt w w.heap.size x vk vi vr →
    Calls Try.prog 22 #[valA x vk vi vr] w fun e w' => e = .returned (.int .i64 (nodes x : Nat)) ∧ Below w.heap.size w w' := by
  intro N
  induction N with
  | zero => intro x vk vi vr w h; have := nodes_pos x; omega
  | succ N ih =>
    intro x vk vi vr w hN hN1 hv
    have hkeys := hv.keys
    have hitems := hv.items
    have HV := Lib.hid hv
    have hne := nodes_eq x
    have Hde := Lib.hid hne
    have hkl := nodesL_len x.keys
    have hil := nodesL_len x.items
    have IH := Lib.hid ih
    obtain ⟨Ak, ck, rfl, hck⟩ := hkeys.form
    obtain ⟨Ai, ci, rfl, hci⟩ := hitems.form
    have hnk : nodesL x.keys ≤ N := by omega
    have hni : nodesL x.items ≤ N := by omega
    have hnt : nodesL x.keys + nodesL x.items + 1 ≤ 1000 := by omega
    clear hv ih hne
    go_enter Try.func22, Try.ntmps22
    go_wp2
    have HL := Has.made (w.alloc (.cells #[.int .i64 x.kind, .bool x.bool, .int .i64 x.num, .string ⟨x.str.toArray⟩, .int .i64 x.id, .slice Ak x.keys.length ck, .slice Ai x.items.length ci, vr] 28)) 25 #[.slice Ak x.keys.length ck, .slice Ai x.items.length ci]
    have h01 : Below w.heap.size w ((w.alloc (.cells #[.int .i64 x.kind, .bool x.bool, .int .i64 x.num, .string ⟨x.str.toArray⟩, .int .i64 x.id, .slice Ak x.keys.length ck, .slice Ai x.items.length ci, vr] 28)).alloc (.cells #[.slice Ak x.keys.length ck, .slice Ai x.items.length ci] 25)) := ((Below.refl w.heap.size w).alloc (Nat.le_refl _) _).alloc (by simp) _
    have hg1 : (w.alloc (.cells #[.int .i64 x.kind, .bool x.bool, .int .i64 x.num, .string ⟨x.str.toArray⟩, .int .i64 x.id, .slice Ak x.keys.length ck, .slice Ai x.items.length ci, vr] 28)).heap.size = w.heap.size + 1 := by simp
    rw [hg1] at HL
    clear hg1
    generalize (w.alloc (.cells #[.int .i64 x.kind, .bool x.bool, .int .i64 x.num, .string ⟨x.str.toArray⟩, .int .i64 x.id, .slice Ak x.keys.length ck, .slice Ai x.items.length ci, vr] 28)).alloc (.cells #[.slice Ak x.keys.length ck, .slice Ai x.items.length ci] 25) = w1 at *
    have HK := Lib.hid (hkeys.on h01)
    have HI := Lib.hid (hitems.on h01)
    have hz1 := HL.here
    have HL := Lib.hid HL
    clear hkeys hitems
    go_loopw [3, 14] (fun m i wr => ∃ j m0 : Nat, i = .int .i64 j ∧ m = .int .i64 m0 ∧ ((j = 0 ∧ m0 = 1) ∨ (j = 1 ∧ m0 = nodesL x.keys + 1) ∨ (j = 2 ∧ m0 = nodesL x.keys + nodesL x.items + 1)) ∧ Below w1.heap.size w1 wr) (fun _ i _ => 2 - (intOf i).toNat)
    case atStart => exact ⟨0, 1, rfl, rfl, .inl ⟨rfl, rfl⟩, Below.refl _ _⟩
    case round =>
      obtain ⟨j, m0, rfl, rfl, hjm, hb⟩ := hrel
      by_cases hj : j < 2
      · obtain ⟨l, vl, hcl, hRl, hnl, hm0, hnext⟩ : ∃ (l : List Val) (vl : Value), wr.cell? ⟨w.heap.size + 1, j, none⟩ = some vl ∧ RdVals wr wr.heap.size vl l ∧ nodesL l ≤ N ∧ m0 + nodesL l ≤ 1000 ∧
            ((j + 1 = 0 ∧ m0 + nodesL l = 1) ∨ (j + 1 = 1 ∧ m0 + nodesL l = nodesL x.keys + 1) ∨ (j + 1 = 2 ∧ m0 + nodesL l = nodesL x.keys + nodesL x.items + 1)) := by
          rcases hjm with ⟨rfl, rfl⟩ | ⟨rfl, rfl⟩ | ⟨rfl, rfl⟩
          · exact ⟨x.keys, _, (hb.cell (p := ⟨w.heap.size + 1, 0, none⟩) hz1).trans (HL.out.cell 0), HK.out.on hb, hnk, by omega, .inr (.inl ⟨rfl, by omega⟩)⟩
          · exact ⟨x.items, _, (hb.cell (p := ⟨w.heap.size + 1, 1, none⟩) hz1).trans (HL.out.cell 1), HI.out.on hb, hni, by omega, .inr (.inr ⟨rfl, by omega⟩)⟩
          · omega
        obtain ⟨Al, cl, rfl, hcl2⟩ := hRl.form
        have HRl := Lib.hid hRl
        have Hnext := Lib.hid hnext
        have hll := nodesL_len l
        have hj2 : (j : Int) < 2 := by omega
        clear hjm hRl hnext
        obtain ⟨wo, rfl⟩ : ∃ wo : World, wo = wr := ⟨_, rfl⟩
        go_wp2_with fail
        go_loopw [3, 20] (fun m i wr => ∃ i1 m1 : Nat, i = .int .i64 i1 ∧ i1 ≤ l.length ∧ m = .int .i64 m1 ∧ m1 = m0 + nodesL (l.take i1) ∧ nodesL (l.take i1) ≤ nodesL l ∧ Below wo.heap.size wo wr) (fun _ i _ => l.length - (intOf i).toNat)
        case atStart => exact ⟨0, m0, rfl, by omega, rfl, by simp [nodesL], by simp [nodesL], Below.refl _ _⟩
        case round =>
          obtain ⟨i1, m1, rfl, hi1, rfl, hm1, hm1k, hb1⟩ := hrel
          have Hm1 := Lib.hid hm1
          clear hm1
          by_cases hlt : i1 < l.length
          · have hR := HRl.out.on hb1
            obtain ⟨b, o, rfl, hbb, hel⟩ := hR.elem (by omega)
            obtain ⟨yk, yi, yr, hcells, hva⟩ := hel i1 hlt
            have htk := nodesL_take l i1 hlt
            have htle : nodesL (l.take (i1 + 1)) ≤ nodesL l := nodesL_take_le l _
            have hym : nodes l[i1] ≤ nodesL l := nodesL_mem l _ (List.getElem_mem hlt)
            generalize l[i1] = y at *
            obtain ⟨A1, n1, A2, n2, A3, n3, rfl, rfl, rfl, _, _, _⟩ := hva.forms
            obtain ⟨c0, c1, c2, c3, c4, c5, c6, c7⟩ := hcells
            have HA := Lib.hid (hva.on ((Below.refl wr.heap.size wr).alloc (Nat.le_refl _) (.cells #[.int .i64 y.kind, .bool y.bool, .int .i64 y.num, .string ⟨y.str.toArray⟩, .int .i64 y.id, .slice A1 y.keys.length n1, .slice A2 y.items.length n2, .slice A3 y.rest.length n3] 28)))
            have hm1b : m1 + nodes y ≤ 1000 := by have := Hm1.out; omega
            have Htle := Lib.hid htle
            have Htk := Lib.hid htk
            clear hel hva htk hR htle hm1k
            go_wp2_with fail
            refine (IH.out y _ _ _ _ (by omega) (by omega) HA.out).mono ?_
            rintro e w2 ⟨rfl, hb2⟩
            have hb02 := (hb1.alloc hb1.size _).trans (hb2.mono (hb1.alloc hb1.size _).size)
            clear hb2 hb1
            go_wp2_with fail
            go_roundw
            case rel => exact ⟨i1 + 1, m1 + nodes y, by go_num, by omega, by go_num, by rw [Htk.out, Hm1.out]; omega, Htle.out, hb02⟩
            case measure => simp [intOf]; omega
          · go_wp2_with fail
            go_roundw
            case rel =>
              refine ⟨j + 1, m1, by go_num, rfl, ?_, hb.trans (hb1.mono hb.size)⟩
              rw [Hm1.out, List.take_of_length_le (by omega)]
              exact Hnext.out
            case measure => simp [intOf]; omega
      · obtain ⟨rfl, rfl⟩ : j = 2 ∧ m0 = nodesL x.keys + nodesL x.items + 1 := by omega
        clear hjm
        go_wp2_with fail
        go_ret
        exact ⟨ret_int (by rw [Hde.out]), h01.trans (hb.mono h01.size)⟩

def foldD (m : Nat) (l : List Val) : Nat := max m (depthL l)
def foldN (m : Nat) (l : List Val) : Nat := m + nodesL l
def oneD (m : Nat) (x : Val) : Nat := max m (depth x)
def oneN (m : Nat) (x : Val) : Nat := m + nodes x
theorem foldD_nil (m : Nat) : foldD m [] = m := by simp [foldD, depthL]
theorem foldN_nil (m : Nat) : foldN m [] = m := by simp [foldN, nodesL]
theorem foldD_take (m : Nat) (l : List Val) (k : Nat) (h : k < l.length) : foldD m (l.take (k+1)) = oneD (foldD m (l.take k)) l[k] := by
  unfold foldD oneD; rw [depthL_take l k h]; omega
theorem foldN_take (m : Nat) (l : List Val) (k : Nat) (h : k < l.length) : foldN m (l.take (k+1)) = oneN (foldN m (l.take k)) l[k] := by
  unfold foldN oneN; rw [nodesL_take l k h]; omega
theorem depthL_take_le (l : List Val) (k : Nat) : depthL (l.take k) ≤ depthL l := by
  have h := depthL_app (l.take k) (l.drop k)
  rw [List.take_append_drop] at h
  omega
theorem foldD_le (m : Nat) (l : List Val) (k : Nat) : foldD m (l.take k) ≤ foldD m l := by
  have := depthL_take_le l k
  unfold foldD; omega
theorem foldN_le (m : Nat) (l : List Val) (k : Nat) : foldN m (l.take k) ≤ foldN m l := by
  have := nodesL_take_le l k
  unfold foldN; omega
theorem depth_fold (x : Val) : depth x = foldD (foldD 0 x.keys) x.items + 1 := by rw [depth_eq]; unfold foldD; omega
theorem nodes_fold (x : Val) : nodes x = foldN (foldN 1 x.keys) x.items + 0 := by rw [nodes_eq]; unfold foldN; omega

set_option maxRecDepth 100000 in
set_option maxHeartbeats 400000 in
theorem rdepth_any : ∀ (N : Nat) (x : Val) (vk vi vr : Value) (w : World), nodes x ≤ N → N ≤ 1000 → ValAt w w.heap.size x vk vi vr →
    Calls Try.prog 23 #[valA x vk vi vr] w fun e w' => e = .returned (.int .i64 (depth x : Nat)) ∧ Below w.heap.size w w' := by
  intro N
  induction N with
  | zero => intro x vk vi vr w h; have := nodes_pos x; omega
  | succ N ih =>
    intro x vk vi vr w hN hN1 hv
    have hkeys := hv.keys
    have hitems := hv.items
    have hne := nodes_eq x
    have hdn := depth_nodes x
    have hfo := depth_fold x
    have hf1 : foldD (foldD 0 x.keys) x.items ≤ 1000 ∧ foldN (foldN 1 x.keys) x.items ≤ 1000 := by
      have h1 := depth_fold x
      have h2 := nodes_fold x
      omega
    have hf2 : foldD 0 x.keys ≤ 1000 := by
      have h1 : foldD 0 x.keys ≤ foldD (foldD 0 x.keys) x.items := by unfold foldD; omega
      have h2 : foldN 1 x.keys ≤ foldN (foldN 1 x.keys) x.items := by unfold foldN; omega
      omega
    have hf3 : foldD (foldD 0 x.keys) x.items ≤ 1000 := by omega
    have Hfo := Lib.hid hfo
    have hkl := nodesL_len x.keys
    have hil := nodesL_len x.items
    have IH := Lib.hid ih
    obtain ⟨A1, n1, A2, n2, A3, n3, rfl, rfl, rfl, hn1, hn2, hn3⟩ := hv.forms
    have hnk : nodesL x.keys ≤ N := by omega
    have hni : nodesL x.items ≤ N := by omega
    clear hv ih hne hfo hdn hf1
    go_enter Try.func23, Try.ntmps23
    go_wp2
    have HL := Has.made w 28 #[.int .i64 x.kind, .bool x.bool, .int .i64 x.num, .string ⟨x.str.toArray⟩, .int .i64 x.id, .slice A1 x.keys.length n1, .slice A2 x.items.length n2, .slice A3 x.rest.length n3]
    have h01 := (Below.refl w.heap.size w).alloc (Nat.le_refl _) (.cells #[.int .i64 x.kind, .bool x.bool, .int .i64 x.num, .string ⟨x.str.toArray⟩, .int .i64 x.id, .slice A1 x.keys.length n1, .slice A2 x.items.length n2, .slice A3 x.rest.length n3] 28)
    generalize w.alloc (.cells #[.int .i64 x.kind, .bool x.bool, .int .i64 x.num, .string ⟨x.str.toArray⟩, .int .i64 x.id, .slice A1 x.keys.length n1, .slice A2 x.items.length n2, .slice A3 x.rest.length n3] 28) = w1 at *
    have HK := Lib.hid (hkeys.on h01)
    have HI := Lib.hid (hitems.on h01)
    have hz1 := HL.here
    have HL := Lib.hid HL
    clear hkeys hitems
    go_loopw [3, 4] (fun m i wr => ∃ i1 m1 : Nat, i = .int .i64 i1 ∧ i1 ≤ x.keys.length ∧ m = .int .i64 m1 ∧ m1 = foldD 0 (x.keys.take i1) ∧ m1 ≤ 1000 ∧ Below w1.heap.size w1 wr) (fun _ i _ => x.keys.length - (intOf i).toNat)
    case atStart => exact ⟨0, 0, rfl, by omega, rfl, by rw [List.take_zero, foldD_nil], by omega, Below.refl _ _⟩
    case round =>
      obtain ⟨i1, m1, rfl, hi1, rfl, hm1, hm1k, hb1⟩ := hrel
      have Hm1 := Lib.hid hm1
      clear hm1
      have c5 := (hb1.cell (p := ⟨w.heap.size, 5, none⟩) hz1).trans (HL.out.cell 5)
      simp only [List.getElem?_toArray, List.getElem?_cons_succ, List.getElem?_cons_zero] at c5
      by_cases hlt : i1 < x.keys.length
      · have hR := HK.out.on hb1
        obtain ⟨b, o, rfl, hbb, hel⟩ := hR.elem (by omega)
        obtain ⟨yk, yi, yr, hcells, hva⟩ := hel i1 hlt
        have htk := foldD_take 0 x.keys i1 hlt
        have htl := foldD_le 0 x.keys (i1 + 1)
        rw [htk] at htl
        have hym : nodes x.keys[i1] ≤ nodesL x.keys := nodesL_mem x.keys _ (List.getElem_mem hlt)
        rw [← Hm1.out] at htl htk
        generalize x.keys[i1] = y at *
        obtain ⟨B1, k1, B2, k2, B3, k3, rfl, rfl, rfl, _, _, _⟩ := hva.forms
        obtain ⟨c0, c1, c2, c3, c4, c5', c6, c7⟩ := hcells
        have hdy := depth_nodes y
        have HA := Lib.hid hva
        have Htk := Lib.hid htk
        have hone : oneD m1 y ≤ 1000 := by omega
        have Hone : Hid (oneD m1 y = max m1 (depth y) ) := by show _ = _; rfl
        rw [Hone.out] at hone
        clear hel hva htk hR htl
        go_wp2_with fail
        refine (IH.out y _ _ _ _ (by omega) (by omega) HA.out).mono ?_
        rintro e w2 ⟨rfl, hb2⟩
        have hb02 := hb1.trans (hb2.mono hb1.size)
        clear hb2 hb1
        go_wp2_with fail
        go_roundw
        case rel => exact ⟨i1 + 1, oneD m1 y, by go_num, by omega, by rw [Hone.out]; go_num, by rw [Htk.out], by rw [Hone.out]; exact hone, hb02⟩
        case measure => simp [intOf]; omega
      · have hm2 := Hm1.out
        rw [List.take_of_length_le (by omega)] at hm2
        have Hm2 := Lib.hid hm2
        clear hm2 Hm1
        have h02 := h01.trans (hb1.mono h01.size)
        have HI2 := Lib.hid (HI.out.on hb1)
        have HL2 := Lib.hid (HL.out.below hb1 hz1)
        have hz2 : w.heap.size < wr.heap.size := Nat.lt_of_lt_of_le hz1 hb1.size
        obtain ⟨wo, rfl⟩ : ∃ wo : World, wo = wr := ⟨_, rfl⟩
        clear hb1
        go_wp2_with fail
        clear c5
        go_loopw [3, 5] (fun m i wr => ∃ i2 m2 : Nat, i = .int .i64 i2 ∧ i2 ≤ x.items.length ∧ m = .int .i64 m2 ∧ m2 = foldD m1 (x.items.take i2) ∧ m2 ≤ 1000 ∧ Below wo.heap.size wo wr) (fun _ i _ => x.items.length - (intOf i).toNat)
        case atStart => exact ⟨0, m1, rfl, by omega, rfl, by rw [List.take_zero, foldD_nil], hm1k, Below.refl _ _⟩
        case round =>
          obtain ⟨i2, m2, rfl, hi2, rfl, hm2, hm2k, hb2⟩ := hrel
          have Hm3 := Lib.hid hm2
          clear hm2
          have c6 := (hb2.cell (p := ⟨w.heap.size, 6, none⟩) hz2).trans (HL2.out.cell 6)
          simp only [List.getElem?_toArray, List.getElem?_cons_succ, List.getElem?_cons_zero] at c6
          by_cases hlt2 : i2 < x.items.length
          · have hR := HI2.out.on hb2
            obtain ⟨b, o, rfl, hbb, hel⟩ := hR.elem (by omega)
            obtain ⟨yk, yi, yr, hcells, hva⟩ := hel i2 hlt2
            have htk := foldD_take m1 x.items i2 hlt2
            have htl := foldD_le m1 x.items (i2 + 1)
            rw [htk] at htl
            have hym : nodes x.items[i2] ≤ nodesL x.items := nodesL_mem x.items _ (List.getElem_mem hlt2)
            rw [← Hm3.out] at htl htk
            rw [← Hm2.out] at hf3
            generalize x.items[i2] = y at *
            obtain ⟨B1, k1, B2, k2, B3, k3, rfl, rfl, rfl, _, _, _⟩ := hva.forms
            obtain ⟨c0, c1, c2, c3, c4, c5', c6', c7⟩ := hcells
            have hdy := depth_nodes y
            have HA := Lib.hid hva
            have Htk := Lib.hid htk
            have hone : oneD m2 y ≤ 1000 := by omega
            have Hone : Hid (oneD m2 y = max m2 (depth y) ) := by show _ = _; rfl
            rw [Hone.out] at hone
            clear hel hva htk hR htl
            go_wp2_with fail
            refine (IH.out y _ _ _ _ (by omega) (by omega) HA.out).mono ?_
            rintro e w2 ⟨rfl, hb3⟩
            have hb02 := hb2.trans (hb3.mono hb2.size)
            clear hb2 hb3
            go_wp2_with fail
            go_roundw
            case rel => exact ⟨i2 + 1, oneD m2 y, by go_num, by omega, by rw [Hone.out]; go_num, by rw [Htk.out], by rw [Hone.out]; exact hone, hb02⟩
            case measure => simp [intOf]; omega
          · have hm4 := Hm3.out
            rw [List.take_of_length_le (by omega), Hm2.out] at hm4
            have Hm4 := Lib.hid hm4
            clear hm4
            go_wp2_with fail
            go_ret
            exact ⟨ret_int (by rw [Hfo.out, ← Hm4.out]; go_num), h02.trans (hb2.mono h02.size)⟩
set_option maxRecDepth 100000 in
set_option maxHeartbeats 400000 in
theorem rnodes_any : ∀ (N : Nat) (x : Val) (vk vi vr : Value) (w : World), nodes x ≤ N → N ≤ 1000 → ValAt w w.heap.size x vk vi vr →
    Calls Try.prog 24 #[valA x vk vi vr] w fun e w' => e = .returned (.int .i64 (nodes x : Nat)) ∧ Below w.heap.size w w' := by
  intro N
  induction N with
  | zero => intro x vk vi vr w h; have := nodes_pos x; omega
  | succ N ih =>
    intro x vk vi vr w hN hN1 hv
    have hkeys := hv.keys
    have hitems := hv.items
    have hne := nodes_eq x
    have hdn := depth_nodes x
    have hfo := nodes_fold x
    have hf1 : foldD (foldD 0 x.keys) x.items ≤ 1000 ∧ foldN (foldN 1 x.keys) x.items ≤ 1000 := by
      have h1 := depth_fold x
      have h2 := nodes_fold x
      omega
    have hf2 : foldN 1 x.keys ≤ 1000 := by
      have h1 : foldD 0 x.keys ≤ foldD (foldD 0 x.keys) x.items := by unfold foldD; omega
      have h2 : foldN 1 x.keys ≤ foldN (foldN 1 x.keys) x.items := by unfold foldN; omega
      omega
    have hf3 : foldN (foldN 1 x.keys) x.items ≤ 1000 := by omega
    have Hfo := Lib.hid hfo
    have hkl := nodesL_len x.keys
    have hil := nodesL_len x.items
    have IH := Lib.hid ih
    obtain ⟨A1, n1, A2, n2, A3, n3, rfl, rfl, rfl, hn1, hn2, hn3⟩ := hv.forms
    have hnk : nodesL x.keys ≤ N := by omega
    have hni : nodesL x.items ≤ N := by omega
    clear hv ih hne hfo hdn hf1
    go_enter Try.func24, Try.ntmps24
    go_wp2
    have HL := Has.made w 28 #[.int .i64 x.kind, .bool x.bool, .int .i64 x.num, .string ⟨x.str.toArray⟩, .int .i64 x.id, .slice A1 x.keys.length n1, .slice A2 x.items.length n2, .slice A3 x.rest.length n3]
    have h01 := (Below.refl w.heap.size w).alloc (Nat.le_refl _) (.cells #[.int .i64 x.kind, .bool x.bool, .int .i64 x.num, .string ⟨x.str.toArray⟩, .int .i64 x.id, .slice A1 x.keys.length n1, .slice A2 x.items.length n2, .slice A3 x.rest.length n3] 28)
    generalize w.alloc (.cells #[.int .i64 x.kind, .bool x.bool, .int .i64 x.num, .string ⟨x.str.toArray⟩, .int .i64 x.id, .slice A1 x.keys.length n1, .slice A2 x.items.length n2, .slice A3 x.rest.length n3] 28) = w1 at *
    have HK := Lib.hid (hkeys.on h01)
    have HI := Lib.hid (hitems.on h01)
    have hz1 := HL.here
    have HL := Lib.hid HL
    clear hkeys hitems
    go_loopw [3, 4] (fun m i wr => ∃ i1 m1 : Nat, i = .int .i64 i1 ∧ i1 ≤ x.keys.length ∧ m = .int .i64 m1 ∧ m1 = foldN 1 (x.keys.take i1) ∧ m1 ≤ 1000 ∧ Below w1.heap.size w1 wr) (fun _ i _ => x.keys.length - (intOf i).toNat)
    case atStart => exact ⟨0, 1, rfl, by omega, rfl, by rw [List.take_zero, foldN_nil], by omega, Below.refl _ _⟩
    case round =>
      obtain ⟨i1, m1, rfl, hi1, rfl, hm1, hm1k, hb1⟩ := hrel
      have Hm1 := Lib.hid hm1
      clear hm1
      have c5 := (hb1.cell (p := ⟨w.heap.size, 5, none⟩) hz1).trans (HL.out.cell 5)
      simp only [List.getElem?_toArray, List.getElem?_cons_succ, List.getElem?_cons_zero] at c5
      by_cases hlt : i1 < x.keys.length
      · have hR := HK.out.on hb1
        obtain ⟨b, o, rfl, hbb, hel⟩ := hR.elem (by omega)
        obtain ⟨yk, yi, yr, hcells, hva⟩ := hel i1 hlt
        have htk := foldN_take 1 x.keys i1 hlt
        have htl := foldN_le 1 x.keys (i1 + 1)
        rw [htk] at htl
        have hym : nodes x.keys[i1] ≤ nodesL x.keys := nodesL_mem x.keys _ (List.getElem_mem hlt)
        rw [← Hm1.out] at htl htk
        generalize x.keys[i1] = y at *
        obtain ⟨B1, k1, B2, k2, B3, k3, rfl, rfl, rfl, _, _, _⟩ := hva.forms
        obtain ⟨c0, c1, c2, c3, c4, c5', c6, c7⟩ := hcells
        have hdy := depth_nodes y
        have HA := Lib.hid hva
        have Htk := Lib.hid htk
        have hone : oneN m1 y ≤ 1000 := by omega
        have Hone : Hid (oneN m1 y = m1 + nodes y ) := by show _ = _; rfl
        rw [Hone.out] at hone
        clear hel hva htk hR htl
        go_wp2_with fail
        refine (IH.out y _ _ _ _ (by omega) (by omega) HA.out).mono ?_
        rintro e w2 ⟨rfl, hb2⟩
        have hb02 := hb1.trans (hb2.mono hb1.size)
        clear hb2 hb1
        go_wp2_with fail
        go_roundw
        case rel => exact ⟨i1 + 1, oneN m1 y, by go_num, by omega, by rw [Hone.out]; go_num, by rw [Htk.out], by rw [Hone.out]; exact hone, hb02⟩
        case measure => simp [intOf]; omega
      · have hm2 := Hm1.out
        rw [List.take_of_length_le (by omega)] at hm2
        have Hm2 := Lib.hid hm2
        clear hm2 Hm1
        have h02 := h01.trans (hb1.mono h01.size)
        have HI2 := Lib.hid (HI.out.on hb1)
        have HL2 := Lib.hid (HL.out.below hb1 hz1)
        have hz2 : w.heap.size < wr.heap.size := Nat.lt_of_lt_of_le hz1 hb1.size
        obtain ⟨wo, rfl⟩ : ∃ wo : World, wo = wr := ⟨_, rfl⟩
        clear hb1
        go_wp2_with fail
        clear c5
        go_loopw [3, 5] (fun m i wr => ∃ i2 m2 : Nat, i = .int .i64 i2 ∧ i2 ≤ x.items.length ∧ m = .int .i64 m2 ∧ m2 = foldN m1 (x.items.take i2) ∧ m2 ≤ 1000 ∧ Below wo.heap.size wo wr) (fun _ i _ => x.items.length - (intOf i).toNat)
        case atStart => exact ⟨0, m1, rfl, by omega, rfl, by rw [List.take_zero, foldN_nil], hm1k, Below.refl _ _⟩
        case round =>
          obtain ⟨i2, m2, rfl, hi2, rfl, hm2, hm2k, hb2⟩ := hrel
          have Hm3 := Lib.hid hm2
          clear hm2
          have c6 := (hb2.cell (p := ⟨w.heap.size, 6, none⟩) hz2).trans (HL2.out.cell 6)
          simp only [List.getElem?_toArray, List.getElem?_cons_succ, List.getElem?_cons_zero] at c6
          by_cases hlt2 : i2 < x.items.length
          · have hR := HI2.out.on hb2
            obtain ⟨b, o, rfl, hbb, hel⟩ := hR.elem (by omega)
            obtain ⟨yk, yi, yr, hcells, hva⟩ := hel i2 hlt2
            have htk := foldN_take m1 x.items i2 hlt2
            have htl := foldN_le m1 x.items (i2 + 1)
            rw [htk] at htl
            have hym : nodes x.items[i2] ≤ nodesL x.items := nodesL_mem x.items _ (List.getElem_mem hlt2)
            rw [← Hm3.out] at htl htk
            rw [← Hm2.out] at hf3
            generalize x.items[i2] = y at *
            obtain ⟨B1, k1, B2, k2, B3, k3, rfl, rfl, rfl, _, _, _⟩ := hva.forms
            obtain ⟨c0, c1, c2, c3, c4, c5', c6', c7⟩ := hcells
            have hdy := depth_nodes y
            have HA := Lib.hid hva
            have Htk := Lib.hid htk
            have hone : oneN m2 y ≤ 1000 := by omega
            have Hone : Hid (oneN m2 y = m2 + nodes y ) := by show _ = _; rfl
            rw [Hone.out] at hone
            clear hel hva htk hR htl
            go_wp2_with fail
            refine (IH.out y _ _ _ _ (by omega) (by omega) HA.out).mono ?_
            rintro e w2 ⟨rfl, hb3⟩
            have hb02 := hb2.trans (hb3.mono hb2.size)
            clear hb2 hb3
            go_wp2_with fail
            go_roundw
            case rel => exact ⟨i2 + 1, oneN m2 y, by go_num, by omega, by rw [Hone.out]; go_num, by rw [Htk.out], by rw [Hone.out]; exact hone, hb02⟩
            case measure => simp [intOf]; omega
          · have hm4 := Hm3.out
            rw [List.take_of_length_le (by omega), Hm2.out] at hm4
            have Hm4 := Lib.hid hm4
            clear hm4
            go_wp2_with fail
            go_ret
            exact ⟨ret_int (by rw [Hfo.out, ← Hm4.out]; go_num), h02.trans (hb2.mono h02.size)⟩
end Go.Proofs.Ytjcoeolconelmaa

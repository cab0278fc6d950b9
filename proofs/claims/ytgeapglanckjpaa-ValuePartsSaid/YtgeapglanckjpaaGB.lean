/- What Depth, Nodes and their references compute. What size and Small compute. What Compare and its reference compute. No condition. -/
import Derived.Test.YtgeapglanckjpaaGA
set_option maxHeartbeats 1600000
namespace Go.Proofs.Ytgeapglanckjpaa
open Go.ChangeShapes Go.WideShapes Go.ChangeAt Go.RowKit
abbrev valA (x : Val) (vk vi vr : Value) : Value := .agg #[.int .i64 x.kind, .bool x.bool, .int .i64 x.num, .string ⟨x.str.toArray⟩, .int .i64 x.id, vk, vi, vr]
theorem depth_eq (x : Val) : depth x = max (depthL x.keys) (depthL x.items) + 1 := by cases x; rw [depth]; rfl
theorem nodes_eq (x : Val) : nodes x = nodesL x.keys + nodesL x.items + 1 := by cases x; rw [nodes]; rfl
set_option maxRecDepth 100000 in
theorem vdepth_any : ∀ (N : Nat) (x : Val) (vk vi vr : Value) (w : World), nodes x ≤ N → N ≤ 1000 → ValAt w w.heap.size x vk vi vr →
  Calls Try.prog 21 #[valA x vk vi vr] w fun e w' => e = .returned (.int .i64 (depth x : Nat)) ∧ Below w.heap.size w w' := by
 intro N
 induction N with
 | zero => intro x vk vi vr w h; have := nodes_pos x; omega
 | succ N ih =>
  intro x vk vi vr w hN hN1 hv
  have hkeys := hv.keys
  have hitems := hv.items
  have HV := Lib.hid hv
  have hne := nodes_eq x
  have Hde := Lib.hid (depth_eq x)
  have hdk := depthL_nodes x.keys
  have hdi := depthL_nodes x.items
  have hkl := nodesL_len x.keys
  have hil := nodesL_len x.items
  have IH := Lib.hid ih
  obtain ⟨Ak, ck, rfl, hck⟩ := hkeys.form
  obtain ⟨Ai, ci, rfl, hci⟩ := hitems.form
  have hnk : nodesL x.keys ≤ N := by omega
  have hni : nodesL x.items ≤ N := by omega
  clear hv ih hne
  go_enter Try.func21, Try.ntmps21
  go_wp2
  have HL := Has.made (w.alloc (.cells #[.int .i64 x.kind, .bool x.bool, .int .i64 x.num, .string ⟨x.str.toArray⟩, .int .i64 x.id, .slice Ak x.keys.length ck, .slice Ai x.items.length ci, vr] 34)) 31 #[.slice Ak x.keys.length ck, .slice Ai x.items.length ci]
  have h01 : Below w.heap.size w ((w.alloc (.cells #[.int .i64 x.kind, .bool x.bool, .int .i64 x.num, .string ⟨x.str.toArray⟩, .int .i64 x.id, .slice Ak x.keys.length ck, .slice Ai x.items.length ci, vr] 34)).alloc (.cells #[.slice Ak x.keys.length ck, .slice Ai x.items.length ci] 31)) := ((Below.refl w.heap.size w).alloc (Nat.le_refl _) _).alloc (by simp) _
  have hg1 : (w.alloc (.cells #[.int .i64 x.kind, .bool x.bool, .int .i64 x.num, .string ⟨x.str.toArray⟩, .int .i64 x.id, .slice Ak x.keys.length ck, .slice Ai x.items.length ci, vr] 34)).heap.size = w.heap.size + 1 := by simp
  rw [hg1] at HL
  clear hg1
  generalize (w.alloc (.cells #[.int .i64 x.kind, .bool x.bool, .int .i64 x.num, .string ⟨x.str.toArray⟩, .int .i64 x.id, .slice Ak x.keys.length ck, .slice Ai x.items.length ci, vr] 34)).alloc (.cells #[.slice Ak x.keys.length ck, .slice Ai x.items.length ci] 31) = w1 at *
  have HK := Lib.hid (hkeys.on h01)
  have HI := Lib.hid (hitems.on h01)
  have hz1 := HL.here
  have HL := Lib.hid HL
  clear hkeys hitems
  go_loopw [3, 14] (fun m i wr => ∃ j m0 : Nat, i = .int .i64 j ∧ m = .int .i64 m0 ∧ ((j = 0 ∧ m0 = 0) ∨ (j = 1 ∧ m0 = depthL x.keys) ∨ (j = 2 ∧ m0 = max (depthL x.keys) (depthL x.items))) ∧ Below w1.heap.size w1 wr) (fun _ i _ => 2 - (intOf i).toNat)
  case atStart => exact ⟨0, 0, rfl, rfl, .inl ⟨rfl, rfl⟩, Below.refl _ _⟩
  case round =>
   obtain ⟨j, m0, rfl, rfl, hjm, hb⟩ := hrel
   by_cases hj : j < 2
   ·
    obtain ⟨l, vl, hcl, hRl, hnl, hm0, hnext⟩ : ∃ (l : List Val) (vl : Value), wr.cell? ⟨w.heap.size + 1, j, none⟩ = some vl ∧ RdVals wr wr.heap.size vl l ∧ nodesL l ≤ N ∧ m0 ≤ 1000 ∧
      ((j + 1 = 0 ∧ max m0 (depthL l) = 0) ∨ (j + 1 = 1 ∧ max m0 (depthL l) = depthL x.keys) ∨ (j + 1 = 2 ∧ max m0 (depthL l) = max (depthL x.keys) (depthL x.items))) := by
     rcases hjm with ⟨rfl, rfl⟩ | ⟨rfl, rfl⟩ | ⟨rfl, rfl⟩
     ·
      exact ⟨x.keys, _, (hb.cell (p := ⟨w.heap.size + 1, 0, none⟩) hz1).trans (HL.out.cell 0), HK.out.on hb, hnk, by omega, .inr (.inl ⟨rfl, by simp⟩)⟩
     ·
      exact ⟨x.items, _, (hb.cell (p := ⟨w.heap.size + 1, 1, none⟩) hz1).trans (HL.out.cell 1), HI.out.on hb, hni, by omega, .inr (.inr ⟨rfl, rfl⟩)⟩
     omega
    obtain ⟨Al, cl, rfl, hcl2⟩ := hRl.form
    have HRl := Lib.hid hRl
    have Hnext := Lib.hid hnext
    have hll := nodesL_len l
    have hdl := depthL_nodes l
    have hj2 : (j : Int) < 2 := by omega
    clear hjm hRl hnext
    obtain ⟨wo, rfl⟩ : ∃ wo : World, wo = wr := ⟨_, rfl⟩
    go_wp2_with fail
    go_loopw [3, 20] (fun m i wr => ∃ i1 m1 : Nat, i = .int .i64 i1 ∧ i1 ≤ l.length ∧ m = .int .i64 m1 ∧ m1 = max m0 (depthL (l.take i1)) ∧ m1 ≤ 1000 ∧ Below wo.heap.size wo wr) (fun _ i _ => l.length - (intOf i).toNat)
    case atStart => exact ⟨0, m0, rfl, by omega, rfl, by simp [depthL], hm0, Below.refl _ _⟩
    case round =>
     obtain ⟨i1, m1, rfl, hi1, rfl, hm1, hm1k, hb1⟩ := hrel
     have Hm1 := Lib.hid hm1
     clear hm1
     by_cases hlt : i1 < l.length
     ·
      have hR := HRl.out.on hb1
      obtain ⟨b, o, rfl, hbb, hel⟩ := hR.elem (by omega)
      obtain ⟨yk, yi, yr, hcells, hva⟩ := hel i1 hlt
      have htk := depthL_take l i1 hlt
      have hym : nodes l[i1] ≤ nodesL l := nodesL_mem l _ (List.getElem_mem hlt)
      generalize l[i1] = y at *
      obtain ⟨A1, n1, A2, n2, A3, n3, rfl, rfl, rfl, _, _, _⟩ := hva.forms
      obtain ⟨c0, c1, c2, c3, c4, c5, c6, c7⟩ := hcells
      have hdy := depth_nodes y
      have HA := Lib.hid (hva.on ((Below.refl wr.heap.size wr).alloc (Nat.le_refl _) (.cells #[.int .i64 y.kind, .bool y.bool, .int .i64 y.num, .string ⟨y.str.toArray⟩, .int .i64 y.id, .slice A1 y.keys.length n1, .slice A2 y.items.length n2, .slice A3 y.rest.length n3] 34)))
      have Htk := Lib.hid htk
      clear hel hva htk hR
      go_wp2_with fail
      refine (IH.out y _ _ _ _ (by omega) (by omega) HA.out).mono ?_
      rintro e w2 ⟨rfl, hb2⟩
      have hb02 := (hb1.alloc hb1.size _).trans (hb2.mono (hb1.alloc hb1.size _).size)
      clear hb2 hb1
      go_wp2_with fail
      go_roundw
      case rel => exact ⟨i1 + 1, max m1 (depth y), by go_num, by omega, by go_num, by rw [Htk.out, Hm1.out]; omega, by omega, hb02⟩
      case measure => simp [intOf]; omega
     go_wp2_with fail
     go_roundw
     case rel =>
      refine ⟨j + 1, m1, by go_num, rfl, ?_, hb.trans (hb1.mono hb.size)⟩
      rw [Hm1.out, List.take_of_length_le (by omega)]
      exact Hnext.out
     case measure => simp [intOf]; omega
   obtain ⟨rfl, rfl⟩ : j = 2 ∧ m0 = max (depthL x.keys) (depthL x.items) := by omega
   clear hjm
   go_wp2_with fail
   go_ret
   exact ⟨ret_int (by rw [Hde.out]; go_num), h01.trans (hb.mono h01.size)⟩
set_option maxRecDepth 100000 in
theorem vnodes_any : ∀ (N : Nat) (x : Val) (vk vi vr : Value) (w : World), nodes x ≤ N → N ≤ 1000 → ValAt w w.heap.size x vk vi vr →
  Calls Try.prog 22 #[valA x vk vi vr] w fun e w' => e = .returned (.int .i64 (nodes x : Nat)) ∧ Below w.heap.size w w' := by
 intro N
 induction N with
 | zero => intro x vk vi vr w h; have := nodes_pos x; omega
 | succ N ih =>
  intro x vk vi vr w hN hN1 hv
  have hkeys := hv.keys
  have hitems := hv.items
  have HV := Lib.hid hv
  have hne := nodes_eq x
  have Hde := Lib.hid hne
  have hkl := nodesL_len x.keys
  have hil := nodesL_len x.items
  have IH := Lib.hid ih
  obtain ⟨Ak, ck, rfl, hck⟩ := hkeys.form
  obtain ⟨Ai, ci, rfl, hci⟩ := hitems.form
  have hnk : nodesL x.keys ≤ N := by omega
  have hni : nodesL x.items ≤ N := by omega
  have hnt : nodesL x.keys + nodesL x.items + 1 ≤ 1000 := by omega
  clear hv ih hne
  go_enter Try.func22, Try.ntmps22
  go_wp2
  have HL := Has.made (w.alloc (.cells #[.int .i64 x.kind, .bool x.bool, .int .i64 x.num, .string ⟨x.str.toArray⟩, .int .i64 x.id, .slice Ak x.keys.length ck, .slice Ai x.items.length ci, vr] 34)) 31 #[.slice Ak x.keys.length ck, .slice Ai x.items.length ci]
  have h01 : Below w.heap.size w ((w.alloc (.cells #[.int .i64 x.kind, .bool x.bool, .int .i64 x.num, .string ⟨x.str.toArray⟩, .int .i64 x.id, .slice Ak x.keys.length ck, .slice Ai x.items.length ci, vr] 34)).alloc (.cells #[.slice Ak x.keys.length ck, .slice Ai x.items.length ci] 31)) := ((Below.refl w.heap.size w).alloc (Nat.le_refl _) _).alloc (by simp) _
  have hg1 : (w.alloc (.cells #[.int .i64 x.kind, .bool x.bool, .int .i64 x.num, .string ⟨x.str.toArray⟩, .int .i64 x.id, .slice Ak x.keys.length ck, .slice Ai x.items.length ci, vr] 34)).heap.size = w.heap.size + 1 := by simp
  rw [hg1] at HL
  clear hg1
  generalize (w.alloc (.cells #[.int .i64 x.kind, .bool x.bool, .int .i64 x.num, .string ⟨x.str.toArray⟩, .int .i64 x.id, .slice Ak x.keys.length ck, .slice Ai x.items.length ci, vr] 34)).alloc (.cells #[.slice Ak x.keys.length ck, .slice Ai x.items.length ci] 31) = w1 at *
  have HK := Lib.hid (hkeys.on h01)
  have HI := Lib.hid (hitems.on h01)
  have hz1 := HL.here
  have HL := Lib.hid HL
  clear hkeys hitems
  go_loopw [3, 14] (fun m i wr => ∃ j m0 : Nat, i = .int .i64 j ∧ m = .int .i64 m0 ∧ ((j = 0 ∧ m0 = 1) ∨ (j = 1 ∧ m0 = nodesL x.keys + 1) ∨ (j = 2 ∧ m0 = nodesL x.keys + nodesL x.items + 1)) ∧ Below w1.heap.size w1 wr) (fun _ i _ => 2 - (intOf i).toNat)
  case atStart => exact ⟨0, 1, rfl, rfl, .inl ⟨rfl, rfl⟩, Below.refl _ _⟩
  case round =>
   obtain ⟨j, m0, rfl, rfl, hjm, hb⟩ := hrel
   by_cases hj : j < 2
   ·
    obtain ⟨l, vl, hcl, hRl, hnl, hm0, hnext⟩ : ∃ (l : List Val) (vl : Value), wr.cell? ⟨w.heap.size + 1, j, none⟩ = some vl ∧ RdVals wr wr.heap.size vl l ∧ nodesL l ≤ N ∧ m0 + nodesL l ≤ 1000 ∧
      ((j + 1 = 0 ∧ m0 + nodesL l = 1) ∨ (j + 1 = 1 ∧ m0 + nodesL l = nodesL x.keys + 1) ∨ (j + 1 = 2 ∧ m0 + nodesL l = nodesL x.keys + nodesL x.items + 1)) := by
     rcases hjm with ⟨rfl, rfl⟩ | ⟨rfl, rfl⟩ | ⟨rfl, rfl⟩
     ·
      exact ⟨x.keys, _, (hb.cell (p := ⟨w.heap.size + 1, 0, none⟩) hz1).trans (HL.out.cell 0), HK.out.on hb, hnk, by omega, .inr (.inl ⟨rfl, by omega⟩)⟩
     ·
      exact ⟨x.items, _, (hb.cell (p := ⟨w.heap.size + 1, 1, none⟩) hz1).trans (HL.out.cell 1), HI.out.on hb, hni, by omega, .inr (.inr ⟨rfl, by omega⟩)⟩
     omega
    obtain ⟨Al, cl, rfl, hcl2⟩ := hRl.form
    have HRl := Lib.hid hRl
    have Hnext := Lib.hid hnext
    have hll := nodesL_len l
    have hj2 : (j : Int) < 2 := by omega
    clear hjm hRl hnext
    obtain ⟨wo, rfl⟩ : ∃ wo : World, wo = wr := ⟨_, rfl⟩
    go_wp2_with fail
    go_loopw [3, 20] (fun m i wr => ∃ i1 m1 : Nat, i = .int .i64 i1 ∧ i1 ≤ l.length ∧ m = .int .i64 m1 ∧ m1 = m0 + nodesL (l.take i1) ∧ nodesL (l.take i1) ≤ nodesL l ∧ Below wo.heap.size wo wr) (fun _ i _ => l.length - (intOf i).toNat)
    case atStart => exact ⟨0, m0, rfl, by omega, rfl, by simp [nodesL], by simp [nodesL], Below.refl _ _⟩
    case round =>
     obtain ⟨i1, m1, rfl, hi1, rfl, hm1, hm1k, hb1⟩ := hrel
     have Hm1 := Lib.hid hm1
     clear hm1
     by_cases hlt : i1 < l.length
     ·
      have hR := HRl.out.on hb1
      obtain ⟨b, o, rfl, hbb, hel⟩ := hR.elem (by omega)
      obtain ⟨yk, yi, yr, hcells, hva⟩ := hel i1 hlt
      have htk := nodesL_take l i1 hlt
      have htle : nodesL (l.take (i1 + 1)) ≤ nodesL l := nodesL_take_le l _
      have hym : nodes l[i1] ≤ nodesL l := nodesL_mem l _ (List.getElem_mem hlt)
      generalize l[i1] = y at *
      obtain ⟨A1, n1, A2, n2, A3, n3, rfl, rfl, rfl, _, _, _⟩ := hva.forms
      obtain ⟨c0, c1, c2, c3, c4, c5, c6, c7⟩ := hcells
      have HA := Lib.hid (hva.on ((Below.refl wr.heap.size wr).alloc (Nat.le_refl _) (.cells #[.int .i64 y.kind, .bool y.bool, .int .i64 y.num, .string ⟨y.str.toArray⟩, .int .i64 y.id, .slice A1 y.keys.length n1, .slice A2 y.items.length n2, .slice A3 y.rest.length n3] 34)))
      have hm1b : m1 + nodes y ≤ 1000 := by have := Hm1.out; omega
      have Htle := Lib.hid htle
      have Htk := Lib.hid htk
      clear hel hva htk hR htle hm1k
      go_wp2_with fail
      refine (IH.out y _ _ _ _ (by omega) (by omega) HA.out).mono ?_
      rintro e w2 ⟨rfl, hb2⟩
      have hb02 := (hb1.alloc hb1.size _).trans (hb2.mono (hb1.alloc hb1.size _).size)
      clear hb2 hb1
      go_wp2_with fail
      go_roundw
      case rel => exact ⟨i1 + 1, m1 + nodes y, by go_num, by omega, by go_num, by rw [Htk.out, Hm1.out]; omega, Htle.out, hb02⟩
      case measure => simp [intOf]; omega
     go_wp2_with fail
     go_roundw
     case rel =>
      refine ⟨j + 1, m1, by go_num, rfl, ?_, hb.trans (hb1.mono hb.size)⟩
      rw [Hm1.out, List.take_of_length_le (by omega)]
      exact Hnext.out
     case measure => simp [intOf]; omega
   obtain ⟨rfl, rfl⟩ : j = 2 ∧ m0 = nodesL x.keys + nodesL x.items + 1 := by omega
   clear hjm
   go_wp2_with fail
   go_ret
   exact ⟨ret_int (by rw [Hde.out]), h01.trans (hb.mono h01.size)⟩
def foldD (m : Nat) (l : List Val) : Nat := max m (depthL l)
def foldN (m : Nat) (l : List Val) : Nat := m + nodesL l
def oneN (m : Nat) (x : Val) : Nat := m + nodes x
theorem foldN_nil (m : Nat) : foldN m [] = m := by simp [foldN, nodesL]
theorem foldN_take (m : Nat) (l : List Val) (k : Nat) (h : k < l.length) : foldN m (l.take (k+1)) = oneN (foldN m (l.take k)) l[k] := by
 unfold foldN oneN; rw [nodesL_take l k h]; omega
theorem foldN_le (m : Nat) (l : List Val) (k : Nat) : foldN m (l.take k) ≤ foldN m l := by
 have := nodesL_take_le l k
 unfold foldN; omega
theorem depth_fold (x : Val) : depth x = foldD (foldD 0 x.keys) x.items + 1 := by rw [depth_eq]; unfold foldD; omega
theorem nodes_fold (x : Val) : nodes x = foldN (foldN 1 x.keys) x.items + 0 := by rw [nodes_eq]; unfold foldN; omega
set_option maxRecDepth 100000 in
theorem rnodes_any : ∀ (N : Nat) (x : Val) (vk vi vr : Value) (w : World), nodes x ≤ N → N ≤ 1000 → ValAt w w.heap.size x vk vi vr →
  Calls Try.prog 11 #[valA x vk vi vr] w fun e w' => e = .returned (.int .i64 (nodes x : Nat)) ∧ Below w.heap.size w w' := by
 intro N
 induction N with
 | zero => intro x vk vi vr w h; have := nodes_pos x; omega
 | succ N ih =>
  intro x vk vi vr w hN hN1 hv
  have hkeys := hv.keys
  have hitems := hv.items
  have hne := nodes_eq x
  have hdn := depth_nodes x
  have hfo := nodes_fold x
  have hf1 : foldD (foldD 0 x.keys) x.items ≤ 1000 ∧ foldN (foldN 1 x.keys) x.items ≤ 1000 := by
   have h1 := depth_fold x
   have h2 := nodes_fold x
   omega
  have hf2 : foldN 1 x.keys ≤ 1000 := by
   have h1 : foldD 0 x.keys ≤ foldD (foldD 0 x.keys) x.items := by unfold foldD; omega
   have h2 : foldN 1 x.keys ≤ foldN (foldN 1 x.keys) x.items := by unfold foldN; omega
   omega
  have hf3 : foldN (foldN 1 x.keys) x.items ≤ 1000 := by omega
  have Hfo := Lib.hid hfo
  have hkl := nodesL_len x.keys
  have hil := nodesL_len x.items
  have IH := Lib.hid ih
  obtain ⟨A1, n1, A2, n2, A3, n3, rfl, rfl, rfl, hn1, hn2, hn3⟩ := hv.forms
  have hnk : nodesL x.keys ≤ N := by omega
  have hni : nodesL x.items ≤ N := by omega
  clear hv ih hne hfo hdn hf1
  go_enter Try.func11, Try.ntmps11
  go_wp2
  have HL := Has.made w 34 #[.int .i64 x.kind, .bool x.bool, .int .i64 x.num, .string ⟨x.str.toArray⟩, .int .i64 x.id, .slice A1 x.keys.length n1, .slice A2 x.items.length n2, .slice A3 x.rest.length n3]
  have h01 := (Below.refl w.heap.size w).alloc (Nat.le_refl _) (.cells #[.int .i64 x.kind, .bool x.bool, .int .i64 x.num, .string ⟨x.str.toArray⟩, .int .i64 x.id, .slice A1 x.keys.length n1, .slice A2 x.items.length n2, .slice A3 x.rest.length n3] 34)
  generalize w.alloc (.cells #[.int .i64 x.kind, .bool x.bool, .int .i64 x.num, .string ⟨x.str.toArray⟩, .int .i64 x.id, .slice A1 x.keys.length n1, .slice A2 x.items.length n2, .slice A3 x.rest.length n3] 34) = w1 at *
  have HK := Lib.hid (hkeys.on h01)
  have HI := Lib.hid (hitems.on h01)
  have hz1 := HL.here
  have HL := Lib.hid HL
  clear hkeys hitems
  go_loopw [3, 4] (fun m i wr => ∃ i1 m1 : Nat, i = .int .i64 i1 ∧ i1 ≤ x.keys.length ∧ m = .int .i64 m1 ∧ m1 = foldN 1 (x.keys.take i1) ∧ m1 ≤ 1000 ∧ Below w1.heap.size w1 wr) (fun _ i _ => x.keys.length - (intOf i).toNat)
  case atStart => exact ⟨0, 1, rfl, by omega, rfl, by rw [List.take_zero, foldN_nil], by omega, Below.refl _ _⟩
  case round =>
   obtain ⟨i1, m1, rfl, hi1, rfl, hm1, hm1k, hb1⟩ := hrel
   have Hm1 := Lib.hid hm1
   clear hm1
   have c5 := (hb1.cell (p := ⟨w.heap.size, 5, none⟩) hz1).trans (HL.out.cell 5)
   simp only [gl3] at c5
   by_cases hlt : i1 < x.keys.length
   ·
    have hR := HK.out.on hb1
    obtain ⟨b, o, rfl, hbb, hel⟩ := hR.elem (by omega)
    obtain ⟨yk, yi, yr, hcells, hva⟩ := hel i1 hlt
    have htk := foldN_take 1 x.keys i1 hlt
    have htl := foldN_le 1 x.keys (i1 + 1)
    rw [htk] at htl
    have hym : nodes x.keys[i1] ≤ nodesL x.keys := nodesL_mem x.keys _ (List.getElem_mem hlt)
    rw [← Hm1.out] at htl htk
    generalize x.keys[i1] = y at *
    obtain ⟨B1, k1, B2, k2, B3, k3, rfl, rfl, rfl, _, _, _⟩ := hva.forms
    obtain ⟨c0, c1, c2, c3, c4, c5', c6, c7⟩ := hcells
    have hdy := depth_nodes y
    have HA := Lib.hid hva
    have Htk := Lib.hid htk
    have hone : oneN m1 y ≤ 1000 := by omega
    have Hone : Hid (oneN m1 y = m1 + nodes y ) := by show _ = _; rfl
    rw [Hone.out] at hone
    clear hel hva htk hR htl
    go_wp2_with fail
    refine (IH.out y _ _ _ _ (by omega) (by omega) HA.out).mono ?_
    rintro e w2 ⟨rfl, hb2⟩
    have hb02 := hb1.trans (hb2.mono hb1.size)
    clear hb2 hb1
    go_wp2_with fail
    go_roundw
    case rel => exact ⟨i1 + 1, oneN m1 y, by go_num, by omega, by rw [Hone.out]; go_num, by rw [Htk.out], by rw [Hone.out]; exact hone, hb02⟩
    case measure => simp [intOf]; omega
   have hm2 := Hm1.out
   rw [List.take_of_length_le (by omega)] at hm2
   have Hm2 := Lib.hid hm2
   clear hm2 Hm1
   have h02 := h01.trans (hb1.mono h01.size)
   have HI2 := Lib.hid (HI.out.on hb1)
   have HL2 := Lib.hid (HL.out.below hb1 hz1)
   have hz2 : w.heap.size < wr.heap.size := Nat.lt_of_lt_of_le hz1 hb1.size
   obtain ⟨wo, rfl⟩ : ∃ wo : World, wo = wr := ⟨_, rfl⟩
   clear hb1
   go_wp2_with fail
   clear c5
   go_loopw [3, 5] (fun m i wr => ∃ i2 m2 : Nat, i = .int .i64 i2 ∧ i2 ≤ x.items.length ∧ m = .int .i64 m2 ∧ m2 = foldN m1 (x.items.take i2) ∧ m2 ≤ 1000 ∧ Below wo.heap.size wo wr) (fun _ i _ => x.items.length - (intOf i).toNat)
   case atStart => exact ⟨0, m1, rfl, by omega, rfl, by rw [List.take_zero, foldN_nil], hm1k, Below.refl _ _⟩
   case round =>
    obtain ⟨i2, m2, rfl, hi2, rfl, hm2, hm2k, hb2⟩ := hrel
    have Hm3 := Lib.hid hm2
    clear hm2
    have c6 := (hb2.cell (p := ⟨w.heap.size, 6, none⟩) hz2).trans (HL2.out.cell 6)
    simp only [gl3] at c6
    by_cases hlt2 : i2 < x.items.length
    ·
     have hR := HI2.out.on hb2
     obtain ⟨b, o, rfl, hbb, hel⟩ := hR.elem (by omega)
     obtain ⟨yk, yi, yr, hcells, hva⟩ := hel i2 hlt2
     have htk := foldN_take m1 x.items i2 hlt2
     have htl := foldN_le m1 x.items (i2 + 1)
     rw [htk] at htl
     have hym : nodes x.items[i2] ≤ nodesL x.items := nodesL_mem x.items _ (List.getElem_mem hlt2)
     rw [← Hm3.out] at htl htk
     rw [← Hm2.out] at hf3
     generalize x.items[i2] = y at *
     obtain ⟨B1, k1, B2, k2, B3, k3, rfl, rfl, rfl, _, _, _⟩ := hva.forms
     obtain ⟨c0, c1, c2, c3, c4, c5', c6', c7⟩ := hcells
     have hdy := depth_nodes y
     have HA := Lib.hid hva
     have Htk := Lib.hid htk
     have hone : oneN m2 y ≤ 1000 := by omega
     have Hone : Hid (oneN m2 y = m2 + nodes y ) := by show _ = _; rfl
     rw [Hone.out] at hone
     clear hel hva htk hR htl
     go_wp2_with fail
     refine (IH.out y _ _ _ _ (by omega) (by omega) HA.out).mono ?_
     rintro e w2 ⟨rfl, hb3⟩
     have hb02 := hb2.trans (hb3.mono hb2.size)
     clear hb2 hb3
     go_wp2_with fail
     go_roundw
     case rel => exact ⟨i2 + 1, oneN m2 y, by go_num, by omega, by rw [Hone.out]; go_num, by rw [Htk.out], by rw [Hone.out]; exact hone, hb02⟩
     case measure => simp [intOf]; omega
    have hm4 := Hm3.out
    rw [List.take_of_length_le (by omega), Hm2.out] at hm4
    have Hm4 := Lib.hid hm4
    clear hm4
    go_wp2_with fail
    go_ret
    exact ⟨ret_int (by rw [Hfo.out, ← Hm4.out]; go_num), h02.trans (hb2.mono h02.size)⟩
end Go.Proofs.Ytgeapglanckjpaa
namespace Go.Proofs.Ytgeapglanckjpaa
open Go.ChangeShapes Go.WideShapes Go.ChangeAt Go.RowKit
def sizeR : List Raw → Int → Int
 | [], n => n
 | r :: rs, n => if n < 0 then n else sizeR rs (n - r.2.length)
mutual
def sizeV : Val → Int → Int
 | .mk _ _ _ s _ ks is rs, n => sizeL is (sizeL ks (sizeR rs (n - (10 + s.length + rs.length))))
def sizeL : List Val → Int → Int
 | [], n => n
 | x :: r, n => if n < 0 then n else sizeL r (sizeV x n)
end
theorem sizeV_eq (x : Val) (n : Int) : sizeV x n = sizeL x.items (sizeL x.keys (sizeR x.rest (n - (10 + x.str.length + x.rest.length)))) := by cases x; rw [sizeV]; rfl
theorem sizeR_le (rs : List Raw) : ∀ n, sizeR rs n ≤ n := by
 induction rs with
 | nil => intro n; exact Int.le_refl _
 | cons r rs ih =>
  intro n
  rw [sizeR]
  split
  ·
   omega
  have := ih (n - r.2.length); omega
theorem sizeR_neg (rs : List Raw) (n : Int) (h : n < 0) : sizeR rs n = n := by
 cases rs with
 | nil => rfl
 | cons r rs => rw [sizeR, if_pos h]
theorem sizeL_neg (l : List Val) (n : Int) (h : n < 0) : sizeL l n = n := by
 cases l with
 | nil => rw [sizeL]
 | cons x r => rw [sizeL, if_pos h]
mutual
theorem sizeV_nodes : ∀ (x : Val) (n : Int), sizeV x n ≤ n - 10 ∧ (0 ≤ sizeV x n → 10 * (nodes x : Int) ≤ n - sizeV x n)
 | .mk _ _ _ s _ ks is rs, n => by
  rw [sizeV, nodes]
  have h1 := sizeR_le rs (n - (10 + s.length + rs.length))
  have h2 := sizeL_nodes ks (sizeR rs (n - (10 + s.length + rs.length)))
  have h3 := sizeL_nodes is (sizeL ks (sizeR rs (n - (10 + s.length + rs.length))))
  refine ⟨by omega, fun h => ?_⟩
  have h4 := h3.2 h
  have h5 := h2.2 (by omega)
  omega
theorem sizeL_nodes : ∀ (l : List Val) (n : Int), sizeL l n ≤ n ∧ (0 ≤ sizeL l n → 10 * (nodesL l : Int) ≤ n - sizeL l n)
 | [], n => by rw [sizeL, nodesL]; omega
 | x :: r, n => by
  rw [sizeL, nodesL]
  split
  ·
   omega
  have h1 := sizeV_nodes x n
  have h2 := sizeL_nodes r (sizeV x n)
  refine ⟨by omega, fun h => ?_⟩
  have h3 := h2.2 h
  have h4 := h1.2 (by omega)
  omega
end
def smallB (x : Val) : Bool := decide (0 ≤ sizeV x 3000)
theorem small_nodes (x : Val) (h : smallB x = true) : nodes x ≤ 300 := by
 have h1 : 0 ≤ sizeV x 3000 := of_decide_eq_true h
 have h2 := (sizeV_nodes x 3000).2 h1
 omega
theorem rawV_at {w : World} {b o : Nat} {rs : List Raw} (hcell : ∀ j u, (rawsV rs)[j]? = some u → w.cell? ⟨b, o + j, none⟩ = some u) (k : Nat) (h : k < rs.length) :
  w.cell? ⟨b, o + k * 2, none⟩ = some (.int .i64 rs[k].1) ∧ w.cell? ⟨b, o + k * 2 + 1, none⟩ = some (.string ⟨rs[k].2.toArray⟩) :=
 ⟨hcell (k * 2) _ (flat_get rawV_len rs k 0 h (by omega)), hcell (k * 2 + 1) _ (flat_get rawV_len rs k 1 h (by omega))⟩
set_option maxRecDepth 100000 in
theorem rsize_any : ∀ (N : Nat) (x : Val) (n : Int) (vk vi vr : Value) (w : World), 0 ≤ n → n < N → N ≤ 3001 → ValAt w w.heap.size x vk vi vr →
  Calls Try.prog 25 #[valA x vk vi vr, .int .i64 n] w fun e w' => (e = .returned (.int .i64 (sizeV x n)) ∧ -1125899906842624 ≤ sizeV x n) ∧ Below w.heap.size w w' := by
 intro N
 induction N with
 | zero => intro x n vk vi vr w h0 h1; omega
 | succ N ih =>
  intro x n vk vi vr w hn0 hnN hN1 hv
  have hkeys := hv.keys
  have hitems := hv.items
  have hrest := hv.rest
  have hraw := hv.raws
  have hsl := hv.strl
  have hle := hv.lens
  have Hsz := Lib.hid (sizeV_eq x n)
  have IH := Lib.hid ih
  obtain ⟨A1, n1, A2, n2, A3, n3, rfl, rfl, rfl, hn1, hn2, hn3⟩ := hv.forms
  clear hv ih
  go_enter Try.func25, Try.ntmps25
  go_wp2
  have HL := Has.made w 34 #[.int .i64 x.kind, .bool x.bool, .int .i64 x.num, .string ⟨x.str.toArray⟩, .int .i64 x.id, .slice A1 x.keys.length n1, .slice A2 x.items.length n2, .slice A3 x.rest.length n3]
  have h01 := (Below.refl w.heap.size w).alloc (Nat.le_refl _) (.cells #[.int .i64 x.kind, .bool x.bool, .int .i64 x.num, .string ⟨x.str.toArray⟩, .int .i64 x.id, .slice A1 x.keys.length n1, .slice A2 x.items.length n2, .slice A3 x.rest.length n3] 34)
  generalize w.alloc (.cells #[.int .i64 x.kind, .bool x.bool, .int .i64 x.num, .string ⟨x.str.toArray⟩, .int .i64 x.id, .slice A1 x.keys.length n1, .slice A2 x.items.length n2, .slice A3 x.rest.length n3] 34) = w1 at *
  have HK := Lib.hid (hkeys.on h01)
  have HI := Lib.hid (hitems.on h01)
  have HR := Lib.hid ((hrest.below h01).mono h01.size)
  have hz1 := HL.here
  have c7 := HL.cell 7
  simp only [gl3] at c7
  have HL := Lib.hid HL
  have Hraw := Lib.hid hraw
  clear hkeys hitems hrest hraw
  go_loopw [1, 5] (fun m i wr => ∃ (i1 : Nat) (m1 : Int), i = .int .i64 i1 ∧ i1 ≤ x.rest.length ∧ m = .int .i64 m1 ∧ sizeR (x.rest.drop i1) m1 = sizeR x.rest (n - (10 + x.str.length + x.rest.length)) ∧ m1 ≤ n - 10 ∧ -1125899906842624 ≤ m1 ∧ Below w1.heap.size w1 wr) (fun _ i _ => x.rest.length - (intOf i).toNat)
  case atStart => exact ⟨0, _, rfl, by omega, rfl, rfl, by omega, by omega, Below.refl _ _⟩
  case round =>
   obtain ⟨i1, m1, rfl, hi1, rfl, hs1, hm1, hm1b, hb1⟩ := hrel
   have c7 := (hb1.cell (p := ⟨w.heap.size, 7, none⟩) hz1).trans c7
   by_cases hgo : i1 < x.rest.length ∧ 0 ≤ m1
   ·
    obtain ⟨hlt, hm0⟩ := hgo
    obtain ⟨b, o, rfl, hbb, hcell⟩ := (HR.out.below hb1).at_ (by omega)
    rw [List.drop_eq_getElem_cons hlt, sizeR, if_neg (by omega)] at hs1
    obtain ⟨d0, d1⟩ := rawV_at hcell i1 hlt
    have hri := (Hraw.out x.rest[i1] (List.getElem_mem hlt)).2
    generalize x.rest[i1] = r at *
    have Hs1 := Lib.hid hs1
    clear hs1 hcell
    go_wp2
    go_roundw
    case rel => exact ⟨i1 + 1, m1 - r.2.length, by go_num, by omega, rfl, Hs1.out, by omega, by omega, hb1⟩
    case measure => simp [intOf]; omega
   have he1 : sizeR x.rest (n - (10 + x.str.length + x.rest.length)) = m1 := by
    rw [← hs1]
    by_cases h2 : m1 < 0
    ·
     exact sizeR_neg _ _ h2
    rw [List.drop_eq_nil_of_le (by omega)]; rfl
   rw [he1] at Hsz
   have hex : (x.rest.length : Int) ≤ i1 ∨ m1 < 0 := by omega
   have h02 := h01.trans (hb1.mono h01.size)
   have HK2 := Lib.hid (HK.out.on hb1)
   have HI2 := Lib.hid (HI.out.on hb1)
   have HL2 := Lib.hid (HL.out.below hb1 hz1)
   have hz2 : w.heap.size < wr.heap.size := Nat.lt_of_lt_of_le hz1 hb1.size
   obtain ⟨wo, rfl⟩ : ∃ wo : World, wo = wr := ⟨_, rfl⟩
   clear hb1 hs1 he1 hgo
   have hex2 : (x.rest.length : Int) ≤ i1 ∨ ((i1 : Int) < x.rest.length ∧ m1 < 0) := by omega
   clear hex
   rcases hex2 with hex | ⟨hex, hex0⟩
   all_goals
    go_wp2_with fail
    clear c7
    go_loopw [1, 6] (fun m i wr => ∃ (i6 : Nat) (q : Int), i = .int .i64 i6 ∧ i6 ≤ x.keys.length ∧ m = .int .i64 q ∧ sizeL (x.keys.drop i6) q = sizeL x.keys m1 ∧ q ≤ n - 10 ∧ -1125899906842624 ≤ q ∧ Below wo.heap.size wo wr) (fun _ i _ => x.keys.length - (intOf i).toNat)
    case atStart => exact ⟨0, _, rfl, by omega, rfl, rfl, by omega, by omega, Below.refl _ _⟩
    case round =>
     obtain ⟨j6, q6, rfl, hj6, rfl, hs6, hq6, hqb6, hb6⟩ := hrel
     have cF := (hb6.cell (p := ⟨w.heap.size, 5, none⟩) hz2).trans (HL2.out.cell 5)
     simp only [gl3] at cF
     by_cases hgo : j6 < x.keys.length ∧ 0 ≤ q6
     ·
      obtain ⟨hlt, hm0⟩ := hgo
      obtain ⟨b, o, rfl, hbb, hel⟩ := (HK2.out.on hb6).elem (by omega)
      obtain ⟨yk, yi, yr, hcells, hva⟩ := hel j6 hlt
      rw [List.drop_eq_getElem_cons hlt, sizeL, if_neg (by omega)] at hs6
      generalize x.keys[j6] = y at *
      obtain ⟨B1, k1, B2, k2, B3, k3, rfl, rfl, rfl, -, -, -⟩ := hva.forms
      obtain ⟨d0, d1, d2, d3, d4, d5, d6, d7⟩ := hcells
      have HA := Lib.hid hva
      have hsv := (sizeV_nodes y q6).1
      have Hs1 := Lib.hid hs6
      clear hel hva hs6
      go_wp2_with fail
      refine (IH.out y q6 _ _ _ _ hm0 (by omega) (by omega) HA.out).mono ?_
      rintro e w2 ⟨⟨rfl, hsb⟩, hb2⟩
      have hb02 := hb6.trans (hb2.mono hb6.size)
      clear hb2 hb6
      generalize sizeV y q6 = z at *
      go_wp2_with fail
      go_roundw
      case rel => exact ⟨j6 + 1, z, by go_num, by omega, rfl, Hs1.out, by omega, by omega, hb02⟩
      case measure => simp [intOf]; omega
     have he6 : sizeL x.keys m1 = q6 := by
      rw [← hs6]
      by_cases h2 : q6 < 0
      ·
       exact sizeL_neg _ _ h2
      rw [List.drop_eq_nil_of_le (by omega), sizeL]
     rw [he6] at Hsz
     have hex6 : (x.keys.length : Int) ≤ j6 ∨ ((j6 : Int) < x.keys.length ∧ q6 < 0) := by omega
     clear hgo hs6 he6
     have h03 := h02.trans (hb6.mono h02.size)
     have HI3 := Lib.hid (HI2.out.on hb6)
     have HL3 := Lib.hid (HL2.out.below hb6 hz2)
     have hz3 : w.heap.size < wr.heap.size := Nat.lt_of_lt_of_le hz2 hb6.size
     obtain ⟨wo2, rfl⟩ : ∃ wo : World, wo = wr := ⟨_, rfl⟩
     clear hb6
     rcases hex6 with hex6 | ⟨hex6, hex60⟩
     all_goals
      go_wp2_with fail
      clear cF
      go_loopw [1, 7] (fun m i wr => ∃ (i7 : Nat) (q : Int), i = .int .i64 i7 ∧ i7 ≤ x.items.length ∧ m = .int .i64 q ∧ sizeL (x.items.drop i7) q = sizeL x.items q6 ∧ q ≤ n - 10 ∧ -1125899906842624 ≤ q ∧ Below wo2.heap.size wo2 wr) (fun _ i _ => x.items.length - (intOf i).toNat)
      case atStart => exact ⟨0, _, rfl, by omega, rfl, rfl, by omega, by omega, Below.refl _ _⟩
      case round =>
       obtain ⟨j7, q7, rfl, hj7, rfl, hs7, hq7, hqb7, hb7⟩ := hrel
       have cF := (hb7.cell (p := ⟨w.heap.size, 6, none⟩) hz3).trans (HL3.out.cell 6)
       simp only [gl3] at cF
       by_cases hgo : j7 < x.items.length ∧ 0 ≤ q7
       ·
        obtain ⟨hlt, hm0⟩ := hgo
        obtain ⟨b, o, rfl, hbb, hel⟩ := (HI3.out.on hb7).elem (by omega)
        obtain ⟨yk, yi, yr, hcells, hva⟩ := hel j7 hlt
        rw [List.drop_eq_getElem_cons hlt, sizeL, if_neg (by omega)] at hs7
        generalize x.items[j7] = y at *
        obtain ⟨B1, k1, B2, k2, B3, k3, rfl, rfl, rfl, -, -, -⟩ := hva.forms
        obtain ⟨d0, d1, d2, d3, d4, d5, d6, d7⟩ := hcells
        have HA := Lib.hid hva
        have hsv := (sizeV_nodes y q7).1
        have Hs1 := Lib.hid hs7
        clear hel hva hs7
        go_wp2_with fail
        refine (IH.out y q7 _ _ _ _ hm0 (by omega) (by omega) HA.out).mono ?_
        rintro e w2 ⟨⟨rfl, hsb⟩, hb2⟩
        have hb02 := hb7.trans (hb2.mono hb7.size)
        clear hb2 hb7
        generalize sizeV y q7 = z at *
        go_wp2_with fail
        go_roundw
        case rel => exact ⟨j7 + 1, z, by go_num, by omega, rfl, Hs1.out, by omega, by omega, hb02⟩
        case measure => simp [intOf]; omega
       have he7 : sizeL x.items q6 = q7 := by
        rw [← hs7]
        by_cases h2 : q7 < 0
        ·
         exact sizeL_neg _ _ h2
        rw [List.drop_eq_nil_of_le (by omega), sizeL]
       rw [he7] at Hsz
       have hex7 : (x.items.length : Int) ≤ j7 ∨ ((j7 : Int) < x.items.length ∧ q7 < 0) := by omega
       clear hgo hs7 he7
       rcases hex7 with hex7 | ⟨hex7, hex70⟩
       all_goals
        go_wp2_with fail
        go_ret
        exact ⟨⟨ret_int Hsz.out.symm, by rw [Hsz.out]; exact hqb7⟩, h03.trans (hb7.mono h03.size)⟩
set_option maxRecDepth 100000 in
theorem small_any (x : Val) (vk vi vr : Value) (w : World) (hv : ValAt w w.heap.size x vk vi vr) :
  Calls Try.prog 7 #[valA x vk vi vr] w fun e w' => e = .returned (.bool (smallB x)) ∧ Below w.heap.size w w' := by
 obtain ⟨A1, n1, A2, n2, A3, n3, rfl, rfl, rfl, hn1, hn2, hn3⟩ := hv.forms
 have HA := Lib.hid (hv.on ((Below.refl w.heap.size w).alloc (Nat.le_refl _) (.cells #[.int .i64 x.kind, .bool x.bool, .int .i64 x.num, .string ⟨x.str.toArray⟩, .int .i64 x.id, .slice A1 x.keys.length n1, .slice A2 x.items.length n2, .slice A3 x.rest.length n3] 34)))
 have Hs : Hid (smallB x = decide (0 ≤ sizeV x 3000)) := by show _ = _; rfl
 clear hv
 go_enter Try.func7, Try.ntmps7
 go_wp2_with fail
 refine (rsize_any 3001 x 3000 _ _ _ _ (by omega) (by omega) (by omega) HA.out).mono ?_
 rintro e w2 ⟨⟨rfl, hsb⟩, hb2⟩
 go_wp2_with fail
 go_ret
 exact ⟨ret_bool Hs.out.symm, ((Below.refl w.heap.size w).alloc (Nat.le_refl _) _).trans (hb2.mono (by simp))⟩
end Go.Proofs.Ytgeapglanckjpaa
namespace Go.Proofs.Ytgeapglanckjpaa
open Go.ChangeShapes Go.WideShapes Go.ChangeAt Go.RowKit
def cmpI (a b : Int) : Int := if a < b then -1 else if b < a then 1 else 0
def cmpS (a b : List UInt8) : Int := if Op.bytesLess a b then -1 else if Op.bytesLess b a then 1 else 0
def compareV (x y : Val) : Int :=
 if x.kind ≠ y.kind then 0
 else if x.kind = 1 then (if x.bool = y.bool then 0 else if y.bool then -1 else 1)
 else if x.kind = 2 then cmpI (zig x.num) (zig y.num)
 else if x.kind = 3 then (if x.str.length ≠ y.str.length then cmpI x.str.length y.str.length else cmpS x.str y.str)
 else if x.kind = 4 then cmpI x.id y.id
 else 0
theorem less_irrefl (a : List UInt8) : Op.bytesLess a a = false := by
 induction a with
 | nil => rfl
 | cons b r ih => simp [Op.bytesLess, ih]
theorem less_total (a : List UInt8) : ∀ b, Op.bytesLess a b = false → Op.bytesLess b a = false → a = b := by
 induction a with
 | nil => intro b h1 h2; cases b with
  | nil => rfl
  | cons c s => simp [Op.bytesLess] at h1
 | cons x r ih =>
  intro b h1 h2
  cases b with
  | nil => simp [Op.bytesLess] at h2
  | cons c s =>
   simp only [Op.bytesLess, Bool.or_eq_false_iff, Bool.and_eq_false_iff, decide_eq_false_iff_not, beq_eq_false_iff_ne] at h1 h2
   have e : x = c := UInt8.le_antisymm (UInt8.not_lt.1 h2.1) (UInt8.not_lt.1 h1.1)
   subst e
   rw [ih s (by simpa using h1.2) (by simpa using h2.2)]
theorem less_asymm (a : List UInt8) : ∀ b, Op.bytesLess a b = true → Op.bytesLess b a = false := by
 induction a with
 | nil => intro b h; cases b <;> simp [Op.bytesLess]
 | cons x r ih =>
  intro b h
  cases b with
  | nil => simp [Op.bytesLess] at h
  | cons c s =>
   simp only [Op.bytesLess, Bool.or_eq_true, Bool.and_eq_true, decide_eq_true_eq, beq_iff_eq] at h
   simp only [Op.bytesLess, Bool.or_eq_false_iff, Bool.and_eq_false_iff, decide_eq_false_iff_not, beq_eq_false_iff_ne]
   rcases h with h | ⟨rfl, h⟩
   ·
    exact ⟨UInt8.not_lt.2 (UInt8.le_of_lt h), .inl (fun e => by subst e; exact UInt8.lt_irrefl _ h)⟩
   exact ⟨UInt8.lt_irrefl _, .inr (ih s h)⟩
theorem nanu_any (a : Int) (w : World) : Calls Try.prog 69 #[.int .u64 a] w fun e w' => e = .returned (.bool false) ∧ w = w' := by
 go_enter Try.func69, Try.ntmps69
 go_wp2
 go_ret
 exact ⟨ret_bool (by simp), rfl⟩
theorem nani_any (a : Int) (w : World) : Calls Try.prog 70 #[.int .i64 a] w fun e w' => e = .returned (.bool false) ∧ w = w' := by
 go_enter Try.func70, Try.ntmps70
 go_wp2
 go_ret
 exact ⟨ret_bool (by simp), rfl⟩
theorem nans_any (a : List UInt8) (w : World) : Calls Try.prog 71 #[.string ⟨a.toArray⟩] w fun e w' => e = .returned (.bool false) ∧ w = w' := by
 go_enter Try.func71, Try.ntmps71
 go_wp2
 go_ret
 exact ⟨ret_bool (by simp), rfl⟩
set_option maxRecDepth 100000 in
theorem cmpu_any (a b : Int) (w : World) : Calls Try.prog 41 #[.int .u64 a, .int .u64 b] w fun e w' => e = .returned (.int .i64 (cmpI a b)) ∧ w = w' := by
 by_cases h1 : a < b
 ·
  have hc : Hid (cmpI a b = -1) := by show _ = _; rw [cmpI, if_pos h1]
  go_enter Try.func41, Try.ntmps41
  go_wp2_with (go_at_call 69; refine (nanu_any _ _).mono ?_; rintro e w' ⟨rfl, rfl⟩)
  go_ret
  exact ⟨ret_int hc.out.symm, rfl⟩
 by_cases h2 : b < a
 ·
  have hc : Hid (cmpI a b = 1) := by show _ = _; rw [cmpI, if_neg h1, if_pos h2]
  go_enter Try.func41, Try.ntmps41
  go_wp2_with (go_at_call 69; refine (nanu_any _ _).mono ?_; rintro e w' ⟨rfl, rfl⟩)
  go_ret
  exact ⟨ret_int hc.out.symm, rfl⟩
 have hc : Hid (cmpI a b = 0) := by show _ = _; rw [cmpI, if_neg h1, if_neg h2]
 go_enter Try.func41, Try.ntmps41
 go_wp2_with (go_at_call 69; refine (nanu_any _ _).mono ?_; rintro e w' ⟨rfl, rfl⟩)
 go_ret
 exact ⟨ret_int hc.out.symm, rfl⟩
set_option maxRecDepth 100000 in
theorem cmpi_any (a b : Int) (w : World) : Calls Try.prog 44 #[.int .i64 a, .int .i64 b] w fun e w' => e = .returned (.int .i64 (cmpI a b)) ∧ w = w' := by
 by_cases h1 : a < b
 ·
  have hc : Hid (cmpI a b = -1) := by show _ = _; rw [cmpI, if_pos h1]
  go_enter Try.func44, Try.ntmps44
  go_wp2_with (go_at_call 70; refine (nani_any _ _).mono ?_; rintro e w' ⟨rfl, rfl⟩)
  go_ret
  exact ⟨ret_int hc.out.symm, rfl⟩
 by_cases h2 : b < a
 ·
  have hc : Hid (cmpI a b = 1) := by show _ = _; rw [cmpI, if_neg h1, if_pos h2]
  go_enter Try.func44, Try.ntmps44
  go_wp2_with (go_at_call 70; refine (nani_any _ _).mono ?_; rintro e w' ⟨rfl, rfl⟩)
  go_ret
  exact ⟨ret_int hc.out.symm, rfl⟩
 have hc : Hid (cmpI a b = 0) := by show _ = _; rw [cmpI, if_neg h1, if_neg h2]
 go_enter Try.func44, Try.ntmps44
 go_wp2_with (go_at_call 70; refine (nani_any _ _).mono ?_; rintro e w' ⟨rfl, rfl⟩)
 go_ret
 exact ⟨ret_int hc.out.symm, rfl⟩
set_option maxRecDepth 100000 in
theorem cmps_any (a b : List UInt8) (w : World) : Calls Try.prog 45 #[.string ⟨a.toArray⟩, .string ⟨b.toArray⟩] w fun e w' => e = .returned (.int .i64 (cmpS a b)) ∧ w = w' := by
 have hc : Hid (cmpS a b = if Op.bytesLess a b then -1 else if Op.bytesLess b a then 1 else 0) := by show _ = _; rfl
 have h3 := less_irrefl a
 have h4 := less_total a b
 cases h1 : Op.bytesLess a b with
 | true =>
  rw [h1] at hc
  clear h3 h4
  go_enter Try.func45, Try.ntmps45
  go_wp2_with (go_at_call 71; refine (nans_any _ _).mono ?_; rintro e w' ⟨rfl, rfl⟩)
  go_ret
  exact ⟨ret_int hc.out.symm, rfl⟩
 | false =>
  cases h2 : Op.bytesLess b a with
  | true =>
   rw [h1, h2] at hc
   have h5 : (a == b) = false := beq_eq_false_iff_ne.2 (fun e => by subst e; rw [h3] at h2; cases h2)
   clear h3 h4
   go_enter Try.func45, Try.ntmps45
   go_wp2_with (go_at_call 71; refine (nans_any _ _).mono ?_; rintro e w' ⟨rfl, rfl⟩)
   go_ret
   exact ⟨ret_int hc.out.symm, rfl⟩
  | false =>
   rw [h1, h2] at hc
   obtain rfl := h4 h1 h2
   clear h4 h2 h3
   go_enter Try.func45, Try.ntmps45
   go_wp2_with (go_at_call 71; refine (nans_any _ _).mono ?_; rintro e w' ⟨rfl, rfl⟩)
   go_ret
   exact ⟨ret_int hc.out.symm, rfl⟩
def or2 (a b : Int) : Int := if a = 0 then b else a
set_option maxRecDepth 100000 in
theorem or2_any (a b : Int) (v : Value) (w : World) (hr : Rd w w.heap.size 1 v 2 [.int .i64 a, .int .i64 b]) : Calls Try.prog 43 #[v] w fun e w' => e = .returned (.int .i64 (or2 a b)) ∧ w = w' := by
 obtain ⟨A, c, rfl, hc⟩ := hr.form
 obtain ⟨bb, o, rfl, hbb, hcell⟩ := hr.at_ (by omega)
 have c0 : w.cell? ⟨bb, o, none⟩ = some (.int .i64 a) := hcell 0 _ rfl
 have c1 : w.cell? ⟨bb, o + 1, none⟩ = some (.int .i64 b) := hcell 1 _ rfl
 clear hcell
 go_enter Try.func43, Try.ntmps43
 go_wp2
 go_loop [8] (fun i => ∃ k : Nat, i = .int .i64 k ∧ k ≤ 2 ∧ (1 ≤ k → a = 0) ∧ (2 ≤ k → b = 0)) (fun i => 2 - (intOf i).toNat)
 case atStart => exact ⟨0, rfl, by omega, by omega, by omega⟩
 case round =>
  obtain ⟨k, rfl, hk, ha, hb⟩ := hrel
  by_cases h2 : k = 2
  ·
   have ha := ha (by omega)
   have hb := hb (by omega)
   have h3 : (2 : Int) ≤ k := by omega
   have hx : Hid (or2 a b = 0) := by show _ = _; rw [or2, if_pos ha, hb]
   clear ha hb h2
   go_wp2
   go_ret
   exact ⟨ret_int hx.out.symm, rfl⟩
  by_cases h1 : k = 1
  ·
   have ha := ha (by omega)
   have hx : Hid (or2 a b = b) := by show _ = _; rw [or2, if_pos ha]
   have HA := Lib.hid ha
   subst h1
   clear ha hb h2
   by_cases hb0 : b = 0
   ·
    have Hb := Lib.hid hb0
    have ht : (b != 0) = false := by simp [hb0]
    clear hb0
    go_wp2
    go_round
    case rel => exact ⟨2, by go_num, by omega, fun _ => HA.out, fun _ => Hb.out⟩
    case measure => simp [intOf]
   have ht : (b != 0) = true := by simpa using hb0
   clear hb0
   go_wp2
   go_ret
   exact ⟨ret_int (by simp [or2]), rfl⟩
  obtain rfl : k = 0 := by omega
  clear ha hb h1 h2
  by_cases ha0 : a = 0
  ·
   have Ha := Lib.hid ha0
   have ht : (a != 0) = false := by simp [ha0]
   clear ha0
   go_wp2
   go_round
   case rel => exact ⟨1, by go_num, by omega, fun _ => Ha.out, by omega⟩
   case measure => simp [intOf]
  have ht : (a != 0) = true := by simpa using ha0
  have hx : Hid (or2 a b = a) := by show _ = _; rw [or2, if_neg ha0]
  clear ha0
  go_wp2
  go_ret
  exact ⟨ret_int hx.out.symm, rfl⟩
def ordI (l e : Bool) : Int := if e then 0 else if l then -1 else 1
set_option maxRecDepth 100000 in
theorem order_any (l e : Bool) (w : World) : Calls Try.prog 77 #[.bool l, .bool e] w fun r w' => r = .returned (.int .i64 (ordI l e)) ∧ w = w' := by
 cases e <;> cases l
 all_goals
  go_enter Try.func77, Try.ntmps77
  go_wp2
  go_ret
  exact ⟨by first | rfl | simp, rfl⟩
theorem rd2_of (W : World) (b : Nat) (x y : Value) (h0 : W.cell? ⟨b, 0, none⟩ = some x) (h1 : W.cell? ⟨b, 1, none⟩ = some y) (hb : b < W.heap.size) :
  Rd W W.heap.size 1 (.slice (some ⟨b, 0, none⟩) 2 2) 2 [x, y] :=
 ⟨rfl, _, _, rfl, Nat.le_refl _, .inr ⟨b, 0, rfl, hb, fun j u hu => by
  rw [Nat.zero_add]
  match j, hu with
  | 0, hu => rw [h0]; exact hu
  | 1, hu => rw [h1]; exact hu⟩⟩
theorem cmpI_or (a b : List UInt8) : or2 (cmpI a.length b.length) (cmpS a b) = if a.length ≠ b.length then cmpI a.length b.length else cmpS a b := by
 unfold or2 cmpI
 by_cases h : a.length = b.length
 ·
  simp [h]
 rw [if_pos h]
 by_cases h1 : (a.length : Int) < b.length
 ·
  simp [h1]
 have h2 : (b.length : Int) < a.length := by omega
 simp [h1, h2]
set_option maxRecDepth 100000 in
theorem vcompare_any (x y : Val) (vk vi vr vk' vi' vr' : Value) (w : World) (hx : ValAt w w.heap.size x vk vi vr) (hy : ValAt w w.heap.size y vk' vi' vr') :
  Calls Try.prog 23 #[valA x vk vi vr, valA y vk' vi' vr'] w fun e w' => e = .returned (.int .i64 (compareV x y)) ∧ Below w.heap.size w w' := by
 have hc : Hid (compareV x y = if x.kind ≠ y.kind then 0 else if x.kind = 1 then (if x.bool = y.bool then 0 else if y.bool then -1 else 1) else if x.kind = 2 then cmpI (zig x.num) (zig y.num) else if x.kind = 3 then (if x.str.length ≠ y.str.length then cmpI x.str.length y.str.length else cmpS x.str y.str) else if x.kind = 4 then cmpI x.id y.id else 0) := by show _ = _; rfl
 obtain ⟨A1, n1, A2, n2, A3, n3, rfl, rfl, rfl, -, -, -⟩ := hx.forms
 obtain ⟨B1, k1, B2, k2, B3, k3, rfl, rfl, rfl, -, -, -⟩ := hy.forms
 have hx1 := hx.ints
 have hy1 := hy.ints
 have hzx := zig_any x.num hx1.2.1
 have hzy := zig_any y.num hy1.2.1
 have hxs := hx.strl
 have hys := hy.strl
 clear hx hy hx1 hy1
 have h0b := al2 w
 by_cases hk : x.kind = y.kind
 ·
  have hkk : (x.kind != y.kind) = false := by simp [hk]
  have HZX := Lib.hid hzx
  have HZY := Lib.hid hzy
  by_cases k1 : x.kind = 1
  ·
   have t1 : (x.kind == 1) = true := by simp [k1]
   by_cases hb : x.bool = y.bool
   ·
    have hr : Hid (compareV x y = 0) := by show _ = _; rw [hc.out, if_neg (by simp [hk]), if_pos k1, if_pos hb]
    have tb : (x.bool == y.bool) = true := by simp [hb]
    clear hk k1 hb hzx hzy
    go_enter Try.func23, Try.ntmps23
    go_wp2
    go_ret
    exact ⟨ret_int hr.out.symm, h0b _ _⟩
   have tb : (x.bool == y.bool) = false := by simpa using hb
   cases hyb : y.bool with
   | true =>
    have hr : Hid (compareV x y = -1) := by show _ = _; rw [hc.out, if_neg (by simp [hk]), if_pos k1, if_neg hb, hyb]; rfl
    rw [hyb] at tb
    clear hk k1 hb hzx hzy
    simp only [valA, hyb]
    go_enter Try.func23, Try.ntmps23
    go_wp2
    go_ret
    exact ⟨ret_int hr.out.symm, h0b _ _⟩
   | false =>
    have hr : Hid (compareV x y = 1) := by show _ = _; rw [hc.out, if_neg (by simp [hk]), if_pos k1, if_neg hb, hyb]; rfl
    rw [hyb] at tb
    clear hk k1 hb hzx hzy
    simp only [valA, hyb]
    go_enter Try.func23, Try.ntmps23
    go_wp2
    go_ret
    exact ⟨ret_int hr.out.symm, h0b _ _⟩
  have t1 : (x.kind == 1) = false := beq_eq_false_iff_ne.2 k1
  by_cases k2 : x.kind = 2
  ·
   have t2 : (x.kind == 2) = true := by simp [k2]
   have hr : Hid (compareV x y = cmpI (zig x.num) (zig y.num)) := by show _ = _; rw [hc.out, if_neg (by simp [hk]), if_neg k1, if_pos k2]
   clear hk k1 k2 hzx hzy
   go_enter Try.func23, Try.ntmps23
   go_wp2
   go_region_held3 (fun w' => w'.cell? ⟨w.heap.size, 2, none⟩ = some (.int .i64 x.num) ∧ w'.cell? ⟨w.heap.size + 1, 2, none⟩ = some (.int .i64 y.num)) (go_keep)
    (first
     | (go_at_call 42; (with_reducible refine (HZX.out _).mono ?_); rintro e w2 ⟨rfl, rfl⟩)
     | (go_at_call 42; (with_reducible refine (HZY.out _).mono ?_); rintro e w2 ⟨rfl, rfl⟩)
     | (go_at_call 41; (with_reducible refine (cmpu_any _ _ _).mono ?_); rintro e w2 ⟨rfl, rfl⟩))
   go_wp2
   go_ret
   exact ⟨ret_int hr.out.symm, (h0b _ _).drew⟩
  have t2 : (x.kind == 2) = false := beq_eq_false_iff_ne.2 k2
  by_cases k3 : x.kind = 3
  ·
   have t3 : (x.kind == 3) = true := by simp [k3]
   have hr : Hid (compareV x y = or2 (cmpI x.str.length y.str.length) (cmpS x.str y.str)) := by show _ = _; rw [hc.out, if_neg (by simp [hk]), if_neg k1, if_neg k2, if_pos k3, cmpI_or]
   clear hk k1 k2 k3 hzx hzy
   go_enter Try.func23, Try.ntmps23
   go_wp2
   go_region_held3 (fun w' => w'.cell? ⟨w.heap.size, 3, none⟩ = some (.string ⟨x.str.toArray⟩) ∧ w'.cell? ⟨w.heap.size + 1, 3, none⟩ = some (.string ⟨y.str.toArray⟩)) (go_keep)
    (first
     | (go_at_call 44; (with_reducible refine (cmpi_any _ _ _).mono ?_); rintro e w2 ⟨rfl, rfl⟩)
     | (go_at_call 45; (with_reducible refine (cmps_any _ _ _).mono ?_); rintro e w2 ⟨rfl, rfl⟩)
     | (go_at_call 43; refine (or2_any (cmpI x.str.length y.str.length) (cmpS x.str y.str) _ _ (rd2_of _ _ _ _ (by go_simp) (by go_simp) (by go_simp))).mono ?_; rintro e w2 ⟨rfl, rfl⟩))
   go_wp2
   go_ret
   exact ⟨ret_int hr.out.symm, ((h0b _ _).alloc (h0b _ _).size _).drew⟩
  have t3 : (x.kind == 3) = false := beq_eq_false_iff_ne.2 k3
  by_cases k4 : x.kind = 4
  ·
   have t4 : (x.kind == 4) = true := by simp [k4]
   have hr : Hid (compareV x y = cmpI x.id y.id) := by show _ = _; rw [hc.out, if_neg (by simp [hk]), if_neg k1, if_neg k2, if_neg k3, if_pos k4]
   clear hk k1 k2 k3 k4 hzx hzy
   go_enter Try.func23, Try.ntmps23
   go_wp2_with (go_at_call 44; refine (cmpi_any _ _ _).mono ?_; rintro e w' ⟨rfl, rfl⟩)
   go_ret
   exact ⟨ret_int hr.out.symm, h0b _ _⟩
  have t4 : (x.kind == 4) = false := beq_eq_false_iff_ne.2 k4
  have hr : Hid (compareV x y = 0) := by show _ = _; rw [hc.out, if_neg (by simp [hk]), if_neg k1, if_neg k2, if_neg k3, if_neg k4]
  clear hk k1 k2 k3 k4 hzx hzy
  go_enter Try.func23, Try.ntmps23
  go_wp2
  go_ret
  exact ⟨ret_int hr.out.symm, h0b _ _⟩
 have hr : Hid (compareV x y = 0) := by show _ = _; rw [hc.out, if_pos hk]
 have hkk : (x.kind != y.kind) = true := by simpa using hk
 clear hk hzx hzy
 go_enter Try.func23, Try.ntmps23
 go_wp2
 go_ret
 exact ⟨ret_int hr.out.symm, h0b _ _⟩
theorem ord_cmp (a b : Int) (l e : Bool) (hl : l = true ↔ a < b) (he : e = true ↔ a = b) : ordI l e = cmpI a b := by
 unfold ordI cmpI
 by_cases h : a = b
 ·
  rw [if_pos (he.2 h), if_neg (by omega), if_neg (by omega)]
 rw [if_neg (fun h2 => h (he.1 h2))]
 by_cases h2 : a < b
 ·
  rw [if_pos (hl.2 h2), if_pos h2]
 rw [if_neg (fun h3 => h2 (hl.1 h3)), if_neg h2, if_pos (by omega)]
theorem ord_cmps (a b : List UInt8) (l e : Bool) (hl : l = true ↔ Op.bytesLess a b = true) (he : e = true ↔ a = b) : ordI l e = cmpS a b := by
 unfold ordI cmpS
 by_cases h : a = b
 ·
  subst h
  have := less_irrefl a
  rw [if_pos (he.2 rfl), this]
  simp
 rw [if_neg (fun h2 => h (he.1 h2))]
 cases h2 : Op.bytesLess a b with
 | true => rw [if_pos (hl.2 h2)]; simp
 | false =>
  rw [if_neg (fun h3 => by rw [hl.1 h3] at h2; cases h2)]
  have : Op.bytesLess b a = true := by
   cases h3 : Op.bytesLess b a with
   | true => rfl
   | false => exact absurd (less_total a b h2 h3) h
  simp [this]
theorem zig_inj (a b : Int) : zig a = zig b ↔ a = b := ⟨fun h => by rw [← unzig_zig a, h, unzig_zig], fun h => by rw [h]⟩
set_option maxRecDepth 100000 in
theorem rcompare_any (x y : Val) (vk vi vr vk' vi' vr' : Value) (w : World) (hx : ValAt w w.heap.size x vk vi vr) (hy : ValAt w w.heap.size y vk' vi' vr') :
  Calls Try.prog 55 #[valA x vk vi vr, valA y vk' vi' vr'] w fun e w' => e = .returned (.int .i64 (compareV x y)) ∧ Below w.heap.size w w' := by
 have hc : Hid (compareV x y = if x.kind ≠ y.kind then 0 else if x.kind = 1 then (if x.bool = y.bool then 0 else if y.bool then -1 else 1) else if x.kind = 2 then cmpI (zig x.num) (zig y.num) else if x.kind = 3 then (if x.str.length ≠ y.str.length then cmpI x.str.length y.str.length else cmpS x.str y.str) else if x.kind = 4 then cmpI x.id y.id else 0) := by show _ = _; rfl
 obtain ⟨A1, n1, A2, n2, A3, n3, rfl, rfl, rfl, -, -, -⟩ := hx.forms
 obtain ⟨B1, k1, B2, k2, B3, k3, rfl, rfl, rfl, -, -, -⟩ := hy.forms
 have hx1 := hx.ints
 have hy1 := hy.ints
 have hzx := rzig_any x.num hx1.2.1
 have hzy := rzig_any y.num hy1.2.1
 have hxs := hx.strl
 have hys := hy.strl
 clear hx hy hx1 hy1
 have h0b := al2 w
 by_cases hk : x.kind = y.kind
 ·
  have hkk : (x.kind != y.kind) = false := by simp [hk]
  have HZX := Lib.hid hzx
  have HZY := Lib.hid hzy
  by_cases k1 : x.kind = 1
  ·
   have t1 : (x.kind == 1) = true := by simp [k1]
   have hr : Hid (compareV x y = if x.bool = y.bool then 0 else if y.bool then -1 else 1) := by show _ = _; rw [hc.out, if_neg (by simp [hk]), if_pos k1]
   clear hk k1 hzx hzy
   go_enter Try.func55, Try.ntmps55
   go_wp2_with (go_at_call 77; refine (order_any _ _ _).mono ?_; rintro e w' ⟨rfl, rfl⟩)
   go_ret
   exact ⟨ret_int (by rw [hr.out]; unfold ordI; cases x.bool <;> cases y.bool <;> simp), h0b _ _⟩
  have t1 : (x.kind == 1) = false := beq_eq_false_iff_ne.2 k1
  by_cases k2 : x.kind = 2
  ·
   have t2 : (x.kind == 2) = true := by simp [k2]
   have hr : Hid (compareV x y = cmpI (zig x.num) (zig y.num)) := by show _ = _; rw [hc.out, if_neg (by simp [hk]), if_neg k1, if_pos k2]
   clear hk k1 k2 hzx hzy
   go_enter Try.func55, Try.ntmps55
   go_wp2
   go_region_held3 (fun w' => w'.cell? ⟨w.heap.size, 2, none⟩ = some (.int .i64 x.num) ∧ w'.cell? ⟨w.heap.size + 1, 2, none⟩ = some (.int .i64 y.num)) (go_keep)
    (first
     | (go_at_call 78; (with_reducible refine (HZX.out _).mono ?_); rintro e w2 ⟨rfl, rfl⟩)
     | (go_at_call 78; (with_reducible refine (HZY.out _).mono ?_); rintro e w2 ⟨rfl, rfl⟩)
     | (go_at_call 77; (with_reducible refine (order_any _ _ _).mono ?_); rintro e w2 ⟨rfl, rfl⟩))
   go_wp2
   go_ret
   exact ⟨ret_int (by rw [hr.out]; exact ord_cmp _ _ _ _ (by simp) (by simp [zig_inj])), (h0b _ _).drew⟩
  have t2 : (x.kind == 2) = false := beq_eq_false_iff_ne.2 k2
  by_cases k3 : x.kind = 3
  ·
   have t3 : (x.kind == 3) = true := by simp [k3]
   by_cases hll : x.str.length = y.str.length
   ·
    have hr : Hid (compareV x y = cmpS x.str y.str) := by show _ = _; rw [hc.out, if_neg (by simp [hk]), if_neg k1, if_neg k2, if_pos k3, if_neg (by simp [hll])]
    have tl : ((x.str.length : Int) != (y.str.length : Int)) = false := by simp [hll]
    clear hk k1 k2 k3 hzx hzy hll
    go_enter Try.func55, Try.ntmps55
    go_wp2_with (go_at_call 77; refine (order_any _ _ _).mono ?_; rintro e w' ⟨rfl, rfl⟩)
    go_ret
    exact ⟨ret_int (by rw [hr.out]; exact ord_cmps _ _ _ _ (by simp) (by simp)), h0b _ _⟩
   have hr : Hid (compareV x y = cmpI x.str.length y.str.length) := by show _ = _; rw [hc.out, if_neg (by simp [hk]), if_neg k1, if_neg k2, if_pos k3, if_pos hll]
   have tl : ((x.str.length : Int) != (y.str.length : Int)) = true := by rw [bne_iff_ne]; omega
   have Hll := Lib.hid hll
   clear hk k1 k2 k3 hzx hzy hll
   go_enter Try.func55, Try.ntmps55
   go_wp2_with (go_at_call 77; refine (order_any _ _ _).mono ?_; rintro e w' ⟨rfl, rfl⟩)
   go_ret
   exact ⟨ret_int (by rw [hr.out]; exact ord_cmp _ _ _ _ (by simp) (by have := Hll.out; simp; omega)), h0b _ _⟩
  have t3 : (x.kind == 3) = false := beq_eq_false_iff_ne.2 k3
  by_cases k4 : x.kind = 4
  ·
   have t4 : (x.kind == 4) = true := by simp [k4]
   have hr : Hid (compareV x y = cmpI x.id y.id) := by show _ = _; rw [hc.out, if_neg (by simp [hk]), if_neg k1, if_neg k2, if_neg k3, if_pos k4]
   clear hk k1 k2 k3 k4 hzx hzy
   go_enter Try.func55, Try.ntmps55
   go_wp2_with (go_at_call 77; refine (order_any _ _ _).mono ?_; rintro e w' ⟨rfl, rfl⟩)
   go_ret
   exact ⟨ret_int (by rw [hr.out]; exact ord_cmp _ _ _ _ (by simp) (by simp)), h0b _ _⟩
  have t4 : (x.kind == 4) = false := beq_eq_false_iff_ne.2 k4
  have hr : Hid (compareV x y = 0) := by show _ = _; rw [hc.out, if_neg (by simp [hk]), if_neg k1, if_neg k2, if_neg k3, if_neg k4]
  clear hk k1 k2 k3 k4 hzx hzy
  go_enter Try.func55, Try.ntmps55
  go_wp2
  go_ret
  exact ⟨ret_int hr.out.symm, h0b _ _⟩
 have hr : Hid (compareV x y = 0) := by show _ = _; rw [hc.out, if_pos hk]
 have hkk : (x.kind != y.kind) = true := by simpa using hk
 clear hk hzx hzy
 go_enter Try.func55, Try.ntmps55
 go_wp2
 go_ret
 exact ⟨ret_int hr.out.symm, h0b _ _⟩
end Go.Proofs.Ytgeapglanckjpaa

/- What schema.members computes. No condition. -/
import Derived.Test.YtlamhkffnlgofaaGreatDoorHAG
import Derived.Test.YtlamhkffnlgofaaGreatDoorEqZ
set_option maxHeartbeats 4000000
namespace Go.Proofs.YtlamhkffnlgofaaGreatDoor
open Go.ChangeShapes Go.WideShapes Go.ChangeAt Go.RowKit
theorem Two.rng1 {w : World} {B n1 n2 : Nat} {v1 v2 : Value} {xs1 xs2 : List Value} (h : Two w B v1 n1 xs1 v2 n2 xs2) : ∀ k, v1.ownBlock = some k → B ≤ k ∧ k < w.heap.size := fun k hk => h.o1.lt k hk
theorem Two.rng2 {w : World} {B n1 n2 : Nat} {v1 v2 : Value} {xs1 xs2 : List Value} (h : Two w B v1 n1 xs1 v2 n2 xs2) : ∀ k, v2.ownBlock = some k → B ≤ k ∧ k < w.heap.size := fun k hk => h.o2.lt k hk
def pairM (m : Mem) : Raw := (m.id, m.name)
def memB (un : Bool) (m : Mem) : Bool := !(un && (m.crit || m.hasDef)) && (!(m.crit && m.hasDef) && (m.hasDef || sameV m.dflt val0))
def membersB (x : Typ) : Bool := x.mems.all (memB (decide (x.kind = 6))) && ((decide (x.kind = 5) || decide (0 < x.mems.length)) && idsB (x.mems.map pairM))
theorem members_no (x : Typ) (m : Mem) (hm : m ∈ x.mems) (h : memB (decide (x.kind = 6)) m = false) : membersB x = false := by
 have : x.mems.all (memB (decide (x.kind = 6))) = false := by
  rw [List.all_eq_false]
  exact ⟨m, hm, by simp [h]⟩
 unfold membersB; rw [this]; rfl
theorem all_take (f : Mem → Bool) (l : List Mem) (k : Nat) (h : k < l.length) : (l.take (k + 1)).all f = ((l.take k).all f && f l[k]) := by
 rw [List.take_succ_eq_append_getElem h, List.all_append]; simp
theorem mems_in {w : World} {B : Nat} {v : Value} {ms : List Mem} (h : RdMems w B v ms) : ∀ r ∈ ms.map pairM, RawIn r := by
 intro r hr
 obtain ⟨m, hm, rfl⟩ := List.mem_map.1 hr
 obtain ⟨i, hi, rfl⟩ := List.getElem_of_mem hm
 obtain ⟨c, _, h2⟩ := h
 obtain ⟨_, _, _, _, hma⟩ := h2 i hi
 exact ⟨hma.ints.1, hma.namel⟩
set_option maxRecDepth 100000 in
theorem members_any (x : Typ) (vs vm : Value) (w : World) (hl : x.mems.length ≤ 6000000000000) (ht : TypAt w w.heap.size x vs vm) :
  Calls Tryz.prog 119 #[typA x vs vm] w fun e w' => e = .returned (.bool (membersB x)) ∧ Below w.heap.size w w' := by
 obtain ⟨C1, m1, C2, m2, rfl, rfl, -, -⟩ := ht.forms
 have HT := Lib.hid ht
 have HIN := Lib.hid (mems_in ht.mems)
 clear ht
 go_enter Tryz.func119, Tryz.ntmps119
 go_upto_region 3 with fail
 refine am1 (fun wd2 hb1 T => ?_)
 have hw3 := hb1
 clear hb1
 have cT_6 := T.out.e6
 have hT0 := T.out
 have hB0 := hw3
 have HT0 := Lib.hid hT0
 clear hT0
 go_wp2_with fail
 go_loopw [3, 4, 10] (fun s3 s4 i wr => ∃ k : Nat, k ≤ x.mems.length ∧ i = .int .i64 k ∧ (x.mems.take k).all (memB (decide (x.kind = 6))) = true ∧ Two wr (w.heap.size + 1) s3 k (((x.mems.map pairM).take k).map intV) s4 k (((x.mems.map pairM).take k).map strV1) ∧ Has wr w.heap.size 71 #[.int .i64 x.kind, .string ⟨x.name.toArray⟩, .int .i64 x.low, .int .i64 x.high, .int .i64 x.max, .slice C1 x.syms.length m1, .slice C2 x.mems.length m2, .int .i64 x.key, .int .i64 x.elem, .bool x.opn] ∧ Below w.heap.size w wr) (fun _ _ i _ => x.mems.length - (intOf i).toNat)
 case atStart => exact ⟨0, by omega, rfl, rfl, Two.nil _ _, HT0.out, hB0⟩
 case round =>
  clear T hB0 HT0
  obtain ⟨k, hk, rfl, hall, htw, T, hb⟩ := hrel
  by_cases hlt : k < x.mems.length
  ·
   obtain ⟨b, o, hC2, hb1, hel⟩ := HT.out.mems.elem (by omega)
   obtain ⟨dk, di, dr, hcells, hma⟩ := hel k hlt
   have hlk : k < (x.mems.map pairM).length := by simpa using hlt
   have HT1 : Hid (((x.mems.map pairM).take (k + 1)).map intV = ((x.mems.map pairM).take k).map intV ++ [.int .i64 x.mems[k].id]) := by have h := take_map intV (x.mems.map pairM) k hlk; rw [List.getElem_map] at h; exact h
   have HT2 : Hid (((x.mems.map pairM).take (k + 1)).map strV1 = ((x.mems.map pairM).take k).map strV1 ++ [.string ⟨x.mems[k].name.toArray⟩]) := by have h := take_map strV1 (x.mems.map pairM) k hlk; rw [List.getElem_map] at h; exact h
   have HAL := Lib.hid (all_take (memB (decide (x.kind = 6))) x.mems k hlt)
   have Hmem := Lib.hid (List.getElem_mem hlt)
   generalize x.mems[k] = m at *
   have Hall := Lib.hid hall
   obtain ⟨D1, d1, D2, d2, D3, d3, rfl, rfl, rfl, -, -, -⟩ := hma.dflt.forms
   obtain ⟨y0, y1, y2, y3, y4, y5, y6, y7, y8, y9, y10, y11, y12⟩ := hcells
   have x0 := (hb.cell (p := ⟨b, _, none⟩) hb1).trans y0
   have x1 := (hb.cell (p := ⟨b, _, none⟩) hb1).trans y1
   have x2 := (hb.cell (p := ⟨b, _, none⟩) hb1).trans y2
   have x3 := (hb.cell (p := ⟨b, _, none⟩) hb1).trans y3
   have x4 := (hb.cell (p := ⟨b, _, none⟩) hb1).trans y4
   have x5 := (hb.cell (p := ⟨b, _, none⟩) hb1).trans y5
   have x6 := (hb.cell (p := ⟨b, _, none⟩) hb1).trans y6
   have x7 := (hb.cell (p := ⟨b, _, none⟩) hb1).trans y7
   have x8 := (hb.cell (p := ⟨b, _, none⟩) hb1).trans y8
   have x9 := (hb.cell (p := ⟨b, _, none⟩) hb1).trans y9
   have x10 := (hb.cell (p := ⟨b, _, none⟩) hb1).trans y10
   have x11 := (hb.cell (p := ⟨b, _, none⟩) hb1).trans y11
   have x12 := (hb.cell (p := ⟨b, _, none⟩) hb1).trans y12
   clear y0 y1 y2 y3 y4 y5 y6 y7 y8 y9 y10 y11 y12
   have hi1 : (k : Int) < x.mems.length := by omega
   have hZ1 := htw.rng1
   have hZ2 := htw.rng2
   have HDF := Lib.hid hma.dflt
   clear hel hall hma
   replace T := Lib.hid T
   have TW := Lib.hid (Two.kept htw)
   clear htw
   go_upto_region 6 with fail
   refine am1 (fun wd5 hb4 M => ?_)
   have hl7 := T.out.here
   have hl8 := TW.out.le
   have hl9 := hb.size
   obtain ⟨T, TW⟩ := b2 T TW hb4
   replace hb := dT hb hb4
   clear hb4
   generalize wr.heap.size = g6 at *
   clear x0 x1 x2 x3 x4 x5 x6 x7 x8 x9 x10 x11 x12 hC2
   obtain ⟨gM, hgM⟩ : ∃ g, g = g6 := ⟨_, rfl⟩
   go_cut [3, 4] from 14 to 54 (fun s3 s4 wx => Two wx (w.heap.size + 1) s3 (k + 1) (((x.mems.map pairM).take (k + 1)).map intV) s4 (k + 1) (((x.mems.map pairM).take (k + 1)).map strV1) ∧ Has wx w.heap.size 71 #[.int .i64 x.kind, .string ⟨x.name.toArray⟩, .int .i64 x.low, .int .i64 x.high, .int .i64 x.max, .slice C1 x.syms.length m1, .slice C2 x.mems.length m2, .int .i64 x.key, .int .i64 x.elem, .bool x.opn] ∧ Has wx g6 83 #[.int .i64 m.id, .string ⟨m.name.toArray⟩, .int .i64 m.ty, .bool m.crit, .bool m.hasDef, .int .i64 m.dflt.kind, .bool m.dflt.bool, .int .i64 m.dflt.num, .string ⟨m.dflt.str.toArray⟩, .int .i64 m.dflt.id, .slice D1 m.dflt.keys.length d1, .slice D2 m.dflt.items.length d2, .slice D3 m.dflt.rest.length d3] ∧ Below w.heap.size w wx)
   case first =>
    clear hgM
    have cM_0 := M.out.e0
    have cM_1 := M.out.e1
    refine wp_region_held_drew (S := (fun w' => w'.cell? ⟨g6, 0, none⟩ = some (.int .i64 m.id) ∧ w'.cell? ⟨g6, 1, none⟩ = some (.string ⟨m.name.toArray⟩))) (by kernel_rfl) ⟨cM_0, cM_1⟩ (fun hHeld => ?_)
    clear cM_0 cM_1
    have hb10 : Below wd5.heap.size wd5 (wd5.drew) := (Below.refl _ _).drew
    obtain ⟨T, M, TW⟩ := b3 T M TW hb10
    replace hb := dT hb hb10
    clear hb10
    generalize wd5.drew = wd11 at *
    refine wpAnyH_take (i := 0) (v := ?_) rfl (by kernel_rfl) (by kernel_rfl) (by kernel_rfl) (fun _ _ _ h => h) (Or.inl ⟨by rfl, ?_⟩) (by assumption) ?_
    case refine_2 => (intro w hSw; (try dsimp only at hSw); go_simp; (first | done | with_reducible rfl))
    try simp only [put_laws]
    refine wpAnyH_take (i := 1) (v := ?_) rfl (by kernel_rfl) (by kernel_rfl) (by kernel_rfl) (fun _ _ _ h => h) (Or.inl ⟨by rfl, ?_⟩) (by assumption) ?_
    case refine_2 => (intro w hSw; (try dsimp only at hSw); go_simp; (first | done | with_reducible rfl))
    try simp only [put_laws]
    refine wpAnyH_take (i := 2) (v := ?_) rfl (by kernel_rfl) (by kernel_rfl) (by kernel_rfl) (fun _ _ _ h => h) (Or.inl ⟨by rfl, ?_⟩) (by assumption) ?_
    case refine_2 => (intro w hSw; (try dsimp only at hSw); go_simp; (first | done | with_reducible rfl))
    try simp only [put_laws]
    refine wpAnyH_take (i := 5) (v := ?_) rfl (by kernel_rfl) (by kernel_rfl) (by kernel_rfl) (fun _ _ _ h => h) (Or.inl ⟨by rfl, ?_⟩) (by assumption) ?_
    case refine_2 => (intro w hSw; (try dsimp only at hSw); go_simp; (first | done | with_reducible rfl))
    try simp only [put_laws]
    refine wpAnyH_take (i := 6) (v := ?_) rfl (by kernel_rfl) (by kernel_rfl) (by kernel_rfl) (fun _ _ _ h => h) (Or.inl ⟨by rfl, ?_⟩) (by assumption) ?_
    case refine_2 => (intro w hSw; (try dsimp only at hSw); go_simp; (first | done | with_reducible rfl))
    try simp only [put_laws]
    refine wpAnyH_take (i := 7) (v := ?_) rfl (by kernel_rfl) (by kernel_rfl) (by kernel_rfl) (fun _ _ _ h => h) (Or.inl ⟨by rfl, ?_⟩) (by assumption) ?_
    case refine_2 => (intro w hSw; (try dsimp only at hSw); go_simp; (first | done | with_reducible rfl))
    try simp only [put_laws]
    refine wpAnyH_ready (rs := [3, 8]) (by kernel_rfl) (by simp) ?_
    refine AllReadyH.cons rfl (fun K hK => ?_) (AllReadyH.cons rfl (fun K hK => ?_) (AllReadyH.nil))
    ·
     skip
     go_simp
     refine am1 (fun wd13 hb12 N1 => ?_)
     have hl15 := T.out.here
     have hl16 := M.out.here
     have hl17 := TW.out.le
     have hl18 := hb.size
     obtain ⟨T, M, TW⟩ := b3 T M TW hb12
     replace hb := dT hb hb12
     clear hb12
     generalize wd11.heap.size = g14 at *
     try clear hHeld
     refine hK.out _ _ (⟨M.out.cell 0, M.out.cell 1⟩) (fun hHeld => ?_)
     clear hK K
     refine wpAnyH_ready (rs := [4, 8]) (by kernel_rfl) (by simp) ?_
     refine AllReadyH.cons rfl (fun K hK => ?_) (AllReadyH.cons rfl (fun K hK => ?_) (AllReadyH.nil))
     ·
      skip
      refine step_two1 (by rfl) _ _ (by rfl) TW.out.now (.int .i64 m.id) (by rfl) N1.out (by rfl) rfl (by omega) T.out.here ?_
      intro v1' w1 htw hbB hkk
      clear TW
      replace T := dG T hkk (fun hh => by have := hZ1 _ hh; omega)
      replace M := dG M hkk (fun hh => by have := hZ1 _ hh; omega)
      replace N1 := dG N1 hkk (fun hh => by have := hZ1 _ hh; omega)
      replace hb := hb.trans (hbB.mono (show w.heap.size ≤ w.heap.size + 1 by omega))
      have TW := Lib.hid (Two.kept htw)
      clear htw hkk hbB
      try clear hHeld
      refine hK.out _ _ (⟨M.out.cell 0, M.out.cell 1⟩) (fun hHeld => ?_)
      clear hK K
      refine wpAnyH_ready (rs := [8]) (by kernel_rfl) (by simp) ?_
      refine AllReadyH.cons rfl (fun K hK => ?_) (AllReadyH.nil)
      go_simp
      refine am1 (fun wd20 hb19 N2 => ?_)
      have hl22 := T.out.here
      have hl23 := M.out.here
      have hl24 := N1.out.here
      have hl25 := TW.out.le
      have hl26 := hb.size
      obtain ⟨T, M, N1, TW⟩ := b4 T M N1 TW hb19
      replace hb := dT hb hb19
      clear hb19
      generalize w1.heap.size = g21 at *
      try clear hHeld
      refine hK.out _ _ (⟨M.out.cell 0, M.out.cell 1⟩) (fun hHeld => ?_)
      clear hK K
      refine wpAnyH_ready (rs := [9]) (by kernel_rfl) (by simp) ?_
      refine AllReadyH.cons rfl (fun K hK => ?_) (AllReadyH.nil)
      refine step_two2 (by rfl) _ _ (by rfl) TW.out.now (.string ⟨m.name.toArray⟩) (by rfl) N2.out (by rfl) rfl (by omega) T.out.here ?_
      intro v2' w1 htw hbB hkk
      clear TW
      replace T := dG T hkk (fun hh => by have := hZ2 _ hh; omega)
      replace M := dG M hkk (fun hh => by have := hZ2 _ hh; omega)
      replace N1 := dG N1 hkk (fun hh => by have := hZ2 _ hh; omega)
      replace N2 := dG N2 hkk (fun hh => by have := hZ2 _ hh; omega)
      replace hb := hb.trans (hbB.mono (show w.heap.size ≤ w.heap.size + 1 by omega))
      have TW := Lib.hid (Two.kept htw)
      clear htw hkk hbB
      try clear hHeld
      refine hK.out _ _ (⟨M.out.cell 0, M.out.cell 1⟩) (fun hHeld => ?_)
      clear hK K
      refine wpAnyH_take (i := 10) (v := ?_) rfl (by kernel_rfl) (by kernel_rfl) (by kernel_rfl) (fun _ _ _ h => h) (Or.inl ⟨by rfl, ?_⟩) (by assumption) ?_
      case refine_2 => (intro w hSw; (try dsimp only at hSw); go_simp; (first | done | with_reducible rfl))
      try simp only [put_laws]
      refine wpAnyH_take (i := 11) (v := ?_) rfl (by kernel_rfl) (by kernel_rfl) (by kernel_rfl) (fun _ _ _ h => h) (Or.inl ⟨by rfl, ?_⟩) (by assumption) ?_
      case refine_2 => (intro w hSw; (try dsimp only at hSw); go_simp; (first | done | with_reducible rfl))
      try simp only [put_laws]
      refine wpAnyH_done (by kernel_rfl) ?_ _
      try clear hHeld
      go_wp2_with fail
      go_meet
      exact ⟨by rw [HT1.out, HT2.out]; exact TW.out.now, T.out, M.out, hb⟩
     skip
     go_simp
     refine am1 (fun wd20 hb19 N2 => ?_)
     have hl22 := T.out.here
     have hl23 := M.out.here
     have hl24 := N1.out.here
     have hl25 := TW.out.le
     have hl26 := hb.size
     obtain ⟨T, M, N1, TW⟩ := b4 T M N1 TW hb19
     replace hb := dT hb hb19
     clear hb19
     generalize wd13.heap.size = g21 at *
     try clear hHeld
     refine hK.out _ _ (⟨M.out.cell 0, M.out.cell 1⟩) (fun hHeld => ?_)
     clear hK K
     refine wpAnyH_ready (rs := [4]) (by kernel_rfl) (by simp) ?_
     refine AllReadyH.cons rfl (fun K hK => ?_) (AllReadyH.nil)
     refine step_two1 (by rfl) _ _ (by rfl) TW.out.now (.int .i64 m.id) (by rfl) N1.out (by rfl) rfl (by omega) T.out.here ?_
     intro v1' w1 htw hbB hkk
     clear TW
     replace T := dG T hkk (fun hh => by have := hZ1 _ hh; omega)
     replace M := dG M hkk (fun hh => by have := hZ1 _ hh; omega)
     replace N1 := dG N1 hkk (fun hh => by have := hZ1 _ hh; omega)
     replace N2 := dG N2 hkk (fun hh => by have := hZ1 _ hh; omega)
     replace hb := hb.trans (hbB.mono (show w.heap.size ≤ w.heap.size + 1 by omega))
     have TW := Lib.hid (Two.kept htw)
     clear htw hkk hbB
     try clear hHeld
     refine hK.out _ _ (⟨M.out.cell 0, M.out.cell 1⟩) (fun hHeld => ?_)
     clear hK K
     refine wpAnyH_ready (rs := [9]) (by kernel_rfl) (by simp) ?_
     refine AllReadyH.cons rfl (fun K hK => ?_) (AllReadyH.nil)
     refine step_two2 (by rfl) _ _ (by rfl) TW.out.now (.string ⟨m.name.toArray⟩) (by rfl) N2.out (by rfl) rfl (by omega) T.out.here ?_
     intro v2' w1 htw hbB hkk
     clear TW
     replace T := dG T hkk (fun hh => by have := hZ2 _ hh; omega)
     replace M := dG M hkk (fun hh => by have := hZ2 _ hh; omega)
     replace N1 := dG N1 hkk (fun hh => by have := hZ2 _ hh; omega)
     replace N2 := dG N2 hkk (fun hh => by have := hZ2 _ hh; omega)
     replace hb := hb.trans (hbB.mono (show w.heap.size ≤ w.heap.size + 1 by omega))
     have TW := Lib.hid (Two.kept htw)
     clear htw hkk hbB
     try clear hHeld
     refine hK.out _ _ (⟨M.out.cell 0, M.out.cell 1⟩) (fun hHeld => ?_)
     clear hK K
     refine wpAnyH_take (i := 10) (v := ?_) rfl (by kernel_rfl) (by kernel_rfl) (by kernel_rfl) (fun _ _ _ h => h) (Or.inl ⟨by rfl, ?_⟩) (by assumption) ?_
     case refine_2 => (intro w hSw; (try dsimp only at hSw); go_simp; (first | done | with_reducible rfl))
     try simp only [put_laws]
     refine wpAnyH_take (i := 11) (v := ?_) rfl (by kernel_rfl) (by kernel_rfl) (by kernel_rfl) (fun _ _ _ h => h) (Or.inl ⟨by rfl, ?_⟩) (by assumption) ?_
     case refine_2 => (intro w hSw; (try dsimp only at hSw); go_simp; (first | done | with_reducible rfl))
     try simp only [put_laws]
     refine wpAnyH_done (by kernel_rfl) ?_ _
     try clear hHeld
     go_wp2_with fail
     go_meet
     exact ⟨by rw [HT1.out, HT2.out]; exact TW.out.now, T.out, M.out, hb⟩
    skip
    go_simp
    refine am1 (fun wd13 hb12 N2 => ?_)
    have hl15 := T.out.here
    have hl16 := M.out.here
    have hl17 := TW.out.le
    have hl18 := hb.size
    obtain ⟨T, M, TW⟩ := b3 T M TW hb12
    replace hb := dT hb hb12
    clear hb12
    generalize wd11.heap.size = g14 at *
    try clear hHeld
    refine hK.out _ _ (⟨M.out.cell 0, M.out.cell 1⟩) (fun hHeld => ?_)
    clear hK K
    refine wpAnyH_ready (rs := [3]) (by kernel_rfl) (by simp) ?_
    refine AllReadyH.cons rfl (fun K hK => ?_) (AllReadyH.nil)
    go_simp
    refine am1 (fun wd20 hb19 N1 => ?_)
    have hl22 := T.out.here
    have hl23 := M.out.here
    have hl24 := N2.out.here
    have hl25 := TW.out.le
    have hl26 := hb.size
    obtain ⟨T, M, N2, TW⟩ := b4 T M N2 TW hb19
    replace hb := dT hb hb19
    clear hb19
    generalize wd13.heap.size = g21 at *
    try clear hHeld
    refine hK.out _ _ (⟨M.out.cell 0, M.out.cell 1⟩) (fun hHeld => ?_)
    clear hK K
    refine wpAnyH_ready (rs := [4]) (by kernel_rfl) (by simp) ?_
    refine AllReadyH.cons rfl (fun K hK => ?_) (AllReadyH.nil)
    refine step_two1 (by rfl) _ _ (by rfl) TW.out.now (.int .i64 m.id) (by rfl) N1.out (by rfl) rfl (by omega) T.out.here ?_
    intro v1' w1 htw hbB hkk
    clear TW
    replace T := dG T hkk (fun hh => by have := hZ1 _ hh; omega)
    replace M := dG M hkk (fun hh => by have := hZ1 _ hh; omega)
    replace N2 := dG N2 hkk (fun hh => by have := hZ1 _ hh; omega)
    replace N1 := dG N1 hkk (fun hh => by have := hZ1 _ hh; omega)
    replace hb := hb.trans (hbB.mono (show w.heap.size ≤ w.heap.size + 1 by omega))
    have TW := Lib.hid (Two.kept htw)
    clear htw hkk hbB
    try clear hHeld
    refine hK.out _ _ (⟨M.out.cell 0, M.out.cell 1⟩) (fun hHeld => ?_)
    clear hK K
    refine wpAnyH_ready (rs := [9]) (by kernel_rfl) (by simp) ?_
    refine AllReadyH.cons rfl (fun K hK => ?_) (AllReadyH.nil)
    refine step_two2 (by rfl) _ _ (by rfl) TW.out.now (.string ⟨m.name.toArray⟩) (by rfl) N2.out (by rfl) rfl (by omega) T.out.here ?_
    intro v2' w1 htw hbB hkk
    clear TW
    replace T := dG T hkk (fun hh => by have := hZ2 _ hh; omega)
    replace M := dG M hkk (fun hh => by have := hZ2 _ hh; omega)
    replace N2 := dG N2 hkk (fun hh => by have := hZ2 _ hh; omega)
    replace N1 := dG N1 hkk (fun hh => by have := hZ2 _ hh; omega)
    replace hb := hb.trans (hbB.mono (show w.heap.size ≤ w.heap.size + 1 by omega))
    have TW := Lib.hid (Two.kept htw)
    clear htw hkk hbB
    try clear hHeld
    refine hK.out _ _ (⟨M.out.cell 0, M.out.cell 1⟩) (fun hHeld => ?_)
    clear hK K
    refine wpAnyH_take (i := 10) (v := ?_) rfl (by kernel_rfl) (by kernel_rfl) (by kernel_rfl) (fun _ _ _ h => h) (Or.inl ⟨by rfl, ?_⟩) (by assumption) ?_
    case refine_2 => (intro w hSw; (try dsimp only at hSw); go_simp; (first | done | with_reducible rfl))
    try simp only [put_laws]
    refine wpAnyH_take (i := 11) (v := ?_) rfl (by kernel_rfl) (by kernel_rfl) (by kernel_rfl) (fun _ _ _ h => h) (Or.inl ⟨by rfl, ?_⟩) (by assumption) ?_
    case refine_2 => (intro w hSw; (try dsimp only at hSw); go_simp; (first | done | with_reducible rfl))
    try simp only [put_laws]
    refine wpAnyH_done (by kernel_rfl) ?_ _
    try clear hHeld
    go_wp2_with fail
    go_meet
    exact ⟨by rw [HT1.out, HT2.out]; exact TW.out.now, T.out, M.out, hb⟩
   case rest =>
    clear T M TW hb
    subst hgM
    obtain ⟨htw, T, M, hb⟩ := hcut
    replace T := Lib.hid T
    replace M := Lib.hid M
    have TW := Lib.hid (Two.kept htw)
    clear htw hZ1 hZ2
    have hcr : m.crit = true ∨ m.crit = false := by cases m.crit <;> simp
    have hhd : m.hasDef = true ∨ m.hasDef = false := by cases m.hasDef <;> simp
    by_cases hun : x.kind = 6
    ·
     have tun : (x.kind == 6) = true := by simp [hun]
     have Hun : Hid (decide (x.kind = 6) = true) := decide_eq_true hun
     clear hun
     rcases hhd with hhd | hhd
     ·
      have Hm : Hid (memB (decide (x.kind = 6)) m = false) := by show _ = _; unfold memB; rw [Hun.out, hhd]; simp
      rcases hcr with hcr | hcr
      ·
       have cT_0 := T.out.e0
       have cM_3 := M.out.e3
       have cM_4 := M.out.e4
       have Hno : Hid (membersB x = false) := members_no x m Hmem.out Hm.out
       go_wp2_with fail
       go_ret
       exact ⟨ret_bool Hno.out.symm, hb⟩
      have cT_0 := T.out.e0
      have cM_3 := M.out.e3
      have cM_4 := M.out.e4
      have Hno : Hid (membersB x = false) := members_no x m Hmem.out Hm.out
      go_wp2_with fail
      go_ret
      exact ⟨ret_bool Hno.out.symm, hb⟩
     rcases hcr with hcr | hcr
     ·
      have Hm : Hid (memB (decide (x.kind = 6)) m = false) := by show _ = _; unfold memB; rw [Hun.out, hcr]; simp
      have cT_0 := T.out.e0
      have cM_3 := M.out.e3
      have cM_4 := M.out.e4
      have Hno : Hid (membersB x = false) := members_no x m Hmem.out Hm.out
      go_wp2_with fail
      go_ret
      exact ⟨ret_bool Hno.out.symm, hb⟩
     have Hcr := Lib.hid hcr
     have Hhd := Lib.hid hhd
     have cT_0 := T.out.e0
     obtain ⟨-, -, -, cM_3, cM_4, cM_5, cM_6, cM_7, cM_8, cM_9, cM_10, cM_11, cM_12⟩ := M.out.c13
     go_wp2_with fail
     clear cT_0 cM_3 cM_4 cM_5 cM_6 cM_7 cM_8 cM_9 cM_10 cM_11 cM_12
     ((with_reducible refine (blank_any m.dflt _ _ _ _ (HDF.out.on hb)).mono ?_); rintro e wd10 ⟨rfl, hb11⟩)
     obtain ⟨T, M, TW⟩ := b3 T M TW hb11
     replace hb := dT hb hb11
     clear hb11
     cases hbl : sameV m.dflt val0 with
     | true =>
      have Hm : Hid (memB (decide (x.kind = 6)) m = true) := by show _ = _; unfold memB; rw [Hun.out, Hcr.out, Hhd.out, hbl]; rfl
      clear hbl
      go_wp2_with fail
      go_roundw
      case rel => exact ⟨k + 1, by omega, by go_num, by rw [HAL.out, Hm.out, Bool.and_true]; exact Hall.out, TW.out.now, T.out, hb⟩
      case measure => simp [intOf]; omega
     | false =>
      have Hm : Hid (memB (decide (x.kind = 6)) m = false) := by show _ = _; unfold memB; rw [Hun.out, Hcr.out, Hhd.out, hbl]; simp
      clear hbl
      have Hno : Hid (membersB x = false) := members_no x m Hmem.out Hm.out
      have cT_0 := T.out.e0
      go_wp2_with fail
      go_ret
      exact ⟨ret_bool Hno.out.symm, hb⟩
    have tun : (x.kind == 6) = false := by simpa using hun
    have Hun : Hid (decide (x.kind = 6) = false) := decide_eq_false hun
    clear hun
    rcases hhd with hhd | hhd
    ·
     rcases hcr with hcr | hcr
     ·
      have Hm : Hid (memB (decide (x.kind = 6)) m = false) := by show _ = _; unfold memB; rw [Hun.out, hhd, hcr]; rfl
      have cT_0 := T.out.e0
      have cM_3 := M.out.e3
      have cM_4 := M.out.e4
      have Hno : Hid (membersB x = false) := members_no x m Hmem.out Hm.out
      go_wp2_with fail
      go_ret
      exact ⟨ret_bool Hno.out.symm, hb⟩
     have Hm : Hid (memB (decide (x.kind = 6)) m = true) := by show _ = _; unfold memB; rw [Hun.out, hhd, hcr]; rfl
     have cT_0 := T.out.e0
     have cM_3 := M.out.e3
     have cM_4 := M.out.e4
     go_wp2_with fail
     go_roundw
     case rel => exact ⟨k + 1, by omega, by go_num, by rw [HAL.out, Hm.out, Bool.and_true]; exact Hall.out, TW.out.now, T.out, hb⟩
     case measure => simp [intOf]; omega
    rcases hcr with hcr | hcr
    ·
     have Hcr := Lib.hid hcr
     have Hhd := Lib.hid hhd
     have cT_0 := T.out.e0
     obtain ⟨-, -, -, cM_3, cM_4, cM_5, cM_6, cM_7, cM_8, cM_9, cM_10, cM_11, cM_12⟩ := M.out.c13
     go_wp2_with fail
     clear cT_0 cM_3 cM_4 cM_5 cM_6 cM_7 cM_8 cM_9 cM_10 cM_11 cM_12
     ((with_reducible refine (blank_any m.dflt _ _ _ _ (HDF.out.on hb)).mono ?_); rintro e wd10 ⟨rfl, hb11⟩)
     obtain ⟨T, M, TW⟩ := b3 T M TW hb11
     replace hb := dT hb hb11
     clear hb11
     cases hbl : sameV m.dflt val0 with
     | true =>
      have Hm : Hid (memB (decide (x.kind = 6)) m = true) := by show _ = _; unfold memB; rw [Hun.out, Hcr.out, Hhd.out, hbl]; rfl
      clear hbl
      go_wp2_with fail
      go_roundw
      case rel => exact ⟨k + 1, by omega, by go_num, by rw [HAL.out, Hm.out, Bool.and_true]; exact Hall.out, TW.out.now, T.out, hb⟩
      case measure => simp [intOf]; omega
     | false =>
      have Hm : Hid (memB (decide (x.kind = 6)) m = false) := by show _ = _; unfold memB; rw [Hun.out, Hcr.out, Hhd.out, hbl]; simp
      clear hbl
      have Hno : Hid (membersB x = false) := members_no x m Hmem.out Hm.out
      have cT_0 := T.out.e0
      go_wp2_with fail
      go_ret
      exact ⟨ret_bool Hno.out.symm, hb⟩
    have Hcr := Lib.hid hcr
    have Hhd := Lib.hid hhd
    have cT_0 := T.out.e0
    obtain ⟨-, -, -, cM_3, cM_4, cM_5, cM_6, cM_7, cM_8, cM_9, cM_10, cM_11, cM_12⟩ := M.out.c13
    go_wp2_with fail
    clear cT_0 cM_3 cM_4 cM_5 cM_6 cM_7 cM_8 cM_9 cM_10 cM_11 cM_12
    ((with_reducible refine (blank_any m.dflt _ _ _ _ (HDF.out.on hb)).mono ?_); rintro e wd10 ⟨rfl, hb11⟩)
    obtain ⟨T, M, TW⟩ := b3 T M TW hb11
    replace hb := dT hb hb11
    clear hb11
    cases hbl : sameV m.dflt val0 with
    | true =>
     have Hm : Hid (memB (decide (x.kind = 6)) m = true) := by show _ = _; unfold memB; rw [Hun.out, Hcr.out, Hhd.out, hbl]; rfl
     clear hbl
     go_wp2_with fail
     go_roundw
     case rel => exact ⟨k + 1, by omega, by go_num, by rw [HAL.out, Hm.out, Bool.and_true]; exact Hall.out, TW.out.now, T.out, hb⟩
     case measure => simp [intOf]; omega
    | false =>
     have Hm : Hid (memB (decide (x.kind = 6)) m = false) := by show _ = _; unfold memB; rw [Hun.out, Hcr.out, Hhd.out, hbl]; simp
     clear hbl
     have Hno : Hid (membersB x = false) := members_no x m Hmem.out Hm.out
     have cT_0 := T.out.e0
     go_wp2_with fail
     go_ret
     exact ⟨ret_bool Hno.out.symm, hb⟩
  obtain rfl : k = x.mems.length := by omega
  rw [List.take_of_length_le (Nat.le_refl _)] at hall
  rw [List.take_of_length_le (by simp)] at htw
  have hlm : (x.mems.map pairM).length = x.mems.length := by simp
  obtain ⟨S3, c3, rfl⟩ := own_form htw.o1
  obtain ⟨S4, c4, rfl⟩ := own_form htw.o2
  have hr1 := Rd.of_own htw.o1
  have hr2 := Rd.of_own htw.o2
  have hids : ∀ W, Below wr.heap.size wr W → Calls Tryz.prog 146 #[.slice S3 x.mems.length c3, .slice S4 x.mems.length c4] W fun e w' => e = .returned (.bool (idsB (x.mems.map pairM))) ∧ Below W.heap.size W w' := fun W hW =>
   sids_any (x.mems.map pairM) _ _ W (by omega) HIN.out (by rw [hlm]; exact (hr1.below hW).mono hW.size) (by rw [hlm]; exact (hr2.below hW).mono hW.size)
  have HI := Lib.hid hids
  have hmb : membersB x = ((decide (x.kind = 5) || decide (0 < x.mems.length)) && idsB (x.mems.map pairM)) := by unfold membersB; rw [hall]; rfl
  clear htw hr1 hr2 hids hall hlm
  replace T := Lib.hid T
  by_cases h5 : x.kind = 5
  ·
   have t5 : (x.kind == 5) = true := by simp [h5]
   have Hs : Hid (membersB x = idsB (x.mems.map pairM)) := by show _ = _; rw [hmb, decide_eq_true h5]; rfl
   clear hmb h5
   have cT_0 := T.out.e0
   go_wp2_with fail
   clear cT_0
   ((with_reducible refine (HI.out _ (Below.refl _ _)).mono ?_); rintro e wd4 ⟨rfl, hb5⟩)
   replace T := b1 T hb5
   replace hb := dT hb hb5
   clear hb5
   go_wp2_with fail
   go_ret
   exact ⟨ret_bool Hs.out.symm, hb⟩
  have t5 : (x.kind == 5) = false := by simpa using h5
  by_cases h0 : x.mems.length = 0
  ·
   have Hs : Hid (membersB x = false) := by show _ = _; rw [hmb, decide_eq_false h5, h0]; rfl
   have hd : decide (0 < x.mems.length) = false := decide_eq_false (by omega)
   have Hn := Lib.hid h0
   clear hmb h5 h0
   have cT_0 := T.out.e0
   go_wp2_with fail
   go_ret
   exact ⟨ret_bool Hs.out.symm, hb⟩
  have Hs : Hid (membersB x = idsB (x.mems.map pairM)) := by show _ = _; rw [hmb, decide_eq_true (show 0 < x.mems.length by omega), Bool.or_true]; rfl
  have hd : decide (0 < x.mems.length) = true := decide_eq_true (by omega)
  have hd2 : (0 : Int) < x.mems.length := by omega
  clear hmb h5 h0
  have cT_0 := T.out.e0
  go_wp2_with fail
  clear cT_0
  ((with_reducible refine (HI.out _ (Below.refl _ _)).mono ?_); rintro e wd4 ⟨rfl, hb5⟩)
  replace T := b1 T hb5
  replace hb := dT hb hb5
  clear hb5
  go_wp2_with fail
  go_ret
  exact ⟨ret_bool Hs.out.symm, hb⟩
end Go.Proofs.YtlamhkffnlgofaaGreatDoor

/- What schema.members computes. No condition. -/
import Derived.Test.YtccmmibkihbobaaDoorSym
import Derived.Test.YtccmmibkihbobaaDoorEqZ
set_option maxHeartbeats 4000000
namespace Go.Proofs.YtccmmibkihbobaaDoor
open Go.ChangeShapes Go.WideShapes Go.ChangeAt Go.RowKit
theorem Two.rng1 {w : World} {B n1 n2 : Nat} {v1 v2 : Value} {xs1 xs2 : List Value} (h : Two w B v1 n1 xs1 v2 n2 xs2) : ∀ k, v1.ownBlock = some k → B ≤ k ∧ k < w.heap.size := fun k hk => h.o1.lt k hk
theorem Two.rng2 {w : World} {B n1 n2 : Nat} {v1 v2 : Value} {xs1 xs2 : List Value} (h : Two w B v1 n1 xs1 v2 n2 xs2) : ∀ k, v2.ownBlock = some k → B ≤ k ∧ k < w.heap.size := fun k hk => h.o2.lt k hk
def pairM (m : Mem) : Raw := (m.id, m.name)
def memB (un : Bool) (m : Mem) : Bool := !(un && (m.crit || m.hasDef)) && (!(m.crit && m.hasDef) && (m.hasDef || sameV m.dflt val0))
def membersB (x : Typ) : Bool := x.mems.all (memB (decide (x.kind = 6))) && ((decide (x.kind = 5) || decide (0 < x.mems.length)) && idsB (x.mems.map pairM))
theorem members_no (x : Typ) (m : Mem) (hm : m ∈ x.mems) (h : memB (decide (x.kind = 6)) m = false) : membersB x = false := by
 have : x.mems.all (memB (decide (x.kind = 6))) = false := by
  rw [List.all_eq_false]
  exact ⟨m, hm, by simp [h]⟩
 unfold membersB; rw [this]; rfl
theorem all_take (f : Mem → Bool) (l : List Mem) (k : Nat) (h : k < l.length) : (l.take (k + 1)).all f = ((l.take k).all f && f l[k]) := by
 rw [List.take_succ_eq_append_getElem h, List.all_append]; simp
theorem mems_in {w : World} {B : Nat} {v : Value} {ms : List Mem} (h : RdMems w B v ms) : ∀ r ∈ ms.map pairM, RawIn r := by
 intro r hr
 obtain ⟨m, hm, rfl⟩ := List.mem_map.1 hr
 obtain ⟨i, hi, rfl⟩ := List.getElem_of_mem hm
 obtain ⟨c, _, h2⟩ := h
 obtain ⟨_, _, _, _, hma⟩ := h2 i hi
 exact ⟨hma.ints.1, hma.namel⟩
set_option maxRecDepth 100000 in
theorem members_any (x : Typ) (vs vm : Value) (w : World) (hl : x.mems.length ≤ 6000000000000) (ht : TypAt w w.heap.size x vs vm) :
  Calls Tryd.prog 59 #[typA x vs vm] w fun e w' => e = .returned (.bool (membersB x)) ∧ Below w.heap.size w w' := by
 obtain ⟨C1, m1, C2, m2, rfl, rfl, -, -⟩ := ht.forms
 have HT := Lib.hid ht
 have HIN := Lib.hid (mems_in ht.mems)
 clear ht
 go_enter Tryd.func59, Tryd.ntmps59
 go_upto_region 3 with fail
 obtain ⟨wd2, hE3⟩ : ∃ ww, ww = w.alloc (.cells #[.int .i64 x.kind, .string ⟨x.name.toArray⟩, .int .i64 x.low, .int .i64 x.high, .int .i64 x.max, .slice C1 x.syms.length m1, .slice C2 x.mems.length m2, .int .i64 x.key, .int .i64 x.elem, .bool x.opn] 33) := ⟨_, rfl⟩
 rw [← hE3]
 have hb1 := aB hE3
 have T := aN hE3
 clear hE3
 have hw4 := hb1
 clear hb1
 have cT_6 : wd2.cell? ⟨w.heap.size, 6, none⟩ = some (.slice C2 x.mems.length m2) := T.out.cell 6
 have hT0 := T.out
 have hB0 := hw4
 have HT0 := Lib.hid hT0
 clear hT0
 go_wp2_with fail
 go_loopw [3, 4, 10] (fun s3 s4 i wr => ∃ k : Nat, k ≤ x.mems.length ∧ i = .int .i64 k ∧ (x.mems.take k).all (memB (decide (x.kind = 6))) = true ∧ Two wr (w.heap.size + 1) s3 k (((x.mems.map pairM).take k).map intV) s4 k (((x.mems.map pairM).take k).map strV1) ∧ Has wr w.heap.size 33 #[.int .i64 x.kind, .string ⟨x.name.toArray⟩, .int .i64 x.low, .int .i64 x.high, .int .i64 x.max, .slice C1 x.syms.length m1, .slice C2 x.mems.length m2, .int .i64 x.key, .int .i64 x.elem, .bool x.opn] ∧ Below w.heap.size w wr) (fun _ _ i _ => x.mems.length - (intOf i).toNat)
 case atStart => exact ⟨0, by omega, rfl, rfl, Two.nil _ _, HT0.out, hB0⟩
 case round =>
  clear T hB0 HT0
  obtain ⟨k, hk, rfl, hall, htw, T, hb⟩ := hrel
  by_cases hlt : k < x.mems.length
  ·
   obtain ⟨b, o, hC2, hb1, hel⟩ := HT.out.mems.elem (by omega)
   obtain ⟨dk, di, dr, hcells, hma⟩ := hel k hlt
   have hlk : k < (x.mems.map pairM).length := by simpa using hlt
   have HT1 : Hid (((x.mems.map pairM).take (k + 1)).map intV = ((x.mems.map pairM).take k).map intV ++ [.int .i64 x.mems[k].id]) := by have h := take_map intV (x.mems.map pairM) k hlk; rw [List.getElem_map] at h; exact h
   have HT2 : Hid (((x.mems.map pairM).take (k + 1)).map strV1 = ((x.mems.map pairM).take k).map strV1 ++ [.string ⟨x.mems[k].name.toArray⟩]) := by have h := take_map strV1 (x.mems.map pairM) k hlk; rw [List.getElem_map] at h; exact h
   have HAL := Lib.hid (all_take (memB (decide (x.kind = 6))) x.mems k hlt)
   have Hmem := Lib.hid (List.getElem_mem hlt)
   generalize x.mems[k] = m at *
   have Hall := Lib.hid hall
   obtain ⟨D1, d1, D2, d2, D3, d3, rfl, rfl, rfl, -, -, -⟩ := hma.dflt.forms
   obtain ⟨y0, y1, y2, y3, y4, y5, y6, y7, y8, y9, y10, y11, y12⟩ := hcells
   have x0 := (hb.cell (p := ⟨b, _, none⟩) hb1).trans y0
   have x1 := (hb.cell (p := ⟨b, _, none⟩) hb1).trans y1
   have x2 := (hb.cell (p := ⟨b, _, none⟩) hb1).trans y2
   have x3 := (hb.cell (p := ⟨b, _, none⟩) hb1).trans y3
   have x4 := (hb.cell (p := ⟨b, _, none⟩) hb1).trans y4
   have x5 := (hb.cell (p := ⟨b, _, none⟩) hb1).trans y5
   have x6 := (hb.cell (p := ⟨b, _, none⟩) hb1).trans y6
   have x7 := (hb.cell (p := ⟨b, _, none⟩) hb1).trans y7
   have x8 := (hb.cell (p := ⟨b, _, none⟩) hb1).trans y8
   have x9 := (hb.cell (p := ⟨b, _, none⟩) hb1).trans y9
   have x10 := (hb.cell (p := ⟨b, _, none⟩) hb1).trans y10
   have x11 := (hb.cell (p := ⟨b, _, none⟩) hb1).trans y11
   have x12 := (hb.cell (p := ⟨b, _, none⟩) hb1).trans y12
   clear y0 y1 y2 y3 y4 y5 y6 y7 y8 y9 y10 y11 y12
   have hi1 : (k : Int) < x.mems.length := by omega
   have hZ1 := htw.rng1
   have hZ2 := htw.rng2
   have HDF := Lib.hid hma.dflt
   clear hel hall hma
   replace T := Lib.hid T
   have TW := Lib.hid (Two.kept htw)
   clear htw
   go_upto_region 6 with fail
   obtain ⟨wd6, hE7⟩ : ∃ ww, ww = wr.alloc (.cells #[.int .i64 m.id, .string ⟨m.name.toArray⟩, .int .i64 m.ty, .bool m.crit, .bool m.hasDef, .int .i64 m.dflt.kind, .bool m.dflt.bool, .int .i64 m.dflt.num, .string ⟨m.dflt.str.toArray⟩, .int .i64 m.dflt.id, .slice D1 m.dflt.keys.length d1, .slice D2 m.dflt.items.length d2, .slice D3 m.dflt.rest.length d3] 73) := ⟨_, rfl⟩
   rw [← hE7]
   have hb5 := aB hE7
   have M := aN hE7
   clear hE7
   have hl9 := T.out.here
   have hl10 := TW.out.le
   have hl11 := hb.size
   replace T := dB T hb5
   replace TW := dK TW hb5
   replace hb := dT hb hb5
   clear hb5
   generalize wr.heap.size = g8 at *
   clear x0 x1 x2 x3 x4 x5 x6 x7 x8 x9 x10 x11 x12 hC2
   obtain ⟨gM, hgM⟩ : ∃ g, g = g8 := ⟨_, rfl⟩
   go_cut [3, 4] from 14 to 54 (fun s3 s4 wx => Two wx (w.heap.size + 1) s3 (k + 1) (((x.mems.map pairM).take (k + 1)).map intV) s4 (k + 1) (((x.mems.map pairM).take (k + 1)).map strV1) ∧ Has wx w.heap.size 33 #[.int .i64 x.kind, .string ⟨x.name.toArray⟩, .int .i64 x.low, .int .i64 x.high, .int .i64 x.max, .slice C1 x.syms.length m1, .slice C2 x.mems.length m2, .int .i64 x.key, .int .i64 x.elem, .bool x.opn] ∧ Has wx g8 73 #[.int .i64 m.id, .string ⟨m.name.toArray⟩, .int .i64 m.ty, .bool m.crit, .bool m.hasDef, .int .i64 m.dflt.kind, .bool m.dflt.bool, .int .i64 m.dflt.num, .string ⟨m.dflt.str.toArray⟩, .int .i64 m.dflt.id, .slice D1 m.dflt.keys.length d1, .slice D2 m.dflt.items.length d2, .slice D3 m.dflt.rest.length d3] ∧ Below w.heap.size w wx)
   case first =>
    clear hgM
    have cM_0 : wd6.cell? ⟨g8, 0, none⟩ = some (.int .i64 m.id) := M.out.cell 0
    have cM_1 : wd6.cell? ⟨g8, 1, none⟩ = some (.string ⟨m.name.toArray⟩) := M.out.cell 1
    refine wp_region_held_drew (S := (fun w' => w'.cell? ⟨g8, 0, none⟩ = some (.int .i64 m.id) ∧ w'.cell? ⟨g8, 1, none⟩ = some (.string ⟨m.name.toArray⟩))) (by kernel_rfl) ⟨cM_0, cM_1⟩ (fun hHeld => ?_)
    clear cM_0 cM_1
    have hb12 : Below wd6.heap.size wd6 (wd6.drew) := (Below.refl _ _).drew
    replace T := dB T hb12
    replace M := dB M hb12
    replace TW := dK TW hb12
    replace hb := dT hb hb12
    clear hb12
    generalize wd6.drew = wd13 at *
    refine wpAnyH_take (i := 0) (v := ?vk14) rfl (by kernel_rfl) (by kernel_rfl) (by kernel_rfl) (fun _ _ _ h => h) (Or.inl ⟨by rfl, ?hk14⟩) (by assumption) ?rk14
    case hk14 => (intro w hSw; (try dsimp only at hSw); go_simp; (first | done | with_reducible rfl))
    try simp only [put_laws]
    refine wpAnyH_take (i := 1) (v := ?vk15) rfl (by kernel_rfl) (by kernel_rfl) (by kernel_rfl) (fun _ _ _ h => h) (Or.inl ⟨by rfl, ?hk15⟩) (by assumption) ?rk15
    case hk15 => (intro w hSw; (try dsimp only at hSw); go_simp; (first | done | with_reducible rfl))
    try simp only [put_laws]
    refine wpAnyH_take (i := 2) (v := ?vk16) rfl (by kernel_rfl) (by kernel_rfl) (by kernel_rfl) (fun _ _ _ h => h) (Or.inl ⟨by rfl, ?hk16⟩) (by assumption) ?rk16
    case hk16 => (intro w hSw; (try dsimp only at hSw); go_simp; (first | done | with_reducible rfl))
    try simp only [put_laws]
    refine wpAnyH_take (i := 5) (v := ?vk17) rfl (by kernel_rfl) (by kernel_rfl) (by kernel_rfl) (fun _ _ _ h => h) (Or.inl ⟨by rfl, ?hk17⟩) (by assumption) ?rk17
    case hk17 => (intro w hSw; (try dsimp only at hSw); go_simp; (first | done | with_reducible rfl))
    try simp only [put_laws]
    refine wpAnyH_take (i := 6) (v := ?vk18) rfl (by kernel_rfl) (by kernel_rfl) (by kernel_rfl) (fun _ _ _ h => h) (Or.inl ⟨by rfl, ?hk18⟩) (by assumption) ?rk18
    case hk18 => (intro w hSw; (try dsimp only at hSw); go_simp; (first | done | with_reducible rfl))
    try simp only [put_laws]
    refine wpAnyH_take (i := 7) (v := ?vk19) rfl (by kernel_rfl) (by kernel_rfl) (by kernel_rfl) (fun _ _ _ h => h) (Or.inl ⟨by rfl, ?hk19⟩) (by assumption) ?rk19
    case hk19 => (intro w hSw; (try dsimp only at hSw); go_simp; (first | done | with_reducible rfl))
    try simp only [put_laws]
    refine wpAnyH_ready (rs := [3, 8]) (by kernel_rfl) (by simp) ?_
    refine AllReadyH.cons rfl (fun K hK => ?_) (AllReadyH.cons rfl (fun K hK => ?_) (AllReadyH.nil))
    ·
     skip
     go_simp
     obtain ⟨wd21, hE22⟩ : ∃ ww, ww = wd13.alloc (.cells #[.int .i64 m.id] 3) := ⟨_, rfl⟩
     rw [← hE22]
     have hb20 := aB hE22
     have N1 := aN hE22
     clear hE22
     have hl24 := T.out.here
     have hl25 := M.out.here
     have hl26 := TW.out.le
     have hl27 := hb.size
     replace T := dB T hb20
     replace M := dB M hb20
     replace TW := dK TW hb20
     replace hb := dT hb hb20
     clear hb20
     generalize wd13.heap.size = g23 at *
     try clear hHeld
     refine hK.out _ _ (⟨M.out.cell 0, M.out.cell 1⟩) (fun hHeld => ?_)
     clear hK K
     refine wpAnyH_ready (rs := [4, 8]) (by kernel_rfl) (by simp) ?_
     refine AllReadyH.cons rfl (fun K hK => ?_) (AllReadyH.cons rfl (fun K hK => ?_) (AllReadyH.nil))
     ·
      skip
      refine step_two1 (by rfl) _ _ (by rfl) TW.out.now (.int .i64 m.id) (by rfl) N1.out (by rfl) rfl (by omega) T.out.here ?_
      intro v1' w1 htw hbB hkk
      clear TW
      replace T := dG T hkk (fun hh => by have := hZ1 _ hh; omega)
      replace M := dG M hkk (fun hh => by have := hZ1 _ hh; omega)
      replace N1 := dG N1 hkk (fun hh => by have := hZ1 _ hh; omega)
      replace hb := hb.trans (hbB.mono (show w.heap.size ≤ w.heap.size + 1 by omega))
      have TW := Lib.hid (Two.kept htw)
      clear htw hkk hbB
      try clear hHeld
      refine hK.out _ _ (⟨M.out.cell 0, M.out.cell 1⟩) (fun hHeld => ?_)
      clear hK K
      refine wpAnyH_ready (rs := [8]) (by kernel_rfl) (by simp) ?_
      refine AllReadyH.cons rfl (fun K hK => ?_) (AllReadyH.nil)
      go_simp
      obtain ⟨wd29, hE30⟩ : ∃ ww, ww = w1.alloc (.cells #[.string ⟨m.name.toArray⟩] 9) := ⟨_, rfl⟩
      rw [← hE30]
      have hb28 := aB hE30
      have N2 := aN hE30
      clear hE30
      have hl32 := T.out.here
      have hl33 := M.out.here
      have hl34 := N1.out.here
      have hl35 := TW.out.le
      have hl36 := hb.size
      replace T := dB T hb28
      replace M := dB M hb28
      replace N1 := dB N1 hb28
      replace TW := dK TW hb28
      replace hb := dT hb hb28
      clear hb28
      generalize w1.heap.size = g31 at *
      try clear hHeld
      refine hK.out _ _ (⟨M.out.cell 0, M.out.cell 1⟩) (fun hHeld => ?_)
      clear hK K
      refine wpAnyH_ready (rs := [9]) (by kernel_rfl) (by simp) ?_
      refine AllReadyH.cons rfl (fun K hK => ?_) (AllReadyH.nil)
      refine step_two2 (by rfl) _ _ (by rfl) TW.out.now (.string ⟨m.name.toArray⟩) (by rfl) N2.out (by rfl) rfl (by omega) T.out.here ?_
      intro v2' w1 htw hbB hkk
      clear TW
      replace T := dG T hkk (fun hh => by have := hZ2 _ hh; omega)
      replace M := dG M hkk (fun hh => by have := hZ2 _ hh; omega)
      replace N1 := dG N1 hkk (fun hh => by have := hZ2 _ hh; omega)
      replace N2 := dG N2 hkk (fun hh => by have := hZ2 _ hh; omega)
      replace hb := hb.trans (hbB.mono (show w.heap.size ≤ w.heap.size + 1 by omega))
      have TW := Lib.hid (Two.kept htw)
      clear htw hkk hbB
      try clear hHeld
      refine hK.out _ _ (⟨M.out.cell 0, M.out.cell 1⟩) (fun hHeld => ?_)
      clear hK K
      refine wpAnyH_take (i := 10) (v := ?vk37) rfl (by kernel_rfl) (by kernel_rfl) (by kernel_rfl) (fun _ _ _ h => h) (Or.inl ⟨by rfl, ?hk37⟩) (by assumption) ?rk37
      case hk37 => (intro w hSw; (try dsimp only at hSw); go_simp; (first | done | with_reducible rfl))
      try simp only [put_laws]
      refine wpAnyH_take (i := 11) (v := ?vk38) rfl (by kernel_rfl) (by kernel_rfl) (by kernel_rfl) (fun _ _ _ h => h) (Or.inl ⟨by rfl, ?hk38⟩) (by assumption) ?rk38
      case hk38 => (intro w hSw; (try dsimp only at hSw); go_simp; (first | done | with_reducible rfl))
      try simp only [put_laws]
      refine wpAnyH_done (by kernel_rfl) ?_ _
      try clear hHeld
      go_wp2_with fail
      go_meet
      exact ⟨by rw [HT1.out, HT2.out]; exact TW.out.now, T.out, M.out, hb⟩
     skip
     go_simp
     obtain ⟨wd40, hE41⟩ : ∃ ww, ww = wd21.alloc (.cells #[.string ⟨m.name.toArray⟩] 9) := ⟨_, rfl⟩
     rw [← hE41]
     have hb39 := aB hE41
     have N2 := aN hE41
     clear hE41
     have hl43 := T.out.here
     have hl44 := M.out.here
     have hl45 := N1.out.here
     have hl46 := TW.out.le
     have hl47 := hb.size
     replace T := dB T hb39
     replace M := dB M hb39
     replace N1 := dB N1 hb39
     replace TW := dK TW hb39
     replace hb := dT hb hb39
     clear hb39
     generalize wd21.heap.size = g42 at *
     try clear hHeld
     refine hK.out _ _ (⟨M.out.cell 0, M.out.cell 1⟩) (fun hHeld => ?_)
     clear hK K
     refine wpAnyH_ready (rs := [4]) (by kernel_rfl) (by simp) ?_
     refine AllReadyH.cons rfl (fun K hK => ?_) (AllReadyH.nil)
     refine step_two1 (by rfl) _ _ (by rfl) TW.out.now (.int .i64 m.id) (by rfl) N1.out (by rfl) rfl (by omega) T.out.here ?_
     intro v1' w1 htw hbB hkk
     clear TW
     replace T := dG T hkk (fun hh => by have := hZ1 _ hh; omega)
     replace M := dG M hkk (fun hh => by have := hZ1 _ hh; omega)
     replace N1 := dG N1 hkk (fun hh => by have := hZ1 _ hh; omega)
     replace N2 := dG N2 hkk (fun hh => by have := hZ1 _ hh; omega)
     replace hb := hb.trans (hbB.mono (show w.heap.size ≤ w.heap.size + 1 by omega))
     have TW := Lib.hid (Two.kept htw)
     clear htw hkk hbB
     try clear hHeld
     refine hK.out _ _ (⟨M.out.cell 0, M.out.cell 1⟩) (fun hHeld => ?_)
     clear hK K
     refine wpAnyH_ready (rs := [9]) (by kernel_rfl) (by simp) ?_
     refine AllReadyH.cons rfl (fun K hK => ?_) (AllReadyH.nil)
     refine step_two2 (by rfl) _ _ (by rfl) TW.out.now (.string ⟨m.name.toArray⟩) (by rfl) N2.out (by rfl) rfl (by omega) T.out.here ?_
     intro v2' w1 htw hbB hkk
     clear TW
     replace T := dG T hkk (fun hh => by have := hZ2 _ hh; omega)
     replace M := dG M hkk (fun hh => by have := hZ2 _ hh; omega)
     replace N1 := dG N1 hkk (fun hh => by have := hZ2 _ hh; omega)
     replace N2 := dG N2 hkk (fun hh => by have := hZ2 _ hh; omega)
     replace hb := hb.trans (hbB.mono (show w.heap.size ≤ w.heap.size + 1 by omega))
     have TW := Lib.hid (Two.kept htw)
     clear htw hkk hbB
     try clear hHeld
     refine hK.out _ _ (⟨M.out.cell 0, M.out.cell 1⟩) (fun hHeld => ?_)
     clear hK K
     refine wpAnyH_take (i := 10) (v := ?vk48) rfl (by kernel_rfl) (by kernel_rfl) (by kernel_rfl) (fun _ _ _ h => h) (Or.inl ⟨by rfl, ?hk48⟩) (by assumption) ?rk48
     case hk48 => (intro w hSw; (try dsimp only at hSw); go_simp; (first | done | with_reducible rfl))
     try simp only [put_laws]
     refine wpAnyH_take (i := 11) (v := ?vk49) rfl (by kernel_rfl) (by kernel_rfl) (by kernel_rfl) (fun _ _ _ h => h) (Or.inl ⟨by rfl, ?hk49⟩) (by assumption) ?rk49
     case hk49 => (intro w hSw; (try dsimp only at hSw); go_simp; (first | done | with_reducible rfl))
     try simp only [put_laws]
     refine wpAnyH_done (by kernel_rfl) ?_ _
     try clear hHeld
     go_wp2_with fail
     go_meet
     exact ⟨by rw [HT1.out, HT2.out]; exact TW.out.now, T.out, M.out, hb⟩
    skip
    go_simp
    obtain ⟨wd51, hE52⟩ : ∃ ww, ww = wd13.alloc (.cells #[.string ⟨m.name.toArray⟩] 9) := ⟨_, rfl⟩
    rw [← hE52]
    have hb50 := aB hE52
    have N2 := aN hE52
    clear hE52
    have hl54 := T.out.here
    have hl55 := M.out.here
    have hl56 := TW.out.le
    have hl57 := hb.size
    replace T := dB T hb50
    replace M := dB M hb50
    replace TW := dK TW hb50
    replace hb := dT hb hb50
    clear hb50
    generalize wd13.heap.size = g53 at *
    try clear hHeld
    refine hK.out _ _ (⟨M.out.cell 0, M.out.cell 1⟩) (fun hHeld => ?_)
    clear hK K
    refine wpAnyH_ready (rs := [3]) (by kernel_rfl) (by simp) ?_
    refine AllReadyH.cons rfl (fun K hK => ?_) (AllReadyH.nil)
    go_simp
    obtain ⟨wd59, hE60⟩ : ∃ ww, ww = wd51.alloc (.cells #[.int .i64 m.id] 3) := ⟨_, rfl⟩
    rw [← hE60]
    have hb58 := aB hE60
    have N1 := aN hE60
    clear hE60
    have hl62 := T.out.here
    have hl63 := M.out.here
    have hl64 := N2.out.here
    have hl65 := TW.out.le
    have hl66 := hb.size
    replace T := dB T hb58
    replace M := dB M hb58
    replace N2 := dB N2 hb58
    replace TW := dK TW hb58
    replace hb := dT hb hb58
    clear hb58
    generalize wd51.heap.size = g61 at *
    try clear hHeld
    refine hK.out _ _ (⟨M.out.cell 0, M.out.cell 1⟩) (fun hHeld => ?_)
    clear hK K
    refine wpAnyH_ready (rs := [4]) (by kernel_rfl) (by simp) ?_
    refine AllReadyH.cons rfl (fun K hK => ?_) (AllReadyH.nil)
    refine step_two1 (by rfl) _ _ (by rfl) TW.out.now (.int .i64 m.id) (by rfl) N1.out (by rfl) rfl (by omega) T.out.here ?_
    intro v1' w1 htw hbB hkk
    clear TW
    replace T := dG T hkk (fun hh => by have := hZ1 _ hh; omega)
    replace M := dG M hkk (fun hh => by have := hZ1 _ hh; omega)
    replace N2 := dG N2 hkk (fun hh => by have := hZ1 _ hh; omega)
    replace N1 := dG N1 hkk (fun hh => by have := hZ1 _ hh; omega)
    replace hb := hb.trans (hbB.mono (show w.heap.size ≤ w.heap.size + 1 by omega))
    have TW := Lib.hid (Two.kept htw)
    clear htw hkk hbB
    try clear hHeld
    refine hK.out _ _ (⟨M.out.cell 0, M.out.cell 1⟩) (fun hHeld => ?_)
    clear hK K
    refine wpAnyH_ready (rs := [9]) (by kernel_rfl) (by simp) ?_
    refine AllReadyH.cons rfl (fun K hK => ?_) (AllReadyH.nil)
    refine step_two2 (by rfl) _ _ (by rfl) TW.out.now (.string ⟨m.name.toArray⟩) (by rfl) N2.out (by rfl) rfl (by omega) T.out.here ?_
    intro v2' w1 htw hbB hkk
    clear TW
    replace T := dG T hkk (fun hh => by have := hZ2 _ hh; omega)
    replace M := dG M hkk (fun hh => by have := hZ2 _ hh; omega)
    replace N2 := dG N2 hkk (fun hh => by have := hZ2 _ hh; omega)
    replace N1 := dG N1 hkk (fun hh => by have := hZ2 _ hh; omega)
    replace hb := hb.trans (hbB.mono (show w.heap.size ≤ w.heap.size + 1 by omega))
    have TW := Lib.hid (Two.kept htw)
    clear htw hkk hbB
    try clear hHeld
    refine hK.out _ _ (⟨M.out.cell 0, M.out.cell 1⟩) (fun hHeld => ?_)
    clear hK K
    refine wpAnyH_take (i := 10) (v := ?vk67) rfl (by kernel_rfl) (by kernel_rfl) (by kernel_rfl) (fun _ _ _ h => h) (Or.inl ⟨by rfl, ?hk67⟩) (by assumption) ?rk67
    case hk67 => (intro w hSw; (try dsimp only at hSw); go_simp; (first | done | with_reducible rfl))
    try simp only [put_laws]
    refine wpAnyH_take (i := 11) (v := ?vk68) rfl (by kernel_rfl) (by kernel_rfl) (by kernel_rfl) (fun _ _ _ h => h) (Or.inl ⟨by rfl, ?hk68⟩) (by assumption) ?rk68
    case hk68 => (intro w hSw; (try dsimp only at hSw); go_simp; (first | done | with_reducible rfl))
    try simp only [put_laws]
    refine wpAnyH_done (by kernel_rfl) ?_ _
    try clear hHeld
    go_wp2_with fail
    go_meet
    exact ⟨by rw [HT1.out, HT2.out]; exact TW.out.now, T.out, M.out, hb⟩
   case rest =>
    clear T M TW hb
    subst hgM
    obtain ⟨htw, T, M, hb⟩ := hcut
    replace T := Lib.hid T
    replace M := Lib.hid M
    have TW := Lib.hid (Two.kept htw)
    clear htw hZ1 hZ2
    have hcr : m.crit = true ∨ m.crit = false := by cases m.crit <;> simp
    have hhd : m.hasDef = true ∨ m.hasDef = false := by cases m.hasDef <;> simp
    by_cases hun : x.kind = 6
    ·
     have tun : (x.kind == 6) = true := by simp [hun]
     have Hun : Hid (decide (x.kind = 6) = true) := decide_eq_true hun
     clear hun
     rcases hhd with hhd | hhd
     ·
      have Hm : Hid (memB (decide (x.kind = 6)) m = false) := by show _ = _; unfold memB; rw [Hun.out, hhd]; simp
      rcases hcr with hcr | hcr
      ·
       have cT_0 : wc.cell? ⟨w.heap.size, 0, none⟩ = some (.int .i64 x.kind) := T.out.cell 0
       have cM_3 : wc.cell? ⟨gM, 3, none⟩ = some (.bool m.crit) := M.out.cell 3
       have cM_4 : wc.cell? ⟨gM, 4, none⟩ = some (.bool m.hasDef) := M.out.cell 4
       have Hno : Hid (membersB x = false) := members_no x m Hmem.out Hm.out
       go_wp2_with fail
       go_ret
       exact ⟨ret_bool Hno.out.symm, hb⟩
      have cT_0 : wc.cell? ⟨w.heap.size, 0, none⟩ = some (.int .i64 x.kind) := T.out.cell 0
      have cM_3 : wc.cell? ⟨gM, 3, none⟩ = some (.bool m.crit) := M.out.cell 3
      have cM_4 : wc.cell? ⟨gM, 4, none⟩ = some (.bool m.hasDef) := M.out.cell 4
      have Hno : Hid (membersB x = false) := members_no x m Hmem.out Hm.out
      go_wp2_with fail
      go_ret
      exact ⟨ret_bool Hno.out.symm, hb⟩
     rcases hcr with hcr | hcr
     ·
      have Hm : Hid (memB (decide (x.kind = 6)) m = false) := by show _ = _; unfold memB; rw [Hun.out, hcr]; simp
      have cT_0 : wc.cell? ⟨w.heap.size, 0, none⟩ = some (.int .i64 x.kind) := T.out.cell 0
      have cM_3 : wc.cell? ⟨gM, 3, none⟩ = some (.bool m.crit) := M.out.cell 3
      have cM_4 : wc.cell? ⟨gM, 4, none⟩ = some (.bool m.hasDef) := M.out.cell 4
      have Hno : Hid (membersB x = false) := members_no x m Hmem.out Hm.out
      go_wp2_with fail
      go_ret
      exact ⟨ret_bool Hno.out.symm, hb⟩
     have Hcr := Lib.hid hcr
     have Hhd := Lib.hid hhd
     have cT_0 : wc.cell? ⟨w.heap.size, 0, none⟩ = some (.int .i64 x.kind) := T.out.cell 0
     obtain ⟨-, -, -, cM_3, cM_4, cM_5, cM_6, cM_7, cM_8, cM_9, cM_10, cM_11, cM_12⟩ := M.out.c13
     go_wp2_with fail
     clear cT_0 cM_3 cM_4 cM_5 cM_6 cM_7 cM_8 cM_9 cM_10 cM_11 cM_12
     ((with_reducible refine (blank_any m.dflt _ _ _ _ (HDF.out.on hb)).mono ?_); rintro e wd69 ⟨rfl, hb70⟩)
     replace T := dB T hb70
     replace M := dB M hb70
     replace TW := dK TW hb70
     replace hb := dT hb hb70
     clear hb70
     cases hbl : sameV m.dflt val0 with
     | true =>
      have Hm : Hid (memB (decide (x.kind = 6)) m = true) := by show _ = _; unfold memB; rw [Hun.out, Hcr.out, Hhd.out, hbl]; rfl
      clear hbl
      go_wp2_with fail
      go_roundw
      case rel => exact ⟨k + 1, by omega, by go_num, by rw [HAL.out, Hm.out, Bool.and_true]; exact Hall.out, TW.out.now, T.out, hb⟩
      case measure => simp [intOf]; omega
     | false =>
      have Hm : Hid (memB (decide (x.kind = 6)) m = false) := by show _ = _; unfold memB; rw [Hun.out, Hcr.out, Hhd.out, hbl]; simp
      clear hbl
      have Hno : Hid (membersB x = false) := members_no x m Hmem.out Hm.out
      have cT_0 : wd69.cell? ⟨w.heap.size, 0, none⟩ = some (.int .i64 x.kind) := T.out.cell 0
      go_wp2_with fail
      go_ret
      exact ⟨ret_bool Hno.out.symm, hb⟩
    have tun : (x.kind == 6) = false := by simpa using hun
    have Hun : Hid (decide (x.kind = 6) = false) := decide_eq_false hun
    clear hun
    rcases hhd with hhd | hhd
    ·
     rcases hcr with hcr | hcr
     ·
      have Hm : Hid (memB (decide (x.kind = 6)) m = false) := by show _ = _; unfold memB; rw [Hun.out, hhd, hcr]; rfl
      have cT_0 : wc.cell? ⟨w.heap.size, 0, none⟩ = some (.int .i64 x.kind) := T.out.cell 0
      have cM_3 : wc.cell? ⟨gM, 3, none⟩ = some (.bool m.crit) := M.out.cell 3
      have cM_4 : wc.cell? ⟨gM, 4, none⟩ = some (.bool m.hasDef) := M.out.cell 4
      have Hno : Hid (membersB x = false) := members_no x m Hmem.out Hm.out
      go_wp2_with fail
      go_ret
      exact ⟨ret_bool Hno.out.symm, hb⟩
     have Hm : Hid (memB (decide (x.kind = 6)) m = true) := by show _ = _; unfold memB; rw [Hun.out, hhd, hcr]; rfl
     have cT_0 : wc.cell? ⟨w.heap.size, 0, none⟩ = some (.int .i64 x.kind) := T.out.cell 0
     have cM_3 : wc.cell? ⟨gM, 3, none⟩ = some (.bool m.crit) := M.out.cell 3
     have cM_4 : wc.cell? ⟨gM, 4, none⟩ = some (.bool m.hasDef) := M.out.cell 4
     go_wp2_with fail
     go_roundw
     case rel => exact ⟨k + 1, by omega, by go_num, by rw [HAL.out, Hm.out, Bool.and_true]; exact Hall.out, TW.out.now, T.out, hb⟩
     case measure => simp [intOf]; omega
    rcases hcr with hcr | hcr
    ·
     have Hcr := Lib.hid hcr
     have Hhd := Lib.hid hhd
     have cT_0 : wc.cell? ⟨w.heap.size, 0, none⟩ = some (.int .i64 x.kind) := T.out.cell 0
     obtain ⟨-, -, -, cM_3, cM_4, cM_5, cM_6, cM_7, cM_8, cM_9, cM_10, cM_11, cM_12⟩ := M.out.c13
     go_wp2_with fail
     clear cT_0 cM_3 cM_4 cM_5 cM_6 cM_7 cM_8 cM_9 cM_10 cM_11 cM_12
     ((with_reducible refine (blank_any m.dflt _ _ _ _ (HDF.out.on hb)).mono ?_); rintro e wd71 ⟨rfl, hb72⟩)
     replace T := dB T hb72
     replace M := dB M hb72
     replace TW := dK TW hb72
     replace hb := dT hb hb72
     clear hb72
     cases hbl : sameV m.dflt val0 with
     | true =>
      have Hm : Hid (memB (decide (x.kind = 6)) m = true) := by show _ = _; unfold memB; rw [Hun.out, Hcr.out, Hhd.out, hbl]; rfl
      clear hbl
      go_wp2_with fail
      go_roundw
      case rel => exact ⟨k + 1, by omega, by go_num, by rw [HAL.out, Hm.out, Bool.and_true]; exact Hall.out, TW.out.now, T.out, hb⟩
      case measure => simp [intOf]; omega
     | false =>
      have Hm : Hid (memB (decide (x.kind = 6)) m = false) := by show _ = _; unfold memB; rw [Hun.out, Hcr.out, Hhd.out, hbl]; simp
      clear hbl
      have Hno : Hid (membersB x = false) := members_no x m Hmem.out Hm.out
      have cT_0 : wd71.cell? ⟨w.heap.size, 0, none⟩ = some (.int .i64 x.kind) := T.out.cell 0
      go_wp2_with fail
      go_ret
      exact ⟨ret_bool Hno.out.symm, hb⟩
    have Hcr := Lib.hid hcr
    have Hhd := Lib.hid hhd
    have cT_0 : wc.cell? ⟨w.heap.size, 0, none⟩ = some (.int .i64 x.kind) := T.out.cell 0
    obtain ⟨-, -, -, cM_3, cM_4, cM_5, cM_6, cM_7, cM_8, cM_9, cM_10, cM_11, cM_12⟩ := M.out.c13
    go_wp2_with fail
    clear cT_0 cM_3 cM_4 cM_5 cM_6 cM_7 cM_8 cM_9 cM_10 cM_11 cM_12
    ((with_reducible refine (blank_any m.dflt _ _ _ _ (HDF.out.on hb)).mono ?_); rintro e wd73 ⟨rfl, hb74⟩)
    replace T := dB T hb74
    replace M := dB M hb74
    replace TW := dK TW hb74
    replace hb := dT hb hb74
    clear hb74
    cases hbl : sameV m.dflt val0 with
    | true =>
     have Hm : Hid (memB (decide (x.kind = 6)) m = true) := by show _ = _; unfold memB; rw [Hun.out, Hcr.out, Hhd.out, hbl]; rfl
     clear hbl
     go_wp2_with fail
     go_roundw
     case rel => exact ⟨k + 1, by omega, by go_num, by rw [HAL.out, Hm.out, Bool.and_true]; exact Hall.out, TW.out.now, T.out, hb⟩
     case measure => simp [intOf]; omega
    | false =>
     have Hm : Hid (memB (decide (x.kind = 6)) m = false) := by show _ = _; unfold memB; rw [Hun.out, Hcr.out, Hhd.out, hbl]; simp
     clear hbl
     have Hno : Hid (membersB x = false) := members_no x m Hmem.out Hm.out
     have cT_0 : wd73.cell? ⟨w.heap.size, 0, none⟩ = some (.int .i64 x.kind) := T.out.cell 0
     go_wp2_with fail
     go_ret
     exact ⟨ret_bool Hno.out.symm, hb⟩
  obtain rfl : k = x.mems.length := by omega
  rw [List.take_of_length_le (Nat.le_refl _)] at hall
  rw [List.take_of_length_le (by simp)] at htw
  have hlm : (x.mems.map pairM).length = x.mems.length := by simp
  obtain ⟨S3, c3, rfl⟩ := own_form htw.o1
  obtain ⟨S4, c4, rfl⟩ := own_form htw.o2
  have hr1 := Rd.of_own htw.o1
  have hr2 := Rd.of_own htw.o2
  have hids : ∀ W, Below wr.heap.size wr W → Calls Tryd.prog 75 #[.slice S3 x.mems.length c3, .slice S4 x.mems.length c4] W fun e w' => e = .returned (.bool (idsB (x.mems.map pairM))) ∧ Below W.heap.size W w' := fun W hW =>
   sids_any (x.mems.map pairM) _ _ W (by omega) HIN.out (by rw [hlm]; exact (hr1.below hW).mono hW.size) (by rw [hlm]; exact (hr2.below hW).mono hW.size)
  have HI := Lib.hid hids
  have hmb : membersB x = ((decide (x.kind = 5) || decide (0 < x.mems.length)) && idsB (x.mems.map pairM)) := by unfold membersB; rw [hall]; rfl
  clear htw hr1 hr2 hids hall hlm
  replace T := Lib.hid T
  by_cases h5 : x.kind = 5
  ·
   have t5 : (x.kind == 5) = true := by simp [h5]
   have Hs : Hid (membersB x = idsB (x.mems.map pairM)) := by show _ = _; rw [hmb, decide_eq_true h5]; rfl
   clear hmb h5
   have cT_0 : wr.cell? ⟨w.heap.size, 0, none⟩ = some (.int .i64 x.kind) := T.out.cell 0
   go_wp2_with fail
   clear cT_0
   ((with_reducible refine (HI.out _ (Below.refl _ _)).mono ?_); rintro e wd75 ⟨rfl, hb76⟩)
   replace T := dB T hb76
   replace hb := dT hb hb76
   clear hb76
   go_wp2_with fail
   go_ret
   exact ⟨ret_bool Hs.out.symm, hb⟩
  have t5 : (x.kind == 5) = false := by simpa using h5
  by_cases h0 : x.mems.length = 0
  ·
   have Hs : Hid (membersB x = false) := by show _ = _; rw [hmb, decide_eq_false h5, h0]; rfl
   have hd : decide (0 < x.mems.length) = false := decide_eq_false (by omega)
   have Hn := Lib.hid h0
   clear hmb h5 h0
   have cT_0 : wr.cell? ⟨w.heap.size, 0, none⟩ = some (.int .i64 x.kind) := T.out.cell 0
   go_wp2_with fail
   go_ret
   exact ⟨ret_bool Hs.out.symm, hb⟩
  have Hs : Hid (membersB x = idsB (x.mems.map pairM)) := by show _ = _; rw [hmb, decide_eq_true (show 0 < x.mems.length by omega), Bool.or_true]; rfl
  have hd : decide (0 < x.mems.length) = true := decide_eq_true (by omega)
  have hd2 : (0 : Int) < x.mems.length := by omega
  clear hmb h5 h0
  have cT_0 : wr.cell? ⟨w.heap.size, 0, none⟩ = some (.int .i64 x.kind) := T.out.cell 0
  go_wp2_with fail
  clear cT_0
  ((with_reducible refine (HI.out _ (Below.refl _ _)).mono ?_); rintro e wd77 ⟨rfl, hb78⟩)
  replace T := dB T hb78
  replace hb := dT hb hb78
  clear hb78
  go_wp2_with fail
  go_ret
  exact ⟨ret_bool Hs.out.symm, hb⟩
end Go.Proofs.YtccmmibkihbobaaDoor

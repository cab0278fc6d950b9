/- What schema.members computes. What sheaveref07.members computes. No condition. -/
import Derived.Test.YtjajgclchapllaaGJ
import Derived.Test.YtjajgclchapllaaGL
namespace Go.Proofs.Ytjajgclchapllaa
open Go.ChangeShapes Go.WideShapes Go.ChangeAt Go.RowKit
theorem Two.rng1 {w : World} {B n1 n2 : Nat} {v1 v2 : Value} {xs1 xs2 : List Value} (h : Two w B v1 n1 xs1 v2 n2 xs2) : ∀ k, v1.ownBlock = some k → B ≤ k ∧ k < w.heap.size := fun k hk => h.o1.lt k hk
theorem Two.rng2 {w : World} {B n1 n2 : Nat} {v1 v2 : Value} {xs1 xs2 : List Value} (h : Two w B v1 n1 xs1 v2 n2 xs2) : ∀ k, v2.ownBlock = some k → B ≤ k ∧ k < w.heap.size := fun k hk => h.o2.lt k hk
def pairM (m : Mem) : Raw := (m.id, m.name)
def memB (un : Bool) (m : Mem) : Bool := !(un && (m.crit || m.hasDef)) && (!(m.crit && m.hasDef) && (m.hasDef || sameV m.dflt val0))
def membersB (x : Typ) : Bool := x.mems.all (memB (decide (x.kind = 6))) && ((decide (x.kind = 5) || decide (0 < x.mems.length)) && idsB (x.mems.map pairM))
theorem members_no (x : Typ) (m : Mem) (hm : m ∈ x.mems) (h : memB (decide (x.kind = 6)) m = false) : membersB x = false := by
 have : x.mems.all (memB (decide (x.kind = 6))) = false := by
  rw [List.all_eq_false]
  exact ⟨m, hm, by simp [h]⟩
 unfold membersB; rw [this]; rfl
theorem all_take (f : Mem → Bool) (l : List Mem) (k : Nat) (h : k < l.length) : (l.take (k + 1)).all f = ((l.take k).all f && f l[k]) := by
 rw [List.take_succ_eq_append_getElem h, List.all_append]; simp
theorem mems_in {w : World} {B : Nat} {v : Value} {ms : List Mem} (h : RdMems w B v ms) : ∀ r ∈ ms.map pairM, RawIn r := by
 intro r hr
 obtain ⟨m, hm, rfl⟩ := List.mem_map.1 hr
 obtain ⟨i, hi, rfl⟩ := List.getElem_of_mem hm
 obtain ⟨c, _, h2⟩ := h
 obtain ⟨_, _, _, _, hma⟩ := h2 i hi
 exact ⟨hma.ints.1, hma.namel⟩
set_option maxRecDepth 100000 in
set_option maxHeartbeats 4000000 in
theorem members_any (x : Typ) (vs vm : Value) (w : World) (hl : x.mems.length ≤ 6000000000000) (ht : TypAt w w.heap.size x vs vm) :
  Calls Try.prog 92 #[typA x vs vm] w fun e w' => e = .returned (.bool (membersB x)) ∧ Below w.heap.size w w' := by
 obtain ⟨C1, m1, C2, m2, rfl, rfl, -, -⟩ := ht.forms
 have HT := Lib.hid ht
 have HIN := Lib.hid (mems_in ht.mems)
 clear ht
 go_enter Try.func92, Try.ntmps92
 go_upto_region 3 with fail
 have hb154 := below_al (Below.refl w.heap.size w) (Nat.le_refl _) (.cells #[.int .i64 x.kind, .string ⟨x.name.toArray⟩, .int .i64 x.low, .int .i64 x.high, .int .i64 x.max, .slice C1 x.syms.length m1, .slice C2 x.mems.length m2, .int .i64 x.key, .int .i64 x.elem, .bool x.opn] 67)
 have T := Has.made w 67 #[.int .i64 x.kind, .string ⟨x.name.toArray⟩, .int .i64 x.low, .int .i64 x.high, .int .i64 x.max, .slice C1 x.syms.length m1, .slice C2 x.mems.length m2, .int .i64 x.key, .int .i64 x.elem, .bool x.opn]
 have hw155 := hb154
 replace T := Lib.hid T
 clear hb154
 generalize (w.alloc (.cells #[.int .i64 x.kind, .string ⟨x.name.toArray⟩, .int .i64 x.low, .int .i64 x.high, .int .i64 x.max, .slice C1 x.syms.length m1, .slice C2 x.mems.length m2, .int .i64 x.key, .int .i64 x.elem, .bool x.opn] 67)) = wd156 at *
 have cT_6 : wd156.cell? ⟨w.heap.size, 6, none⟩ = some (.slice C2 x.mems.length m2) := T.out.cell 6
 have hT0 := T.out
 have hB0 := hw155
 have HT0 := Lib.hid hT0
 clear hT0
 go_wp2_with fail
 go_loopw [3, 4, 10] (fun s3 s4 i wr => ∃ k : Nat, k ≤ x.mems.length ∧ i = .int .i64 k ∧ (x.mems.take k).all (memB (decide (x.kind = 6))) = true ∧ Two wr (w.heap.size + 1) s3 k (((x.mems.map pairM).take k).map intV) s4 k (((x.mems.map pairM).take k).map strV1) ∧ Has wr w.heap.size 67 #[.int .i64 x.kind, .string ⟨x.name.toArray⟩, .int .i64 x.low, .int .i64 x.high, .int .i64 x.max, .slice C1 x.syms.length m1, .slice C2 x.mems.length m2, .int .i64 x.key, .int .i64 x.elem, .bool x.opn] ∧ Below w.heap.size w wr) (fun _ _ i _ => x.mems.length - (intOf i).toNat)
 case atStart => exact ⟨0, by omega, rfl, rfl, Two.nil _ _, HT0.out, hB0⟩
 case round =>
  clear T hB0 HT0
  obtain ⟨k, hk, rfl, hall, htw, T, hb⟩ := hrel
  by_cases hlt : k < x.mems.length
  ·
   obtain ⟨b, o, hC2, hb1, hel⟩ := HT.out.mems.elem (by omega)
   obtain ⟨dk, di, dr, hcells, hma⟩ := hel k hlt
   have hlk : k < (x.mems.map pairM).length := by simpa using hlt
   have HT1 : Hid (((x.mems.map pairM).take (k + 1)).map intV = ((x.mems.map pairM).take k).map intV ++ [.int .i64 x.mems[k].id]) := by have h := take_map intV (x.mems.map pairM) k hlk; rw [List.getElem_map] at h; exact h
   have HT2 : Hid (((x.mems.map pairM).take (k + 1)).map strV1 = ((x.mems.map pairM).take k).map strV1 ++ [.string ⟨x.mems[k].name.toArray⟩]) := by have h := take_map strV1 (x.mems.map pairM) k hlk; rw [List.getElem_map] at h; exact h
   have HAL := Lib.hid (all_take (memB (decide (x.kind = 6))) x.mems k hlt)
   have Hmem := Lib.hid (List.getElem_mem hlt)
   generalize x.mems[k] = m at *
   have Hall := Lib.hid hall
   obtain ⟨D1, d1, D2, d2, D3, d3, rfl, rfl, rfl, -, -, -⟩ := hma.dflt.forms
   obtain ⟨y0, y1, y2, y3, y4, y5, y6, y7, y8, y9, y10, y11, y12⟩ := hcells
   have x0 := (hb.cell (p := ⟨b, _, none⟩) hb1).trans y0
   have x1 := (hb.cell (p := ⟨b, _, none⟩) hb1).trans y1
   have x2 := (hb.cell (p := ⟨b, _, none⟩) hb1).trans y2
   have x3 := (hb.cell (p := ⟨b, _, none⟩) hb1).trans y3
   have x4 := (hb.cell (p := ⟨b, _, none⟩) hb1).trans y4
   have x5 := (hb.cell (p := ⟨b, _, none⟩) hb1).trans y5
   have x6 := (hb.cell (p := ⟨b, _, none⟩) hb1).trans y6
   have x7 := (hb.cell (p := ⟨b, _, none⟩) hb1).trans y7
   have x8 := (hb.cell (p := ⟨b, _, none⟩) hb1).trans y8
   have x9 := (hb.cell (p := ⟨b, _, none⟩) hb1).trans y9
   have x10 := (hb.cell (p := ⟨b, _, none⟩) hb1).trans y10
   have x11 := (hb.cell (p := ⟨b, _, none⟩) hb1).trans y11
   have x12 := (hb.cell (p := ⟨b, _, none⟩) hb1).trans y12
   clear y0 y1 y2 y3 y4 y5 y6 y7 y8 y9 y10 y11 y12
   have hi1 : (k : Int) < x.mems.length := by omega
   have hZ1 := htw.rng1
   have hZ2 := htw.rng2
   have HDF := Lib.hid hma.dflt
   clear hel hall hma
   replace T := Lib.hid T
   have TW := Lib.hid (Two.kept htw)
   clear htw
   go_upto_region 6 with fail
   have hb157 := below_al (Below.refl wr.heap.size wr) (Nat.le_refl _) (.cells #[.int .i64 m.id, .string ⟨m.name.toArray⟩, .int .i64 m.ty, .bool m.crit, .bool m.hasDef, .int .i64 m.dflt.kind, .bool m.dflt.bool, .int .i64 m.dflt.num, .string ⟨m.dflt.str.toArray⟩, .int .i64 m.dflt.id, .slice D1 m.dflt.keys.length d1, .slice D2 m.dflt.items.length d2, .slice D3 m.dflt.rest.length d3] 69)
   have M := Has.made wr 69 #[.int .i64 m.id, .string ⟨m.name.toArray⟩, .int .i64 m.ty, .bool m.crit, .bool m.hasDef, .int .i64 m.dflt.kind, .bool m.dflt.bool, .int .i64 m.dflt.num, .string ⟨m.dflt.str.toArray⟩, .int .i64 m.dflt.id, .slice D1 m.dflt.keys.length d1, .slice D2 m.dflt.items.length d2, .slice D3 m.dflt.rest.length d3]
   have hl159 := T.out.here
   have hl160 := TW.out.le
   have hl161 := hb.size
   replace T := Lib.hid (T.out.below hb157 T.out.here)
   replace TW := Lib.hid (TW.out.on hb157)
   replace hb := hb.trans (hb157.mono hb.size)
   replace M := Lib.hid M
   clear hb157
   generalize (wr.alloc (.cells #[.int .i64 m.id, .string ⟨m.name.toArray⟩, .int .i64 m.ty, .bool m.crit, .bool m.hasDef, .int .i64 m.dflt.kind, .bool m.dflt.bool, .int .i64 m.dflt.num, .string ⟨m.dflt.str.toArray⟩, .int .i64 m.dflt.id, .slice D1 m.dflt.keys.length d1, .slice D2 m.dflt.items.length d2, .slice D3 m.dflt.rest.length d3] 69)) = wd162 at *
   generalize wr.heap.size = g158 at *
   clear x0 x1 x2 x3 x4 x5 x6 x7 x8 x9 x10 x11 x12 hC2
   obtain ⟨gM, hgM⟩ : ∃ g, g = g158 := ⟨_, rfl⟩
   go_cut [3, 4] from 14 to 54 (fun s3 s4 wx => Two wx (w.heap.size + 1) s3 (k + 1) (((x.mems.map pairM).take (k + 1)).map intV) s4 (k + 1) (((x.mems.map pairM).take (k + 1)).map strV1) ∧ Has wx w.heap.size 67 #[.int .i64 x.kind, .string ⟨x.name.toArray⟩, .int .i64 x.low, .int .i64 x.high, .int .i64 x.max, .slice C1 x.syms.length m1, .slice C2 x.mems.length m2, .int .i64 x.key, .int .i64 x.elem, .bool x.opn] ∧ Has wx g158 69 #[.int .i64 m.id, .string ⟨m.name.toArray⟩, .int .i64 m.ty, .bool m.crit, .bool m.hasDef, .int .i64 m.dflt.kind, .bool m.dflt.bool, .int .i64 m.dflt.num, .string ⟨m.dflt.str.toArray⟩, .int .i64 m.dflt.id, .slice D1 m.dflt.keys.length d1, .slice D2 m.dflt.items.length d2, .slice D3 m.dflt.rest.length d3] ∧ Below w.heap.size w wx)
   case first =>
    clear hgM
    have cM_0 : wd162.cell? ⟨g158, 0, none⟩ = some (.int .i64 m.id) := M.out.cell 0
    have cM_1 : wd162.cell? ⟨g158, 1, none⟩ = some (.string ⟨m.name.toArray⟩) := M.out.cell 1
    refine wp_region_held_drew (S := (fun w' => w'.cell? ⟨g158, 0, none⟩ = some (.int .i64 m.id) ∧ w'.cell? ⟨g158, 1, none⟩ = some (.string ⟨m.name.toArray⟩))) (by kernel_rfl) ⟨cM_0, cM_1⟩ (fun hHeld => ?_)
    clear cM_0 cM_1
    have hb163 : Below wd162.heap.size wd162 (wd162.drew) := (Below.refl _ _).drew
    replace T := Lib.hid (T.out.below hb163 T.out.here)
    replace M := Lib.hid (M.out.below hb163 M.out.here)
    replace TW := Lib.hid (TW.out.on hb163)
    replace hb := hb.trans (hb163.mono hb.size)
    clear hb163
    generalize wd162.drew = wd164 at *
    refine wpAnyH_take (i := 0) (v := ?vk165) rfl (by kernel_rfl) (by kernel_rfl) (by kernel_rfl) (fun _ _ _ h => h) (Or.inl ⟨by rfl, ?hk165⟩) (by assumption) ?rk165
    case hk165 => (intro w hSw; (try dsimp only at hSw); go_simp; (first | done | with_reducible rfl))
    try simp only [put_laws]
    refine wpAnyH_take (i := 1) (v := ?vk166) rfl (by kernel_rfl) (by kernel_rfl) (by kernel_rfl) (fun _ _ _ h => h) (Or.inl ⟨by rfl, ?hk166⟩) (by assumption) ?rk166
    case hk166 => (intro w hSw; (try dsimp only at hSw); go_simp; (first | done | with_reducible rfl))
    try simp only [put_laws]
    refine wpAnyH_take (i := 2) (v := ?vk167) rfl (by kernel_rfl) (by kernel_rfl) (by kernel_rfl) (fun _ _ _ h => h) (Or.inl ⟨by rfl, ?hk167⟩) (by assumption) ?rk167
    case hk167 => (intro w hSw; (try dsimp only at hSw); go_simp; (first | done | with_reducible rfl))
    try simp only [put_laws]
    refine wpAnyH_take (i := 5) (v := ?vk168) rfl (by kernel_rfl) (by kernel_rfl) (by kernel_rfl) (fun _ _ _ h => h) (Or.inl ⟨by rfl, ?hk168⟩) (by assumption) ?rk168
    case hk168 => (intro w hSw; (try dsimp only at hSw); go_simp; (first | done | with_reducible rfl))
    try simp only [put_laws]
    refine wpAnyH_take (i := 6) (v := ?vk169) rfl (by kernel_rfl) (by kernel_rfl) (by kernel_rfl) (fun _ _ _ h => h) (Or.inl ⟨by rfl, ?hk169⟩) (by assumption) ?rk169
    case hk169 => (intro w hSw; (try dsimp only at hSw); go_simp; (first | done | with_reducible rfl))
    try simp only [put_laws]
    refine wpAnyH_take (i := 7) (v := ?vk170) rfl (by kernel_rfl) (by kernel_rfl) (by kernel_rfl) (fun _ _ _ h => h) (Or.inl ⟨by rfl, ?hk170⟩) (by assumption) ?rk170
    case hk170 => (intro w hSw; (try dsimp only at hSw); go_simp; (first | done | with_reducible rfl))
    try simp only [put_laws]
    refine wpAnyH_ready (rs := [3, 8]) (by kernel_rfl) (by simp) ?_
    refine AllReadyH.cons rfl (fun K hK => ?_) (AllReadyH.cons rfl (fun K hK => ?_) (AllReadyH.nil))
    ·
     skip
     go_simp
     have hb171 := below_al (Below.refl wd164.heap.size wd164) (Nat.le_refl _) (.cells #[.int .i64 m.id] 3)
     have N1 := Has.made wd164 3 #[.int .i64 m.id]
     have hl173 := T.out.here
     have hl174 := M.out.here
     have hl175 := TW.out.le
     have hl176 := hb.size
     replace T := Lib.hid (T.out.below hb171 T.out.here)
     replace M := Lib.hid (M.out.below hb171 M.out.here)
     replace TW := Lib.hid (TW.out.on hb171)
     replace hb := hb.trans (hb171.mono hb.size)
     replace N1 := Lib.hid N1
     clear hb171
     generalize (wd164.alloc (.cells #[.int .i64 m.id] 3)) = wd177 at *
     generalize wd164.heap.size = g172 at *
     try clear hHeld
     refine hK.out _ _ ⟨M.out.cell 0, M.out.cell 1⟩ (fun hHeld => ?_)
     clear hK K
     refine wpAnyH_ready (rs := [4, 8]) (by kernel_rfl) (by simp) ?_
     refine AllReadyH.cons rfl (fun K hK => ?_) (AllReadyH.cons rfl (fun K hK => ?_) (AllReadyH.nil))
     ·
      skip
      refine step_two1 (by rfl) _ _ (by rfl) TW.out.now (.int .i64 m.id) (by rfl) N1.out (by rfl) rfl (by omega) T.out.here ?_
      intro v1' w1 htw hbB hkk
      clear TW
      replace T : Hid (Has w1 (w.heap.size) 67 #[.int .i64 x.kind, .string ⟨x.name.toArray⟩, .int .i64 x.low, .int .i64 x.high, .int .i64 x.max, .slice C1 x.syms.length m1, .slice C2 x.mems.length m2, .int .i64 x.key, .int .i64 x.elem, .bool x.opn]) := Lib.hid ((hkk (w.heap.size) T.out.here (fun hh => by have := hZ1 _ hh; omega)).trans T.out)
      replace M : Hid (Has w1 (g158) 69 #[.int .i64 m.id, .string ⟨m.name.toArray⟩, .int .i64 m.ty, .bool m.crit, .bool m.hasDef, .int .i64 m.dflt.kind, .bool m.dflt.bool, .int .i64 m.dflt.num, .string ⟨m.dflt.str.toArray⟩, .int .i64 m.dflt.id, .slice D1 m.dflt.keys.length d1, .slice D2 m.dflt.items.length d2, .slice D3 m.dflt.rest.length d3]) := Lib.hid ((hkk (g158) M.out.here (fun hh => by have := hZ1 _ hh; omega)).trans M.out)
      replace N1 : Hid (Has w1 (g172) 3 #[.int .i64 m.id]) := Lib.hid ((hkk (g172) N1.out.here (fun hh => by have := hZ1 _ hh; omega)).trans N1.out)
      replace hb := hb.trans (hbB.mono (show w.heap.size ≤ w.heap.size + 1 by omega))
      have TW := Lib.hid (Two.kept htw)
      clear htw hkk hbB
      try clear hHeld
      refine hK.out _ _ ⟨M.out.cell 0, M.out.cell 1⟩ (fun hHeld => ?_)
      clear hK K
      refine wpAnyH_ready (rs := [8]) (by kernel_rfl) (by simp) ?_
      refine AllReadyH.cons rfl (fun K hK => ?_) (AllReadyH.nil)
      go_simp
      have hb178 := below_al (Below.refl w1.heap.size w1) (Nat.le_refl _) (.cells #[.string ⟨m.name.toArray⟩] 9)
      have N2 := Has.made w1 9 #[.string ⟨m.name.toArray⟩]
      have hl180 := T.out.here
      have hl181 := M.out.here
      have hl182 := N1.out.here
      have hl183 := TW.out.le
      have hl184 := hb.size
      replace T := Lib.hid (T.out.below hb178 T.out.here)
      replace M := Lib.hid (M.out.below hb178 M.out.here)
      replace N1 := Lib.hid (N1.out.below hb178 N1.out.here)
      replace TW := Lib.hid (TW.out.on hb178)
      replace hb := hb.trans (hb178.mono hb.size)
      replace N2 := Lib.hid N2
      clear hb178
      generalize (w1.alloc (.cells #[.string ⟨m.name.toArray⟩] 9)) = wd185 at *
      generalize w1.heap.size = g179 at *
      try clear hHeld
      refine hK.out _ _ ⟨M.out.cell 0, M.out.cell 1⟩ (fun hHeld => ?_)
      clear hK K
      refine wpAnyH_ready (rs := [9]) (by kernel_rfl) (by simp) ?_
      refine AllReadyH.cons rfl (fun K hK => ?_) (AllReadyH.nil)
      refine step_two2 (by rfl) _ _ (by rfl) TW.out.now (.string ⟨m.name.toArray⟩) (by rfl) N2.out (by rfl) rfl (by omega) T.out.here ?_
      intro v2' w1 htw hbB hkk
      clear TW
      replace T : Hid (Has w1 (w.heap.size) 67 #[.int .i64 x.kind, .string ⟨x.name.toArray⟩, .int .i64 x.low, .int .i64 x.high, .int .i64 x.max, .slice C1 x.syms.length m1, .slice C2 x.mems.length m2, .int .i64 x.key, .int .i64 x.elem, .bool x.opn]) := Lib.hid ((hkk (w.heap.size) T.out.here (fun hh => by have := hZ2 _ hh; omega)).trans T.out)
      replace M : Hid (Has w1 (g158) 69 #[.int .i64 m.id, .string ⟨m.name.toArray⟩, .int .i64 m.ty, .bool m.crit, .bool m.hasDef, .int .i64 m.dflt.kind, .bool m.dflt.bool, .int .i64 m.dflt.num, .string ⟨m.dflt.str.toArray⟩, .int .i64 m.dflt.id, .slice D1 m.dflt.keys.length d1, .slice D2 m.dflt.items.length d2, .slice D3 m.dflt.rest.length d3]) := Lib.hid ((hkk (g158) M.out.here (fun hh => by have := hZ2 _ hh; omega)).trans M.out)
      replace N1 : Hid (Has w1 (g172) 3 #[.int .i64 m.id]) := Lib.hid ((hkk (g172) N1.out.here (fun hh => by have := hZ2 _ hh; omega)).trans N1.out)
      replace N2 : Hid (Has w1 (g179) 9 #[.string ⟨m.name.toArray⟩]) := Lib.hid ((hkk (g179) N2.out.here (fun hh => by have := hZ2 _ hh; omega)).trans N2.out)
      replace hb := hb.trans (hbB.mono (show w.heap.size ≤ w.heap.size + 1 by omega))
      have TW := Lib.hid (Two.kept htw)
      clear htw hkk hbB
      try clear hHeld
      refine hK.out _ _ ⟨M.out.cell 0, M.out.cell 1⟩ (fun hHeld => ?_)
      clear hK K
      refine wpAnyH_take (i := 10) (v := ?vk186) rfl (by kernel_rfl) (by kernel_rfl) (by kernel_rfl) (fun _ _ _ h => h) (Or.inl ⟨by rfl, ?hk186⟩) (by assumption) ?rk186
      case hk186 => (intro w hSw; (try dsimp only at hSw); go_simp; (first | done | with_reducible rfl))
      try simp only [put_laws]
      refine wpAnyH_take (i := 11) (v := ?vk187) rfl (by kernel_rfl) (by kernel_rfl) (by kernel_rfl) (fun _ _ _ h => h) (Or.inl ⟨by rfl, ?hk187⟩) (by assumption) ?rk187
      case hk187 => (intro w hSw; (try dsimp only at hSw); go_simp; (first | done | with_reducible rfl))
      try simp only [put_laws]
      refine wpAnyH_done (by kernel_rfl) ?_ _
      try clear hHeld
      go_wp2_with fail
      go_meet
      exact ⟨by rw [HT1.out, HT2.out]; exact TW.out.now, T.out, M.out, hb⟩
     ·
      skip
      go_simp
      have hb188 := below_al (Below.refl wd177.heap.size wd177) (Nat.le_refl _) (.cells #[.string ⟨m.name.toArray⟩] 9)
      have N2 := Has.made wd177 9 #[.string ⟨m.name.toArray⟩]
      have hl190 := T.out.here
      have hl191 := M.out.here
      have hl192 := N1.out.here
      have hl193 := TW.out.le
      have hl194 := hb.size
      replace T := Lib.hid (T.out.below hb188 T.out.here)
      replace M := Lib.hid (M.out.below hb188 M.out.here)
      replace N1 := Lib.hid (N1.out.below hb188 N1.out.here)
      replace TW := Lib.hid (TW.out.on hb188)
      replace hb := hb.trans (hb188.mono hb.size)
      replace N2 := Lib.hid N2
      clear hb188
      generalize (wd177.alloc (.cells #[.string ⟨m.name.toArray⟩] 9)) = wd195 at *
      generalize wd177.heap.size = g189 at *
      try clear hHeld
      refine hK.out _ _ ⟨M.out.cell 0, M.out.cell 1⟩ (fun hHeld => ?_)
      clear hK K
      refine wpAnyH_ready (rs := [4]) (by kernel_rfl) (by simp) ?_
      refine AllReadyH.cons rfl (fun K hK => ?_) (AllReadyH.nil)
      refine step_two1 (by rfl) _ _ (by rfl) TW.out.now (.int .i64 m.id) (by rfl) N1.out (by rfl) rfl (by omega) T.out.here ?_
      intro v1' w1 htw hbB hkk
      clear TW
      replace T : Hid (Has w1 (w.heap.size) 67 #[.int .i64 x.kind, .string ⟨x.name.toArray⟩, .int .i64 x.low, .int .i64 x.high, .int .i64 x.max, .slice C1 x.syms.length m1, .slice C2 x.mems.length m2, .int .i64 x.key, .int .i64 x.elem, .bool x.opn]) := Lib.hid ((hkk (w.heap.size) T.out.here (fun hh => by have := hZ1 _ hh; omega)).trans T.out)
      replace M : Hid (Has w1 (g158) 69 #[.int .i64 m.id, .string ⟨m.name.toArray⟩, .int .i64 m.ty, .bool m.crit, .bool m.hasDef, .int .i64 m.dflt.kind, .bool m.dflt.bool, .int .i64 m.dflt.num, .string ⟨m.dflt.str.toArray⟩, .int .i64 m.dflt.id, .slice D1 m.dflt.keys.length d1, .slice D2 m.dflt.items.length d2, .slice D3 m.dflt.rest.length d3]) := Lib.hid ((hkk (g158) M.out.here (fun hh => by have := hZ1 _ hh; omega)).trans M.out)
      replace N1 : Hid (Has w1 (g172) 3 #[.int .i64 m.id]) := Lib.hid ((hkk (g172) N1.out.here (fun hh => by have := hZ1 _ hh; omega)).trans N1.out)
      replace N2 : Hid (Has w1 (g189) 9 #[.string ⟨m.name.toArray⟩]) := Lib.hid ((hkk (g189) N2.out.here (fun hh => by have := hZ1 _ hh; omega)).trans N2.out)
      replace hb := hb.trans (hbB.mono (show w.heap.size ≤ w.heap.size + 1 by omega))
      have TW := Lib.hid (Two.kept htw)
      clear htw hkk hbB
      try clear hHeld
      refine hK.out _ _ ⟨M.out.cell 0, M.out.cell 1⟩ (fun hHeld => ?_)
      clear hK K
      refine wpAnyH_ready (rs := [9]) (by kernel_rfl) (by simp) ?_
      refine AllReadyH.cons rfl (fun K hK => ?_) (AllReadyH.nil)
      refine step_two2 (by rfl) _ _ (by rfl) TW.out.now (.string ⟨m.name.toArray⟩) (by rfl) N2.out (by rfl) rfl (by omega) T.out.here ?_
      intro v2' w1 htw hbB hkk
      clear TW
      replace T : Hid (Has w1 (w.heap.size) 67 #[.int .i64 x.kind, .string ⟨x.name.toArray⟩, .int .i64 x.low, .int .i64 x.high, .int .i64 x.max, .slice C1 x.syms.length m1, .slice C2 x.mems.length m2, .int .i64 x.key, .int .i64 x.elem, .bool x.opn]) := Lib.hid ((hkk (w.heap.size) T.out.here (fun hh => by have := hZ2 _ hh; omega)).trans T.out)
      replace M : Hid (Has w1 (g158) 69 #[.int .i64 m.id, .string ⟨m.name.toArray⟩, .int .i64 m.ty, .bool m.crit, .bool m.hasDef, .int .i64 m.dflt.kind, .bool m.dflt.bool, .int .i64 m.dflt.num, .string ⟨m.dflt.str.toArray⟩, .int .i64 m.dflt.id, .slice D1 m.dflt.keys.length d1, .slice D2 m.dflt.items.length d2, .slice D3 m.dflt.rest.length d3]) := Lib.hid ((hkk (g158) M.out.here (fun hh => by have := hZ2 _ hh; omega)).trans M.out)
      replace N1 : Hid (Has w1 (g172) 3 #[.int .i64 m.id]) := Lib.hid ((hkk (g172) N1.out.here (fun hh => by have := hZ2 _ hh; omega)).trans N1.out)
      replace N2 : Hid (Has w1 (g189) 9 #[.string ⟨m.name.toArray⟩]) := Lib.hid ((hkk (g189) N2.out.here (fun hh => by have := hZ2 _ hh; omega)).trans N2.out)
      replace hb := hb.trans (hbB.mono (show w.heap.size ≤ w.heap.size + 1 by omega))
      have TW := Lib.hid (Two.kept htw)
      clear htw hkk hbB
      try clear hHeld
      refine hK.out _ _ ⟨M.out.cell 0, M.out.cell 1⟩ (fun hHeld => ?_)
      clear hK K
      refine wpAnyH_take (i := 10) (v := ?vk196) rfl (by kernel_rfl) (by kernel_rfl) (by kernel_rfl) (fun _ _ _ h => h) (Or.inl ⟨by rfl, ?hk196⟩) (by assumption) ?rk196
      case hk196 => (intro w hSw; (try dsimp only at hSw); go_simp; (first | done | with_reducible rfl))
      try simp only [put_laws]
      refine wpAnyH_take (i := 11) (v := ?vk197) rfl (by kernel_rfl) (by kernel_rfl) (by kernel_rfl) (fun _ _ _ h => h) (Or.inl ⟨by rfl, ?hk197⟩) (by assumption) ?rk197
      case hk197 => (intro w hSw; (try dsimp only at hSw); go_simp; (first | done | with_reducible rfl))
      try simp only [put_laws]
      refine wpAnyH_done (by kernel_rfl) ?_ _
      try clear hHeld
      go_wp2_with fail
      go_meet
      exact ⟨by rw [HT1.out, HT2.out]; exact TW.out.now, T.out, M.out, hb⟩
    ·
     skip
     go_simp
     have hb198 := below_al (Below.refl wd164.heap.size wd164) (Nat.le_refl _) (.cells #[.string ⟨m.name.toArray⟩] 9)
     have N2 := Has.made wd164 9 #[.string ⟨m.name.toArray⟩]
     have hl200 := T.out.here
     have hl201 := M.out.here
     have hl202 := TW.out.le
     have hl203 := hb.size
     replace T := Lib.hid (T.out.below hb198 T.out.here)
     replace M := Lib.hid (M.out.below hb198 M.out.here)
     replace TW := Lib.hid (TW.out.on hb198)
     replace hb := hb.trans (hb198.mono hb.size)
     replace N2 := Lib.hid N2
     clear hb198
     generalize (wd164.alloc (.cells #[.string ⟨m.name.toArray⟩] 9)) = wd204 at *
     generalize wd164.heap.size = g199 at *
     try clear hHeld
     refine hK.out _ _ ⟨M.out.cell 0, M.out.cell 1⟩ (fun hHeld => ?_)
     clear hK K
     refine wpAnyH_ready (rs := [3]) (by kernel_rfl) (by simp) ?_
     refine AllReadyH.cons rfl (fun K hK => ?_) (AllReadyH.nil)
     go_simp
     have hb205 := below_al (Below.refl wd204.heap.size wd204) (Nat.le_refl _) (.cells #[.int .i64 m.id] 3)
     have N1 := Has.made wd204 3 #[.int .i64 m.id]
     have hl207 := T.out.here
     have hl208 := M.out.here
     have hl209 := N2.out.here
     have hl210 := TW.out.le
     have hl211 := hb.size
     replace T := Lib.hid (T.out.below hb205 T.out.here)
     replace M := Lib.hid (M.out.below hb205 M.out.here)
     replace N2 := Lib.hid (N2.out.below hb205 N2.out.here)
     replace TW := Lib.hid (TW.out.on hb205)
     replace hb := hb.trans (hb205.mono hb.size)
     replace N1 := Lib.hid N1
     clear hb205
     generalize (wd204.alloc (.cells #[.int .i64 m.id] 3)) = wd212 at *
     generalize wd204.heap.size = g206 at *
     try clear hHeld
     refine hK.out _ _ ⟨M.out.cell 0, M.out.cell 1⟩ (fun hHeld => ?_)
     clear hK K
     refine wpAnyH_ready (rs := [4]) (by kernel_rfl) (by simp) ?_
     refine AllReadyH.cons rfl (fun K hK => ?_) (AllReadyH.nil)
     refine step_two1 (by rfl) _ _ (by rfl) TW.out.now (.int .i64 m.id) (by rfl) N1.out (by rfl) rfl (by omega) T.out.here ?_
     intro v1' w1 htw hbB hkk
     clear TW
     replace T : Hid (Has w1 (w.heap.size) 67 #[.int .i64 x.kind, .string ⟨x.name.toArray⟩, .int .i64 x.low, .int .i64 x.high, .int .i64 x.max, .slice C1 x.syms.length m1, .slice C2 x.mems.length m2, .int .i64 x.key, .int .i64 x.elem, .bool x.opn]) := Lib.hid ((hkk (w.heap.size) T.out.here (fun hh => by have := hZ1 _ hh; omega)).trans T.out)
     replace M : Hid (Has w1 (g158) 69 #[.int .i64 m.id, .string ⟨m.name.toArray⟩, .int .i64 m.ty, .bool m.crit, .bool m.hasDef, .int .i64 m.dflt.kind, .bool m.dflt.bool, .int .i64 m.dflt.num, .string ⟨m.dflt.str.toArray⟩, .int .i64 m.dflt.id, .slice D1 m.dflt.keys.length d1, .slice D2 m.dflt.items.length d2, .slice D3 m.dflt.rest.length d3]) := Lib.hid ((hkk (g158) M.out.here (fun hh => by have := hZ1 _ hh; omega)).trans M.out)
     replace N2 : Hid (Has w1 (g199) 9 #[.string ⟨m.name.toArray⟩]) := Lib.hid ((hkk (g199) N2.out.here (fun hh => by have := hZ1 _ hh; omega)).trans N2.out)
     replace N1 : Hid (Has w1 (g206) 3 #[.int .i64 m.id]) := Lib.hid ((hkk (g206) N1.out.here (fun hh => by have := hZ1 _ hh; omega)).trans N1.out)
     replace hb := hb.trans (hbB.mono (show w.heap.size ≤ w.heap.size + 1 by omega))
     have TW := Lib.hid (Two.kept htw)
     clear htw hkk hbB
     try clear hHeld
     refine hK.out _ _ ⟨M.out.cell 0, M.out.cell 1⟩ (fun hHeld => ?_)
     clear hK K
     refine wpAnyH_ready (rs := [9]) (by kernel_rfl) (by simp) ?_
     refine AllReadyH.cons rfl (fun K hK => ?_) (AllReadyH.nil)
     refine step_two2 (by rfl) _ _ (by rfl) TW.out.now (.string ⟨m.name.toArray⟩) (by rfl) N2.out (by rfl) rfl (by omega) T.out.here ?_
     intro v2' w1 htw hbB hkk
     clear TW
     replace T : Hid (Has w1 (w.heap.size) 67 #[.int .i64 x.kind, .string ⟨x.name.toArray⟩, .int .i64 x.low, .int .i64 x.high, .int .i64 x.max, .slice C1 x.syms.length m1, .slice C2 x.mems.length m2, .int .i64 x.key, .int .i64 x.elem, .bool x.opn]) := Lib.hid ((hkk (w.heap.size) T.out.here (fun hh => by have := hZ2 _ hh; omega)).trans T.out)
     replace M : Hid (Has w1 (g158) 69 #[.int .i64 m.id, .string ⟨m.name.toArray⟩, .int .i64 m.ty, .bool m.crit, .bool m.hasDef, .int .i64 m.dflt.kind, .bool m.dflt.bool, .int .i64 m.dflt.num, .string ⟨m.dflt.str.toArray⟩, .int .i64 m.dflt.id, .slice D1 m.dflt.keys.length d1, .slice D2 m.dflt.items.length d2, .slice D3 m.dflt.rest.length d3]) := Lib.hid ((hkk (g158) M.out.here (fun hh => by have := hZ2 _ hh; omega)).trans M.out)
     replace N2 : Hid (Has w1 (g199) 9 #[.string ⟨m.name.toArray⟩]) := Lib.hid ((hkk (g199) N2.out.here (fun hh => by have := hZ2 _ hh; omega)).trans N2.out)
     replace N1 : Hid (Has w1 (g206) 3 #[.int .i64 m.id]) := Lib.hid ((hkk (g206) N1.out.here (fun hh => by have := hZ2 _ hh; omega)).trans N1.out)
     replace hb := hb.trans (hbB.mono (show w.heap.size ≤ w.heap.size + 1 by omega))
     have TW := Lib.hid (Two.kept htw)
     clear htw hkk hbB
     try clear hHeld
     refine hK.out _ _ ⟨M.out.cell 0, M.out.cell 1⟩ (fun hHeld => ?_)
     clear hK K
     refine wpAnyH_take (i := 10) (v := ?vk213) rfl (by kernel_rfl) (by kernel_rfl) (by kernel_rfl) (fun _ _ _ h => h) (Or.inl ⟨by rfl, ?hk213⟩) (by assumption) ?rk213
     case hk213 => (intro w hSw; (try dsimp only at hSw); go_simp; (first | done | with_reducible rfl))
     try simp only [put_laws]
     refine wpAnyH_take (i := 11) (v := ?vk214) rfl (by kernel_rfl) (by kernel_rfl) (by kernel_rfl) (fun _ _ _ h => h) (Or.inl ⟨by rfl, ?hk214⟩) (by assumption) ?rk214
     case hk214 => (intro w hSw; (try dsimp only at hSw); go_simp; (first | done | with_reducible rfl))
     try simp only [put_laws]
     refine wpAnyH_done (by kernel_rfl) ?_ _
     try clear hHeld
     go_wp2_with fail
     go_meet
     exact ⟨by rw [HT1.out, HT2.out]; exact TW.out.now, T.out, M.out, hb⟩
   case rest =>
    clear T M TW hb
    subst hgM
    obtain ⟨htw, T, M, hb⟩ := hcut
    replace T := Lib.hid T
    replace M := Lib.hid M
    have TW := Lib.hid (Two.kept htw)
    clear htw hZ1 hZ2
    have hcr : m.crit = true ∨ m.crit = false := by cases m.crit <;> simp
    have hhd : m.hasDef = true ∨ m.hasDef = false := by cases m.hasDef <;> simp
    by_cases hun : x.kind = 6
    ·
     have tun : (x.kind == 6) = true := by simp [hun]
     have Hun : Hid (decide (x.kind = 6) = true) := decide_eq_true hun
     clear hun
     rcases hhd with hhd | hhd
     ·
      have Hm : Hid (memB (decide (x.kind = 6)) m = false) := by show _ = _; unfold memB; rw [Hun.out, hhd]; simp
      rcases hcr with hcr | hcr
      ·
       have cT_0 : wc.cell? ⟨w.heap.size, 0, none⟩ = some (.int .i64 x.kind) := T.out.cell 0
       have cM_3 : wc.cell? ⟨gM, 3, none⟩ = some (.bool m.crit) := M.out.cell 3
       have cM_4 : wc.cell? ⟨gM, 4, none⟩ = some (.bool m.hasDef) := M.out.cell 4
       have Hno : Hid (membersB x = false) := members_no x m Hmem.out Hm.out
       go_wp2_with fail
       go_ret
       exact ⟨ret_bool Hno.out.symm, hb⟩
      ·
       have cT_0 : wc.cell? ⟨w.heap.size, 0, none⟩ = some (.int .i64 x.kind) := T.out.cell 0
       have cM_3 : wc.cell? ⟨gM, 3, none⟩ = some (.bool m.crit) := M.out.cell 3
       have cM_4 : wc.cell? ⟨gM, 4, none⟩ = some (.bool m.hasDef) := M.out.cell 4
       have Hno : Hid (membersB x = false) := members_no x m Hmem.out Hm.out
       go_wp2_with fail
       go_ret
       exact ⟨ret_bool Hno.out.symm, hb⟩
     ·
      rcases hcr with hcr | hcr
      ·
       have Hm : Hid (memB (decide (x.kind = 6)) m = false) := by show _ = _; unfold memB; rw [Hun.out, hcr]; simp
       have cT_0 : wc.cell? ⟨w.heap.size, 0, none⟩ = some (.int .i64 x.kind) := T.out.cell 0
       have cM_3 : wc.cell? ⟨gM, 3, none⟩ = some (.bool m.crit) := M.out.cell 3
       have cM_4 : wc.cell? ⟨gM, 4, none⟩ = some (.bool m.hasDef) := M.out.cell 4
       have Hno : Hid (membersB x = false) := members_no x m Hmem.out Hm.out
       go_wp2_with fail
       go_ret
       exact ⟨ret_bool Hno.out.symm, hb⟩
      ·
       have Hcr := Lib.hid hcr
       have Hhd := Lib.hid hhd
       have cT_0 : wc.cell? ⟨w.heap.size, 0, none⟩ = some (.int .i64 x.kind) := T.out.cell 0
       obtain ⟨-, -, -, cM_3, cM_4, cM_5, cM_6, cM_7, cM_8, cM_9, cM_10, cM_11, cM_12⟩ := M.out.c13
       go_wp2_with fail
       clear cT_0 cM_3 cM_4 cM_5 cM_6 cM_7 cM_8 cM_9 cM_10 cM_11 cM_12
       ((with_reducible refine (blank_any m.dflt _ _ _ _ (HDF.out.on hb)).mono ?_); rintro e wd215 ⟨rfl, hb216⟩)
       replace T := Lib.hid (T.out.below hb216 T.out.here)
       replace M := Lib.hid (M.out.below hb216 M.out.here)
       replace TW := Lib.hid (TW.out.on hb216)
       replace hb := hb.trans (hb216.mono hb.size)
       clear hb216
       cases hbl : sameV m.dflt val0 with
       | true =>
        have Hm : Hid (memB (decide (x.kind = 6)) m = true) := by show _ = _; unfold memB; rw [Hun.out, Hcr.out, Hhd.out, hbl]; rfl
        clear hbl
        go_wp2_with fail
        go_roundw
        case rel => exact ⟨k + 1, by omega, by go_num, by rw [HAL.out, Hm.out, Bool.and_true]; exact Hall.out, TW.out.now, T.out, hb⟩
        case measure => simp [intOf]; omega
       | false =>
        have Hm : Hid (memB (decide (x.kind = 6)) m = false) := by show _ = _; unfold memB; rw [Hun.out, Hcr.out, Hhd.out, hbl]; simp
        clear hbl
        have Hno : Hid (membersB x = false) := members_no x m Hmem.out Hm.out
        have cT_0 : wd215.cell? ⟨w.heap.size, 0, none⟩ = some (.int .i64 x.kind) := T.out.cell 0
        go_wp2_with fail
        go_ret
        exact ⟨ret_bool Hno.out.symm, hb⟩
    ·
     have tun : (x.kind == 6) = false := by simpa using hun
     have Hun : Hid (decide (x.kind = 6) = false) := decide_eq_false hun
     clear hun
     rcases hhd with hhd | hhd
     ·
      rcases hcr with hcr | hcr
      ·
       have Hm : Hid (memB (decide (x.kind = 6)) m = false) := by show _ = _; unfold memB; rw [Hun.out, hhd, hcr]; rfl
       have cT_0 : wc.cell? ⟨w.heap.size, 0, none⟩ = some (.int .i64 x.kind) := T.out.cell 0
       have cM_3 : wc.cell? ⟨gM, 3, none⟩ = some (.bool m.crit) := M.out.cell 3
       have cM_4 : wc.cell? ⟨gM, 4, none⟩ = some (.bool m.hasDef) := M.out.cell 4
       have Hno : Hid (membersB x = false) := members_no x m Hmem.out Hm.out
       go_wp2_with fail
       go_ret
       exact ⟨ret_bool Hno.out.symm, hb⟩
      ·
       have Hm : Hid (memB (decide (x.kind = 6)) m = true) := by show _ = _; unfold memB; rw [Hun.out, hhd, hcr]; rfl
       have cT_0 : wc.cell? ⟨w.heap.size, 0, none⟩ = some (.int .i64 x.kind) := T.out.cell 0
       have cM_3 : wc.cell? ⟨gM, 3, none⟩ = some (.bool m.crit) := M.out.cell 3
       have cM_4 : wc.cell? ⟨gM, 4, none⟩ = some (.bool m.hasDef) := M.out.cell 4
       go_wp2_with fail
       go_roundw
       case rel => exact ⟨k + 1, by omega, by go_num, by rw [HAL.out, Hm.out, Bool.and_true]; exact Hall.out, TW.out.now, T.out, hb⟩
       case measure => simp [intOf]; omega
     ·
      rcases hcr with hcr | hcr
      ·
       have Hcr := Lib.hid hcr
       have Hhd := Lib.hid hhd
       have cT_0 : wc.cell? ⟨w.heap.size, 0, none⟩ = some (.int .i64 x.kind) := T.out.cell 0
       obtain ⟨-, -, -, cM_3, cM_4, cM_5, cM_6, cM_7, cM_8, cM_9, cM_10, cM_11, cM_12⟩ := M.out.c13
       go_wp2_with fail
       clear cT_0 cM_3 cM_4 cM_5 cM_6 cM_7 cM_8 cM_9 cM_10 cM_11 cM_12
       ((with_reducible refine (blank_any m.dflt _ _ _ _ (HDF.out.on hb)).mono ?_); rintro e wd217 ⟨rfl, hb218⟩)
       replace T := Lib.hid (T.out.below hb218 T.out.here)
       replace M := Lib.hid (M.out.below hb218 M.out.here)
       replace TW := Lib.hid (TW.out.on hb218)
       replace hb := hb.trans (hb218.mono hb.size)
       clear hb218
       cases hbl : sameV m.dflt val0 with
       | true =>
        have Hm : Hid (memB (decide (x.kind = 6)) m = true) := by show _ = _; unfold memB; rw [Hun.out, Hcr.out, Hhd.out, hbl]; rfl
        clear hbl
        go_wp2_with fail
        go_roundw
        case rel => exact ⟨k + 1, by omega, by go_num, by rw [HAL.out, Hm.out, Bool.and_true]; exact Hall.out, TW.out.now, T.out, hb⟩
        case measure => simp [intOf]; omega
       | false =>
        have Hm : Hid (memB (decide (x.kind = 6)) m = false) := by show _ = _; unfold memB; rw [Hun.out, Hcr.out, Hhd.out, hbl]; simp
        clear hbl
        have Hno : Hid (membersB x = false) := members_no x m Hmem.out Hm.out
        have cT_0 : wd217.cell? ⟨w.heap.size, 0, none⟩ = some (.int .i64 x.kind) := T.out.cell 0
        go_wp2_with fail
        go_ret
        exact ⟨ret_bool Hno.out.symm, hb⟩
      ·
       have Hcr := Lib.hid hcr
       have Hhd := Lib.hid hhd
       have cT_0 : wc.cell? ⟨w.heap.size, 0, none⟩ = some (.int .i64 x.kind) := T.out.cell 0
       obtain ⟨-, -, -, cM_3, cM_4, cM_5, cM_6, cM_7, cM_8, cM_9, cM_10, cM_11, cM_12⟩ := M.out.c13
       go_wp2_with fail
       clear cT_0 cM_3 cM_4 cM_5 cM_6 cM_7 cM_8 cM_9 cM_10 cM_11 cM_12
       ((with_reducible refine (blank_any m.dflt _ _ _ _ (HDF.out.on hb)).mono ?_); rintro e wd219 ⟨rfl, hb220⟩)
       replace T := Lib.hid (T.out.below hb220 T.out.here)
       replace M := Lib.hid (M.out.below hb220 M.out.here)
       replace TW := Lib.hid (TW.out.on hb220)
       replace hb := hb.trans (hb220.mono hb.size)
       clear hb220
       cases hbl : sameV m.dflt val0 with
       | true =>
        have Hm : Hid (memB (decide (x.kind = 6)) m = true) := by show _ = _; unfold memB; rw [Hun.out, Hcr.out, Hhd.out, hbl]; rfl
        clear hbl
        go_wp2_with fail
        go_roundw
        case rel => exact ⟨k + 1, by omega, by go_num, by rw [HAL.out, Hm.out, Bool.and_true]; exact Hall.out, TW.out.now, T.out, hb⟩
        case measure => simp [intOf]; omega
       | false =>
        have Hm : Hid (memB (decide (x.kind = 6)) m = false) := by show _ = _; unfold memB; rw [Hun.out, Hcr.out, Hhd.out, hbl]; simp
        clear hbl
        have Hno : Hid (membersB x = false) := members_no x m Hmem.out Hm.out
        have cT_0 : wd219.cell? ⟨w.heap.size, 0, none⟩ = some (.int .i64 x.kind) := T.out.cell 0
        go_wp2_with fail
        go_ret
        exact ⟨ret_bool Hno.out.symm, hb⟩
  ·
   obtain rfl : k = x.mems.length := by omega
   rw [List.take_of_length_le (Nat.le_refl _)] at hall
   rw [List.take_of_length_le (by simp)] at htw
   have hlm : (x.mems.map pairM).length = x.mems.length := by simp
   obtain ⟨S3, c3, rfl⟩ := own_form htw.o1
   obtain ⟨S4, c4, rfl⟩ := own_form htw.o2
   have hr1 := Rd.of_own htw.o1
   have hr2 := Rd.of_own htw.o2
   have hids : ∀ W, Below wr.heap.size wr W → Calls Try.prog 104 #[.slice S3 x.mems.length c3, .slice S4 x.mems.length c4] W fun e w' => e = .returned (.bool (idsB (x.mems.map pairM))) ∧ Below W.heap.size W w' := fun W hW =>
    sids_any (x.mems.map pairM) _ _ W (by omega) HIN.out (by rw [hlm]; exact (hr1.below hW).mono hW.size) (by rw [hlm]; exact (hr2.below hW).mono hW.size)
   have HI := Lib.hid hids
   have hmb : membersB x = ((decide (x.kind = 5) || decide (0 < x.mems.length)) && idsB (x.mems.map pairM)) := by unfold membersB; rw [hall]; rfl
   clear htw hr1 hr2 hids hall hlm
   replace T := Lib.hid T
   by_cases h5 : x.kind = 5
   ·
    have t5 : (x.kind == 5) = true := by simp [h5]
    have Hs : Hid (membersB x = idsB (x.mems.map pairM)) := by show _ = _; rw [hmb, decide_eq_true h5]; rfl
    clear hmb h5
    have cT_0 : wr.cell? ⟨w.heap.size, 0, none⟩ = some (.int .i64 x.kind) := T.out.cell 0
    go_wp2_with fail
    clear cT_0
    ((with_reducible refine (HI.out _ (Below.refl _ _)).mono ?_); rintro e wd221 ⟨rfl, hb222⟩)
    replace T := Lib.hid (T.out.below hb222 T.out.here)
    replace hb := hb.trans (hb222.mono hb.size)
    clear hb222
    go_wp2_with fail
    go_ret
    exact ⟨ret_bool Hs.out.symm, hb⟩
   ·
    have t5 : (x.kind == 5) = false := by simpa using h5
    by_cases h0 : x.mems.length = 0
    ·
     have Hs : Hid (membersB x = false) := by show _ = _; rw [hmb, decide_eq_false h5, h0]; rfl
     have hd : decide (0 < x.mems.length) = false := decide_eq_false (by omega)
     have Hn := Lib.hid h0
     clear hmb h5 h0
     have cT_0 : wr.cell? ⟨w.heap.size, 0, none⟩ = some (.int .i64 x.kind) := T.out.cell 0
     go_wp2_with fail
     go_ret
     exact ⟨ret_bool Hs.out.symm, hb⟩
    ·
     have Hs : Hid (membersB x = idsB (x.mems.map pairM)) := by show _ = _; rw [hmb, decide_eq_true (show 0 < x.mems.length by omega), Bool.or_true]; rfl
     have hd : decide (0 < x.mems.length) = true := decide_eq_true (by omega)
     have hd2 : (0 : Int) < x.mems.length := by omega
     clear hmb h5 h0
     have cT_0 : wr.cell? ⟨w.heap.size, 0, none⟩ = some (.int .i64 x.kind) := T.out.cell 0
     go_wp2_with fail
     clear cT_0
     ((with_reducible refine (HI.out _ (Below.refl _ _)).mono ?_); rintro e wd223 ⟨rfl, hb224⟩)
     replace T := Lib.hid (T.out.below hb224 T.out.here)
     replace hb := hb.trans (hb224.mono hb.size)
     clear hb224
     go_wp2_with fail
     go_ret
     exact ⟨ret_bool Hs.out.symm, hb⟩
end Go.Proofs.Ytjajgclchapllaa
namespace Go.Proofs.Ytjajgclchapllaa
open Go.ChangeShapes Go.WideShapes Go.ChangeAt Go.RowKit
def rmemB (rc : Bool) (l : List Mem) : Bool := (l.all (memB (!rc)) && idsG (l.map pairM) none []) && (decide (l.length ≤ 16) && (rc || decide (1 ≤ l.length)))
theorem rmem_at (l : List Mem) (k : Nat) (h : k < l.length) (f : Mem → Bool) (S : List (List UInt8)) :
  ((l.drop k).all f && idsG ((l.map pairM).drop k) (prevOf (l.map pairM) k) S) = (idB2 (prevZ (l.map pairM) k) l[k].id && (nameB l[k].name && (f l[k] && (!S.contains l[k].name && ((l.drop (k+1)).all f && idsG ((l.map pairM).drop (k+1)) (some l[k].id) (S ++ [l[k].name])))))) := by
 have hk : k < (l.map pairM).length := by simpa using h
 have hg : (l.map pairM)[k] = (l[k].id, l[k].name) := by rw [List.getElem_map]; rfl
 rw [idsG_at (l.map pairM) k hk, hg, ← Bool.and_assoc (freeB _), prevZ_id, List.drop_eq_getElem_cons h, List.all_cons]
 simp only
 cases idB2 (prevZ (l.map pairM) k) l[k].id <;> cases nameB l[k].name <;> cases f l[k] <;> cases S.contains l[k].name <;> simp
set_option maxRecDepth 100000 in
set_option maxHeartbeats 4000000 in
theorem rmemberstrue_any (l : List Mem) (va : Value) (w : World) (hl : l.length ≤ 140737488351232) (h1 : RdMems w w.heap.size va l) :
  Calls Try.prog 98 #[va, .bool true] w fun e w' => e = .returned (.bool (rmemB true l)) ∧ Below w.heap.size w w' := by
 obtain ⟨A, c, rfl, hca⟩ := h1.form
 by_cases hz0 : l.length = 0
 ·
  have hnil := List.eq_nil_of_length_eq_zero hz0
  subst hnil
  clear h1
  go_enter Try.func98, Try.ntmps98
  go_wp2
  refine wp_loop_rounds 1 ?_
  rw [rounds_succ]
  go_wp2
  go_ret
  exact ⟨rfl, Below.refl _ _⟩
 obtain ⟨b1, o1, rfl, hb1, hel⟩ := h1.elem (by omega)
 have HEL := Lib.hid hel
 clear h1 hel
 go_enter Try.func98, Try.ntmps98
 go_wp2_with fail
 go_loopw [5, 6] (fun b i wr => ∃ k : Nat, k ≤ l.length ∧ i = .int .i64 k ∧ b = .int .i64 (prevZ (l.map pairM) k) ∧ (l.all (memB (!true)) && idsG (l.map pairM) none []) = ((l.drop k).all (memB (!true)) && idsG ((l.map pairM).drop k) (prevOf (l.map pairM) k) (((l.map pairM).take k).map Prod.snd)) ∧ Below w.heap.size w wr) (fun _ i _ => l.length - (intOf i).toNat)
 case atStart => exact ⟨0, by omega, rfl, rfl, by simp [prevOf], Below.refl _ _⟩
 case round =>
  obtain ⟨k, hk, rfl, rfl, hid, hb⟩ := hrel
  by_cases hlt : k < l.length
  ·
   obtain ⟨dk, di, dr, hcells, hma⟩ := HEL.out k hlt
   have hlk : k < (l.map pairM).length := by simpa using hlt
   have hgk : (l.map pairM)[k] = (l[k].id, l[k].name) := by rw [List.getElem_map]; rfl
   rw [rmem_at l k hlt] at hid
   have HZ : Hid (prevZ (l.map pairM) (k + 1) = l[k].id) := by show _ = _; rw [prevZ_succ _ k hlk, hgk]
   have HPO : Hid (prevOf (l.map pairM) (k + 1) = some l[k].id) := by show _ = _; rw [prevOf_succ _ k hlk, hgk]
   have HNS : Hid (((l.map pairM).take k).map Prod.snd ++ [l[k].name] = ((l.map pairM).take (k + 1)).map Prod.snd) := by have h := names_succ (l.map pairM) k hlk; rw [hgk] at h; exact h
   clear hgk hlk
   generalize l[k] = m at *
   obtain ⟨D1, d1, D2, d2, D3, d3, rfl, rfl, rfl, -, -, -⟩ := hma.dflt.forms
   have HDF := Lib.hid hma.dflt
   have hsv : ∀ W, ValAt W W.heap.size m.dflt (.slice D1 m.dflt.keys.length d1) (.slice D2 m.dflt.items.length d2) (.slice D3 m.dflt.rest.length d3) → Calls Try.prog 114 #[valA m.dflt (.slice D1 m.dflt.keys.length d1) (.slice D2 m.dflt.items.length d2) (.slice D3 m.dflt.rest.length d3), .agg #[.int .i64 0, .bool false, .int .i64 0, .string ⟨#[]⟩, .int .i64 0, .slice none 0 0, .slice none 0 0, .slice none 0 0]] W fun e w' => e = .returned (.bool (sameV m.dflt val0)) ∧ Below W.heap.size W w' :=
    fun W h => rsame_any (nodes m.dflt + 1) m.dflt val0 _ _ _ (.slice none 0 0) (.slice none 0 0) (.slice none 0 0) W (by omega) h (val0_at' _ _)
   have HSV := Lib.hid hsv
   obtain ⟨y0, y1, y2, y3, y4, y5, y6, y7, y8, y9, y10, y11, y12⟩ := hcells
   have x0 := (hb.cell (p := ⟨b1, _, none⟩) hb1).trans y0
   have x1 := (hb.cell (p := ⟨b1, _, none⟩) hb1).trans y1
   have x2 := (hb.cell (p := ⟨b1, _, none⟩) hb1).trans y2
   have x3 := (hb.cell (p := ⟨b1, _, none⟩) hb1).trans y3
   have x4 := (hb.cell (p := ⟨b1, _, none⟩) hb1).trans y4
   have x5 := (hb.cell (p := ⟨b1, _, none⟩) hb1).trans y5
   have x6 := (hb.cell (p := ⟨b1, _, none⟩) hb1).trans y6
   have x7 := (hb.cell (p := ⟨b1, _, none⟩) hb1).trans y7
   have x8 := (hb.cell (p := ⟨b1, _, none⟩) hb1).trans y8
   have x9 := (hb.cell (p := ⟨b1, _, none⟩) hb1).trans y9
   have x10 := (hb.cell (p := ⟨b1, _, none⟩) hb1).trans y10
   have x11 := (hb.cell (p := ⟨b1, _, none⟩) hb1).trans y11
   have x12 := (hb.cell (p := ⟨b1, _, none⟩) hb1).trans y12
   clear y0 y1 y2 y3 y4 y5 y6 y7 y8 y9 y10 y11 y12 hma hsv
   have hi1 : (k : Int) < l.length := by omega
   have hidc := fun W => rid2_any (prevZ (l.map pairM) k) m.id W
   have hname := fun W => risname_any m.name W
   generalize prevZ (l.map pairM) k = z at *
   go_upto_region 6 with fail
   have hb225 := below_al (Below.refl wr.heap.size wr) (Nat.le_refl _) (.cells #[.int .i64 m.id, .string ⟨m.name.toArray⟩, .int .i64 m.ty, .bool m.crit, .bool m.hasDef, .int .i64 m.dflt.kind, .bool m.dflt.bool, .int .i64 m.dflt.num, .string ⟨m.dflt.str.toArray⟩, .int .i64 m.dflt.id, .slice D1 m.dflt.keys.length d1, .slice D2 m.dflt.items.length d2, .slice D3 m.dflt.rest.length d3] 69)
   have M := Has.made wr 69 #[.int .i64 m.id, .string ⟨m.name.toArray⟩, .int .i64 m.ty, .bool m.crit, .bool m.hasDef, .int .i64 m.dflt.kind, .bool m.dflt.bool, .int .i64 m.dflt.num, .string ⟨m.dflt.str.toArray⟩, .int .i64 m.dflt.id, .slice D1 m.dflt.keys.length d1, .slice D2 m.dflt.items.length d2, .slice D3 m.dflt.rest.length d3]
   have hl227 := hb.size
   replace hb := hb.trans (hb225.mono hb.size)
   replace M := Lib.hid M
   clear hb225
   generalize (wr.alloc (.cells #[.int .i64 m.id, .string ⟨m.name.toArray⟩, .int .i64 m.ty, .bool m.crit, .bool m.hasDef, .int .i64 m.dflt.kind, .bool m.dflt.bool, .int .i64 m.dflt.num, .string ⟨m.dflt.str.toArray⟩, .int .i64 m.dflt.id, .slice D1 m.dflt.keys.length d1, .slice D2 m.dflt.items.length d2, .slice D3 m.dflt.rest.length d3] 69)) = wd228 at *
   generalize wr.heap.size = g226 at *
   clear x0 x1 x2 x3 x4 x5 x6 x7 x8 x9 x10 x11 x12
   have cM_0 : wd228.cell? ⟨g226, 0, none⟩ = some (.int .i64 m.id) := M.out.cell 0
   have cM_1 : wd228.cell? ⟨g226, 1, none⟩ = some (.string ⟨m.name.toArray⟩) := M.out.cell 1
   cases hia : idB2 z m.id with
   | false =>
    rw [hia] at hidc hid
    have HID := Lib.hid hidc
    have Hpr := Lib.hid hid
    clear hid hidc hia hname
    go_wp2_with fail
    clear cM_0 cM_1
    ((with_reducible refine (HID.out _).mono ?_); rintro e wd229 ⟨rfl, rfl⟩)
    have Hno : Hid (rmemB true l = false) := by show _ = _; unfold rmemB; rw [Hpr.out]; simp
    go_wp2_with fail
    go_ret
    exact ⟨ret_bool Hno.out.symm, hb⟩
   | true =>
    rw [hia, Bool.true_and] at hid
    rw [hia] at hidc
    have HID := Lib.hid hidc
    clear hidc hia
    cases hn : nameB m.name with
    | false =>
     rw [hn] at hname hid
     have HN := Lib.hid hname
     have Hpr := Lib.hid hid
     clear hid hname hn
     go_wp2_with fail
     clear cM_0 cM_1
     ((with_reducible refine (HID.out _).mono ?_); rintro e wd231 ⟨rfl, rfl⟩)
     have cM_1 : wd228.cell? ⟨g226, 1, none⟩ = some (.string ⟨m.name.toArray⟩) := M.out.cell 1
     go_wp2_with fail
     clear cM_1
     ((with_reducible refine (HN.out _).mono ?_); rintro e wd233 ⟨rfl, rfl⟩)
     have Hno : Hid (rmemB true l = false) := by show _ = _; unfold rmemB; rw [Hpr.out]; simp
     go_wp2_with fail
     go_ret
     exact ⟨ret_bool Hno.out.symm, hb⟩
    | true =>
     rw [hn, Bool.true_and] at hid
     rw [hn] at hname
     have HN := Lib.hid hname
     have Hpr := Lib.hid hid
     clear hid hname hn
     go_wp2_with fail
     clear cM_0 cM_1
     ((with_reducible refine (HID.out _).mono ?_); rintro e wd235 ⟨rfl, rfl⟩)
     have cM_1 : wd228.cell? ⟨g226, 1, none⟩ = some (.string ⟨m.name.toArray⟩) := M.out.cell 1
     go_wp2_with fail
     clear cM_1
     ((with_reducible refine (HN.out _).mono ?_); rintro e wd237 ⟨rfl, rfl⟩)
     have hcr : m.crit = true ∨ m.crit = false := by cases m.crit <;> simp
     have hhd : m.hasDef = true ∨ m.hasDef = false := by cases m.hasDef <;> simp
     rcases hcr with hcr | hcr
     ·
      rcases hhd with hhd | hhd
      ·
       skip
       have Hm : memB (!true) m = false := by unfold memB; rw [hcr, hhd]; rfl
       have Hpr2 : Hid ((l.all (memB (!true)) && idsG (l.map pairM) none []) = false) := by show _ = _; rw [Hpr.out, Hm]; rfl
       have Hno : Hid (rmemB true l = false) := by show _ = _; unfold rmemB; rw [Hpr2.out]; rfl
       clear Hm
       have cM_3 : wd228.cell? ⟨g226, 3, none⟩ = some (.bool m.crit) := M.out.cell 3
       have cM_4 : wd228.cell? ⟨g226, 4, none⟩ = some (.bool m.hasDef) := M.out.cell 4
       go_wp2_with fail
       go_ret
       exact ⟨ret_bool Hno.out.symm, hb⟩
      ·
       skip
       obtain ⟨-, -, -, cM_3, cM_4, cM_5, cM_6, cM_7, cM_8, cM_9, cM_10, cM_11, cM_12⟩ := M.out.c13
       go_wp2_with fail
       clear cM_3 cM_4 cM_5 cM_6 cM_7 cM_8 cM_9 cM_10 cM_11 cM_12
       ((with_reducible refine (HSV.out _ (HDF.out.on hb)).mono ?_); rintro e wd239 ⟨rfl, hb240⟩)
       replace M := Lib.hid (M.out.below hb240 M.out.here)
       replace hb := hb.trans (hb240.mono hb.size)
       clear hb240
       cases hbl : sameV m.dflt val0 with
       | true =>
        have HMB : Hid (memB (!true) m = true) := by show _ = _; unfold memB; rw [hcr, hhd, hbl]; rfl
        clear hbl
        have HM0 := Lib.hid M.out
        have HB0 := Lib.hid hb
        obtain ⟨gM, hgM⟩ : ∃ g, g = g226 := ⟨_, rfl⟩
        subst hgM
        go_wp2_with fail
        go_loopw [8] (fun j ws => ∃ q : Nat, q ≤ k ∧ j = .int .i64 q ∧ (((l.map pairM).map Prod.snd).take q).contains m.name = false ∧ Has ws gM 69 #[.int .i64 m.id, .string ⟨m.name.toArray⟩, .int .i64 m.ty, .bool m.crit, .bool m.hasDef, .int .i64 m.dflt.kind, .bool m.dflt.bool, .int .i64 m.dflt.num, .string ⟨m.dflt.str.toArray⟩, .int .i64 m.dflt.id, .slice D1 m.dflt.keys.length d1, .slice D2 m.dflt.items.length d2, .slice D3 m.dflt.rest.length d3] ∧ Below w.heap.size w ws) (fun j _ => k - (intOf j).toNat)
        case atStart => exact ⟨0, by omega, rfl, rfl, HM0.out, HB0.out⟩
        case round =>
         clear M HM0 HB0
         obtain ⟨q, hq, rfl, hnc, M, hb⟩ := hrel
         replace M := Lib.hid M
         by_cases hqk : q < k
         ·
          have hql : q < l.length := by omega
          obtain ⟨ek, ei, er, hec, -⟩ := HEL.out q hql
          have y2 := ((hb).cell (p := ⟨b1, _, none⟩) hb1).trans hec.2.1
          have hsu := not_in_succ ((l.map pairM).map Prod.snd) q (by simpa using hql) m.name
          have hit := in_take ((l.map pairM).map Prod.snd) q k hqk (by simpa using hk)
          rw [List.getElem_map, List.getElem_map] at hsu hit
          have hqk1 : (q : Int) < k := by omega
          have hql1 : (q : Int) < l.length := by omega
          simp only [pairM] at hsu hit
          generalize l[q].name = p at *
          clear hec
          by_cases hps : p = m.name
          ·
           have tps : (p == m.name) = true := by simp [hps]
           have Hno : Hid (rmemB true l = false) := by
            show _ = _
            unfold rmemB; rw [Hpr.out, HMB.out, List.map_take]
            have : (((l.map pairM).map Prod.snd).take k).contains m.name = true := by rw [← hps]; exact hit
            rw [this]; simp
           clear hps hsu hit hnc
           have cM_1 : wr.cell? ⟨gM, 1, none⟩ = some (.string ⟨m.name.toArray⟩) := M.out.cell 1
           go_upto_region 13 with fail
           go_quiet (fail)
           go_wp2_with fail
           go_ret
           exact ⟨ret_bool Hno.out.symm, below_drewN hb _⟩
          ·
           have tps : (p == m.name) = false := by simpa using hps
           have Hnc : Hid ((((l.map pairM).map Prod.snd).take (q + 1)).contains m.name = false) := by show _ = _; rw [hsu, hnc, tps]; rfl
           clear hps hsu hit hnc
           have cM_1 : wr.cell? ⟨gM, 1, none⟩ = some (.string ⟨m.name.toArray⟩) := M.out.cell 1
           go_upto_region 13 with fail
           go_quiet (fail)
           go_wp2_with fail
           go_roundw
           case rel => exact ⟨q + 1, by omega, by go_num, Hnc.out, M.out.drewN _, below_drewN hb _⟩
           case measure => simp [intOf]; omega
         ·
          obtain rfl : q = k := by omega
          have Hix : Hid ((l.all (memB (!true)) && idsG (l.map pairM) none []) = ((l.drop (q + 1)).all (memB (!true)) && idsG ((l.map pairM).drop (q + 1)) (prevOf (l.map pairM) (q + 1)) (((l.map pairM).take (q + 1)).map Prod.snd))) := by
           show _ = _
           rw [Hpr.out, HMB.out, List.map_take, hnc, HPO.out, ← HNS.out, List.map_take]; simp
          clear hnc
          have cM_0 : wr.cell? ⟨gM, 0, none⟩ = some (.int .i64 m.id) := M.out.cell 0
          go_wp2_with fail
          go_roundw
          case rel => exact ⟨q + 1, by omega, by go_num, by rw [HZ.out], Hix.out, hb⟩
          case measure => simp [intOf]; omega
       | false =>
        have Hm : memB (!true) m = false := by unfold memB; rw [hcr, hhd, hbl]; rfl
        have Hno : Hid (rmemB true l = false) := by show _ = _; unfold rmemB; rw [Hpr.out, Hm]; simp
        clear hbl Hm
        go_wp2_with fail
        go_ret
        exact ⟨ret_bool Hno.out.symm, hb⟩
     ·
      rcases hhd with hhd | hhd
      ·
       skip
       have HMB : Hid (memB (!true) m = true) := by show _ = _; unfold memB; rw [hcr, hhd]; rfl
       have cM_3 : wd228.cell? ⟨g226, 3, none⟩ = some (.bool m.crit) := M.out.cell 3
       have cM_4 : wd228.cell? ⟨g226, 4, none⟩ = some (.bool m.hasDef) := M.out.cell 4
       go_upto_region 10 with fail
       have HM0 := Lib.hid M.out
       have HB0 := Lib.hid hb
       clear cM_3 cM_4
       obtain ⟨gM, hgM⟩ : ∃ g, g = g226 := ⟨_, rfl⟩
       subst hgM
       go_wp2_with fail
       go_loopw [8] (fun j ws => ∃ q : Nat, q ≤ k ∧ j = .int .i64 q ∧ (((l.map pairM).map Prod.snd).take q).contains m.name = false ∧ Has ws gM 69 #[.int .i64 m.id, .string ⟨m.name.toArray⟩, .int .i64 m.ty, .bool m.crit, .bool m.hasDef, .int .i64 m.dflt.kind, .bool m.dflt.bool, .int .i64 m.dflt.num, .string ⟨m.dflt.str.toArray⟩, .int .i64 m.dflt.id, .slice D1 m.dflt.keys.length d1, .slice D2 m.dflt.items.length d2, .slice D3 m.dflt.rest.length d3] ∧ Below w.heap.size w ws) (fun j _ => k - (intOf j).toNat)
       case atStart => exact ⟨0, by omega, rfl, rfl, HM0.out, HB0.out⟩
       case round =>
        clear M HM0 HB0
        obtain ⟨q, hq, rfl, hnc, M, hb⟩ := hrel
        replace M := Lib.hid M
        by_cases hqk : q < k
        ·
         have hql : q < l.length := by omega
         obtain ⟨ek, ei, er, hec, -⟩ := HEL.out q hql
         have y2 := ((hb).cell (p := ⟨b1, _, none⟩) hb1).trans hec.2.1
         have hsu := not_in_succ ((l.map pairM).map Prod.snd) q (by simpa using hql) m.name
         have hit := in_take ((l.map pairM).map Prod.snd) q k hqk (by simpa using hk)
         rw [List.getElem_map, List.getElem_map] at hsu hit
         have hqk1 : (q : Int) < k := by omega
         have hql1 : (q : Int) < l.length := by omega
         simp only [pairM] at hsu hit
         generalize l[q].name = p at *
         clear hec
         by_cases hps : p = m.name
         ·
          have tps : (p == m.name) = true := by simp [hps]
          have Hno : Hid (rmemB true l = false) := by
           show _ = _
           unfold rmemB; rw [Hpr.out, HMB.out, List.map_take]
           have : (((l.map pairM).map Prod.snd).take k).contains m.name = true := by rw [← hps]; exact hit
           rw [this]; simp
          clear hps hsu hit hnc
          have cM_1 : wr.cell? ⟨gM, 1, none⟩ = some (.string ⟨m.name.toArray⟩) := M.out.cell 1
          go_upto_region 13 with fail
          go_quiet (fail)
          go_wp2_with fail
          go_ret
          exact ⟨ret_bool Hno.out.symm, below_drewN hb _⟩
         ·
          have tps : (p == m.name) = false := by simpa using hps
          have Hnc : Hid ((((l.map pairM).map Prod.snd).take (q + 1)).contains m.name = false) := by show _ = _; rw [hsu, hnc, tps]; rfl
          clear hps hsu hit hnc
          have cM_1 : wr.cell? ⟨gM, 1, none⟩ = some (.string ⟨m.name.toArray⟩) := M.out.cell 1
          go_upto_region 13 with fail
          go_quiet (fail)
          go_wp2_with fail
          go_roundw
          case rel => exact ⟨q + 1, by omega, by go_num, Hnc.out, M.out.drewN _, below_drewN hb _⟩
          case measure => simp [intOf]; omega
        ·
         obtain rfl : q = k := by omega
         have Hix : Hid ((l.all (memB (!true)) && idsG (l.map pairM) none []) = ((l.drop (q + 1)).all (memB (!true)) && idsG ((l.map pairM).drop (q + 1)) (prevOf (l.map pairM) (q + 1)) (((l.map pairM).take (q + 1)).map Prod.snd))) := by
          show _ = _
          rw [Hpr.out, HMB.out, List.map_take, hnc, HPO.out, ← HNS.out, List.map_take]; simp
         clear hnc
         have cM_0 : wr.cell? ⟨gM, 0, none⟩ = some (.int .i64 m.id) := M.out.cell 0
         go_wp2_with fail
         go_roundw
         case rel => exact ⟨q + 1, by omega, by go_num, by rw [HZ.out], Hix.out, hb⟩
         case measure => simp [intOf]; omega
      ·
       skip
       obtain ⟨-, -, -, cM_3, cM_4, cM_5, cM_6, cM_7, cM_8, cM_9, cM_10, cM_11, cM_12⟩ := M.out.c13
       go_wp2_with fail
       clear cM_3 cM_4 cM_5 cM_6 cM_7 cM_8 cM_9 cM_10 cM_11 cM_12
       ((with_reducible refine (HSV.out _ (HDF.out.on hb)).mono ?_); rintro e wd241 ⟨rfl, hb242⟩)
       replace M := Lib.hid (M.out.below hb242 M.out.here)
       replace hb := hb.trans (hb242.mono hb.size)
       clear hb242
       cases hbl : sameV m.dflt val0 with
       | true =>
        have HMB : Hid (memB (!true) m = true) := by show _ = _; unfold memB; rw [hcr, hhd, hbl]; rfl
        clear hbl
        have HM0 := Lib.hid M.out
        have HB0 := Lib.hid hb
        obtain ⟨gM, hgM⟩ : ∃ g, g = g226 := ⟨_, rfl⟩
        subst hgM
        go_wp2_with fail
        go_loopw [8] (fun j ws => ∃ q : Nat, q ≤ k ∧ j = .int .i64 q ∧ (((l.map pairM).map Prod.snd).take q).contains m.name = false ∧ Has ws gM 69 #[.int .i64 m.id, .string ⟨m.name.toArray⟩, .int .i64 m.ty, .bool m.crit, .bool m.hasDef, .int .i64 m.dflt.kind, .bool m.dflt.bool, .int .i64 m.dflt.num, .string ⟨m.dflt.str.toArray⟩, .int .i64 m.dflt.id, .slice D1 m.dflt.keys.length d1, .slice D2 m.dflt.items.length d2, .slice D3 m.dflt.rest.length d3] ∧ Below w.heap.size w ws) (fun j _ => k - (intOf j).toNat)
        case atStart => exact ⟨0, by omega, rfl, rfl, HM0.out, HB0.out⟩
        case round =>
         clear M HM0 HB0
         obtain ⟨q, hq, rfl, hnc, M, hb⟩ := hrel
         replace M := Lib.hid M
         by_cases hqk : q < k
         ·
          have hql : q < l.length := by omega
          obtain ⟨ek, ei, er, hec, -⟩ := HEL.out q hql
          have y2 := ((hb).cell (p := ⟨b1, _, none⟩) hb1).trans hec.2.1
          have hsu := not_in_succ ((l.map pairM).map Prod.snd) q (by simpa using hql) m.name
          have hit := in_take ((l.map pairM).map Prod.snd) q k hqk (by simpa using hk)
          rw [List.getElem_map, List.getElem_map] at hsu hit
          have hqk1 : (q : Int) < k := by omega
          have hql1 : (q : Int) < l.length := by omega
          simp only [pairM] at hsu hit
          generalize l[q].name = p at *
          clear hec
          by_cases hps : p = m.name
          ·
           have tps : (p == m.name) = true := by simp [hps]
           have Hno : Hid (rmemB true l = false) := by
            show _ = _
            unfold rmemB; rw [Hpr.out, HMB.out, List.map_take]
            have : (((l.map pairM).map Prod.snd).take k).contains m.name = true := by rw [← hps]; exact hit
            rw [this]; simp
           clear hps hsu hit hnc
           have cM_1 : wr.cell? ⟨gM, 1, none⟩ = some (.string ⟨m.name.toArray⟩) := M.out.cell 1
           go_upto_region 13 with fail
           go_quiet (fail)
           go_wp2_with fail
           go_ret
           exact ⟨ret_bool Hno.out.symm, below_drewN hb _⟩
          ·
           have tps : (p == m.name) = false := by simpa using hps
           have Hnc : Hid ((((l.map pairM).map Prod.snd).take (q + 1)).contains m.name = false) := by show _ = _; rw [hsu, hnc, tps]; rfl
           clear hps hsu hit hnc
           have cM_1 : wr.cell? ⟨gM, 1, none⟩ = some (.string ⟨m.name.toArray⟩) := M.out.cell 1
           go_upto_region 13 with fail
           go_quiet (fail)
           go_wp2_with fail
           go_roundw
           case rel => exact ⟨q + 1, by omega, by go_num, Hnc.out, M.out.drewN _, below_drewN hb _⟩
           case measure => simp [intOf]; omega
         ·
          obtain rfl : q = k := by omega
          have Hix : Hid ((l.all (memB (!true)) && idsG (l.map pairM) none []) = ((l.drop (q + 1)).all (memB (!true)) && idsG ((l.map pairM).drop (q + 1)) (prevOf (l.map pairM) (q + 1)) (((l.map pairM).take (q + 1)).map Prod.snd))) := by
           show _ = _
           rw [Hpr.out, HMB.out, List.map_take, hnc, HPO.out, ← HNS.out, List.map_take]; simp
          clear hnc
          have cM_0 : wr.cell? ⟨gM, 0, none⟩ = some (.int .i64 m.id) := M.out.cell 0
          go_wp2_with fail
          go_roundw
          case rel => exact ⟨q + 1, by omega, by go_num, by rw [HZ.out], Hix.out, hb⟩
          case measure => simp [intOf]; omega
       | false =>
        have Hm : memB (!true) m = false := by unfold memB; rw [hcr, hhd, hbl]; rfl
        have Hno : Hid (rmemB true l = false) := by show _ = _; unfold rmemB; rw [Hpr.out, Hm]; simp
        clear hbl Hm
        go_wp2_with fail
        go_ret
        exact ⟨ret_bool Hno.out.symm, hb⟩
  ·
   obtain rfl : k = l.length := by omega
   rw [List.drop_eq_nil_of_le (Nat.le_refl _), List.drop_eq_nil_of_le (by simp), idsG] at hid
   have Hs : Hid (rmemB true l = (decide (l.length ≤ 16) && (true || decide (1 ≤ l.length)))) := by
    show _ = _
    unfold rmemB; rw [hid]; rfl
   clear hid
   go_wp2_with fail
   all_goals
    go_ret
    exact ⟨ret_bool (by rw [Hs.out]; first | rfl | (simp; done) | (rw [Bool.eq_iff_iff]; simp; omega) | (simp_all; done) | (simp_all; omega)), hb⟩
set_option maxRecDepth 100000 in
set_option maxHeartbeats 4000000 in
theorem rmembersfalse_any (l : List Mem) (va : Value) (w : World) (hl : l.length ≤ 140737488351232) (h1 : RdMems w w.heap.size va l) :
  Calls Try.prog 98 #[va, .bool false] w fun e w' => e = .returned (.bool (rmemB false l)) ∧ Below w.heap.size w w' := by
 obtain ⟨A, c, rfl, hca⟩ := h1.form
 by_cases hz0 : l.length = 0
 ·
  have hnil := List.eq_nil_of_length_eq_zero hz0
  subst hnil
  clear h1
  go_enter Try.func98, Try.ntmps98
  go_wp2
  refine wp_loop_rounds 1 ?_
  rw [rounds_succ]
  go_wp2
  go_ret
  exact ⟨rfl, Below.refl _ _⟩
 obtain ⟨b1, o1, rfl, hb1, hel⟩ := h1.elem (by omega)
 have HEL := Lib.hid hel
 clear h1 hel
 go_enter Try.func98, Try.ntmps98
 go_wp2_with fail
 go_loopw [5, 6] (fun b i wr => ∃ k : Nat, k ≤ l.length ∧ i = .int .i64 k ∧ b = .int .i64 (prevZ (l.map pairM) k) ∧ (l.all (memB (!false)) && idsG (l.map pairM) none []) = ((l.drop k).all (memB (!false)) && idsG ((l.map pairM).drop k) (prevOf (l.map pairM) k) (((l.map pairM).take k).map Prod.snd)) ∧ Below w.heap.size w wr) (fun _ i _ => l.length - (intOf i).toNat)
 case atStart => exact ⟨0, by omega, rfl, rfl, by simp [prevOf], Below.refl _ _⟩
 case round =>
  obtain ⟨k, hk, rfl, rfl, hid, hb⟩ := hrel
  by_cases hlt : k < l.length
  ·
   obtain ⟨dk, di, dr, hcells, hma⟩ := HEL.out k hlt
   have hlk : k < (l.map pairM).length := by simpa using hlt
   have hgk : (l.map pairM)[k] = (l[k].id, l[k].name) := by rw [List.getElem_map]; rfl
   rw [rmem_at l k hlt] at hid
   have HZ : Hid (prevZ (l.map pairM) (k + 1) = l[k].id) := by show _ = _; rw [prevZ_succ _ k hlk, hgk]
   have HPO : Hid (prevOf (l.map pairM) (k + 1) = some l[k].id) := by show _ = _; rw [prevOf_succ _ k hlk, hgk]
   have HNS : Hid (((l.map pairM).take k).map Prod.snd ++ [l[k].name] = ((l.map pairM).take (k + 1)).map Prod.snd) := by have h := names_succ (l.map pairM) k hlk; rw [hgk] at h; exact h
   clear hgk hlk
   generalize l[k] = m at *
   obtain ⟨D1, d1, D2, d2, D3, d3, rfl, rfl, rfl, -, -, -⟩ := hma.dflt.forms
   have HDF := Lib.hid hma.dflt
   have hsv : ∀ W, ValAt W W.heap.size m.dflt (.slice D1 m.dflt.keys.length d1) (.slice D2 m.dflt.items.length d2) (.slice D3 m.dflt.rest.length d3) → Calls Try.prog 114 #[valA m.dflt (.slice D1 m.dflt.keys.length d1) (.slice D2 m.dflt.items.length d2) (.slice D3 m.dflt.rest.length d3), .agg #[.int .i64 0, .bool false, .int .i64 0, .string ⟨#[]⟩, .int .i64 0, .slice none 0 0, .slice none 0 0, .slice none 0 0]] W fun e w' => e = .returned (.bool (sameV m.dflt val0)) ∧ Below W.heap.size W w' :=
    fun W h => rsame_any (nodes m.dflt + 1) m.dflt val0 _ _ _ (.slice none 0 0) (.slice none 0 0) (.slice none 0 0) W (by omega) h (val0_at' _ _)
   have HSV := Lib.hid hsv
   obtain ⟨y0, y1, y2, y3, y4, y5, y6, y7, y8, y9, y10, y11, y12⟩ := hcells
   have x0 := (hb.cell (p := ⟨b1, _, none⟩) hb1).trans y0
   have x1 := (hb.cell (p := ⟨b1, _, none⟩) hb1).trans y1
   have x2 := (hb.cell (p := ⟨b1, _, none⟩) hb1).trans y2
   have x3 := (hb.cell (p := ⟨b1, _, none⟩) hb1).trans y3
   have x4 := (hb.cell (p := ⟨b1, _, none⟩) hb1).trans y4
   have x5 := (hb.cell (p := ⟨b1, _, none⟩) hb1).trans y5
   have x6 := (hb.cell (p := ⟨b1, _, none⟩) hb1).trans y6
   have x7 := (hb.cell (p := ⟨b1, _, none⟩) hb1).trans y7
   have x8 := (hb.cell (p := ⟨b1, _, none⟩) hb1).trans y8
   have x9 := (hb.cell (p := ⟨b1, _, none⟩) hb1).trans y9
   have x10 := (hb.cell (p := ⟨b1, _, none⟩) hb1).trans y10
   have x11 := (hb.cell (p := ⟨b1, _, none⟩) hb1).trans y11
   have x12 := (hb.cell (p := ⟨b1, _, none⟩) hb1).trans y12
   clear y0 y1 y2 y3 y4 y5 y6 y7 y8 y9 y10 y11 y12 hma hsv
   have hi1 : (k : Int) < l.length := by omega
   have hidc := fun W => rid2_any (prevZ (l.map pairM) k) m.id W
   have hname := fun W => risname_any m.name W
   generalize prevZ (l.map pairM) k = z at *
   go_upto_region 6 with fail
   have hb243 := below_al (Below.refl wr.heap.size wr) (Nat.le_refl _) (.cells #[.int .i64 m.id, .string ⟨m.name.toArray⟩, .int .i64 m.ty, .bool m.crit, .bool m.hasDef, .int .i64 m.dflt.kind, .bool m.dflt.bool, .int .i64 m.dflt.num, .string ⟨m.dflt.str.toArray⟩, .int .i64 m.dflt.id, .slice D1 m.dflt.keys.length d1, .slice D2 m.dflt.items.length d2, .slice D3 m.dflt.rest.length d3] 69)
   have M := Has.made wr 69 #[.int .i64 m.id, .string ⟨m.name.toArray⟩, .int .i64 m.ty, .bool m.crit, .bool m.hasDef, .int .i64 m.dflt.kind, .bool m.dflt.bool, .int .i64 m.dflt.num, .string ⟨m.dflt.str.toArray⟩, .int .i64 m.dflt.id, .slice D1 m.dflt.keys.length d1, .slice D2 m.dflt.items.length d2, .slice D3 m.dflt.rest.length d3]
   have hl245 := hb.size
   replace hb := hb.trans (hb243.mono hb.size)
   replace M := Lib.hid M
   clear hb243
   generalize (wr.alloc (.cells #[.int .i64 m.id, .string ⟨m.name.toArray⟩, .int .i64 m.ty, .bool m.crit, .bool m.hasDef, .int .i64 m.dflt.kind, .bool m.dflt.bool, .int .i64 m.dflt.num, .string ⟨m.dflt.str.toArray⟩, .int .i64 m.dflt.id, .slice D1 m.dflt.keys.length d1, .slice D2 m.dflt.items.length d2, .slice D3 m.dflt.rest.length d3] 69)) = wd246 at *
   generalize wr.heap.size = g244 at *
   clear x0 x1 x2 x3 x4 x5 x6 x7 x8 x9 x10 x11 x12
   have cM_0 : wd246.cell? ⟨g244, 0, none⟩ = some (.int .i64 m.id) := M.out.cell 0
   have cM_1 : wd246.cell? ⟨g244, 1, none⟩ = some (.string ⟨m.name.toArray⟩) := M.out.cell 1
   cases hia : idB2 z m.id with
   | false =>
    rw [hia] at hidc hid
    have HID := Lib.hid hidc
    have Hpr := Lib.hid hid
    clear hid hidc hia hname
    go_wp2_with fail
    clear cM_0 cM_1
    ((with_reducible refine (HID.out _).mono ?_); rintro e wd247 ⟨rfl, rfl⟩)
    have Hno : Hid (rmemB false l = false) := by show _ = _; unfold rmemB; rw [Hpr.out]; simp
    go_wp2_with fail
    go_ret
    exact ⟨ret_bool Hno.out.symm, hb⟩
   | true =>
    rw [hia, Bool.true_and] at hid
    rw [hia] at hidc
    have HID := Lib.hid hidc
    clear hidc hia
    cases hn : nameB m.name with
    | false =>
     rw [hn] at hname hid
     have HN := Lib.hid hname
     have Hpr := Lib.hid hid
     clear hid hname hn
     go_wp2_with fail
     clear cM_0 cM_1
     ((with_reducible refine (HID.out _).mono ?_); rintro e wd249 ⟨rfl, rfl⟩)
     have cM_1 : wd246.cell? ⟨g244, 1, none⟩ = some (.string ⟨m.name.toArray⟩) := M.out.cell 1
     go_wp2_with fail
     clear cM_1
     ((with_reducible refine (HN.out _).mono ?_); rintro e wd251 ⟨rfl, rfl⟩)
     have Hno : Hid (rmemB false l = false) := by show _ = _; unfold rmemB; rw [Hpr.out]; simp
     go_wp2_with fail
     go_ret
     exact ⟨ret_bool Hno.out.symm, hb⟩
    | true =>
     rw [hn, Bool.true_and] at hid
     rw [hn] at hname
     have HN := Lib.hid hname
     have Hpr := Lib.hid hid
     clear hid hname hn
     go_wp2_with fail
     clear cM_0 cM_1
     ((with_reducible refine (HID.out _).mono ?_); rintro e wd253 ⟨rfl, rfl⟩)
     have cM_1 : wd246.cell? ⟨g244, 1, none⟩ = some (.string ⟨m.name.toArray⟩) := M.out.cell 1
     go_wp2_with fail
     clear cM_1
     ((with_reducible refine (HN.out _).mono ?_); rintro e wd255 ⟨rfl, rfl⟩)
     have hcr : m.crit = true ∨ m.crit = false := by cases m.crit <;> simp
     have hhd : m.hasDef = true ∨ m.hasDef = false := by cases m.hasDef <;> simp
     rcases hcr with hcr | hcr
     ·
      rcases hhd with hhd | hhd
      ·
       skip
       have Hm : memB (!false) m = false := by unfold memB; rw [hcr, hhd]; rfl
       have Hpr2 : Hid ((l.all (memB (!false)) && idsG (l.map pairM) none []) = false) := by show _ = _; rw [Hpr.out, Hm]; rfl
       have Hno : Hid (rmemB false l = false) := by show _ = _; unfold rmemB; rw [Hpr2.out]; rfl
       clear Hm
       have cM_3 : wd246.cell? ⟨g244, 3, none⟩ = some (.bool m.crit) := M.out.cell 3
       have cM_4 : wd246.cell? ⟨g244, 4, none⟩ = some (.bool m.hasDef) := M.out.cell 4
       go_wp2_with fail
       go_ret
       exact ⟨ret_bool Hno.out.symm, hb⟩
      ·
       skip
       have Hm : memB (!false) m = false := by unfold memB; rw [hcr, hhd]; rfl
       have Hpr2 : Hid ((l.all (memB (!false)) && idsG (l.map pairM) none []) = false) := by show _ = _; rw [Hpr.out, Hm]; rfl
       have Hno : Hid (rmemB false l = false) := by show _ = _; unfold rmemB; rw [Hpr2.out]; rfl
       clear Hm
       have cM_3 : wd246.cell? ⟨g244, 3, none⟩ = some (.bool m.crit) := M.out.cell 3
       have cM_4 : wd246.cell? ⟨g244, 4, none⟩ = some (.bool m.hasDef) := M.out.cell 4
       go_wp2_with fail
       go_ret
       exact ⟨ret_bool Hno.out.symm, hb⟩
     ·
      rcases hhd with hhd | hhd
      ·
       skip
       have Hm : memB (!false) m = false := by unfold memB; rw [hcr, hhd]; rfl
       have Hpr2 : Hid ((l.all (memB (!false)) && idsG (l.map pairM) none []) = false) := by show _ = _; rw [Hpr.out, Hm]; rfl
       have Hno : Hid (rmemB false l = false) := by show _ = _; unfold rmemB; rw [Hpr2.out]; rfl
       clear Hm
       have cM_3 : wd246.cell? ⟨g244, 3, none⟩ = some (.bool m.crit) := M.out.cell 3
       have cM_4 : wd246.cell? ⟨g244, 4, none⟩ = some (.bool m.hasDef) := M.out.cell 4
       go_wp2_with fail
       go_ret
       exact ⟨ret_bool Hno.out.symm, hb⟩
      ·
       skip
       obtain ⟨-, -, -, cM_3, cM_4, cM_5, cM_6, cM_7, cM_8, cM_9, cM_10, cM_11, cM_12⟩ := M.out.c13
       go_wp2_with fail
       clear cM_3 cM_4 cM_5 cM_6 cM_7 cM_8 cM_9 cM_10 cM_11 cM_12
       ((with_reducible refine (HSV.out _ (HDF.out.on hb)).mono ?_); rintro e wd257 ⟨rfl, hb258⟩)
       replace M := Lib.hid (M.out.below hb258 M.out.here)
       replace hb := hb.trans (hb258.mono hb.size)
       clear hb258
       cases hbl : sameV m.dflt val0 with
       | true =>
        have HMB : Hid (memB (!false) m = true) := by show _ = _; unfold memB; rw [hcr, hhd, hbl]; rfl
        clear hbl
        have HM0 := Lib.hid M.out
        have HB0 := Lib.hid hb
        obtain ⟨gM, hgM⟩ : ∃ g, g = g244 := ⟨_, rfl⟩
        subst hgM
        go_wp2_with fail
        go_loopw [8] (fun j ws => ∃ q : Nat, q ≤ k ∧ j = .int .i64 q ∧ (((l.map pairM).map Prod.snd).take q).contains m.name = false ∧ Has ws gM 69 #[.int .i64 m.id, .string ⟨m.name.toArray⟩, .int .i64 m.ty, .bool m.crit, .bool m.hasDef, .int .i64 m.dflt.kind, .bool m.dflt.bool, .int .i64 m.dflt.num, .string ⟨m.dflt.str.toArray⟩, .int .i64 m.dflt.id, .slice D1 m.dflt.keys.length d1, .slice D2 m.dflt.items.length d2, .slice D3 m.dflt.rest.length d3] ∧ Below w.heap.size w ws) (fun j _ => k - (intOf j).toNat)
        case atStart => exact ⟨0, by omega, rfl, rfl, HM0.out, HB0.out⟩
        case round =>
         clear M HM0 HB0
         obtain ⟨q, hq, rfl, hnc, M, hb⟩ := hrel
         replace M := Lib.hid M
         by_cases hqk : q < k
         ·
          have hql : q < l.length := by omega
          obtain ⟨ek, ei, er, hec, -⟩ := HEL.out q hql
          have y2 := ((hb).cell (p := ⟨b1, _, none⟩) hb1).trans hec.2.1
          have hsu := not_in_succ ((l.map pairM).map Prod.snd) q (by simpa using hql) m.name
          have hit := in_take ((l.map pairM).map Prod.snd) q k hqk (by simpa using hk)
          rw [List.getElem_map, List.getElem_map] at hsu hit
          have hqk1 : (q : Int) < k := by omega
          have hql1 : (q : Int) < l.length := by omega
          simp only [pairM] at hsu hit
          generalize l[q].name = p at *
          clear hec
          by_cases hps : p = m.name
          ·
           have tps : (p == m.name) = true := by simp [hps]
           have Hno : Hid (rmemB false l = false) := by
            show _ = _
            unfold rmemB; rw [Hpr.out, HMB.out, List.map_take]
            have : (((l.map pairM).map Prod.snd).take k).contains m.name = true := by rw [← hps]; exact hit
            rw [this]; simp
           clear hps hsu hit hnc
           have cM_1 : wr.cell? ⟨gM, 1, none⟩ = some (.string ⟨m.name.toArray⟩) := M.out.cell 1
           go_upto_region 13 with fail
           go_quiet (fail)
           go_wp2_with fail
           go_ret
           exact ⟨ret_bool Hno.out.symm, below_drewN hb _⟩
          ·
           have tps : (p == m.name) = false := by simpa using hps
           have Hnc : Hid ((((l.map pairM).map Prod.snd).take (q + 1)).contains m.name = false) := by show _ = _; rw [hsu, hnc, tps]; rfl
           clear hps hsu hit hnc
           have cM_1 : wr.cell? ⟨gM, 1, none⟩ = some (.string ⟨m.name.toArray⟩) := M.out.cell 1
           go_upto_region 13 with fail
           go_quiet (fail)
           go_wp2_with fail
           go_roundw
           case rel => exact ⟨q + 1, by omega, by go_num, Hnc.out, M.out.drewN _, below_drewN hb _⟩
           case measure => simp [intOf]; omega
         ·
          obtain rfl : q = k := by omega
          have Hix : Hid ((l.all (memB (!false)) && idsG (l.map pairM) none []) = ((l.drop (q + 1)).all (memB (!false)) && idsG ((l.map pairM).drop (q + 1)) (prevOf (l.map pairM) (q + 1)) (((l.map pairM).take (q + 1)).map Prod.snd))) := by
           show _ = _
           rw [Hpr.out, HMB.out, List.map_take, hnc, HPO.out, ← HNS.out, List.map_take]; simp
          clear hnc
          have cM_0 : wr.cell? ⟨gM, 0, none⟩ = some (.int .i64 m.id) := M.out.cell 0
          go_wp2_with fail
          go_roundw
          case rel => exact ⟨q + 1, by omega, by go_num, by rw [HZ.out], Hix.out, hb⟩
          case measure => simp [intOf]; omega
       | false =>
        have Hm : memB (!false) m = false := by unfold memB; rw [hcr, hhd, hbl]; rfl
        have Hno : Hid (rmemB false l = false) := by show _ = _; unfold rmemB; rw [Hpr.out, Hm]; simp
        clear hbl Hm
        go_wp2_with fail
        go_ret
        exact ⟨ret_bool Hno.out.symm, hb⟩
  ·
   obtain rfl : k = l.length := by omega
   rw [List.drop_eq_nil_of_le (Nat.le_refl _), List.drop_eq_nil_of_le (by simp), idsG] at hid
   have Hs : Hid (rmemB false l = (decide (l.length ≤ 16) && (false || decide (1 ≤ l.length)))) := by
    show _ = _
    unfold rmemB; rw [hid]; rfl
   clear hid
   go_wp2_with fail
   all_goals
    go_ret
    exact ⟨ret_bool (by rw [Hs.out]; first | rfl | (simp; done) | (rw [Bool.eq_iff_iff]; simp; omega) | (simp_all; done) | (simp_all; omega)), hb⟩
end Go.Proofs.Ytjajgclchapllaa

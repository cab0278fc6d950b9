/- What schema.uses computes. What sheaveref07.uses computes. No condition. -/
import Derived.Test.YtjajgclchapllaaGJ
import Derived.Test.YtjajgclchapllaaGG
namespace Go.Proofs.Ytjajgclchapllaa
open Go.ChangeShapes Go.WideShapes Go.ChangeAt Go.RowKit
def tyV (m : Mem) : Value := .int .i64 m.ty
def usesL (x : Typ) : List Int := x.mems.map Mem.ty ++ ((if x.kind = 8 then [x.key] else []) ++ (if 7 ≤ x.kind then [x.elem] else []))
def UsesPost (l : List Int) (w : World) (e : Ending) (w' : World) : Prop := ∃ v, e = .returned v ∧ Rd w' w'.heap.size 1 v l.length (l.map (Value.int .i64)) ∧ Below w.heap.size w w'
theorem uses_tail {w : World} {B n : Nat} {v : Value} {xs : List Value} {l : List Int} (h : w.ownsRow B 3 1 v n xs) (hl : xs = l.map (Value.int .i64)) (hn : n = l.length) : Rd w w.heap.size 1 v l.length (l.map (Value.int .i64)) := by
 subst hl; subst hn; exact Rd.of_own h
set_option maxRecDepth 100000 in
set_option maxHeartbeats 1600000 in
theorem uses_any (x : Typ) (vs vm : Value) (w : World) (hl : x.mems.length ≤ 6000000000000) (ht : TypAt w w.heap.size x vs vm) :
  Calls Try.prog 68 #[typA x vs vm] w (UsesPost (usesL x) w) := by
 obtain ⟨C1, m1, C2, m2, rfl, rfl, -, -⟩ := ht.forms
 have HT := Lib.hid ht
 clear ht
 go_enter Try.func68, Try.ntmps68
 go_upto_region 1 with fail
 have hb53 := below_al (Below.refl w.heap.size w) (Nat.le_refl _) (.cells #[.int .i64 x.kind, .string ⟨x.name.toArray⟩, .int .i64 x.low, .int .i64 x.high, .int .i64 x.max, .slice C1 x.syms.length m1, .slice C2 x.mems.length m2, .int .i64 x.key, .int .i64 x.elem, .bool x.opn] 67)
 have T := Has.made w 67 #[.int .i64 x.kind, .string ⟨x.name.toArray⟩, .int .i64 x.low, .int .i64 x.high, .int .i64 x.max, .slice C1 x.syms.length m1, .slice C2 x.mems.length m2, .int .i64 x.key, .int .i64 x.elem, .bool x.opn]
 have hw54 := hb53
 replace T := Lib.hid T
 clear hb53
 generalize (w.alloc (.cells #[.int .i64 x.kind, .string ⟨x.name.toArray⟩, .int .i64 x.low, .int .i64 x.high, .int .i64 x.max, .slice C1 x.syms.length m1, .slice C2 x.mems.length m2, .int .i64 x.key, .int .i64 x.elem, .bool x.opn] 67)) = wd55 at *
 have cT_6 : wd55.cell? ⟨w.heap.size, 6, none⟩ = some (.slice C2 x.mems.length m2) := T.out.cell 6
 have HT0 := Lib.hid T.out
 have hB0 := hw54
 go_wp2_with fail
 go_loopw [3, 9] (fun s3 i wr => ∃ k : Nat, k ≤ x.mems.length ∧ i = .int .i64 k ∧ wr.ownsRow (w.heap.size + 1) 3 1 s3 k ((x.mems.take k).map tyV) ∧ Has wr w.heap.size 67 #[.int .i64 x.kind, .string ⟨x.name.toArray⟩, .int .i64 x.low, .int .i64 x.high, .int .i64 x.max, .slice C1 x.syms.length m1, .slice C2 x.mems.length m2, .int .i64 x.key, .int .i64 x.elem, .bool x.opn] ∧ Below w.heap.size w wr) (fun _ i _ => x.mems.length - (intOf i).toNat)
 case atStart => exact ⟨0, by omega, rfl, World.ownsRow_nil _ _ _ _, HT0.out, hB0⟩
 case round =>
  clear T hB0 HT0
  obtain ⟨k, hk, rfl, hown, T, hb⟩ := hrel
  obtain ⟨A0, c0, rfl⟩ := own_form hown
  replace T := Lib.hid T
  have O := Lib.hid (Kept.own hown)
  clear hown
  by_cases hlt : k < x.mems.length
  ·
   obtain ⟨b, o, hC2, hb1, hel⟩ := HT.out.mems.elem (by omega)
   obtain ⟨dk, di, dr, hcells, hma⟩ := hel k hlt
   have HTK : Hid ((x.mems.take (k + 1)).map tyV = (x.mems.take k).map tyV ++ [.int .i64 x.mems[k].ty]) := take_map tyV x.mems k hlt
   generalize x.mems[k] = m at *
   obtain ⟨D1, d1, D2, d2, D3, d3, rfl, rfl, rfl, -, -, -⟩ := hma.dflt.forms
   obtain ⟨y0, y1, y2, y3, y4, y5, y6, y7, y8, y9, y10, y11, y12⟩ := hcells
   have x0 := (hb.cell (p := ⟨b, _, none⟩) hb1).trans y0
   have x1 := (hb.cell (p := ⟨b, _, none⟩) hb1).trans y1
   have x2 := (hb.cell (p := ⟨b, _, none⟩) hb1).trans y2
   have x3 := (hb.cell (p := ⟨b, _, none⟩) hb1).trans y3
   have x4 := (hb.cell (p := ⟨b, _, none⟩) hb1).trans y4
   have x5 := (hb.cell (p := ⟨b, _, none⟩) hb1).trans y5
   have x6 := (hb.cell (p := ⟨b, _, none⟩) hb1).trans y6
   have x7 := (hb.cell (p := ⟨b, _, none⟩) hb1).trans y7
   have x8 := (hb.cell (p := ⟨b, _, none⟩) hb1).trans y8
   have x9 := (hb.cell (p := ⟨b, _, none⟩) hb1).trans y9
   have x10 := (hb.cell (p := ⟨b, _, none⟩) hb1).trans y10
   have x11 := (hb.cell (p := ⟨b, _, none⟩) hb1).trans y11
   have x12 := (hb.cell (p := ⟨b, _, none⟩) hb1).trans y12
   clear y0 y1 y2 y3 y4 y5 y6 y7 y8 y9 y10 y11 y12
   have hi1 : (k : Int) < x.mems.length := by omega
   clear hel hma
   go_upto_region 5 with fail
   have hb56 := below_al (Below.refl wr.heap.size wr) (Nat.le_refl _) (.cells #[.int .i64 m.id, .string ⟨m.name.toArray⟩, .int .i64 m.ty, .bool m.crit, .bool m.hasDef, .int .i64 m.dflt.kind, .bool m.dflt.bool, .int .i64 m.dflt.num, .string ⟨m.dflt.str.toArray⟩, .int .i64 m.dflt.id, .slice D1 m.dflt.keys.length d1, .slice D2 m.dflt.items.length d2, .slice D3 m.dflt.rest.length d3] 69)
   have M := Has.made wr 69 #[.int .i64 m.id, .string ⟨m.name.toArray⟩, .int .i64 m.ty, .bool m.crit, .bool m.hasDef, .int .i64 m.dflt.kind, .bool m.dflt.bool, .int .i64 m.dflt.num, .string ⟨m.dflt.str.toArray⟩, .int .i64 m.dflt.id, .slice D1 m.dflt.keys.length d1, .slice D2 m.dflt.items.length d2, .slice D3 m.dflt.rest.length d3]
   have hl58 := T.out.here
   have hl59 := O.out.le
   have hl60 := hb.size
   replace T := Lib.hid (T.out.below hb56 T.out.here)
   replace O := Lib.hid (O.out.on hb56)
   replace hb := hb.trans (hb56.mono hb.size)
   replace M := Lib.hid M
   clear hb56
   generalize (wr.alloc (.cells #[.int .i64 m.id, .string ⟨m.name.toArray⟩, .int .i64 m.ty, .bool m.crit, .bool m.hasDef, .int .i64 m.dflt.kind, .bool m.dflt.bool, .int .i64 m.dflt.num, .string ⟨m.dflt.str.toArray⟩, .int .i64 m.dflt.id, .slice D1 m.dflt.keys.length d1, .slice D2 m.dflt.items.length d2, .slice D3 m.dflt.rest.length d3] 69)) = wd61 at *
   generalize wr.heap.size = g57 at *
   clear x0 x1 x2 x3 x4 x5 x6 x7 x8 x9 x10 x11 x12 hC2
   have cM_2 : wd61.cell? ⟨g57, 2, none⟩ = some (.int .i64 m.ty) := M.out.cell 2
   have hbase : w.heap.size + 1 ≤ wd61.heap.size := T.out.here
   go_upto_region 6 with (at_builtin; refine wpList_append_lie rfl _ _ _ rfl (w.heap.size + 1) 3 _ 1 8 Try.underlying44 info_intC rfl (by decide) _ (k) _ rfl O.out.now [.int .i64 m.ty] _ 1 _ rfl rfl rfl (by simp [Value.oneCell']) (by omega) (by omega) hbase ?_; intro g cap w3 hown3 hg3 hgat hb3)
   clear hg3 hgat hbase
   clear cM_2
   clear O
   clear M
   replace T := Lib.hid (T.out.below hb3 (show w.heap.size < w.heap.size + 1 by omega))
   replace hb := hb.trans (hb3.mono (show w.heap.size ≤ w.heap.size + 1 by omega))
   have O := Lib.hid (Kept.own hown3)
   clear hown3
   go_wp2_with fail
   go_roundw
   case rel => exact ⟨k + 1, by omega, by go_num, by rw [HTK.out]; exact O.out.now, T.out, hb⟩
   case measure => simp [intOf]; omega
  ·
   obtain rfl : k = x.mems.length := by omega
   rw [List.take_of_length_le (Nat.le_refl _)] at O
   by_cases h8 : x.kind = 8
   ·
    have t8 : (x.kind == 8) = true := by simp [h8]
    have t7 : (7 : Int) ≤ x.kind := by omega
    have Hul : Hid (usesL x = x.mems.map Mem.ty ++ [x.key, x.elem]) := by show _ = _; unfold usesL; rw [if_pos h8, if_pos t7]; rfl
    clear h8
    have cT_0 : wr.cell? ⟨w.heap.size, 0, none⟩ = some (.int .i64 x.kind) := T.out.cell 0
    have cT_7 : wr.cell? ⟨w.heap.size, 7, none⟩ = some (.int .i64 x.key) := T.out.cell 7
    have hbase : w.heap.size + 1 ≤ wr.heap.size := T.out.here
    go_upto_region 9 with (at_builtin; refine wpList_append_lie rfl _ _ _ rfl (w.heap.size + 1) 3 _ 1 8 Try.underlying44 info_intC rfl (by decide) _ (x.mems.length) _ rfl O.out.now [.int .i64 x.key] _ 1 _ rfl rfl rfl (by simp [Value.oneCell']) (by omega) (by omega) hbase ?_; intro g cap w3 hown3 hg3 hgat hb3)
    clear hg3 hgat hbase
    clear cT_0 cT_7
    clear O
    replace T := Lib.hid (T.out.below hb3 (show w.heap.size < w.heap.size + 1 by omega))
    replace hb := hb.trans (hb3.mono (show w.heap.size ≤ w.heap.size + 1 by omega))
    have O := Lib.hid (Kept.own hown3)
    clear hown3
    have cT_0 : w3.cell? ⟨w.heap.size, 0, none⟩ = some (.int .i64 x.kind) := T.out.cell 0
    have cT_8 : w3.cell? ⟨w.heap.size, 8, none⟩ = some (.int .i64 x.elem) := T.out.cell 8
    have hbase : w.heap.size + 1 ≤ w3.heap.size := T.out.here
    go_upto_region 11 with (at_builtin; refine wpList_append_lie rfl _ _ _ rfl (w.heap.size + 1) 3 _ 1 8 Try.underlying44 info_intC rfl (by decide) _ (x.mems.length + 1) _ rfl O.out.now [.int .i64 x.elem] _ 1 _ rfl rfl rfl (by simp [Value.oneCell']) (by omega) (by omega) hbase ?_; intro g cap w3 hown3 hg3 hgat hb3)
    clear hg3 hgat hbase
    clear cT_0 cT_8
    clear O
    replace T := Lib.hid (T.out.below hb3 (show w.heap.size < w.heap.size + 1 by omega))
    replace hb := hb.trans (hb3.mono (show w.heap.size ≤ w.heap.size + 1 by omega))
    have O := Lib.hid (Kept.own hown3)
    clear hown3
    go_wp2_with fail
    go_ret
    exact ⟨_, rfl, uses_tail O.out.now (by rw [Hul.out]; simp [tyV]) (by rw [Hul.out]; simp), hb⟩
   ·
    have t8 : (x.kind == 8) = false := by simpa using h8
    by_cases h7 : 7 ≤ x.kind
    ·
     have Hul : Hid (usesL x = x.mems.map Mem.ty ++ [x.elem]) := by show _ = _; unfold usesL; rw [if_neg h8, if_pos h7]; rfl
     clear h8
     have cT_0 : wr.cell? ⟨w.heap.size, 0, none⟩ = some (.int .i64 x.kind) := T.out.cell 0
     have cT_8 : wr.cell? ⟨w.heap.size, 8, none⟩ = some (.int .i64 x.elem) := T.out.cell 8
     have hbase : w.heap.size + 1 ≤ wr.heap.size := T.out.here
     go_upto_region 11 with (at_builtin; refine wpList_append_lie rfl _ _ _ rfl (w.heap.size + 1) 3 _ 1 8 Try.underlying44 info_intC rfl (by decide) _ (x.mems.length) _ rfl O.out.now [.int .i64 x.elem] _ 1 _ rfl rfl rfl (by simp [Value.oneCell']) (by omega) (by omega) hbase ?_; intro g cap w3 hown3 hg3 hgat hb3)
     clear hg3 hgat hbase
     clear cT_0 cT_8
     clear O
     replace T := Lib.hid (T.out.below hb3 (show w.heap.size < w.heap.size + 1 by omega))
     replace hb := hb.trans (hb3.mono (show w.heap.size ≤ w.heap.size + 1 by omega))
     have O := Lib.hid (Kept.own hown3)
     clear hown3
     go_wp2_with fail
     go_ret
     exact ⟨_, rfl, uses_tail O.out.now (by rw [Hul.out]; simp [tyV]) (by rw [Hul.out]; simp), hb⟩
    ·
     have Hul : Hid (usesL x = x.mems.map Mem.ty) := by show _ = _; unfold usesL; rw [if_neg h8, if_neg h7]; simp
     clear h8
     have cT_0 : wr.cell? ⟨w.heap.size, 0, none⟩ = some (.int .i64 x.kind) := T.out.cell 0
     go_wp2_with fail
     go_ret
     exact ⟨_, rfl, uses_tail O.out.now (by rw [Hul.out]; simp [tyV]) (by rw [Hul.out]; simp), hb⟩
end Go.Proofs.Ytjajgclchapllaa
namespace Go.Proofs.Ytjajgclchapllaa
open Go.ChangeShapes Go.WideShapes Go.ChangeAt Go.RowKit
set_option maxRecDepth 100000 in
set_option maxHeartbeats 1600000 in
theorem ruses_any (x : Typ) (vs vm : Value) (w : World) (hk : KindIn x.kind) (hl : x.mems.length ≤ 6000000000000) (ht : TypAt w w.heap.size x vs vm) :
  Calls Try.prog 70 #[typA x vs vm] w (UsesPost (usesL x) w) := by
 obtain ⟨C1, m1, C2, m2, rfl, rfl, -, -⟩ := ht.forms
 have HT := Lib.hid ht
 have hk0 := hk
 clear ht hk
 go_enter Try.func70, Try.ntmps70
 go_upto_region 1 with fail
 have hb62 := below_al (Below.refl w.heap.size w) (Nat.le_refl _) (.cells #[.int .i64 x.kind, .string ⟨x.name.toArray⟩, .int .i64 x.low, .int .i64 x.high, .int .i64 x.max, .slice C1 x.syms.length m1, .slice C2 x.mems.length m2, .int .i64 x.key, .int .i64 x.elem, .bool x.opn] 67)
 have T := Has.made w 67 #[.int .i64 x.kind, .string ⟨x.name.toArray⟩, .int .i64 x.low, .int .i64 x.high, .int .i64 x.max, .slice C1 x.syms.length m1, .slice C2 x.mems.length m2, .int .i64 x.key, .int .i64 x.elem, .bool x.opn]
 have hw63 := hb62
 replace T := Lib.hid T
 clear hb62
 generalize (w.alloc (.cells #[.int .i64 x.kind, .string ⟨x.name.toArray⟩, .int .i64 x.low, .int .i64 x.high, .int .i64 x.max, .slice C1 x.syms.length m1, .slice C2 x.mems.length m2, .int .i64 x.key, .int .i64 x.elem, .bool x.opn] 67)) = wd64 at *
 generalize typA x (.slice C1 x.syms.length m1) (.slice C2 x.mems.length m2) = s0
 have cT_6 : wd64.cell? ⟨w.heap.size, 6, none⟩ = some (.slice C2 x.mems.length m2) := T.out.cell 6
 have HT0 := Lib.hid T.out
 have hB0 := hw63
 go_wp2_with fail
 go_loopw [3, 4] (fun s3 i wr => ∃ k : Nat, k ≤ x.mems.length ∧ i = .int .i64 k ∧ wr.ownsRow (w.heap.size + 1) 3 1 s3 k ((x.mems.take k).map tyV) ∧ Has wr w.heap.size 67 #[.int .i64 x.kind, .string ⟨x.name.toArray⟩, .int .i64 x.low, .int .i64 x.high, .int .i64 x.max, .slice C1 x.syms.length m1, .slice C2 x.mems.length m2, .int .i64 x.key, .int .i64 x.elem, .bool x.opn] ∧ Below w.heap.size w wr) (fun _ i _ => x.mems.length - (intOf i).toNat)
 case atStart => exact ⟨0, by omega, rfl, World.ownsRow_nil _ _ _ _, HT0.out, hB0⟩
 case round =>
  clear T hB0 HT0
  obtain ⟨k, hk, rfl, hown, T, hb⟩ := hrel
  obtain ⟨A0, c0, rfl⟩ := own_form hown
  replace T := Lib.hid T
  have O := Lib.hid (Kept.own hown)
  clear hown
  by_cases hlt : k < x.mems.length
  ·
   obtain ⟨b, o, hC2, hb1, hel⟩ := HT.out.mems.elem (by omega)
   obtain ⟨dk, di, dr, hcells, hma⟩ := hel k hlt
   have HTK : Hid ((x.mems.take (k + 1)).map tyV = (x.mems.take k).map tyV ++ [.int .i64 x.mems[k].ty]) := take_map tyV x.mems k hlt
   generalize x.mems[k] = m at *
   obtain ⟨D1, d1, D2, d2, D3, d3, rfl, rfl, rfl, -, -, -⟩ := hma.dflt.forms
   obtain ⟨y0, y1, y2, y3, y4, y5, y6, y7, y8, y9, y10, y11, y12⟩ := hcells
   have x0 := (hb.cell (p := ⟨b, _, none⟩) hb1).trans y0
   have x1 := (hb.cell (p := ⟨b, _, none⟩) hb1).trans y1
   have x2 := (hb.cell (p := ⟨b, _, none⟩) hb1).trans y2
   have x3 := (hb.cell (p := ⟨b, _, none⟩) hb1).trans y3
   have x4 := (hb.cell (p := ⟨b, _, none⟩) hb1).trans y4
   have x5 := (hb.cell (p := ⟨b, _, none⟩) hb1).trans y5
   have x6 := (hb.cell (p := ⟨b, _, none⟩) hb1).trans y6
   have x7 := (hb.cell (p := ⟨b, _, none⟩) hb1).trans y7
   have x8 := (hb.cell (p := ⟨b, _, none⟩) hb1).trans y8
   have x9 := (hb.cell (p := ⟨b, _, none⟩) hb1).trans y9
   have x10 := (hb.cell (p := ⟨b, _, none⟩) hb1).trans y10
   have x11 := (hb.cell (p := ⟨b, _, none⟩) hb1).trans y11
   have x12 := (hb.cell (p := ⟨b, _, none⟩) hb1).trans y12
   clear y0 y1 y2 y3 y4 y5 y6 y7 y8 y9 y10 y11 y12
   have hi1 : (k : Int) < x.mems.length := by omega
   clear hel hma
   clear x0 x1 x3 x4 x5 x6 x7 x8 x9 x10 x11 x12
   have cT_6 : wr.cell? ⟨w.heap.size, 6, none⟩ = some (.slice C2 x.mems.length m2) := T.out.cell 6
   go_upto_region 5 with fail
   have hbase : w.heap.size + 1 ≤ wr.heap.size := T.out.here
   go_upto_region 4 with (at_builtin; refine wpList_append_lie rfl _ _ _ rfl (w.heap.size + 1) 3 _ 1 8 Try.underlying44 info_intC rfl (by decide) _ (k) _ rfl O.out.now [.int .i64 m.ty] _ 1 _ rfl rfl rfl (by simp [Value.oneCell']) (by omega) (by omega) hbase ?_; intro g cap w3 hown3 hg3 hgat hb3)
   clear hg3 hgat hbase
   clear cT_6
   clear O
   replace T := Lib.hid (T.out.below hb3 (show w.heap.size < w.heap.size + 1 by omega))
   replace hb := hb.trans (hb3.mono (show w.heap.size ≤ w.heap.size + 1 by omega))
   have O := Lib.hid (Kept.own hown3)
   clear hown3
   clear hC2 x2
   go_wp2_with fail
   go_roundw
   case rel => exact ⟨k + 1, by omega, by go_num, by rw [HTK.out]; exact O.out.now, T.out, hb⟩
   case measure => simp [intOf]; omega
  ·
   obtain rfl : k = x.mems.length := by omega
   rw [List.take_of_length_le (Nat.le_refl _)] at O
   have cT_6 : wr.cell? ⟨w.heap.size, 6, none⟩ = some (.slice C2 x.mems.length m2) := T.out.cell 6
   go_upto_region 6 with fail
   clear cT_6
   by_cases h8 : x.kind = 8
   ·
    have t8 : (x.kind == 8) = true := by simp [h8]
    have t7 : (7 : Int) ≤ x.kind := by omega
    have u7 : (x.kind == 7) = false := beq_eq_false_iff_ne.2 (by omega)
    have Hul : Hid (usesL x = x.mems.map Mem.ty ++ [x.key, x.elem]) := by show _ = _; unfold usesL; rw [if_pos h8, if_pos t7]; rfl
    clear h8
    have cT_0 : wr.cell? ⟨w.heap.size, 0, none⟩ = some (.int .i64 x.kind) := T.out.cell 0
    have cT_7 : wr.cell? ⟨w.heap.size, 7, none⟩ = some (.int .i64 x.key) := T.out.cell 7
    have hbase : w.heap.size + 1 ≤ wr.heap.size := T.out.here
    go_upto_region 8 with (at_builtin; refine wpList_append_lie rfl _ _ _ rfl (w.heap.size + 1) 3 _ 1 8 Try.underlying44 info_intC rfl (by decide) _ (x.mems.length) _ rfl O.out.now [.int .i64 x.key] _ 1 _ rfl rfl rfl (by simp [Value.oneCell']) (by omega) (by omega) hbase ?_; intro g cap w3 hown3 hg3 hgat hb3)
    clear hg3 hgat hbase
    clear cT_0 cT_7
    clear O
    replace T := Lib.hid (T.out.below hb3 (show w.heap.size < w.heap.size + 1 by omega))
    replace hb := hb.trans (hb3.mono (show w.heap.size ≤ w.heap.size + 1 by omega))
    have O := Lib.hid (Kept.own hown3)
    clear hown3
    have cT_0 : w3.cell? ⟨w.heap.size, 0, none⟩ = some (.int .i64 x.kind) := T.out.cell 0
    have cT_8 : w3.cell? ⟨w.heap.size, 8, none⟩ = some (.int .i64 x.elem) := T.out.cell 8
    have hbase : w.heap.size + 1 ≤ w3.heap.size := T.out.here
    go_upto_region 10 with (at_builtin; refine wpList_append_lie rfl _ _ _ rfl (w.heap.size + 1) 3 _ 1 8 Try.underlying44 info_intC rfl (by decide) _ (x.mems.length + 1) _ rfl O.out.now [.int .i64 x.elem] _ 1 _ rfl rfl rfl (by simp [Value.oneCell']) (by omega) (by omega) hbase ?_; intro g cap w3 hown3 hg3 hgat hb3)
    clear hg3 hgat hbase
    clear cT_0 cT_8
    clear O
    replace T := Lib.hid (T.out.below hb3 (show w.heap.size < w.heap.size + 1 by omega))
    replace hb := hb.trans (hb3.mono (show w.heap.size ≤ w.heap.size + 1 by omega))
    have O := Lib.hid (Kept.own hown3)
    clear hown3
    go_wp2_with fail
    go_ret
    exact ⟨_, rfl, uses_tail O.out.now (by rw [Hul.out]; simp [tyV]) (by rw [Hul.out]; simp), hb⟩
   ·
    have t8 : (x.kind == 8) = false := by simpa using h8
    by_cases h7 : 7 ≤ x.kind
    ·
     have h79 : x.kind = 7 ∨ x.kind = 9 := by unfold KindIn at hk0; omega
     have Hul : Hid (usesL x = x.mems.map Mem.ty ++ [x.elem]) := by show _ = _; unfold usesL; rw [if_neg h8, if_pos h7]; rfl
     clear h8 h7
     rcases h79 with h79 | h79
     ·
      have u7 : (x.kind == 7) = true := by simp [h79]
      clear h79
      have cT_0 : wr.cell? ⟨w.heap.size, 0, none⟩ = some (.int .i64 x.kind) := T.out.cell 0
      have cT_8 : wr.cell? ⟨w.heap.size, 8, none⟩ = some (.int .i64 x.elem) := T.out.cell 8
      have hbase : w.heap.size + 1 ≤ wr.heap.size := T.out.here
      go_upto_region 10 with (at_builtin; refine wpList_append_lie rfl _ _ _ rfl (w.heap.size + 1) 3 _ 1 8 Try.underlying44 info_intC rfl (by decide) _ (x.mems.length) _ rfl O.out.now [.int .i64 x.elem] _ 1 _ rfl rfl rfl (by simp [Value.oneCell']) (by omega) (by omega) hbase ?_; intro g cap w3 hown3 hg3 hgat hb3)
      clear hg3 hgat hbase
      clear cT_0 cT_8
      clear O
      replace T := Lib.hid (T.out.below hb3 (show w.heap.size < w.heap.size + 1 by omega))
      replace hb := hb.trans (hb3.mono (show w.heap.size ≤ w.heap.size + 1 by omega))
      have O := Lib.hid (Kept.own hown3)
      clear hown3
      go_wp2_with fail
      go_ret
      exact ⟨_, rfl, uses_tail O.out.now (by rw [Hul.out]; simp [tyV]) (by rw [Hul.out]; simp), hb⟩
     ·
      have u7 : (x.kind == 7) = false := by simp [h79]
      have u9 : (x.kind == 9) = true := by simp [h79]
      clear h79
      have cT_0 : wr.cell? ⟨w.heap.size, 0, none⟩ = some (.int .i64 x.kind) := T.out.cell 0
      have cT_8 : wr.cell? ⟨w.heap.size, 8, none⟩ = some (.int .i64 x.elem) := T.out.cell 8
      have hbase : w.heap.size + 1 ≤ wr.heap.size := T.out.here
      go_upto_region 10 with (at_builtin; refine wpList_append_lie rfl _ _ _ rfl (w.heap.size + 1) 3 _ 1 8 Try.underlying44 info_intC rfl (by decide) _ (x.mems.length) _ rfl O.out.now [.int .i64 x.elem] _ 1 _ rfl rfl rfl (by simp [Value.oneCell']) (by omega) (by omega) hbase ?_; intro g cap w3 hown3 hg3 hgat hb3)
      clear hg3 hgat hbase
      clear cT_0 cT_8
      clear O
      replace T := Lib.hid (T.out.below hb3 (show w.heap.size < w.heap.size + 1 by omega))
      replace hb := hb.trans (hb3.mono (show w.heap.size ≤ w.heap.size + 1 by omega))
      have O := Lib.hid (Kept.own hown3)
      clear hown3
      go_wp2_with fail
      go_ret
      exact ⟨_, rfl, uses_tail O.out.now (by rw [Hul.out]; simp [tyV]) (by rw [Hul.out]; simp), hb⟩
    ·
     have Hul : Hid (usesL x = x.mems.map Mem.ty) := by show _ = _; unfold usesL; rw [if_neg h8, if_neg h7]; simp
     have u7 : (x.kind == 7) = false := beq_eq_false_iff_ne.2 (by omega)
     have u9 : (x.kind == 9) = false := beq_eq_false_iff_ne.2 (by omega)
     clear h8 h7
     have cT_0 : wr.cell? ⟨w.heap.size, 0, none⟩ = some (.int .i64 x.kind) := T.out.cell 0
     go_wp2_with fail
     go_ret
     exact ⟨_, rfl, uses_tail O.out.now (by rw [Hul.out]; simp [tyV]) (by rw [Hul.out]; simp), hb⟩
end Go.Proofs.Ytjajgclchapllaa

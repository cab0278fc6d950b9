/- What the writer of canonical bytes computes for a type: form. No condition. -/
import Derived.Test.YtlamhkffnlgofaaGreatDoorHAO
set_option maxHeartbeats 800000
namespace Go.Proofs.YtlamhkffnlgofaaGreatDoor
open Go.ChangeShapes Go.WideShapes Go.ChangeAt Go.RowKit
structure FormOK (x : Typ) : Prop where
 max : 0 ≤ x.max ∧ x.max ≤ 1000000
 key : 0 ≤ x.key ∧ x.key ≤ 1000000
 elem : 0 ≤ x.elem ∧ x.elem ≤ 1000000
 syms : x.syms.length ≤ 1000 ∧ ∀ s ∈ x.syms, 0 ≤ s.1 ∧ s.1 ≤ 1000000
 mems : x.mems.length ≤ 1000 ∧ ∀ m ∈ x.mems, (0 ≤ m.id ∧ m.id ≤ 1000000) ∧ 0 ≤ m.ty ∧ m.ty ≤ 1000000
theorem zigB_len (n : Int) : (zigB n).length ≤ 10 := putF_len9 _
theorem nat_to {a : Int} (h : 0 ≤ a ∧ a ≤ 1000000) : ∃ k : Nat, a = (k : Int) ∧ a.toNat = k ∧ k ≤ 1000000 := ⟨a.toNat, by omega, rfl, by omega⟩
set_option maxRecDepth 100000 in
theorem fpf1_any (q : List UInt8) (x : Typ) (vs vm : Value) (hk : x.kind = 1) (hl : q.length ≤ 10000000000000) (gw : Nat) (w : World) (hw : WrAt w gw q) (ht : TypAt w gw x vs vm) :
  Calls Tryz.prog 47 #[.pointer (some ⟨gw, 0, none⟩), typA x vs vm] w (WPost gw (q ++ singT x) w) := by
 have hs : singT x = putF 9 1 := by unfold singT; simp [hk]
 rw [hs]
 have hgw0 := hw.here
 have R := hw
 have KG := WKeep.refl gw w
 obtain ⟨C1, l1, C2, l2, rfl, rfl, -, -⟩ := ht.forms
 obtain ⟨hi0, hlow, hhigh, hi1, hi2, hi3⟩ := ht.ints
 have HSI := Lib.hid hs
 have hp1 := putF_len9 1
 rw [show typA x (.slice C1 x.syms.length l1) (.slice C2 x.mems.length l2) = .agg #[.int .i64 1, .string ⟨x.name.toArray⟩, .int .i64 x.low, .int .i64 x.high, .int .i64 x.max, .slice C1 x.syms.length l1, .slice C2 x.mems.length l2, .int .i64 x.key, .int .i64 x.elem, .bool x.opn] by unfold typA; rw [hk]]
 clear hw hs hk hi0 hi1 hi2 hi3
 replace R := Lib.hid R
 go_enter Tryz.func47, Tryz.ntmps47
 go_upto_region 1 with fail
 refine am1 (fun wd2 hb1 X => ?_)
 replace R := wB R hb1
 replace KG := wkB KG hb1 (by have := KG.size; omega)
 clear hb1
 have cX_0 := X.out.e0
 go_wp2_with fail
 clear cX_0
 refine amc1 (fun wd4 hb3 G => ?_)
 have hl6 := X.out.here
 have hl7 := KG.size
 replace X := b1 X hb3
 replace R := wB R hb3
 replace KG := wkB KG hb3 (by have := KG.size; omega)
 clear hb3
 generalize wd2.heap.size = g5 at *
 have hG : Has wd4 g5 3 #[.int .i64 ((1 : Nat) : Int)] := G.out
 ((with_reducible refine (fnum1 q 1 (by decide) (by omega) gw g5 1 (by omega) _ R.out hG).mono ?_); rintro e wd8 ⟨rfl, hR9, hK10⟩)
 replace X := wH X hK10 (by omega) (by decide)
 replace G := wH G hK10 (by omega) (by decide)
 replace R := Lib.hid hR9
 replace KG := KG.trans hK10
 clear hR9 hK10
 clear hG
 clear G
 have cX_0 := X.out.e0
 go_wp2_with fail
 go_end0
 exact ⟨rfl, R.out, KG⟩
set_option maxRecDepth 100000 in
theorem fpf2_any (q : List UInt8) (x : Typ) (vs vm : Value) (hk : x.kind = 2) (hl : q.length ≤ 10000000000000) (gw : Nat) (w : World) (hw : WrAt w gw q) (ht : TypAt w gw x vs vm) :
  Calls Tryz.prog 47 #[.pointer (some ⟨gw, 0, none⟩), typA x vs vm] w (WPost gw (q ++ singT x) w) := by
 have hs : singT x = putF 9 2 ++ (zigB x.low ++ zigB x.high) := by unfold singT; simp [hk]
 rw [hs]
 have hzl := zigB_len x.low
 have hgw0 := hw.here
 have R := hw
 have KG := WKeep.refl gw w
 obtain ⟨C1, l1, C2, l2, rfl, rfl, -, -⟩ := ht.forms
 obtain ⟨hi0, hlow, hhigh, hi1, hi2, hi3⟩ := ht.ints
 have HSI := Lib.hid hs
 have hp1 := putF_len9 2
 rw [show typA x (.slice C1 x.syms.length l1) (.slice C2 x.mems.length l2) = .agg #[.int .i64 2, .string ⟨x.name.toArray⟩, .int .i64 x.low, .int .i64 x.high, .int .i64 x.max, .slice C1 x.syms.length l1, .slice C2 x.mems.length l2, .int .i64 x.key, .int .i64 x.elem, .bool x.opn] by unfold typA; rw [hk]]
 clear hw hs hk hi0 hi1 hi2 hi3
 replace R := Lib.hid R
 go_enter Tryz.func47, Tryz.ntmps47
 go_upto_region 1 with fail
 refine am1 (fun wd2 hb1 X => ?_)
 replace R := wB R hb1
 replace KG := wkB KG hb1 (by have := KG.size; omega)
 clear hb1
 have cX_0 := X.out.e0
 go_wp2_with fail
 clear cX_0
 refine amc1 (fun wd4 hb3 G => ?_)
 have hl6 := X.out.here
 have hl7 := KG.size
 replace X := b1 X hb3
 replace R := wB R hb3
 replace KG := wkB KG hb3 (by have := KG.size; omega)
 clear hb3
 generalize wd2.heap.size = g5 at *
 have hG : Has wd4 g5 3 #[.int .i64 ((2 : Nat) : Int)] := G.out
 ((with_reducible refine (fnum1 q 2 (by decide) (by omega) gw g5 1 (by omega) _ R.out hG).mono ?_); rintro e wd8 ⟨rfl, hR9, hK10⟩)
 replace X := wH X hK10 (by omega) (by decide)
 replace G := wH G hK10 (by omega) (by decide)
 replace R := Lib.hid hR9
 replace KG := KG.trans hK10
 clear hR9 hK10
 clear hG
 clear G
 have cX_0 := X.out.e0
 have cX_2 := X.out.e2
 go_wp2_with fail
 clear cX_0 cX_2
 ((with_reducible refine (finteger_any (q ++ putF 9 2) x.low hlow (by rw [List.length_append]; omega) gw _ R.out).mono ?_); rintro e wd11 ⟨rfl, hR12, hK13⟩)
 replace X := wH X hK13 (by omega) (by decide)
 replace R := Lib.hid hR12
 replace KG := KG.trans hK13
 clear hR12 hK13
 have cX_3 := X.out.e3
 go_wp2_with fail
 clear cX_3
 ((with_reducible refine (finteger_any (q ++ putF 9 2 ++ zigB x.low) x.high hhigh (by rw [List.length_append, List.length_append]; omega) gw _ R.out).mono ?_); rintro e wd14 ⟨rfl, hR15, hK16⟩)
 replace X := wH X hK16 (by omega) (by decide)
 replace R := Lib.hid hR15
 replace KG := KG.trans hK16
 clear hR15 hK16
 go_wp2_with fail
 go_end0
 exact ⟨rfl, by simpa [List.append_assoc] using R.out, KG⟩
set_option maxRecDepth 100000 in
theorem fpf3_any (q : List UInt8) (x : Typ) (vs vm : Value) (hk : x.kind = 3) (ho : FormOK x) (hl : q.length ≤ 10000000000000) (gw : Nat) (w : World) (hw : WrAt w gw q) (ht : TypAt w gw x vs vm) :
  Calls Tryz.prog 47 #[.pointer (some ⟨gw, 0, none⟩), typA x vs vm] w (WPost gw (q ++ singT x) w) := by
 obtain ⟨a, ha, han, hal⟩ := nat_to ho.max
 have hs : singT x = putF 9 3 ++ putF 9 a := by unfold singT; simp [hk, han]
 rw [hs]
 have hgw0 := hw.here
 have R := hw
 have KG := WKeep.refl gw w
 obtain ⟨C1, l1, C2, l2, rfl, rfl, -, -⟩ := ht.forms
 obtain ⟨hi0, hlow, hhigh, hi1, hi2, hi3⟩ := ht.ints
 have HSI := Lib.hid hs
 have hp1 := putF_len9 3
 rw [show typA x (.slice C1 x.syms.length l1) (.slice C2 x.mems.length l2) = .agg #[.int .i64 3, .string ⟨x.name.toArray⟩, .int .i64 x.low, .int .i64 x.high, .int .i64 x.max, .slice C1 x.syms.length l1, .slice C2 x.mems.length l2, .int .i64 x.key, .int .i64 x.elem, .bool x.opn] by unfold typA; rw [hk]]
 clear hw hs hk hi0 hi1 hi2 hi3
 replace R := Lib.hid R
 go_enter Tryz.func47, Tryz.ntmps47
 go_upto_region 1 with fail
 refine am1 (fun wd2 hb1 X => ?_)
 replace R := wB R hb1
 replace KG := wkB KG hb1 (by have := KG.size; omega)
 clear hb1
 have cX_0 := X.out.e0
 go_wp2_with fail
 clear cX_0
 refine amc1 (fun wd4 hb3 G => ?_)
 have hl6 := X.out.here
 have hl7 := KG.size
 replace X := b1 X hb3
 replace R := wB R hb3
 replace KG := wkB KG hb3 (by have := KG.size; omega)
 clear hb3
 generalize wd2.heap.size = g5 at *
 have hG : Has wd4 g5 3 #[.int .i64 ((3 : Nat) : Int)] := G.out
 ((with_reducible refine (fnum1 q 3 (by decide) (by omega) gw g5 1 (by omega) _ R.out hG).mono ?_); rintro e wd8 ⟨rfl, hR9, hK10⟩)
 replace X := wH X hK10 (by omega) (by decide)
 replace G := wH G hK10 (by omega) (by decide)
 replace R := Lib.hid hR9
 replace KG := KG.trans hK10
 clear hR9 hK10
 clear hG
 clear G
 have cX_0 := X.out.e0
 have cX_4 := X.out.e4
 go_wp2_with fail
 clear cX_0 cX_4
 refine amc1 (fun wd12 hb11 G => ?_)
 have hl14 := X.out.here
 have hl15 := KG.size
 replace X := b1 X hb11
 replace R := wB R hb11
 replace KG := wkB KG hb11 (by have := KG.size; omega)
 clear hb11
 generalize wd8.heap.size = g13 at *
 ((with_reducible refine (fnum1 (q ++ putF 9 3) a (by omega) (by rw [List.length_append]; omega) gw g13 1 (by omega) _ R.out G.out).mono ?_); rintro e wd16 ⟨rfl, hR17, hK18⟩)
 replace X := wH X hK18 (by omega) (by decide)
 replace G := wH G hK18 (by omega) (by decide)
 replace R := Lib.hid hR17
 replace KG := KG.trans hK18
 clear hR17 hK18
 go_wp2_with fail
 go_end0
 exact ⟨rfl, by simpa [List.append_assoc] using R.out, KG⟩
set_option maxRecDepth 100000 in
theorem fpf7_any (q : List UInt8) (x : Typ) (vs vm : Value) (hk : x.kind = 7) (ho : FormOK x) (hl : q.length ≤ 10000000000000) (gw : Nat) (w : World) (hw : WrAt w gw q) (ht : TypAt w gw x vs vm) :
  Calls Tryz.prog 47 #[.pointer (some ⟨gw, 0, none⟩), typA x vs vm] w (WPost gw (q ++ singT x) w) := by
 obtain ⟨a, ha, han, hal⟩ := nat_to ho.max
 obtain ⟨d, hd, hdn, hdl⟩ := nat_to ho.elem
 have hs : singT x = putF 9 7 ++ (putF 9 a ++ putF 9 d) := by unfold singT; simp [hk, han, hdn]
 rw [hs]
 have hgw0 := hw.here
 have R := hw
 have KG := WKeep.refl gw w
 obtain ⟨C1, l1, C2, l2, rfl, rfl, -, -⟩ := ht.forms
 obtain ⟨hi0, hlow, hhigh, hi1, hi2, hi3⟩ := ht.ints
 have HSI := Lib.hid hs
 have hp1 := putF_len9 7
 rw [show typA x (.slice C1 x.syms.length l1) (.slice C2 x.mems.length l2) = .agg #[.int .i64 7, .string ⟨x.name.toArray⟩, .int .i64 x.low, .int .i64 x.high, .int .i64 x.max, .slice C1 x.syms.length l1, .slice C2 x.mems.length l2, .int .i64 x.key, .int .i64 x.elem, .bool x.opn] by unfold typA; rw [hk]]
 clear hw hs hk hi0 hi1 hi2 hi3
 replace R := Lib.hid R
 go_enter Tryz.func47, Tryz.ntmps47
 go_upto_region 1 with fail
 refine am1 (fun wd2 hb1 X => ?_)
 replace R := wB R hb1
 replace KG := wkB KG hb1 (by have := KG.size; omega)
 clear hb1
 have cX_0 := X.out.e0
 go_wp2_with fail
 clear cX_0
 refine amc1 (fun wd4 hb3 G => ?_)
 have hl6 := X.out.here
 have hl7 := KG.size
 replace X := b1 X hb3
 replace R := wB R hb3
 replace KG := wkB KG hb3 (by have := KG.size; omega)
 clear hb3
 generalize wd2.heap.size = g5 at *
 have hG : Has wd4 g5 3 #[.int .i64 ((7 : Nat) : Int)] := G.out
 ((with_reducible refine (fnum1 q 7 (by decide) (by omega) gw g5 1 (by omega) _ R.out hG).mono ?_); rintro e wd8 ⟨rfl, hR9, hK10⟩)
 replace X := wH X hK10 (by omega) (by decide)
 replace G := wH G hK10 (by omega) (by decide)
 replace R := Lib.hid hR9
 replace KG := KG.trans hK10
 clear hR9 hK10
 clear hG
 clear G
 obtain ⟨cX_0, -, -, -, cX_4, -, -, -, cX_8, -⟩ := X.out.c10
 go_wp2_with fail
 clear cX_0 cX_4 cX_8
 refine amc1 (fun wd12 hb11 G => ?_)
 have hl14 := X.out.here
 have hl15 := KG.size
 replace X := b1 X hb11
 replace R := wB R hb11
 replace KG := wkB KG hb11 (by have := KG.size; omega)
 clear hb11
 generalize wd8.heap.size = g13 at *
 ((with_reducible refine (fnum2 (q ++ putF 9 7) a d (by omega) (by omega) (by rw [List.length_append]; omega) gw g13 2 (by omega) _ R.out G.out).mono ?_); rintro e wd16 ⟨rfl, hR17, hK18⟩)
 replace X := wH X hK18 (by omega) (by decide)
 replace G := wH G hK18 (by omega) (by decide)
 replace R := Lib.hid hR17
 replace KG := KG.trans hK18
 clear hR17 hK18
 go_wp2_with fail
 go_end0
 exact ⟨rfl, by simpa [List.append_assoc] using R.out, KG⟩
set_option maxRecDepth 100000 in
theorem fpf8_any (q : List UInt8) (x : Typ) (vs vm : Value) (hk : x.kind = 8) (ho : FormOK x) (hl : q.length ≤ 10000000000000) (gw : Nat) (w : World) (hw : WrAt w gw q) (ht : TypAt w gw x vs vm) :
  Calls Tryz.prog 47 #[.pointer (some ⟨gw, 0, none⟩), typA x vs vm] w (WPost gw (q ++ singT x) w) := by
 obtain ⟨a, ha, han, hal⟩ := nat_to ho.max
 obtain ⟨b, hb, hbn, hbl⟩ := nat_to ho.key
 obtain ⟨d, hd, hdn, hdl⟩ := nat_to ho.elem
 have hs : singT x = putF 9 8 ++ (putF 9 a ++ (putF 9 b ++ putF 9 d)) := by unfold singT; simp [hk, han, hbn, hdn]
 rw [hs]
 have hgw0 := hw.here
 have R := hw
 have KG := WKeep.refl gw w
 obtain ⟨C1, l1, C2, l2, rfl, rfl, -, -⟩ := ht.forms
 obtain ⟨hi0, hlow, hhigh, hi1, hi2, hi3⟩ := ht.ints
 have HSI := Lib.hid hs
 have hp1 := putF_len9 8
 rw [show typA x (.slice C1 x.syms.length l1) (.slice C2 x.mems.length l2) = .agg #[.int .i64 8, .string ⟨x.name.toArray⟩, .int .i64 x.low, .int .i64 x.high, .int .i64 x.max, .slice C1 x.syms.length l1, .slice C2 x.mems.length l2, .int .i64 x.key, .int .i64 x.elem, .bool x.opn] by unfold typA; rw [hk]]
 clear hw hs hk hi0 hi1 hi2 hi3
 replace R := Lib.hid R
 go_enter Tryz.func47, Tryz.ntmps47
 go_upto_region 1 with fail
 refine am1 (fun wd2 hb1 X => ?_)
 replace R := wB R hb1
 replace KG := wkB KG hb1 (by have := KG.size; omega)
 clear hb1
 have cX_0 := X.out.e0
 go_wp2_with fail
 clear cX_0
 refine amc1 (fun wd4 hb3 G => ?_)
 have hl6 := X.out.here
 have hl7 := KG.size
 replace X := b1 X hb3
 replace R := wB R hb3
 replace KG := wkB KG hb3 (by have := KG.size; omega)
 clear hb3
 generalize wd2.heap.size = g5 at *
 have hG : Has wd4 g5 3 #[.int .i64 ((8 : Nat) : Int)] := G.out
 ((with_reducible refine (fnum1 q 8 (by decide) (by omega) gw g5 1 (by omega) _ R.out hG).mono ?_); rintro e wd8 ⟨rfl, hR9, hK10⟩)
 replace X := wH X hK10 (by omega) (by decide)
 replace G := wH G hK10 (by omega) (by decide)
 replace R := Lib.hid hR9
 replace KG := KG.trans hK10
 clear hR9 hK10
 clear hG
 clear G
 obtain ⟨cX_0, -, -, -, cX_4, -, -, cX_7, cX_8, -⟩ := X.out.c10
 go_wp2_with fail
 clear cX_0 cX_4 cX_7 cX_8
 refine amc1 (fun wd12 hb11 G => ?_)
 have hl14 := X.out.here
 have hl15 := KG.size
 replace X := b1 X hb11
 replace R := wB R hb11
 replace KG := wkB KG hb11 (by have := KG.size; omega)
 clear hb11
 generalize wd8.heap.size = g13 at *
 ((with_reducible refine (fnum3 (q ++ putF 9 8) a b d (by omega) (by omega) (by omega) (by rw [List.length_append]; omega) gw g13 3 (by omega) _ R.out G.out).mono ?_); rintro e wd16 ⟨rfl, hR17, hK18⟩)
 replace X := wH X hK18 (by omega) (by decide)
 replace G := wH G hK18 (by omega) (by decide)
 replace R := Lib.hid hR17
 replace KG := KG.trans hK18
 clear hR17 hK18
 go_wp2_with fail
 go_end0
 exact ⟨rfl, by simpa [List.append_assoc] using R.out, KG⟩
set_option maxRecDepth 100000 in
theorem fpf9_any (q : List UInt8) (x : Typ) (vs vm : Value) (hk : x.kind = 9) (ho : FormOK x) (hl : q.length ≤ 10000000000000) (gw : Nat) (w : World) (hw : WrAt w gw q) (ht : TypAt w gw x vs vm) :
  Calls Tryz.prog 47 #[.pointer (some ⟨gw, 0, none⟩), typA x vs vm] w (WPost gw (q ++ singT x) w) := by
 obtain ⟨d, hd, hdn, hdl⟩ := nat_to ho.elem
 have hs : singT x = putF 9 9 ++ putF 9 d := by unfold singT; simp [hk, hdn]
 rw [hs]
 have hgw0 := hw.here
 have R := hw
 have KG := WKeep.refl gw w
 obtain ⟨C1, l1, C2, l2, rfl, rfl, -, -⟩ := ht.forms
 obtain ⟨hi0, hlow, hhigh, hi1, hi2, hi3⟩ := ht.ints
 have HSI := Lib.hid hs
 have hp1 := putF_len9 9
 rw [show typA x (.slice C1 x.syms.length l1) (.slice C2 x.mems.length l2) = .agg #[.int .i64 9, .string ⟨x.name.toArray⟩, .int .i64 x.low, .int .i64 x.high, .int .i64 x.max, .slice C1 x.syms.length l1, .slice C2 x.mems.length l2, .int .i64 x.key, .int .i64 x.elem, .bool x.opn] by unfold typA; rw [hk]]
 clear hw hs hk hi0 hi1 hi2 hi3
 replace R := Lib.hid R
 go_enter Tryz.func47, Tryz.ntmps47
 go_upto_region 1 with fail
 refine am1 (fun wd2 hb1 X => ?_)
 replace R := wB R hb1
 replace KG := wkB KG hb1 (by have := KG.size; omega)
 clear hb1
 have cX_0 := X.out.e0
 go_wp2_with fail
 clear cX_0
 refine amc1 (fun wd4 hb3 G => ?_)
 have hl6 := X.out.here
 have hl7 := KG.size
 replace X := b1 X hb3
 replace R := wB R hb3
 replace KG := wkB KG hb3 (by have := KG.size; omega)
 clear hb3
 generalize wd2.heap.size = g5 at *
 have hG : Has wd4 g5 3 #[.int .i64 ((9 : Nat) : Int)] := G.out
 ((with_reducible refine (fnum1 q 9 (by decide) (by omega) gw g5 1 (by omega) _ R.out hG).mono ?_); rintro e wd8 ⟨rfl, hR9, hK10⟩)
 replace X := wH X hK10 (by omega) (by decide)
 replace G := wH G hK10 (by omega) (by decide)
 replace R := Lib.hid hR9
 replace KG := KG.trans hK10
 clear hR9 hK10
 clear hG
 clear G
 have cX_0 := X.out.e0
 have cX_8 := X.out.e8
 go_wp2_with fail
 clear cX_0 cX_8
 refine amc1 (fun wd12 hb11 G => ?_)
 have hl14 := X.out.here
 have hl15 := KG.size
 replace X := b1 X hb11
 replace R := wB R hb11
 replace KG := wkB KG hb11 (by have := KG.size; omega)
 clear hb11
 generalize wd8.heap.size = g13 at *
 ((with_reducible refine (fnum1 (q ++ putF 9 9) d (by omega) (by rw [List.length_append]; omega) gw g13 1 (by omega) _ R.out G.out).mono ?_); rintro e wd16 ⟨rfl, hR17, hK18⟩)
 replace X := wH X hK18 (by omega) (by decide)
 replace G := wH G hK18 (by omega) (by decide)
 replace R := Lib.hid hR17
 replace KG := KG.trans hK18
 clear hR17 hK18
 go_wp2_with fail
 go_end0
 exact ⟨rfl, by simpa [List.append_assoc] using R.out, KG⟩
set_option maxRecDepth 100000 in
theorem fpf4_any (q : List UInt8) (x : Typ) (vs vm : Value) (hk : x.kind = 4) (ho : FormOK x) (hl : q.length ≤ 10000000000000) (gw : Nat) (w : World) (hw : WrAt w gw q) (ht : TypAt w gw x vs vm) :
  Calls Tryz.prog 47 #[.pointer (some ⟨gw, 0, none⟩), typA x vs vm] w (WPost gw (q ++ singT x) w) := by
 have hs : singT x = putF 9 4 ++ (flagB x.opn ++ (putF 9 x.syms.length ++ x.syms.flatMap fun s => putF 9 s.1.toNat)) := by unfold singT; simp [hk]
 rw [hs]
 obtain ⟨hsl, hsm⟩ := ho.syms
 have HSM := Lib.hid hsm
 have hfl : (flagB x.opn).length ≤ 10 := putF_len9 _
 have hnl := putF_len9 x.syms.length
 have HT := Lib.hid ht
 clear hsm
 have hgw0 := hw.here
 have R := hw
 have KG := WKeep.refl gw w
 obtain ⟨C1, l1, C2, l2, rfl, rfl, -, -⟩ := ht.forms
 obtain ⟨hi0, hlow, hhigh, hi1, hi2, hi3⟩ := ht.ints
 have HSI := Lib.hid hs
 have hp1 := putF_len9 4
 rw [show typA x (.slice C1 x.syms.length l1) (.slice C2 x.mems.length l2) = .agg #[.int .i64 4, .string ⟨x.name.toArray⟩, .int .i64 x.low, .int .i64 x.high, .int .i64 x.max, .slice C1 x.syms.length l1, .slice C2 x.mems.length l2, .int .i64 x.key, .int .i64 x.elem, .bool x.opn] by unfold typA; rw [hk]]
 clear hw hs hk hi0 hi1 hi2 hi3
 replace R := Lib.hid R
 go_enter Tryz.func47, Tryz.ntmps47
 go_upto_region 1 with fail
 refine am1 (fun wd2 hb1 X => ?_)
 replace R := wB R hb1
 replace KG := wkB KG hb1 (by have := KG.size; omega)
 clear hb1
 have cX_0 := X.out.e0
 go_wp2_with fail
 clear cX_0
 refine amc1 (fun wd4 hb3 G => ?_)
 have hl6 := X.out.here
 have hl7 := KG.size
 replace X := b1 X hb3
 replace R := wB R hb3
 replace KG := wkB KG hb3 (by have := KG.size; omega)
 clear hb3
 generalize wd2.heap.size = g5 at *
 have hG : Has wd4 g5 3 #[.int .i64 ((4 : Nat) : Int)] := G.out
 ((with_reducible refine (fnum1 q 4 (by decide) (by omega) gw g5 1 (by omega) _ R.out hG).mono ?_); rintro e wd8 ⟨rfl, hR9, hK10⟩)
 replace X := wH X hK10 (by omega) (by decide)
 replace G := wH G hK10 (by omega) (by decide)
 replace R := Lib.hid hR9
 replace KG := KG.trans hK10
 clear hR9 hK10
 clear hG
 clear G
 have cX_0 := X.out.e0
 have cX_9 := X.out.e9
 go_wp2_with fail
 clear cX_0 cX_9
 ((with_reducible refine (fflag_any (q ++ putF 9 4) x.opn (by rw [List.length_append]; omega) gw _ R.out).mono ?_); rintro e wd11 ⟨rfl, hR12, hK13⟩)
 replace X := wH X hK13 (by omega) (by decide)
 replace R := Lib.hid hR12
 replace KG := KG.trans hK13
 clear hR12 hK13
 have cX_5 := X.out.e5
 go_wp2_with fail
 clear cX_5
 refine amc1 (fun wd15 hb14 G => ?_)
 have hl17 := X.out.here
 have hl18 := KG.size
 replace X := b1 X hb14
 replace R := wB R hb14
 replace KG := wkB KG hb14 (by have := KG.size; omega)
 clear hb14
 generalize wd11.heap.size = g16 at *
 ((with_reducible refine (fnum1 (q ++ putF 9 4 ++ flagB x.opn) x.syms.length (by omega) (by rw [List.length_append, List.length_append]; omega) gw g16 1 (by omega) _ R.out G.out).mono ?_); rintro e wd19 ⟨rfl, hR20, hK21⟩)
 replace X := wH X hK21 (by omega) (by decide)
 replace G := wH G hK21 (by omega) (by decide)
 replace R := Lib.hid hR20
 replace KG := KG.trans hK21
 clear hR20 hK21
 clear G
 obtain ⟨q1, hq1⟩ : ∃ q1, q1 = q ++ putF 9 4 ++ flagB x.opn ++ putF 9 x.syms.length := ⟨_, rfl⟩
 have hql : q1.length ≤ 10000000001000 := by rw [hq1]; simp only [List.length_append]; omega
 rw [← hq1] at R
 have HQ1 := Lib.hid hq1
 clear hq1
 have hR0 := R.out
 have hX0 := X.out
 have cX_5 := X.out.e5
 go_upto_region 12 with fail
 clear cX_5
 go_loopw [47] (fun s47 wr => ∃ k : Nat, k ≤ x.syms.length ∧ s47 = .int .i64 k ∧ WrAt wr gw (q1 ++ (x.syms.take k).flatMap fun s => putF 9 s.1.toNat) ∧ (q1 ++ (x.syms.take k).flatMap fun s => putF 9 s.1.toNat).length ≤ 10000000001000 + k * 10 ∧ WKeep gw w wr ∧ Has wr w.heap.size 71 #[.int .i64 4, .string ⟨x.name.toArray⟩, .int .i64 x.low, .int .i64 x.high, .int .i64 x.max, .slice C1 x.syms.length l1, .slice C2 x.mems.length l2, .int .i64 x.key, .int .i64 x.elem, .bool x.opn]) (fun s47 _ => x.syms.length - (intOf s47).toNat)
 case atStart => exact ⟨0, Nat.zero_le _, rfl, by simpa using hR0, by simpa using hql, KG, hX0⟩
 case round =>
  clear R KG X hR0 hX0
  obtain ⟨k, hkl, rfl, R, hql2, KG, X⟩ := hrel
  replace R := Lib.hid R
  replace X := Lib.hid X
  by_cases hlt : k < x.syms.length
  ·
   obtain ⟨-, A, c, hv, -, hrow⟩ := HT.out.syms
   rcases hrow with hrow | ⟨b, o, rfl, hb, hcell⟩
   ·
    omega
   injection hv with hv1 hv2 hv3
   subst hv1
   subst hv3
   have y0 := hcell (k * 2) (.int .i64 x.syms[k].1) (flat_get rawV_len x.syms k 0 hlt (by omega))
   have y1 := hcell (k * 2 + 1) (.string ⟨x.syms[k].2.toArray⟩) (flat_get rawV_len x.syms k 1 hlt (by omega))
   have hsi := HSM.out _ (List.getElem_mem hlt)
   have htk : (x.syms.take (k + 1)).flatMap (fun s => putF 9 s.1.toNat) = (x.syms.take k).flatMap (fun s => putF 9 s.1.toNat) ++ putF 9 x.syms[k].1.toNat := by
    rw [List.take_add_one, List.flatMap_append, List.getElem?_eq_getElem hlt]; simp
   have HTK := Lib.hid htk
   generalize x.syms[k] = y at *
   obtain ⟨yi, yn⟩ := y
   obtain ⟨u, hu, hun, hul⟩ := nat_to hsi
   simp only at hu hun y0 y1
   subst hu
   have z0 := (KG.low.cell (p := ⟨b, _, none⟩) hb).trans y0
   have z1 : wr.cell? ⟨b, o + k * 2 + 1, none⟩ = some (.string ⟨yn.toArray⟩) := (KG.low.cell (p := ⟨b, _, none⟩) hb).trans y1
   simp only [Int.toNat_natCast] at HTK
   have hpl := putF_len9 u
   have hi1 : (k : Int) < x.syms.length := by omega
   have hd0 : decide ((k : Int) < 0) = false := by simp
   have hd1 : decide (x.syms.length ≤ k) = false := by simpa using hlt
   clear y0 y1 hcell htk hsi hun
   generalize hqk : (q1 ++ (x.syms.take k).flatMap fun s => putF 9 s.1.toNat) = qk at *
   have HQK := Lib.hid hqk
   clear hqk
   go_upto_region 14 with fail
   refine am1 (fun wd23 hb22 S => ?_)
   have hl25 := X.out.here
   have hl26 := KG.size
   replace X := b1 X hb22
   replace R := wB R hb22
   replace KG := wkB KG hb22 (by have := KG.size; omega)
   clear hb22
   generalize wr.heap.size = g24 at *
   clear z0 z1
   have cS_0 := S.out.e0
   go_wp2_with fail
   clear cS_0
   refine amc1 (fun wd28 hb27 G => ?_)
   have hl30 := X.out.here
   have hl31 := S.out.here
   have hl32 := KG.size
   obtain ⟨X, S⟩ := b2 X S hb27
   replace R := wB R hb27
   replace KG := wkB KG hb27 (by have := KG.size; omega)
   clear hb27
   generalize wd23.heap.size = g29 at *
   ((with_reducible refine (fnum1 qk u (by omega) (by omega) gw g29 1 (by omega) _ R.out G.out).mono ?_); rintro e wd33 ⟨rfl, hR34, hK35⟩)
   replace X := wH X hK35 (by omega) (by decide)
   replace S := wH S hK35 (by omega) (by decide)
   replace G := wH G hK35 (by omega) (by decide)
   replace R := Lib.hid hR34
   replace KG := KG.trans hK35
   clear hR34 hK35
   have hfin : Hid (q1 ++ (x.syms.take (k + 1)).flatMap (fun s => putF 9 s.1.toNat) = qk ++ putF 9 u) := by show _ = _; rw [HTK.out, ← List.append_assoc, HQK.out]
   go_wp2_with fail
   go_roundw
   case rel => exact ⟨k + 1, by omega, by go_num, by rw [hfin.out]; exact R.out, by rw [hfin.out, List.length_append]; omega, KG, X.out⟩
   case measure => simp [intOf]; omega
  obtain rfl : k = x.syms.length := by omega
  rw [List.take_of_length_le (Nat.le_refl _), HQ1.out] at R
  have cX_0 := X.out.e0
  go_wp2_with fail
  go_end0
  exact ⟨rfl, by simpa [List.append_assoc] using R.out, KG⟩
set_option maxRecDepth 100000 in
theorem fpf5_any (q : List UInt8) (x : Typ) (vs vm : Value) (hk : x.kind = 5) (ho : FormOK x) (hl : q.length ≤ 10000000000000) (gw : Nat) (w : World) (hw : WrAt w gw q) (ht : TypAt w gw x vs vm) :
  Calls Tryz.prog 47 #[.pointer (some ⟨gw, 0, none⟩), typA x vs vm] w (WPost gw (q ++ singT x) w) := by
 have hs : singT x = putF 9 5 ++ ((putF 9 x.mems.length ++ x.mems.flatMap memB9)) := by unfold singT; simp [hk]
 rw [hs]
 obtain ⟨hsl, hsm⟩ := ho.mems
 have HSM := Lib.hid hsm
 have hfl : (flagB x.opn).length ≤ 10 := putF_len9 _
 have hnl := putF_len9 x.mems.length
 have HT := Lib.hid ht
 clear hsm
 have hgw0 := hw.here
 have R := hw
 have KG := WKeep.refl gw w
 obtain ⟨C1, l1, C2, l2, rfl, rfl, -, -⟩ := ht.forms
 obtain ⟨hi0, hlow, hhigh, hi1, hi2, hi3⟩ := ht.ints
 have HSI := Lib.hid hs
 have hp1 := putF_len9 5
 rw [show typA x (.slice C1 x.syms.length l1) (.slice C2 x.mems.length l2) = .agg #[.int .i64 5, .string ⟨x.name.toArray⟩, .int .i64 x.low, .int .i64 x.high, .int .i64 x.max, .slice C1 x.syms.length l1, .slice C2 x.mems.length l2, .int .i64 x.key, .int .i64 x.elem, .bool x.opn] by unfold typA; rw [hk]]
 clear hw hs hk hi0 hi1 hi2 hi3
 replace R := Lib.hid R
 go_enter Tryz.func47, Tryz.ntmps47
 go_upto_region 1 with fail
 refine am1 (fun wd2 hb1 X => ?_)
 replace R := wB R hb1
 replace KG := wkB KG hb1 (by have := KG.size; omega)
 clear hb1
 have cX_0 := X.out.e0
 go_wp2_with fail
 clear cX_0
 refine amc1 (fun wd4 hb3 G => ?_)
 have hl6 := X.out.here
 have hl7 := KG.size
 replace X := b1 X hb3
 replace R := wB R hb3
 replace KG := wkB KG hb3 (by have := KG.size; omega)
 clear hb3
 generalize wd2.heap.size = g5 at *
 have hG : Has wd4 g5 3 #[.int .i64 ((5 : Nat) : Int)] := G.out
 ((with_reducible refine (fnum1 q 5 (by decide) (by omega) gw g5 1 (by omega) _ R.out hG).mono ?_); rintro e wd8 ⟨rfl, hR9, hK10⟩)
 replace X := wH X hK10 (by omega) (by decide)
 replace G := wH G hK10 (by omega) (by decide)
 replace R := Lib.hid hR9
 replace KG := KG.trans hK10
 clear hR9 hK10
 clear hG
 clear G
 have cX_0 := X.out.e0
 have cX_6 := X.out.e6
 go_wp2_with fail
 clear cX_0 cX_6
 refine amc1 (fun wd12 hb11 G => ?_)
 have hl14 := X.out.here
 have hl15 := KG.size
 replace X := b1 X hb11
 replace R := wB R hb11
 replace KG := wkB KG hb11 (by have := KG.size; omega)
 clear hb11
 generalize wd8.heap.size = g13 at *
 ((with_reducible refine (fnum1 (q ++ putF 9 5) x.mems.length (by omega) (by simp only [List.length_append]; omega) gw g13 1 (by omega) _ R.out G.out).mono ?_); rintro e wd16 ⟨rfl, hR17, hK18⟩)
 replace X := wH X hK18 (by omega) (by decide)
 replace G := wH G hK18 (by omega) (by decide)
 replace R := Lib.hid hR17
 replace KG := KG.trans hK18
 clear hR17 hK18
 clear G
 obtain ⟨q1, hq1⟩ : ∃ q1, q1 = q ++ putF 9 5 ++ putF 9 x.mems.length := ⟨_, rfl⟩
 have hql : q1.length ≤ 10000000001000 := by rw [hq1]; simp only [List.length_append]; omega
 rw [← hq1] at R
 have HQ1 := Lib.hid hq1
 clear hq1
 have hR0 := R.out
 have hX0 := X.out
 have cX_6 := X.out.e6
 go_upto_region 22 with fail
 clear cX_6
 go_loopw [76] (fun s76 wr => ∃ k : Nat, k ≤ x.mems.length ∧ s76 = .int .i64 k ∧ WrAt wr gw (q1 ++ (x.mems.take k).flatMap memB9) ∧ (q1 ++ (x.mems.take k).flatMap memB9).length ≤ 10000000001000 + k * 30 ∧ WKeep gw w wr ∧ Has wr w.heap.size 71 #[.int .i64 5, .string ⟨x.name.toArray⟩, .int .i64 x.low, .int .i64 x.high, .int .i64 x.max, .slice C1 x.syms.length l1, .slice C2 x.mems.length l2, .int .i64 x.key, .int .i64 x.elem, .bool x.opn]) (fun s76 _ => x.mems.length - (intOf s76).toNat)
 case atStart => exact ⟨0, Nat.zero_le _, rfl, by simpa using hR0, by simpa using hql, KG, hX0⟩
 case round =>
  clear R KG X hR0 hX0
  obtain ⟨k, hkl, rfl, R, hql2, KG, X⟩ := hrel
  replace R := Lib.hid R
  replace X := Lib.hid X
  by_cases hlt : k < x.mems.length
  ·
   obtain ⟨b, o, hC2, hb, hel⟩ := HT.out.mems.elem (by omega)
   obtain ⟨dk, di, dr, hcells, hma⟩ := hel k hlt
   subst hC2
   have hmi := HSM.out _ (List.getElem_mem hlt)
   have htk : (x.mems.take (k + 1)).flatMap memB9 = (x.mems.take k).flatMap memB9 ++ memB9 x.mems[k] := by
    rw [List.take_add_one, List.flatMap_append, List.getElem?_eq_getElem hlt]; simp
   have HTK := Lib.hid htk
   generalize x.mems[k] = m at *
   obtain ⟨D1, d1, D2, d2, D3, d3, rfl, rfl, rfl, -, -, -⟩ := hma.dflt.forms
   obtain ⟨u, hu, hun, hul⟩ := nat_to hmi.1
   obtain ⟨v, hv, hvn, hvl⟩ := nat_to hmi.2
   have hmb : memB9 m = putF 9 u ++ (putF 9 (markN m) ++ putF 9 v) := by unfold memB9; rw [hun, hvn]
   rw [hmb] at HTK
   have hmn : markN m ≤ 2 := by unfold markN; split <;> (try split) <;> omega
   have hp1 := putF_len9 u
   have hp2 := putF_len9 v
   have hp3 := putF_len9 (markN m)
   obtain ⟨y0, y1, y2, y3, y4, y5, y6, y7, y8, y9, y10, y11, y12⟩ := hcells
   have x0 := (KG.low.cell (p := ⟨b, _, none⟩) hb).trans y0
   have x1 := (KG.low.cell (p := ⟨b, _, none⟩) hb).trans y1
   have x2 := (KG.low.cell (p := ⟨b, _, none⟩) hb).trans y2
   have x3 := (KG.low.cell (p := ⟨b, _, none⟩) hb).trans y3
   have x4 := (KG.low.cell (p := ⟨b, _, none⟩) hb).trans y4
   have x5 := (KG.low.cell (p := ⟨b, _, none⟩) hb).trans y5
   have x6 := (KG.low.cell (p := ⟨b, _, none⟩) hb).trans y6
   have x7 := (KG.low.cell (p := ⟨b, _, none⟩) hb).trans y7
   have x8 := (KG.low.cell (p := ⟨b, _, none⟩) hb).trans y8
   have x9 := (KG.low.cell (p := ⟨b, _, none⟩) hb).trans y9
   have x10 := (KG.low.cell (p := ⟨b, _, none⟩) hb).trans y10
   have x11 := (KG.low.cell (p := ⟨b, _, none⟩) hb).trans y11
   have x12 := (KG.low.cell (p := ⟨b, _, none⟩) hb).trans y12
   rw [hu] at x0
   rw [hv] at x2
   have hi1 : (k : Int) < x.mems.length := by omega
   have hd0 : decide ((k : Int) < 0) = false := by simp
   have hd1 : decide (x.mems.length ≤ k) = false := by simpa using hlt
   have hmk : ∀ W, Calls Tryz.prog 82 #[.agg #[.int .i64 (u : Nat), .string ⟨m.name.toArray⟩, .int .i64 (v : Nat), .bool m.crit, .bool m.hasDef, .int .i64 m.dflt.kind, .bool m.dflt.bool, .int .i64 m.dflt.num, .string ⟨m.dflt.str.toArray⟩, .int .i64 m.dflt.id, .slice D1 m.dflt.keys.length d1, .slice D2 m.dflt.items.length d2, .slice D3 m.dflt.rest.length d3]] W fun e w' => e = .returned (.int .i64 (markN m : Nat)) ∧ Below W.heap.size W w' := fun W => by
    have h := fmark_any m (.slice D1 m.dflt.keys.length d1) (.slice D2 m.dflt.items.length d2) (.slice D3 m.dflt.rest.length d3) W
    unfold memV valV at h
    rw [hu, hv] at h
    exact h
   have HMK := Lib.hid hmk
   clear y0 y1 y2 y3 y4 y5 y6 y7 y8 y9 y10 y11 y12 hel htk hma hmi hun hvn hmb hmk
   generalize hqk : q1 ++ (x.mems.take k).flatMap memB9 = qk at *
   have HQK := Lib.hid hqk
   clear hqk
   go_upto_region 24 with fail
   refine am1 (fun wd20 hb19 M => ?_)
   have hl22 := X.out.here
   have hl23 := KG.size
   replace X := b1 X hb19
   replace R := wB R hb19
   replace KG := wkB KG hb19 (by have := KG.size; omega)
   clear hb19
   generalize wr.heap.size = g21 at *
   clear x0 x1 x2 x3 x4 x5 x6 x7 x8 x9 x10 x11 x12
   obtain ⟨cM_0, cM_1, cM_2, cM_3, cM_4, cM_5, cM_6, cM_7, cM_8, cM_9, cM_10, cM_11, cM_12⟩ := M.out.c13
   refine wp_region_held_drew (S := (fun w' => w'.cell? ⟨g21, 0, none⟩ = some (.int .i64 (u : Nat)) ∧ w'.cell? ⟨g21, 1, none⟩ = some (.string ⟨m.name.toArray⟩) ∧ w'.cell? ⟨g21, 2, none⟩ = some (.int .i64 (v : Nat)) ∧ w'.cell? ⟨g21, 3, none⟩ = some (.bool m.crit) ∧ w'.cell? ⟨g21, 4, none⟩ = some (.bool m.hasDef) ∧ w'.cell? ⟨g21, 5, none⟩ = some (.int .i64 m.dflt.kind) ∧ w'.cell? ⟨g21, 6, none⟩ = some (.bool m.dflt.bool) ∧ w'.cell? ⟨g21, 7, none⟩ = some (.int .i64 m.dflt.num) ∧ w'.cell? ⟨g21, 8, none⟩ = some (.string ⟨m.dflt.str.toArray⟩) ∧ w'.cell? ⟨g21, 9, none⟩ = some (.int .i64 m.dflt.id) ∧ w'.cell? ⟨g21, 10, none⟩ = some (.slice D1 m.dflt.keys.length d1) ∧ w'.cell? ⟨g21, 11, none⟩ = some (.slice D2 m.dflt.items.length d2) ∧ w'.cell? ⟨g21, 12, none⟩ = some (.slice D3 m.dflt.rest.length d3))) (by kernel_rfl) ⟨cM_0, cM_1, cM_2, cM_3, cM_4, cM_5, cM_6, cM_7, cM_8, cM_9, cM_10, cM_11, cM_12⟩ (fun hHeld => ?_)
   clear cM_0 cM_1 cM_2 cM_3 cM_4 cM_5 cM_6 cM_7 cM_8 cM_9 cM_10 cM_11 cM_12
   have hb24 : Below wd20.heap.size wd20 (wd20.drew) := (Below.refl _ _).drew
   obtain ⟨X, M⟩ := b2 X M hb24
   replace R := wB R hb24
   replace KG := wkB KG hb24 (by have := KG.size; omega)
   clear hb24
   generalize wd20.drew = wd25 at *
   refine tk 0 ?_
   refine tk 1 ?_
   refine tk 2 ?_
   refine tk 3 ?_
   refine tk 5 ?_
   refine tk 6 ?_
   refine rd1 4 fun K hK => ?_
   go_simp
   ((with_reducible refine (HMK.out _).mono ?_); rintro e wd26 ⟨rfl, hb27⟩)
   obtain ⟨X, M⟩ := b2 X M hb27
   replace R := wB R hb27
   replace KG := wkB KG hb27 (by have := KG.size; omega)
   clear hb27
   try clear hHeld
   refine hK.out _ _ (⟨M.out.cell 0, ⟨M.out.cell 1, ⟨M.out.cell 2, ⟨M.out.cell 3, ⟨M.out.cell 4, ⟨M.out.cell 5, ⟨M.out.cell 6, ⟨M.out.cell 7, ⟨M.out.cell 8, ⟨M.out.cell 9, ⟨M.out.cell 10, ⟨M.out.cell 11, M.out.cell 12⟩⟩⟩⟩⟩⟩⟩⟩⟩⟩⟩⟩) (fun hHeld => ?_)
   clear hK K
   refine rd1 7 fun K hK => ?_
   go_simp
   refine am1 (fun wd29 hb28 G => ?_)
   have hl31 := X.out.here
   have hl32 := M.out.here
   have hl33 := KG.size
   obtain ⟨X, M⟩ := b2 X M hb28
   replace R := wB R hb28
   replace KG := wkB KG hb28 (by have := KG.size; omega)
   clear hb28
   generalize wd26.heap.size = g30 at *
   try clear hHeld
   refine hK.out _ _ (⟨M.out.cell 0, ⟨M.out.cell 1, ⟨M.out.cell 2, ⟨M.out.cell 3, ⟨M.out.cell 4, ⟨M.out.cell 5, ⟨M.out.cell 6, ⟨M.out.cell 7, ⟨M.out.cell 8, ⟨M.out.cell 9, ⟨M.out.cell 10, ⟨M.out.cell 11, M.out.cell 12⟩⟩⟩⟩⟩⟩⟩⟩⟩⟩⟩⟩) (fun hHeld => ?_)
   clear hK K
   refine rd1 8 fun K hK => ?_
   go_simp
   ((with_reducible refine (fnum3 qk u (markN m) v (by omega) (by omega) (by omega) (by omega) gw g30 3 (by omega) _ R.out G.out).mono ?_); rintro e wd34 ⟨rfl, hR35, hK36⟩)
   replace X := wH X hK36 (by omega) (by decide)
   replace M := wH M hK36 (by omega) (by decide)
   replace G := wH G hK36 (by omega) (by decide)
   replace R := Lib.hid hR35
   replace KG := KG.trans hK36
   clear hR35 hK36
   try clear hHeld
   refine hK.out _ _ (⟨M.out.cell 0, ⟨M.out.cell 1, ⟨M.out.cell 2, ⟨M.out.cell 3, ⟨M.out.cell 4, ⟨M.out.cell 5, ⟨M.out.cell 6, ⟨M.out.cell 7, ⟨M.out.cell 8, ⟨M.out.cell 9, ⟨M.out.cell 10, ⟨M.out.cell 11, M.out.cell 12⟩⟩⟩⟩⟩⟩⟩⟩⟩⟩⟩⟩) (fun hHeld => ?_)
   clear hK K
   refine wpAnyH_done (by kernel_rfl) ?_ _
   try clear hHeld
   have hfin : Hid (q1 ++ (x.mems.take (k + 1)).flatMap memB9 = qk ++ (putF 9 u ++ (putF 9 (markN m) ++ putF 9 v))) := by show _ = _; rw [HTK.out, ← List.append_assoc, HQK.out]
   have hfl : (qk ++ (putF 9 u ++ (putF 9 (markN m) ++ putF 9 v))).length ≤ 10000000001000 + (k + 1) * 30 := by simp only [List.length_append]; omega
   go_wp2_with fail
   go_roundw
   case rel => exact ⟨k + 1, by omega, by go_num, by rw [hfin.out]; exact R.out, by rw [hfin.out]; exact hfl, KG, X.out⟩
   case measure => simp [intOf]; omega
  obtain rfl : k = x.mems.length := by omega
  rw [List.take_of_length_le (Nat.le_refl _), HQ1.out] at R
  have cX_0 := X.out.e0
  go_wp2_with fail
  go_end0
  exact ⟨rfl, by simpa [List.append_assoc] using R.out, KG⟩
set_option maxRecDepth 100000 in
theorem fpf6_any (q : List UInt8) (x : Typ) (vs vm : Value) (hk : x.kind = 6) (ho : FormOK x) (hl : q.length ≤ 10000000000000) (gw : Nat) (w : World) (hw : WrAt w gw q) (ht : TypAt w gw x vs vm) :
  Calls Tryz.prog 47 #[.pointer (some ⟨gw, 0, none⟩), typA x vs vm] w (WPost gw (q ++ singT x) w) := by
 have hs : singT x = putF 9 6 ++ (flagB x.opn ++ (putF 9 x.mems.length ++ x.mems.flatMap memB9)) := by unfold singT; simp [hk]
 rw [hs]
 obtain ⟨hsl, hsm⟩ := ho.mems
 have HSM := Lib.hid hsm
 have hfl : (flagB x.opn).length ≤ 10 := putF_len9 _
 have hnl := putF_len9 x.mems.length
 have HT := Lib.hid ht
 clear hsm
 have hgw0 := hw.here
 have R := hw
 have KG := WKeep.refl gw w
 obtain ⟨C1, l1, C2, l2, rfl, rfl, -, -⟩ := ht.forms
 obtain ⟨hi0, hlow, hhigh, hi1, hi2, hi3⟩ := ht.ints
 have HSI := Lib.hid hs
 have hp1 := putF_len9 6
 rw [show typA x (.slice C1 x.syms.length l1) (.slice C2 x.mems.length l2) = .agg #[.int .i64 6, .string ⟨x.name.toArray⟩, .int .i64 x.low, .int .i64 x.high, .int .i64 x.max, .slice C1 x.syms.length l1, .slice C2 x.mems.length l2, .int .i64 x.key, .int .i64 x.elem, .bool x.opn] by unfold typA; rw [hk]]
 clear hw hs hk hi0 hi1 hi2 hi3
 replace R := Lib.hid R
 go_enter Tryz.func47, Tryz.ntmps47
 go_upto_region 1 with fail
 refine am1 (fun wd2 hb1 X => ?_)
 replace R := wB R hb1
 replace KG := wkB KG hb1 (by have := KG.size; omega)
 clear hb1
 have cX_0 := X.out.e0
 go_wp2_with fail
 clear cX_0
 refine amc1 (fun wd4 hb3 G => ?_)
 have hl6 := X.out.here
 have hl7 := KG.size
 replace X := b1 X hb3
 replace R := wB R hb3
 replace KG := wkB KG hb3 (by have := KG.size; omega)
 clear hb3
 generalize wd2.heap.size = g5 at *
 have hG : Has wd4 g5 3 #[.int .i64 ((6 : Nat) : Int)] := G.out
 ((with_reducible refine (fnum1 q 6 (by decide) (by omega) gw g5 1 (by omega) _ R.out hG).mono ?_); rintro e wd8 ⟨rfl, hR9, hK10⟩)
 replace X := wH X hK10 (by omega) (by decide)
 replace G := wH G hK10 (by omega) (by decide)
 replace R := Lib.hid hR9
 replace KG := KG.trans hK10
 clear hR9 hK10
 clear hG
 clear G
 have cX_0 := X.out.e0
 have cX_9 := X.out.e9
 go_wp2_with fail
 clear cX_0 cX_9
 ((with_reducible refine (fflag_any (q ++ putF 9 6) x.opn (by rw [List.length_append]; omega) gw _ R.out).mono ?_); rintro e wd11 ⟨rfl, hR12, hK13⟩)
 replace X := wH X hK13 (by omega) (by decide)
 replace R := Lib.hid hR12
 replace KG := KG.trans hK13
 clear hR12 hK13
 have cX_6 := X.out.e6
 go_wp2_with fail
 clear cX_6
 refine amc1 (fun wd15 hb14 G => ?_)
 have hl17 := X.out.here
 have hl18 := KG.size
 replace X := b1 X hb14
 replace R := wB R hb14
 replace KG := wkB KG hb14 (by have := KG.size; omega)
 clear hb14
 generalize wd11.heap.size = g16 at *
 ((with_reducible refine (fnum1 (q ++ putF 9 6 ++ flagB x.opn) x.mems.length (by omega) (by simp only [List.length_append]; omega) gw g16 1 (by omega) _ R.out G.out).mono ?_); rintro e wd19 ⟨rfl, hR20, hK21⟩)
 replace X := wH X hK21 (by omega) (by decide)
 replace G := wH G hK21 (by omega) (by decide)
 replace R := Lib.hid hR20
 replace KG := KG.trans hK21
 clear hR20 hK21
 clear G
 obtain ⟨q1, hq1⟩ : ∃ q1, q1 = q ++ putF 9 6 ++ flagB x.opn ++ putF 9 x.mems.length := ⟨_, rfl⟩
 have hql : q1.length ≤ 10000000001000 := by rw [hq1]; simp only [List.length_append]; omega
 rw [← hq1] at R
 have HQ1 := Lib.hid hq1
 clear hq1
 have hR0 := R.out
 have hX0 := X.out
 have cX_6 := X.out.e6
 go_upto_region 22 with fail
 clear cX_6
 go_loopw [76] (fun s76 wr => ∃ k : Nat, k ≤ x.mems.length ∧ s76 = .int .i64 k ∧ WrAt wr gw (q1 ++ (x.mems.take k).flatMap memB9) ∧ (q1 ++ (x.mems.take k).flatMap memB9).length ≤ 10000000001000 + k * 30 ∧ WKeep gw w wr ∧ Has wr w.heap.size 71 #[.int .i64 6, .string ⟨x.name.toArray⟩, .int .i64 x.low, .int .i64 x.high, .int .i64 x.max, .slice C1 x.syms.length l1, .slice C2 x.mems.length l2, .int .i64 x.key, .int .i64 x.elem, .bool x.opn]) (fun s76 _ => x.mems.length - (intOf s76).toNat)
 case atStart => exact ⟨0, Nat.zero_le _, rfl, by simpa using hR0, by simpa using hql, KG, hX0⟩
 case round =>
  clear R KG X hR0 hX0
  obtain ⟨k, hkl, rfl, R, hql2, KG, X⟩ := hrel
  replace R := Lib.hid R
  replace X := Lib.hid X
  by_cases hlt : k < x.mems.length
  ·
   obtain ⟨b, o, hC2, hb, hel⟩ := HT.out.mems.elem (by omega)
   obtain ⟨dk, di, dr, hcells, hma⟩ := hel k hlt
   subst hC2
   have hmi := HSM.out _ (List.getElem_mem hlt)
   have htk : (x.mems.take (k + 1)).flatMap memB9 = (x.mems.take k).flatMap memB9 ++ memB9 x.mems[k] := by
    rw [List.take_add_one, List.flatMap_append, List.getElem?_eq_getElem hlt]; simp
   have HTK := Lib.hid htk
   generalize x.mems[k] = m at *
   obtain ⟨D1, d1, D2, d2, D3, d3, rfl, rfl, rfl, -, -, -⟩ := hma.dflt.forms
   obtain ⟨u, hu, hun, hul⟩ := nat_to hmi.1
   obtain ⟨v, hv, hvn, hvl⟩ := nat_to hmi.2
   have hmb : memB9 m = putF 9 u ++ (putF 9 (markN m) ++ putF 9 v) := by unfold memB9; rw [hun, hvn]
   rw [hmb] at HTK
   have hmn : markN m ≤ 2 := by unfold markN; split <;> (try split) <;> omega
   have hp1 := putF_len9 u
   have hp2 := putF_len9 v
   have hp3 := putF_len9 (markN m)
   obtain ⟨y0, y1, y2, y3, y4, y5, y6, y7, y8, y9, y10, y11, y12⟩ := hcells
   have x0 := (KG.low.cell (p := ⟨b, _, none⟩) hb).trans y0
   have x1 := (KG.low.cell (p := ⟨b, _, none⟩) hb).trans y1
   have x2 := (KG.low.cell (p := ⟨b, _, none⟩) hb).trans y2
   have x3 := (KG.low.cell (p := ⟨b, _, none⟩) hb).trans y3
   have x4 := (KG.low.cell (p := ⟨b, _, none⟩) hb).trans y4
   have x5 := (KG.low.cell (p := ⟨b, _, none⟩) hb).trans y5
   have x6 := (KG.low.cell (p := ⟨b, _, none⟩) hb).trans y6
   have x7 := (KG.low.cell (p := ⟨b, _, none⟩) hb).trans y7
   have x8 := (KG.low.cell (p := ⟨b, _, none⟩) hb).trans y8
   have x9 := (KG.low.cell (p := ⟨b, _, none⟩) hb).trans y9
   have x10 := (KG.low.cell (p := ⟨b, _, none⟩) hb).trans y10
   have x11 := (KG.low.cell (p := ⟨b, _, none⟩) hb).trans y11
   have x12 := (KG.low.cell (p := ⟨b, _, none⟩) hb).trans y12
   rw [hu] at x0
   rw [hv] at x2
   have hi1 : (k : Int) < x.mems.length := by omega
   have hd0 : decide ((k : Int) < 0) = false := by simp
   have hd1 : decide (x.mems.length ≤ k) = false := by simpa using hlt
   have hmk : ∀ W, Calls Tryz.prog 82 #[.agg #[.int .i64 (u : Nat), .string ⟨m.name.toArray⟩, .int .i64 (v : Nat), .bool m.crit, .bool m.hasDef, .int .i64 m.dflt.kind, .bool m.dflt.bool, .int .i64 m.dflt.num, .string ⟨m.dflt.str.toArray⟩, .int .i64 m.dflt.id, .slice D1 m.dflt.keys.length d1, .slice D2 m.dflt.items.length d2, .slice D3 m.dflt.rest.length d3]] W fun e w' => e = .returned (.int .i64 (markN m : Nat)) ∧ Below W.heap.size W w' := fun W => by
    have h := fmark_any m (.slice D1 m.dflt.keys.length d1) (.slice D2 m.dflt.items.length d2) (.slice D3 m.dflt.rest.length d3) W
    unfold memV valV at h
    rw [hu, hv] at h
    exact h
   have HMK := Lib.hid hmk
   clear y0 y1 y2 y3 y4 y5 y6 y7 y8 y9 y10 y11 y12 hel htk hma hmi hun hvn hmb hmk
   generalize hqk : q1 ++ (x.mems.take k).flatMap memB9 = qk at *
   have HQK := Lib.hid hqk
   clear hqk
   go_upto_region 24 with fail
   refine am1 (fun wd23 hb22 M => ?_)
   have hl25 := X.out.here
   have hl26 := KG.size
   replace X := b1 X hb22
   replace R := wB R hb22
   replace KG := wkB KG hb22 (by have := KG.size; omega)
   clear hb22
   generalize wr.heap.size = g24 at *
   clear x0 x1 x2 x3 x4 x5 x6 x7 x8 x9 x10 x11 x12
   obtain ⟨cM_0, cM_1, cM_2, cM_3, cM_4, cM_5, cM_6, cM_7, cM_8, cM_9, cM_10, cM_11, cM_12⟩ := M.out.c13
   refine wp_region_held_drew (S := (fun w' => w'.cell? ⟨g24, 0, none⟩ = some (.int .i64 (u : Nat)) ∧ w'.cell? ⟨g24, 1, none⟩ = some (.string ⟨m.name.toArray⟩) ∧ w'.cell? ⟨g24, 2, none⟩ = some (.int .i64 (v : Nat)) ∧ w'.cell? ⟨g24, 3, none⟩ = some (.bool m.crit) ∧ w'.cell? ⟨g24, 4, none⟩ = some (.bool m.hasDef) ∧ w'.cell? ⟨g24, 5, none⟩ = some (.int .i64 m.dflt.kind) ∧ w'.cell? ⟨g24, 6, none⟩ = some (.bool m.dflt.bool) ∧ w'.cell? ⟨g24, 7, none⟩ = some (.int .i64 m.dflt.num) ∧ w'.cell? ⟨g24, 8, none⟩ = some (.string ⟨m.dflt.str.toArray⟩) ∧ w'.cell? ⟨g24, 9, none⟩ = some (.int .i64 m.dflt.id) ∧ w'.cell? ⟨g24, 10, none⟩ = some (.slice D1 m.dflt.keys.length d1) ∧ w'.cell? ⟨g24, 11, none⟩ = some (.slice D2 m.dflt.items.length d2) ∧ w'.cell? ⟨g24, 12, none⟩ = some (.slice D3 m.dflt.rest.length d3))) (by kernel_rfl) ⟨cM_0, cM_1, cM_2, cM_3, cM_4, cM_5, cM_6, cM_7, cM_8, cM_9, cM_10, cM_11, cM_12⟩ (fun hHeld => ?_)
   clear cM_0 cM_1 cM_2 cM_3 cM_4 cM_5 cM_6 cM_7 cM_8 cM_9 cM_10 cM_11 cM_12
   have hb27 : Below wd23.heap.size wd23 (wd23.drew) := (Below.refl _ _).drew
   obtain ⟨X, M⟩ := b2 X M hb27
   replace R := wB R hb27
   replace KG := wkB KG hb27 (by have := KG.size; omega)
   clear hb27
   generalize wd23.drew = wd28 at *
   refine tk 0 ?_
   refine tk 1 ?_
   refine tk 2 ?_
   refine tk 3 ?_
   refine tk 5 ?_
   refine tk 6 ?_
   refine rd1 4 fun K hK => ?_
   go_simp
   ((with_reducible refine (HMK.out _).mono ?_); rintro e wd29 ⟨rfl, hb30⟩)
   obtain ⟨X, M⟩ := b2 X M hb30
   replace R := wB R hb30
   replace KG := wkB KG hb30 (by have := KG.size; omega)
   clear hb30
   try clear hHeld
   refine hK.out _ _ (⟨M.out.cell 0, ⟨M.out.cell 1, ⟨M.out.cell 2, ⟨M.out.cell 3, ⟨M.out.cell 4, ⟨M.out.cell 5, ⟨M.out.cell 6, ⟨M.out.cell 7, ⟨M.out.cell 8, ⟨M.out.cell 9, ⟨M.out.cell 10, ⟨M.out.cell 11, M.out.cell 12⟩⟩⟩⟩⟩⟩⟩⟩⟩⟩⟩⟩) (fun hHeld => ?_)
   clear hK K
   refine rd1 7 fun K hK => ?_
   go_simp
   refine am1 (fun wd32 hb31 G => ?_)
   have hl34 := X.out.here
   have hl35 := M.out.here
   have hl36 := KG.size
   obtain ⟨X, M⟩ := b2 X M hb31
   replace R := wB R hb31
   replace KG := wkB KG hb31 (by have := KG.size; omega)
   clear hb31
   generalize wd29.heap.size = g33 at *
   try clear hHeld
   refine hK.out _ _ (⟨M.out.cell 0, ⟨M.out.cell 1, ⟨M.out.cell 2, ⟨M.out.cell 3, ⟨M.out.cell 4, ⟨M.out.cell 5, ⟨M.out.cell 6, ⟨M.out.cell 7, ⟨M.out.cell 8, ⟨M.out.cell 9, ⟨M.out.cell 10, ⟨M.out.cell 11, M.out.cell 12⟩⟩⟩⟩⟩⟩⟩⟩⟩⟩⟩⟩) (fun hHeld => ?_)
   clear hK K
   refine rd1 8 fun K hK => ?_
   go_simp
   ((with_reducible refine (fnum3 qk u (markN m) v (by omega) (by omega) (by omega) (by omega) gw g33 3 (by omega) _ R.out G.out).mono ?_); rintro e wd37 ⟨rfl, hR38, hK39⟩)
   replace X := wH X hK39 (by omega) (by decide)
   replace M := wH M hK39 (by omega) (by decide)
   replace G := wH G hK39 (by omega) (by decide)
   replace R := Lib.hid hR38
   replace KG := KG.trans hK39
   clear hR38 hK39
   try clear hHeld
   refine hK.out _ _ (⟨M.out.cell 0, ⟨M.out.cell 1, ⟨M.out.cell 2, ⟨M.out.cell 3, ⟨M.out.cell 4, ⟨M.out.cell 5, ⟨M.out.cell 6, ⟨M.out.cell 7, ⟨M.out.cell 8, ⟨M.out.cell 9, ⟨M.out.cell 10, ⟨M.out.cell 11, M.out.cell 12⟩⟩⟩⟩⟩⟩⟩⟩⟩⟩⟩⟩) (fun hHeld => ?_)
   clear hK K
   refine wpAnyH_done (by kernel_rfl) ?_ _
   try clear hHeld
   have hfin : Hid (q1 ++ (x.mems.take (k + 1)).flatMap memB9 = qk ++ (putF 9 u ++ (putF 9 (markN m) ++ putF 9 v))) := by show _ = _; rw [HTK.out, ← List.append_assoc, HQK.out]
   have hfl : (qk ++ (putF 9 u ++ (putF 9 (markN m) ++ putF 9 v))).length ≤ 10000000001000 + (k + 1) * 30 := by simp only [List.length_append]; omega
   go_wp2_with fail
   go_roundw
   case rel => exact ⟨k + 1, by omega, by go_num, by rw [hfin.out]; exact R.out, by rw [hfin.out]; exact hfl, KG, X.out⟩
   case measure => simp [intOf]; omega
  obtain rfl : k = x.mems.length := by omega
  rw [List.take_of_length_le (Nat.le_refl _), HQ1.out] at R
  have cX_0 := X.out.e0
  go_wp2_with fail
  go_end0
  exact ⟨rfl, by simpa [List.append_assoc] using R.out, KG⟩
end Go.Proofs.YtlamhkffnlgofaaGreatDoor

/- What schema.form computes. No condition. -/
import Derived.Test.YtlamhkffnlgofaaGreatDoorMembers
import Derived.Test.YtlamhkffnlgofaaGreatDoorHAH
set_option maxHeartbeats 4000000
namespace Go.Proofs.YtlamhkffnlgofaaGreatDoor
open Go.ChangeShapes Go.WideShapes Go.ChangeAt Go.RowKit
def typZ : Typ := { kind := 0, name := [], low := 0, high := 0, max := 0, syms := [], mems := [], key := 0, elem := 0, opn := false }
def restT (x : Typ) : Typ :=
 if x.kind = 2 then { x with kind := 0, low := 0, high := 0 }
 else if x.kind = 3 then { x with kind := 0, max := 0 }
 else if x.kind = 4 then { x with kind := 0, name := [], syms := [], opn := false }
 else if x.kind = 5 then { x with kind := 0, name := [], mems := [] }
 else if x.kind = 6 then { x with kind := 0, name := [], mems := [], opn := false }
 else if x.kind = 7 then { x with kind := 0, max := 0, elem := 0 }
 else if x.kind = 8 then { x with kind := 0, max := 0, elem := 0, key := 0 }
 else if x.kind = 9 then { x with kind := 0, elem := 0 }
 else { x with kind := 0 }
def okT (x : Typ) : Bool :=
 if x.kind = 2 then decide (x.low ≤ x.high)
 else if x.kind = 3 then decide (0 ≤ x.max) && decide (x.max ≤ 200)
 else if x.kind = 4 then nameB x.name && symB x.syms
 else if x.kind = 5 ∨ x.kind = 6 then nameB x.name && membersB x
 else if x.kind = 7 ∨ x.kind = 8 then decide (0 ≤ x.max) && decide (x.max ≤ 50)
 else true
def formB (x : Typ) : Bool := decide (1 ≤ x.kind ∧ x.kind ≤ 9) && (okT x && sameZ (restT x) typZ)
theorem form_of (x : Typ) (h : KindIn x.kind) : formB x = (okT x && sameZ (restT x) typZ) := by
 unfold formB KindIn at *; rw [decide_eq_true h]; rfl
set_option maxRecDepth 100000 in
theorem form1_any (x : Typ) (A1 A2 : Option Addr) (c1 c2 : Nat) (w : World) (h : x.kind = 1) (_ : x.syms.length ≤ 6000000000000 ∧ x.mems.length ≤ 6000000000000) (_ : TypAt w w.heap.size x (.slice A1 x.syms.length c1) (.slice A2 x.mems.length c2)) :
  Calls Tryz.prog 96 #[typA x (.slice A1 x.syms.length c1) (.slice A2 x.mems.length c2)] w fun e w' => e = .returned (.bool (formB x)) ∧ Below w.heap.size w w' := by
 have hrt : restT x = { x with kind := 0 } := by unfold restT; simp [h]
 have hf := form_of x (by rw [h]; unfold KindIn; omega)
 have hc : ∀ W, Calls Tryz.prog 120 #[.agg #[.int .i64 0, .string ⟨x.name.toArray⟩, .int .i64 x.low, .int .i64 x.high, .int .i64 x.max, .slice A1 x.syms.length c1, .slice A2 x.mems.length c2, .int .i64 x.key, .int .i64 x.elem, .bool x.opn], .agg #[.int .i64 0, .string ⟨#[]⟩, .int .i64 0, .int .i64 0, .int .i64 0, .slice none 0 0, .slice none 0 0, .int .i64 0, .int .i64 0, .bool false]] W fun e w' => e = .returned (.bool (sameZ (restT x) typZ)) ∧ Below W.heap.size W w' := fun W => by
  rw [hrt]
  exact equalz_any ({ x with kind := 0 } : Typ) typZ A1 A2 c1 c2 W
 have hok : okT x = true := by unfold okT; simp [h]
 rw [hok] at hf
 have HC := Lib.hid hc
 clear hc hok hrt
 simp only [typA, h]
 go_enter Tryz.func96, Tryz.ntmps96
 go_upto_region 1 with fail
 refine am1 (fun wd2 hb1 T => ?_)
 have hw3 := hb1
 clear hb1
 obtain ⟨cT_0, cT_1, cT_2, cT_3, cT_4, cT_5, cT_6, cT_7, cT_8, cT_9⟩ := T.out.c10
 go_upto_region 2 with fail
 clear cT_0 cT_1 cT_2 cT_3 cT_4 cT_5 cT_6 cT_7 cT_8 cT_9
 refine am1 (fun wd5 hb4 R => ?_)
 have hl7 := T.out.here
 have hl8 := hw3.size
 replace T := b1 T hb4
 replace hw3 := dT hw3 hb4
 clear hb4
 generalize wd2.heap.size = g6 at *
 have cR_0 := R.out.e0
 have fR_0 := R.out.free 0
 go_upto_region 3 with fail
 clear cR_0 fR_0
 generalize hE10 : wd5.setCell _ _ = wd9
 replace T := f1 T (eF hE10)
 replace R := dS0 R hE10
 replace hw3 := tf hw3 hE10
 clear hE10
 obtain ⟨cT_0, cT_1, cT_2, cT_3, cT_4, cT_5, cT_6, cT_7, cT_8, cT_9⟩ := T.out.c10
 have Hf : Hid (formB x = sameZ (restT x) typZ) := by show _ = _; rw [hf]; rfl
 clear hf h
 go_upto_region 29 with fail
 obtain ⟨cR_0, cR_1, cR_2, cR_3, cR_4, cR_5, cR_6, cR_7, cR_8, cR_9⟩ := R.out.c10
 go_wp2_with fail
 clear cT_0 cT_1 cT_2 cT_3 cT_4 cT_5 cT_6 cT_7 cT_8 cT_9 cR_0 cR_1 cR_2 cR_3 cR_4 cR_5 cR_6 cR_7 cR_8 cR_9
 ((with_reducible refine (HC.out _).mono ?_); rintro e wd11 ⟨rfl, hb12⟩)
 obtain ⟨T, R⟩ := b2 T R hb12
 replace hw3 := dT hw3 hb12
 clear hb12
 go_wp2_with fail
 go_ret
 exact ⟨ret_bool Hf.out.symm, hw3⟩
set_option maxRecDepth 100000 in
theorem form2_any (x : Typ) (A1 A2 : Option Addr) (c1 c2 : Nat) (w : World) (h : x.kind = 2) (_ : x.syms.length ≤ 6000000000000 ∧ x.mems.length ≤ 6000000000000) (_ : TypAt w w.heap.size x (.slice A1 x.syms.length c1) (.slice A2 x.mems.length c2)) :
  Calls Tryz.prog 96 #[typA x (.slice A1 x.syms.length c1) (.slice A2 x.mems.length c2)] w fun e w' => e = .returned (.bool (formB x)) ∧ Below w.heap.size w w' := by
 have hrt : restT x = { x with kind := 0, low := 0, high := 0 } := by unfold restT; simp [h]
 have hf := form_of x (by rw [h]; unfold KindIn; omega)
 have hc : ∀ W, Calls Tryz.prog 120 #[.agg #[.int .i64 0, .string ⟨x.name.toArray⟩, .int .i64 0, .int .i64 0, .int .i64 x.max, .slice A1 x.syms.length c1, .slice A2 x.mems.length c2, .int .i64 x.key, .int .i64 x.elem, .bool x.opn], .agg #[.int .i64 0, .string ⟨#[]⟩, .int .i64 0, .int .i64 0, .int .i64 0, .slice none 0 0, .slice none 0 0, .int .i64 0, .int .i64 0, .bool false]] W fun e w' => e = .returned (.bool (sameZ (restT x) typZ)) ∧ Below W.heap.size W w' := fun W => by
  rw [hrt]
  exact equalz_any ({ x with kind := 0, low := 0, high := 0 } : Typ) typZ A1 A2 c1 c2 W
 have hok : okT x = decide (x.low ≤ x.high) := by unfold okT; simp [h]
 rw [hok] at hf
 have HC := Lib.hid hc
 clear hc hok hrt
 simp only [typA, h]
 go_enter Tryz.func96, Tryz.ntmps96
 go_upto_region 1 with fail
 refine am1 (fun wd2 hb1 T => ?_)
 have hw3 := hb1
 clear hb1
 obtain ⟨cT_0, cT_1, cT_2, cT_3, cT_4, cT_5, cT_6, cT_7, cT_8, cT_9⟩ := T.out.c10
 go_upto_region 2 with fail
 clear cT_0 cT_1 cT_2 cT_3 cT_4 cT_5 cT_6 cT_7 cT_8 cT_9
 refine am1 (fun wd5 hb4 R => ?_)
 have hl7 := T.out.here
 have hl8 := hw3.size
 replace T := b1 T hb4
 replace hw3 := dT hw3 hb4
 clear hb4
 generalize wd2.heap.size = g6 at *
 have cR_0 := R.out.e0
 have fR_0 := R.out.free 0
 go_upto_region 3 with fail
 clear cR_0 fR_0
 generalize hE10 : wd5.setCell _ _ = wd9
 replace T := f1 T (eF hE10)
 replace R := dS0 R hE10
 replace hw3 := tf hw3 hE10
 clear hE10
 obtain ⟨cT_0, cT_1, cT_2, cT_3, cT_4, cT_5, cT_6, cT_7, cT_8, cT_9⟩ := T.out.c10
 by_cases hlo : x.low ≤ x.high
 ·
  have hd : decide (x.low ≤ x.high) = true := decide_eq_true hlo
  have Hf : Hid (formB x = sameZ (restT x) typZ) := by show _ = _; rw [hf, hd]; rfl
  clear hf h
  have cR_2 := R.out.e2
  have cR_3 := R.out.e3
  have fR_2 := R.out.free 2
  have fR_3 := R.out.free 3
  go_upto_region 29 with fail
  clear cT_0 cT_1 cT_2 cT_3 cT_4 cT_5 cT_6 cT_7 cT_8 cT_9 cR_2 cR_3 fR_2 fR_3
  generalize hE12 : wd9.setCell _ _ = wd11
  replace T := f1 T (eF hE12)
  replace R := dS2 R hE12
  replace hw3 := tf hw3 hE12
  clear hE12
  generalize hE14 : wd11.setCell _ _ = wd13
  replace T := f1 T (eF hE14)
  replace R := dS3 R hE14
  replace hw3 := tf hw3 hE14
  clear hE14
  obtain ⟨cR_0, cR_1, cR_2, cR_3, cR_4, cR_5, cR_6, cR_7, cR_8, cR_9⟩ := R.out.c10
  go_wp2_with fail
  clear cR_0 cR_1 cR_2 cR_3 cR_4 cR_5 cR_6 cR_7 cR_8 cR_9
  ((with_reducible refine (HC.out _).mono ?_); rintro e wd15 ⟨rfl, hb16⟩)
  obtain ⟨T, R⟩ := b2 T R hb16
  replace hw3 := dT hw3 hb16
  clear hb16
  go_wp2_with fail
  go_ret
  exact ⟨ret_bool Hf.out.symm, hw3⟩
 have hd : decide (x.low ≤ x.high) = false := decide_eq_false hlo
 have Hf : Hid (formB x = false) := by show _ = _; rw [hf, hd]; rfl
 clear hf h
 have cR_2 := R.out.e2
 have cR_3 := R.out.e3
 have fR_2 := R.out.free 2
 have fR_3 := R.out.free 3
 go_upto_region 29 with fail
 clear cT_0 cT_1 cT_2 cT_3 cT_4 cT_5 cT_6 cT_7 cT_8 cT_9 cR_2 cR_3 fR_2 fR_3
 generalize hE12 : wd9.setCell _ _ = wd11
 replace T := f1 T (eF hE12)
 replace R := dS2 R hE12
 replace hw3 := tf hw3 hE12
 clear hE12
 generalize hE14 : wd11.setCell _ _ = wd13
 replace T := f1 T (eF hE14)
 replace R := dS3 R hE14
 replace hw3 := tf hw3 hE14
 clear hE14
 obtain ⟨cR_0, cR_1, cR_2, cR_3, cR_4, cR_5, cR_6, cR_7, cR_8, cR_9⟩ := R.out.c10
 go_wp2_with fail
 go_ret
 exact ⟨ret_bool Hf.out.symm, hw3⟩
set_option maxRecDepth 100000 in
theorem form3_any (x : Typ) (A1 A2 : Option Addr) (c1 c2 : Nat) (w : World) (h : x.kind = 3) (_ : x.syms.length ≤ 6000000000000 ∧ x.mems.length ≤ 6000000000000) (_ : TypAt w w.heap.size x (.slice A1 x.syms.length c1) (.slice A2 x.mems.length c2)) :
  Calls Tryz.prog 96 #[typA x (.slice A1 x.syms.length c1) (.slice A2 x.mems.length c2)] w fun e w' => e = .returned (.bool (formB x)) ∧ Below w.heap.size w w' := by
 have hrt : restT x = { x with kind := 0, max := 0 } := by unfold restT; simp [h]
 have hf := form_of x (by rw [h]; unfold KindIn; omega)
 have hc : ∀ W, Calls Tryz.prog 120 #[.agg #[.int .i64 0, .string ⟨x.name.toArray⟩, .int .i64 x.low, .int .i64 x.high, .int .i64 0, .slice A1 x.syms.length c1, .slice A2 x.mems.length c2, .int .i64 x.key, .int .i64 x.elem, .bool x.opn], .agg #[.int .i64 0, .string ⟨#[]⟩, .int .i64 0, .int .i64 0, .int .i64 0, .slice none 0 0, .slice none 0 0, .int .i64 0, .int .i64 0, .bool false]] W fun e w' => e = .returned (.bool (sameZ (restT x) typZ)) ∧ Below W.heap.size W w' := fun W => by
  rw [hrt]
  exact equalz_any ({ x with kind := 0, max := 0 } : Typ) typZ A1 A2 c1 c2 W
 have hok : okT x = (decide (0 ≤ x.max) && decide (x.max ≤ 200)) := by unfold okT; simp [h]
 rw [hok] at hf
 have HC := Lib.hid hc
 clear hc hok hrt
 simp only [typA, h]
 go_enter Tryz.func96, Tryz.ntmps96
 go_upto_region 1 with fail
 refine am1 (fun wd2 hb1 T => ?_)
 have hw3 := hb1
 clear hb1
 obtain ⟨cT_0, cT_1, cT_2, cT_3, cT_4, cT_5, cT_6, cT_7, cT_8, cT_9⟩ := T.out.c10
 go_upto_region 2 with fail
 clear cT_0 cT_1 cT_2 cT_3 cT_4 cT_5 cT_6 cT_7 cT_8 cT_9
 refine am1 (fun wd5 hb4 R => ?_)
 have hl7 := T.out.here
 have hl8 := hw3.size
 replace T := b1 T hb4
 replace hw3 := dT hw3 hb4
 clear hb4
 generalize wd2.heap.size = g6 at *
 have cR_0 := R.out.e0
 have fR_0 := R.out.free 0
 go_upto_region 3 with fail
 clear cR_0 fR_0
 generalize hE10 : wd5.setCell _ _ = wd9
 replace T := f1 T (eF hE10)
 replace R := dS0 R hE10
 replace hw3 := tf hw3 hE10
 clear hE10
 obtain ⟨cT_0, cT_1, cT_2, cT_3, cT_4, cT_5, cT_6, cT_7, cT_8, cT_9⟩ := T.out.c10
 by_cases hlo : 0 ≤ x.max
 ·
  have hd : decide (0 ≤ x.max) = true := decide_eq_true hlo
  by_cases hhi : x.max ≤ 200
  ·
   have hd2 : decide (x.max ≤ 200) = true := decide_eq_true hhi
   have Hf : Hid (formB x = sameZ (restT x) typZ) := by show _ = _; rw [hf, hd, hd2]; rfl
   clear hf h
   have cR_4 := R.out.e4
   have fR_4 := R.out.free 4
   go_upto_region 29 with fail
   clear cT_0 cT_1 cT_2 cT_3 cT_4 cT_5 cT_6 cT_7 cT_8 cT_9 cR_4 fR_4
   generalize hE12 : wd9.setCell _ _ = wd11
   replace T := f1 T (eF hE12)
   replace R := dS4 R hE12
   replace hw3 := tf hw3 hE12
   clear hE12
   obtain ⟨cR_0, cR_1, cR_2, cR_3, cR_4, cR_5, cR_6, cR_7, cR_8, cR_9⟩ := R.out.c10
   go_wp2_with fail
   clear cR_0 cR_1 cR_2 cR_3 cR_4 cR_5 cR_6 cR_7 cR_8 cR_9
   ((with_reducible refine (HC.out _).mono ?_); rintro e wd13 ⟨rfl, hb14⟩)
   obtain ⟨T, R⟩ := b2 T R hb14
   replace hw3 := dT hw3 hb14
   clear hb14
   go_wp2_with fail
   go_ret
   exact ⟨ret_bool Hf.out.symm, hw3⟩
  have hd2 : decide (x.max ≤ 200) = false := decide_eq_false hhi
  have Hf : Hid (formB x = false) := by show _ = _; rw [hf, hd, hd2]; rfl
  clear hf h
  have cR_4 := R.out.e4
  have fR_4 := R.out.free 4
  go_upto_region 29 with fail
  clear cT_0 cT_1 cT_2 cT_3 cT_4 cT_5 cT_6 cT_7 cT_8 cT_9 cR_4 fR_4
  generalize hE12 : wd9.setCell _ _ = wd11
  replace T := f1 T (eF hE12)
  replace R := dS4 R hE12
  replace hw3 := tf hw3 hE12
  clear hE12
  obtain ⟨cR_0, cR_1, cR_2, cR_3, cR_4, cR_5, cR_6, cR_7, cR_8, cR_9⟩ := R.out.c10
  go_wp2_with fail
  go_ret
  exact ⟨ret_bool Hf.out.symm, hw3⟩
 have hd : decide (0 ≤ x.max) = false := decide_eq_false hlo
 have Hf : Hid (formB x = false) := by show _ = _; rw [hf, hd]; rfl
 clear hf h
 have cR_4 := R.out.e4
 have fR_4 := R.out.free 4
 go_upto_region 29 with fail
 clear cT_0 cT_1 cT_2 cT_3 cT_4 cT_5 cT_6 cT_7 cT_8 cT_9 cR_4 fR_4
 generalize hE12 : wd9.setCell _ _ = wd11
 replace T := f1 T (eF hE12)
 replace R := dS4 R hE12
 replace hw3 := tf hw3 hE12
 clear hE12
 obtain ⟨cR_0, cR_1, cR_2, cR_3, cR_4, cR_5, cR_6, cR_7, cR_8, cR_9⟩ := R.out.c10
 go_wp2_with fail
 go_ret
 exact ⟨ret_bool Hf.out.symm, hw3⟩
set_option maxRecDepth 100000 in
theorem form4_any (x : Typ) (A1 A2 : Option Addr) (c1 c2 : Nat) (w : World) (h : x.kind = 4) (hl : x.syms.length ≤ 6000000000000 ∧ x.mems.length ≤ 6000000000000) (ht : TypAt w w.heap.size x (.slice A1 x.syms.length c1) (.slice A2 x.mems.length c2)) :
  Calls Tryz.prog 96 #[typA x (.slice A1 x.syms.length c1) (.slice A2 x.mems.length c2)] w fun e w' => e = .returned (.bool (formB x)) ∧ Below w.heap.size w w' := by
 have hrt : restT x = { x with kind := 0, name := [], syms := [], opn := false } := by unfold restT; simp [h]
 have hf := form_of x (by rw [h]; unfold KindIn; omega)
 have hc : ∀ W, Calls Tryz.prog 120 #[.agg #[.int .i64 0, .string ⟨#[]⟩, .int .i64 x.low, .int .i64 x.high, .int .i64 x.max, .slice none 0 0, .slice A2 x.mems.length c2, .int .i64 x.key, .int .i64 x.elem, .bool false], .agg #[.int .i64 0, .string ⟨#[]⟩, .int .i64 0, .int .i64 0, .int .i64 0, .slice none 0 0, .slice none 0 0, .int .i64 0, .int .i64 0, .bool false]] W fun e w' => e = .returned (.bool (sameZ (restT x) typZ)) ∧ Below W.heap.size W w' := fun W => by
  rw [hrt]
  exact equalz_any ({ x with kind := 0, name := [], syms := [], opn := false } : Typ) typZ none A2 0 c2 W
 have hok : okT x = (nameB x.name && symB x.syms) := by unfold okT; simp [h]
 rw [hok] at hf
 have HC := Lib.hid hc
 have HN := Lib.hid (fun W => isname_any x.name W)
 have HS := Lib.hid (fun W hW => symbols_any x.syms (.slice A1 x.syms.length c1) W hl.1 ht.symsin ((ht.syms.below (w' := W) hW).mono hW.size))
 clear hc hok hrt ht
 simp only [typA, h]
 go_enter Tryz.func96, Tryz.ntmps96
 go_upto_region 1 with fail
 refine am1 (fun wd2 hb1 T => ?_)
 have hw3 := hb1
 clear hb1
 obtain ⟨cT_0, cT_1, cT_2, cT_3, cT_4, cT_5, cT_6, cT_7, cT_8, cT_9⟩ := T.out.c10
 go_upto_region 2 with fail
 clear cT_0 cT_1 cT_2 cT_3 cT_4 cT_5 cT_6 cT_7 cT_8 cT_9
 refine am1 (fun wd5 hb4 R => ?_)
 have hl7 := T.out.here
 have hl8 := hw3.size
 replace T := b1 T hb4
 replace hw3 := dT hw3 hb4
 clear hb4
 generalize wd2.heap.size = g6 at *
 have cR_0 := R.out.e0
 have fR_0 := R.out.free 0
 go_upto_region 3 with fail
 clear cR_0 fR_0
 generalize hE10 : wd5.setCell _ _ = wd9
 replace T := f1 T (eF hE10)
 replace R := dS0 R hE10
 replace hw3 := tf hw3 hE10
 clear hE10
 obtain ⟨cT_0, cT_1, cT_2, cT_3, cT_4, cT_5, cT_6, cT_7, cT_8, cT_9⟩ := T.out.c10
 go_wp2_with fail
 clear cT_0 cT_1 cT_2 cT_3 cT_4 cT_5 cT_6 cT_7 cT_8 cT_9
 ((with_reducible refine (HN.out _).mono ?_); rintro e wd11 ⟨rfl, rfl⟩)
 cases hn : nameB x.name with
 | false =>
  have Hf : Hid (formB x = false) := by show _ = _; rw [hf, hn]; rfl
  clear hf h
  obtain ⟨-, cR_1, -, -, -, cR_5, -, -, -, cR_9⟩ := R.out.c10
  have fR_1 := R.out.free 1
  have fR_5 := R.out.free 5
  have fR_9 := R.out.free 9
  go_upto_region 29 with fail
  clear cR_1 cR_5 cR_9 fR_1 fR_5 fR_9
  generalize hE14 : wd9.setCell _ _ = wd13
  replace T := f1 T (eF hE14)
  replace R := dS1 R hE14
  replace hw3 := tf hw3 hE14
  clear hE14
  generalize hE16 : wd13.setCell _ _ = wd15
  replace T := f1 T (eF hE16)
  replace R := dS5 R hE16
  replace hw3 := tf hw3 hE16
  clear hE16
  generalize hE18 : wd15.setCell _ _ = wd17
  replace T := f1 T (eF hE18)
  replace R := dS9 R hE18
  replace hw3 := tf hw3 hE18
  clear hE18
  obtain ⟨cR_0, cR_1, cR_2, cR_3, cR_4, cR_5, cR_6, cR_7, cR_8, cR_9⟩ := R.out.c10
  go_wp2_with fail
  go_ret
  exact ⟨ret_bool Hf.out.symm, hw3⟩
 | true =>
  obtain ⟨cT_0, cT_1, cT_2, cT_3, cT_4, cT_5, cT_6, cT_7, cT_8, cT_9⟩ := T.out.c10
  go_wp2_with fail
  clear cT_0 cT_1 cT_2 cT_3 cT_4 cT_5 cT_6 cT_7 cT_8 cT_9
  ((with_reducible refine (HS.out _ (hw3)).mono ?_); rintro e wd13 ⟨rfl, hb14⟩)
  obtain ⟨T, R⟩ := b2 T R hb14
  replace hw3 := dT hw3 hb14
  clear hb14
  cases hs : symB x.syms with
  | false =>
   have Hf : Hid (formB x = false) := by show _ = _; rw [hf, hn, hs]; rfl
   clear hf h
   obtain ⟨-, cR_1, -, -, -, cR_5, -, -, -, cR_9⟩ := R.out.c10
   have fR_1 := R.out.free 1
   have fR_5 := R.out.free 5
   have fR_9 := R.out.free 9
   go_upto_region 29 with fail
   clear cR_1 cR_5 cR_9 fR_1 fR_5 fR_9
   generalize hE16 : wd13.setCell _ _ = wd15
   replace T := f1 T (eF hE16)
   replace R := dS1 R hE16
   replace hw3 := tf hw3 hE16
   clear hE16
   generalize hE18 : wd15.setCell _ _ = wd17
   replace T := f1 T (eF hE18)
   replace R := dS5 R hE18
   replace hw3 := tf hw3 hE18
   clear hE18
   generalize hE20 : wd17.setCell _ _ = wd19
   replace T := f1 T (eF hE20)
   replace R := dS9 R hE20
   replace hw3 := tf hw3 hE20
   clear hE20
   obtain ⟨cR_0, cR_1, cR_2, cR_3, cR_4, cR_5, cR_6, cR_7, cR_8, cR_9⟩ := R.out.c10
   go_wp2_with fail
   go_ret
   exact ⟨ret_bool Hf.out.symm, hw3⟩
  | true =>
   have Hf : Hid (formB x = sameZ (restT x) typZ) := by show _ = _; rw [hf, hn, hs]; rfl
   clear hf h
   obtain ⟨-, cR_1, -, -, -, cR_5, -, -, -, cR_9⟩ := R.out.c10
   have fR_1 := R.out.free 1
   have fR_5 := R.out.free 5
   have fR_9 := R.out.free 9
   go_upto_region 29 with fail
   clear cR_1 cR_5 cR_9 fR_1 fR_5 fR_9
   generalize hE16 : wd13.setCell _ _ = wd15
   replace T := f1 T (eF hE16)
   replace R := dS1 R hE16
   replace hw3 := tf hw3 hE16
   clear hE16
   generalize hE18 : wd15.setCell _ _ = wd17
   replace T := f1 T (eF hE18)
   replace R := dS5 R hE18
   replace hw3 := tf hw3 hE18
   clear hE18
   generalize hE20 : wd17.setCell _ _ = wd19
   replace T := f1 T (eF hE20)
   replace R := dS9 R hE20
   replace hw3 := tf hw3 hE20
   clear hE20
   obtain ⟨cR_0, cR_1, cR_2, cR_3, cR_4, cR_5, cR_6, cR_7, cR_8, cR_9⟩ := R.out.c10
   go_wp2_with fail
   clear cR_0 cR_1 cR_2 cR_3 cR_4 cR_5 cR_6 cR_7 cR_8 cR_9
   ((with_reducible refine (HC.out _).mono ?_); rintro e wd21 ⟨rfl, hb22⟩)
   obtain ⟨T, R⟩ := b2 T R hb22
   replace hw3 := dT hw3 hb22
   clear hb22
   go_wp2_with fail
   go_ret
   exact ⟨ret_bool Hf.out.symm, hw3⟩
set_option maxRecDepth 100000 in
theorem form5true_any (x : Typ) (A1 A2 : Option Addr) (c1 c2 : Nat) (w : World) (h : x.kind = 5) (hop : x.opn = true) (hl : x.syms.length ≤ 6000000000000 ∧ x.mems.length ≤ 6000000000000) (ht : TypAt w w.heap.size x (.slice A1 x.syms.length c1) (.slice A2 x.mems.length c2)) :
  Calls Tryz.prog 96 #[typA x (.slice A1 x.syms.length c1) (.slice A2 x.mems.length c2)] w fun e w' => e = .returned (.bool (formB x)) ∧ Below w.heap.size w w' := by
 have hrt : restT x = { x with kind := 0, name := [], mems := [], opn := true } := by unfold restT; simp [h, hop]
 have hf := form_of x (by rw [h]; unfold KindIn; omega)
 have hc : ∀ W, Calls Tryz.prog 120 #[.agg #[.int .i64 0, .string ⟨#[]⟩, .int .i64 x.low, .int .i64 x.high, .int .i64 x.max, .slice A1 x.syms.length c1, .slice none 0 0, .int .i64 x.key, .int .i64 x.elem, .bool true], .agg #[.int .i64 0, .string ⟨#[]⟩, .int .i64 0, .int .i64 0, .int .i64 0, .slice none 0 0, .slice none 0 0, .int .i64 0, .int .i64 0, .bool false]] W fun e w' => e = .returned (.bool (sameZ (restT x) typZ)) ∧ Below W.heap.size W w' := fun W => by
  rw [hrt]
  exact equalz_any ({ x with kind := 0, name := [], mems := [], opn := true } : Typ) typZ A1 none c1 0 W
 have hok : okT x = (nameB x.name && membersB x) := by unfold okT; simp [h]
 rw [hok] at hf
 have HC := Lib.hid hc
 have HN := Lib.hid (fun W => isname_any x.name W)
 have hm := fun W hW => members_any x (.slice A1 x.syms.length c1) (.slice A2 x.mems.length c2) W hl.2 (ht.on (w' := W) hW)
 simp only [typA, h, hop] at hm
 have HM := Lib.hid hm
 clear hm
 clear hc hok hrt ht
 simp only [typA, h, hop]
 clear hop
 go_enter Tryz.func96, Tryz.ntmps96
 go_upto_region 1 with fail
 refine am1 (fun wd2 hb1 T => ?_)
 have hw3 := hb1
 clear hb1
 obtain ⟨cT_0, cT_1, cT_2, cT_3, cT_4, cT_5, cT_6, cT_7, cT_8, cT_9⟩ := T.out.c10
 go_upto_region 2 with fail
 clear cT_0 cT_1 cT_2 cT_3 cT_4 cT_5 cT_6 cT_7 cT_8 cT_9
 refine am1 (fun wd5 hb4 R => ?_)
 have hl7 := T.out.here
 have hl8 := hw3.size
 replace T := b1 T hb4
 replace hw3 := dT hw3 hb4
 clear hb4
 generalize wd2.heap.size = g6 at *
 have cR_0 := R.out.e0
 have fR_0 := R.out.free 0
 go_upto_region 3 with fail
 clear cR_0 fR_0
 generalize hE10 : wd5.setCell _ _ = wd9
 replace T := f1 T (eF hE10)
 replace R := dS0 R hE10
 replace hw3 := tf hw3 hE10
 clear hE10
 obtain ⟨cT_0, cT_1, cT_2, cT_3, cT_4, cT_5, cT_6, cT_7, cT_8, cT_9⟩ := T.out.c10
 go_wp2_with fail
 clear cT_0 cT_1 cT_2 cT_3 cT_4 cT_5 cT_6 cT_7 cT_8 cT_9
 ((with_reducible refine (HN.out _).mono ?_); rintro e wd11 ⟨rfl, rfl⟩)
 cases hn : nameB x.name with
 | false =>
  have Hf : Hid (formB x = false) := by show _ = _; rw [hf, hn]; rfl
  clear hf h
  have cT_0 := T.out.e0
  have cT_9 := T.out.e9
  have cR_1 := R.out.e1
  have cR_6 := R.out.e6
  have fR_1 := R.out.free 1
  have fR_6 := R.out.free 6
  go_upto_region 20 with fail
  clear cT_0 cT_9 cR_1 cR_6 fR_1 fR_6
  generalize hE14 : wd9.setCell _ _ = wd13
  replace T := f1 T (eF hE14)
  replace R := dS1 R hE14
  replace hw3 := tf hw3 hE14
  clear hE14
  generalize hE16 : wd13.setCell _ _ = wd15
  replace T := f1 T (eF hE16)
  replace R := dS6 R hE16
  replace hw3 := tf hw3 hE16
  clear hE16
  have cT_0 := T.out.e0
  have cT_9 := T.out.e9
  have cR_9 := R.out.e9
  have fR_9 := R.out.free 9
  go_upto_region 29 with fail
  clear cT_0 cT_9 cR_9 fR_9
  generalize hE18 : wd15.setCell _ _ = wd17
  replace T := f1 T (eF hE18)
  replace R := dS9 R hE18
  replace hw3 := tf hw3 hE18
  clear hE18
  obtain ⟨cR_0, cR_1, cR_2, cR_3, cR_4, cR_5, cR_6, cR_7, cR_8, cR_9⟩ := R.out.c10
  go_wp2_with fail
  go_ret
  exact ⟨ret_bool Hf.out.symm, hw3⟩
 | true =>
  obtain ⟨cT_0, cT_1, cT_2, cT_3, cT_4, cT_5, cT_6, cT_7, cT_8, cT_9⟩ := T.out.c10
  go_wp2_with fail
  clear cT_0 cT_1 cT_2 cT_3 cT_4 cT_5 cT_6 cT_7 cT_8 cT_9
  ((with_reducible refine (HM.out _ (hw3)).mono ?_); rintro e wd13 ⟨rfl, hb14⟩)
  obtain ⟨T, R⟩ := b2 T R hb14
  replace hw3 := dT hw3 hb14
  clear hb14
  cases hs : membersB x with
  | false =>
   have Hf : Hid (formB x = false) := by show _ = _; rw [hf, hn, hs]; rfl
   clear hf h
   have cT_0 := T.out.e0
   have cT_9 := T.out.e9
   have cR_1 := R.out.e1
   have cR_6 := R.out.e6
   have fR_1 := R.out.free 1
   have fR_6 := R.out.free 6
   go_upto_region 20 with fail
   clear cT_0 cT_9 cR_1 cR_6 fR_1 fR_6
   generalize hE16 : wd13.setCell _ _ = wd15
   replace T := f1 T (eF hE16)
   replace R := dS1 R hE16
   replace hw3 := tf hw3 hE16
   clear hE16
   generalize hE18 : wd15.setCell _ _ = wd17
   replace T := f1 T (eF hE18)
   replace R := dS6 R hE18
   replace hw3 := tf hw3 hE18
   clear hE18
   have cT_0 := T.out.e0
   have cT_9 := T.out.e9
   have cR_9 := R.out.e9
   have fR_9 := R.out.free 9
   go_upto_region 29 with fail
   clear cT_0 cT_9 cR_9 fR_9
   generalize hE20 : wd17.setCell _ _ = wd19
   replace T := f1 T (eF hE20)
   replace R := dS9 R hE20
   replace hw3 := tf hw3 hE20
   clear hE20
   obtain ⟨cR_0, cR_1, cR_2, cR_3, cR_4, cR_5, cR_6, cR_7, cR_8, cR_9⟩ := R.out.c10
   go_wp2_with fail
   go_ret
   exact ⟨ret_bool Hf.out.symm, hw3⟩
  | true =>
   have Hf : Hid (formB x = sameZ (restT x) typZ) := by show _ = _; rw [hf, hn, hs]; rfl
   clear hf h
   have cT_0 := T.out.e0
   have cT_9 := T.out.e9
   have cR_1 := R.out.e1
   have cR_6 := R.out.e6
   have fR_1 := R.out.free 1
   have fR_6 := R.out.free 6
   go_upto_region 20 with fail
   clear cT_0 cT_9 cR_1 cR_6 fR_1 fR_6
   generalize hE16 : wd13.setCell _ _ = wd15
   replace T := f1 T (eF hE16)
   replace R := dS1 R hE16
   replace hw3 := tf hw3 hE16
   clear hE16
   generalize hE18 : wd15.setCell _ _ = wd17
   replace T := f1 T (eF hE18)
   replace R := dS6 R hE18
   replace hw3 := tf hw3 hE18
   clear hE18
   have cT_0 := T.out.e0
   have cT_9 := T.out.e9
   have cR_9 := R.out.e9
   have fR_9 := R.out.free 9
   go_upto_region 29 with fail
   clear cT_0 cT_9 cR_9 fR_9
   generalize hE20 : wd17.setCell _ _ = wd19
   replace T := f1 T (eF hE20)
   replace R := dS9 R hE20
   replace hw3 := tf hw3 hE20
   clear hE20
   obtain ⟨cR_0, cR_1, cR_2, cR_3, cR_4, cR_5, cR_6, cR_7, cR_8, cR_9⟩ := R.out.c10
   go_wp2_with fail
   clear cR_0 cR_1 cR_2 cR_3 cR_4 cR_5 cR_6 cR_7 cR_8 cR_9
   ((with_reducible refine (HC.out _).mono ?_); rintro e wd21 ⟨rfl, hb22⟩)
   obtain ⟨T, R⟩ := b2 T R hb22
   replace hw3 := dT hw3 hb22
   clear hb22
   go_wp2_with fail
   go_ret
   exact ⟨ret_bool Hf.out.symm, hw3⟩
set_option maxRecDepth 100000 in
theorem form5false_any (x : Typ) (A1 A2 : Option Addr) (c1 c2 : Nat) (w : World) (h : x.kind = 5) (hop : x.opn = false) (hl : x.syms.length ≤ 6000000000000 ∧ x.mems.length ≤ 6000000000000) (ht : TypAt w w.heap.size x (.slice A1 x.syms.length c1) (.slice A2 x.mems.length c2)) :
  Calls Tryz.prog 96 #[typA x (.slice A1 x.syms.length c1) (.slice A2 x.mems.length c2)] w fun e w' => e = .returned (.bool (formB x)) ∧ Below w.heap.size w w' := by
 have hrt : restT x = { x with kind := 0, name := [], mems := [], opn := false } := by unfold restT; simp [h, hop]
 have hf := form_of x (by rw [h]; unfold KindIn; omega)
 have hc : ∀ W, Calls Tryz.prog 120 #[.agg #[.int .i64 0, .string ⟨#[]⟩, .int .i64 x.low, .int .i64 x.high, .int .i64 x.max, .slice A1 x.syms.length c1, .slice none 0 0, .int .i64 x.key, .int .i64 x.elem, .bool false], .agg #[.int .i64 0, .string ⟨#[]⟩, .int .i64 0, .int .i64 0, .int .i64 0, .slice none 0 0, .slice none 0 0, .int .i64 0, .int .i64 0, .bool false]] W fun e w' => e = .returned (.bool (sameZ (restT x) typZ)) ∧ Below W.heap.size W w' := fun W => by
  rw [hrt]
  exact equalz_any ({ x with kind := 0, name := [], mems := [], opn := false } : Typ) typZ A1 none c1 0 W
 have hok : okT x = (nameB x.name && membersB x) := by unfold okT; simp [h]
 rw [hok] at hf
 have HC := Lib.hid hc
 have HN := Lib.hid (fun W => isname_any x.name W)
 have hm := fun W hW => members_any x (.slice A1 x.syms.length c1) (.slice A2 x.mems.length c2) W hl.2 (ht.on (w' := W) hW)
 simp only [typA, h, hop] at hm
 have HM := Lib.hid hm
 clear hm
 clear hc hok hrt ht
 simp only [typA, h, hop]
 clear hop
 go_enter Tryz.func96, Tryz.ntmps96
 go_upto_region 1 with fail
 refine am1 (fun wd2 hb1 T => ?_)
 have hw3 := hb1
 clear hb1
 obtain ⟨cT_0, cT_1, cT_2, cT_3, cT_4, cT_5, cT_6, cT_7, cT_8, cT_9⟩ := T.out.c10
 go_upto_region 2 with fail
 clear cT_0 cT_1 cT_2 cT_3 cT_4 cT_5 cT_6 cT_7 cT_8 cT_9
 refine am1 (fun wd5 hb4 R => ?_)
 have hl7 := T.out.here
 have hl8 := hw3.size
 replace T := b1 T hb4
 replace hw3 := dT hw3 hb4
 clear hb4
 generalize wd2.heap.size = g6 at *
 have cR_0 := R.out.e0
 have fR_0 := R.out.free 0
 go_upto_region 3 with fail
 clear cR_0 fR_0
 generalize hE10 : wd5.setCell _ _ = wd9
 replace T := f1 T (eF hE10)
 replace R := dS0 R hE10
 replace hw3 := tf hw3 hE10
 clear hE10
 obtain ⟨cT_0, cT_1, cT_2, cT_3, cT_4, cT_5, cT_6, cT_7, cT_8, cT_9⟩ := T.out.c10
 go_wp2_with fail
 clear cT_0 cT_1 cT_2 cT_3 cT_4 cT_5 cT_6 cT_7 cT_8 cT_9
 ((with_reducible refine (HN.out _).mono ?_); rintro e wd11 ⟨rfl, rfl⟩)
 cases hn : nameB x.name with
 | false =>
  have Hf : Hid (formB x = false) := by show _ = _; rw [hf, hn]; rfl
  clear hf h
  have cT_0 := T.out.e0
  have cT_9 := T.out.e9
  have cR_1 := R.out.e1
  have cR_6 := R.out.e6
  have fR_1 := R.out.free 1
  have fR_6 := R.out.free 6
  go_upto_region 20 with fail
  clear cT_0 cT_9 cR_1 cR_6 fR_1 fR_6
  generalize hE14 : wd9.setCell _ _ = wd13
  replace T := f1 T (eF hE14)
  replace R := dS1 R hE14
  replace hw3 := tf hw3 hE14
  clear hE14
  generalize hE16 : wd13.setCell _ _ = wd15
  replace T := f1 T (eF hE16)
  replace R := dS6 R hE16
  replace hw3 := tf hw3 hE16
  clear hE16
  have cT_0 := T.out.e0
  have cT_9 := T.out.e9
  have cR_9 := R.out.e9
  have fR_9 := R.out.free 9
  go_upto_region 29 with fail
  clear cT_0 cT_9 cR_9 fR_9
  generalize hE18 : wd15.setCell _ _ = wd17
  replace T := f1 T (eF hE18)
  replace R := dS9 R hE18
  replace hw3 := tf hw3 hE18
  clear hE18
  obtain ⟨cR_0, cR_1, cR_2, cR_3, cR_4, cR_5, cR_6, cR_7, cR_8, cR_9⟩ := R.out.c10
  go_wp2_with fail
  go_ret
  exact ⟨ret_bool Hf.out.symm, hw3⟩
 | true =>
  obtain ⟨cT_0, cT_1, cT_2, cT_3, cT_4, cT_5, cT_6, cT_7, cT_8, cT_9⟩ := T.out.c10
  go_wp2_with fail
  clear cT_0 cT_1 cT_2 cT_3 cT_4 cT_5 cT_6 cT_7 cT_8 cT_9
  ((with_reducible refine (HM.out _ (hw3)).mono ?_); rintro e wd13 ⟨rfl, hb14⟩)
  obtain ⟨T, R⟩ := b2 T R hb14
  replace hw3 := dT hw3 hb14
  clear hb14
  cases hs : membersB x with
  | false =>
   have Hf : Hid (formB x = false) := by show _ = _; rw [hf, hn, hs]; rfl
   clear hf h
   have cT_0 := T.out.e0
   have cT_9 := T.out.e9
   have cR_1 := R.out.e1
   have cR_6 := R.out.e6
   have fR_1 := R.out.free 1
   have fR_6 := R.out.free 6
   go_upto_region 20 with fail
   clear cT_0 cT_9 cR_1 cR_6 fR_1 fR_6
   generalize hE16 : wd13.setCell _ _ = wd15
   replace T := f1 T (eF hE16)
   replace R := dS1 R hE16
   replace hw3 := tf hw3 hE16
   clear hE16
   generalize hE18 : wd15.setCell _ _ = wd17
   replace T := f1 T (eF hE18)
   replace R := dS6 R hE18
   replace hw3 := tf hw3 hE18
   clear hE18
   have cT_0 := T.out.e0
   have cT_9 := T.out.e9
   have cR_9 := R.out.e9
   have fR_9 := R.out.free 9
   go_upto_region 29 with fail
   clear cT_0 cT_9 cR_9 fR_9
   generalize hE20 : wd17.setCell _ _ = wd19
   replace T := f1 T (eF hE20)
   replace R := dS9 R hE20
   replace hw3 := tf hw3 hE20
   clear hE20
   obtain ⟨cR_0, cR_1, cR_2, cR_3, cR_4, cR_5, cR_6, cR_7, cR_8, cR_9⟩ := R.out.c10
   go_wp2_with fail
   go_ret
   exact ⟨ret_bool Hf.out.symm, hw3⟩
  | true =>
   have Hf : Hid (formB x = sameZ (restT x) typZ) := by show _ = _; rw [hf, hn, hs]; rfl
   clear hf h
   have cT_0 := T.out.e0
   have cT_9 := T.out.e9
   have cR_1 := R.out.e1
   have cR_6 := R.out.e6
   have fR_1 := R.out.free 1
   have fR_6 := R.out.free 6
   go_upto_region 20 with fail
   clear cT_0 cT_9 cR_1 cR_6 fR_1 fR_6
   generalize hE16 : wd13.setCell _ _ = wd15
   replace T := f1 T (eF hE16)
   replace R := dS1 R hE16
   replace hw3 := tf hw3 hE16
   clear hE16
   generalize hE18 : wd15.setCell _ _ = wd17
   replace T := f1 T (eF hE18)
   replace R := dS6 R hE18
   replace hw3 := tf hw3 hE18
   clear hE18
   have cT_0 := T.out.e0
   have cT_9 := T.out.e9
   have cR_9 := R.out.e9
   have fR_9 := R.out.free 9
   go_upto_region 29 with fail
   clear cT_0 cT_9 cR_9 fR_9
   generalize hE20 : wd17.setCell _ _ = wd19
   replace T := f1 T (eF hE20)
   replace R := dS9 R hE20
   replace hw3 := tf hw3 hE20
   clear hE20
   obtain ⟨cR_0, cR_1, cR_2, cR_3, cR_4, cR_5, cR_6, cR_7, cR_8, cR_9⟩ := R.out.c10
   go_wp2_with fail
   clear cR_0 cR_1 cR_2 cR_3 cR_4 cR_5 cR_6 cR_7 cR_8 cR_9
   ((with_reducible refine (HC.out _).mono ?_); rintro e wd21 ⟨rfl, hb22⟩)
   obtain ⟨T, R⟩ := b2 T R hb22
   replace hw3 := dT hw3 hb22
   clear hb22
   go_wp2_with fail
   go_ret
   exact ⟨ret_bool Hf.out.symm, hw3⟩
set_option maxRecDepth 100000 in
theorem form6true_any (x : Typ) (A1 A2 : Option Addr) (c1 c2 : Nat) (w : World) (h : x.kind = 6) (hop : x.opn = true) (hl : x.syms.length ≤ 6000000000000 ∧ x.mems.length ≤ 6000000000000) (ht : TypAt w w.heap.size x (.slice A1 x.syms.length c1) (.slice A2 x.mems.length c2)) :
  Calls Tryz.prog 96 #[typA x (.slice A1 x.syms.length c1) (.slice A2 x.mems.length c2)] w fun e w' => e = .returned (.bool (formB x)) ∧ Below w.heap.size w w' := by
 have hrt : restT x = { x with kind := 0, name := [], mems := [], opn := false } := by unfold restT; simp [h]
 have hf := form_of x (by rw [h]; unfold KindIn; omega)
 have hc : ∀ W, Calls Tryz.prog 120 #[.agg #[.int .i64 0, .string ⟨#[]⟩, .int .i64 x.low, .int .i64 x.high, .int .i64 x.max, .slice A1 x.syms.length c1, .slice none 0 0, .int .i64 x.key, .int .i64 x.elem, .bool false], .agg #[.int .i64 0, .string ⟨#[]⟩, .int .i64 0, .int .i64 0, .int .i64 0, .slice none 0 0, .slice none 0 0, .int .i64 0, .int .i64 0, .bool false]] W fun e w' => e = .returned (.bool (sameZ (restT x) typZ)) ∧ Below W.heap.size W w' := fun W => by
  rw [hrt]
  exact equalz_any ({ x with kind := 0, name := [], mems := [], opn := false } : Typ) typZ A1 none c1 0 W
 have hok : okT x = (nameB x.name && membersB x) := by unfold okT; simp [h]
 rw [hok] at hf
 have HC := Lib.hid hc
 have HN := Lib.hid (fun W => isname_any x.name W)
 have hm := fun W hW => members_any x (.slice A1 x.syms.length c1) (.slice A2 x.mems.length c2) W hl.2 (ht.on (w' := W) hW)
 simp only [typA, h, hop] at hm
 have HM := Lib.hid hm
 clear hm
 clear hc hok hrt ht
 simp only [typA, h, hop]
 clear hop
 go_enter Tryz.func96, Tryz.ntmps96
 go_upto_region 1 with fail
 refine am1 (fun wd2 hb1 T => ?_)
 have hw3 := hb1
 clear hb1
 obtain ⟨cT_0, cT_1, cT_2, cT_3, cT_4, cT_5, cT_6, cT_7, cT_8, cT_9⟩ := T.out.c10
 go_upto_region 2 with fail
 clear cT_0 cT_1 cT_2 cT_3 cT_4 cT_5 cT_6 cT_7 cT_8 cT_9
 refine am1 (fun wd5 hb4 R => ?_)
 have hl7 := T.out.here
 have hl8 := hw3.size
 replace T := b1 T hb4
 replace hw3 := dT hw3 hb4
 clear hb4
 generalize wd2.heap.size = g6 at *
 have cR_0 := R.out.e0
 have fR_0 := R.out.free 0
 go_upto_region 3 with fail
 clear cR_0 fR_0
 generalize hE10 : wd5.setCell _ _ = wd9
 replace T := f1 T (eF hE10)
 replace R := dS0 R hE10
 replace hw3 := tf hw3 hE10
 clear hE10
 obtain ⟨cT_0, cT_1, cT_2, cT_3, cT_4, cT_5, cT_6, cT_7, cT_8, cT_9⟩ := T.out.c10
 go_wp2_with fail
 clear cT_0 cT_1 cT_2 cT_3 cT_4 cT_5 cT_6 cT_7 cT_8 cT_9
 ((with_reducible refine (HN.out _).mono ?_); rintro e wd11 ⟨rfl, rfl⟩)
 cases hn : nameB x.name with
 | false =>
  have Hf : Hid (formB x = false) := by show _ = _; rw [hf, hn]; rfl
  clear hf h
  have cT_0 := T.out.e0
  have cT_9 := T.out.e9
  have cR_1 := R.out.e1
  have cR_6 := R.out.e6
  have fR_1 := R.out.free 1
  have fR_6 := R.out.free 6
  go_upto_region 20 with fail
  clear cT_0 cT_9 cR_1 cR_6 fR_1 fR_6
  generalize hE14 : wd9.setCell _ _ = wd13
  replace T := f1 T (eF hE14)
  replace R := dS1 R hE14
  replace hw3 := tf hw3 hE14
  clear hE14
  generalize hE16 : wd13.setCell _ _ = wd15
  replace T := f1 T (eF hE16)
  replace R := dS6 R hE16
  replace hw3 := tf hw3 hE16
  clear hE16
  have cT_0 := T.out.e0
  have cT_9 := T.out.e9
  have cR_9 := R.out.e9
  have fR_9 := R.out.free 9
  go_upto_region 29 with fail
  clear cT_0 cT_9 cR_9 fR_9
  generalize hE18 : wd15.setCell _ _ = wd17
  replace T := f1 T (eF hE18)
  replace R := dS9 R hE18
  replace hw3 := tf hw3 hE18
  clear hE18
  obtain ⟨cR_0, cR_1, cR_2, cR_3, cR_4, cR_5, cR_6, cR_7, cR_8, cR_9⟩ := R.out.c10
  go_wp2_with fail
  go_ret
  exact ⟨ret_bool Hf.out.symm, hw3⟩
 | true =>
  obtain ⟨cT_0, cT_1, cT_2, cT_3, cT_4, cT_5, cT_6, cT_7, cT_8, cT_9⟩ := T.out.c10
  go_wp2_with fail
  clear cT_0 cT_1 cT_2 cT_3 cT_4 cT_5 cT_6 cT_7 cT_8 cT_9
  ((with_reducible refine (HM.out _ (hw3)).mono ?_); rintro e wd13 ⟨rfl, hb14⟩)
  obtain ⟨T, R⟩ := b2 T R hb14
  replace hw3 := dT hw3 hb14
  clear hb14
  cases hs : membersB x with
  | false =>
   have Hf : Hid (formB x = false) := by show _ = _; rw [hf, hn, hs]; rfl
   clear hf h
   have cT_0 := T.out.e0
   have cT_9 := T.out.e9
   have cR_1 := R.out.e1
   have cR_6 := R.out.e6
   have fR_1 := R.out.free 1
   have fR_6 := R.out.free 6
   go_upto_region 20 with fail
   clear cT_0 cT_9 cR_1 cR_6 fR_1 fR_6
   generalize hE16 : wd13.setCell _ _ = wd15
   replace T := f1 T (eF hE16)
   replace R := dS1 R hE16
   replace hw3 := tf hw3 hE16
   clear hE16
   generalize hE18 : wd15.setCell _ _ = wd17
   replace T := f1 T (eF hE18)
   replace R := dS6 R hE18
   replace hw3 := tf hw3 hE18
   clear hE18
   have cT_0 := T.out.e0
   have cT_9 := T.out.e9
   have cR_9 := R.out.e9
   have fR_9 := R.out.free 9
   go_upto_region 29 with fail
   clear cT_0 cT_9 cR_9 fR_9
   generalize hE20 : wd17.setCell _ _ = wd19
   replace T := f1 T (eF hE20)
   replace R := dS9 R hE20
   replace hw3 := tf hw3 hE20
   clear hE20
   obtain ⟨cR_0, cR_1, cR_2, cR_3, cR_4, cR_5, cR_6, cR_7, cR_8, cR_9⟩ := R.out.c10
   go_wp2_with fail
   go_ret
   exact ⟨ret_bool Hf.out.symm, hw3⟩
  | true =>
   have Hf : Hid (formB x = sameZ (restT x) typZ) := by show _ = _; rw [hf, hn, hs]; rfl
   clear hf h
   have cT_0 := T.out.e0
   have cT_9 := T.out.e9
   have cR_1 := R.out.e1
   have cR_6 := R.out.e6
   have fR_1 := R.out.free 1
   have fR_6 := R.out.free 6
   go_upto_region 20 with fail
   clear cT_0 cT_9 cR_1 cR_6 fR_1 fR_6
   generalize hE16 : wd13.setCell _ _ = wd15
   replace T := f1 T (eF hE16)
   replace R := dS1 R hE16
   replace hw3 := tf hw3 hE16
   clear hE16
   generalize hE18 : wd15.setCell _ _ = wd17
   replace T := f1 T (eF hE18)
   replace R := dS6 R hE18
   replace hw3 := tf hw3 hE18
   clear hE18
   have cT_0 := T.out.e0
   have cT_9 := T.out.e9
   have cR_9 := R.out.e9
   have fR_9 := R.out.free 9
   go_upto_region 29 with fail
   clear cT_0 cT_9 cR_9 fR_9
   generalize hE20 : wd17.setCell _ _ = wd19
   replace T := f1 T (eF hE20)
   replace R := dS9 R hE20
   replace hw3 := tf hw3 hE20
   clear hE20
   obtain ⟨cR_0, cR_1, cR_2, cR_3, cR_4, cR_5, cR_6, cR_7, cR_8, cR_9⟩ := R.out.c10
   go_wp2_with fail
   clear cR_0 cR_1 cR_2 cR_3 cR_4 cR_5 cR_6 cR_7 cR_8 cR_9
   ((with_reducible refine (HC.out _).mono ?_); rintro e wd21 ⟨rfl, hb22⟩)
   obtain ⟨T, R⟩ := b2 T R hb22
   replace hw3 := dT hw3 hb22
   clear hb22
   go_wp2_with fail
   go_ret
   exact ⟨ret_bool Hf.out.symm, hw3⟩
set_option maxRecDepth 100000 in
theorem form6false_any (x : Typ) (A1 A2 : Option Addr) (c1 c2 : Nat) (w : World) (h : x.kind = 6) (hop : x.opn = false) (hl : x.syms.length ≤ 6000000000000 ∧ x.mems.length ≤ 6000000000000) (ht : TypAt w w.heap.size x (.slice A1 x.syms.length c1) (.slice A2 x.mems.length c2)) :
  Calls Tryz.prog 96 #[typA x (.slice A1 x.syms.length c1) (.slice A2 x.mems.length c2)] w fun e w' => e = .returned (.bool (formB x)) ∧ Below w.heap.size w w' := by
 have hrt : restT x = { x with kind := 0, name := [], mems := [], opn := false } := by unfold restT; simp [h]
 have hf := form_of x (by rw [h]; unfold KindIn; omega)
 have hc : ∀ W, Calls Tryz.prog 120 #[.agg #[.int .i64 0, .string ⟨#[]⟩, .int .i64 x.low, .int .i64 x.high, .int .i64 x.max, .slice A1 x.syms.length c1, .slice none 0 0, .int .i64 x.key, .int .i64 x.elem, .bool false], .agg #[.int .i64 0, .string ⟨#[]⟩, .int .i64 0, .int .i64 0, .int .i64 0, .slice none 0 0, .slice none 0 0, .int .i64 0, .int .i64 0, .bool false]] W fun e w' => e = .returned (.bool (sameZ (restT x) typZ)) ∧ Below W.heap.size W w' := fun W => by
  rw [hrt]
  exact equalz_any ({ x with kind := 0, name := [], mems := [], opn := false } : Typ) typZ A1 none c1 0 W
 have hok : okT x = (nameB x.name && membersB x) := by unfold okT; simp [h]
 rw [hok] at hf
 have HC := Lib.hid hc
 have HN := Lib.hid (fun W => isname_any x.name W)
 have hm := fun W hW => members_any x (.slice A1 x.syms.length c1) (.slice A2 x.mems.length c2) W hl.2 (ht.on (w' := W) hW)
 simp only [typA, h, hop] at hm
 have HM := Lib.hid hm
 clear hm
 clear hc hok hrt ht
 simp only [typA, h, hop]
 clear hop
 go_enter Tryz.func96, Tryz.ntmps96
 go_upto_region 1 with fail
 refine am1 (fun wd2 hb1 T => ?_)
 have hw3 := hb1
 clear hb1
 obtain ⟨cT_0, cT_1, cT_2, cT_3, cT_4, cT_5, cT_6, cT_7, cT_8, cT_9⟩ := T.out.c10
 go_upto_region 2 with fail
 clear cT_0 cT_1 cT_2 cT_3 cT_4 cT_5 cT_6 cT_7 cT_8 cT_9
 refine am1 (fun wd5 hb4 R => ?_)
 have hl7 := T.out.here
 have hl8 := hw3.size
 replace T := b1 T hb4
 replace hw3 := dT hw3 hb4
 clear hb4
 generalize wd2.heap.size = g6 at *
 have cR_0 := R.out.e0
 have fR_0 := R.out.free 0
 go_upto_region 3 with fail
 clear cR_0 fR_0
 generalize hE10 : wd5.setCell _ _ = wd9
 replace T := f1 T (eF hE10)
 replace R := dS0 R hE10
 replace hw3 := tf hw3 hE10
 clear hE10
 obtain ⟨cT_0, cT_1, cT_2, cT_3, cT_4, cT_5, cT_6, cT_7, cT_8, cT_9⟩ := T.out.c10
 go_wp2_with fail
 clear cT_0 cT_1 cT_2 cT_3 cT_4 cT_5 cT_6 cT_7 cT_8 cT_9
 ((with_reducible refine (HN.out _).mono ?_); rintro e wd11 ⟨rfl, rfl⟩)
 cases hn : nameB x.name with
 | false =>
  have Hf : Hid (formB x = false) := by show _ = _; rw [hf, hn]; rfl
  clear hf h
  have cT_0 := T.out.e0
  have cT_9 := T.out.e9
  have cR_1 := R.out.e1
  have cR_6 := R.out.e6
  have fR_1 := R.out.free 1
  have fR_6 := R.out.free 6
  go_upto_region 20 with fail
  clear cT_0 cT_9 cR_1 cR_6 fR_1 fR_6
  generalize hE14 : wd9.setCell _ _ = wd13
  replace T := f1 T (eF hE14)
  replace R := dS1 R hE14
  replace hw3 := tf hw3 hE14
  clear hE14
  generalize hE16 : wd13.setCell _ _ = wd15
  replace T := f1 T (eF hE16)
  replace R := dS6 R hE16
  replace hw3 := tf hw3 hE16
  clear hE16
  have cT_0 := T.out.e0
  have cT_9 := T.out.e9
  have cR_9 := R.out.e9
  have fR_9 := R.out.free 9
  go_upto_region 29 with fail
  clear cT_0 cT_9 cR_9 fR_9
  generalize hE18 : wd15.setCell _ _ = wd17
  replace T := f1 T (eF hE18)
  replace R := dS9 R hE18
  replace hw3 := tf hw3 hE18
  clear hE18
  obtain ⟨cR_0, cR_1, cR_2, cR_3, cR_4, cR_5, cR_6, cR_7, cR_8, cR_9⟩ := R.out.c10
  go_wp2_with fail
  go_ret
  exact ⟨ret_bool Hf.out.symm, hw3⟩
 | true =>
  obtain ⟨cT_0, cT_1, cT_2, cT_3, cT_4, cT_5, cT_6, cT_7, cT_8, cT_9⟩ := T.out.c10
  go_wp2_with fail
  clear cT_0 cT_1 cT_2 cT_3 cT_4 cT_5 cT_6 cT_7 cT_8 cT_9
  ((with_reducible refine (HM.out _ (hw3)).mono ?_); rintro e wd13 ⟨rfl, hb14⟩)
  obtain ⟨T, R⟩ := b2 T R hb14
  replace hw3 := dT hw3 hb14
  clear hb14
  cases hs : membersB x with
  | false =>
   have Hf : Hid (formB x = false) := by show _ = _; rw [hf, hn, hs]; rfl
   clear hf h
   have cT_0 := T.out.e0
   have cT_9 := T.out.e9
   have cR_1 := R.out.e1
   have cR_6 := R.out.e6
   have fR_1 := R.out.free 1
   have fR_6 := R.out.free 6
   go_upto_region 20 with fail
   clear cT_0 cT_9 cR_1 cR_6 fR_1 fR_6
   generalize hE16 : wd13.setCell _ _ = wd15
   replace T := f1 T (eF hE16)
   replace R := dS1 R hE16
   replace hw3 := tf hw3 hE16
   clear hE16
   generalize hE18 : wd15.setCell _ _ = wd17
   replace T := f1 T (eF hE18)
   replace R := dS6 R hE18
   replace hw3 := tf hw3 hE18
   clear hE18
   have cT_0 := T.out.e0
   have cT_9 := T.out.e9
   have cR_9 := R.out.e9
   have fR_9 := R.out.free 9
   go_upto_region 29 with fail
   clear cT_0 cT_9 cR_9 fR_9
   generalize hE20 : wd17.setCell _ _ = wd19
   replace T := f1 T (eF hE20)
   replace R := dS9 R hE20
   replace hw3 := tf hw3 hE20
   clear hE20
   obtain ⟨cR_0, cR_1, cR_2, cR_3, cR_4, cR_5, cR_6, cR_7, cR_8, cR_9⟩ := R.out.c10
   go_wp2_with fail
   go_ret
   exact ⟨ret_bool Hf.out.symm, hw3⟩
  | true =>
   have Hf : Hid (formB x = sameZ (restT x) typZ) := by show _ = _; rw [hf, hn, hs]; rfl
   clear hf h
   have cT_0 := T.out.e0
   have cT_9 := T.out.e9
   have cR_1 := R.out.e1
   have cR_6 := R.out.e6
   have fR_1 := R.out.free 1
   have fR_6 := R.out.free 6
   go_upto_region 20 with fail
   clear cT_0 cT_9 cR_1 cR_6 fR_1 fR_6
   generalize hE16 : wd13.setCell _ _ = wd15
   replace T := f1 T (eF hE16)
   replace R := dS1 R hE16
   replace hw3 := tf hw3 hE16
   clear hE16
   generalize hE18 : wd15.setCell _ _ = wd17
   replace T := f1 T (eF hE18)
   replace R := dS6 R hE18
   replace hw3 := tf hw3 hE18
   clear hE18
   have cT_0 := T.out.e0
   have cT_9 := T.out.e9
   have cR_9 := R.out.e9
   have fR_9 := R.out.free 9
   go_upto_region 29 with fail
   clear cT_0 cT_9 cR_9 fR_9
   generalize hE20 : wd17.setCell _ _ = wd19
   replace T := f1 T (eF hE20)
   replace R := dS9 R hE20
   replace hw3 := tf hw3 hE20
   clear hE20
   obtain ⟨cR_0, cR_1, cR_2, cR_3, cR_4, cR_5, cR_6, cR_7, cR_8, cR_9⟩ := R.out.c10
   go_wp2_with fail
   clear cR_0 cR_1 cR_2 cR_3 cR_4 cR_5 cR_6 cR_7 cR_8 cR_9
   ((with_reducible refine (HC.out _).mono ?_); rintro e wd21 ⟨rfl, hb22⟩)
   obtain ⟨T, R⟩ := b2 T R hb22
   replace hw3 := dT hw3 hb22
   clear hb22
   go_wp2_with fail
   go_ret
   exact ⟨ret_bool Hf.out.symm, hw3⟩
set_option maxRecDepth 100000 in
theorem form7_any (x : Typ) (A1 A2 : Option Addr) (c1 c2 : Nat) (w : World) (h : x.kind = 7) (_ : x.syms.length ≤ 6000000000000 ∧ x.mems.length ≤ 6000000000000) (_ : TypAt w w.heap.size x (.slice A1 x.syms.length c1) (.slice A2 x.mems.length c2)) :
  Calls Tryz.prog 96 #[typA x (.slice A1 x.syms.length c1) (.slice A2 x.mems.length c2)] w fun e w' => e = .returned (.bool (formB x)) ∧ Below w.heap.size w w' := by
 have hrt : restT x = { x with kind := 0, max := 0, elem := 0 } := by unfold restT; simp [h]
 have hf := form_of x (by rw [h]; unfold KindIn; omega)
 have hc : ∀ W, Calls Tryz.prog 120 #[.agg #[.int .i64 0, .string ⟨x.name.toArray⟩, .int .i64 x.low, .int .i64 x.high, .int .i64 0, .slice A1 x.syms.length c1, .slice A2 x.mems.length c2, .int .i64 x.key, .int .i64 0, .bool x.opn], .agg #[.int .i64 0, .string ⟨#[]⟩, .int .i64 0, .int .i64 0, .int .i64 0, .slice none 0 0, .slice none 0 0, .int .i64 0, .int .i64 0, .bool false]] W fun e w' => e = .returned (.bool (sameZ (restT x) typZ)) ∧ Below W.heap.size W w' := fun W => by
  rw [hrt]
  exact equalz_any ({ x with kind := 0, max := 0, elem := 0 } : Typ) typZ A1 A2 c1 c2 W
 have hok : okT x = (decide (0 ≤ x.max) && decide (x.max ≤ 50)) := by unfold okT; simp [h]
 rw [hok] at hf
 have HC := Lib.hid hc
 clear hc hok hrt
 simp only [typA, h]
 go_enter Tryz.func96, Tryz.ntmps96
 go_upto_region 1 with fail
 refine am1 (fun wd2 hb1 T => ?_)
 have hw3 := hb1
 clear hb1
 obtain ⟨cT_0, cT_1, cT_2, cT_3, cT_4, cT_5, cT_6, cT_7, cT_8, cT_9⟩ := T.out.c10
 go_upto_region 2 with fail
 clear cT_0 cT_1 cT_2 cT_3 cT_4 cT_5 cT_6 cT_7 cT_8 cT_9
 refine am1 (fun wd5 hb4 R => ?_)
 have hl7 := T.out.here
 have hl8 := hw3.size
 replace T := b1 T hb4
 replace hw3 := dT hw3 hb4
 clear hb4
 generalize wd2.heap.size = g6 at *
 have cR_0 := R.out.e0
 have fR_0 := R.out.free 0
 go_upto_region 3 with fail
 clear cR_0 fR_0
 generalize hE10 : wd5.setCell _ _ = wd9
 replace T := f1 T (eF hE10)
 replace R := dS0 R hE10
 replace hw3 := tf hw3 hE10
 clear hE10
 obtain ⟨cT_0, cT_1, cT_2, cT_3, cT_4, cT_5, cT_6, cT_7, cT_8, cT_9⟩ := T.out.c10
 by_cases hlo : 0 ≤ x.max
 ·
  have hd : decide (0 ≤ x.max) = true := decide_eq_true hlo
  by_cases hhi : x.max ≤ 50
  ·
   have hd2 : decide (x.max ≤ 50) = true := decide_eq_true hhi
   have Hf : Hid (formB x = sameZ (restT x) typZ) := by show _ = _; rw [hf, hd, hd2]; rfl
   clear hf h
   have cR_4 := R.out.e4
   have cR_8 := R.out.e8
   have fR_4 := R.out.free 4
   have fR_8 := R.out.free 8
   go_upto_region 29 with fail
   clear cT_0 cT_1 cT_2 cT_3 cT_4 cT_5 cT_6 cT_7 cT_8 cT_9 cR_4 cR_8 fR_4 fR_8
   generalize hE12 : wd9.setCell _ _ = wd11
   replace T := f1 T (eF hE12)
   replace R := dS4 R hE12
   replace hw3 := tf hw3 hE12
   clear hE12
   generalize hE14 : wd11.setCell _ _ = wd13
   replace T := f1 T (eF hE14)
   replace R := dS8 R hE14
   replace hw3 := tf hw3 hE14
   clear hE14
   obtain ⟨cR_0, cR_1, cR_2, cR_3, cR_4, cR_5, cR_6, cR_7, cR_8, cR_9⟩ := R.out.c10
   go_wp2_with fail
   clear cR_0 cR_1 cR_2 cR_3 cR_4 cR_5 cR_6 cR_7 cR_8 cR_9
   ((with_reducible refine (HC.out _).mono ?_); rintro e wd15 ⟨rfl, hb16⟩)
   obtain ⟨T, R⟩ := b2 T R hb16
   replace hw3 := dT hw3 hb16
   clear hb16
   go_wp2_with fail
   go_ret
   exact ⟨ret_bool Hf.out.symm, hw3⟩
  have hd2 : decide (x.max ≤ 50) = false := decide_eq_false hhi
  have Hf : Hid (formB x = false) := by show _ = _; rw [hf, hd, hd2]; rfl
  clear hf h
  have cR_4 := R.out.e4
  have cR_8 := R.out.e8
  have fR_4 := R.out.free 4
  have fR_8 := R.out.free 8
  go_upto_region 29 with fail
  clear cT_0 cT_1 cT_2 cT_3 cT_4 cT_5 cT_6 cT_7 cT_8 cT_9 cR_4 cR_8 fR_4 fR_8
  generalize hE12 : wd9.setCell _ _ = wd11
  replace T := f1 T (eF hE12)
  replace R := dS4 R hE12
  replace hw3 := tf hw3 hE12
  clear hE12
  generalize hE14 : wd11.setCell _ _ = wd13
  replace T := f1 T (eF hE14)
  replace R := dS8 R hE14
  replace hw3 := tf hw3 hE14
  clear hE14
  obtain ⟨cR_0, cR_1, cR_2, cR_3, cR_4, cR_5, cR_6, cR_7, cR_8, cR_9⟩ := R.out.c10
  go_wp2_with fail
  go_ret
  exact ⟨ret_bool Hf.out.symm, hw3⟩
 have hd : decide (0 ≤ x.max) = false := decide_eq_false hlo
 have Hf : Hid (formB x = false) := by show _ = _; rw [hf, hd]; rfl
 clear hf h
 have cR_4 := R.out.e4
 have cR_8 := R.out.e8
 have fR_4 := R.out.free 4
 have fR_8 := R.out.free 8
 go_upto_region 29 with fail
 clear cT_0 cT_1 cT_2 cT_3 cT_4 cT_5 cT_6 cT_7 cT_8 cT_9 cR_4 cR_8 fR_4 fR_8
 generalize hE12 : wd9.setCell _ _ = wd11
 replace T := f1 T (eF hE12)
 replace R := dS4 R hE12
 replace hw3 := tf hw3 hE12
 clear hE12
 generalize hE14 : wd11.setCell _ _ = wd13
 replace T := f1 T (eF hE14)
 replace R := dS8 R hE14
 replace hw3 := tf hw3 hE14
 clear hE14
 obtain ⟨cR_0, cR_1, cR_2, cR_3, cR_4, cR_5, cR_6, cR_7, cR_8, cR_9⟩ := R.out.c10
 go_wp2_with fail
 go_ret
 exact ⟨ret_bool Hf.out.symm, hw3⟩
set_option maxRecDepth 100000 in
theorem form8_any (x : Typ) (A1 A2 : Option Addr) (c1 c2 : Nat) (w : World) (h : x.kind = 8) (_ : x.syms.length ≤ 6000000000000 ∧ x.mems.length ≤ 6000000000000) (_ : TypAt w w.heap.size x (.slice A1 x.syms.length c1) (.slice A2 x.mems.length c2)) :
  Calls Tryz.prog 96 #[typA x (.slice A1 x.syms.length c1) (.slice A2 x.mems.length c2)] w fun e w' => e = .returned (.bool (formB x)) ∧ Below w.heap.size w w' := by
 have hrt : restT x = { x with kind := 0, max := 0, elem := 0, key := 0 } := by unfold restT; simp [h]
 have hf := form_of x (by rw [h]; unfold KindIn; omega)
 have hc : ∀ W, Calls Tryz.prog 120 #[.agg #[.int .i64 0, .string ⟨x.name.toArray⟩, .int .i64 x.low, .int .i64 x.high, .int .i64 0, .slice A1 x.syms.length c1, .slice A2 x.mems.length c2, .int .i64 0, .int .i64 0, .bool x.opn], .agg #[.int .i64 0, .string ⟨#[]⟩, .int .i64 0, .int .i64 0, .int .i64 0, .slice none 0 0, .slice none 0 0, .int .i64 0, .int .i64 0, .bool false]] W fun e w' => e = .returned (.bool (sameZ (restT x) typZ)) ∧ Below W.heap.size W w' := fun W => by
  rw [hrt]
  exact equalz_any ({ x with kind := 0, max := 0, elem := 0, key := 0 } : Typ) typZ A1 A2 c1 c2 W
 have hok : okT x = (decide (0 ≤ x.max) && decide (x.max ≤ 50)) := by unfold okT; simp [h]
 rw [hok] at hf
 have HC := Lib.hid hc
 clear hc hok hrt
 simp only [typA, h]
 go_enter Tryz.func96, Tryz.ntmps96
 go_upto_region 1 with fail
 refine am1 (fun wd2 hb1 T => ?_)
 have hw3 := hb1
 clear hb1
 obtain ⟨cT_0, cT_1, cT_2, cT_3, cT_4, cT_5, cT_6, cT_7, cT_8, cT_9⟩ := T.out.c10
 go_upto_region 2 with fail
 clear cT_0 cT_1 cT_2 cT_3 cT_4 cT_5 cT_6 cT_7 cT_8 cT_9
 refine am1 (fun wd5 hb4 R => ?_)
 have hl7 := T.out.here
 have hl8 := hw3.size
 replace T := b1 T hb4
 replace hw3 := dT hw3 hb4
 clear hb4
 generalize wd2.heap.size = g6 at *
 have cR_0 := R.out.e0
 have fR_0 := R.out.free 0
 go_upto_region 3 with fail
 clear cR_0 fR_0
 generalize hE10 : wd5.setCell _ _ = wd9
 replace T := f1 T (eF hE10)
 replace R := dS0 R hE10
 replace hw3 := tf hw3 hE10
 clear hE10
 obtain ⟨cT_0, cT_1, cT_2, cT_3, cT_4, cT_5, cT_6, cT_7, cT_8, cT_9⟩ := T.out.c10
 by_cases hlo : 0 ≤ x.max
 ·
  have hd : decide (0 ≤ x.max) = true := decide_eq_true hlo
  by_cases hhi : x.max ≤ 50
  ·
   have hd2 : decide (x.max ≤ 50) = true := decide_eq_true hhi
   have Hf : Hid (formB x = sameZ (restT x) typZ) := by show _ = _; rw [hf, hd, hd2]; rfl
   clear hf h
   obtain ⟨-, -, -, -, cR_4, -, -, cR_7, cR_8, -⟩ := R.out.c10
   have fR_4 := R.out.free 4
   have fR_8 := R.out.free 8
   have fR_7 := R.out.free 7
   go_upto_region 29 with fail
   clear cT_0 cT_1 cT_2 cT_3 cT_4 cT_5 cT_6 cT_7 cT_8 cT_9 cR_4 cR_8 cR_7 fR_4 fR_8 fR_7
   generalize hE12 : wd9.setCell _ _ = wd11
   replace T := f1 T (eF hE12)
   replace R := dS4 R hE12
   replace hw3 := tf hw3 hE12
   clear hE12
   generalize hE14 : wd11.setCell _ _ = wd13
   replace T := f1 T (eF hE14)
   replace R := dS8 R hE14
   replace hw3 := tf hw3 hE14
   clear hE14
   generalize hE16 : wd13.setCell _ _ = wd15
   replace T := f1 T (eF hE16)
   replace R := dS7 R hE16
   replace hw3 := tf hw3 hE16
   clear hE16
   obtain ⟨cR_0, cR_1, cR_2, cR_3, cR_4, cR_5, cR_6, cR_7, cR_8, cR_9⟩ := R.out.c10
   go_wp2_with fail
   clear cR_0 cR_1 cR_2 cR_3 cR_4 cR_5 cR_6 cR_7 cR_8 cR_9
   ((with_reducible refine (HC.out _).mono ?_); rintro e wd17 ⟨rfl, hb18⟩)
   obtain ⟨T, R⟩ := b2 T R hb18
   replace hw3 := dT hw3 hb18
   clear hb18
   go_wp2_with fail
   go_ret
   exact ⟨ret_bool Hf.out.symm, hw3⟩
  have hd2 : decide (x.max ≤ 50) = false := decide_eq_false hhi
  have Hf : Hid (formB x = false) := by show _ = _; rw [hf, hd, hd2]; rfl
  clear hf h
  obtain ⟨-, -, -, -, cR_4, -, -, cR_7, cR_8, -⟩ := R.out.c10
  have fR_4 := R.out.free 4
  have fR_8 := R.out.free 8
  have fR_7 := R.out.free 7
  go_upto_region 29 with fail
  clear cT_0 cT_1 cT_2 cT_3 cT_4 cT_5 cT_6 cT_7 cT_8 cT_9 cR_4 cR_8 cR_7 fR_4 fR_8 fR_7
  generalize hE12 : wd9.setCell _ _ = wd11
  replace T := f1 T (eF hE12)
  replace R := dS4 R hE12
  replace hw3 := tf hw3 hE12
  clear hE12
  generalize hE14 : wd11.setCell _ _ = wd13
  replace T := f1 T (eF hE14)
  replace R := dS8 R hE14
  replace hw3 := tf hw3 hE14
  clear hE14
  generalize hE16 : wd13.setCell _ _ = wd15
  replace T := f1 T (eF hE16)
  replace R := dS7 R hE16
  replace hw3 := tf hw3 hE16
  clear hE16
  obtain ⟨cR_0, cR_1, cR_2, cR_3, cR_4, cR_5, cR_6, cR_7, cR_8, cR_9⟩ := R.out.c10
  go_wp2_with fail
  go_ret
  exact ⟨ret_bool Hf.out.symm, hw3⟩
 have hd : decide (0 ≤ x.max) = false := decide_eq_false hlo
 have Hf : Hid (formB x = false) := by show _ = _; rw [hf, hd]; rfl
 clear hf h
 obtain ⟨-, -, -, -, cR_4, -, -, cR_7, cR_8, -⟩ := R.out.c10
 have fR_4 := R.out.free 4
 have fR_8 := R.out.free 8
 have fR_7 := R.out.free 7
 go_upto_region 29 with fail
 clear cT_0 cT_1 cT_2 cT_3 cT_4 cT_5 cT_6 cT_7 cT_8 cT_9 cR_4 cR_8 cR_7 fR_4 fR_8 fR_7
 generalize hE12 : wd9.setCell _ _ = wd11
 replace T := f1 T (eF hE12)
 replace R := dS4 R hE12
 replace hw3 := tf hw3 hE12
 clear hE12
 generalize hE14 : wd11.setCell _ _ = wd13
 replace T := f1 T (eF hE14)
 replace R := dS8 R hE14
 replace hw3 := tf hw3 hE14
 clear hE14
 generalize hE16 : wd13.setCell _ _ = wd15
 replace T := f1 T (eF hE16)
 replace R := dS7 R hE16
 replace hw3 := tf hw3 hE16
 clear hE16
 obtain ⟨cR_0, cR_1, cR_2, cR_3, cR_4, cR_5, cR_6, cR_7, cR_8, cR_9⟩ := R.out.c10
 go_wp2_with fail
 go_ret
 exact ⟨ret_bool Hf.out.symm, hw3⟩
set_option maxRecDepth 100000 in
theorem form9_any (x : Typ) (A1 A2 : Option Addr) (c1 c2 : Nat) (w : World) (h : x.kind = 9) (_ : x.syms.length ≤ 6000000000000 ∧ x.mems.length ≤ 6000000000000) (_ : TypAt w w.heap.size x (.slice A1 x.syms.length c1) (.slice A2 x.mems.length c2)) :
  Calls Tryz.prog 96 #[typA x (.slice A1 x.syms.length c1) (.slice A2 x.mems.length c2)] w fun e w' => e = .returned (.bool (formB x)) ∧ Below w.heap.size w w' := by
 have hrt : restT x = { x with kind := 0, elem := 0 } := by unfold restT; simp [h]
 have hf := form_of x (by rw [h]; unfold KindIn; omega)
 have hc : ∀ W, Calls Tryz.prog 120 #[.agg #[.int .i64 0, .string ⟨x.name.toArray⟩, .int .i64 x.low, .int .i64 x.high, .int .i64 x.max, .slice A1 x.syms.length c1, .slice A2 x.mems.length c2, .int .i64 x.key, .int .i64 0, .bool x.opn], .agg #[.int .i64 0, .string ⟨#[]⟩, .int .i64 0, .int .i64 0, .int .i64 0, .slice none 0 0, .slice none 0 0, .int .i64 0, .int .i64 0, .bool false]] W fun e w' => e = .returned (.bool (sameZ (restT x) typZ)) ∧ Below W.heap.size W w' := fun W => by
  rw [hrt]
  exact equalz_any ({ x with kind := 0, elem := 0 } : Typ) typZ A1 A2 c1 c2 W
 have hok : okT x = true := by unfold okT; simp [h]
 rw [hok] at hf
 have HC := Lib.hid hc
 clear hc hok hrt
 simp only [typA, h]
 go_enter Tryz.func96, Tryz.ntmps96
 go_upto_region 1 with fail
 refine am1 (fun wd2 hb1 T => ?_)
 have hw3 := hb1
 clear hb1
 obtain ⟨cT_0, cT_1, cT_2, cT_3, cT_4, cT_5, cT_6, cT_7, cT_8, cT_9⟩ := T.out.c10
 go_upto_region 2 with fail
 clear cT_0 cT_1 cT_2 cT_3 cT_4 cT_5 cT_6 cT_7 cT_8 cT_9
 refine am1 (fun wd5 hb4 R => ?_)
 have hl7 := T.out.here
 have hl8 := hw3.size
 replace T := b1 T hb4
 replace hw3 := dT hw3 hb4
 clear hb4
 generalize wd2.heap.size = g6 at *
 have cR_0 := R.out.e0
 have fR_0 := R.out.free 0
 go_upto_region 3 with fail
 clear cR_0 fR_0
 generalize hE10 : wd5.setCell _ _ = wd9
 replace T := f1 T (eF hE10)
 replace R := dS0 R hE10
 replace hw3 := tf hw3 hE10
 clear hE10
 obtain ⟨cT_0, cT_1, cT_2, cT_3, cT_4, cT_5, cT_6, cT_7, cT_8, cT_9⟩ := T.out.c10
 have Hf : Hid (formB x = sameZ (restT x) typZ) := by show _ = _; rw [hf]; rfl
 clear hf h
 have cR_8 := R.out.e8
 have fR_8 := R.out.free 8
 go_upto_region 29 with fail
 clear cT_0 cT_1 cT_2 cT_3 cT_4 cT_5 cT_6 cT_7 cT_8 cT_9 cR_8 fR_8
 generalize hE12 : wd9.setCell _ _ = wd11
 replace T := f1 T (eF hE12)
 replace R := dS8 R hE12
 replace hw3 := tf hw3 hE12
 clear hE12
 obtain ⟨cR_0, cR_1, cR_2, cR_3, cR_4, cR_5, cR_6, cR_7, cR_8, cR_9⟩ := R.out.c10
 go_wp2_with fail
 clear cR_0 cR_1 cR_2 cR_3 cR_4 cR_5 cR_6 cR_7 cR_8 cR_9
 ((with_reducible refine (HC.out _).mono ?_); rintro e wd13 ⟨rfl, hb14⟩)
 obtain ⟨T, R⟩ := b2 T R hb14
 replace hw3 := dT hw3 hb14
 clear hb14
 go_wp2_with fail
 go_ret
 exact ⟨ret_bool Hf.out.symm, hw3⟩
theorem form5_any (x : Typ) (A1 A2 : Option Addr) (c1 c2 : Nat) (w : World) (h : x.kind = 5) (hl : x.syms.length ≤ 6000000000000 ∧ x.mems.length ≤ 6000000000000) (ht : TypAt w w.heap.size x (.slice A1 x.syms.length c1) (.slice A2 x.mems.length c2)) :
  Calls Tryz.prog 96 #[typA x (.slice A1 x.syms.length c1) (.slice A2 x.mems.length c2)] w fun e w' => e = .returned (.bool (formB x)) ∧ Below w.heap.size w w' := by
 cases ho : x.opn with
 | true => exact form5true_any x A1 A2 c1 c2 w h ho hl ht
 | false => exact form5false_any x A1 A2 c1 c2 w h ho hl ht
theorem form6_any (x : Typ) (A1 A2 : Option Addr) (c1 c2 : Nat) (w : World) (h : x.kind = 6) (hl : x.syms.length ≤ 6000000000000 ∧ x.mems.length ≤ 6000000000000) (ht : TypAt w w.heap.size x (.slice A1 x.syms.length c1) (.slice A2 x.mems.length c2)) :
  Calls Tryz.prog 96 #[typA x (.slice A1 x.syms.length c1) (.slice A2 x.mems.length c2)] w fun e w' => e = .returned (.bool (formB x)) ∧ Below w.heap.size w w' := by
 cases ho : x.opn with
 | true => exact form6true_any x A1 A2 c1 c2 w h ho hl ht
 | false => exact form6false_any x A1 A2 c1 c2 w h ho hl ht
set_option maxRecDepth 100000 in
theorem form0_any (x : Typ) (A1 A2 : Option Addr) (c1 c2 : Nat) (w : World) (h : ¬ KindIn x.kind) :
  Calls Tryz.prog 96 #[typA x (.slice A1 x.syms.length c1) (.slice A2 x.mems.length c2)] w fun e w' => e = .returned (.bool (formB x)) ∧ Below w.heap.size w w' := by
 have Hf : Hid (formB x = false) := by show _ = _; unfold formB; rw [decide_eq_false (by unfold KindIn at h; exact h)]; rfl
 have t1 : (x.kind == 1) = false := beq_eq_false_iff_ne.2 (fun e => h (by rw [e]; unfold KindIn; omega))
 have t2 : (x.kind == 2) = false := beq_eq_false_iff_ne.2 (fun e => h (by rw [e]; unfold KindIn; omega))
 have t3 : (x.kind == 3) = false := beq_eq_false_iff_ne.2 (fun e => h (by rw [e]; unfold KindIn; omega))
 have t4 : (x.kind == 4) = false := beq_eq_false_iff_ne.2 (fun e => h (by rw [e]; unfold KindIn; omega))
 have t5 : (x.kind == 5) = false := beq_eq_false_iff_ne.2 (fun e => h (by rw [e]; unfold KindIn; omega))
 have t6 : (x.kind == 6) = false := beq_eq_false_iff_ne.2 (fun e => h (by rw [e]; unfold KindIn; omega))
 have t7 : (x.kind == 7) = false := beq_eq_false_iff_ne.2 (fun e => h (by rw [e]; unfold KindIn; omega))
 have t8 : (x.kind == 8) = false := beq_eq_false_iff_ne.2 (fun e => h (by rw [e]; unfold KindIn; omega))
 have t9 : (x.kind == 9) = false := beq_eq_false_iff_ne.2 (fun e => h (by rw [e]; unfold KindIn; omega))
 clear h
 go_enter Tryz.func96, Tryz.ntmps96
 go_upto_region 1 with fail
 refine am1 (fun wd2 hb1 T => ?_)
 have hw3 := hb1
 clear hb1
 obtain ⟨cT_0, cT_1, cT_2, cT_3, cT_4, cT_5, cT_6, cT_7, cT_8, cT_9⟩ := T.out.c10
 go_upto_region 2 with fail
 clear cT_0 cT_1 cT_2 cT_3 cT_4 cT_5 cT_6 cT_7 cT_8 cT_9
 refine am1 (fun wd5 hb4 R => ?_)
 have hl7 := T.out.here
 have hl8 := hw3.size
 replace T := b1 T hb4
 replace hw3 := dT hw3 hb4
 clear hb4
 generalize wd2.heap.size = g6 at *
 have cR_0 := R.out.e0
 have fR_0 := R.out.free 0
 go_upto_region 3 with fail
 clear cR_0 fR_0
 generalize hE10 : wd5.setCell _ _ = wd9
 replace T := f1 T (eF hE10)
 replace R := dS0 R hE10
 replace hw3 := tf hw3 hE10
 clear hE10
 obtain ⟨cT_0, cT_1, cT_2, cT_3, cT_4, cT_5, cT_6, cT_7, cT_8, cT_9⟩ := T.out.c10
 go_wp2_with fail
 go_ret
 exact ⟨ret_bool Hf.out.symm, hw3⟩
theorem form_any (x : Typ) (vs vm : Value) (w : World) (hl : x.syms.length ≤ 6000000000000 ∧ x.mems.length ≤ 6000000000000) (ht : TypAt w w.heap.size x vs vm) :
  Calls Tryz.prog 96 #[typA x vs vm] w fun e w' => e = .returned (.bool (formB x)) ∧ Below w.heap.size w w' := by
 obtain ⟨A1, c1, A2, c2, rfl, rfl, -, -⟩ := ht.forms
 by_cases hk : KindIn x.kind
 ·
  rcases kind_cases hk with h | h | h | h | h | h | h | h | h
  ·
   exact form1_any x A1 A2 c1 c2 w h hl ht
  ·
   exact form2_any x A1 A2 c1 c2 w h hl ht
  ·
   exact form3_any x A1 A2 c1 c2 w h hl ht
  ·
   exact form4_any x A1 A2 c1 c2 w h hl ht
  ·
   exact form5_any x A1 A2 c1 c2 w h hl ht
  ·
   exact form6_any x A1 A2 c1 c2 w h hl ht
  ·
   exact form7_any x A1 A2 c1 c2 w h hl ht
  ·
   exact form8_any x A1 A2 c1 c2 w h hl ht
  exact form9_any x A1 A2 c1 c2 w h hl ht
 exact form0_any x A1 A2 c1 c2 w hk
end Go.Proofs.YtlamhkffnlgofaaGreatDoor

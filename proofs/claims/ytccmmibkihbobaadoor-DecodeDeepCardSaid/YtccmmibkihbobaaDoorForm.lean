/- What schema.form computes. No condition. -/
import Derived.Test.YtccmmibkihbobaaDoorMembers
import Derived.Test.YtccmmibkihbobaaDoorHAG
set_option maxHeartbeats 4000000
namespace Go.Proofs.YtccmmibkihbobaaDoor
open Go.ChangeShapes Go.WideShapes Go.ChangeAt Go.RowKit
def typZ : Typ := { kind := 0, name := [], low := 0, high := 0, max := 0, syms := [], mems := [], key := 0, elem := 0, opn := false }
def restT (x : Typ) : Typ :=
 if x.kind = 2 then { x with kind := 0, low := 0, high := 0 }
 else if x.kind = 3 then { x with kind := 0, max := 0 }
 else if x.kind = 4 then { x with kind := 0, name := [], syms := [], opn := false }
 else if x.kind = 5 then { x with kind := 0, name := [], mems := [] }
 else if x.kind = 6 then { x with kind := 0, name := [], mems := [], opn := false }
 else if x.kind = 7 then { x with kind := 0, max := 0, elem := 0 }
 else if x.kind = 8 then { x with kind := 0, max := 0, elem := 0, key := 0 }
 else if x.kind = 9 then { x with kind := 0, elem := 0 }
 else { x with kind := 0 }
def okT (x : Typ) : Bool :=
 if x.kind = 2 then decide (x.low ≤ x.high)
 else if x.kind = 3 then decide (0 ≤ x.max) && decide (x.max ≤ 200)
 else if x.kind = 4 then nameB x.name && symB x.syms
 else if x.kind = 5 ∨ x.kind = 6 then nameB x.name && membersB x
 else if x.kind = 7 ∨ x.kind = 8 then decide (0 ≤ x.max) && decide (x.max ≤ 50)
 else true
def formB (x : Typ) : Bool := decide (1 ≤ x.kind ∧ x.kind ≤ 9) && (okT x && sameZ (restT x) typZ)
theorem form_of (x : Typ) (h : KindIn x.kind) : formB x = (okT x && sameZ (restT x) typZ) := by
 unfold formB KindIn at *; rw [decide_eq_true h]; rfl
set_option maxRecDepth 100000 in
theorem form1_any (x : Typ) (A1 A2 : Option Addr) (c1 c2 : Nat) (w : World) (h : x.kind = 1) (_ : x.syms.length ≤ 6000000000000 ∧ x.mems.length ≤ 6000000000000) (_ : TypAt w w.heap.size x (.slice A1 x.syms.length c1) (.slice A2 x.mems.length c2)) :
  Calls Tryd.prog 37 #[typA x (.slice A1 x.syms.length c1) (.slice A2 x.mems.length c2)] w fun e w' => e = .returned (.bool (formB x)) ∧ Below w.heap.size w w' := by
 have hrt : restT x = { x with kind := 0 } := by unfold restT; simp [h]
 have hf := form_of x (by rw [h]; unfold KindIn; omega)
 have hc : ∀ W, Calls Tryd.prog 60 #[.agg #[.int .i64 0, .string ⟨x.name.toArray⟩, .int .i64 x.low, .int .i64 x.high, .int .i64 x.max, .slice A1 x.syms.length c1, .slice A2 x.mems.length c2, .int .i64 x.key, .int .i64 x.elem, .bool x.opn], .agg #[.int .i64 0, .string ⟨#[]⟩, .int .i64 0, .int .i64 0, .int .i64 0, .slice none 0 0, .slice none 0 0, .int .i64 0, .int .i64 0, .bool false]] W fun e w' => e = .returned (.bool (sameZ (restT x) typZ)) ∧ Below W.heap.size W w' := fun W => by
  rw [hrt]
  exact equalz_any ({ x with kind := 0 } : Typ) typZ A1 A2 c1 c2 W
 have hok : okT x = true := by unfold okT; simp [h]
 rw [hok] at hf
 have HC := Lib.hid hc
 clear hc hok hrt
 simp only [typA, h]
 go_enter Tryd.func37, Tryd.ntmps37
 go_upto_region 1 with fail
 obtain ⟨wd2, hE3⟩ : ∃ ww, ww = w.alloc (.cells #[.int .i64 1, .string ⟨x.name.toArray⟩, .int .i64 x.low, .int .i64 x.high, .int .i64 x.max, .slice A1 x.syms.length c1, .slice A2 x.mems.length c2, .int .i64 x.key, .int .i64 x.elem, .bool x.opn] 33) := ⟨_, rfl⟩
 rw [← hE3]
 have hb1 := aB hE3
 have T := aN hE3
 clear hE3
 have hw4 := hb1
 clear hb1
 obtain ⟨cT_0, cT_1, cT_2, cT_3, cT_4, cT_5, cT_6, cT_7, cT_8, cT_9⟩ := T.out.c10
 go_upto_region 2 with fail
 clear cT_0 cT_1 cT_2 cT_3 cT_4 cT_5 cT_6 cT_7 cT_8 cT_9
 obtain ⟨wd6, hE7⟩ : ∃ ww, ww = wd2.alloc (.cells #[.int .i64 1, .string ⟨x.name.toArray⟩, .int .i64 x.low, .int .i64 x.high, .int .i64 x.max, .slice A1 x.syms.length c1, .slice A2 x.mems.length c2, .int .i64 x.key, .int .i64 x.elem, .bool x.opn] 33) := ⟨_, rfl⟩
 rw [← hE7]
 have hb5 := aB hE7
 have R := aN hE7
 clear hE7
 have hl9 := T.out.here
 have hl10 := hw4.size
 replace T := dB T hb5
 replace hw4 := dT hw4 hb5
 clear hb5
 generalize wd2.heap.size = g8 at *
 have cR_0 : wd6.cell? ⟨g8, 0, none⟩ = some (.int .i64 1) := R.out.cell 0
 have fR_0 := R.out.free 0
 go_upto_region 3 with fail
 clear cR_0 fR_0
 obtain ⟨wd11, hE12⟩ : ∃ ww, ww = wd6.setCell ⟨g8, 0, none⟩ (.int .i64 0) := ⟨_, rfl⟩
 rw [← hE12]
 replace T := dF T hE12 (by omega)
 replace R : Hid (Has wd11 (g8) 33 #[.int .i64 0, .string ⟨x.name.toArray⟩, .int .i64 x.low, .int .i64 x.high, .int .i64 x.max, .slice A1 x.syms.length c1, .slice A2 x.mems.length c2, .int .i64 x.key, .int .i64 x.elem, .bool x.opn]) := Lib.hid (by simpa using dS R hE12)
 replace hw4 := tF hw4 hE12 (by omega)
 clear hE12
 obtain ⟨cT_0, cT_1, cT_2, cT_3, cT_4, cT_5, cT_6, cT_7, cT_8, cT_9⟩ := T.out.c10
 have Hf : Hid (formB x = sameZ (restT x) typZ) := by show _ = _; rw [hf]; rfl
 clear hf h
 go_upto_region 29 with fail
 obtain ⟨cR_0, cR_1, cR_2, cR_3, cR_4, cR_5, cR_6, cR_7, cR_8, cR_9⟩ := R.out.c10
 go_wp2_with fail
 clear cT_0 cT_1 cT_2 cT_3 cT_4 cT_5 cT_6 cT_7 cT_8 cT_9 cR_0 cR_1 cR_2 cR_3 cR_4 cR_5 cR_6 cR_7 cR_8 cR_9
 ((with_reducible refine (HC.out _).mono ?_); rintro e wd13 ⟨rfl, hb14⟩)
 replace T := dB T hb14
 replace R := dB R hb14
 replace hw4 := dT hw4 hb14
 clear hb14
 go_wp2_with fail
 go_ret
 exact ⟨ret_bool Hf.out.symm, hw4⟩
set_option maxRecDepth 100000 in
theorem form2_any (x : Typ) (A1 A2 : Option Addr) (c1 c2 : Nat) (w : World) (h : x.kind = 2) (_ : x.syms.length ≤ 6000000000000 ∧ x.mems.length ≤ 6000000000000) (_ : TypAt w w.heap.size x (.slice A1 x.syms.length c1) (.slice A2 x.mems.length c2)) :
  Calls Tryd.prog 37 #[typA x (.slice A1 x.syms.length c1) (.slice A2 x.mems.length c2)] w fun e w' => e = .returned (.bool (formB x)) ∧ Below w.heap.size w w' := by
 have hrt : restT x = { x with kind := 0, low := 0, high := 0 } := by unfold restT; simp [h]
 have hf := form_of x (by rw [h]; unfold KindIn; omega)
 have hc : ∀ W, Calls Tryd.prog 60 #[.agg #[.int .i64 0, .string ⟨x.name.toArray⟩, .int .i64 0, .int .i64 0, .int .i64 x.max, .slice A1 x.syms.length c1, .slice A2 x.mems.length c2, .int .i64 x.key, .int .i64 x.elem, .bool x.opn], .agg #[.int .i64 0, .string ⟨#[]⟩, .int .i64 0, .int .i64 0, .int .i64 0, .slice none 0 0, .slice none 0 0, .int .i64 0, .int .i64 0, .bool false]] W fun e w' => e = .returned (.bool (sameZ (restT x) typZ)) ∧ Below W.heap.size W w' := fun W => by
  rw [hrt]
  exact equalz_any ({ x with kind := 0, low := 0, high := 0 } : Typ) typZ A1 A2 c1 c2 W
 have hok : okT x = decide (x.low ≤ x.high) := by unfold okT; simp [h]
 rw [hok] at hf
 have HC := Lib.hid hc
 clear hc hok hrt
 simp only [typA, h]
 go_enter Tryd.func37, Tryd.ntmps37
 go_upto_region 1 with fail
 obtain ⟨wd16, hE17⟩ : ∃ ww, ww = w.alloc (.cells #[.int .i64 2, .string ⟨x.name.toArray⟩, .int .i64 x.low, .int .i64 x.high, .int .i64 x.max, .slice A1 x.syms.length c1, .slice A2 x.mems.length c2, .int .i64 x.key, .int .i64 x.elem, .bool x.opn] 33) := ⟨_, rfl⟩
 rw [← hE17]
 have hb15 := aB hE17
 have T := aN hE17
 clear hE17
 have hw18 := hb15
 clear hb15
 obtain ⟨cT_0, cT_1, cT_2, cT_3, cT_4, cT_5, cT_6, cT_7, cT_8, cT_9⟩ := T.out.c10
 go_upto_region 2 with fail
 clear cT_0 cT_1 cT_2 cT_3 cT_4 cT_5 cT_6 cT_7 cT_8 cT_9
 obtain ⟨wd20, hE21⟩ : ∃ ww, ww = wd16.alloc (.cells #[.int .i64 2, .string ⟨x.name.toArray⟩, .int .i64 x.low, .int .i64 x.high, .int .i64 x.max, .slice A1 x.syms.length c1, .slice A2 x.mems.length c2, .int .i64 x.key, .int .i64 x.elem, .bool x.opn] 33) := ⟨_, rfl⟩
 rw [← hE21]
 have hb19 := aB hE21
 have R := aN hE21
 clear hE21
 have hl23 := T.out.here
 have hl24 := hw18.size
 replace T := dB T hb19
 replace hw18 := dT hw18 hb19
 clear hb19
 generalize wd16.heap.size = g22 at *
 have cR_0 : wd20.cell? ⟨g22, 0, none⟩ = some (.int .i64 2) := R.out.cell 0
 have fR_0 := R.out.free 0
 go_upto_region 3 with fail
 clear cR_0 fR_0
 obtain ⟨wd25, hE26⟩ : ∃ ww, ww = wd20.setCell ⟨g22, 0, none⟩ (.int .i64 0) := ⟨_, rfl⟩
 rw [← hE26]
 replace T := dF T hE26 (by omega)
 replace R : Hid (Has wd25 (g22) 33 #[.int .i64 0, .string ⟨x.name.toArray⟩, .int .i64 x.low, .int .i64 x.high, .int .i64 x.max, .slice A1 x.syms.length c1, .slice A2 x.mems.length c2, .int .i64 x.key, .int .i64 x.elem, .bool x.opn]) := Lib.hid (by simpa using dS R hE26)
 replace hw18 := tF hw18 hE26 (by omega)
 clear hE26
 obtain ⟨cT_0, cT_1, cT_2, cT_3, cT_4, cT_5, cT_6, cT_7, cT_8, cT_9⟩ := T.out.c10
 by_cases hlo : x.low ≤ x.high
 ·
  have hd : decide (x.low ≤ x.high) = true := decide_eq_true hlo
  have Hf : Hid (formB x = sameZ (restT x) typZ) := by show _ = _; rw [hf, hd]; rfl
  clear hf h
  have cR_2 : wd25.cell? ⟨g22, 2, none⟩ = some (.int .i64 x.low) := R.out.cell 2
  have cR_3 : wd25.cell? ⟨g22, 3, none⟩ = some (.int .i64 x.high) := R.out.cell 3
  have fR_2 := R.out.free 2
  have fR_3 := R.out.free 3
  go_upto_region 29 with fail
  clear cT_0 cT_1 cT_2 cT_3 cT_4 cT_5 cT_6 cT_7 cT_8 cT_9 cR_2 cR_3 fR_2 fR_3
  obtain ⟨wd27, hE28⟩ : ∃ ww, ww = wd25.setCell ⟨g22, 2, none⟩ (.int .i64 0) := ⟨_, rfl⟩
  rw [← hE28]
  replace T := dF T hE28 (by omega)
  replace R : Hid (Has wd27 (g22) 33 #[.int .i64 0, .string ⟨x.name.toArray⟩, .int .i64 0, .int .i64 x.high, .int .i64 x.max, .slice A1 x.syms.length c1, .slice A2 x.mems.length c2, .int .i64 x.key, .int .i64 x.elem, .bool x.opn]) := Lib.hid (by simpa using dS R hE28)
  replace hw18 := tF hw18 hE28 (by omega)
  clear hE28
  obtain ⟨wd29, hE30⟩ : ∃ ww, ww = wd27.setCell ⟨g22, 3, none⟩ (.int .i64 0) := ⟨_, rfl⟩
  rw [← hE30]
  replace T := dF T hE30 (by omega)
  replace R : Hid (Has wd29 (g22) 33 #[.int .i64 0, .string ⟨x.name.toArray⟩, .int .i64 0, .int .i64 0, .int .i64 x.max, .slice A1 x.syms.length c1, .slice A2 x.mems.length c2, .int .i64 x.key, .int .i64 x.elem, .bool x.opn]) := Lib.hid (by simpa using dS R hE30)
  replace hw18 := tF hw18 hE30 (by omega)
  clear hE30
  obtain ⟨cR_0, cR_1, cR_2, cR_3, cR_4, cR_5, cR_6, cR_7, cR_8, cR_9⟩ := R.out.c10
  go_wp2_with fail
  clear cR_0 cR_1 cR_2 cR_3 cR_4 cR_5 cR_6 cR_7 cR_8 cR_9
  ((with_reducible refine (HC.out _).mono ?_); rintro e wd31 ⟨rfl, hb32⟩)
  replace T := dB T hb32
  replace R := dB R hb32
  replace hw18 := dT hw18 hb32
  clear hb32
  go_wp2_with fail
  go_ret
  exact ⟨ret_bool Hf.out.symm, hw18⟩
 have hd : decide (x.low ≤ x.high) = false := decide_eq_false hlo
 have Hf : Hid (formB x = false) := by show _ = _; rw [hf, hd]; rfl
 clear hf h
 have cR_2 : wd25.cell? ⟨g22, 2, none⟩ = some (.int .i64 x.low) := R.out.cell 2
 have cR_3 : wd25.cell? ⟨g22, 3, none⟩ = some (.int .i64 x.high) := R.out.cell 3
 have fR_2 := R.out.free 2
 have fR_3 := R.out.free 3
 go_upto_region 29 with fail
 clear cT_0 cT_1 cT_2 cT_3 cT_4 cT_5 cT_6 cT_7 cT_8 cT_9 cR_2 cR_3 fR_2 fR_3
 obtain ⟨wd33, hE34⟩ : ∃ ww, ww = wd25.setCell ⟨g22, 2, none⟩ (.int .i64 0) := ⟨_, rfl⟩
 rw [← hE34]
 replace T := dF T hE34 (by omega)
 replace R : Hid (Has wd33 (g22) 33 #[.int .i64 0, .string ⟨x.name.toArray⟩, .int .i64 0, .int .i64 x.high, .int .i64 x.max, .slice A1 x.syms.length c1, .slice A2 x.mems.length c2, .int .i64 x.key, .int .i64 x.elem, .bool x.opn]) := Lib.hid (by simpa using dS R hE34)
 replace hw18 := tF hw18 hE34 (by omega)
 clear hE34
 obtain ⟨wd35, hE36⟩ : ∃ ww, ww = wd33.setCell ⟨g22, 3, none⟩ (.int .i64 0) := ⟨_, rfl⟩
 rw [← hE36]
 replace T := dF T hE36 (by omega)
 replace R : Hid (Has wd35 (g22) 33 #[.int .i64 0, .string ⟨x.name.toArray⟩, .int .i64 0, .int .i64 0, .int .i64 x.max, .slice A1 x.syms.length c1, .slice A2 x.mems.length c2, .int .i64 x.key, .int .i64 x.elem, .bool x.opn]) := Lib.hid (by simpa using dS R hE36)
 replace hw18 := tF hw18 hE36 (by omega)
 clear hE36
 obtain ⟨cR_0, cR_1, cR_2, cR_3, cR_4, cR_5, cR_6, cR_7, cR_8, cR_9⟩ := R.out.c10
 go_wp2_with fail
 go_ret
 exact ⟨ret_bool Hf.out.symm, hw18⟩
set_option maxRecDepth 100000 in
theorem form3_any (x : Typ) (A1 A2 : Option Addr) (c1 c2 : Nat) (w : World) (h : x.kind = 3) (_ : x.syms.length ≤ 6000000000000 ∧ x.mems.length ≤ 6000000000000) (_ : TypAt w w.heap.size x (.slice A1 x.syms.length c1) (.slice A2 x.mems.length c2)) :
  Calls Tryd.prog 37 #[typA x (.slice A1 x.syms.length c1) (.slice A2 x.mems.length c2)] w fun e w' => e = .returned (.bool (formB x)) ∧ Below w.heap.size w w' := by
 have hrt : restT x = { x with kind := 0, max := 0 } := by unfold restT; simp [h]
 have hf := form_of x (by rw [h]; unfold KindIn; omega)
 have hc : ∀ W, Calls Tryd.prog 60 #[.agg #[.int .i64 0, .string ⟨x.name.toArray⟩, .int .i64 x.low, .int .i64 x.high, .int .i64 0, .slice A1 x.syms.length c1, .slice A2 x.mems.length c2, .int .i64 x.key, .int .i64 x.elem, .bool x.opn], .agg #[.int .i64 0, .string ⟨#[]⟩, .int .i64 0, .int .i64 0, .int .i64 0, .slice none 0 0, .slice none 0 0, .int .i64 0, .int .i64 0, .bool false]] W fun e w' => e = .returned (.bool (sameZ (restT x) typZ)) ∧ Below W.heap.size W w' := fun W => by
  rw [hrt]
  exact equalz_any ({ x with kind := 0, max := 0 } : Typ) typZ A1 A2 c1 c2 W
 have hok : okT x = (decide (0 ≤ x.max) && decide (x.max ≤ 200)) := by unfold okT; simp [h]
 rw [hok] at hf
 have HC := Lib.hid hc
 clear hc hok hrt
 simp only [typA, h]
 go_enter Tryd.func37, Tryd.ntmps37
 go_upto_region 1 with fail
 obtain ⟨wd38, hE39⟩ : ∃ ww, ww = w.alloc (.cells #[.int .i64 3, .string ⟨x.name.toArray⟩, .int .i64 x.low, .int .i64 x.high, .int .i64 x.max, .slice A1 x.syms.length c1, .slice A2 x.mems.length c2, .int .i64 x.key, .int .i64 x.elem, .bool x.opn] 33) := ⟨_, rfl⟩
 rw [← hE39]
 have hb37 := aB hE39
 have T := aN hE39
 clear hE39
 have hw40 := hb37
 clear hb37
 obtain ⟨cT_0, cT_1, cT_2, cT_3, cT_4, cT_5, cT_6, cT_7, cT_8, cT_9⟩ := T.out.c10
 go_upto_region 2 with fail
 clear cT_0 cT_1 cT_2 cT_3 cT_4 cT_5 cT_6 cT_7 cT_8 cT_9
 obtain ⟨wd42, hE43⟩ : ∃ ww, ww = wd38.alloc (.cells #[.int .i64 3, .string ⟨x.name.toArray⟩, .int .i64 x.low, .int .i64 x.high, .int .i64 x.max, .slice A1 x.syms.length c1, .slice A2 x.mems.length c2, .int .i64 x.key, .int .i64 x.elem, .bool x.opn] 33) := ⟨_, rfl⟩
 rw [← hE43]
 have hb41 := aB hE43
 have R := aN hE43
 clear hE43
 have hl45 := T.out.here
 have hl46 := hw40.size
 replace T := dB T hb41
 replace hw40 := dT hw40 hb41
 clear hb41
 generalize wd38.heap.size = g44 at *
 have cR_0 : wd42.cell? ⟨g44, 0, none⟩ = some (.int .i64 3) := R.out.cell 0
 have fR_0 := R.out.free 0
 go_upto_region 3 with fail
 clear cR_0 fR_0
 obtain ⟨wd47, hE48⟩ : ∃ ww, ww = wd42.setCell ⟨g44, 0, none⟩ (.int .i64 0) := ⟨_, rfl⟩
 rw [← hE48]
 replace T := dF T hE48 (by omega)
 replace R : Hid (Has wd47 (g44) 33 #[.int .i64 0, .string ⟨x.name.toArray⟩, .int .i64 x.low, .int .i64 x.high, .int .i64 x.max, .slice A1 x.syms.length c1, .slice A2 x.mems.length c2, .int .i64 x.key, .int .i64 x.elem, .bool x.opn]) := Lib.hid (by simpa using dS R hE48)
 replace hw40 := tF hw40 hE48 (by omega)
 clear hE48
 obtain ⟨cT_0, cT_1, cT_2, cT_3, cT_4, cT_5, cT_6, cT_7, cT_8, cT_9⟩ := T.out.c10
 by_cases hlo : 0 ≤ x.max
 ·
  have hd : decide (0 ≤ x.max) = true := decide_eq_true hlo
  by_cases hhi : x.max ≤ 200
  ·
   have hd2 : decide (x.max ≤ 200) = true := decide_eq_true hhi
   have Hf : Hid (formB x = sameZ (restT x) typZ) := by show _ = _; rw [hf, hd, hd2]; rfl
   clear hf h
   have cR_4 : wd47.cell? ⟨g44, 4, none⟩ = some (.int .i64 x.max) := R.out.cell 4
   have fR_4 := R.out.free 4
   go_upto_region 29 with fail
   clear cT_0 cT_1 cT_2 cT_3 cT_4 cT_5 cT_6 cT_7 cT_8 cT_9 cR_4 fR_4
   obtain ⟨wd49, hE50⟩ : ∃ ww, ww = wd47.setCell ⟨g44, 4, none⟩ (.int .i64 0) := ⟨_, rfl⟩
   rw [← hE50]
   replace T := dF T hE50 (by omega)
   replace R : Hid (Has wd49 (g44) 33 #[.int .i64 0, .string ⟨x.name.toArray⟩, .int .i64 x.low, .int .i64 x.high, .int .i64 0, .slice A1 x.syms.length c1, .slice A2 x.mems.length c2, .int .i64 x.key, .int .i64 x.elem, .bool x.opn]) := Lib.hid (by simpa using dS R hE50)
   replace hw40 := tF hw40 hE50 (by omega)
   clear hE50
   obtain ⟨cR_0, cR_1, cR_2, cR_3, cR_4, cR_5, cR_6, cR_7, cR_8, cR_9⟩ := R.out.c10
   go_wp2_with fail
   clear cR_0 cR_1 cR_2 cR_3 cR_4 cR_5 cR_6 cR_7 cR_8 cR_9
   ((with_reducible refine (HC.out _).mono ?_); rintro e wd51 ⟨rfl, hb52⟩)
   replace T := dB T hb52
   replace R := dB R hb52
   replace hw40 := dT hw40 hb52
   clear hb52
   go_wp2_with fail
   go_ret
   exact ⟨ret_bool Hf.out.symm, hw40⟩
  have hd2 : decide (x.max ≤ 200) = false := decide_eq_false hhi
  have Hf : Hid (formB x = false) := by show _ = _; rw [hf, hd, hd2]; rfl
  clear hf h
  have cR_4 : wd47.cell? ⟨g44, 4, none⟩ = some (.int .i64 x.max) := R.out.cell 4
  have fR_4 := R.out.free 4
  go_upto_region 29 with fail
  clear cT_0 cT_1 cT_2 cT_3 cT_4 cT_5 cT_6 cT_7 cT_8 cT_9 cR_4 fR_4
  obtain ⟨wd53, hE54⟩ : ∃ ww, ww = wd47.setCell ⟨g44, 4, none⟩ (.int .i64 0) := ⟨_, rfl⟩
  rw [← hE54]
  replace T := dF T hE54 (by omega)
  replace R : Hid (Has wd53 (g44) 33 #[.int .i64 0, .string ⟨x.name.toArray⟩, .int .i64 x.low, .int .i64 x.high, .int .i64 0, .slice A1 x.syms.length c1, .slice A2 x.mems.length c2, .int .i64 x.key, .int .i64 x.elem, .bool x.opn]) := Lib.hid (by simpa using dS R hE54)
  replace hw40 := tF hw40 hE54 (by omega)
  clear hE54
  obtain ⟨cR_0, cR_1, cR_2, cR_3, cR_4, cR_5, cR_6, cR_7, cR_8, cR_9⟩ := R.out.c10
  go_wp2_with fail
  go_ret
  exact ⟨ret_bool Hf.out.symm, hw40⟩
 have hd : decide (0 ≤ x.max) = false := decide_eq_false hlo
 have Hf : Hid (formB x = false) := by show _ = _; rw [hf, hd]; rfl
 clear hf h
 have cR_4 : wd47.cell? ⟨g44, 4, none⟩ = some (.int .i64 x.max) := R.out.cell 4
 have fR_4 := R.out.free 4
 go_upto_region 29 with fail
 clear cT_0 cT_1 cT_2 cT_3 cT_4 cT_5 cT_6 cT_7 cT_8 cT_9 cR_4 fR_4
 obtain ⟨wd55, hE56⟩ : ∃ ww, ww = wd47.setCell ⟨g44, 4, none⟩ (.int .i64 0) := ⟨_, rfl⟩
 rw [← hE56]
 replace T := dF T hE56 (by omega)
 replace R : Hid (Has wd55 (g44) 33 #[.int .i64 0, .string ⟨x.name.toArray⟩, .int .i64 x.low, .int .i64 x.high, .int .i64 0, .slice A1 x.syms.length c1, .slice A2 x.mems.length c2, .int .i64 x.key, .int .i64 x.elem, .bool x.opn]) := Lib.hid (by simpa using dS R hE56)
 replace hw40 := tF hw40 hE56 (by omega)
 clear hE56
 obtain ⟨cR_0, cR_1, cR_2, cR_3, cR_4, cR_5, cR_6, cR_7, cR_8, cR_9⟩ := R.out.c10
 go_wp2_with fail
 go_ret
 exact ⟨ret_bool Hf.out.symm, hw40⟩
set_option maxRecDepth 100000 in
theorem form4_any (x : Typ) (A1 A2 : Option Addr) (c1 c2 : Nat) (w : World) (h : x.kind = 4) (hl : x.syms.length ≤ 6000000000000 ∧ x.mems.length ≤ 6000000000000) (ht : TypAt w w.heap.size x (.slice A1 x.syms.length c1) (.slice A2 x.mems.length c2)) :
  Calls Tryd.prog 37 #[typA x (.slice A1 x.syms.length c1) (.slice A2 x.mems.length c2)] w fun e w' => e = .returned (.bool (formB x)) ∧ Below w.heap.size w w' := by
 have hrt : restT x = { x with kind := 0, name := [], syms := [], opn := false } := by unfold restT; simp [h]
 have hf := form_of x (by rw [h]; unfold KindIn; omega)
 have hc : ∀ W, Calls Tryd.prog 60 #[.agg #[.int .i64 0, .string ⟨#[]⟩, .int .i64 x.low, .int .i64 x.high, .int .i64 x.max, .slice none 0 0, .slice A2 x.mems.length c2, .int .i64 x.key, .int .i64 x.elem, .bool false], .agg #[.int .i64 0, .string ⟨#[]⟩, .int .i64 0, .int .i64 0, .int .i64 0, .slice none 0 0, .slice none 0 0, .int .i64 0, .int .i64 0, .bool false]] W fun e w' => e = .returned (.bool (sameZ (restT x) typZ)) ∧ Below W.heap.size W w' := fun W => by
  rw [hrt]
  exact equalz_any ({ x with kind := 0, name := [], syms := [], opn := false } : Typ) typZ none A2 0 c2 W
 have hok : okT x = (nameB x.name && symB x.syms) := by unfold okT; simp [h]
 rw [hok] at hf
 have HC := Lib.hid hc
 have HN := Lib.hid (fun W => isname_any x.name W)
 have HS := Lib.hid (fun W hW => symbols_any x.syms (.slice A1 x.syms.length c1) W hl.1 ht.symsin ((ht.syms.below (w' := W) hW).mono hW.size))
 clear hc hok hrt ht
 simp only [typA, h]
 go_enter Tryd.func37, Tryd.ntmps37
 go_upto_region 1 with fail
 obtain ⟨wd58, hE59⟩ : ∃ ww, ww = w.alloc (.cells #[.int .i64 4, .string ⟨x.name.toArray⟩, .int .i64 x.low, .int .i64 x.high, .int .i64 x.max, .slice A1 x.syms.length c1, .slice A2 x.mems.length c2, .int .i64 x.key, .int .i64 x.elem, .bool x.opn] 33) := ⟨_, rfl⟩
 rw [← hE59]
 have hb57 := aB hE59
 have T := aN hE59
 clear hE59
 have hw60 := hb57
 clear hb57
 obtain ⟨cT_0, cT_1, cT_2, cT_3, cT_4, cT_5, cT_6, cT_7, cT_8, cT_9⟩ := T.out.c10
 go_upto_region 2 with fail
 clear cT_0 cT_1 cT_2 cT_3 cT_4 cT_5 cT_6 cT_7 cT_8 cT_9
 obtain ⟨wd62, hE63⟩ : ∃ ww, ww = wd58.alloc (.cells #[.int .i64 4, .string ⟨x.name.toArray⟩, .int .i64 x.low, .int .i64 x.high, .int .i64 x.max, .slice A1 x.syms.length c1, .slice A2 x.mems.length c2, .int .i64 x.key, .int .i64 x.elem, .bool x.opn] 33) := ⟨_, rfl⟩
 rw [← hE63]
 have hb61 := aB hE63
 have R := aN hE63
 clear hE63
 have hl65 := T.out.here
 have hl66 := hw60.size
 replace T := dB T hb61
 replace hw60 := dT hw60 hb61
 clear hb61
 generalize wd58.heap.size = g64 at *
 have cR_0 : wd62.cell? ⟨g64, 0, none⟩ = some (.int .i64 4) := R.out.cell 0
 have fR_0 := R.out.free 0
 go_upto_region 3 with fail
 clear cR_0 fR_0
 obtain ⟨wd67, hE68⟩ : ∃ ww, ww = wd62.setCell ⟨g64, 0, none⟩ (.int .i64 0) := ⟨_, rfl⟩
 rw [← hE68]
 replace T := dF T hE68 (by omega)
 replace R : Hid (Has wd67 (g64) 33 #[.int .i64 0, .string ⟨x.name.toArray⟩, .int .i64 x.low, .int .i64 x.high, .int .i64 x.max, .slice A1 x.syms.length c1, .slice A2 x.mems.length c2, .int .i64 x.key, .int .i64 x.elem, .bool x.opn]) := Lib.hid (by simpa using dS R hE68)
 replace hw60 := tF hw60 hE68 (by omega)
 clear hE68
 obtain ⟨cT_0, cT_1, cT_2, cT_3, cT_4, cT_5, cT_6, cT_7, cT_8, cT_9⟩ := T.out.c10
 go_wp2_with fail
 clear cT_0 cT_1 cT_2 cT_3 cT_4 cT_5 cT_6 cT_7 cT_8 cT_9
 ((with_reducible refine (HN.out _).mono ?_); rintro e wd69 ⟨rfl, rfl⟩)
 cases hn : nameB x.name with
 | false =>
  have Hf : Hid (formB x = false) := by show _ = _; rw [hf, hn]; rfl
  clear hf h
  obtain ⟨-, cR_1, -, -, -, cR_5, -, -, -, cR_9⟩ := R.out.c10
  have fR_1 := R.out.free 1
  have fR_5 := R.out.free 5
  have fR_9 := R.out.free 9
  go_upto_region 29 with fail
  clear cR_1 cR_5 cR_9 fR_1 fR_5 fR_9
  obtain ⟨wd71, hE72⟩ : ∃ ww, ww = wd67.setCell ⟨g64, 1, none⟩ (.string ⟨#[]⟩) := ⟨_, rfl⟩
  rw [← hE72]
  replace T := dF T hE72 (by omega)
  replace R : Hid (Has wd71 (g64) 33 #[.int .i64 0, .string ⟨#[]⟩, .int .i64 x.low, .int .i64 x.high, .int .i64 x.max, .slice A1 x.syms.length c1, .slice A2 x.mems.length c2, .int .i64 x.key, .int .i64 x.elem, .bool x.opn]) := Lib.hid (by simpa using dS R hE72)
  replace hw60 := tF hw60 hE72 (by omega)
  clear hE72
  obtain ⟨wd73, hE74⟩ : ∃ ww, ww = wd71.setCell ⟨g64, 5, none⟩ (.slice none 0 0) := ⟨_, rfl⟩
  rw [← hE74]
  replace T := dF T hE74 (by omega)
  replace R : Hid (Has wd73 (g64) 33 #[.int .i64 0, .string ⟨#[]⟩, .int .i64 x.low, .int .i64 x.high, .int .i64 x.max, .slice none 0 0, .slice A2 x.mems.length c2, .int .i64 x.key, .int .i64 x.elem, .bool x.opn]) := Lib.hid (by simpa using dS R hE74)
  replace hw60 := tF hw60 hE74 (by omega)
  clear hE74
  obtain ⟨wd75, hE76⟩ : ∃ ww, ww = wd73.setCell ⟨g64, 9, none⟩ (.bool false) := ⟨_, rfl⟩
  rw [← hE76]
  replace T := dF T hE76 (by omega)
  replace R : Hid (Has wd75 (g64) 33 #[.int .i64 0, .string ⟨#[]⟩, .int .i64 x.low, .int .i64 x.high, .int .i64 x.max, .slice none 0 0, .slice A2 x.mems.length c2, .int .i64 x.key, .int .i64 x.elem, .bool false]) := Lib.hid (by simpa using dS R hE76)
  replace hw60 := tF hw60 hE76 (by omega)
  clear hE76
  obtain ⟨cR_0, cR_1, cR_2, cR_3, cR_4, cR_5, cR_6, cR_7, cR_8, cR_9⟩ := R.out.c10
  go_wp2_with fail
  go_ret
  exact ⟨ret_bool Hf.out.symm, hw60⟩
 | true =>
  obtain ⟨cT_0, cT_1, cT_2, cT_3, cT_4, cT_5, cT_6, cT_7, cT_8, cT_9⟩ := T.out.c10
  go_wp2_with fail
  clear cT_0 cT_1 cT_2 cT_3 cT_4 cT_5 cT_6 cT_7 cT_8 cT_9
  ((with_reducible refine (HS.out _ (hw60)).mono ?_); rintro e wd77 ⟨rfl, hb78⟩)
  replace T := dB T hb78
  replace R := dB R hb78
  replace hw60 := dT hw60 hb78
  clear hb78
  cases hs : symB x.syms with
  | false =>
   have Hf : Hid (formB x = false) := by show _ = _; rw [hf, hn, hs]; rfl
   clear hf h
   obtain ⟨-, cR_1, -, -, -, cR_5, -, -, -, cR_9⟩ := R.out.c10
   have fR_1 := R.out.free 1
   have fR_5 := R.out.free 5
   have fR_9 := R.out.free 9
   go_upto_region 29 with fail
   clear cR_1 cR_5 cR_9 fR_1 fR_5 fR_9
   obtain ⟨wd79, hE80⟩ : ∃ ww, ww = wd77.setCell ⟨g64, 1, none⟩ (.string ⟨#[]⟩) := ⟨_, rfl⟩
   rw [← hE80]
   replace T := dF T hE80 (by omega)
   replace R : Hid (Has wd79 (g64) 33 #[.int .i64 0, .string ⟨#[]⟩, .int .i64 x.low, .int .i64 x.high, .int .i64 x.max, .slice A1 x.syms.length c1, .slice A2 x.mems.length c2, .int .i64 x.key, .int .i64 x.elem, .bool x.opn]) := Lib.hid (by simpa using dS R hE80)
   replace hw60 := tF hw60 hE80 (by omega)
   clear hE80
   obtain ⟨wd81, hE82⟩ : ∃ ww, ww = wd79.setCell ⟨g64, 5, none⟩ (.slice none 0 0) := ⟨_, rfl⟩
   rw [← hE82]
   replace T := dF T hE82 (by omega)
   replace R : Hid (Has wd81 (g64) 33 #[.int .i64 0, .string ⟨#[]⟩, .int .i64 x.low, .int .i64 x.high, .int .i64 x.max, .slice none 0 0, .slice A2 x.mems.length c2, .int .i64 x.key, .int .i64 x.elem, .bool x.opn]) := Lib.hid (by simpa using dS R hE82)
   replace hw60 := tF hw60 hE82 (by omega)
   clear hE82
   obtain ⟨wd83, hE84⟩ : ∃ ww, ww = wd81.setCell ⟨g64, 9, none⟩ (.bool false) := ⟨_, rfl⟩
   rw [← hE84]
   replace T := dF T hE84 (by omega)
   replace R : Hid (Has wd83 (g64) 33 #[.int .i64 0, .string ⟨#[]⟩, .int .i64 x.low, .int .i64 x.high, .int .i64 x.max, .slice none 0 0, .slice A2 x.mems.length c2, .int .i64 x.key, .int .i64 x.elem, .bool false]) := Lib.hid (by simpa using dS R hE84)
   replace hw60 := tF hw60 hE84 (by omega)
   clear hE84
   obtain ⟨cR_0, cR_1, cR_2, cR_3, cR_4, cR_5, cR_6, cR_7, cR_8, cR_9⟩ := R.out.c10
   go_wp2_with fail
   go_ret
   exact ⟨ret_bool Hf.out.symm, hw60⟩
  | true =>
   have Hf : Hid (formB x = sameZ (restT x) typZ) := by show _ = _; rw [hf, hn, hs]; rfl
   clear hf h
   obtain ⟨-, cR_1, -, -, -, cR_5, -, -, -, cR_9⟩ := R.out.c10
   have fR_1 := R.out.free 1
   have fR_5 := R.out.free 5
   have fR_9 := R.out.free 9
   go_upto_region 29 with fail
   clear cR_1 cR_5 cR_9 fR_1 fR_5 fR_9
   obtain ⟨wd85, hE86⟩ : ∃ ww, ww = wd77.setCell ⟨g64, 1, none⟩ (.string ⟨#[]⟩) := ⟨_, rfl⟩
   rw [← hE86]
   replace T := dF T hE86 (by omega)
   replace R : Hid (Has wd85 (g64) 33 #[.int .i64 0, .string ⟨#[]⟩, .int .i64 x.low, .int .i64 x.high, .int .i64 x.max, .slice A1 x.syms.length c1, .slice A2 x.mems.length c2, .int .i64 x.key, .int .i64 x.elem, .bool x.opn]) := Lib.hid (by simpa using dS R hE86)
   replace hw60 := tF hw60 hE86 (by omega)
   clear hE86
   obtain ⟨wd87, hE88⟩ : ∃ ww, ww = wd85.setCell ⟨g64, 5, none⟩ (.slice none 0 0) := ⟨_, rfl⟩
   rw [← hE88]
   replace T := dF T hE88 (by omega)
   replace R : Hid (Has wd87 (g64) 33 #[.int .i64 0, .string ⟨#[]⟩, .int .i64 x.low, .int .i64 x.high, .int .i64 x.max, .slice none 0 0, .slice A2 x.mems.length c2, .int .i64 x.key, .int .i64 x.elem, .bool x.opn]) := Lib.hid (by simpa using dS R hE88)
   replace hw60 := tF hw60 hE88 (by omega)
   clear hE88
   obtain ⟨wd89, hE90⟩ : ∃ ww, ww = wd87.setCell ⟨g64, 9, none⟩ (.bool false) := ⟨_, rfl⟩
   rw [← hE90]
   replace T := dF T hE90 (by omega)
   replace R : Hid (Has wd89 (g64) 33 #[.int .i64 0, .string ⟨#[]⟩, .int .i64 x.low, .int .i64 x.high, .int .i64 x.max, .slice none 0 0, .slice A2 x.mems.length c2, .int .i64 x.key, .int .i64 x.elem, .bool false]) := Lib.hid (by simpa using dS R hE90)
   replace hw60 := tF hw60 hE90 (by omega)
   clear hE90
   obtain ⟨cR_0, cR_1, cR_2, cR_3, cR_4, cR_5, cR_6, cR_7, cR_8, cR_9⟩ := R.out.c10
   go_wp2_with fail
   clear cR_0 cR_1 cR_2 cR_3 cR_4 cR_5 cR_6 cR_7 cR_8 cR_9
   ((with_reducible refine (HC.out _).mono ?_); rintro e wd91 ⟨rfl, hb92⟩)
   replace T := dB T hb92
   replace R := dB R hb92
   replace hw60 := dT hw60 hb92
   clear hb92
   go_wp2_with fail
   go_ret
   exact ⟨ret_bool Hf.out.symm, hw60⟩
set_option maxRecDepth 100000 in
theorem form5true_any (x : Typ) (A1 A2 : Option Addr) (c1 c2 : Nat) (w : World) (h : x.kind = 5) (hop : x.opn = true) (hl : x.syms.length ≤ 6000000000000 ∧ x.mems.length ≤ 6000000000000) (ht : TypAt w w.heap.size x (.slice A1 x.syms.length c1) (.slice A2 x.mems.length c2)) :
  Calls Tryd.prog 37 #[typA x (.slice A1 x.syms.length c1) (.slice A2 x.mems.length c2)] w fun e w' => e = .returned (.bool (formB x)) ∧ Below w.heap.size w w' := by
 have hrt : restT x = { x with kind := 0, name := [], mems := [], opn := true } := by unfold restT; simp [h, hop]
 have hf := form_of x (by rw [h]; unfold KindIn; omega)
 have hc : ∀ W, Calls Tryd.prog 60 #[.agg #[.int .i64 0, .string ⟨#[]⟩, .int .i64 x.low, .int .i64 x.high, .int .i64 x.max, .slice A1 x.syms.length c1, .slice none 0 0, .int .i64 x.key, .int .i64 x.elem, .bool true], .agg #[.int .i64 0, .string ⟨#[]⟩, .int .i64 0, .int .i64 0, .int .i64 0, .slice none 0 0, .slice none 0 0, .int .i64 0, .int .i64 0, .bool false]] W fun e w' => e = .returned (.bool (sameZ (restT x) typZ)) ∧ Below W.heap.size W w' := fun W => by
  rw [hrt]
  exact equalz_any ({ x with kind := 0, name := [], mems := [], opn := true } : Typ) typZ A1 none c1 0 W
 have hok : okT x = (nameB x.name && membersB x) := by unfold okT; simp [h]
 rw [hok] at hf
 have HC := Lib.hid hc
 have HN := Lib.hid (fun W => isname_any x.name W)
 have hm := fun W hW => members_any x (.slice A1 x.syms.length c1) (.slice A2 x.mems.length c2) W hl.2 (ht.on (w' := W) hW)
 simp only [typA, h, hop] at hm
 have HM := Lib.hid hm
 clear hm
 clear hc hok hrt ht
 simp only [typA, h, hop]
 clear hop
 go_enter Tryd.func37, Tryd.ntmps37
 go_upto_region 1 with fail
 obtain ⟨wd94, hE95⟩ : ∃ ww, ww = w.alloc (.cells #[.int .i64 5, .string ⟨x.name.toArray⟩, .int .i64 x.low, .int .i64 x.high, .int .i64 x.max, .slice A1 x.syms.length c1, .slice A2 x.mems.length c2, .int .i64 x.key, .int .i64 x.elem, .bool true] 33) := ⟨_, rfl⟩
 rw [← hE95]
 have hb93 := aB hE95
 have T := aN hE95
 clear hE95
 have hw96 := hb93
 clear hb93
 obtain ⟨cT_0, cT_1, cT_2, cT_3, cT_4, cT_5, cT_6, cT_7, cT_8, cT_9⟩ := T.out.c10
 go_upto_region 2 with fail
 clear cT_0 cT_1 cT_2 cT_3 cT_4 cT_5 cT_6 cT_7 cT_8 cT_9
 obtain ⟨wd98, hE99⟩ : ∃ ww, ww = wd94.alloc (.cells #[.int .i64 5, .string ⟨x.name.toArray⟩, .int .i64 x.low, .int .i64 x.high, .int .i64 x.max, .slice A1 x.syms.length c1, .slice A2 x.mems.length c2, .int .i64 x.key, .int .i64 x.elem, .bool true] 33) := ⟨_, rfl⟩
 rw [← hE99]
 have hb97 := aB hE99
 have R := aN hE99
 clear hE99
 have hl101 := T.out.here
 have hl102 := hw96.size
 replace T := dB T hb97
 replace hw96 := dT hw96 hb97
 clear hb97
 generalize wd94.heap.size = g100 at *
 have cR_0 : wd98.cell? ⟨g100, 0, none⟩ = some (.int .i64 5) := R.out.cell 0
 have fR_0 := R.out.free 0
 go_upto_region 3 with fail
 clear cR_0 fR_0
 obtain ⟨wd103, hE104⟩ : ∃ ww, ww = wd98.setCell ⟨g100, 0, none⟩ (.int .i64 0) := ⟨_, rfl⟩
 rw [← hE104]
 replace T := dF T hE104 (by omega)
 replace R : Hid (Has wd103 (g100) 33 #[.int .i64 0, .string ⟨x.name.toArray⟩, .int .i64 x.low, .int .i64 x.high, .int .i64 x.max, .slice A1 x.syms.length c1, .slice A2 x.mems.length c2, .int .i64 x.key, .int .i64 x.elem, .bool true]) := Lib.hid (by simpa using dS R hE104)
 replace hw96 := tF hw96 hE104 (by omega)
 clear hE104
 obtain ⟨cT_0, cT_1, cT_2, cT_3, cT_4, cT_5, cT_6, cT_7, cT_8, cT_9⟩ := T.out.c10
 go_wp2_with fail
 clear cT_0 cT_1 cT_2 cT_3 cT_4 cT_5 cT_6 cT_7 cT_8 cT_9
 ((with_reducible refine (HN.out _).mono ?_); rintro e wd105 ⟨rfl, rfl⟩)
 cases hn : nameB x.name with
 | false =>
  have Hf : Hid (formB x = false) := by show _ = _; rw [hf, hn]; rfl
  clear hf h
  have cT_0 : wd103.cell? ⟨w.heap.size, 0, none⟩ = some (.int .i64 5) := T.out.cell 0
  have cT_9 : wd103.cell? ⟨w.heap.size, 9, none⟩ = some (.bool true) := T.out.cell 9
  have cR_1 : wd103.cell? ⟨g100, 1, none⟩ = some (.string ⟨x.name.toArray⟩) := R.out.cell 1
  have cR_6 : wd103.cell? ⟨g100, 6, none⟩ = some (.slice A2 x.mems.length c2) := R.out.cell 6
  have fR_1 := R.out.free 1
  have fR_6 := R.out.free 6
  go_upto_region 20 with fail
  clear cT_0 cT_9 cR_1 cR_6 fR_1 fR_6
  obtain ⟨wd107, hE108⟩ : ∃ ww, ww = wd103.setCell ⟨g100, 1, none⟩ (.string ⟨#[]⟩) := ⟨_, rfl⟩
  rw [← hE108]
  replace T := dF T hE108 (by omega)
  replace R : Hid (Has wd107 (g100) 33 #[.int .i64 0, .string ⟨#[]⟩, .int .i64 x.low, .int .i64 x.high, .int .i64 x.max, .slice A1 x.syms.length c1, .slice A2 x.mems.length c2, .int .i64 x.key, .int .i64 x.elem, .bool true]) := Lib.hid (by simpa using dS R hE108)
  replace hw96 := tF hw96 hE108 (by omega)
  clear hE108
  obtain ⟨wd109, hE110⟩ : ∃ ww, ww = wd107.setCell ⟨g100, 6, none⟩ (.slice none 0 0) := ⟨_, rfl⟩
  rw [← hE110]
  replace T := dF T hE110 (by omega)
  replace R : Hid (Has wd109 (g100) 33 #[.int .i64 0, .string ⟨#[]⟩, .int .i64 x.low, .int .i64 x.high, .int .i64 x.max, .slice A1 x.syms.length c1, .slice none 0 0, .int .i64 x.key, .int .i64 x.elem, .bool true]) := Lib.hid (by simpa using dS R hE110)
  replace hw96 := tF hw96 hE110 (by omega)
  clear hE110
  have cT_0 : wd109.cell? ⟨w.heap.size, 0, none⟩ = some (.int .i64 5) := T.out.cell 0
  have cT_9 : wd109.cell? ⟨w.heap.size, 9, none⟩ = some (.bool true) := T.out.cell 9
  have cR_9 : wd109.cell? ⟨g100, 9, none⟩ = some (.bool true) := R.out.cell 9
  have fR_9 := R.out.free 9
  go_upto_region 29 with fail
  clear cT_0 cT_9 cR_9 fR_9
  obtain ⟨wd111, hE112⟩ : ∃ ww, ww = wd109.setCell ⟨g100, 9, none⟩ (.bool true) := ⟨_, rfl⟩
  rw [← hE112]
  replace T := dF T hE112 (by omega)
  replace R : Hid (Has wd111 (g100) 33 #[.int .i64 0, .string ⟨#[]⟩, .int .i64 x.low, .int .i64 x.high, .int .i64 x.max, .slice A1 x.syms.length c1, .slice none 0 0, .int .i64 x.key, .int .i64 x.elem, .bool true]) := Lib.hid (by simpa using dS R hE112)
  replace hw96 := tF hw96 hE112 (by omega)
  clear hE112
  obtain ⟨cR_0, cR_1, cR_2, cR_3, cR_4, cR_5, cR_6, cR_7, cR_8, cR_9⟩ := R.out.c10
  go_wp2_with fail
  go_ret
  exact ⟨ret_bool Hf.out.symm, hw96⟩
 | true =>
  obtain ⟨cT_0, cT_1, cT_2, cT_3, cT_4, cT_5, cT_6, cT_7, cT_8, cT_9⟩ := T.out.c10
  go_wp2_with fail
  clear cT_0 cT_1 cT_2 cT_3 cT_4 cT_5 cT_6 cT_7 cT_8 cT_9
  ((with_reducible refine (HM.out _ (hw96)).mono ?_); rintro e wd113 ⟨rfl, hb114⟩)
  replace T := dB T hb114
  replace R := dB R hb114
  replace hw96 := dT hw96 hb114
  clear hb114
  cases hs : membersB x with
  | false =>
   have Hf : Hid (formB x = false) := by show _ = _; rw [hf, hn, hs]; rfl
   clear hf h
   have cT_0 : wd113.cell? ⟨w.heap.size, 0, none⟩ = some (.int .i64 5) := T.out.cell 0
   have cT_9 : wd113.cell? ⟨w.heap.size, 9, none⟩ = some (.bool true) := T.out.cell 9
   have cR_1 : wd113.cell? ⟨g100, 1, none⟩ = some (.string ⟨x.name.toArray⟩) := R.out.cell 1
   have cR_6 : wd113.cell? ⟨g100, 6, none⟩ = some (.slice A2 x.mems.length c2) := R.out.cell 6
   have fR_1 := R.out.free 1
   have fR_6 := R.out.free 6
   go_upto_region 20 with fail
   clear cT_0 cT_9 cR_1 cR_6 fR_1 fR_6
   obtain ⟨wd115, hE116⟩ : ∃ ww, ww = wd113.setCell ⟨g100, 1, none⟩ (.string ⟨#[]⟩) := ⟨_, rfl⟩
   rw [← hE116]
   replace T := dF T hE116 (by omega)
   replace R : Hid (Has wd115 (g100) 33 #[.int .i64 0, .string ⟨#[]⟩, .int .i64 x.low, .int .i64 x.high, .int .i64 x.max, .slice A1 x.syms.length c1, .slice A2 x.mems.length c2, .int .i64 x.key, .int .i64 x.elem, .bool true]) := Lib.hid (by simpa using dS R hE116)
   replace hw96 := tF hw96 hE116 (by omega)
   clear hE116
   obtain ⟨wd117, hE118⟩ : ∃ ww, ww = wd115.setCell ⟨g100, 6, none⟩ (.slice none 0 0) := ⟨_, rfl⟩
   rw [← hE118]
   replace T := dF T hE118 (by omega)
   replace R : Hid (Has wd117 (g100) 33 #[.int .i64 0, .string ⟨#[]⟩, .int .i64 x.low, .int .i64 x.high, .int .i64 x.max, .slice A1 x.syms.length c1, .slice none 0 0, .int .i64 x.key, .int .i64 x.elem, .bool true]) := Lib.hid (by simpa using dS R hE118)
   replace hw96 := tF hw96 hE118 (by omega)
   clear hE118
   have cT_0 : wd117.cell? ⟨w.heap.size, 0, none⟩ = some (.int .i64 5) := T.out.cell 0
   have cT_9 : wd117.cell? ⟨w.heap.size, 9, none⟩ = some (.bool true) := T.out.cell 9
   have cR_9 : wd117.cell? ⟨g100, 9, none⟩ = some (.bool true) := R.out.cell 9
   have fR_9 := R.out.free 9
   go_upto_region 29 with fail
   clear cT_0 cT_9 cR_9 fR_9
   obtain ⟨wd119, hE120⟩ : ∃ ww, ww = wd117.setCell ⟨g100, 9, none⟩ (.bool true) := ⟨_, rfl⟩
   rw [← hE120]
   replace T := dF T hE120 (by omega)
   replace R : Hid (Has wd119 (g100) 33 #[.int .i64 0, .string ⟨#[]⟩, .int .i64 x.low, .int .i64 x.high, .int .i64 x.max, .slice A1 x.syms.length c1, .slice none 0 0, .int .i64 x.key, .int .i64 x.elem, .bool true]) := Lib.hid (by simpa using dS R hE120)
   replace hw96 := tF hw96 hE120 (by omega)
   clear hE120
   obtain ⟨cR_0, cR_1, cR_2, cR_3, cR_4, cR_5, cR_6, cR_7, cR_8, cR_9⟩ := R.out.c10
   go_wp2_with fail
   go_ret
   exact ⟨ret_bool Hf.out.symm, hw96⟩
  | true =>
   have Hf : Hid (formB x = sameZ (restT x) typZ) := by show _ = _; rw [hf, hn, hs]; rfl
   clear hf h
   have cT_0 : wd113.cell? ⟨w.heap.size, 0, none⟩ = some (.int .i64 5) := T.out.cell 0
   have cT_9 : wd113.cell? ⟨w.heap.size, 9, none⟩ = some (.bool true) := T.out.cell 9
   have cR_1 : wd113.cell? ⟨g100, 1, none⟩ = some (.string ⟨x.name.toArray⟩) := R.out.cell 1
   have cR_6 : wd113.cell? ⟨g100, 6, none⟩ = some (.slice A2 x.mems.length c2) := R.out.cell 6
   have fR_1 := R.out.free 1
   have fR_6 := R.out.free 6
   go_upto_region 20 with fail
   clear cT_0 cT_9 cR_1 cR_6 fR_1 fR_6
   obtain ⟨wd121, hE122⟩ : ∃ ww, ww = wd113.setCell ⟨g100, 1, none⟩ (.string ⟨#[]⟩) := ⟨_, rfl⟩
   rw [← hE122]
   replace T := dF T hE122 (by omega)
   replace R : Hid (Has wd121 (g100) 33 #[.int .i64 0, .string ⟨#[]⟩, .int .i64 x.low, .int .i64 x.high, .int .i64 x.max, .slice A1 x.syms.length c1, .slice A2 x.mems.length c2, .int .i64 x.key, .int .i64 x.elem, .bool true]) := Lib.hid (by simpa using dS R hE122)
   replace hw96 := tF hw96 hE122 (by omega)
   clear hE122
   obtain ⟨wd123, hE124⟩ : ∃ ww, ww = wd121.setCell ⟨g100, 6, none⟩ (.slice none 0 0) := ⟨_, rfl⟩
   rw [← hE124]
   replace T := dF T hE124 (by omega)
   replace R : Hid (Has wd123 (g100) 33 #[.int .i64 0, .string ⟨#[]⟩, .int .i64 x.low, .int .i64 x.high, .int .i64 x.max, .slice A1 x.syms.length c1, .slice none 0 0, .int .i64 x.key, .int .i64 x.elem, .bool true]) := Lib.hid (by simpa using dS R hE124)
   replace hw96 := tF hw96 hE124 (by omega)
   clear hE124
   have cT_0 : wd123.cell? ⟨w.heap.size, 0, none⟩ = some (.int .i64 5) := T.out.cell 0
   have cT_9 : wd123.cell? ⟨w.heap.size, 9, none⟩ = some (.bool true) := T.out.cell 9
   have cR_9 : wd123.cell? ⟨g100, 9, none⟩ = some (.bool true) := R.out.cell 9
   have fR_9 := R.out.free 9
   go_upto_region 29 with fail
   clear cT_0 cT_9 cR_9 fR_9
   obtain ⟨wd125, hE126⟩ : ∃ ww, ww = wd123.setCell ⟨g100, 9, none⟩ (.bool true) := ⟨_, rfl⟩
   rw [← hE126]
   replace T := dF T hE126 (by omega)
   replace R : Hid (Has wd125 (g100) 33 #[.int .i64 0, .string ⟨#[]⟩, .int .i64 x.low, .int .i64 x.high, .int .i64 x.max, .slice A1 x.syms.length c1, .slice none 0 0, .int .i64 x.key, .int .i64 x.elem, .bool true]) := Lib.hid (by simpa using dS R hE126)
   replace hw96 := tF hw96 hE126 (by omega)
   clear hE126
   obtain ⟨cR_0, cR_1, cR_2, cR_3, cR_4, cR_5, cR_6, cR_7, cR_8, cR_9⟩ := R.out.c10
   go_wp2_with fail
   clear cR_0 cR_1 cR_2 cR_3 cR_4 cR_5 cR_6 cR_7 cR_8 cR_9
   ((with_reducible refine (HC.out _).mono ?_); rintro e wd127 ⟨rfl, hb128⟩)
   replace T := dB T hb128
   replace R := dB R hb128
   replace hw96 := dT hw96 hb128
   clear hb128
   go_wp2_with fail
   go_ret
   exact ⟨ret_bool Hf.out.symm, hw96⟩
set_option maxRecDepth 100000 in
theorem form5false_any (x : Typ) (A1 A2 : Option Addr) (c1 c2 : Nat) (w : World) (h : x.kind = 5) (hop : x.opn = false) (hl : x.syms.length ≤ 6000000000000 ∧ x.mems.length ≤ 6000000000000) (ht : TypAt w w.heap.size x (.slice A1 x.syms.length c1) (.slice A2 x.mems.length c2)) :
  Calls Tryd.prog 37 #[typA x (.slice A1 x.syms.length c1) (.slice A2 x.mems.length c2)] w fun e w' => e = .returned (.bool (formB x)) ∧ Below w.heap.size w w' := by
 have hrt : restT x = { x with kind := 0, name := [], mems := [], opn := false } := by unfold restT; simp [h, hop]
 have hf := form_of x (by rw [h]; unfold KindIn; omega)
 have hc : ∀ W, Calls Tryd.prog 60 #[.agg #[.int .i64 0, .string ⟨#[]⟩, .int .i64 x.low, .int .i64 x.high, .int .i64 x.max, .slice A1 x.syms.length c1, .slice none 0 0, .int .i64 x.key, .int .i64 x.elem, .bool false], .agg #[.int .i64 0, .string ⟨#[]⟩, .int .i64 0, .int .i64 0, .int .i64 0, .slice none 0 0, .slice none 0 0, .int .i64 0, .int .i64 0, .bool false]] W fun e w' => e = .returned (.bool (sameZ (restT x) typZ)) ∧ Below W.heap.size W w' := fun W => by
  rw [hrt]
  exact equalz_any ({ x with kind := 0, name := [], mems := [], opn := false } : Typ) typZ A1 none c1 0 W
 have hok : okT x = (nameB x.name && membersB x) := by unfold okT; simp [h]
 rw [hok] at hf
 have HC := Lib.hid hc
 have HN := Lib.hid (fun W => isname_any x.name W)
 have hm := fun W hW => members_any x (.slice A1 x.syms.length c1) (.slice A2 x.mems.length c2) W hl.2 (ht.on (w' := W) hW)
 simp only [typA, h, hop] at hm
 have HM := Lib.hid hm
 clear hm
 clear hc hok hrt ht
 simp only [typA, h, hop]
 clear hop
 go_enter Tryd.func37, Tryd.ntmps37
 go_upto_region 1 with fail
 obtain ⟨wd130, hE131⟩ : ∃ ww, ww = w.alloc (.cells #[.int .i64 5, .string ⟨x.name.toArray⟩, .int .i64 x.low, .int .i64 x.high, .int .i64 x.max, .slice A1 x.syms.length c1, .slice A2 x.mems.length c2, .int .i64 x.key, .int .i64 x.elem, .bool false] 33) := ⟨_, rfl⟩
 rw [← hE131]
 have hb129 := aB hE131
 have T := aN hE131
 clear hE131
 have hw132 := hb129
 clear hb129
 obtain ⟨cT_0, cT_1, cT_2, cT_3, cT_4, cT_5, cT_6, cT_7, cT_8, cT_9⟩ := T.out.c10
 go_upto_region 2 with fail
 clear cT_0 cT_1 cT_2 cT_3 cT_4 cT_5 cT_6 cT_7 cT_8 cT_9
 obtain ⟨wd134, hE135⟩ : ∃ ww, ww = wd130.alloc (.cells #[.int .i64 5, .string ⟨x.name.toArray⟩, .int .i64 x.low, .int .i64 x.high, .int .i64 x.max, .slice A1 x.syms.length c1, .slice A2 x.mems.length c2, .int .i64 x.key, .int .i64 x.elem, .bool false] 33) := ⟨_, rfl⟩
 rw [← hE135]
 have hb133 := aB hE135
 have R := aN hE135
 clear hE135
 have hl137 := T.out.here
 have hl138 := hw132.size
 replace T := dB T hb133
 replace hw132 := dT hw132 hb133
 clear hb133
 generalize wd130.heap.size = g136 at *
 have cR_0 : wd134.cell? ⟨g136, 0, none⟩ = some (.int .i64 5) := R.out.cell 0
 have fR_0 := R.out.free 0
 go_upto_region 3 with fail
 clear cR_0 fR_0
 obtain ⟨wd139, hE140⟩ : ∃ ww, ww = wd134.setCell ⟨g136, 0, none⟩ (.int .i64 0) := ⟨_, rfl⟩
 rw [← hE140]
 replace T := dF T hE140 (by omega)
 replace R : Hid (Has wd139 (g136) 33 #[.int .i64 0, .string ⟨x.name.toArray⟩, .int .i64 x.low, .int .i64 x.high, .int .i64 x.max, .slice A1 x.syms.length c1, .slice A2 x.mems.length c2, .int .i64 x.key, .int .i64 x.elem, .bool false]) := Lib.hid (by simpa using dS R hE140)
 replace hw132 := tF hw132 hE140 (by omega)
 clear hE140
 obtain ⟨cT_0, cT_1, cT_2, cT_3, cT_4, cT_5, cT_6, cT_7, cT_8, cT_9⟩ := T.out.c10
 go_wp2_with fail
 clear cT_0 cT_1 cT_2 cT_3 cT_4 cT_5 cT_6 cT_7 cT_8 cT_9
 ((with_reducible refine (HN.out _).mono ?_); rintro e wd141 ⟨rfl, rfl⟩)
 cases hn : nameB x.name with
 | false =>
  have Hf : Hid (formB x = false) := by show _ = _; rw [hf, hn]; rfl
  clear hf h
  have cT_0 : wd139.cell? ⟨w.heap.size, 0, none⟩ = some (.int .i64 5) := T.out.cell 0
  have cT_9 : wd139.cell? ⟨w.heap.size, 9, none⟩ = some (.bool false) := T.out.cell 9
  have cR_1 : wd139.cell? ⟨g136, 1, none⟩ = some (.string ⟨x.name.toArray⟩) := R.out.cell 1
  have cR_6 : wd139.cell? ⟨g136, 6, none⟩ = some (.slice A2 x.mems.length c2) := R.out.cell 6
  have fR_1 := R.out.free 1
  have fR_6 := R.out.free 6
  go_upto_region 20 with fail
  clear cT_0 cT_9 cR_1 cR_6 fR_1 fR_6
  obtain ⟨wd143, hE144⟩ : ∃ ww, ww = wd139.setCell ⟨g136, 1, none⟩ (.string ⟨#[]⟩) := ⟨_, rfl⟩
  rw [← hE144]
  replace T := dF T hE144 (by omega)
  replace R : Hid (Has wd143 (g136) 33 #[.int .i64 0, .string ⟨#[]⟩, .int .i64 x.low, .int .i64 x.high, .int .i64 x.max, .slice A1 x.syms.length c1, .slice A2 x.mems.length c2, .int .i64 x.key, .int .i64 x.elem, .bool false]) := Lib.hid (by simpa using dS R hE144)
  replace hw132 := tF hw132 hE144 (by omega)
  clear hE144
  obtain ⟨wd145, hE146⟩ : ∃ ww, ww = wd143.setCell ⟨g136, 6, none⟩ (.slice none 0 0) := ⟨_, rfl⟩
  rw [← hE146]
  replace T := dF T hE146 (by omega)
  replace R : Hid (Has wd145 (g136) 33 #[.int .i64 0, .string ⟨#[]⟩, .int .i64 x.low, .int .i64 x.high, .int .i64 x.max, .slice A1 x.syms.length c1, .slice none 0 0, .int .i64 x.key, .int .i64 x.elem, .bool false]) := Lib.hid (by simpa using dS R hE146)
  replace hw132 := tF hw132 hE146 (by omega)
  clear hE146
  have cT_0 : wd145.cell? ⟨w.heap.size, 0, none⟩ = some (.int .i64 5) := T.out.cell 0
  have cT_9 : wd145.cell? ⟨w.heap.size, 9, none⟩ = some (.bool false) := T.out.cell 9
  have cR_9 : wd145.cell? ⟨g136, 9, none⟩ = some (.bool false) := R.out.cell 9
  have fR_9 := R.out.free 9
  go_upto_region 29 with fail
  clear cT_0 cT_9 cR_9 fR_9
  obtain ⟨wd147, hE148⟩ : ∃ ww, ww = wd145.setCell ⟨g136, 9, none⟩ (.bool false) := ⟨_, rfl⟩
  rw [← hE148]
  replace T := dF T hE148 (by omega)
  replace R : Hid (Has wd147 (g136) 33 #[.int .i64 0, .string ⟨#[]⟩, .int .i64 x.low, .int .i64 x.high, .int .i64 x.max, .slice A1 x.syms.length c1, .slice none 0 0, .int .i64 x.key, .int .i64 x.elem, .bool false]) := Lib.hid (by simpa using dS R hE148)
  replace hw132 := tF hw132 hE148 (by omega)
  clear hE148
  obtain ⟨cR_0, cR_1, cR_2, cR_3, cR_4, cR_5, cR_6, cR_7, cR_8, cR_9⟩ := R.out.c10
  go_wp2_with fail
  go_ret
  exact ⟨ret_bool Hf.out.symm, hw132⟩
 | true =>
  obtain ⟨cT_0, cT_1, cT_2, cT_3, cT_4, cT_5, cT_6, cT_7, cT_8, cT_9⟩ := T.out.c10
  go_wp2_with fail
  clear cT_0 cT_1 cT_2 cT_3 cT_4 cT_5 cT_6 cT_7 cT_8 cT_9
  ((with_reducible refine (HM.out _ (hw132)).mono ?_); rintro e wd149 ⟨rfl, hb150⟩)
  replace T := dB T hb150
  replace R := dB R hb150
  replace hw132 := dT hw132 hb150
  clear hb150
  cases hs : membersB x with
  | false =>
   have Hf : Hid (formB x = false) := by show _ = _; rw [hf, hn, hs]; rfl
   clear hf h
   have cT_0 : wd149.cell? ⟨w.heap.size, 0, none⟩ = some (.int .i64 5) := T.out.cell 0
   have cT_9 : wd149.cell? ⟨w.heap.size, 9, none⟩ = some (.bool false) := T.out.cell 9
   have cR_1 : wd149.cell? ⟨g136, 1, none⟩ = some (.string ⟨x.name.toArray⟩) := R.out.cell 1
   have cR_6 : wd149.cell? ⟨g136, 6, none⟩ = some (.slice A2 x.mems.length c2) := R.out.cell 6
   have fR_1 := R.out.free 1
   have fR_6 := R.out.free 6
   go_upto_region 20 with fail
   clear cT_0 cT_9 cR_1 cR_6 fR_1 fR_6
   obtain ⟨wd151, hE152⟩ : ∃ ww, ww = wd149.setCell ⟨g136, 1, none⟩ (.string ⟨#[]⟩) := ⟨_, rfl⟩
   rw [← hE152]
   replace T := dF T hE152 (by omega)
   replace R : Hid (Has wd151 (g136) 33 #[.int .i64 0, .string ⟨#[]⟩, .int .i64 x.low, .int .i64 x.high, .int .i64 x.max, .slice A1 x.syms.length c1, .slice A2 x.mems.length c2, .int .i64 x.key, .int .i64 x.elem, .bool false]) := Lib.hid (by simpa using dS R hE152)
   replace hw132 := tF hw132 hE152 (by omega)
   clear hE152
   obtain ⟨wd153, hE154⟩ : ∃ ww, ww = wd151.setCell ⟨g136, 6, none⟩ (.slice none 0 0) := ⟨_, rfl⟩
   rw [← hE154]
   replace T := dF T hE154 (by omega)
   replace R : Hid (Has wd153 (g136) 33 #[.int .i64 0, .string ⟨#[]⟩, .int .i64 x.low, .int .i64 x.high, .int .i64 x.max, .slice A1 x.syms.length c1, .slice none 0 0, .int .i64 x.key, .int .i64 x.elem, .bool false]) := Lib.hid (by simpa using dS R hE154)
   replace hw132 := tF hw132 hE154 (by omega)
   clear hE154
   have cT_0 : wd153.cell? ⟨w.heap.size, 0, none⟩ = some (.int .i64 5) := T.out.cell 0
   have cT_9 : wd153.cell? ⟨w.heap.size, 9, none⟩ = some (.bool false) := T.out.cell 9
   have cR_9 : wd153.cell? ⟨g136, 9, none⟩ = some (.bool false) := R.out.cell 9
   have fR_9 := R.out.free 9
   go_upto_region 29 with fail
   clear cT_0 cT_9 cR_9 fR_9
   obtain ⟨wd155, hE156⟩ : ∃ ww, ww = wd153.setCell ⟨g136, 9, none⟩ (.bool false) := ⟨_, rfl⟩
   rw [← hE156]
   replace T := dF T hE156 (by omega)
   replace R : Hid (Has wd155 (g136) 33 #[.int .i64 0, .string ⟨#[]⟩, .int .i64 x.low, .int .i64 x.high, .int .i64 x.max, .slice A1 x.syms.length c1, .slice none 0 0, .int .i64 x.key, .int .i64 x.elem, .bool false]) := Lib.hid (by simpa using dS R hE156)
   replace hw132 := tF hw132 hE156 (by omega)
   clear hE156
   obtain ⟨cR_0, cR_1, cR_2, cR_3, cR_4, cR_5, cR_6, cR_7, cR_8, cR_9⟩ := R.out.c10
   go_wp2_with fail
   go_ret
   exact ⟨ret_bool Hf.out.symm, hw132⟩
  | true =>
   have Hf : Hid (formB x = sameZ (restT x) typZ) := by show _ = _; rw [hf, hn, hs]; rfl
   clear hf h
   have cT_0 : wd149.cell? ⟨w.heap.size, 0, none⟩ = some (.int .i64 5) := T.out.cell 0
   have cT_9 : wd149.cell? ⟨w.heap.size, 9, none⟩ = some (.bool false) := T.out.cell 9
   have cR_1 : wd149.cell? ⟨g136, 1, none⟩ = some (.string ⟨x.name.toArray⟩) := R.out.cell 1
   have cR_6 : wd149.cell? ⟨g136, 6, none⟩ = some (.slice A2 x.mems.length c2) := R.out.cell 6
   have fR_1 := R.out.free 1
   have fR_6 := R.out.free 6
   go_upto_region 20 with fail
   clear cT_0 cT_9 cR_1 cR_6 fR_1 fR_6
   obtain ⟨wd157, hE158⟩ : ∃ ww, ww = wd149.setCell ⟨g136, 1, none⟩ (.string ⟨#[]⟩) := ⟨_, rfl⟩
   rw [← hE158]
   replace T := dF T hE158 (by omega)
   replace R : Hid (Has wd157 (g136) 33 #[.int .i64 0, .string ⟨#[]⟩, .int .i64 x.low, .int .i64 x.high, .int .i64 x.max, .slice A1 x.syms.length c1, .slice A2 x.mems.length c2, .int .i64 x.key, .int .i64 x.elem, .bool false]) := Lib.hid (by simpa using dS R hE158)
   replace hw132 := tF hw132 hE158 (by omega)
   clear hE158
   obtain ⟨wd159, hE160⟩ : ∃ ww, ww = wd157.setCell ⟨g136, 6, none⟩ (.slice none 0 0) := ⟨_, rfl⟩
   rw [← hE160]
   replace T := dF T hE160 (by omega)
   replace R : Hid (Has wd159 (g136) 33 #[.int .i64 0, .string ⟨#[]⟩, .int .i64 x.low, .int .i64 x.high, .int .i64 x.max, .slice A1 x.syms.length c1, .slice none 0 0, .int .i64 x.key, .int .i64 x.elem, .bool false]) := Lib.hid (by simpa using dS R hE160)
   replace hw132 := tF hw132 hE160 (by omega)
   clear hE160
   have cT_0 : wd159.cell? ⟨w.heap.size, 0, none⟩ = some (.int .i64 5) := T.out.cell 0
   have cT_9 : wd159.cell? ⟨w.heap.size, 9, none⟩ = some (.bool false) := T.out.cell 9
   have cR_9 : wd159.cell? ⟨g136, 9, none⟩ = some (.bool false) := R.out.cell 9
   have fR_9 := R.out.free 9
   go_upto_region 29 with fail
   clear cT_0 cT_9 cR_9 fR_9
   obtain ⟨wd161, hE162⟩ : ∃ ww, ww = wd159.setCell ⟨g136, 9, none⟩ (.bool false) := ⟨_, rfl⟩
   rw [← hE162]
   replace T := dF T hE162 (by omega)
   replace R : Hid (Has wd161 (g136) 33 #[.int .i64 0, .string ⟨#[]⟩, .int .i64 x.low, .int .i64 x.high, .int .i64 x.max, .slice A1 x.syms.length c1, .slice none 0 0, .int .i64 x.key, .int .i64 x.elem, .bool false]) := Lib.hid (by simpa using dS R hE162)
   replace hw132 := tF hw132 hE162 (by omega)
   clear hE162
   obtain ⟨cR_0, cR_1, cR_2, cR_3, cR_4, cR_5, cR_6, cR_7, cR_8, cR_9⟩ := R.out.c10
   go_wp2_with fail
   clear cR_0 cR_1 cR_2 cR_3 cR_4 cR_5 cR_6 cR_7 cR_8 cR_9
   ((with_reducible refine (HC.out _).mono ?_); rintro e wd163 ⟨rfl, hb164⟩)
   replace T := dB T hb164
   replace R := dB R hb164
   replace hw132 := dT hw132 hb164
   clear hb164
   go_wp2_with fail
   go_ret
   exact ⟨ret_bool Hf.out.symm, hw132⟩
set_option maxRecDepth 100000 in
theorem form6true_any (x : Typ) (A1 A2 : Option Addr) (c1 c2 : Nat) (w : World) (h : x.kind = 6) (hop : x.opn = true) (hl : x.syms.length ≤ 6000000000000 ∧ x.mems.length ≤ 6000000000000) (ht : TypAt w w.heap.size x (.slice A1 x.syms.length c1) (.slice A2 x.mems.length c2)) :
  Calls Tryd.prog 37 #[typA x (.slice A1 x.syms.length c1) (.slice A2 x.mems.length c2)] w fun e w' => e = .returned (.bool (formB x)) ∧ Below w.heap.size w w' := by
 have hrt : restT x = { x with kind := 0, name := [], mems := [], opn := false } := by unfold restT; simp [h]
 have hf := form_of x (by rw [h]; unfold KindIn; omega)
 have hc : ∀ W, Calls Tryd.prog 60 #[.agg #[.int .i64 0, .string ⟨#[]⟩, .int .i64 x.low, .int .i64 x.high, .int .i64 x.max, .slice A1 x.syms.length c1, .slice none 0 0, .int .i64 x.key, .int .i64 x.elem, .bool false], .agg #[.int .i64 0, .string ⟨#[]⟩, .int .i64 0, .int .i64 0, .int .i64 0, .slice none 0 0, .slice none 0 0, .int .i64 0, .int .i64 0, .bool false]] W fun e w' => e = .returned (.bool (sameZ (restT x) typZ)) ∧ Below W.heap.size W w' := fun W => by
  rw [hrt]
  exact equalz_any ({ x with kind := 0, name := [], mems := [], opn := false } : Typ) typZ A1 none c1 0 W
 have hok : okT x = (nameB x.name && membersB x) := by unfold okT; simp [h]
 rw [hok] at hf
 have HC := Lib.hid hc
 have HN := Lib.hid (fun W => isname_any x.name W)
 have hm := fun W hW => members_any x (.slice A1 x.syms.length c1) (.slice A2 x.mems.length c2) W hl.2 (ht.on (w' := W) hW)
 simp only [typA, h, hop] at hm
 have HM := Lib.hid hm
 clear hm
 clear hc hok hrt ht
 simp only [typA, h, hop]
 clear hop
 go_enter Tryd.func37, Tryd.ntmps37
 go_upto_region 1 with fail
 obtain ⟨wd166, hE167⟩ : ∃ ww, ww = w.alloc (.cells #[.int .i64 6, .string ⟨x.name.toArray⟩, .int .i64 x.low, .int .i64 x.high, .int .i64 x.max, .slice A1 x.syms.length c1, .slice A2 x.mems.length c2, .int .i64 x.key, .int .i64 x.elem, .bool true] 33) := ⟨_, rfl⟩
 rw [← hE167]
 have hb165 := aB hE167
 have T := aN hE167
 clear hE167
 have hw168 := hb165
 clear hb165
 obtain ⟨cT_0, cT_1, cT_2, cT_3, cT_4, cT_5, cT_6, cT_7, cT_8, cT_9⟩ := T.out.c10
 go_upto_region 2 with fail
 clear cT_0 cT_1 cT_2 cT_3 cT_4 cT_5 cT_6 cT_7 cT_8 cT_9
 obtain ⟨wd170, hE171⟩ : ∃ ww, ww = wd166.alloc (.cells #[.int .i64 6, .string ⟨x.name.toArray⟩, .int .i64 x.low, .int .i64 x.high, .int .i64 x.max, .slice A1 x.syms.length c1, .slice A2 x.mems.length c2, .int .i64 x.key, .int .i64 x.elem, .bool true] 33) := ⟨_, rfl⟩
 rw [← hE171]
 have hb169 := aB hE171
 have R := aN hE171
 clear hE171
 have hl173 := T.out.here
 have hl174 := hw168.size
 replace T := dB T hb169
 replace hw168 := dT hw168 hb169
 clear hb169
 generalize wd166.heap.size = g172 at *
 have cR_0 : wd170.cell? ⟨g172, 0, none⟩ = some (.int .i64 6) := R.out.cell 0
 have fR_0 := R.out.free 0
 go_upto_region 3 with fail
 clear cR_0 fR_0
 obtain ⟨wd175, hE176⟩ : ∃ ww, ww = wd170.setCell ⟨g172, 0, none⟩ (.int .i64 0) := ⟨_, rfl⟩
 rw [← hE176]
 replace T := dF T hE176 (by omega)
 replace R : Hid (Has wd175 (g172) 33 #[.int .i64 0, .string ⟨x.name.toArray⟩, .int .i64 x.low, .int .i64 x.high, .int .i64 x.max, .slice A1 x.syms.length c1, .slice A2 x.mems.length c2, .int .i64 x.key, .int .i64 x.elem, .bool true]) := Lib.hid (by simpa using dS R hE176)
 replace hw168 := tF hw168 hE176 (by omega)
 clear hE176
 obtain ⟨cT_0, cT_1, cT_2, cT_3, cT_4, cT_5, cT_6, cT_7, cT_8, cT_9⟩ := T.out.c10
 go_wp2_with fail
 clear cT_0 cT_1 cT_2 cT_3 cT_4 cT_5 cT_6 cT_7 cT_8 cT_9
 ((with_reducible refine (HN.out _).mono ?_); rintro e wd177 ⟨rfl, rfl⟩)
 cases hn : nameB x.name with
 | false =>
  have Hf : Hid (formB x = false) := by show _ = _; rw [hf, hn]; rfl
  clear hf h
  have cT_0 : wd175.cell? ⟨w.heap.size, 0, none⟩ = some (.int .i64 6) := T.out.cell 0
  have cT_9 : wd175.cell? ⟨w.heap.size, 9, none⟩ = some (.bool true) := T.out.cell 9
  have cR_1 : wd175.cell? ⟨g172, 1, none⟩ = some (.string ⟨x.name.toArray⟩) := R.out.cell 1
  have cR_6 : wd175.cell? ⟨g172, 6, none⟩ = some (.slice A2 x.mems.length c2) := R.out.cell 6
  have fR_1 := R.out.free 1
  have fR_6 := R.out.free 6
  go_upto_region 20 with fail
  clear cT_0 cT_9 cR_1 cR_6 fR_1 fR_6
  obtain ⟨wd179, hE180⟩ : ∃ ww, ww = wd175.setCell ⟨g172, 1, none⟩ (.string ⟨#[]⟩) := ⟨_, rfl⟩
  rw [← hE180]
  replace T := dF T hE180 (by omega)
  replace R : Hid (Has wd179 (g172) 33 #[.int .i64 0, .string ⟨#[]⟩, .int .i64 x.low, .int .i64 x.high, .int .i64 x.max, .slice A1 x.syms.length c1, .slice A2 x.mems.length c2, .int .i64 x.key, .int .i64 x.elem, .bool true]) := Lib.hid (by simpa using dS R hE180)
  replace hw168 := tF hw168 hE180 (by omega)
  clear hE180
  obtain ⟨wd181, hE182⟩ : ∃ ww, ww = wd179.setCell ⟨g172, 6, none⟩ (.slice none 0 0) := ⟨_, rfl⟩
  rw [← hE182]
  replace T := dF T hE182 (by omega)
  replace R : Hid (Has wd181 (g172) 33 #[.int .i64 0, .string ⟨#[]⟩, .int .i64 x.low, .int .i64 x.high, .int .i64 x.max, .slice A1 x.syms.length c1, .slice none 0 0, .int .i64 x.key, .int .i64 x.elem, .bool true]) := Lib.hid (by simpa using dS R hE182)
  replace hw168 := tF hw168 hE182 (by omega)
  clear hE182
  have cT_0 : wd181.cell? ⟨w.heap.size, 0, none⟩ = some (.int .i64 6) := T.out.cell 0
  have cT_9 : wd181.cell? ⟨w.heap.size, 9, none⟩ = some (.bool true) := T.out.cell 9
  have cR_9 : wd181.cell? ⟨g172, 9, none⟩ = some (.bool true) := R.out.cell 9
  have fR_9 := R.out.free 9
  go_upto_region 29 with fail
  clear cT_0 cT_9 cR_9 fR_9
  obtain ⟨wd183, hE184⟩ : ∃ ww, ww = wd181.setCell ⟨g172, 9, none⟩ (.bool false) := ⟨_, rfl⟩
  rw [← hE184]
  replace T := dF T hE184 (by omega)
  replace R : Hid (Has wd183 (g172) 33 #[.int .i64 0, .string ⟨#[]⟩, .int .i64 x.low, .int .i64 x.high, .int .i64 x.max, .slice A1 x.syms.length c1, .slice none 0 0, .int .i64 x.key, .int .i64 x.elem, .bool false]) := Lib.hid (by simpa using dS R hE184)
  replace hw168 := tF hw168 hE184 (by omega)
  clear hE184
  obtain ⟨cR_0, cR_1, cR_2, cR_3, cR_4, cR_5, cR_6, cR_7, cR_8, cR_9⟩ := R.out.c10
  go_wp2_with fail
  go_ret
  exact ⟨ret_bool Hf.out.symm, hw168⟩
 | true =>
  obtain ⟨cT_0, cT_1, cT_2, cT_3, cT_4, cT_5, cT_6, cT_7, cT_8, cT_9⟩ := T.out.c10
  go_wp2_with fail
  clear cT_0 cT_1 cT_2 cT_3 cT_4 cT_5 cT_6 cT_7 cT_8 cT_9
  ((with_reducible refine (HM.out _ (hw168)).mono ?_); rintro e wd185 ⟨rfl, hb186⟩)
  replace T := dB T hb186
  replace R := dB R hb186
  replace hw168 := dT hw168 hb186
  clear hb186
  cases hs : membersB x with
  | false =>
   have Hf : Hid (formB x = false) := by show _ = _; rw [hf, hn, hs]; rfl
   clear hf h
   have cT_0 : wd185.cell? ⟨w.heap.size, 0, none⟩ = some (.int .i64 6) := T.out.cell 0
   have cT_9 : wd185.cell? ⟨w.heap.size, 9, none⟩ = some (.bool true) := T.out.cell 9
   have cR_1 : wd185.cell? ⟨g172, 1, none⟩ = some (.string ⟨x.name.toArray⟩) := R.out.cell 1
   have cR_6 : wd185.cell? ⟨g172, 6, none⟩ = some (.slice A2 x.mems.length c2) := R.out.cell 6
   have fR_1 := R.out.free 1
   have fR_6 := R.out.free 6
   go_upto_region 20 with fail
   clear cT_0 cT_9 cR_1 cR_6 fR_1 fR_6
   obtain ⟨wd187, hE188⟩ : ∃ ww, ww = wd185.setCell ⟨g172, 1, none⟩ (.string ⟨#[]⟩) := ⟨_, rfl⟩
   rw [← hE188]
   replace T := dF T hE188 (by omega)
   replace R : Hid (Has wd187 (g172) 33 #[.int .i64 0, .string ⟨#[]⟩, .int .i64 x.low, .int .i64 x.high, .int .i64 x.max, .slice A1 x.syms.length c1, .slice A2 x.mems.length c2, .int .i64 x.key, .int .i64 x.elem, .bool true]) := Lib.hid (by simpa using dS R hE188)
   replace hw168 := tF hw168 hE188 (by omega)
   clear hE188
   obtain ⟨wd189, hE190⟩ : ∃ ww, ww = wd187.setCell ⟨g172, 6, none⟩ (.slice none 0 0) := ⟨_, rfl⟩
   rw [← hE190]
   replace T := dF T hE190 (by omega)
   replace R : Hid (Has wd189 (g172) 33 #[.int .i64 0, .string ⟨#[]⟩, .int .i64 x.low, .int .i64 x.high, .int .i64 x.max, .slice A1 x.syms.length c1, .slice none 0 0, .int .i64 x.key, .int .i64 x.elem, .bool true]) := Lib.hid (by simpa using dS R hE190)
   replace hw168 := tF hw168 hE190 (by omega)
   clear hE190
   have cT_0 : wd189.cell? ⟨w.heap.size, 0, none⟩ = some (.int .i64 6) := T.out.cell 0
   have cT_9 : wd189.cell? ⟨w.heap.size, 9, none⟩ = some (.bool true) := T.out.cell 9
   have cR_9 : wd189.cell? ⟨g172, 9, none⟩ = some (.bool true) := R.out.cell 9
   have fR_9 := R.out.free 9
   go_upto_region 29 with fail
   clear cT_0 cT_9 cR_9 fR_9
   obtain ⟨wd191, hE192⟩ : ∃ ww, ww = wd189.setCell ⟨g172, 9, none⟩ (.bool false) := ⟨_, rfl⟩
   rw [← hE192]
   replace T := dF T hE192 (by omega)
   replace R : Hid (Has wd191 (g172) 33 #[.int .i64 0, .string ⟨#[]⟩, .int .i64 x.low, .int .i64 x.high, .int .i64 x.max, .slice A1 x.syms.length c1, .slice none 0 0, .int .i64 x.key, .int .i64 x.elem, .bool false]) := Lib.hid (by simpa using dS R hE192)
   replace hw168 := tF hw168 hE192 (by omega)
   clear hE192
   obtain ⟨cR_0, cR_1, cR_2, cR_3, cR_4, cR_5, cR_6, cR_7, cR_8, cR_9⟩ := R.out.c10
   go_wp2_with fail
   go_ret
   exact ⟨ret_bool Hf.out.symm, hw168⟩
  | true =>
   have Hf : Hid (formB x = sameZ (restT x) typZ) := by show _ = _; rw [hf, hn, hs]; rfl
   clear hf h
   have cT_0 : wd185.cell? ⟨w.heap.size, 0, none⟩ = some (.int .i64 6) := T.out.cell 0
   have cT_9 : wd185.cell? ⟨w.heap.size, 9, none⟩ = some (.bool true) := T.out.cell 9
   have cR_1 : wd185.cell? ⟨g172, 1, none⟩ = some (.string ⟨x.name.toArray⟩) := R.out.cell 1
   have cR_6 : wd185.cell? ⟨g172, 6, none⟩ = some (.slice A2 x.mems.length c2) := R.out.cell 6
   have fR_1 := R.out.free 1
   have fR_6 := R.out.free 6
   go_upto_region 20 with fail
   clear cT_0 cT_9 cR_1 cR_6 fR_1 fR_6
   obtain ⟨wd193, hE194⟩ : ∃ ww, ww = wd185.setCell ⟨g172, 1, none⟩ (.string ⟨#[]⟩) := ⟨_, rfl⟩
   rw [← hE194]
   replace T := dF T hE194 (by omega)
   replace R : Hid (Has wd193 (g172) 33 #[.int .i64 0, .string ⟨#[]⟩, .int .i64 x.low, .int .i64 x.high, .int .i64 x.max, .slice A1 x.syms.length c1, .slice A2 x.mems.length c2, .int .i64 x.key, .int .i64 x.elem, .bool true]) := Lib.hid (by simpa using dS R hE194)
   replace hw168 := tF hw168 hE194 (by omega)
   clear hE194
   obtain ⟨wd195, hE196⟩ : ∃ ww, ww = wd193.setCell ⟨g172, 6, none⟩ (.slice none 0 0) := ⟨_, rfl⟩
   rw [← hE196]
   replace T := dF T hE196 (by omega)
   replace R : Hid (Has wd195 (g172) 33 #[.int .i64 0, .string ⟨#[]⟩, .int .i64 x.low, .int .i64 x.high, .int .i64 x.max, .slice A1 x.syms.length c1, .slice none 0 0, .int .i64 x.key, .int .i64 x.elem, .bool true]) := Lib.hid (by simpa using dS R hE196)
   replace hw168 := tF hw168 hE196 (by omega)
   clear hE196
   have cT_0 : wd195.cell? ⟨w.heap.size, 0, none⟩ = some (.int .i64 6) := T.out.cell 0
   have cT_9 : wd195.cell? ⟨w.heap.size, 9, none⟩ = some (.bool true) := T.out.cell 9
   have cR_9 : wd195.cell? ⟨g172, 9, none⟩ = some (.bool true) := R.out.cell 9
   have fR_9 := R.out.free 9
   go_upto_region 29 with fail
   clear cT_0 cT_9 cR_9 fR_9
   obtain ⟨wd197, hE198⟩ : ∃ ww, ww = wd195.setCell ⟨g172, 9, none⟩ (.bool false) := ⟨_, rfl⟩
   rw [← hE198]
   replace T := dF T hE198 (by omega)
   replace R : Hid (Has wd197 (g172) 33 #[.int .i64 0, .string ⟨#[]⟩, .int .i64 x.low, .int .i64 x.high, .int .i64 x.max, .slice A1 x.syms.length c1, .slice none 0 0, .int .i64 x.key, .int .i64 x.elem, .bool false]) := Lib.hid (by simpa using dS R hE198)
   replace hw168 := tF hw168 hE198 (by omega)
   clear hE198
   obtain ⟨cR_0, cR_1, cR_2, cR_3, cR_4, cR_5, cR_6, cR_7, cR_8, cR_9⟩ := R.out.c10
   go_wp2_with fail
   clear cR_0 cR_1 cR_2 cR_3 cR_4 cR_5 cR_6 cR_7 cR_8 cR_9
   ((with_reducible refine (HC.out _).mono ?_); rintro e wd199 ⟨rfl, hb200⟩)
   replace T := dB T hb200
   replace R := dB R hb200
   replace hw168 := dT hw168 hb200
   clear hb200
   go_wp2_with fail
   go_ret
   exact ⟨ret_bool Hf.out.symm, hw168⟩
set_option maxRecDepth 100000 in
theorem form6false_any (x : Typ) (A1 A2 : Option Addr) (c1 c2 : Nat) (w : World) (h : x.kind = 6) (hop : x.opn = false) (hl : x.syms.length ≤ 6000000000000 ∧ x.mems.length ≤ 6000000000000) (ht : TypAt w w.heap.size x (.slice A1 x.syms.length c1) (.slice A2 x.mems.length c2)) :
  Calls Tryd.prog 37 #[typA x (.slice A1 x.syms.length c1) (.slice A2 x.mems.length c2)] w fun e w' => e = .returned (.bool (formB x)) ∧ Below w.heap.size w w' := by
 have hrt : restT x = { x with kind := 0, name := [], mems := [], opn := false } := by unfold restT; simp [h]
 have hf := form_of x (by rw [h]; unfold KindIn; omega)
 have hc : ∀ W, Calls Tryd.prog 60 #[.agg #[.int .i64 0, .string ⟨#[]⟩, .int .i64 x.low, .int .i64 x.high, .int .i64 x.max, .slice A1 x.syms.length c1, .slice none 0 0, .int .i64 x.key, .int .i64 x.elem, .bool false], .agg #[.int .i64 0, .string ⟨#[]⟩, .int .i64 0, .int .i64 0, .int .i64 0, .slice none 0 0, .slice none 0 0, .int .i64 0, .int .i64 0, .bool false]] W fun e w' => e = .returned (.bool (sameZ (restT x) typZ)) ∧ Below W.heap.size W w' := fun W => by
  rw [hrt]
  exact equalz_any ({ x with kind := 0, name := [], mems := [], opn := false } : Typ) typZ A1 none c1 0 W
 have hok : okT x = (nameB x.name && membersB x) := by unfold okT; simp [h]
 rw [hok] at hf
 have HC := Lib.hid hc
 have HN := Lib.hid (fun W => isname_any x.name W)
 have hm := fun W hW => members_any x (.slice A1 x.syms.length c1) (.slice A2 x.mems.length c2) W hl.2 (ht.on (w' := W) hW)
 simp only [typA, h, hop] at hm
 have HM := Lib.hid hm
 clear hm
 clear hc hok hrt ht
 simp only [typA, h, hop]
 clear hop
 go_enter Tryd.func37, Tryd.ntmps37
 go_upto_region 1 with fail
 obtain ⟨wd202, hE203⟩ : ∃ ww, ww = w.alloc (.cells #[.int .i64 6, .string ⟨x.name.toArray⟩, .int .i64 x.low, .int .i64 x.high, .int .i64 x.max, .slice A1 x.syms.length c1, .slice A2 x.mems.length c2, .int .i64 x.key, .int .i64 x.elem, .bool false] 33) := ⟨_, rfl⟩
 rw [← hE203]
 have hb201 := aB hE203
 have T := aN hE203
 clear hE203
 have hw204 := hb201
 clear hb201
 obtain ⟨cT_0, cT_1, cT_2, cT_3, cT_4, cT_5, cT_6, cT_7, cT_8, cT_9⟩ := T.out.c10
 go_upto_region 2 with fail
 clear cT_0 cT_1 cT_2 cT_3 cT_4 cT_5 cT_6 cT_7 cT_8 cT_9
 obtain ⟨wd206, hE207⟩ : ∃ ww, ww = wd202.alloc (.cells #[.int .i64 6, .string ⟨x.name.toArray⟩, .int .i64 x.low, .int .i64 x.high, .int .i64 x.max, .slice A1 x.syms.length c1, .slice A2 x.mems.length c2, .int .i64 x.key, .int .i64 x.elem, .bool false] 33) := ⟨_, rfl⟩
 rw [← hE207]
 have hb205 := aB hE207
 have R := aN hE207
 clear hE207
 have hl209 := T.out.here
 have hl210 := hw204.size
 replace T := dB T hb205
 replace hw204 := dT hw204 hb205
 clear hb205
 generalize wd202.heap.size = g208 at *
 have cR_0 : wd206.cell? ⟨g208, 0, none⟩ = some (.int .i64 6) := R.out.cell 0
 have fR_0 := R.out.free 0
 go_upto_region 3 with fail
 clear cR_0 fR_0
 obtain ⟨wd211, hE212⟩ : ∃ ww, ww = wd206.setCell ⟨g208, 0, none⟩ (.int .i64 0) := ⟨_, rfl⟩
 rw [← hE212]
 replace T := dF T hE212 (by omega)
 replace R : Hid (Has wd211 (g208) 33 #[.int .i64 0, .string ⟨x.name.toArray⟩, .int .i64 x.low, .int .i64 x.high, .int .i64 x.max, .slice A1 x.syms.length c1, .slice A2 x.mems.length c2, .int .i64 x.key, .int .i64 x.elem, .bool false]) := Lib.hid (by simpa using dS R hE212)
 replace hw204 := tF hw204 hE212 (by omega)
 clear hE212
 obtain ⟨cT_0, cT_1, cT_2, cT_3, cT_4, cT_5, cT_6, cT_7, cT_8, cT_9⟩ := T.out.c10
 go_wp2_with fail
 clear cT_0 cT_1 cT_2 cT_3 cT_4 cT_5 cT_6 cT_7 cT_8 cT_9
 ((with_reducible refine (HN.out _).mono ?_); rintro e wd213 ⟨rfl, rfl⟩)
 cases hn : nameB x.name with
 | false =>
  have Hf : Hid (formB x = false) := by show _ = _; rw [hf, hn]; rfl
  clear hf h
  have cT_0 : wd211.cell? ⟨w.heap.size, 0, none⟩ = some (.int .i64 6) := T.out.cell 0
  have cT_9 : wd211.cell? ⟨w.heap.size, 9, none⟩ = some (.bool false) := T.out.cell 9
  have cR_1 : wd211.cell? ⟨g208, 1, none⟩ = some (.string ⟨x.name.toArray⟩) := R.out.cell 1
  have cR_6 : wd211.cell? ⟨g208, 6, none⟩ = some (.slice A2 x.mems.length c2) := R.out.cell 6
  have fR_1 := R.out.free 1
  have fR_6 := R.out.free 6
  go_upto_region 20 with fail
  clear cT_0 cT_9 cR_1 cR_6 fR_1 fR_6
  obtain ⟨wd215, hE216⟩ : ∃ ww, ww = wd211.setCell ⟨g208, 1, none⟩ (.string ⟨#[]⟩) := ⟨_, rfl⟩
  rw [← hE216]
  replace T := dF T hE216 (by omega)
  replace R : Hid (Has wd215 (g208) 33 #[.int .i64 0, .string ⟨#[]⟩, .int .i64 x.low, .int .i64 x.high, .int .i64 x.max, .slice A1 x.syms.length c1, .slice A2 x.mems.length c2, .int .i64 x.key, .int .i64 x.elem, .bool false]) := Lib.hid (by simpa using dS R hE216)
  replace hw204 := tF hw204 hE216 (by omega)
  clear hE216
  obtain ⟨wd217, hE218⟩ : ∃ ww, ww = wd215.setCell ⟨g208, 6, none⟩ (.slice none 0 0) := ⟨_, rfl⟩
  rw [← hE218]
  replace T := dF T hE218 (by omega)
  replace R : Hid (Has wd217 (g208) 33 #[.int .i64 0, .string ⟨#[]⟩, .int .i64 x.low, .int .i64 x.high, .int .i64 x.max, .slice A1 x.syms.length c1, .slice none 0 0, .int .i64 x.key, .int .i64 x.elem, .bool false]) := Lib.hid (by simpa using dS R hE218)
  replace hw204 := tF hw204 hE218 (by omega)
  clear hE218
  have cT_0 : wd217.cell? ⟨w.heap.size, 0, none⟩ = some (.int .i64 6) := T.out.cell 0
  have cT_9 : wd217.cell? ⟨w.heap.size, 9, none⟩ = some (.bool false) := T.out.cell 9
  have cR_9 : wd217.cell? ⟨g208, 9, none⟩ = some (.bool false) := R.out.cell 9
  have fR_9 := R.out.free 9
  go_upto_region 29 with fail
  clear cT_0 cT_9 cR_9 fR_9
  obtain ⟨wd219, hE220⟩ : ∃ ww, ww = wd217.setCell ⟨g208, 9, none⟩ (.bool false) := ⟨_, rfl⟩
  rw [← hE220]
  replace T := dF T hE220 (by omega)
  replace R : Hid (Has wd219 (g208) 33 #[.int .i64 0, .string ⟨#[]⟩, .int .i64 x.low, .int .i64 x.high, .int .i64 x.max, .slice A1 x.syms.length c1, .slice none 0 0, .int .i64 x.key, .int .i64 x.elem, .bool false]) := Lib.hid (by simpa using dS R hE220)
  replace hw204 := tF hw204 hE220 (by omega)
  clear hE220
  obtain ⟨cR_0, cR_1, cR_2, cR_3, cR_4, cR_5, cR_6, cR_7, cR_8, cR_9⟩ := R.out.c10
  go_wp2_with fail
  go_ret
  exact ⟨ret_bool Hf.out.symm, hw204⟩
 | true =>
  obtain ⟨cT_0, cT_1, cT_2, cT_3, cT_4, cT_5, cT_6, cT_7, cT_8, cT_9⟩ := T.out.c10
  go_wp2_with fail
  clear cT_0 cT_1 cT_2 cT_3 cT_4 cT_5 cT_6 cT_7 cT_8 cT_9
  ((with_reducible refine (HM.out _ (hw204)).mono ?_); rintro e wd221 ⟨rfl, hb222⟩)
  replace T := dB T hb222
  replace R := dB R hb222
  replace hw204 := dT hw204 hb222
  clear hb222
  cases hs : membersB x with
  | false =>
   have Hf : Hid (formB x = false) := by show _ = _; rw [hf, hn, hs]; rfl
   clear hf h
   have cT_0 : wd221.cell? ⟨w.heap.size, 0, none⟩ = some (.int .i64 6) := T.out.cell 0
   have cT_9 : wd221.cell? ⟨w.heap.size, 9, none⟩ = some (.bool false) := T.out.cell 9
   have cR_1 : wd221.cell? ⟨g208, 1, none⟩ = some (.string ⟨x.name.toArray⟩) := R.out.cell 1
   have cR_6 : wd221.cell? ⟨g208, 6, none⟩ = some (.slice A2 x.mems.length c2) := R.out.cell 6
   have fR_1 := R.out.free 1
   have fR_6 := R.out.free 6
   go_upto_region 20 with fail
   clear cT_0 cT_9 cR_1 cR_6 fR_1 fR_6
   obtain ⟨wd223, hE224⟩ : ∃ ww, ww = wd221.setCell ⟨g208, 1, none⟩ (.string ⟨#[]⟩) := ⟨_, rfl⟩
   rw [← hE224]
   replace T := dF T hE224 (by omega)
   replace R : Hid (Has wd223 (g208) 33 #[.int .i64 0, .string ⟨#[]⟩, .int .i64 x.low, .int .i64 x.high, .int .i64 x.max, .slice A1 x.syms.length c1, .slice A2 x.mems.length c2, .int .i64 x.key, .int .i64 x.elem, .bool false]) := Lib.hid (by simpa using dS R hE224)
   replace hw204 := tF hw204 hE224 (by omega)
   clear hE224
   obtain ⟨wd225, hE226⟩ : ∃ ww, ww = wd223.setCell ⟨g208, 6, none⟩ (.slice none 0 0) := ⟨_, rfl⟩
   rw [← hE226]
   replace T := dF T hE226 (by omega)
   replace R : Hid (Has wd225 (g208) 33 #[.int .i64 0, .string ⟨#[]⟩, .int .i64 x.low, .int .i64 x.high, .int .i64 x.max, .slice A1 x.syms.length c1, .slice none 0 0, .int .i64 x.key, .int .i64 x.elem, .bool false]) := Lib.hid (by simpa using dS R hE226)
   replace hw204 := tF hw204 hE226 (by omega)
   clear hE226
   have cT_0 : wd225.cell? ⟨w.heap.size, 0, none⟩ = some (.int .i64 6) := T.out.cell 0
   have cT_9 : wd225.cell? ⟨w.heap.size, 9, none⟩ = some (.bool false) := T.out.cell 9
   have cR_9 : wd225.cell? ⟨g208, 9, none⟩ = some (.bool false) := R.out.cell 9
   have fR_9 := R.out.free 9
   go_upto_region 29 with fail
   clear cT_0 cT_9 cR_9 fR_9
   obtain ⟨wd227, hE228⟩ : ∃ ww, ww = wd225.setCell ⟨g208, 9, none⟩ (.bool false) := ⟨_, rfl⟩
   rw [← hE228]
   replace T := dF T hE228 (by omega)
   replace R : Hid (Has wd227 (g208) 33 #[.int .i64 0, .string ⟨#[]⟩, .int .i64 x.low, .int .i64 x.high, .int .i64 x.max, .slice A1 x.syms.length c1, .slice none 0 0, .int .i64 x.key, .int .i64 x.elem, .bool false]) := Lib.hid (by simpa using dS R hE228)
   replace hw204 := tF hw204 hE228 (by omega)
   clear hE228
   obtain ⟨cR_0, cR_1, cR_2, cR_3, cR_4, cR_5, cR_6, cR_7, cR_8, cR_9⟩ := R.out.c10
   go_wp2_with fail
   go_ret
   exact ⟨ret_bool Hf.out.symm, hw204⟩
  | true =>
   have Hf : Hid (formB x = sameZ (restT x) typZ) := by show _ = _; rw [hf, hn, hs]; rfl
   clear hf h
   have cT_0 : wd221.cell? ⟨w.heap.size, 0, none⟩ = some (.int .i64 6) := T.out.cell 0
   have cT_9 : wd221.cell? ⟨w.heap.size, 9, none⟩ = some (.bool false) := T.out.cell 9
   have cR_1 : wd221.cell? ⟨g208, 1, none⟩ = some (.string ⟨x.name.toArray⟩) := R.out.cell 1
   have cR_6 : wd221.cell? ⟨g208, 6, none⟩ = some (.slice A2 x.mems.length c2) := R.out.cell 6
   have fR_1 := R.out.free 1
   have fR_6 := R.out.free 6
   go_upto_region 20 with fail
   clear cT_0 cT_9 cR_1 cR_6 fR_1 fR_6
   obtain ⟨wd229, hE230⟩ : ∃ ww, ww = wd221.setCell ⟨g208, 1, none⟩ (.string ⟨#[]⟩) := ⟨_, rfl⟩
   rw [← hE230]
   replace T := dF T hE230 (by omega)
   replace R : Hid (Has wd229 (g208) 33 #[.int .i64 0, .string ⟨#[]⟩, .int .i64 x.low, .int .i64 x.high, .int .i64 x.max, .slice A1 x.syms.length c1, .slice A2 x.mems.length c2, .int .i64 x.key, .int .i64 x.elem, .bool false]) := Lib.hid (by simpa using dS R hE230)
   replace hw204 := tF hw204 hE230 (by omega)
   clear hE230
   obtain ⟨wd231, hE232⟩ : ∃ ww, ww = wd229.setCell ⟨g208, 6, none⟩ (.slice none 0 0) := ⟨_, rfl⟩
   rw [← hE232]
   replace T := dF T hE232 (by omega)
   replace R : Hid (Has wd231 (g208) 33 #[.int .i64 0, .string ⟨#[]⟩, .int .i64 x.low, .int .i64 x.high, .int .i64 x.max, .slice A1 x.syms.length c1, .slice none 0 0, .int .i64 x.key, .int .i64 x.elem, .bool false]) := Lib.hid (by simpa using dS R hE232)
   replace hw204 := tF hw204 hE232 (by omega)
   clear hE232
   have cT_0 : wd231.cell? ⟨w.heap.size, 0, none⟩ = some (.int .i64 6) := T.out.cell 0
   have cT_9 : wd231.cell? ⟨w.heap.size, 9, none⟩ = some (.bool false) := T.out.cell 9
   have cR_9 : wd231.cell? ⟨g208, 9, none⟩ = some (.bool false) := R.out.cell 9
   have fR_9 := R.out.free 9
   go_upto_region 29 with fail
   clear cT_0 cT_9 cR_9 fR_9
   obtain ⟨wd233, hE234⟩ : ∃ ww, ww = wd231.setCell ⟨g208, 9, none⟩ (.bool false) := ⟨_, rfl⟩
   rw [← hE234]
   replace T := dF T hE234 (by omega)
   replace R : Hid (Has wd233 (g208) 33 #[.int .i64 0, .string ⟨#[]⟩, .int .i64 x.low, .int .i64 x.high, .int .i64 x.max, .slice A1 x.syms.length c1, .slice none 0 0, .int .i64 x.key, .int .i64 x.elem, .bool false]) := Lib.hid (by simpa using dS R hE234)
   replace hw204 := tF hw204 hE234 (by omega)
   clear hE234
   obtain ⟨cR_0, cR_1, cR_2, cR_3, cR_4, cR_5, cR_6, cR_7, cR_8, cR_9⟩ := R.out.c10
   go_wp2_with fail
   clear cR_0 cR_1 cR_2 cR_3 cR_4 cR_5 cR_6 cR_7 cR_8 cR_9
   ((with_reducible refine (HC.out _).mono ?_); rintro e wd235 ⟨rfl, hb236⟩)
   replace T := dB T hb236
   replace R := dB R hb236
   replace hw204 := dT hw204 hb236
   clear hb236
   go_wp2_with fail
   go_ret
   exact ⟨ret_bool Hf.out.symm, hw204⟩
set_option maxRecDepth 100000 in
theorem form7_any (x : Typ) (A1 A2 : Option Addr) (c1 c2 : Nat) (w : World) (h : x.kind = 7) (_ : x.syms.length ≤ 6000000000000 ∧ x.mems.length ≤ 6000000000000) (_ : TypAt w w.heap.size x (.slice A1 x.syms.length c1) (.slice A2 x.mems.length c2)) :
  Calls Tryd.prog 37 #[typA x (.slice A1 x.syms.length c1) (.slice A2 x.mems.length c2)] w fun e w' => e = .returned (.bool (formB x)) ∧ Below w.heap.size w w' := by
 have hrt : restT x = { x with kind := 0, max := 0, elem := 0 } := by unfold restT; simp [h]
 have hf := form_of x (by rw [h]; unfold KindIn; omega)
 have hc : ∀ W, Calls Tryd.prog 60 #[.agg #[.int .i64 0, .string ⟨x.name.toArray⟩, .int .i64 x.low, .int .i64 x.high, .int .i64 0, .slice A1 x.syms.length c1, .slice A2 x.mems.length c2, .int .i64 x.key, .int .i64 0, .bool x.opn], .agg #[.int .i64 0, .string ⟨#[]⟩, .int .i64 0, .int .i64 0, .int .i64 0, .slice none 0 0, .slice none 0 0, .int .i64 0, .int .i64 0, .bool false]] W fun e w' => e = .returned (.bool (sameZ (restT x) typZ)) ∧ Below W.heap.size W w' := fun W => by
  rw [hrt]
  exact equalz_any ({ x with kind := 0, max := 0, elem := 0 } : Typ) typZ A1 A2 c1 c2 W
 have hok : okT x = (decide (0 ≤ x.max) && decide (x.max ≤ 50)) := by unfold okT; simp [h]
 rw [hok] at hf
 have HC := Lib.hid hc
 clear hc hok hrt
 simp only [typA, h]
 go_enter Tryd.func37, Tryd.ntmps37
 go_upto_region 1 with fail
 obtain ⟨wd238, hE239⟩ : ∃ ww, ww = w.alloc (.cells #[.int .i64 7, .string ⟨x.name.toArray⟩, .int .i64 x.low, .int .i64 x.high, .int .i64 x.max, .slice A1 x.syms.length c1, .slice A2 x.mems.length c2, .int .i64 x.key, .int .i64 x.elem, .bool x.opn] 33) := ⟨_, rfl⟩
 rw [← hE239]
 have hb237 := aB hE239
 have T := aN hE239
 clear hE239
 have hw240 := hb237
 clear hb237
 obtain ⟨cT_0, cT_1, cT_2, cT_3, cT_4, cT_5, cT_6, cT_7, cT_8, cT_9⟩ := T.out.c10
 go_upto_region 2 with fail
 clear cT_0 cT_1 cT_2 cT_3 cT_4 cT_5 cT_6 cT_7 cT_8 cT_9
 obtain ⟨wd242, hE243⟩ : ∃ ww, ww = wd238.alloc (.cells #[.int .i64 7, .string ⟨x.name.toArray⟩, .int .i64 x.low, .int .i64 x.high, .int .i64 x.max, .slice A1 x.syms.length c1, .slice A2 x.mems.length c2, .int .i64 x.key, .int .i64 x.elem, .bool x.opn] 33) := ⟨_, rfl⟩
 rw [← hE243]
 have hb241 := aB hE243
 have R := aN hE243
 clear hE243
 have hl245 := T.out.here
 have hl246 := hw240.size
 replace T := dB T hb241
 replace hw240 := dT hw240 hb241
 clear hb241
 generalize wd238.heap.size = g244 at *
 have cR_0 : wd242.cell? ⟨g244, 0, none⟩ = some (.int .i64 7) := R.out.cell 0
 have fR_0 := R.out.free 0
 go_upto_region 3 with fail
 clear cR_0 fR_0
 obtain ⟨wd247, hE248⟩ : ∃ ww, ww = wd242.setCell ⟨g244, 0, none⟩ (.int .i64 0) := ⟨_, rfl⟩
 rw [← hE248]
 replace T := dF T hE248 (by omega)
 replace R : Hid (Has wd247 (g244) 33 #[.int .i64 0, .string ⟨x.name.toArray⟩, .int .i64 x.low, .int .i64 x.high, .int .i64 x.max, .slice A1 x.syms.length c1, .slice A2 x.mems.length c2, .int .i64 x.key, .int .i64 x.elem, .bool x.opn]) := Lib.hid (by simpa using dS R hE248)
 replace hw240 := tF hw240 hE248 (by omega)
 clear hE248
 obtain ⟨cT_0, cT_1, cT_2, cT_3, cT_4, cT_5, cT_6, cT_7, cT_8, cT_9⟩ := T.out.c10
 by_cases hlo : 0 ≤ x.max
 ·
  have hd : decide (0 ≤ x.max) = true := decide_eq_true hlo
  by_cases hhi : x.max ≤ 50
  ·
   have hd2 : decide (x.max ≤ 50) = true := decide_eq_true hhi
   have Hf : Hid (formB x = sameZ (restT x) typZ) := by show _ = _; rw [hf, hd, hd2]; rfl
   clear hf h
   have cR_4 : wd247.cell? ⟨g244, 4, none⟩ = some (.int .i64 x.max) := R.out.cell 4
   have cR_8 : wd247.cell? ⟨g244, 8, none⟩ = some (.int .i64 x.elem) := R.out.cell 8
   have fR_4 := R.out.free 4
   have fR_8 := R.out.free 8
   go_upto_region 29 with fail
   clear cT_0 cT_1 cT_2 cT_3 cT_4 cT_5 cT_6 cT_7 cT_8 cT_9 cR_4 cR_8 fR_4 fR_8
   obtain ⟨wd249, hE250⟩ : ∃ ww, ww = wd247.setCell ⟨g244, 4, none⟩ (.int .i64 0) := ⟨_, rfl⟩
   rw [← hE250]
   replace T := dF T hE250 (by omega)
   replace R : Hid (Has wd249 (g244) 33 #[.int .i64 0, .string ⟨x.name.toArray⟩, .int .i64 x.low, .int .i64 x.high, .int .i64 0, .slice A1 x.syms.length c1, .slice A2 x.mems.length c2, .int .i64 x.key, .int .i64 x.elem, .bool x.opn]) := Lib.hid (by simpa using dS R hE250)
   replace hw240 := tF hw240 hE250 (by omega)
   clear hE250
   obtain ⟨wd251, hE252⟩ : ∃ ww, ww = wd249.setCell ⟨g244, 8, none⟩ (.int .i64 0) := ⟨_, rfl⟩
   rw [← hE252]
   replace T := dF T hE252 (by omega)
   replace R : Hid (Has wd251 (g244) 33 #[.int .i64 0, .string ⟨x.name.toArray⟩, .int .i64 x.low, .int .i64 x.high, .int .i64 0, .slice A1 x.syms.length c1, .slice A2 x.mems.length c2, .int .i64 x.key, .int .i64 0, .bool x.opn]) := Lib.hid (by simpa using dS R hE252)
   replace hw240 := tF hw240 hE252 (by omega)
   clear hE252
   obtain ⟨cR_0, cR_1, cR_2, cR_3, cR_4, cR_5, cR_6, cR_7, cR_8, cR_9⟩ := R.out.c10
   go_wp2_with fail
   clear cR_0 cR_1 cR_2 cR_3 cR_4 cR_5 cR_6 cR_7 cR_8 cR_9
   ((with_reducible refine (HC.out _).mono ?_); rintro e wd253 ⟨rfl, hb254⟩)
   replace T := dB T hb254
   replace R := dB R hb254
   replace hw240 := dT hw240 hb254
   clear hb254
   go_wp2_with fail
   go_ret
   exact ⟨ret_bool Hf.out.symm, hw240⟩
  have hd2 : decide (x.max ≤ 50) = false := decide_eq_false hhi
  have Hf : Hid (formB x = false) := by show _ = _; rw [hf, hd, hd2]; rfl
  clear hf h
  have cR_4 : wd247.cell? ⟨g244, 4, none⟩ = some (.int .i64 x.max) := R.out.cell 4
  have cR_8 : wd247.cell? ⟨g244, 8, none⟩ = some (.int .i64 x.elem) := R.out.cell 8
  have fR_4 := R.out.free 4
  have fR_8 := R.out.free 8
  go_upto_region 29 with fail
  clear cT_0 cT_1 cT_2 cT_3 cT_4 cT_5 cT_6 cT_7 cT_8 cT_9 cR_4 cR_8 fR_4 fR_8
  obtain ⟨wd255, hE256⟩ : ∃ ww, ww = wd247.setCell ⟨g244, 4, none⟩ (.int .i64 0) := ⟨_, rfl⟩
  rw [← hE256]
  replace T := dF T hE256 (by omega)
  replace R : Hid (Has wd255 (g244) 33 #[.int .i64 0, .string ⟨x.name.toArray⟩, .int .i64 x.low, .int .i64 x.high, .int .i64 0, .slice A1 x.syms.length c1, .slice A2 x.mems.length c2, .int .i64 x.key, .int .i64 x.elem, .bool x.opn]) := Lib.hid (by simpa using dS R hE256)
  replace hw240 := tF hw240 hE256 (by omega)
  clear hE256
  obtain ⟨wd257, hE258⟩ : ∃ ww, ww = wd255.setCell ⟨g244, 8, none⟩ (.int .i64 0) := ⟨_, rfl⟩
  rw [← hE258]
  replace T := dF T hE258 (by omega)
  replace R : Hid (Has wd257 (g244) 33 #[.int .i64 0, .string ⟨x.name.toArray⟩, .int .i64 x.low, .int .i64 x.high, .int .i64 0, .slice A1 x.syms.length c1, .slice A2 x.mems.length c2, .int .i64 x.key, .int .i64 0, .bool x.opn]) := Lib.hid (by simpa using dS R hE258)
  replace hw240 := tF hw240 hE258 (by omega)
  clear hE258
  obtain ⟨cR_0, cR_1, cR_2, cR_3, cR_4, cR_5, cR_6, cR_7, cR_8, cR_9⟩ := R.out.c10
  go_wp2_with fail
  go_ret
  exact ⟨ret_bool Hf.out.symm, hw240⟩
 have hd : decide (0 ≤ x.max) = false := decide_eq_false hlo
 have Hf : Hid (formB x = false) := by show _ = _; rw [hf, hd]; rfl
 clear hf h
 have cR_4 : wd247.cell? ⟨g244, 4, none⟩ = some (.int .i64 x.max) := R.out.cell 4
 have cR_8 : wd247.cell? ⟨g244, 8, none⟩ = some (.int .i64 x.elem) := R.out.cell 8
 have fR_4 := R.out.free 4
 have fR_8 := R.out.free 8
 go_upto_region 29 with fail
 clear cT_0 cT_1 cT_2 cT_3 cT_4 cT_5 cT_6 cT_7 cT_8 cT_9 cR_4 cR_8 fR_4 fR_8
 obtain ⟨wd259, hE260⟩ : ∃ ww, ww = wd247.setCell ⟨g244, 4, none⟩ (.int .i64 0) := ⟨_, rfl⟩
 rw [← hE260]
 replace T := dF T hE260 (by omega)
 replace R : Hid (Has wd259 (g244) 33 #[.int .i64 0, .string ⟨x.name.toArray⟩, .int .i64 x.low, .int .i64 x.high, .int .i64 0, .slice A1 x.syms.length c1, .slice A2 x.mems.length c2, .int .i64 x.key, .int .i64 x.elem, .bool x.opn]) := Lib.hid (by simpa using dS R hE260)
 replace hw240 := tF hw240 hE260 (by omega)
 clear hE260
 obtain ⟨wd261, hE262⟩ : ∃ ww, ww = wd259.setCell ⟨g244, 8, none⟩ (.int .i64 0) := ⟨_, rfl⟩
 rw [← hE262]
 replace T := dF T hE262 (by omega)
 replace R : Hid (Has wd261 (g244) 33 #[.int .i64 0, .string ⟨x.name.toArray⟩, .int .i64 x.low, .int .i64 x.high, .int .i64 0, .slice A1 x.syms.length c1, .slice A2 x.mems.length c2, .int .i64 x.key, .int .i64 0, .bool x.opn]) := Lib.hid (by simpa using dS R hE262)
 replace hw240 := tF hw240 hE262 (by omega)
 clear hE262
 obtain ⟨cR_0, cR_1, cR_2, cR_3, cR_4, cR_5, cR_6, cR_7, cR_8, cR_9⟩ := R.out.c10
 go_wp2_with fail
 go_ret
 exact ⟨ret_bool Hf.out.symm, hw240⟩
set_option maxRecDepth 100000 in
theorem form8_any (x : Typ) (A1 A2 : Option Addr) (c1 c2 : Nat) (w : World) (h : x.kind = 8) (_ : x.syms.length ≤ 6000000000000 ∧ x.mems.length ≤ 6000000000000) (_ : TypAt w w.heap.size x (.slice A1 x.syms.length c1) (.slice A2 x.mems.length c2)) :
  Calls Tryd.prog 37 #[typA x (.slice A1 x.syms.length c1) (.slice A2 x.mems.length c2)] w fun e w' => e = .returned (.bool (formB x)) ∧ Below w.heap.size w w' := by
 have hrt : restT x = { x with kind := 0, max := 0, elem := 0, key := 0 } := by unfold restT; simp [h]
 have hf := form_of x (by rw [h]; unfold KindIn; omega)
 have hc : ∀ W, Calls Tryd.prog 60 #[.agg #[.int .i64 0, .string ⟨x.name.toArray⟩, .int .i64 x.low, .int .i64 x.high, .int .i64 0, .slice A1 x.syms.length c1, .slice A2 x.mems.length c2, .int .i64 0, .int .i64 0, .bool x.opn], .agg #[.int .i64 0, .string ⟨#[]⟩, .int .i64 0, .int .i64 0, .int .i64 0, .slice none 0 0, .slice none 0 0, .int .i64 0, .int .i64 0, .bool false]] W fun e w' => e = .returned (.bool (sameZ (restT x) typZ)) ∧ Below W.heap.size W w' := fun W => by
  rw [hrt]
  exact equalz_any ({ x with kind := 0, max := 0, elem := 0, key := 0 } : Typ) typZ A1 A2 c1 c2 W
 have hok : okT x = (decide (0 ≤ x.max) && decide (x.max ≤ 50)) := by unfold okT; simp [h]
 rw [hok] at hf
 have HC := Lib.hid hc
 clear hc hok hrt
 simp only [typA, h]
 go_enter Tryd.func37, Tryd.ntmps37
 go_upto_region 1 with fail
 obtain ⟨wd264, hE265⟩ : ∃ ww, ww = w.alloc (.cells #[.int .i64 8, .string ⟨x.name.toArray⟩, .int .i64 x.low, .int .i64 x.high, .int .i64 x.max, .slice A1 x.syms.length c1, .slice A2 x.mems.length c2, .int .i64 x.key, .int .i64 x.elem, .bool x.opn] 33) := ⟨_, rfl⟩
 rw [← hE265]
 have hb263 := aB hE265
 have T := aN hE265
 clear hE265
 have hw266 := hb263
 clear hb263
 obtain ⟨cT_0, cT_1, cT_2, cT_3, cT_4, cT_5, cT_6, cT_7, cT_8, cT_9⟩ := T.out.c10
 go_upto_region 2 with fail
 clear cT_0 cT_1 cT_2 cT_3 cT_4 cT_5 cT_6 cT_7 cT_8 cT_9
 obtain ⟨wd268, hE269⟩ : ∃ ww, ww = wd264.alloc (.cells #[.int .i64 8, .string ⟨x.name.toArray⟩, .int .i64 x.low, .int .i64 x.high, .int .i64 x.max, .slice A1 x.syms.length c1, .slice A2 x.mems.length c2, .int .i64 x.key, .int .i64 x.elem, .bool x.opn] 33) := ⟨_, rfl⟩
 rw [← hE269]
 have hb267 := aB hE269
 have R := aN hE269
 clear hE269
 have hl271 := T.out.here
 have hl272 := hw266.size
 replace T := dB T hb267
 replace hw266 := dT hw266 hb267
 clear hb267
 generalize wd264.heap.size = g270 at *
 have cR_0 : wd268.cell? ⟨g270, 0, none⟩ = some (.int .i64 8) := R.out.cell 0
 have fR_0 := R.out.free 0
 go_upto_region 3 with fail
 clear cR_0 fR_0
 obtain ⟨wd273, hE274⟩ : ∃ ww, ww = wd268.setCell ⟨g270, 0, none⟩ (.int .i64 0) := ⟨_, rfl⟩
 rw [← hE274]
 replace T := dF T hE274 (by omega)
 replace R : Hid (Has wd273 (g270) 33 #[.int .i64 0, .string ⟨x.name.toArray⟩, .int .i64 x.low, .int .i64 x.high, .int .i64 x.max, .slice A1 x.syms.length c1, .slice A2 x.mems.length c2, .int .i64 x.key, .int .i64 x.elem, .bool x.opn]) := Lib.hid (by simpa using dS R hE274)
 replace hw266 := tF hw266 hE274 (by omega)
 clear hE274
 obtain ⟨cT_0, cT_1, cT_2, cT_3, cT_4, cT_5, cT_6, cT_7, cT_8, cT_9⟩ := T.out.c10
 by_cases hlo : 0 ≤ x.max
 ·
  have hd : decide (0 ≤ x.max) = true := decide_eq_true hlo
  by_cases hhi : x.max ≤ 50
  ·
   have hd2 : decide (x.max ≤ 50) = true := decide_eq_true hhi
   have Hf : Hid (formB x = sameZ (restT x) typZ) := by show _ = _; rw [hf, hd, hd2]; rfl
   clear hf h
   obtain ⟨-, -, -, -, cR_4, -, -, cR_7, cR_8, -⟩ := R.out.c10
   have fR_4 := R.out.free 4
   have fR_8 := R.out.free 8
   have fR_7 := R.out.free 7
   go_upto_region 29 with fail
   clear cT_0 cT_1 cT_2 cT_3 cT_4 cT_5 cT_6 cT_7 cT_8 cT_9 cR_4 cR_8 cR_7 fR_4 fR_8 fR_7
   obtain ⟨wd275, hE276⟩ : ∃ ww, ww = wd273.setCell ⟨g270, 4, none⟩ (.int .i64 0) := ⟨_, rfl⟩
   rw [← hE276]
   replace T := dF T hE276 (by omega)
   replace R : Hid (Has wd275 (g270) 33 #[.int .i64 0, .string ⟨x.name.toArray⟩, .int .i64 x.low, .int .i64 x.high, .int .i64 0, .slice A1 x.syms.length c1, .slice A2 x.mems.length c2, .int .i64 x.key, .int .i64 x.elem, .bool x.opn]) := Lib.hid (by simpa using dS R hE276)
   replace hw266 := tF hw266 hE276 (by omega)
   clear hE276
   obtain ⟨wd277, hE278⟩ : ∃ ww, ww = wd275.setCell ⟨g270, 8, none⟩ (.int .i64 0) := ⟨_, rfl⟩
   rw [← hE278]
   replace T := dF T hE278 (by omega)
   replace R : Hid (Has wd277 (g270) 33 #[.int .i64 0, .string ⟨x.name.toArray⟩, .int .i64 x.low, .int .i64 x.high, .int .i64 0, .slice A1 x.syms.length c1, .slice A2 x.mems.length c2, .int .i64 x.key, .int .i64 0, .bool x.opn]) := Lib.hid (by simpa using dS R hE278)
   replace hw266 := tF hw266 hE278 (by omega)
   clear hE278
   obtain ⟨wd279, hE280⟩ : ∃ ww, ww = wd277.setCell ⟨g270, 7, none⟩ (.int .i64 0) := ⟨_, rfl⟩
   rw [← hE280]
   replace T := dF T hE280 (by omega)
   replace R : Hid (Has wd279 (g270) 33 #[.int .i64 0, .string ⟨x.name.toArray⟩, .int .i64 x.low, .int .i64 x.high, .int .i64 0, .slice A1 x.syms.length c1, .slice A2 x.mems.length c2, .int .i64 0, .int .i64 0, .bool x.opn]) := Lib.hid (by simpa using dS R hE280)
   replace hw266 := tF hw266 hE280 (by omega)
   clear hE280
   obtain ⟨cR_0, cR_1, cR_2, cR_3, cR_4, cR_5, cR_6, cR_7, cR_8, cR_9⟩ := R.out.c10
   go_wp2_with fail
   clear cR_0 cR_1 cR_2 cR_3 cR_4 cR_5 cR_6 cR_7 cR_8 cR_9
   ((with_reducible refine (HC.out _).mono ?_); rintro e wd281 ⟨rfl, hb282⟩)
   replace T := dB T hb282
   replace R := dB R hb282
   replace hw266 := dT hw266 hb282
   clear hb282
   go_wp2_with fail
   go_ret
   exact ⟨ret_bool Hf.out.symm, hw266⟩
  have hd2 : decide (x.max ≤ 50) = false := decide_eq_false hhi
  have Hf : Hid (formB x = false) := by show _ = _; rw [hf, hd, hd2]; rfl
  clear hf h
  obtain ⟨-, -, -, -, cR_4, -, -, cR_7, cR_8, -⟩ := R.out.c10
  have fR_4 := R.out.free 4
  have fR_8 := R.out.free 8
  have fR_7 := R.out.free 7
  go_upto_region 29 with fail
  clear cT_0 cT_1 cT_2 cT_3 cT_4 cT_5 cT_6 cT_7 cT_8 cT_9 cR_4 cR_8 cR_7 fR_4 fR_8 fR_7
  obtain ⟨wd283, hE284⟩ : ∃ ww, ww = wd273.setCell ⟨g270, 4, none⟩ (.int .i64 0) := ⟨_, rfl⟩
  rw [← hE284]
  replace T := dF T hE284 (by omega)
  replace R : Hid (Has wd283 (g270) 33 #[.int .i64 0, .string ⟨x.name.toArray⟩, .int .i64 x.low, .int .i64 x.high, .int .i64 0, .slice A1 x.syms.length c1, .slice A2 x.mems.length c2, .int .i64 x.key, .int .i64 x.elem, .bool x.opn]) := Lib.hid (by simpa using dS R hE284)
  replace hw266 := tF hw266 hE284 (by omega)
  clear hE284
  obtain ⟨wd285, hE286⟩ : ∃ ww, ww = wd283.setCell ⟨g270, 8, none⟩ (.int .i64 0) := ⟨_, rfl⟩
  rw [← hE286]
  replace T := dF T hE286 (by omega)
  replace R : Hid (Has wd285 (g270) 33 #[.int .i64 0, .string ⟨x.name.toArray⟩, .int .i64 x.low, .int .i64 x.high, .int .i64 0, .slice A1 x.syms.length c1, .slice A2 x.mems.length c2, .int .i64 x.key, .int .i64 0, .bool x.opn]) := Lib.hid (by simpa using dS R hE286)
  replace hw266 := tF hw266 hE286 (by omega)
  clear hE286
  obtain ⟨wd287, hE288⟩ : ∃ ww, ww = wd285.setCell ⟨g270, 7, none⟩ (.int .i64 0) := ⟨_, rfl⟩
  rw [← hE288]
  replace T := dF T hE288 (by omega)
  replace R : Hid (Has wd287 (g270) 33 #[.int .i64 0, .string ⟨x.name.toArray⟩, .int .i64 x.low, .int .i64 x.high, .int .i64 0, .slice A1 x.syms.length c1, .slice A2 x.mems.length c2, .int .i64 0, .int .i64 0, .bool x.opn]) := Lib.hid (by simpa using dS R hE288)
  replace hw266 := tF hw266 hE288 (by omega)
  clear hE288
  obtain ⟨cR_0, cR_1, cR_2, cR_3, cR_4, cR_5, cR_6, cR_7, cR_8, cR_9⟩ := R.out.c10
  go_wp2_with fail
  go_ret
  exact ⟨ret_bool Hf.out.symm, hw266⟩
 have hd : decide (0 ≤ x.max) = false := decide_eq_false hlo
 have Hf : Hid (formB x = false) := by show _ = _; rw [hf, hd]; rfl
 clear hf h
 obtain ⟨-, -, -, -, cR_4, -, -, cR_7, cR_8, -⟩ := R.out.c10
 have fR_4 := R.out.free 4
 have fR_8 := R.out.free 8
 have fR_7 := R.out.free 7
 go_upto_region 29 with fail
 clear cT_0 cT_1 cT_2 cT_3 cT_4 cT_5 cT_6 cT_7 cT_8 cT_9 cR_4 cR_8 cR_7 fR_4 fR_8 fR_7
 obtain ⟨wd289, hE290⟩ : ∃ ww, ww = wd273.setCell ⟨g270, 4, none⟩ (.int .i64 0) := ⟨_, rfl⟩
 rw [← hE290]
 replace T := dF T hE290 (by omega)
 replace R : Hid (Has wd289 (g270) 33 #[.int .i64 0, .string ⟨x.name.toArray⟩, .int .i64 x.low, .int .i64 x.high, .int .i64 0, .slice A1 x.syms.length c1, .slice A2 x.mems.length c2, .int .i64 x.key, .int .i64 x.elem, .bool x.opn]) := Lib.hid (by simpa using dS R hE290)
 replace hw266 := tF hw266 hE290 (by omega)
 clear hE290
 obtain ⟨wd291, hE292⟩ : ∃ ww, ww = wd289.setCell ⟨g270, 8, none⟩ (.int .i64 0) := ⟨_, rfl⟩
 rw [← hE292]
 replace T := dF T hE292 (by omega)
 replace R : Hid (Has wd291 (g270) 33 #[.int .i64 0, .string ⟨x.name.toArray⟩, .int .i64 x.low, .int .i64 x.high, .int .i64 0, .slice A1 x.syms.length c1, .slice A2 x.mems.length c2, .int .i64 x.key, .int .i64 0, .bool x.opn]) := Lib.hid (by simpa using dS R hE292)
 replace hw266 := tF hw266 hE292 (by omega)
 clear hE292
 obtain ⟨wd293, hE294⟩ : ∃ ww, ww = wd291.setCell ⟨g270, 7, none⟩ (.int .i64 0) := ⟨_, rfl⟩
 rw [← hE294]
 replace T := dF T hE294 (by omega)
 replace R : Hid (Has wd293 (g270) 33 #[.int .i64 0, .string ⟨x.name.toArray⟩, .int .i64 x.low, .int .i64 x.high, .int .i64 0, .slice A1 x.syms.length c1, .slice A2 x.mems.length c2, .int .i64 0, .int .i64 0, .bool x.opn]) := Lib.hid (by simpa using dS R hE294)
 replace hw266 := tF hw266 hE294 (by omega)
 clear hE294
 obtain ⟨cR_0, cR_1, cR_2, cR_3, cR_4, cR_5, cR_6, cR_7, cR_8, cR_9⟩ := R.out.c10
 go_wp2_with fail
 go_ret
 exact ⟨ret_bool Hf.out.symm, hw266⟩
set_option maxRecDepth 100000 in
theorem form9_any (x : Typ) (A1 A2 : Option Addr) (c1 c2 : Nat) (w : World) (h : x.kind = 9) (_ : x.syms.length ≤ 6000000000000 ∧ x.mems.length ≤ 6000000000000) (_ : TypAt w w.heap.size x (.slice A1 x.syms.length c1) (.slice A2 x.mems.length c2)) :
  Calls Tryd.prog 37 #[typA x (.slice A1 x.syms.length c1) (.slice A2 x.mems.length c2)] w fun e w' => e = .returned (.bool (formB x)) ∧ Below w.heap.size w w' := by
 have hrt : restT x = { x with kind := 0, elem := 0 } := by unfold restT; simp [h]
 have hf := form_of x (by rw [h]; unfold KindIn; omega)
 have hc : ∀ W, Calls Tryd.prog 60 #[.agg #[.int .i64 0, .string ⟨x.name.toArray⟩, .int .i64 x.low, .int .i64 x.high, .int .i64 x.max, .slice A1 x.syms.length c1, .slice A2 x.mems.length c2, .int .i64 x.key, .int .i64 0, .bool x.opn], .agg #[.int .i64 0, .string ⟨#[]⟩, .int .i64 0, .int .i64 0, .int .i64 0, .slice none 0 0, .slice none 0 0, .int .i64 0, .int .i64 0, .bool false]] W fun e w' => e = .returned (.bool (sameZ (restT x) typZ)) ∧ Below W.heap.size W w' := fun W => by
  rw [hrt]
  exact equalz_any ({ x with kind := 0, elem := 0 } : Typ) typZ A1 A2 c1 c2 W
 have hok : okT x = true := by unfold okT; simp [h]
 rw [hok] at hf
 have HC := Lib.hid hc
 clear hc hok hrt
 simp only [typA, h]
 go_enter Tryd.func37, Tryd.ntmps37
 go_upto_region 1 with fail
 obtain ⟨wd296, hE297⟩ : ∃ ww, ww = w.alloc (.cells #[.int .i64 9, .string ⟨x.name.toArray⟩, .int .i64 x.low, .int .i64 x.high, .int .i64 x.max, .slice A1 x.syms.length c1, .slice A2 x.mems.length c2, .int .i64 x.key, .int .i64 x.elem, .bool x.opn] 33) := ⟨_, rfl⟩
 rw [← hE297]
 have hb295 := aB hE297
 have T := aN hE297
 clear hE297
 have hw298 := hb295
 clear hb295
 obtain ⟨cT_0, cT_1, cT_2, cT_3, cT_4, cT_5, cT_6, cT_7, cT_8, cT_9⟩ := T.out.c10
 go_upto_region 2 with fail
 clear cT_0 cT_1 cT_2 cT_3 cT_4 cT_5 cT_6 cT_7 cT_8 cT_9
 obtain ⟨wd300, hE301⟩ : ∃ ww, ww = wd296.alloc (.cells #[.int .i64 9, .string ⟨x.name.toArray⟩, .int .i64 x.low, .int .i64 x.high, .int .i64 x.max, .slice A1 x.syms.length c1, .slice A2 x.mems.length c2, .int .i64 x.key, .int .i64 x.elem, .bool x.opn] 33) := ⟨_, rfl⟩
 rw [← hE301]
 have hb299 := aB hE301
 have R := aN hE301
 clear hE301
 have hl303 := T.out.here
 have hl304 := hw298.size
 replace T := dB T hb299
 replace hw298 := dT hw298 hb299
 clear hb299
 generalize wd296.heap.size = g302 at *
 have cR_0 : wd300.cell? ⟨g302, 0, none⟩ = some (.int .i64 9) := R.out.cell 0
 have fR_0 := R.out.free 0
 go_upto_region 3 with fail
 clear cR_0 fR_0
 obtain ⟨wd305, hE306⟩ : ∃ ww, ww = wd300.setCell ⟨g302, 0, none⟩ (.int .i64 0) := ⟨_, rfl⟩
 rw [← hE306]
 replace T := dF T hE306 (by omega)
 replace R : Hid (Has wd305 (g302) 33 #[.int .i64 0, .string ⟨x.name.toArray⟩, .int .i64 x.low, .int .i64 x.high, .int .i64 x.max, .slice A1 x.syms.length c1, .slice A2 x.mems.length c2, .int .i64 x.key, .int .i64 x.elem, .bool x.opn]) := Lib.hid (by simpa using dS R hE306)
 replace hw298 := tF hw298 hE306 (by omega)
 clear hE306
 obtain ⟨cT_0, cT_1, cT_2, cT_3, cT_4, cT_5, cT_6, cT_7, cT_8, cT_9⟩ := T.out.c10
 have Hf : Hid (formB x = sameZ (restT x) typZ) := by show _ = _; rw [hf]; rfl
 clear hf h
 have cR_8 : wd305.cell? ⟨g302, 8, none⟩ = some (.int .i64 x.elem) := R.out.cell 8
 have fR_8 := R.out.free 8
 go_upto_region 29 with fail
 clear cT_0 cT_1 cT_2 cT_3 cT_4 cT_5 cT_6 cT_7 cT_8 cT_9 cR_8 fR_8
 obtain ⟨wd307, hE308⟩ : ∃ ww, ww = wd305.setCell ⟨g302, 8, none⟩ (.int .i64 0) := ⟨_, rfl⟩
 rw [← hE308]
 replace T := dF T hE308 (by omega)
 replace R : Hid (Has wd307 (g302) 33 #[.int .i64 0, .string ⟨x.name.toArray⟩, .int .i64 x.low, .int .i64 x.high, .int .i64 x.max, .slice A1 x.syms.length c1, .slice A2 x.mems.length c2, .int .i64 x.key, .int .i64 0, .bool x.opn]) := Lib.hid (by simpa using dS R hE308)
 replace hw298 := tF hw298 hE308 (by omega)
 clear hE308
 obtain ⟨cR_0, cR_1, cR_2, cR_3, cR_4, cR_5, cR_6, cR_7, cR_8, cR_9⟩ := R.out.c10
 go_wp2_with fail
 clear cR_0 cR_1 cR_2 cR_3 cR_4 cR_5 cR_6 cR_7 cR_8 cR_9
 ((with_reducible refine (HC.out _).mono ?_); rintro e wd309 ⟨rfl, hb310⟩)
 replace T := dB T hb310
 replace R := dB R hb310
 replace hw298 := dT hw298 hb310
 clear hb310
 go_wp2_with fail
 go_ret
 exact ⟨ret_bool Hf.out.symm, hw298⟩
theorem form5_any (x : Typ) (A1 A2 : Option Addr) (c1 c2 : Nat) (w : World) (h : x.kind = 5) (hl : x.syms.length ≤ 6000000000000 ∧ x.mems.length ≤ 6000000000000) (ht : TypAt w w.heap.size x (.slice A1 x.syms.length c1) (.slice A2 x.mems.length c2)) :
  Calls Tryd.prog 37 #[typA x (.slice A1 x.syms.length c1) (.slice A2 x.mems.length c2)] w fun e w' => e = .returned (.bool (formB x)) ∧ Below w.heap.size w w' := by
 cases ho : x.opn with
 | true => exact form5true_any x A1 A2 c1 c2 w h ho hl ht
 | false => exact form5false_any x A1 A2 c1 c2 w h ho hl ht
theorem form6_any (x : Typ) (A1 A2 : Option Addr) (c1 c2 : Nat) (w : World) (h : x.kind = 6) (hl : x.syms.length ≤ 6000000000000 ∧ x.mems.length ≤ 6000000000000) (ht : TypAt w w.heap.size x (.slice A1 x.syms.length c1) (.slice A2 x.mems.length c2)) :
  Calls Tryd.prog 37 #[typA x (.slice A1 x.syms.length c1) (.slice A2 x.mems.length c2)] w fun e w' => e = .returned (.bool (formB x)) ∧ Below w.heap.size w w' := by
 cases ho : x.opn with
 | true => exact form6true_any x A1 A2 c1 c2 w h ho hl ht
 | false => exact form6false_any x A1 A2 c1 c2 w h ho hl ht
set_option maxRecDepth 100000 in
theorem form0_any (x : Typ) (A1 A2 : Option Addr) (c1 c2 : Nat) (w : World) (h : ¬ KindIn x.kind) :
  Calls Tryd.prog 37 #[typA x (.slice A1 x.syms.length c1) (.slice A2 x.mems.length c2)] w fun e w' => e = .returned (.bool (formB x)) ∧ Below w.heap.size w w' := by
 have Hf : Hid (formB x = false) := by show _ = _; unfold formB; rw [decide_eq_false (by unfold KindIn at h; exact h)]; rfl
 have t1 : (x.kind == 1) = false := beq_eq_false_iff_ne.2 (fun e => h (by rw [e]; unfold KindIn; omega))
 have t2 : (x.kind == 2) = false := beq_eq_false_iff_ne.2 (fun e => h (by rw [e]; unfold KindIn; omega))
 have t3 : (x.kind == 3) = false := beq_eq_false_iff_ne.2 (fun e => h (by rw [e]; unfold KindIn; omega))
 have t4 : (x.kind == 4) = false := beq_eq_false_iff_ne.2 (fun e => h (by rw [e]; unfold KindIn; omega))
 have t5 : (x.kind == 5) = false := beq_eq_false_iff_ne.2 (fun e => h (by rw [e]; unfold KindIn; omega))
 have t6 : (x.kind == 6) = false := beq_eq_false_iff_ne.2 (fun e => h (by rw [e]; unfold KindIn; omega))
 have t7 : (x.kind == 7) = false := beq_eq_false_iff_ne.2 (fun e => h (by rw [e]; unfold KindIn; omega))
 have t8 : (x.kind == 8) = false := beq_eq_false_iff_ne.2 (fun e => h (by rw [e]; unfold KindIn; omega))
 have t9 : (x.kind == 9) = false := beq_eq_false_iff_ne.2 (fun e => h (by rw [e]; unfold KindIn; omega))
 clear h
 go_enter Tryd.func37, Tryd.ntmps37
 go_upto_region 1 with fail
 obtain ⟨wd312, hE313⟩ : ∃ ww, ww = w.alloc (.cells #[.int .i64 x.kind, .string ⟨x.name.toArray⟩, .int .i64 x.low, .int .i64 x.high, .int .i64 x.max, .slice A1 x.syms.length c1, .slice A2 x.mems.length c2, .int .i64 x.key, .int .i64 x.elem, .bool x.opn] 33) := ⟨_, rfl⟩
 rw [← hE313]
 have hb311 := aB hE313
 have T := aN hE313
 clear hE313
 have hw314 := hb311
 clear hb311
 obtain ⟨cT_0, cT_1, cT_2, cT_3, cT_4, cT_5, cT_6, cT_7, cT_8, cT_9⟩ := T.out.c10
 go_upto_region 2 with fail
 clear cT_0 cT_1 cT_2 cT_3 cT_4 cT_5 cT_6 cT_7 cT_8 cT_9
 obtain ⟨wd316, hE317⟩ : ∃ ww, ww = wd312.alloc (.cells #[.int .i64 x.kind, .string ⟨x.name.toArray⟩, .int .i64 x.low, .int .i64 x.high, .int .i64 x.max, .slice A1 x.syms.length c1, .slice A2 x.mems.length c2, .int .i64 x.key, .int .i64 x.elem, .bool x.opn] 33) := ⟨_, rfl⟩
 rw [← hE317]
 have hb315 := aB hE317
 have R := aN hE317
 clear hE317
 have hl319 := T.out.here
 have hl320 := hw314.size
 replace T := dB T hb315
 replace hw314 := dT hw314 hb315
 clear hb315
 generalize wd312.heap.size = g318 at *
 have cR_0 : wd316.cell? ⟨g318, 0, none⟩ = some (.int .i64 x.kind) := R.out.cell 0
 have fR_0 := R.out.free 0
 go_upto_region 3 with fail
 clear cR_0 fR_0
 obtain ⟨wd321, hE322⟩ : ∃ ww, ww = wd316.setCell ⟨g318, 0, none⟩ (.int .i64 0) := ⟨_, rfl⟩
 rw [← hE322]
 replace T := dF T hE322 (by omega)
 replace R : Hid (Has wd321 (g318) 33 #[.int .i64 0, .string ⟨x.name.toArray⟩, .int .i64 x.low, .int .i64 x.high, .int .i64 x.max, .slice A1 x.syms.length c1, .slice A2 x.mems.length c2, .int .i64 x.key, .int .i64 x.elem, .bool x.opn]) := Lib.hid (by simpa using dS R hE322)
 replace hw314 := tF hw314 hE322 (by omega)
 clear hE322
 obtain ⟨cT_0, cT_1, cT_2, cT_3, cT_4, cT_5, cT_6, cT_7, cT_8, cT_9⟩ := T.out.c10
 go_wp2_with fail
 go_ret
 exact ⟨ret_bool Hf.out.symm, hw314⟩
theorem form_any (x : Typ) (vs vm : Value) (w : World) (hl : x.syms.length ≤ 6000000000000 ∧ x.mems.length ≤ 6000000000000) (ht : TypAt w w.heap.size x vs vm) :
  Calls Tryd.prog 37 #[typA x vs vm] w fun e w' => e = .returned (.bool (formB x)) ∧ Below w.heap.size w w' := by
 obtain ⟨A1, c1, A2, c2, rfl, rfl, -, -⟩ := ht.forms
 by_cases hk : KindIn x.kind
 ·
  rcases kind_cases hk with h | h | h | h | h | h | h | h | h
  ·
   exact form1_any x A1 A2 c1 c2 w h hl ht
  ·
   exact form2_any x A1 A2 c1 c2 w h hl ht
  ·
   exact form3_any x A1 A2 c1 c2 w h hl ht
  ·
   exact form4_any x A1 A2 c1 c2 w h hl ht
  ·
   exact form5_any x A1 A2 c1 c2 w h hl ht
  ·
   exact form6_any x A1 A2 c1 c2 w h hl ht
  ·
   exact form7_any x A1 A2 c1 c2 w h hl ht
  ·
   exact form8_any x A1 A2 c1 c2 w h hl ht
  exact form9_any x A1 A2 c1 c2 w h hl ht
 exact form0_any x A1 A2 c1 c2 w hk
end Go.Proofs.YtccmmibkihbobaaDoor

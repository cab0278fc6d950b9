/- What schema.form computes. What sheaveref07.plain and Named compute. No condition. -/
import Derived.Test.YtjajgclchapllaaGM
import Derived.Test.YtjajgclchapllaaGG
namespace Go.Proofs.Ytjajgclchapllaa
open Go.ChangeShapes Go.WideShapes Go.ChangeAt Go.RowKit
def typZ : Typ := { kind := 0, name := [], low := 0, high := 0, max := 0, syms := [], mems := [], key := 0, elem := 0, opn := false }
def restT (x : Typ) : Typ :=
 if x.kind = 2 then { x with kind := 0, low := 0, high := 0 }
 else if x.kind = 3 then { x with kind := 0, max := 0 }
 else if x.kind = 4 then { x with kind := 0, name := [], syms := [], opn := false }
 else if x.kind = 5 then { x with kind := 0, name := [], mems := [] }
 else if x.kind = 6 then { x with kind := 0, name := [], mems := [], opn := false }
 else if x.kind = 7 then { x with kind := 0, max := 0, elem := 0 }
 else if x.kind = 8 then { x with kind := 0, max := 0, elem := 0, key := 0 }
 else if x.kind = 9 then { x with kind := 0, elem := 0 }
 else { x with kind := 0 }
def okT (x : Typ) : Bool :=
 if x.kind = 2 then decide (x.low ≤ x.high)
 else if x.kind = 3 then decide (0 ≤ x.max) && decide (x.max ≤ 200)
 else if x.kind = 4 then nameB x.name && symB x.syms
 else if x.kind = 5 ∨ x.kind = 6 then nameB x.name && membersB x
 else if x.kind = 7 ∨ x.kind = 8 then decide (0 ≤ x.max) && decide (x.max ≤ 50)
 else true
def formB (x : Typ) : Bool := decide (1 ≤ x.kind ∧ x.kind ≤ 9) && (okT x && sameZ (restT x) typZ)
theorem form_of (x : Typ) (h : KindIn x.kind) : formB x = (okT x && sameZ (restT x) typZ) := by
 unfold formB KindIn at *; rw [decide_eq_true h]; rfl
set_option maxRecDepth 100000 in
set_option maxHeartbeats 4000000 in
theorem form1_any (x : Typ) (A1 A2 : Option Addr) (c1 c2 : Nat) (w : World) (h : x.kind = 1) (_ : x.syms.length ≤ 6000000000000 ∧ x.mems.length ≤ 6000000000000) (_ : TypAt w w.heap.size x (.slice A1 x.syms.length c1) (.slice A2 x.mems.length c2)) :
  Calls Try.prog 67 #[typA x (.slice A1 x.syms.length c1) (.slice A2 x.mems.length c2)] w fun e w' => e = .returned (.bool (formB x)) ∧ Below w.heap.size w w' := by
 have hrt : restT x = { x with kind := 0 } := by unfold restT; simp [h]
 have hf := form_of x (by rw [h]; unfold KindIn; omega)
 have hc : ∀ W, Calls Try.prog 93 #[.agg #[.int .i64 0, .string ⟨x.name.toArray⟩, .int .i64 x.low, .int .i64 x.high, .int .i64 x.max, .slice A1 x.syms.length c1, .slice A2 x.mems.length c2, .int .i64 x.key, .int .i64 x.elem, .bool x.opn], .agg #[.int .i64 0, .string ⟨#[]⟩, .int .i64 0, .int .i64 0, .int .i64 0, .slice none 0 0, .slice none 0 0, .int .i64 0, .int .i64 0, .bool false]] W fun e w' => e = .returned (.bool (sameZ (restT x) typZ)) ∧ Below W.heap.size W w' := fun W => by
  rw [hrt]
  exact equalz_any ({ x with kind := 0 } : Typ) typZ A1 A2 c1 c2 W
 have hok : okT x = true := by unfold okT; simp [h]
 rw [hok] at hf
 have HC := Lib.hid hc
 clear hc hok hrt
 simp only [typA, h]
 go_enter Try.func67, Try.ntmps67
 go_upto_region 1 with fail
 have hb259 := below_al (Below.refl w.heap.size w) (Nat.le_refl _) (.cells #[.int .i64 1, .string ⟨x.name.toArray⟩, .int .i64 x.low, .int .i64 x.high, .int .i64 x.max, .slice A1 x.syms.length c1, .slice A2 x.mems.length c2, .int .i64 x.key, .int .i64 x.elem, .bool x.opn] 67)
 have T := Has.made w 67 #[.int .i64 1, .string ⟨x.name.toArray⟩, .int .i64 x.low, .int .i64 x.high, .int .i64 x.max, .slice A1 x.syms.length c1, .slice A2 x.mems.length c2, .int .i64 x.key, .int .i64 x.elem, .bool x.opn]
 have hw260 := hb259
 replace T := Lib.hid T
 clear hb259
 generalize (w.alloc (.cells #[.int .i64 1, .string ⟨x.name.toArray⟩, .int .i64 x.low, .int .i64 x.high, .int .i64 x.max, .slice A1 x.syms.length c1, .slice A2 x.mems.length c2, .int .i64 x.key, .int .i64 x.elem, .bool x.opn] 67)) = wd261 at *
 obtain ⟨cT_0, cT_1, cT_2, cT_3, cT_4, cT_5, cT_6, cT_7, cT_8, cT_9⟩ := T.out.c10
 go_upto_region 2 with fail
 clear cT_0 cT_1 cT_2 cT_3 cT_4 cT_5 cT_6 cT_7 cT_8 cT_9
 have hb262 := below_al (Below.refl wd261.heap.size wd261) (Nat.le_refl _) (.cells #[.int .i64 1, .string ⟨x.name.toArray⟩, .int .i64 x.low, .int .i64 x.high, .int .i64 x.max, .slice A1 x.syms.length c1, .slice A2 x.mems.length c2, .int .i64 x.key, .int .i64 x.elem, .bool x.opn] 67)
 have R := Has.made wd261 67 #[.int .i64 1, .string ⟨x.name.toArray⟩, .int .i64 x.low, .int .i64 x.high, .int .i64 x.max, .slice A1 x.syms.length c1, .slice A2 x.mems.length c2, .int .i64 x.key, .int .i64 x.elem, .bool x.opn]
 have hl264 := T.out.here
 have hl265 := hw260.size
 replace T := Lib.hid (T.out.below hb262 T.out.here)
 replace hw260 := hw260.trans (hb262.mono hw260.size)
 replace R := Lib.hid R
 clear hb262
 generalize (wd261.alloc (.cells #[.int .i64 1, .string ⟨x.name.toArray⟩, .int .i64 x.low, .int .i64 x.high, .int .i64 x.max, .slice A1 x.syms.length c1, .slice A2 x.mems.length c2, .int .i64 x.key, .int .i64 x.elem, .bool x.opn] 67)) = wd266 at *
 generalize wd261.heap.size = g263 at *
 have cR_0 : wd266.cell? ⟨g263, 0, none⟩ = some (.int .i64 1) := R.out.cell 0
 have fR_0 := R.out.free 0
 go_upto_region 3 with fail
 clear cR_0 fR_0
 replace T := Lib.hid (T.out.far (p := ⟨g263, 0, none⟩) (show w.heap.size ≠ g263 by omega) (.int .i64 0))
 replace R : Hid (Has (wd266.setCell ⟨g263, 0, none⟩ (.int .i64 0)) (g263) 67 #[.int .i64 0, .string ⟨x.name.toArray⟩, .int .i64 x.low, .int .i64 x.high, .int .i64 x.max, .slice A1 x.syms.length c1, .slice A2 x.mems.length c2, .int .i64 x.key, .int .i64 x.elem, .bool x.opn]) := Lib.hid (by have h := R.out.set 0 (.int .i64 0); simpa using h)
 replace hw260 := below_set hw260 (show w.heap.size ≤ g263 by omega) 0 (.int .i64 0)
 generalize wd266.setCell ⟨g263, 0, none⟩ (.int .i64 0) = wd267 at *
 obtain ⟨cT_0, cT_1, cT_2, cT_3, cT_4, cT_5, cT_6, cT_7, cT_8, cT_9⟩ := T.out.c10
 have Hf : Hid (formB x = sameZ (restT x) typZ) := by show _ = _; rw [hf]; rfl
 clear hf h
 go_upto_region 29 with fail
 obtain ⟨cR_0, cR_1, cR_2, cR_3, cR_4, cR_5, cR_6, cR_7, cR_8, cR_9⟩ := R.out.c10
 go_wp2_with fail
 clear cT_0 cT_1 cT_2 cT_3 cT_4 cT_5 cT_6 cT_7 cT_8 cT_9 cR_0 cR_1 cR_2 cR_3 cR_4 cR_5 cR_6 cR_7 cR_8 cR_9
 ((with_reducible refine (HC.out _).mono ?_); rintro e wd268 ⟨rfl, hb269⟩)
 replace T := Lib.hid (T.out.below hb269 T.out.here)
 replace R := Lib.hid (R.out.below hb269 R.out.here)
 replace hw260 := hw260.trans (hb269.mono hw260.size)
 clear hb269
 go_wp2_with fail
 go_ret
 exact ⟨ret_bool Hf.out.symm, hw260⟩
set_option maxRecDepth 100000 in
set_option maxHeartbeats 4000000 in
theorem form2_any (x : Typ) (A1 A2 : Option Addr) (c1 c2 : Nat) (w : World) (h : x.kind = 2) (_ : x.syms.length ≤ 6000000000000 ∧ x.mems.length ≤ 6000000000000) (_ : TypAt w w.heap.size x (.slice A1 x.syms.length c1) (.slice A2 x.mems.length c2)) :
  Calls Try.prog 67 #[typA x (.slice A1 x.syms.length c1) (.slice A2 x.mems.length c2)] w fun e w' => e = .returned (.bool (formB x)) ∧ Below w.heap.size w w' := by
 have hrt : restT x = { x with kind := 0, low := 0, high := 0 } := by unfold restT; simp [h]
 have hf := form_of x (by rw [h]; unfold KindIn; omega)
 have hc : ∀ W, Calls Try.prog 93 #[.agg #[.int .i64 0, .string ⟨x.name.toArray⟩, .int .i64 0, .int .i64 0, .int .i64 x.max, .slice A1 x.syms.length c1, .slice A2 x.mems.length c2, .int .i64 x.key, .int .i64 x.elem, .bool x.opn], .agg #[.int .i64 0, .string ⟨#[]⟩, .int .i64 0, .int .i64 0, .int .i64 0, .slice none 0 0, .slice none 0 0, .int .i64 0, .int .i64 0, .bool false]] W fun e w' => e = .returned (.bool (sameZ (restT x) typZ)) ∧ Below W.heap.size W w' := fun W => by
  rw [hrt]
  exact equalz_any ({ x with kind := 0, low := 0, high := 0 } : Typ) typZ A1 A2 c1 c2 W
 have hok : okT x = decide (x.low ≤ x.high) := by unfold okT; simp [h]
 rw [hok] at hf
 have HC := Lib.hid hc
 clear hc hok hrt
 simp only [typA, h]
 go_enter Try.func67, Try.ntmps67
 go_upto_region 1 with fail
 have hb270 := below_al (Below.refl w.heap.size w) (Nat.le_refl _) (.cells #[.int .i64 2, .string ⟨x.name.toArray⟩, .int .i64 x.low, .int .i64 x.high, .int .i64 x.max, .slice A1 x.syms.length c1, .slice A2 x.mems.length c2, .int .i64 x.key, .int .i64 x.elem, .bool x.opn] 67)
 have T := Has.made w 67 #[.int .i64 2, .string ⟨x.name.toArray⟩, .int .i64 x.low, .int .i64 x.high, .int .i64 x.max, .slice A1 x.syms.length c1, .slice A2 x.mems.length c2, .int .i64 x.key, .int .i64 x.elem, .bool x.opn]
 have hw271 := hb270
 replace T := Lib.hid T
 clear hb270
 generalize (w.alloc (.cells #[.int .i64 2, .string ⟨x.name.toArray⟩, .int .i64 x.low, .int .i64 x.high, .int .i64 x.max, .slice A1 x.syms.length c1, .slice A2 x.mems.length c2, .int .i64 x.key, .int .i64 x.elem, .bool x.opn] 67)) = wd272 at *
 obtain ⟨cT_0, cT_1, cT_2, cT_3, cT_4, cT_5, cT_6, cT_7, cT_8, cT_9⟩ := T.out.c10
 go_upto_region 2 with fail
 clear cT_0 cT_1 cT_2 cT_3 cT_4 cT_5 cT_6 cT_7 cT_8 cT_9
 have hb273 := below_al (Below.refl wd272.heap.size wd272) (Nat.le_refl _) (.cells #[.int .i64 2, .string ⟨x.name.toArray⟩, .int .i64 x.low, .int .i64 x.high, .int .i64 x.max, .slice A1 x.syms.length c1, .slice A2 x.mems.length c2, .int .i64 x.key, .int .i64 x.elem, .bool x.opn] 67)
 have R := Has.made wd272 67 #[.int .i64 2, .string ⟨x.name.toArray⟩, .int .i64 x.low, .int .i64 x.high, .int .i64 x.max, .slice A1 x.syms.length c1, .slice A2 x.mems.length c2, .int .i64 x.key, .int .i64 x.elem, .bool x.opn]
 have hl275 := T.out.here
 have hl276 := hw271.size
 replace T := Lib.hid (T.out.below hb273 T.out.here)
 replace hw271 := hw271.trans (hb273.mono hw271.size)
 replace R := Lib.hid R
 clear hb273
 generalize (wd272.alloc (.cells #[.int .i64 2, .string ⟨x.name.toArray⟩, .int .i64 x.low, .int .i64 x.high, .int .i64 x.max, .slice A1 x.syms.length c1, .slice A2 x.mems.length c2, .int .i64 x.key, .int .i64 x.elem, .bool x.opn] 67)) = wd277 at *
 generalize wd272.heap.size = g274 at *
 have cR_0 : wd277.cell? ⟨g274, 0, none⟩ = some (.int .i64 2) := R.out.cell 0
 have fR_0 := R.out.free 0
 go_upto_region 3 with fail
 clear cR_0 fR_0
 replace T := Lib.hid (T.out.far (p := ⟨g274, 0, none⟩) (show w.heap.size ≠ g274 by omega) (.int .i64 0))
 replace R : Hid (Has (wd277.setCell ⟨g274, 0, none⟩ (.int .i64 0)) (g274) 67 #[.int .i64 0, .string ⟨x.name.toArray⟩, .int .i64 x.low, .int .i64 x.high, .int .i64 x.max, .slice A1 x.syms.length c1, .slice A2 x.mems.length c2, .int .i64 x.key, .int .i64 x.elem, .bool x.opn]) := Lib.hid (by have h := R.out.set 0 (.int .i64 0); simpa using h)
 replace hw271 := below_set hw271 (show w.heap.size ≤ g274 by omega) 0 (.int .i64 0)
 generalize wd277.setCell ⟨g274, 0, none⟩ (.int .i64 0) = wd278 at *
 obtain ⟨cT_0, cT_1, cT_2, cT_3, cT_4, cT_5, cT_6, cT_7, cT_8, cT_9⟩ := T.out.c10
 by_cases hlo : x.low ≤ x.high
 ·
  have hd : decide (x.low ≤ x.high) = true := decide_eq_true hlo
  have Hf : Hid (formB x = sameZ (restT x) typZ) := by show _ = _; rw [hf, hd]; rfl
  clear hf h
  have cR_2 : wd278.cell? ⟨g274, 2, none⟩ = some (.int .i64 x.low) := R.out.cell 2
  have cR_3 : wd278.cell? ⟨g274, 3, none⟩ = some (.int .i64 x.high) := R.out.cell 3
  have fR_2 := R.out.free 2
  have fR_3 := R.out.free 3
  go_upto_region 29 with fail
  clear cT_0 cT_1 cT_2 cT_3 cT_4 cT_5 cT_6 cT_7 cT_8 cT_9 cR_2 cR_3 fR_2 fR_3
  replace T := Lib.hid (T.out.far (p := ⟨g274, 2, none⟩) (show w.heap.size ≠ g274 by omega) (.int .i64 0))
  replace R : Hid (Has (wd278.setCell ⟨g274, 2, none⟩ (.int .i64 0)) (g274) 67 #[.int .i64 0, .string ⟨x.name.toArray⟩, .int .i64 0, .int .i64 x.high, .int .i64 x.max, .slice A1 x.syms.length c1, .slice A2 x.mems.length c2, .int .i64 x.key, .int .i64 x.elem, .bool x.opn]) := Lib.hid (by have h := R.out.set 2 (.int .i64 0); simpa using h)
  replace hw271 := below_set hw271 (show w.heap.size ≤ g274 by omega) 2 (.int .i64 0)
  generalize wd278.setCell ⟨g274, 2, none⟩ (.int .i64 0) = wd279 at *
  replace T := Lib.hid (T.out.far (p := ⟨g274, 3, none⟩) (show w.heap.size ≠ g274 by omega) (.int .i64 0))
  replace R : Hid (Has (wd279.setCell ⟨g274, 3, none⟩ (.int .i64 0)) (g274) 67 #[.int .i64 0, .string ⟨x.name.toArray⟩, .int .i64 0, .int .i64 0, .int .i64 x.max, .slice A1 x.syms.length c1, .slice A2 x.mems.length c2, .int .i64 x.key, .int .i64 x.elem, .bool x.opn]) := Lib.hid (by have h := R.out.set 3 (.int .i64 0); simpa using h)
  replace hw271 := below_set hw271 (show w.heap.size ≤ g274 by omega) 3 (.int .i64 0)
  generalize wd279.setCell ⟨g274, 3, none⟩ (.int .i64 0) = wd280 at *
  obtain ⟨cR_0, cR_1, cR_2, cR_3, cR_4, cR_5, cR_6, cR_7, cR_8, cR_9⟩ := R.out.c10
  go_wp2_with fail
  clear cR_0 cR_1 cR_2 cR_3 cR_4 cR_5 cR_6 cR_7 cR_8 cR_9
  ((with_reducible refine (HC.out _).mono ?_); rintro e wd281 ⟨rfl, hb282⟩)
  replace T := Lib.hid (T.out.below hb282 T.out.here)
  replace R := Lib.hid (R.out.below hb282 R.out.here)
  replace hw271 := hw271.trans (hb282.mono hw271.size)
  clear hb282
  go_wp2_with fail
  go_ret
  exact ⟨ret_bool Hf.out.symm, hw271⟩
 ·
  have hd : decide (x.low ≤ x.high) = false := decide_eq_false hlo
  have Hf : Hid (formB x = false) := by show _ = _; rw [hf, hd]; rfl
  clear hf h
  have cR_2 : wd278.cell? ⟨g274, 2, none⟩ = some (.int .i64 x.low) := R.out.cell 2
  have cR_3 : wd278.cell? ⟨g274, 3, none⟩ = some (.int .i64 x.high) := R.out.cell 3
  have fR_2 := R.out.free 2
  have fR_3 := R.out.free 3
  go_upto_region 29 with fail
  clear cT_0 cT_1 cT_2 cT_3 cT_4 cT_5 cT_6 cT_7 cT_8 cT_9 cR_2 cR_3 fR_2 fR_3
  replace T := Lib.hid (T.out.far (p := ⟨g274, 2, none⟩) (show w.heap.size ≠ g274 by omega) (.int .i64 0))
  replace R : Hid (Has (wd278.setCell ⟨g274, 2, none⟩ (.int .i64 0)) (g274) 67 #[.int .i64 0, .string ⟨x.name.toArray⟩, .int .i64 0, .int .i64 x.high, .int .i64 x.max, .slice A1 x.syms.length c1, .slice A2 x.mems.length c2, .int .i64 x.key, .int .i64 x.elem, .bool x.opn]) := Lib.hid (by have h := R.out.set 2 (.int .i64 0); simpa using h)
  replace hw271 := below_set hw271 (show w.heap.size ≤ g274 by omega) 2 (.int .i64 0)
  generalize wd278.setCell ⟨g274, 2, none⟩ (.int .i64 0) = wd283 at *
  replace T := Lib.hid (T.out.far (p := ⟨g274, 3, none⟩) (show w.heap.size ≠ g274 by omega) (.int .i64 0))
  replace R : Hid (Has (wd283.setCell ⟨g274, 3, none⟩ (.int .i64 0)) (g274) 67 #[.int .i64 0, .string ⟨x.name.toArray⟩, .int .i64 0, .int .i64 0, .int .i64 x.max, .slice A1 x.syms.length c1, .slice A2 x.mems.length c2, .int .i64 x.key, .int .i64 x.elem, .bool x.opn]) := Lib.hid (by have h := R.out.set 3 (.int .i64 0); simpa using h)
  replace hw271 := below_set hw271 (show w.heap.size ≤ g274 by omega) 3 (.int .i64 0)
  generalize wd283.setCell ⟨g274, 3, none⟩ (.int .i64 0) = wd284 at *
  obtain ⟨cR_0, cR_1, cR_2, cR_3, cR_4, cR_5, cR_6, cR_7, cR_8, cR_9⟩ := R.out.c10
  go_wp2_with fail
  go_ret
  exact ⟨ret_bool Hf.out.symm, hw271⟩
set_option maxRecDepth 100000 in
set_option maxHeartbeats 4000000 in
theorem form3_any (x : Typ) (A1 A2 : Option Addr) (c1 c2 : Nat) (w : World) (h : x.kind = 3) (_ : x.syms.length ≤ 6000000000000 ∧ x.mems.length ≤ 6000000000000) (_ : TypAt w w.heap.size x (.slice A1 x.syms.length c1) (.slice A2 x.mems.length c2)) :
  Calls Try.prog 67 #[typA x (.slice A1 x.syms.length c1) (.slice A2 x.mems.length c2)] w fun e w' => e = .returned (.bool (formB x)) ∧ Below w.heap.size w w' := by
 have hrt : restT x = { x with kind := 0, max := 0 } := by unfold restT; simp [h]
 have hf := form_of x (by rw [h]; unfold KindIn; omega)
 have hc : ∀ W, Calls Try.prog 93 #[.agg #[.int .i64 0, .string ⟨x.name.toArray⟩, .int .i64 x.low, .int .i64 x.high, .int .i64 0, .slice A1 x.syms.length c1, .slice A2 x.mems.length c2, .int .i64 x.key, .int .i64 x.elem, .bool x.opn], .agg #[.int .i64 0, .string ⟨#[]⟩, .int .i64 0, .int .i64 0, .int .i64 0, .slice none 0 0, .slice none 0 0, .int .i64 0, .int .i64 0, .bool false]] W fun e w' => e = .returned (.bool (sameZ (restT x) typZ)) ∧ Below W.heap.size W w' := fun W => by
  rw [hrt]
  exact equalz_any ({ x with kind := 0, max := 0 } : Typ) typZ A1 A2 c1 c2 W
 have hok : okT x = (decide (0 ≤ x.max) && decide (x.max ≤ 200)) := by unfold okT; simp [h]
 rw [hok] at hf
 have HC := Lib.hid hc
 clear hc hok hrt
 simp only [typA, h]
 go_enter Try.func67, Try.ntmps67
 go_upto_region 1 with fail
 have hb285 := below_al (Below.refl w.heap.size w) (Nat.le_refl _) (.cells #[.int .i64 3, .string ⟨x.name.toArray⟩, .int .i64 x.low, .int .i64 x.high, .int .i64 x.max, .slice A1 x.syms.length c1, .slice A2 x.mems.length c2, .int .i64 x.key, .int .i64 x.elem, .bool x.opn] 67)
 have T := Has.made w 67 #[.int .i64 3, .string ⟨x.name.toArray⟩, .int .i64 x.low, .int .i64 x.high, .int .i64 x.max, .slice A1 x.syms.length c1, .slice A2 x.mems.length c2, .int .i64 x.key, .int .i64 x.elem, .bool x.opn]
 have hw286 := hb285
 replace T := Lib.hid T
 clear hb285
 generalize (w.alloc (.cells #[.int .i64 3, .string ⟨x.name.toArray⟩, .int .i64 x.low, .int .i64 x.high, .int .i64 x.max, .slice A1 x.syms.length c1, .slice A2 x.mems.length c2, .int .i64 x.key, .int .i64 x.elem, .bool x.opn] 67)) = wd287 at *
 obtain ⟨cT_0, cT_1, cT_2, cT_3, cT_4, cT_5, cT_6, cT_7, cT_8, cT_9⟩ := T.out.c10
 go_upto_region 2 with fail
 clear cT_0 cT_1 cT_2 cT_3 cT_4 cT_5 cT_6 cT_7 cT_8 cT_9
 have hb288 := below_al (Below.refl wd287.heap.size wd287) (Nat.le_refl _) (.cells #[.int .i64 3, .string ⟨x.name.toArray⟩, .int .i64 x.low, .int .i64 x.high, .int .i64 x.max, .slice A1 x.syms.length c1, .slice A2 x.mems.length c2, .int .i64 x.key, .int .i64 x.elem, .bool x.opn] 67)
 have R := Has.made wd287 67 #[.int .i64 3, .string ⟨x.name.toArray⟩, .int .i64 x.low, .int .i64 x.high, .int .i64 x.max, .slice A1 x.syms.length c1, .slice A2 x.mems.length c2, .int .i64 x.key, .int .i64 x.elem, .bool x.opn]
 have hl290 := T.out.here
 have hl291 := hw286.size
 replace T := Lib.hid (T.out.below hb288 T.out.here)
 replace hw286 := hw286.trans (hb288.mono hw286.size)
 replace R := Lib.hid R
 clear hb288
 generalize (wd287.alloc (.cells #[.int .i64 3, .string ⟨x.name.toArray⟩, .int .i64 x.low, .int .i64 x.high, .int .i64 x.max, .slice A1 x.syms.length c1, .slice A2 x.mems.length c2, .int .i64 x.key, .int .i64 x.elem, .bool x.opn] 67)) = wd292 at *
 generalize wd287.heap.size = g289 at *
 have cR_0 : wd292.cell? ⟨g289, 0, none⟩ = some (.int .i64 3) := R.out.cell 0
 have fR_0 := R.out.free 0
 go_upto_region 3 with fail
 clear cR_0 fR_0
 replace T := Lib.hid (T.out.far (p := ⟨g289, 0, none⟩) (show w.heap.size ≠ g289 by omega) (.int .i64 0))
 replace R : Hid (Has (wd292.setCell ⟨g289, 0, none⟩ (.int .i64 0)) (g289) 67 #[.int .i64 0, .string ⟨x.name.toArray⟩, .int .i64 x.low, .int .i64 x.high, .int .i64 x.max, .slice A1 x.syms.length c1, .slice A2 x.mems.length c2, .int .i64 x.key, .int .i64 x.elem, .bool x.opn]) := Lib.hid (by have h := R.out.set 0 (.int .i64 0); simpa using h)
 replace hw286 := below_set hw286 (show w.heap.size ≤ g289 by omega) 0 (.int .i64 0)
 generalize wd292.setCell ⟨g289, 0, none⟩ (.int .i64 0) = wd293 at *
 obtain ⟨cT_0, cT_1, cT_2, cT_3, cT_4, cT_5, cT_6, cT_7, cT_8, cT_9⟩ := T.out.c10
 by_cases hlo : 0 ≤ x.max
 ·
  have hd : decide (0 ≤ x.max) = true := decide_eq_true hlo
  by_cases hhi : x.max ≤ 200
  ·
   have hd2 : decide (x.max ≤ 200) = true := decide_eq_true hhi
   have Hf : Hid (formB x = sameZ (restT x) typZ) := by show _ = _; rw [hf, hd, hd2]; rfl
   clear hf h
   have cR_4 : wd293.cell? ⟨g289, 4, none⟩ = some (.int .i64 x.max) := R.out.cell 4
   have fR_4 := R.out.free 4
   go_upto_region 29 with fail
   clear cT_0 cT_1 cT_2 cT_3 cT_4 cT_5 cT_6 cT_7 cT_8 cT_9 cR_4 fR_4
   replace T := Lib.hid (T.out.far (p := ⟨g289, 4, none⟩) (show w.heap.size ≠ g289 by omega) (.int .i64 0))
   replace R : Hid (Has (wd293.setCell ⟨g289, 4, none⟩ (.int .i64 0)) (g289) 67 #[.int .i64 0, .string ⟨x.name.toArray⟩, .int .i64 x.low, .int .i64 x.high, .int .i64 0, .slice A1 x.syms.length c1, .slice A2 x.mems.length c2, .int .i64 x.key, .int .i64 x.elem, .bool x.opn]) := Lib.hid (by have h := R.out.set 4 (.int .i64 0); simpa using h)
   replace hw286 := below_set hw286 (show w.heap.size ≤ g289 by omega) 4 (.int .i64 0)
   generalize wd293.setCell ⟨g289, 4, none⟩ (.int .i64 0) = wd294 at *
   obtain ⟨cR_0, cR_1, cR_2, cR_3, cR_4, cR_5, cR_6, cR_7, cR_8, cR_9⟩ := R.out.c10
   go_wp2_with fail
   clear cR_0 cR_1 cR_2 cR_3 cR_4 cR_5 cR_6 cR_7 cR_8 cR_9
   ((with_reducible refine (HC.out _).mono ?_); rintro e wd295 ⟨rfl, hb296⟩)
   replace T := Lib.hid (T.out.below hb296 T.out.here)
   replace R := Lib.hid (R.out.below hb296 R.out.here)
   replace hw286 := hw286.trans (hb296.mono hw286.size)
   clear hb296
   go_wp2_with fail
   go_ret
   exact ⟨ret_bool Hf.out.symm, hw286⟩
  ·
   have hd2 : decide (x.max ≤ 200) = false := decide_eq_false hhi
   have Hf : Hid (formB x = false) := by show _ = _; rw [hf, hd, hd2]; rfl
   clear hf h
   have cR_4 : wd293.cell? ⟨g289, 4, none⟩ = some (.int .i64 x.max) := R.out.cell 4
   have fR_4 := R.out.free 4
   go_upto_region 29 with fail
   clear cT_0 cT_1 cT_2 cT_3 cT_4 cT_5 cT_6 cT_7 cT_8 cT_9 cR_4 fR_4
   replace T := Lib.hid (T.out.far (p := ⟨g289, 4, none⟩) (show w.heap.size ≠ g289 by omega) (.int .i64 0))
   replace R : Hid (Has (wd293.setCell ⟨g289, 4, none⟩ (.int .i64 0)) (g289) 67 #[.int .i64 0, .string ⟨x.name.toArray⟩, .int .i64 x.low, .int .i64 x.high, .int .i64 0, .slice A1 x.syms.length c1, .slice A2 x.mems.length c2, .int .i64 x.key, .int .i64 x.elem, .bool x.opn]) := Lib.hid (by have h := R.out.set 4 (.int .i64 0); simpa using h)
   replace hw286 := below_set hw286 (show w.heap.size ≤ g289 by omega) 4 (.int .i64 0)
   generalize wd293.setCell ⟨g289, 4, none⟩ (.int .i64 0) = wd297 at *
   obtain ⟨cR_0, cR_1, cR_2, cR_3, cR_4, cR_5, cR_6, cR_7, cR_8, cR_9⟩ := R.out.c10
   go_wp2_with fail
   go_ret
   exact ⟨ret_bool Hf.out.symm, hw286⟩
 ·
  have hd : decide (0 ≤ x.max) = false := decide_eq_false hlo
  have Hf : Hid (formB x = false) := by show _ = _; rw [hf, hd]; rfl
  clear hf h
  have cR_4 : wd293.cell? ⟨g289, 4, none⟩ = some (.int .i64 x.max) := R.out.cell 4
  have fR_4 := R.out.free 4
  go_upto_region 29 with fail
  clear cT_0 cT_1 cT_2 cT_3 cT_4 cT_5 cT_6 cT_7 cT_8 cT_9 cR_4 fR_4
  replace T := Lib.hid (T.out.far (p := ⟨g289, 4, none⟩) (show w.heap.size ≠ g289 by omega) (.int .i64 0))
  replace R : Hid (Has (wd293.setCell ⟨g289, 4, none⟩ (.int .i64 0)) (g289) 67 #[.int .i64 0, .string ⟨x.name.toArray⟩, .int .i64 x.low, .int .i64 x.high, .int .i64 0, .slice A1 x.syms.length c1, .slice A2 x.mems.length c2, .int .i64 x.key, .int .i64 x.elem, .bool x.opn]) := Lib.hid (by have h := R.out.set 4 (.int .i64 0); simpa using h)
  replace hw286 := below_set hw286 (show w.heap.size ≤ g289 by omega) 4 (.int .i64 0)
  generalize wd293.setCell ⟨g289, 4, none⟩ (.int .i64 0) = wd298 at *
  obtain ⟨cR_0, cR_1, cR_2, cR_3, cR_4, cR_5, cR_6, cR_7, cR_8, cR_9⟩ := R.out.c10
  go_wp2_with fail
  go_ret
  exact ⟨ret_bool Hf.out.symm, hw286⟩
set_option maxRecDepth 100000 in
set_option maxHeartbeats 4000000 in
theorem form4_any (x : Typ) (A1 A2 : Option Addr) (c1 c2 : Nat) (w : World) (h : x.kind = 4) (hl : x.syms.length ≤ 6000000000000 ∧ x.mems.length ≤ 6000000000000) (ht : TypAt w w.heap.size x (.slice A1 x.syms.length c1) (.slice A2 x.mems.length c2)) :
  Calls Try.prog 67 #[typA x (.slice A1 x.syms.length c1) (.slice A2 x.mems.length c2)] w fun e w' => e = .returned (.bool (formB x)) ∧ Below w.heap.size w w' := by
 have hrt : restT x = { x with kind := 0, name := [], syms := [], opn := false } := by unfold restT; simp [h]
 have hf := form_of x (by rw [h]; unfold KindIn; omega)
 have hc : ∀ W, Calls Try.prog 93 #[.agg #[.int .i64 0, .string ⟨#[]⟩, .int .i64 x.low, .int .i64 x.high, .int .i64 x.max, .slice none 0 0, .slice A2 x.mems.length c2, .int .i64 x.key, .int .i64 x.elem, .bool false], .agg #[.int .i64 0, .string ⟨#[]⟩, .int .i64 0, .int .i64 0, .int .i64 0, .slice none 0 0, .slice none 0 0, .int .i64 0, .int .i64 0, .bool false]] W fun e w' => e = .returned (.bool (sameZ (restT x) typZ)) ∧ Below W.heap.size W w' := fun W => by
  rw [hrt]
  exact equalz_any ({ x with kind := 0, name := [], syms := [], opn := false } : Typ) typZ none A2 0 c2 W
 have hok : okT x = (nameB x.name && symB x.syms) := by unfold okT; simp [h]
 rw [hok] at hf
 have HC := Lib.hid hc
 have HN := Lib.hid (fun W => isname_any x.name W)
 have HS := Lib.hid (fun W hW => symbols_any x.syms (.slice A1 x.syms.length c1) W hl.1 ht.symsin ((ht.syms.below (w' := W) hW).mono hW.size))
 clear hc hok hrt ht
 simp only [typA, h]
 go_enter Try.func67, Try.ntmps67
 go_upto_region 1 with fail
 have hb299 := below_al (Below.refl w.heap.size w) (Nat.le_refl _) (.cells #[.int .i64 4, .string ⟨x.name.toArray⟩, .int .i64 x.low, .int .i64 x.high, .int .i64 x.max, .slice A1 x.syms.length c1, .slice A2 x.mems.length c2, .int .i64 x.key, .int .i64 x.elem, .bool x.opn] 67)
 have T := Has.made w 67 #[.int .i64 4, .string ⟨x.name.toArray⟩, .int .i64 x.low, .int .i64 x.high, .int .i64 x.max, .slice A1 x.syms.length c1, .slice A2 x.mems.length c2, .int .i64 x.key, .int .i64 x.elem, .bool x.opn]
 have hw300 := hb299
 replace T := Lib.hid T
 clear hb299
 generalize (w.alloc (.cells #[.int .i64 4, .string ⟨x.name.toArray⟩, .int .i64 x.low, .int .i64 x.high, .int .i64 x.max, .slice A1 x.syms.length c1, .slice A2 x.mems.length c2, .int .i64 x.key, .int .i64 x.elem, .bool x.opn] 67)) = wd301 at *
 obtain ⟨cT_0, cT_1, cT_2, cT_3, cT_4, cT_5, cT_6, cT_7, cT_8, cT_9⟩ := T.out.c10
 go_upto_region 2 with fail
 clear cT_0 cT_1 cT_2 cT_3 cT_4 cT_5 cT_6 cT_7 cT_8 cT_9
 have hb302 := below_al (Below.refl wd301.heap.size wd301) (Nat.le_refl _) (.cells #[.int .i64 4, .string ⟨x.name.toArray⟩, .int .i64 x.low, .int .i64 x.high, .int .i64 x.max, .slice A1 x.syms.length c1, .slice A2 x.mems.length c2, .int .i64 x.key, .int .i64 x.elem, .bool x.opn] 67)
 have R := Has.made wd301 67 #[.int .i64 4, .string ⟨x.name.toArray⟩, .int .i64 x.low, .int .i64 x.high, .int .i64 x.max, .slice A1 x.syms.length c1, .slice A2 x.mems.length c2, .int .i64 x.key, .int .i64 x.elem, .bool x.opn]
 have hl304 := T.out.here
 have hl305 := hw300.size
 replace T := Lib.hid (T.out.below hb302 T.out.here)
 replace hw300 := hw300.trans (hb302.mono hw300.size)
 replace R := Lib.hid R
 clear hb302
 generalize (wd301.alloc (.cells #[.int .i64 4, .string ⟨x.name.toArray⟩, .int .i64 x.low, .int .i64 x.high, .int .i64 x.max, .slice A1 x.syms.length c1, .slice A2 x.mems.length c2, .int .i64 x.key, .int .i64 x.elem, .bool x.opn] 67)) = wd306 at *
 generalize wd301.heap.size = g303 at *
 have cR_0 : wd306.cell? ⟨g303, 0, none⟩ = some (.int .i64 4) := R.out.cell 0
 have fR_0 := R.out.free 0
 go_upto_region 3 with fail
 clear cR_0 fR_0
 replace T := Lib.hid (T.out.far (p := ⟨g303, 0, none⟩) (show w.heap.size ≠ g303 by omega) (.int .i64 0))
 replace R : Hid (Has (wd306.setCell ⟨g303, 0, none⟩ (.int .i64 0)) (g303) 67 #[.int .i64 0, .string ⟨x.name.toArray⟩, .int .i64 x.low, .int .i64 x.high, .int .i64 x.max, .slice A1 x.syms.length c1, .slice A2 x.mems.length c2, .int .i64 x.key, .int .i64 x.elem, .bool x.opn]) := Lib.hid (by have h := R.out.set 0 (.int .i64 0); simpa using h)
 replace hw300 := below_set hw300 (show w.heap.size ≤ g303 by omega) 0 (.int .i64 0)
 generalize wd306.setCell ⟨g303, 0, none⟩ (.int .i64 0) = wd307 at *
 obtain ⟨cT_0, cT_1, cT_2, cT_3, cT_4, cT_5, cT_6, cT_7, cT_8, cT_9⟩ := T.out.c10
 go_wp2_with fail
 clear cT_0 cT_1 cT_2 cT_3 cT_4 cT_5 cT_6 cT_7 cT_8 cT_9
 ((with_reducible refine (HN.out _).mono ?_); rintro e wd308 ⟨rfl, rfl⟩)
 cases hn : nameB x.name with
 | false =>
  have Hf : Hid (formB x = false) := by show _ = _; rw [hf, hn]; rfl
  clear hf h
  obtain ⟨-, cR_1, -, -, -, cR_5, -, -, -, cR_9⟩ := R.out.c10
  have fR_1 := R.out.free 1
  have fR_5 := R.out.free 5
  have fR_9 := R.out.free 9
  go_upto_region 29 with fail
  clear cR_1 cR_5 cR_9 fR_1 fR_5 fR_9
  replace T := Lib.hid (T.out.far (p := ⟨g303, 1, none⟩) (show w.heap.size ≠ g303 by omega) (.string ⟨#[]⟩))
  replace R : Hid (Has (wd307.setCell ⟨g303, 1, none⟩ (.string ⟨#[]⟩)) (g303) 67 #[.int .i64 0, .string ⟨#[]⟩, .int .i64 x.low, .int .i64 x.high, .int .i64 x.max, .slice A1 x.syms.length c1, .slice A2 x.mems.length c2, .int .i64 x.key, .int .i64 x.elem, .bool x.opn]) := Lib.hid (by have h := R.out.set 1 (.string ⟨#[]⟩); simpa using h)
  replace hw300 := below_set hw300 (show w.heap.size ≤ g303 by omega) 1 (.string ⟨#[]⟩)
  generalize wd307.setCell ⟨g303, 1, none⟩ (.string ⟨#[]⟩) = wd310 at *
  replace T := Lib.hid (T.out.far (p := ⟨g303, 5, none⟩) (show w.heap.size ≠ g303 by omega) (.slice none 0 0))
  replace R : Hid (Has (wd310.setCell ⟨g303, 5, none⟩ (.slice none 0 0)) (g303) 67 #[.int .i64 0, .string ⟨#[]⟩, .int .i64 x.low, .int .i64 x.high, .int .i64 x.max, .slice none 0 0, .slice A2 x.mems.length c2, .int .i64 x.key, .int .i64 x.elem, .bool x.opn]) := Lib.hid (by have h := R.out.set 5 (.slice none 0 0); simpa using h)
  replace hw300 := below_set hw300 (show w.heap.size ≤ g303 by omega) 5 (.slice none 0 0)
  generalize wd310.setCell ⟨g303, 5, none⟩ (.slice none 0 0) = wd311 at *
  replace T := Lib.hid (T.out.far (p := ⟨g303, 9, none⟩) (show w.heap.size ≠ g303 by omega) (.bool false))
  replace R : Hid (Has (wd311.setCell ⟨g303, 9, none⟩ (.bool false)) (g303) 67 #[.int .i64 0, .string ⟨#[]⟩, .int .i64 x.low, .int .i64 x.high, .int .i64 x.max, .slice none 0 0, .slice A2 x.mems.length c2, .int .i64 x.key, .int .i64 x.elem, .bool false]) := Lib.hid (by have h := R.out.set 9 (.bool false); simpa using h)
  replace hw300 := below_set hw300 (show w.heap.size ≤ g303 by omega) 9 (.bool false)
  generalize wd311.setCell ⟨g303, 9, none⟩ (.bool false) = wd312 at *
  obtain ⟨cR_0, cR_1, cR_2, cR_3, cR_4, cR_5, cR_6, cR_7, cR_8, cR_9⟩ := R.out.c10
  go_wp2_with fail
  go_ret
  exact ⟨ret_bool Hf.out.symm, hw300⟩
 | true =>
  obtain ⟨cT_0, cT_1, cT_2, cT_3, cT_4, cT_5, cT_6, cT_7, cT_8, cT_9⟩ := T.out.c10
  go_wp2_with fail
  clear cT_0 cT_1 cT_2 cT_3 cT_4 cT_5 cT_6 cT_7 cT_8 cT_9
  ((with_reducible refine (HS.out _ (hw300)).mono ?_); rintro e wd313 ⟨rfl, hb314⟩)
  replace T := Lib.hid (T.out.below hb314 T.out.here)
  replace R := Lib.hid (R.out.below hb314 R.out.here)
  replace hw300 := hw300.trans (hb314.mono hw300.size)
  clear hb314
  cases hs : symB x.syms with
  | false =>
   have Hf : Hid (formB x = false) := by show _ = _; rw [hf, hn, hs]; rfl
   clear hf h
   obtain ⟨-, cR_1, -, -, -, cR_5, -, -, -, cR_9⟩ := R.out.c10
   have fR_1 := R.out.free 1
   have fR_5 := R.out.free 5
   have fR_9 := R.out.free 9
   go_upto_region 29 with fail
   clear cR_1 cR_5 cR_9 fR_1 fR_5 fR_9
   replace T := Lib.hid (T.out.far (p := ⟨g303, 1, none⟩) (show w.heap.size ≠ g303 by omega) (.string ⟨#[]⟩))
   replace R : Hid (Has (wd313.setCell ⟨g303, 1, none⟩ (.string ⟨#[]⟩)) (g303) 67 #[.int .i64 0, .string ⟨#[]⟩, .int .i64 x.low, .int .i64 x.high, .int .i64 x.max, .slice A1 x.syms.length c1, .slice A2 x.mems.length c2, .int .i64 x.key, .int .i64 x.elem, .bool x.opn]) := Lib.hid (by have h := R.out.set 1 (.string ⟨#[]⟩); simpa using h)
   replace hw300 := below_set hw300 (show w.heap.size ≤ g303 by omega) 1 (.string ⟨#[]⟩)
   generalize wd313.setCell ⟨g303, 1, none⟩ (.string ⟨#[]⟩) = wd315 at *
   replace T := Lib.hid (T.out.far (p := ⟨g303, 5, none⟩) (show w.heap.size ≠ g303 by omega) (.slice none 0 0))
   replace R : Hid (Has (wd315.setCell ⟨g303, 5, none⟩ (.slice none 0 0)) (g303) 67 #[.int .i64 0, .string ⟨#[]⟩, .int .i64 x.low, .int .i64 x.high, .int .i64 x.max, .slice none 0 0, .slice A2 x.mems.length c2, .int .i64 x.key, .int .i64 x.elem, .bool x.opn]) := Lib.hid (by have h := R.out.set 5 (.slice none 0 0); simpa using h)
   replace hw300 := below_set hw300 (show w.heap.size ≤ g303 by omega) 5 (.slice none 0 0)
   generalize wd315.setCell ⟨g303, 5, none⟩ (.slice none 0 0) = wd316 at *
   replace T := Lib.hid (T.out.far (p := ⟨g303, 9, none⟩) (show w.heap.size ≠ g303 by omega) (.bool false))
   replace R : Hid (Has (wd316.setCell ⟨g303, 9, none⟩ (.bool false)) (g303) 67 #[.int .i64 0, .string ⟨#[]⟩, .int .i64 x.low, .int .i64 x.high, .int .i64 x.max, .slice none 0 0, .slice A2 x.mems.length c2, .int .i64 x.key, .int .i64 x.elem, .bool false]) := Lib.hid (by have h := R.out.set 9 (.bool false); simpa using h)
   replace hw300 := below_set hw300 (show w.heap.size ≤ g303 by omega) 9 (.bool false)
   generalize wd316.setCell ⟨g303, 9, none⟩ (.bool false) = wd317 at *
   obtain ⟨cR_0, cR_1, cR_2, cR_3, cR_4, cR_5, cR_6, cR_7, cR_8, cR_9⟩ := R.out.c10
   go_wp2_with fail
   go_ret
   exact ⟨ret_bool Hf.out.symm, hw300⟩
  | true =>
   have Hf : Hid (formB x = sameZ (restT x) typZ) := by show _ = _; rw [hf, hn, hs]; rfl
   clear hf h
   obtain ⟨-, cR_1, -, -, -, cR_5, -, -, -, cR_9⟩ := R.out.c10
   have fR_1 := R.out.free 1
   have fR_5 := R.out.free 5
   have fR_9 := R.out.free 9
   go_upto_region 29 with fail
   clear cR_1 cR_5 cR_9 fR_1 fR_5 fR_9
   replace T := Lib.hid (T.out.far (p := ⟨g303, 1, none⟩) (show w.heap.size ≠ g303 by omega) (.string ⟨#[]⟩))
   replace R : Hid (Has (wd313.setCell ⟨g303, 1, none⟩ (.string ⟨#[]⟩)) (g303) 67 #[.int .i64 0, .string ⟨#[]⟩, .int .i64 x.low, .int .i64 x.high, .int .i64 x.max, .slice A1 x.syms.length c1, .slice A2 x.mems.length c2, .int .i64 x.key, .int .i64 x.elem, .bool x.opn]) := Lib.hid (by have h := R.out.set 1 (.string ⟨#[]⟩); simpa using h)
   replace hw300 := below_set hw300 (show w.heap.size ≤ g303 by omega) 1 (.string ⟨#[]⟩)
   generalize wd313.setCell ⟨g303, 1, none⟩ (.string ⟨#[]⟩) = wd318 at *
   replace T := Lib.hid (T.out.far (p := ⟨g303, 5, none⟩) (show w.heap.size ≠ g303 by omega) (.slice none 0 0))
   replace R : Hid (Has (wd318.setCell ⟨g303, 5, none⟩ (.slice none 0 0)) (g303) 67 #[.int .i64 0, .string ⟨#[]⟩, .int .i64 x.low, .int .i64 x.high, .int .i64 x.max, .slice none 0 0, .slice A2 x.mems.length c2, .int .i64 x.key, .int .i64 x.elem, .bool x.opn]) := Lib.hid (by have h := R.out.set 5 (.slice none 0 0); simpa using h)
   replace hw300 := below_set hw300 (show w.heap.size ≤ g303 by omega) 5 (.slice none 0 0)
   generalize wd318.setCell ⟨g303, 5, none⟩ (.slice none 0 0) = wd319 at *
   replace T := Lib.hid (T.out.far (p := ⟨g303, 9, none⟩) (show w.heap.size ≠ g303 by omega) (.bool false))
   replace R : Hid (Has (wd319.setCell ⟨g303, 9, none⟩ (.bool false)) (g303) 67 #[.int .i64 0, .string ⟨#[]⟩, .int .i64 x.low, .int .i64 x.high, .int .i64 x.max, .slice none 0 0, .slice A2 x.mems.length c2, .int .i64 x.key, .int .i64 x.elem, .bool false]) := Lib.hid (by have h := R.out.set 9 (.bool false); simpa using h)
   replace hw300 := below_set hw300 (show w.heap.size ≤ g303 by omega) 9 (.bool false)
   generalize wd319.setCell ⟨g303, 9, none⟩ (.bool false) = wd320 at *
   obtain ⟨cR_0, cR_1, cR_2, cR_3, cR_4, cR_5, cR_6, cR_7, cR_8, cR_9⟩ := R.out.c10
   go_wp2_with fail
   clear cR_0 cR_1 cR_2 cR_3 cR_4 cR_5 cR_6 cR_7 cR_8 cR_9
   ((with_reducible refine (HC.out _).mono ?_); rintro e wd321 ⟨rfl, hb322⟩)
   replace T := Lib.hid (T.out.below hb322 T.out.here)
   replace R := Lib.hid (R.out.below hb322 R.out.here)
   replace hw300 := hw300.trans (hb322.mono hw300.size)
   clear hb322
   go_wp2_with fail
   go_ret
   exact ⟨ret_bool Hf.out.symm, hw300⟩
set_option maxRecDepth 100000 in
set_option maxHeartbeats 4000000 in
theorem form5true_any (x : Typ) (A1 A2 : Option Addr) (c1 c2 : Nat) (w : World) (h : x.kind = 5) (hop : x.opn = true) (hl : x.syms.length ≤ 6000000000000 ∧ x.mems.length ≤ 6000000000000) (ht : TypAt w w.heap.size x (.slice A1 x.syms.length c1) (.slice A2 x.mems.length c2)) :
  Calls Try.prog 67 #[typA x (.slice A1 x.syms.length c1) (.slice A2 x.mems.length c2)] w fun e w' => e = .returned (.bool (formB x)) ∧ Below w.heap.size w w' := by
 have hrt : restT x = { x with kind := 0, name := [], mems := [], opn := true } := by unfold restT; simp [h, hop]
 have hf := form_of x (by rw [h]; unfold KindIn; omega)
 have hc : ∀ W, Calls Try.prog 93 #[.agg #[.int .i64 0, .string ⟨#[]⟩, .int .i64 x.low, .int .i64 x.high, .int .i64 x.max, .slice A1 x.syms.length c1, .slice none 0 0, .int .i64 x.key, .int .i64 x.elem, .bool true], .agg #[.int .i64 0, .string ⟨#[]⟩, .int .i64 0, .int .i64 0, .int .i64 0, .slice none 0 0, .slice none 0 0, .int .i64 0, .int .i64 0, .bool false]] W fun e w' => e = .returned (.bool (sameZ (restT x) typZ)) ∧ Below W.heap.size W w' := fun W => by
  rw [hrt]
  exact equalz_any ({ x with kind := 0, name := [], mems := [], opn := true } : Typ) typZ A1 none c1 0 W
 have hok : okT x = (nameB x.name && membersB x) := by unfold okT; simp [h]
 rw [hok] at hf
 have HC := Lib.hid hc
 have HN := Lib.hid (fun W => isname_any x.name W)
 have hm := fun W hW => members_any x (.slice A1 x.syms.length c1) (.slice A2 x.mems.length c2) W hl.2 (ht.on (w' := W) hW)
 simp only [typA, h, hop] at hm
 have HM := Lib.hid hm
 clear hm
 clear hc hok hrt ht
 simp only [typA, h, hop]
 clear hop
 go_enter Try.func67, Try.ntmps67
 go_upto_region 1 with fail
 have hb323 := below_al (Below.refl w.heap.size w) (Nat.le_refl _) (.cells #[.int .i64 5, .string ⟨x.name.toArray⟩, .int .i64 x.low, .int .i64 x.high, .int .i64 x.max, .slice A1 x.syms.length c1, .slice A2 x.mems.length c2, .int .i64 x.key, .int .i64 x.elem, .bool true] 67)
 have T := Has.made w 67 #[.int .i64 5, .string ⟨x.name.toArray⟩, .int .i64 x.low, .int .i64 x.high, .int .i64 x.max, .slice A1 x.syms.length c1, .slice A2 x.mems.length c2, .int .i64 x.key, .int .i64 x.elem, .bool true]
 have hw324 := hb323
 replace T := Lib.hid T
 clear hb323
 generalize (w.alloc (.cells #[.int .i64 5, .string ⟨x.name.toArray⟩, .int .i64 x.low, .int .i64 x.high, .int .i64 x.max, .slice A1 x.syms.length c1, .slice A2 x.mems.length c2, .int .i64 x.key, .int .i64 x.elem, .bool true] 67)) = wd325 at *
 obtain ⟨cT_0, cT_1, cT_2, cT_3, cT_4, cT_5, cT_6, cT_7, cT_8, cT_9⟩ := T.out.c10
 go_upto_region 2 with fail
 clear cT_0 cT_1 cT_2 cT_3 cT_4 cT_5 cT_6 cT_7 cT_8 cT_9
 have hb326 := below_al (Below.refl wd325.heap.size wd325) (Nat.le_refl _) (.cells #[.int .i64 5, .string ⟨x.name.toArray⟩, .int .i64 x.low, .int .i64 x.high, .int .i64 x.max, .slice A1 x.syms.length c1, .slice A2 x.mems.length c2, .int .i64 x.key, .int .i64 x.elem, .bool true] 67)
 have R := Has.made wd325 67 #[.int .i64 5, .string ⟨x.name.toArray⟩, .int .i64 x.low, .int .i64 x.high, .int .i64 x.max, .slice A1 x.syms.length c1, .slice A2 x.mems.length c2, .int .i64 x.key, .int .i64 x.elem, .bool true]
 have hl328 := T.out.here
 have hl329 := hw324.size
 replace T := Lib.hid (T.out.below hb326 T.out.here)
 replace hw324 := hw324.trans (hb326.mono hw324.size)
 replace R := Lib.hid R
 clear hb326
 generalize (wd325.alloc (.cells #[.int .i64 5, .string ⟨x.name.toArray⟩, .int .i64 x.low, .int .i64 x.high, .int .i64 x.max, .slice A1 x.syms.length c1, .slice A2 x.mems.length c2, .int .i64 x.key, .int .i64 x.elem, .bool true] 67)) = wd330 at *
 generalize wd325.heap.size = g327 at *
 have cR_0 : wd330.cell? ⟨g327, 0, none⟩ = some (.int .i64 5) := R.out.cell 0
 have fR_0 := R.out.free 0
 go_upto_region 3 with fail
 clear cR_0 fR_0
 replace T := Lib.hid (T.out.far (p := ⟨g327, 0, none⟩) (show w.heap.size ≠ g327 by omega) (.int .i64 0))
 replace R : Hid (Has (wd330.setCell ⟨g327, 0, none⟩ (.int .i64 0)) (g327) 67 #[.int .i64 0, .string ⟨x.name.toArray⟩, .int .i64 x.low, .int .i64 x.high, .int .i64 x.max, .slice A1 x.syms.length c1, .slice A2 x.mems.length c2, .int .i64 x.key, .int .i64 x.elem, .bool true]) := Lib.hid (by have h := R.out.set 0 (.int .i64 0); simpa using h)
 replace hw324 := below_set hw324 (show w.heap.size ≤ g327 by omega) 0 (.int .i64 0)
 generalize wd330.setCell ⟨g327, 0, none⟩ (.int .i64 0) = wd331 at *
 obtain ⟨cT_0, cT_1, cT_2, cT_3, cT_4, cT_5, cT_6, cT_7, cT_8, cT_9⟩ := T.out.c10
 go_wp2_with fail
 clear cT_0 cT_1 cT_2 cT_3 cT_4 cT_5 cT_6 cT_7 cT_8 cT_9
 ((with_reducible refine (HN.out _).mono ?_); rintro e wd332 ⟨rfl, rfl⟩)
 cases hn : nameB x.name with
 | false =>
  have Hf : Hid (formB x = false) := by show _ = _; rw [hf, hn]; rfl
  clear hf h
  have cT_0 : wd331.cell? ⟨w.heap.size, 0, none⟩ = some (.int .i64 5) := T.out.cell 0
  have cT_9 : wd331.cell? ⟨w.heap.size, 9, none⟩ = some (.bool true) := T.out.cell 9
  have cR_1 : wd331.cell? ⟨g327, 1, none⟩ = some (.string ⟨x.name.toArray⟩) := R.out.cell 1
  have cR_6 : wd331.cell? ⟨g327, 6, none⟩ = some (.slice A2 x.mems.length c2) := R.out.cell 6
  have fR_1 := R.out.free 1
  have fR_6 := R.out.free 6
  go_upto_region 20 with fail
  clear cT_0 cT_9 cR_1 cR_6 fR_1 fR_6
  replace T := Lib.hid (T.out.far (p := ⟨g327, 1, none⟩) (show w.heap.size ≠ g327 by omega) (.string ⟨#[]⟩))
  replace R : Hid (Has (wd331.setCell ⟨g327, 1, none⟩ (.string ⟨#[]⟩)) (g327) 67 #[.int .i64 0, .string ⟨#[]⟩, .int .i64 x.low, .int .i64 x.high, .int .i64 x.max, .slice A1 x.syms.length c1, .slice A2 x.mems.length c2, .int .i64 x.key, .int .i64 x.elem, .bool true]) := Lib.hid (by have h := R.out.set 1 (.string ⟨#[]⟩); simpa using h)
  replace hw324 := below_set hw324 (show w.heap.size ≤ g327 by omega) 1 (.string ⟨#[]⟩)
  generalize wd331.setCell ⟨g327, 1, none⟩ (.string ⟨#[]⟩) = wd334 at *
  replace T := Lib.hid (T.out.far (p := ⟨g327, 6, none⟩) (show w.heap.size ≠ g327 by omega) (.slice none 0 0))
  replace R : Hid (Has (wd334.setCell ⟨g327, 6, none⟩ (.slice none 0 0)) (g327) 67 #[.int .i64 0, .string ⟨#[]⟩, .int .i64 x.low, .int .i64 x.high, .int .i64 x.max, .slice A1 x.syms.length c1, .slice none 0 0, .int .i64 x.key, .int .i64 x.elem, .bool true]) := Lib.hid (by have h := R.out.set 6 (.slice none 0 0); simpa using h)
  replace hw324 := below_set hw324 (show w.heap.size ≤ g327 by omega) 6 (.slice none 0 0)
  generalize wd334.setCell ⟨g327, 6, none⟩ (.slice none 0 0) = wd335 at *
  have cT_0 : wd335.cell? ⟨w.heap.size, 0, none⟩ = some (.int .i64 5) := T.out.cell 0
  have cT_9 : wd335.cell? ⟨w.heap.size, 9, none⟩ = some (.bool true) := T.out.cell 9
  have cR_9 : wd335.cell? ⟨g327, 9, none⟩ = some (.bool true) := R.out.cell 9
  have fR_9 := R.out.free 9
  go_upto_region 29 with fail
  clear cT_0 cT_9 cR_9 fR_9
  replace T := Lib.hid (T.out.far (p := ⟨g327, 9, none⟩) (show w.heap.size ≠ g327 by omega) (.bool true))
  replace R : Hid (Has (wd335.setCell ⟨g327, 9, none⟩ (.bool true)) (g327) 67 #[.int .i64 0, .string ⟨#[]⟩, .int .i64 x.low, .int .i64 x.high, .int .i64 x.max, .slice A1 x.syms.length c1, .slice none 0 0, .int .i64 x.key, .int .i64 x.elem, .bool true]) := Lib.hid (by have h := R.out.set 9 (.bool true); simpa using h)
  replace hw324 := below_set hw324 (show w.heap.size ≤ g327 by omega) 9 (.bool true)
  generalize wd335.setCell ⟨g327, 9, none⟩ (.bool true) = wd336 at *
  obtain ⟨cR_0, cR_1, cR_2, cR_3, cR_4, cR_5, cR_6, cR_7, cR_8, cR_9⟩ := R.out.c10
  go_wp2_with fail
  go_ret
  exact ⟨ret_bool Hf.out.symm, hw324⟩
 | true =>
  obtain ⟨cT_0, cT_1, cT_2, cT_3, cT_4, cT_5, cT_6, cT_7, cT_8, cT_9⟩ := T.out.c10
  go_wp2_with fail
  clear cT_0 cT_1 cT_2 cT_3 cT_4 cT_5 cT_6 cT_7 cT_8 cT_9
  ((with_reducible refine (HM.out _ (hw324)).mono ?_); rintro e wd337 ⟨rfl, hb338⟩)
  replace T := Lib.hid (T.out.below hb338 T.out.here)
  replace R := Lib.hid (R.out.below hb338 R.out.here)
  replace hw324 := hw324.trans (hb338.mono hw324.size)
  clear hb338
  cases hs : membersB x with
  | false =>
   have Hf : Hid (formB x = false) := by show _ = _; rw [hf, hn, hs]; rfl
   clear hf h
   have cT_0 : wd337.cell? ⟨w.heap.size, 0, none⟩ = some (.int .i64 5) := T.out.cell 0
   have cT_9 : wd337.cell? ⟨w.heap.size, 9, none⟩ = some (.bool true) := T.out.cell 9
   have cR_1 : wd337.cell? ⟨g327, 1, none⟩ = some (.string ⟨x.name.toArray⟩) := R.out.cell 1
   have cR_6 : wd337.cell? ⟨g327, 6, none⟩ = some (.slice A2 x.mems.length c2) := R.out.cell 6
   have fR_1 := R.out.free 1
   have fR_6 := R.out.free 6
   go_upto_region 20 with fail
   clear cT_0 cT_9 cR_1 cR_6 fR_1 fR_6
   replace T := Lib.hid (T.out.far (p := ⟨g327, 1, none⟩) (show w.heap.size ≠ g327 by omega) (.string ⟨#[]⟩))
   replace R : Hid (Has (wd337.setCell ⟨g327, 1, none⟩ (.string ⟨#[]⟩)) (g327) 67 #[.int .i64 0, .string ⟨#[]⟩, .int .i64 x.low, .int .i64 x.high, .int .i64 x.max, .slice A1 x.syms.length c1, .slice A2 x.mems.length c2, .int .i64 x.key, .int .i64 x.elem, .bool true]) := Lib.hid (by have h := R.out.set 1 (.string ⟨#[]⟩); simpa using h)
   replace hw324 := below_set hw324 (show w.heap.size ≤ g327 by omega) 1 (.string ⟨#[]⟩)
   generalize wd337.setCell ⟨g327, 1, none⟩ (.string ⟨#[]⟩) = wd339 at *
   replace T := Lib.hid (T.out.far (p := ⟨g327, 6, none⟩) (show w.heap.size ≠ g327 by omega) (.slice none 0 0))
   replace R : Hid (Has (wd339.setCell ⟨g327, 6, none⟩ (.slice none 0 0)) (g327) 67 #[.int .i64 0, .string ⟨#[]⟩, .int .i64 x.low, .int .i64 x.high, .int .i64 x.max, .slice A1 x.syms.length c1, .slice none 0 0, .int .i64 x.key, .int .i64 x.elem, .bool true]) := Lib.hid (by have h := R.out.set 6 (.slice none 0 0); simpa using h)
   replace hw324 := below_set hw324 (show w.heap.size ≤ g327 by omega) 6 (.slice none 0 0)
   generalize wd339.setCell ⟨g327, 6, none⟩ (.slice none 0 0) = wd340 at *
   have cT_0 : wd340.cell? ⟨w.heap.size, 0, none⟩ = some (.int .i64 5) := T.out.cell 0
   have cT_9 : wd340.cell? ⟨w.heap.size, 9, none⟩ = some (.bool true) := T.out.cell 9
   have cR_9 : wd340.cell? ⟨g327, 9, none⟩ = some (.bool true) := R.out.cell 9
   have fR_9 := R.out.free 9
   go_upto_region 29 with fail
   clear cT_0 cT_9 cR_9 fR_9
   replace T := Lib.hid (T.out.far (p := ⟨g327, 9, none⟩) (show w.heap.size ≠ g327 by omega) (.bool true))
   replace R : Hid (Has (wd340.setCell ⟨g327, 9, none⟩ (.bool true)) (g327) 67 #[.int .i64 0, .string ⟨#[]⟩, .int .i64 x.low, .int .i64 x.high, .int .i64 x.max, .slice A1 x.syms.length c1, .slice none 0 0, .int .i64 x.key, .int .i64 x.elem, .bool true]) := Lib.hid (by have h := R.out.set 9 (.bool true); simpa using h)
   replace hw324 := below_set hw324 (show w.heap.size ≤ g327 by omega) 9 (.bool true)
   generalize wd340.setCell ⟨g327, 9, none⟩ (.bool true) = wd341 at *
   obtain ⟨cR_0, cR_1, cR_2, cR_3, cR_4, cR_5, cR_6, cR_7, cR_8, cR_9⟩ := R.out.c10
   go_wp2_with fail
   go_ret
   exact ⟨ret_bool Hf.out.symm, hw324⟩
  | true =>
   have Hf : Hid (formB x = sameZ (restT x) typZ) := by show _ = _; rw [hf, hn, hs]; rfl
   clear hf h
   have cT_0 : wd337.cell? ⟨w.heap.size, 0, none⟩ = some (.int .i64 5) := T.out.cell 0
   have cT_9 : wd337.cell? ⟨w.heap.size, 9, none⟩ = some (.bool true) := T.out.cell 9
   have cR_1 : wd337.cell? ⟨g327, 1, none⟩ = some (.string ⟨x.name.toArray⟩) := R.out.cell 1
   have cR_6 : wd337.cell? ⟨g327, 6, none⟩ = some (.slice A2 x.mems.length c2) := R.out.cell 6
   have fR_1 := R.out.free 1
   have fR_6 := R.out.free 6
   go_upto_region 20 with fail
   clear cT_0 cT_9 cR_1 cR_6 fR_1 fR_6
   replace T := Lib.hid (T.out.far (p := ⟨g327, 1, none⟩) (show w.heap.size ≠ g327 by omega) (.string ⟨#[]⟩))
   replace R : Hid (Has (wd337.setCell ⟨g327, 1, none⟩ (.string ⟨#[]⟩)) (g327) 67 #[.int .i64 0, .string ⟨#[]⟩, .int .i64 x.low, .int .i64 x.high, .int .i64 x.max, .slice A1 x.syms.length c1, .slice A2 x.mems.length c2, .int .i64 x.key, .int .i64 x.elem, .bool true]) := Lib.hid (by have h := R.out.set 1 (.string ⟨#[]⟩); simpa using h)
   replace hw324 := below_set hw324 (show w.heap.size ≤ g327 by omega) 1 (.string ⟨#[]⟩)
   generalize wd337.setCell ⟨g327, 1, none⟩ (.string ⟨#[]⟩) = wd342 at *
   replace T := Lib.hid (T.out.far (p := ⟨g327, 6, none⟩) (show w.heap.size ≠ g327 by omega) (.slice none 0 0))
   replace R : Hid (Has (wd342.setCell ⟨g327, 6, none⟩ (.slice none 0 0)) (g327) 67 #[.int .i64 0, .string ⟨#[]⟩, .int .i64 x.low, .int .i64 x.high, .int .i64 x.max, .slice A1 x.syms.length c1, .slice none 0 0, .int .i64 x.key, .int .i64 x.elem, .bool true]) := Lib.hid (by have h := R.out.set 6 (.slice none 0 0); simpa using h)
   replace hw324 := below_set hw324 (show w.heap.size ≤ g327 by omega) 6 (.slice none 0 0)
   generalize wd342.setCell ⟨g327, 6, none⟩ (.slice none 0 0) = wd343 at *
   have cT_0 : wd343.cell? ⟨w.heap.size, 0, none⟩ = some (.int .i64 5) := T.out.cell 0
   have cT_9 : wd343.cell? ⟨w.heap.size, 9, none⟩ = some (.bool true) := T.out.cell 9
   have cR_9 : wd343.cell? ⟨g327, 9, none⟩ = some (.bool true) := R.out.cell 9
   have fR_9 := R.out.free 9
   go_upto_region 29 with fail
   clear cT_0 cT_9 cR_9 fR_9
   replace T := Lib.hid (T.out.far (p := ⟨g327, 9, none⟩) (show w.heap.size ≠ g327 by omega) (.bool true))
   replace R : Hid (Has (wd343.setCell ⟨g327, 9, none⟩ (.bool true)) (g327) 67 #[.int .i64 0, .string ⟨#[]⟩, .int .i64 x.low, .int .i64 x.high, .int .i64 x.max, .slice A1 x.syms.length c1, .slice none 0 0, .int .i64 x.key, .int .i64 x.elem, .bool true]) := Lib.hid (by have h := R.out.set 9 (.bool true); simpa using h)
   replace hw324 := below_set hw324 (show w.heap.size ≤ g327 by omega) 9 (.bool true)
   generalize wd343.setCell ⟨g327, 9, none⟩ (.bool true) = wd344 at *
   obtain ⟨cR_0, cR_1, cR_2, cR_3, cR_4, cR_5, cR_6, cR_7, cR_8, cR_9⟩ := R.out.c10
   go_wp2_with fail
   clear cR_0 cR_1 cR_2 cR_3 cR_4 cR_5 cR_6 cR_7 cR_8 cR_9
   ((with_reducible refine (HC.out _).mono ?_); rintro e wd345 ⟨rfl, hb346⟩)
   replace T := Lib.hid (T.out.below hb346 T.out.here)
   replace R := Lib.hid (R.out.below hb346 R.out.here)
   replace hw324 := hw324.trans (hb346.mono hw324.size)
   clear hb346
   go_wp2_with fail
   go_ret
   exact ⟨ret_bool Hf.out.symm, hw324⟩
set_option maxRecDepth 100000 in
set_option maxHeartbeats 4000000 in
theorem form5false_any (x : Typ) (A1 A2 : Option Addr) (c1 c2 : Nat) (w : World) (h : x.kind = 5) (hop : x.opn = false) (hl : x.syms.length ≤ 6000000000000 ∧ x.mems.length ≤ 6000000000000) (ht : TypAt w w.heap.size x (.slice A1 x.syms.length c1) (.slice A2 x.mems.length c2)) :
  Calls Try.prog 67 #[typA x (.slice A1 x.syms.length c1) (.slice A2 x.mems.length c2)] w fun e w' => e = .returned (.bool (formB x)) ∧ Below w.heap.size w w' := by
 have hrt : restT x = { x with kind := 0, name := [], mems := [], opn := false } := by unfold restT; simp [h, hop]
 have hf := form_of x (by rw [h]; unfold KindIn; omega)
 have hc : ∀ W, Calls Try.prog 93 #[.agg #[.int .i64 0, .string ⟨#[]⟩, .int .i64 x.low, .int .i64 x.high, .int .i64 x.max, .slice A1 x.syms.length c1, .slice none 0 0, .int .i64 x.key, .int .i64 x.elem, .bool false], .agg #[.int .i64 0, .string ⟨#[]⟩, .int .i64 0, .int .i64 0, .int .i64 0, .slice none 0 0, .slice none 0 0, .int .i64 0, .int .i64 0, .bool false]] W fun e w' => e = .returned (.bool (sameZ (restT x) typZ)) ∧ Below W.heap.size W w' := fun W => by
  rw [hrt]
  exact equalz_any ({ x with kind := 0, name := [], mems := [], opn := false } : Typ) typZ A1 none c1 0 W
 have hok : okT x = (nameB x.name && membersB x) := by unfold okT; simp [h]
 rw [hok] at hf
 have HC := Lib.hid hc
 have HN := Lib.hid (fun W => isname_any x.name W)
 have hm := fun W hW => members_any x (.slice A1 x.syms.length c1) (.slice A2 x.mems.length c2) W hl.2 (ht.on (w' := W) hW)
 simp only [typA, h, hop] at hm
 have HM := Lib.hid hm
 clear hm
 clear hc hok hrt ht
 simp only [typA, h, hop]
 clear hop
 go_enter Try.func67, Try.ntmps67
 go_upto_region 1 with fail
 have hb347 := below_al (Below.refl w.heap.size w) (Nat.le_refl _) (.cells #[.int .i64 5, .string ⟨x.name.toArray⟩, .int .i64 x.low, .int .i64 x.high, .int .i64 x.max, .slice A1 x.syms.length c1, .slice A2 x.mems.length c2, .int .i64 x.key, .int .i64 x.elem, .bool false] 67)
 have T := Has.made w 67 #[.int .i64 5, .string ⟨x.name.toArray⟩, .int .i64 x.low, .int .i64 x.high, .int .i64 x.max, .slice A1 x.syms.length c1, .slice A2 x.mems.length c2, .int .i64 x.key, .int .i64 x.elem, .bool false]
 have hw348 := hb347
 replace T := Lib.hid T
 clear hb347
 generalize (w.alloc (.cells #[.int .i64 5, .string ⟨x.name.toArray⟩, .int .i64 x.low, .int .i64 x.high, .int .i64 x.max, .slice A1 x.syms.length c1, .slice A2 x.mems.length c2, .int .i64 x.key, .int .i64 x.elem, .bool false] 67)) = wd349 at *
 obtain ⟨cT_0, cT_1, cT_2, cT_3, cT_4, cT_5, cT_6, cT_7, cT_8, cT_9⟩ := T.out.c10
 go_upto_region 2 with fail
 clear cT_0 cT_1 cT_2 cT_3 cT_4 cT_5 cT_6 cT_7 cT_8 cT_9
 have hb350 := below_al (Below.refl wd349.heap.size wd349) (Nat.le_refl _) (.cells #[.int .i64 5, .string ⟨x.name.toArray⟩, .int .i64 x.low, .int .i64 x.high, .int .i64 x.max, .slice A1 x.syms.length c1, .slice A2 x.mems.length c2, .int .i64 x.key, .int .i64 x.elem, .bool false] 67)
 have R := Has.made wd349 67 #[.int .i64 5, .string ⟨x.name.toArray⟩, .int .i64 x.low, .int .i64 x.high, .int .i64 x.max, .slice A1 x.syms.length c1, .slice A2 x.mems.length c2, .int .i64 x.key, .int .i64 x.elem, .bool false]
 have hl352 := T.out.here
 have hl353 := hw348.size
 replace T := Lib.hid (T.out.below hb350 T.out.here)
 replace hw348 := hw348.trans (hb350.mono hw348.size)
 replace R := Lib.hid R
 clear hb350
 generalize (wd349.alloc (.cells #[.int .i64 5, .string ⟨x.name.toArray⟩, .int .i64 x.low, .int .i64 x.high, .int .i64 x.max, .slice A1 x.syms.length c1, .slice A2 x.mems.length c2, .int .i64 x.key, .int .i64 x.elem, .bool false] 67)) = wd354 at *
 generalize wd349.heap.size = g351 at *
 have cR_0 : wd354.cell? ⟨g351, 0, none⟩ = some (.int .i64 5) := R.out.cell 0
 have fR_0 := R.out.free 0
 go_upto_region 3 with fail
 clear cR_0 fR_0
 replace T := Lib.hid (T.out.far (p := ⟨g351, 0, none⟩) (show w.heap.size ≠ g351 by omega) (.int .i64 0))
 replace R : Hid (Has (wd354.setCell ⟨g351, 0, none⟩ (.int .i64 0)) (g351) 67 #[.int .i64 0, .string ⟨x.name.toArray⟩, .int .i64 x.low, .int .i64 x.high, .int .i64 x.max, .slice A1 x.syms.length c1, .slice A2 x.mems.length c2, .int .i64 x.key, .int .i64 x.elem, .bool false]) := Lib.hid (by have h := R.out.set 0 (.int .i64 0); simpa using h)
 replace hw348 := below_set hw348 (show w.heap.size ≤ g351 by omega) 0 (.int .i64 0)
 generalize wd354.setCell ⟨g351, 0, none⟩ (.int .i64 0) = wd355 at *
 obtain ⟨cT_0, cT_1, cT_2, cT_3, cT_4, cT_5, cT_6, cT_7, cT_8, cT_9⟩ := T.out.c10
 go_wp2_with fail
 clear cT_0 cT_1 cT_2 cT_3 cT_4 cT_5 cT_6 cT_7 cT_8 cT_9
 ((with_reducible refine (HN.out _).mono ?_); rintro e wd356 ⟨rfl, rfl⟩)
 cases hn : nameB x.name with
 | false =>
  have Hf : Hid (formB x = false) := by show _ = _; rw [hf, hn]; rfl
  clear hf h
  have cT_0 : wd355.cell? ⟨w.heap.size, 0, none⟩ = some (.int .i64 5) := T.out.cell 0
  have cT_9 : wd355.cell? ⟨w.heap.size, 9, none⟩ = some (.bool false) := T.out.cell 9
  have cR_1 : wd355.cell? ⟨g351, 1, none⟩ = some (.string ⟨x.name.toArray⟩) := R.out.cell 1
  have cR_6 : wd355.cell? ⟨g351, 6, none⟩ = some (.slice A2 x.mems.length c2) := R.out.cell 6
  have fR_1 := R.out.free 1
  have fR_6 := R.out.free 6
  go_upto_region 20 with fail
  clear cT_0 cT_9 cR_1 cR_6 fR_1 fR_6
  replace T := Lib.hid (T.out.far (p := ⟨g351, 1, none⟩) (show w.heap.size ≠ g351 by omega) (.string ⟨#[]⟩))
  replace R : Hid (Has (wd355.setCell ⟨g351, 1, none⟩ (.string ⟨#[]⟩)) (g351) 67 #[.int .i64 0, .string ⟨#[]⟩, .int .i64 x.low, .int .i64 x.high, .int .i64 x.max, .slice A1 x.syms.length c1, .slice A2 x.mems.length c2, .int .i64 x.key, .int .i64 x.elem, .bool false]) := Lib.hid (by have h := R.out.set 1 (.string ⟨#[]⟩); simpa using h)
  replace hw348 := below_set hw348 (show w.heap.size ≤ g351 by omega) 1 (.string ⟨#[]⟩)
  generalize wd355.setCell ⟨g351, 1, none⟩ (.string ⟨#[]⟩) = wd358 at *
  replace T := Lib.hid (T.out.far (p := ⟨g351, 6, none⟩) (show w.heap.size ≠ g351 by omega) (.slice none 0 0))
  replace R : Hid (Has (wd358.setCell ⟨g351, 6, none⟩ (.slice none 0 0)) (g351) 67 #[.int .i64 0, .string ⟨#[]⟩, .int .i64 x.low, .int .i64 x.high, .int .i64 x.max, .slice A1 x.syms.length c1, .slice none 0 0, .int .i64 x.key, .int .i64 x.elem, .bool false]) := Lib.hid (by have h := R.out.set 6 (.slice none 0 0); simpa using h)
  replace hw348 := below_set hw348 (show w.heap.size ≤ g351 by omega) 6 (.slice none 0 0)
  generalize wd358.setCell ⟨g351, 6, none⟩ (.slice none 0 0) = wd359 at *
  have cT_0 : wd359.cell? ⟨w.heap.size, 0, none⟩ = some (.int .i64 5) := T.out.cell 0
  have cT_9 : wd359.cell? ⟨w.heap.size, 9, none⟩ = some (.bool false) := T.out.cell 9
  have cR_9 : wd359.cell? ⟨g351, 9, none⟩ = some (.bool false) := R.out.cell 9
  have fR_9 := R.out.free 9
  go_upto_region 29 with fail
  clear cT_0 cT_9 cR_9 fR_9
  replace T := Lib.hid (T.out.far (p := ⟨g351, 9, none⟩) (show w.heap.size ≠ g351 by omega) (.bool false))
  replace R : Hid (Has (wd359.setCell ⟨g351, 9, none⟩ (.bool false)) (g351) 67 #[.int .i64 0, .string ⟨#[]⟩, .int .i64 x.low, .int .i64 x.high, .int .i64 x.max, .slice A1 x.syms.length c1, .slice none 0 0, .int .i64 x.key, .int .i64 x.elem, .bool false]) := Lib.hid (by have h := R.out.set 9 (.bool false); simpa using h)
  replace hw348 := below_set hw348 (show w.heap.size ≤ g351 by omega) 9 (.bool false)
  generalize wd359.setCell ⟨g351, 9, none⟩ (.bool false) = wd360 at *
  obtain ⟨cR_0, cR_1, cR_2, cR_3, cR_4, cR_5, cR_6, cR_7, cR_8, cR_9⟩ := R.out.c10
  go_wp2_with fail
  go_ret
  exact ⟨ret_bool Hf.out.symm, hw348⟩
 | true =>
  obtain ⟨cT_0, cT_1, cT_2, cT_3, cT_4, cT_5, cT_6, cT_7, cT_8, cT_9⟩ := T.out.c10
  go_wp2_with fail
  clear cT_0 cT_1 cT_2 cT_3 cT_4 cT_5 cT_6 cT_7 cT_8 cT_9
  ((with_reducible refine (HM.out _ (hw348)).mono ?_); rintro e wd361 ⟨rfl, hb362⟩)
  replace T := Lib.hid (T.out.below hb362 T.out.here)
  replace R := Lib.hid (R.out.below hb362 R.out.here)
  replace hw348 := hw348.trans (hb362.mono hw348.size)
  clear hb362
  cases hs : membersB x with
  | false =>
   have Hf : Hid (formB x = false) := by show _ = _; rw [hf, hn, hs]; rfl
   clear hf h
   have cT_0 : wd361.cell? ⟨w.heap.size, 0, none⟩ = some (.int .i64 5) := T.out.cell 0
   have cT_9 : wd361.cell? ⟨w.heap.size, 9, none⟩ = some (.bool false) := T.out.cell 9
   have cR_1 : wd361.cell? ⟨g351, 1, none⟩ = some (.string ⟨x.name.toArray⟩) := R.out.cell 1
   have cR_6 : wd361.cell? ⟨g351, 6, none⟩ = some (.slice A2 x.mems.length c2) := R.out.cell 6
   have fR_1 := R.out.free 1
   have fR_6 := R.out.free 6
   go_upto_region 20 with fail
   clear cT_0 cT_9 cR_1 cR_6 fR_1 fR_6
   replace T := Lib.hid (T.out.far (p := ⟨g351, 1, none⟩) (show w.heap.size ≠ g351 by omega) (.string ⟨#[]⟩))
   replace R : Hid (Has (wd361.setCell ⟨g351, 1, none⟩ (.string ⟨#[]⟩)) (g351) 67 #[.int .i64 0, .string ⟨#[]⟩, .int .i64 x.low, .int .i64 x.high, .int .i64 x.max, .slice A1 x.syms.length c1, .slice A2 x.mems.length c2, .int .i64 x.key, .int .i64 x.elem, .bool false]) := Lib.hid (by have h := R.out.set 1 (.string ⟨#[]⟩); simpa using h)
   replace hw348 := below_set hw348 (show w.heap.size ≤ g351 by omega) 1 (.string ⟨#[]⟩)
   generalize wd361.setCell ⟨g351, 1, none⟩ (.string ⟨#[]⟩) = wd363 at *
   replace T := Lib.hid (T.out.far (p := ⟨g351, 6, none⟩) (show w.heap.size ≠ g351 by omega) (.slice none 0 0))
   replace R : Hid (Has (wd363.setCell ⟨g351, 6, none⟩ (.slice none 0 0)) (g351) 67 #[.int .i64 0, .string ⟨#[]⟩, .int .i64 x.low, .int .i64 x.high, .int .i64 x.max, .slice A1 x.syms.length c1, .slice none 0 0, .int .i64 x.key, .int .i64 x.elem, .bool false]) := Lib.hid (by have h := R.out.set 6 (.slice none 0 0); simpa using h)
   replace hw348 := below_set hw348 (show w.heap.size ≤ g351 by omega) 6 (.slice none 0 0)
   generalize wd363.setCell ⟨g351, 6, none⟩ (.slice none 0 0) = wd364 at *
   have cT_0 : wd364.cell? ⟨w.heap.size, 0, none⟩ = some (.int .i64 5) := T.out.cell 0
   have cT_9 : wd364.cell? ⟨w.heap.size, 9, none⟩ = some (.bool false) := T.out.cell 9
   have cR_9 : wd364.cell? ⟨g351, 9, none⟩ = some (.bool false) := R.out.cell 9
   have fR_9 := R.out.free 9
   go_upto_region 29 with fail
   clear cT_0 cT_9 cR_9 fR_9
   replace T := Lib.hid (T.out.far (p := ⟨g351, 9, none⟩) (show w.heap.size ≠ g351 by omega) (.bool false))
   replace R : Hid (Has (wd364.setCell ⟨g351, 9, none⟩ (.bool false)) (g351) 67 #[.int .i64 0, .string ⟨#[]⟩, .int .i64 x.low, .int .i64 x.high, .int .i64 x.max, .slice A1 x.syms.length c1, .slice none 0 0, .int .i64 x.key, .int .i64 x.elem, .bool false]) := Lib.hid (by have h := R.out.set 9 (.bool false); simpa using h)
   replace hw348 := below_set hw348 (show w.heap.size ≤ g351 by omega) 9 (.bool false)
   generalize wd364.setCell ⟨g351, 9, none⟩ (.bool false) = wd365 at *
   obtain ⟨cR_0, cR_1, cR_2, cR_3, cR_4, cR_5, cR_6, cR_7, cR_8, cR_9⟩ := R.out.c10
   go_wp2_with fail
   go_ret
   exact ⟨ret_bool Hf.out.symm, hw348⟩
  | true =>
   have Hf : Hid (formB x = sameZ (restT x) typZ) := by show _ = _; rw [hf, hn, hs]; rfl
   clear hf h
   have cT_0 : wd361.cell? ⟨w.heap.size, 0, none⟩ = some (.int .i64 5) := T.out.cell 0
   have cT_9 : wd361.cell? ⟨w.heap.size, 9, none⟩ = some (.bool false) := T.out.cell 9
   have cR_1 : wd361.cell? ⟨g351, 1, none⟩ = some (.string ⟨x.name.toArray⟩) := R.out.cell 1
   have cR_6 : wd361.cell? ⟨g351, 6, none⟩ = some (.slice A2 x.mems.length c2) := R.out.cell 6
   have fR_1 := R.out.free 1
   have fR_6 := R.out.free 6
   go_upto_region 20 with fail
   clear cT_0 cT_9 cR_1 cR_6 fR_1 fR_6
   replace T := Lib.hid (T.out.far (p := ⟨g351, 1, none⟩) (show w.heap.size ≠ g351 by omega) (.string ⟨#[]⟩))
   replace R : Hid (Has (wd361.setCell ⟨g351, 1, none⟩ (.string ⟨#[]⟩)) (g351) 67 #[.int .i64 0, .string ⟨#[]⟩, .int .i64 x.low, .int .i64 x.high, .int .i64 x.max, .slice A1 x.syms.length c1, .slice A2 x.mems.length c2, .int .i64 x.key, .int .i64 x.elem, .bool false]) := Lib.hid (by have h := R.out.set 1 (.string ⟨#[]⟩); simpa using h)
   replace hw348 := below_set hw348 (show w.heap.size ≤ g351 by omega) 1 (.string ⟨#[]⟩)
   generalize wd361.setCell ⟨g351, 1, none⟩ (.string ⟨#[]⟩) = wd366 at *
   replace T := Lib.hid (T.out.far (p := ⟨g351, 6, none⟩) (show w.heap.size ≠ g351 by omega) (.slice none 0 0))
   replace R : Hid (Has (wd366.setCell ⟨g351, 6, none⟩ (.slice none 0 0)) (g351) 67 #[.int .i64 0, .string ⟨#[]⟩, .int .i64 x.low, .int .i64 x.high, .int .i64 x.max, .slice A1 x.syms.length c1, .slice none 0 0, .int .i64 x.key, .int .i64 x.elem, .bool false]) := Lib.hid (by have h := R.out.set 6 (.slice none 0 0); simpa using h)
   replace hw348 := below_set hw348 (show w.heap.size ≤ g351 by omega) 6 (.slice none 0 0)
   generalize wd366.setCell ⟨g351, 6, none⟩ (.slice none 0 0) = wd367 at *
   have cT_0 : wd367.cell? ⟨w.heap.size, 0, none⟩ = some (.int .i64 5) := T.out.cell 0
   have cT_9 : wd367.cell? ⟨w.heap.size, 9, none⟩ = some (.bool false) := T.out.cell 9
   have cR_9 : wd367.cell? ⟨g351, 9, none⟩ = some (.bool false) := R.out.cell 9
   have fR_9 := R.out.free 9
   go_upto_region 29 with fail
   clear cT_0 cT_9 cR_9 fR_9
   replace T := Lib.hid (T.out.far (p := ⟨g351, 9, none⟩) (show w.heap.size ≠ g351 by omega) (.bool false))
   replace R : Hid (Has (wd367.setCell ⟨g351, 9, none⟩ (.bool false)) (g351) 67 #[.int .i64 0, .string ⟨#[]⟩, .int .i64 x.low, .int .i64 x.high, .int .i64 x.max, .slice A1 x.syms.length c1, .slice none 0 0, .int .i64 x.key, .int .i64 x.elem, .bool false]) := Lib.hid (by have h := R.out.set 9 (.bool false); simpa using h)
   replace hw348 := below_set hw348 (show w.heap.size ≤ g351 by omega) 9 (.bool false)
   generalize wd367.setCell ⟨g351, 9, none⟩ (.bool false) = wd368 at *
   obtain ⟨cR_0, cR_1, cR_2, cR_3, cR_4, cR_5, cR_6, cR_7, cR_8, cR_9⟩ := R.out.c10
   go_wp2_with fail
   clear cR_0 cR_1 cR_2 cR_3 cR_4 cR_5 cR_6 cR_7 cR_8 cR_9
   ((with_reducible refine (HC.out _).mono ?_); rintro e wd369 ⟨rfl, hb370⟩)
   replace T := Lib.hid (T.out.below hb370 T.out.here)
   replace R := Lib.hid (R.out.below hb370 R.out.here)
   replace hw348 := hw348.trans (hb370.mono hw348.size)
   clear hb370
   go_wp2_with fail
   go_ret
   exact ⟨ret_bool Hf.out.symm, hw348⟩
set_option maxRecDepth 100000 in
set_option maxHeartbeats 4000000 in
theorem form6true_any (x : Typ) (A1 A2 : Option Addr) (c1 c2 : Nat) (w : World) (h : x.kind = 6) (hop : x.opn = true) (hl : x.syms.length ≤ 6000000000000 ∧ x.mems.length ≤ 6000000000000) (ht : TypAt w w.heap.size x (.slice A1 x.syms.length c1) (.slice A2 x.mems.length c2)) :
  Calls Try.prog 67 #[typA x (.slice A1 x.syms.length c1) (.slice A2 x.mems.length c2)] w fun e w' => e = .returned (.bool (formB x)) ∧ Below w.heap.size w w' := by
 have hrt : restT x = { x with kind := 0, name := [], mems := [], opn := false } := by unfold restT; simp [h]
 have hf := form_of x (by rw [h]; unfold KindIn; omega)
 have hc : ∀ W, Calls Try.prog 93 #[.agg #[.int .i64 0, .string ⟨#[]⟩, .int .i64 x.low, .int .i64 x.high, .int .i64 x.max, .slice A1 x.syms.length c1, .slice none 0 0, .int .i64 x.key, .int .i64 x.elem, .bool false], .agg #[.int .i64 0, .string ⟨#[]⟩, .int .i64 0, .int .i64 0, .int .i64 0, .slice none 0 0, .slice none 0 0, .int .i64 0, .int .i64 0, .bool false]] W fun e w' => e = .returned (.bool (sameZ (restT x) typZ)) ∧ Below W.heap.size W w' := fun W => by
  rw [hrt]
  exact equalz_any ({ x with kind := 0, name := [], mems := [], opn := false } : Typ) typZ A1 none c1 0 W
 have hok : okT x = (nameB x.name && membersB x) := by unfold okT; simp [h]
 rw [hok] at hf
 have HC := Lib.hid hc
 have HN := Lib.hid (fun W => isname_any x.name W)
 have hm := fun W hW => members_any x (.slice A1 x.syms.length c1) (.slice A2 x.mems.length c2) W hl.2 (ht.on (w' := W) hW)
 simp only [typA, h, hop] at hm
 have HM := Lib.hid hm
 clear hm
 clear hc hok hrt ht
 simp only [typA, h, hop]
 clear hop
 go_enter Try.func67, Try.ntmps67
 go_upto_region 1 with fail
 have hb371 := below_al (Below.refl w.heap.size w) (Nat.le_refl _) (.cells #[.int .i64 6, .string ⟨x.name.toArray⟩, .int .i64 x.low, .int .i64 x.high, .int .i64 x.max, .slice A1 x.syms.length c1, .slice A2 x.mems.length c2, .int .i64 x.key, .int .i64 x.elem, .bool true] 67)
 have T := Has.made w 67 #[.int .i64 6, .string ⟨x.name.toArray⟩, .int .i64 x.low, .int .i64 x.high, .int .i64 x.max, .slice A1 x.syms.length c1, .slice A2 x.mems.length c2, .int .i64 x.key, .int .i64 x.elem, .bool true]
 have hw372 := hb371
 replace T := Lib.hid T
 clear hb371
 generalize (w.alloc (.cells #[.int .i64 6, .string ⟨x.name.toArray⟩, .int .i64 x.low, .int .i64 x.high, .int .i64 x.max, .slice A1 x.syms.length c1, .slice A2 x.mems.length c2, .int .i64 x.key, .int .i64 x.elem, .bool true] 67)) = wd373 at *
 obtain ⟨cT_0, cT_1, cT_2, cT_3, cT_4, cT_5, cT_6, cT_7, cT_8, cT_9⟩ := T.out.c10
 go_upto_region 2 with fail
 clear cT_0 cT_1 cT_2 cT_3 cT_4 cT_5 cT_6 cT_7 cT_8 cT_9
 have hb374 := below_al (Below.refl wd373.heap.size wd373) (Nat.le_refl _) (.cells #[.int .i64 6, .string ⟨x.name.toArray⟩, .int .i64 x.low, .int .i64 x.high, .int .i64 x.max, .slice A1 x.syms.length c1, .slice A2 x.mems.length c2, .int .i64 x.key, .int .i64 x.elem, .bool true] 67)
 have R := Has.made wd373 67 #[.int .i64 6, .string ⟨x.name.toArray⟩, .int .i64 x.low, .int .i64 x.high, .int .i64 x.max, .slice A1 x.syms.length c1, .slice A2 x.mems.length c2, .int .i64 x.key, .int .i64 x.elem, .bool true]
 have hl376 := T.out.here
 have hl377 := hw372.size
 replace T := Lib.hid (T.out.below hb374 T.out.here)
 replace hw372 := hw372.trans (hb374.mono hw372.size)
 replace R := Lib.hid R
 clear hb374
 generalize (wd373.alloc (.cells #[.int .i64 6, .string ⟨x.name.toArray⟩, .int .i64 x.low, .int .i64 x.high, .int .i64 x.max, .slice A1 x.syms.length c1, .slice A2 x.mems.length c2, .int .i64 x.key, .int .i64 x.elem, .bool true] 67)) = wd378 at *
 generalize wd373.heap.size = g375 at *
 have cR_0 : wd378.cell? ⟨g375, 0, none⟩ = some (.int .i64 6) := R.out.cell 0
 have fR_0 := R.out.free 0
 go_upto_region 3 with fail
 clear cR_0 fR_0
 replace T := Lib.hid (T.out.far (p := ⟨g375, 0, none⟩) (show w.heap.size ≠ g375 by omega) (.int .i64 0))
 replace R : Hid (Has (wd378.setCell ⟨g375, 0, none⟩ (.int .i64 0)) (g375) 67 #[.int .i64 0, .string ⟨x.name.toArray⟩, .int .i64 x.low, .int .i64 x.high, .int .i64 x.max, .slice A1 x.syms.length c1, .slice A2 x.mems.length c2, .int .i64 x.key, .int .i64 x.elem, .bool true]) := Lib.hid (by have h := R.out.set 0 (.int .i64 0); simpa using h)
 replace hw372 := below_set hw372 (show w.heap.size ≤ g375 by omega) 0 (.int .i64 0)
 generalize wd378.setCell ⟨g375, 0, none⟩ (.int .i64 0) = wd379 at *
 obtain ⟨cT_0, cT_1, cT_2, cT_3, cT_4, cT_5, cT_6, cT_7, cT_8, cT_9⟩ := T.out.c10
 go_wp2_with fail
 clear cT_0 cT_1 cT_2 cT_3 cT_4 cT_5 cT_6 cT_7 cT_8 cT_9
 ((with_reducible refine (HN.out _).mono ?_); rintro e wd380 ⟨rfl, rfl⟩)
 cases hn : nameB x.name with
 | false =>
  have Hf : Hid (formB x = false) := by show _ = _; rw [hf, hn]; rfl
  clear hf h
  have cT_0 : wd379.cell? ⟨w.heap.size, 0, none⟩ = some (.int .i64 6) := T.out.cell 0
  have cT_9 : wd379.cell? ⟨w.heap.size, 9, none⟩ = some (.bool true) := T.out.cell 9
  have cR_1 : wd379.cell? ⟨g375, 1, none⟩ = some (.string ⟨x.name.toArray⟩) := R.out.cell 1
  have cR_6 : wd379.cell? ⟨g375, 6, none⟩ = some (.slice A2 x.mems.length c2) := R.out.cell 6
  have fR_1 := R.out.free 1
  have fR_6 := R.out.free 6
  go_upto_region 20 with fail
  clear cT_0 cT_9 cR_1 cR_6 fR_1 fR_6
  replace T := Lib.hid (T.out.far (p := ⟨g375, 1, none⟩) (show w.heap.size ≠ g375 by omega) (.string ⟨#[]⟩))
  replace R : Hid (Has (wd379.setCell ⟨g375, 1, none⟩ (.string ⟨#[]⟩)) (g375) 67 #[.int .i64 0, .string ⟨#[]⟩, .int .i64 x.low, .int .i64 x.high, .int .i64 x.max, .slice A1 x.syms.length c1, .slice A2 x.mems.length c2, .int .i64 x.key, .int .i64 x.elem, .bool true]) := Lib.hid (by have h := R.out.set 1 (.string ⟨#[]⟩); simpa using h)
  replace hw372 := below_set hw372 (show w.heap.size ≤ g375 by omega) 1 (.string ⟨#[]⟩)
  generalize wd379.setCell ⟨g375, 1, none⟩ (.string ⟨#[]⟩) = wd382 at *
  replace T := Lib.hid (T.out.far (p := ⟨g375, 6, none⟩) (show w.heap.size ≠ g375 by omega) (.slice none 0 0))
  replace R : Hid (Has (wd382.setCell ⟨g375, 6, none⟩ (.slice none 0 0)) (g375) 67 #[.int .i64 0, .string ⟨#[]⟩, .int .i64 x.low, .int .i64 x.high, .int .i64 x.max, .slice A1 x.syms.length c1, .slice none 0 0, .int .i64 x.key, .int .i64 x.elem, .bool true]) := Lib.hid (by have h := R.out.set 6 (.slice none 0 0); simpa using h)
  replace hw372 := below_set hw372 (show w.heap.size ≤ g375 by omega) 6 (.slice none 0 0)
  generalize wd382.setCell ⟨g375, 6, none⟩ (.slice none 0 0) = wd383 at *
  have cT_0 : wd383.cell? ⟨w.heap.size, 0, none⟩ = some (.int .i64 6) := T.out.cell 0
  have cT_9 : wd383.cell? ⟨w.heap.size, 9, none⟩ = some (.bool true) := T.out.cell 9
  have cR_9 : wd383.cell? ⟨g375, 9, none⟩ = some (.bool true) := R.out.cell 9
  have fR_9 := R.out.free 9
  go_upto_region 29 with fail
  clear cT_0 cT_9 cR_9 fR_9
  replace T := Lib.hid (T.out.far (p := ⟨g375, 9, none⟩) (show w.heap.size ≠ g375 by omega) (.bool false))
  replace R : Hid (Has (wd383.setCell ⟨g375, 9, none⟩ (.bool false)) (g375) 67 #[.int .i64 0, .string ⟨#[]⟩, .int .i64 x.low, .int .i64 x.high, .int .i64 x.max, .slice A1 x.syms.length c1, .slice none 0 0, .int .i64 x.key, .int .i64 x.elem, .bool false]) := Lib.hid (by have h := R.out.set 9 (.bool false); simpa using h)
  replace hw372 := below_set hw372 (show w.heap.size ≤ g375 by omega) 9 (.bool false)
  generalize wd383.setCell ⟨g375, 9, none⟩ (.bool false) = wd384 at *
  obtain ⟨cR_0, cR_1, cR_2, cR_3, cR_4, cR_5, cR_6, cR_7, cR_8, cR_9⟩ := R.out.c10
  go_wp2_with fail
  go_ret
  exact ⟨ret_bool Hf.out.symm, hw372⟩
 | true =>
  obtain ⟨cT_0, cT_1, cT_2, cT_3, cT_4, cT_5, cT_6, cT_7, cT_8, cT_9⟩ := T.out.c10
  go_wp2_with fail
  clear cT_0 cT_1 cT_2 cT_3 cT_4 cT_5 cT_6 cT_7 cT_8 cT_9
  ((with_reducible refine (HM.out _ (hw372)).mono ?_); rintro e wd385 ⟨rfl, hb386⟩)
  replace T := Lib.hid (T.out.below hb386 T.out.here)
  replace R := Lib.hid (R.out.below hb386 R.out.here)
  replace hw372 := hw372.trans (hb386.mono hw372.size)
  clear hb386
  cases hs : membersB x with
  | false =>
   have Hf : Hid (formB x = false) := by show _ = _; rw [hf, hn, hs]; rfl
   clear hf h
   have cT_0 : wd385.cell? ⟨w.heap.size, 0, none⟩ = some (.int .i64 6) := T.out.cell 0
   have cT_9 : wd385.cell? ⟨w.heap.size, 9, none⟩ = some (.bool true) := T.out.cell 9
   have cR_1 : wd385.cell? ⟨g375, 1, none⟩ = some (.string ⟨x.name.toArray⟩) := R.out.cell 1
   have cR_6 : wd385.cell? ⟨g375, 6, none⟩ = some (.slice A2 x.mems.length c2) := R.out.cell 6
   have fR_1 := R.out.free 1
   have fR_6 := R.out.free 6
   go_upto_region 20 with fail
   clear cT_0 cT_9 cR_1 cR_6 fR_1 fR_6
   replace T := Lib.hid (T.out.far (p := ⟨g375, 1, none⟩) (show w.heap.size ≠ g375 by omega) (.string ⟨#[]⟩))
   replace R : Hid (Has (wd385.setCell ⟨g375, 1, none⟩ (.string ⟨#[]⟩)) (g375) 67 #[.int .i64 0, .string ⟨#[]⟩, .int .i64 x.low, .int .i64 x.high, .int .i64 x.max, .slice A1 x.syms.length c1, .slice A2 x.mems.length c2, .int .i64 x.key, .int .i64 x.elem, .bool true]) := Lib.hid (by have h := R.out.set 1 (.string ⟨#[]⟩); simpa using h)
   replace hw372 := below_set hw372 (show w.heap.size ≤ g375 by omega) 1 (.string ⟨#[]⟩)
   generalize wd385.setCell ⟨g375, 1, none⟩ (.string ⟨#[]⟩) = wd387 at *
   replace T := Lib.hid (T.out.far (p := ⟨g375, 6, none⟩) (show w.heap.size ≠ g375 by omega) (.slice none 0 0))
   replace R : Hid (Has (wd387.setCell ⟨g375, 6, none⟩ (.slice none 0 0)) (g375) 67 #[.int .i64 0, .string ⟨#[]⟩, .int .i64 x.low, .int .i64 x.high, .int .i64 x.max, .slice A1 x.syms.length c1, .slice none 0 0, .int .i64 x.key, .int .i64 x.elem, .bool true]) := Lib.hid (by have h := R.out.set 6 (.slice none 0 0); simpa using h)
   replace hw372 := below_set hw372 (show w.heap.size ≤ g375 by omega) 6 (.slice none 0 0)
   generalize wd387.setCell ⟨g375, 6, none⟩ (.slice none 0 0) = wd388 at *
   have cT_0 : wd388.cell? ⟨w.heap.size, 0, none⟩ = some (.int .i64 6) := T.out.cell 0
   have cT_9 : wd388.cell? ⟨w.heap.size, 9, none⟩ = some (.bool true) := T.out.cell 9
   have cR_9 : wd388.cell? ⟨g375, 9, none⟩ = some (.bool true) := R.out.cell 9
   have fR_9 := R.out.free 9
   go_upto_region 29 with fail
   clear cT_0 cT_9 cR_9 fR_9
   replace T := Lib.hid (T.out.far (p := ⟨g375, 9, none⟩) (show w.heap.size ≠ g375 by omega) (.bool false))
   replace R : Hid (Has (wd388.setCell ⟨g375, 9, none⟩ (.bool false)) (g375) 67 #[.int .i64 0, .string ⟨#[]⟩, .int .i64 x.low, .int .i64 x.high, .int .i64 x.max, .slice A1 x.syms.length c1, .slice none 0 0, .int .i64 x.key, .int .i64 x.elem, .bool false]) := Lib.hid (by have h := R.out.set 9 (.bool false); simpa using h)
   replace hw372 := below_set hw372 (show w.heap.size ≤ g375 by omega) 9 (.bool false)
   generalize wd388.setCell ⟨g375, 9, none⟩ (.bool false) = wd389 at *
   obtain ⟨cR_0, cR_1, cR_2, cR_3, cR_4, cR_5, cR_6, cR_7, cR_8, cR_9⟩ := R.out.c10
   go_wp2_with fail
   go_ret
   exact ⟨ret_bool Hf.out.symm, hw372⟩
  | true =>
   have Hf : Hid (formB x = sameZ (restT x) typZ) := by show _ = _; rw [hf, hn, hs]; rfl
   clear hf h
   have cT_0 : wd385.cell? ⟨w.heap.size, 0, none⟩ = some (.int .i64 6) := T.out.cell 0
   have cT_9 : wd385.cell? ⟨w.heap.size, 9, none⟩ = some (.bool true) := T.out.cell 9
   have cR_1 : wd385.cell? ⟨g375, 1, none⟩ = some (.string ⟨x.name.toArray⟩) := R.out.cell 1
   have cR_6 : wd385.cell? ⟨g375, 6, none⟩ = some (.slice A2 x.mems.length c2) := R.out.cell 6
   have fR_1 := R.out.free 1
   have fR_6 := R.out.free 6
   go_upto_region 20 with fail
   clear cT_0 cT_9 cR_1 cR_6 fR_1 fR_6
   replace T := Lib.hid (T.out.far (p := ⟨g375, 1, none⟩) (show w.heap.size ≠ g375 by omega) (.string ⟨#[]⟩))
   replace R : Hid (Has (wd385.setCell ⟨g375, 1, none⟩ (.string ⟨#[]⟩)) (g375) 67 #[.int .i64 0, .string ⟨#[]⟩, .int .i64 x.low, .int .i64 x.high, .int .i64 x.max, .slice A1 x.syms.length c1, .slice A2 x.mems.length c2, .int .i64 x.key, .int .i64 x.elem, .bool true]) := Lib.hid (by have h := R.out.set 1 (.string ⟨#[]⟩); simpa using h)
   replace hw372 := below_set hw372 (show w.heap.size ≤ g375 by omega) 1 (.string ⟨#[]⟩)
   generalize wd385.setCell ⟨g375, 1, none⟩ (.string ⟨#[]⟩) = wd390 at *
   replace T := Lib.hid (T.out.far (p := ⟨g375, 6, none⟩) (show w.heap.size ≠ g375 by omega) (.slice none 0 0))
   replace R : Hid (Has (wd390.setCell ⟨g375, 6, none⟩ (.slice none 0 0)) (g375) 67 #[.int .i64 0, .string ⟨#[]⟩, .int .i64 x.low, .int .i64 x.high, .int .i64 x.max, .slice A1 x.syms.length c1, .slice none 0 0, .int .i64 x.key, .int .i64 x.elem, .bool true]) := Lib.hid (by have h := R.out.set 6 (.slice none 0 0); simpa using h)
   replace hw372 := below_set hw372 (show w.heap.size ≤ g375 by omega) 6 (.slice none 0 0)
   generalize wd390.setCell ⟨g375, 6, none⟩ (.slice none 0 0) = wd391 at *
   have cT_0 : wd391.cell? ⟨w.heap.size, 0, none⟩ = some (.int .i64 6) := T.out.cell 0
   have cT_9 : wd391.cell? ⟨w.heap.size, 9, none⟩ = some (.bool true) := T.out.cell 9
   have cR_9 : wd391.cell? ⟨g375, 9, none⟩ = some (.bool true) := R.out.cell 9
   have fR_9 := R.out.free 9
   go_upto_region 29 with fail
   clear cT_0 cT_9 cR_9 fR_9
   replace T := Lib.hid (T.out.far (p := ⟨g375, 9, none⟩) (show w.heap.size ≠ g375 by omega) (.bool false))
   replace R : Hid (Has (wd391.setCell ⟨g375, 9, none⟩ (.bool false)) (g375) 67 #[.int .i64 0, .string ⟨#[]⟩, .int .i64 x.low, .int .i64 x.high, .int .i64 x.max, .slice A1 x.syms.length c1, .slice none 0 0, .int .i64 x.key, .int .i64 x.elem, .bool false]) := Lib.hid (by have h := R.out.set 9 (.bool false); simpa using h)
   replace hw372 := below_set hw372 (show w.heap.size ≤ g375 by omega) 9 (.bool false)
   generalize wd391.setCell ⟨g375, 9, none⟩ (.bool false) = wd392 at *
   obtain ⟨cR_0, cR_1, cR_2, cR_3, cR_4, cR_5, cR_6, cR_7, cR_8, cR_9⟩ := R.out.c10
   go_wp2_with fail
   clear cR_0 cR_1 cR_2 cR_3 cR_4 cR_5 cR_6 cR_7 cR_8 cR_9
   ((with_reducible refine (HC.out _).mono ?_); rintro e wd393 ⟨rfl, hb394⟩)
   replace T := Lib.hid (T.out.below hb394 T.out.here)
   replace R := Lib.hid (R.out.below hb394 R.out.here)
   replace hw372 := hw372.trans (hb394.mono hw372.size)
   clear hb394
   go_wp2_with fail
   go_ret
   exact ⟨ret_bool Hf.out.symm, hw372⟩
set_option maxRecDepth 100000 in
set_option maxHeartbeats 4000000 in
theorem form6false_any (x : Typ) (A1 A2 : Option Addr) (c1 c2 : Nat) (w : World) (h : x.kind = 6) (hop : x.opn = false) (hl : x.syms.length ≤ 6000000000000 ∧ x.mems.length ≤ 6000000000000) (ht : TypAt w w.heap.size x (.slice A1 x.syms.length c1) (.slice A2 x.mems.length c2)) :
  Calls Try.prog 67 #[typA x (.slice A1 x.syms.length c1) (.slice A2 x.mems.length c2)] w fun e w' => e = .returned (.bool (formB x)) ∧ Below w.heap.size w w' := by
 have hrt : restT x = { x with kind := 0, name := [], mems := [], opn := false } := by unfold restT; simp [h]
 have hf := form_of x (by rw [h]; unfold KindIn; omega)
 have hc : ∀ W, Calls Try.prog 93 #[.agg #[.int .i64 0, .string ⟨#[]⟩, .int .i64 x.low, .int .i64 x.high, .int .i64 x.max, .slice A1 x.syms.length c1, .slice none 0 0, .int .i64 x.key, .int .i64 x.elem, .bool false], .agg #[.int .i64 0, .string ⟨#[]⟩, .int .i64 0, .int .i64 0, .int .i64 0, .slice none 0 0, .slice none 0 0, .int .i64 0, .int .i64 0, .bool false]] W fun e w' => e = .returned (.bool (sameZ (restT x) typZ)) ∧ Below W.heap.size W w' := fun W => by
  rw [hrt]
  exact equalz_any ({ x with kind := 0, name := [], mems := [], opn := false } : Typ) typZ A1 none c1 0 W
 have hok : okT x = (nameB x.name && membersB x) := by unfold okT; simp [h]
 rw [hok] at hf
 have HC := Lib.hid hc
 have HN := Lib.hid (fun W => isname_any x.name W)
 have hm := fun W hW => members_any x (.slice A1 x.syms.length c1) (.slice A2 x.mems.length c2) W hl.2 (ht.on (w' := W) hW)
 simp only [typA, h, hop] at hm
 have HM := Lib.hid hm
 clear hm
 clear hc hok hrt ht
 simp only [typA, h, hop]
 clear hop
 go_enter Try.func67, Try.ntmps67
 go_upto_region 1 with fail
 have hb395 := below_al (Below.refl w.heap.size w) (Nat.le_refl _) (.cells #[.int .i64 6, .string ⟨x.name.toArray⟩, .int .i64 x.low, .int .i64 x.high, .int .i64 x.max, .slice A1 x.syms.length c1, .slice A2 x.mems.length c2, .int .i64 x.key, .int .i64 x.elem, .bool false] 67)
 have T := Has.made w 67 #[.int .i64 6, .string ⟨x.name.toArray⟩, .int .i64 x.low, .int .i64 x.high, .int .i64 x.max, .slice A1 x.syms.length c1, .slice A2 x.mems.length c2, .int .i64 x.key, .int .i64 x.elem, .bool false]
 have hw396 := hb395
 replace T := Lib.hid T
 clear hb395
 generalize (w.alloc (.cells #[.int .i64 6, .string ⟨x.name.toArray⟩, .int .i64 x.low, .int .i64 x.high, .int .i64 x.max, .slice A1 x.syms.length c1, .slice A2 x.mems.length c2, .int .i64 x.key, .int .i64 x.elem, .bool false] 67)) = wd397 at *
 obtain ⟨cT_0, cT_1, cT_2, cT_3, cT_4, cT_5, cT_6, cT_7, cT_8, cT_9⟩ := T.out.c10
 go_upto_region 2 with fail
 clear cT_0 cT_1 cT_2 cT_3 cT_4 cT_5 cT_6 cT_7 cT_8 cT_9
 have hb398 := below_al (Below.refl wd397.heap.size wd397) (Nat.le_refl _) (.cells #[.int .i64 6, .string ⟨x.name.toArray⟩, .int .i64 x.low, .int .i64 x.high, .int .i64 x.max, .slice A1 x.syms.length c1, .slice A2 x.mems.length c2, .int .i64 x.key, .int .i64 x.elem, .bool false] 67)
 have R := Has.made wd397 67 #[.int .i64 6, .string ⟨x.name.toArray⟩, .int .i64 x.low, .int .i64 x.high, .int .i64 x.max, .slice A1 x.syms.length c1, .slice A2 x.mems.length c2, .int .i64 x.key, .int .i64 x.elem, .bool false]
 have hl400 := T.out.here
 have hl401 := hw396.size
 replace T := Lib.hid (T.out.below hb398 T.out.here)
 replace hw396 := hw396.trans (hb398.mono hw396.size)
 replace R := Lib.hid R
 clear hb398
 generalize (wd397.alloc (.cells #[.int .i64 6, .string ⟨x.name.toArray⟩, .int .i64 x.low, .int .i64 x.high, .int .i64 x.max, .slice A1 x.syms.length c1, .slice A2 x.mems.length c2, .int .i64 x.key, .int .i64 x.elem, .bool false] 67)) = wd402 at *
 generalize wd397.heap.size = g399 at *
 have cR_0 : wd402.cell? ⟨g399, 0, none⟩ = some (.int .i64 6) := R.out.cell 0
 have fR_0 := R.out.free 0
 go_upto_region 3 with fail
 clear cR_0 fR_0
 replace T := Lib.hid (T.out.far (p := ⟨g399, 0, none⟩) (show w.heap.size ≠ g399 by omega) (.int .i64 0))
 replace R : Hid (Has (wd402.setCell ⟨g399, 0, none⟩ (.int .i64 0)) (g399) 67 #[.int .i64 0, .string ⟨x.name.toArray⟩, .int .i64 x.low, .int .i64 x.high, .int .i64 x.max, .slice A1 x.syms.length c1, .slice A2 x.mems.length c2, .int .i64 x.key, .int .i64 x.elem, .bool false]) := Lib.hid (by have h := R.out.set 0 (.int .i64 0); simpa using h)
 replace hw396 := below_set hw396 (show w.heap.size ≤ g399 by omega) 0 (.int .i64 0)
 generalize wd402.setCell ⟨g399, 0, none⟩ (.int .i64 0) = wd403 at *
 obtain ⟨cT_0, cT_1, cT_2, cT_3, cT_4, cT_5, cT_6, cT_7, cT_8, cT_9⟩ := T.out.c10
 go_wp2_with fail
 clear cT_0 cT_1 cT_2 cT_3 cT_4 cT_5 cT_6 cT_7 cT_8 cT_9
 ((with_reducible refine (HN.out _).mono ?_); rintro e wd404 ⟨rfl, rfl⟩)
 cases hn : nameB x.name with
 | false =>
  have Hf : Hid (formB x = false) := by show _ = _; rw [hf, hn]; rfl
  clear hf h
  have cT_0 : wd403.cell? ⟨w.heap.size, 0, none⟩ = some (.int .i64 6) := T.out.cell 0
  have cT_9 : wd403.cell? ⟨w.heap.size, 9, none⟩ = some (.bool false) := T.out.cell 9
  have cR_1 : wd403.cell? ⟨g399, 1, none⟩ = some (.string ⟨x.name.toArray⟩) := R.out.cell 1
  have cR_6 : wd403.cell? ⟨g399, 6, none⟩ = some (.slice A2 x.mems.length c2) := R.out.cell 6
  have fR_1 := R.out.free 1
  have fR_6 := R.out.free 6
  go_upto_region 20 with fail
  clear cT_0 cT_9 cR_1 cR_6 fR_1 fR_6
  replace T := Lib.hid (T.out.far (p := ⟨g399, 1, none⟩) (show w.heap.size ≠ g399 by omega) (.string ⟨#[]⟩))
  replace R : Hid (Has (wd403.setCell ⟨g399, 1, none⟩ (.string ⟨#[]⟩)) (g399) 67 #[.int .i64 0, .string ⟨#[]⟩, .int .i64 x.low, .int .i64 x.high, .int .i64 x.max, .slice A1 x.syms.length c1, .slice A2 x.mems.length c2, .int .i64 x.key, .int .i64 x.elem, .bool false]) := Lib.hid (by have h := R.out.set 1 (.string ⟨#[]⟩); simpa using h)
  replace hw396 := below_set hw396 (show w.heap.size ≤ g399 by omega) 1 (.string ⟨#[]⟩)
  generalize wd403.setCell ⟨g399, 1, none⟩ (.string ⟨#[]⟩) = wd406 at *
  replace T := Lib.hid (T.out.far (p := ⟨g399, 6, none⟩) (show w.heap.size ≠ g399 by omega) (.slice none 0 0))
  replace R : Hid (Has (wd406.setCell ⟨g399, 6, none⟩ (.slice none 0 0)) (g399) 67 #[.int .i64 0, .string ⟨#[]⟩, .int .i64 x.low, .int .i64 x.high, .int .i64 x.max, .slice A1 x.syms.length c1, .slice none 0 0, .int .i64 x.key, .int .i64 x.elem, .bool false]) := Lib.hid (by have h := R.out.set 6 (.slice none 0 0); simpa using h)
  replace hw396 := below_set hw396 (show w.heap.size ≤ g399 by omega) 6 (.slice none 0 0)
  generalize wd406.setCell ⟨g399, 6, none⟩ (.slice none 0 0) = wd407 at *
  have cT_0 : wd407.cell? ⟨w.heap.size, 0, none⟩ = some (.int .i64 6) := T.out.cell 0
  have cT_9 : wd407.cell? ⟨w.heap.size, 9, none⟩ = some (.bool false) := T.out.cell 9
  have cR_9 : wd407.cell? ⟨g399, 9, none⟩ = some (.bool false) := R.out.cell 9
  have fR_9 := R.out.free 9
  go_upto_region 29 with fail
  clear cT_0 cT_9 cR_9 fR_9
  replace T := Lib.hid (T.out.far (p := ⟨g399, 9, none⟩) (show w.heap.size ≠ g399 by omega) (.bool false))
  replace R : Hid (Has (wd407.setCell ⟨g399, 9, none⟩ (.bool false)) (g399) 67 #[.int .i64 0, .string ⟨#[]⟩, .int .i64 x.low, .int .i64 x.high, .int .i64 x.max, .slice A1 x.syms.length c1, .slice none 0 0, .int .i64 x.key, .int .i64 x.elem, .bool false]) := Lib.hid (by have h := R.out.set 9 (.bool false); simpa using h)
  replace hw396 := below_set hw396 (show w.heap.size ≤ g399 by omega) 9 (.bool false)
  generalize wd407.setCell ⟨g399, 9, none⟩ (.bool false) = wd408 at *
  obtain ⟨cR_0, cR_1, cR_2, cR_3, cR_4, cR_5, cR_6, cR_7, cR_8, cR_9⟩ := R.out.c10
  go_wp2_with fail
  go_ret
  exact ⟨ret_bool Hf.out.symm, hw396⟩
 | true =>
  obtain ⟨cT_0, cT_1, cT_2, cT_3, cT_4, cT_5, cT_6, cT_7, cT_8, cT_9⟩ := T.out.c10
  go_wp2_with fail
  clear cT_0 cT_1 cT_2 cT_3 cT_4 cT_5 cT_6 cT_7 cT_8 cT_9
  ((with_reducible refine (HM.out _ (hw396)).mono ?_); rintro e wd409 ⟨rfl, hb410⟩)
  replace T := Lib.hid (T.out.below hb410 T.out.here)
  replace R := Lib.hid (R.out.below hb410 R.out.here)
  replace hw396 := hw396.trans (hb410.mono hw396.size)
  clear hb410
  cases hs : membersB x with
  | false =>
   have Hf : Hid (formB x = false) := by show _ = _; rw [hf, hn, hs]; rfl
   clear hf h
   have cT_0 : wd409.cell? ⟨w.heap.size, 0, none⟩ = some (.int .i64 6) := T.out.cell 0
   have cT_9 : wd409.cell? ⟨w.heap.size, 9, none⟩ = some (.bool false) := T.out.cell 9
   have cR_1 : wd409.cell? ⟨g399, 1, none⟩ = some (.string ⟨x.name.toArray⟩) := R.out.cell 1
   have cR_6 : wd409.cell? ⟨g399, 6, none⟩ = some (.slice A2 x.mems.length c2) := R.out.cell 6
   have fR_1 := R.out.free 1
   have fR_6 := R.out.free 6
   go_upto_region 20 with fail
   clear cT_0 cT_9 cR_1 cR_6 fR_1 fR_6
   replace T := Lib.hid (T.out.far (p := ⟨g399, 1, none⟩) (show w.heap.size ≠ g399 by omega) (.string ⟨#[]⟩))
   replace R : Hid (Has (wd409.setCell ⟨g399, 1, none⟩ (.string ⟨#[]⟩)) (g399) 67 #[.int .i64 0, .string ⟨#[]⟩, .int .i64 x.low, .int .i64 x.high, .int .i64 x.max, .slice A1 x.syms.length c1, .slice A2 x.mems.length c2, .int .i64 x.key, .int .i64 x.elem, .bool false]) := Lib.hid (by have h := R.out.set 1 (.string ⟨#[]⟩); simpa using h)
   replace hw396 := below_set hw396 (show w.heap.size ≤ g399 by omega) 1 (.string ⟨#[]⟩)
   generalize wd409.setCell ⟨g399, 1, none⟩ (.string ⟨#[]⟩) = wd411 at *
   replace T := Lib.hid (T.out.far (p := ⟨g399, 6, none⟩) (show w.heap.size ≠ g399 by omega) (.slice none 0 0))
   replace R : Hid (Has (wd411.setCell ⟨g399, 6, none⟩ (.slice none 0 0)) (g399) 67 #[.int .i64 0, .string ⟨#[]⟩, .int .i64 x.low, .int .i64 x.high, .int .i64 x.max, .slice A1 x.syms.length c1, .slice none 0 0, .int .i64 x.key, .int .i64 x.elem, .bool false]) := Lib.hid (by have h := R.out.set 6 (.slice none 0 0); simpa using h)
   replace hw396 := below_set hw396 (show w.heap.size ≤ g399 by omega) 6 (.slice none 0 0)
   generalize wd411.setCell ⟨g399, 6, none⟩ (.slice none 0 0) = wd412 at *
   have cT_0 : wd412.cell? ⟨w.heap.size, 0, none⟩ = some (.int .i64 6) := T.out.cell 0
   have cT_9 : wd412.cell? ⟨w.heap.size, 9, none⟩ = some (.bool false) := T.out.cell 9
   have cR_9 : wd412.cell? ⟨g399, 9, none⟩ = some (.bool false) := R.out.cell 9
   have fR_9 := R.out.free 9
   go_upto_region 29 with fail
   clear cT_0 cT_9 cR_9 fR_9
   replace T := Lib.hid (T.out.far (p := ⟨g399, 9, none⟩) (show w.heap.size ≠ g399 by omega) (.bool false))
   replace R : Hid (Has (wd412.setCell ⟨g399, 9, none⟩ (.bool false)) (g399) 67 #[.int .i64 0, .string ⟨#[]⟩, .int .i64 x.low, .int .i64 x.high, .int .i64 x.max, .slice A1 x.syms.length c1, .slice none 0 0, .int .i64 x.key, .int .i64 x.elem, .bool false]) := Lib.hid (by have h := R.out.set 9 (.bool false); simpa using h)
   replace hw396 := below_set hw396 (show w.heap.size ≤ g399 by omega) 9 (.bool false)
   generalize wd412.setCell ⟨g399, 9, none⟩ (.bool false) = wd413 at *
   obtain ⟨cR_0, cR_1, cR_2, cR_3, cR_4, cR_5, cR_6, cR_7, cR_8, cR_9⟩ := R.out.c10
   go_wp2_with fail
   go_ret
   exact ⟨ret_bool Hf.out.symm, hw396⟩
  | true =>
   have Hf : Hid (formB x = sameZ (restT x) typZ) := by show _ = _; rw [hf, hn, hs]; rfl
   clear hf h
   have cT_0 : wd409.cell? ⟨w.heap.size, 0, none⟩ = some (.int .i64 6) := T.out.cell 0
   have cT_9 : wd409.cell? ⟨w.heap.size, 9, none⟩ = some (.bool false) := T.out.cell 9
   have cR_1 : wd409.cell? ⟨g399, 1, none⟩ = some (.string ⟨x.name.toArray⟩) := R.out.cell 1
   have cR_6 : wd409.cell? ⟨g399, 6, none⟩ = some (.slice A2 x.mems.length c2) := R.out.cell 6
   have fR_1 := R.out.free 1
   have fR_6 := R.out.free 6
   go_upto_region 20 with fail
   clear cT_0 cT_9 cR_1 cR_6 fR_1 fR_6
   replace T := Lib.hid (T.out.far (p := ⟨g399, 1, none⟩) (show w.heap.size ≠ g399 by omega) (.string ⟨#[]⟩))
   replace R : Hid (Has (wd409.setCell ⟨g399, 1, none⟩ (.string ⟨#[]⟩)) (g399) 67 #[.int .i64 0, .string ⟨#[]⟩, .int .i64 x.low, .int .i64 x.high, .int .i64 x.max, .slice A1 x.syms.length c1, .slice A2 x.mems.length c2, .int .i64 x.key, .int .i64 x.elem, .bool false]) := Lib.hid (by have h := R.out.set 1 (.string ⟨#[]⟩); simpa using h)
   replace hw396 := below_set hw396 (show w.heap.size ≤ g399 by omega) 1 (.string ⟨#[]⟩)
   generalize wd409.setCell ⟨g399, 1, none⟩ (.string ⟨#[]⟩) = wd414 at *
   replace T := Lib.hid (T.out.far (p := ⟨g399, 6, none⟩) (show w.heap.size ≠ g399 by omega) (.slice none 0 0))
   replace R : Hid (Has (wd414.setCell ⟨g399, 6, none⟩ (.slice none 0 0)) (g399) 67 #[.int .i64 0, .string ⟨#[]⟩, .int .i64 x.low, .int .i64 x.high, .int .i64 x.max, .slice A1 x.syms.length c1, .slice none 0 0, .int .i64 x.key, .int .i64 x.elem, .bool false]) := Lib.hid (by have h := R.out.set 6 (.slice none 0 0); simpa using h)
   replace hw396 := below_set hw396 (show w.heap.size ≤ g399 by omega) 6 (.slice none 0 0)
   generalize wd414.setCell ⟨g399, 6, none⟩ (.slice none 0 0) = wd415 at *
   have cT_0 : wd415.cell? ⟨w.heap.size, 0, none⟩ = some (.int .i64 6) := T.out.cell 0
   have cT_9 : wd415.cell? ⟨w.heap.size, 9, none⟩ = some (.bool false) := T.out.cell 9
   have cR_9 : wd415.cell? ⟨g399, 9, none⟩ = some (.bool false) := R.out.cell 9
   have fR_9 := R.out.free 9
   go_upto_region 29 with fail
   clear cT_0 cT_9 cR_9 fR_9
   replace T := Lib.hid (T.out.far (p := ⟨g399, 9, none⟩) (show w.heap.size ≠ g399 by omega) (.bool false))
   replace R : Hid (Has (wd415.setCell ⟨g399, 9, none⟩ (.bool false)) (g399) 67 #[.int .i64 0, .string ⟨#[]⟩, .int .i64 x.low, .int .i64 x.high, .int .i64 x.max, .slice A1 x.syms.length c1, .slice none 0 0, .int .i64 x.key, .int .i64 x.elem, .bool false]) := Lib.hid (by have h := R.out.set 9 (.bool false); simpa using h)
   replace hw396 := below_set hw396 (show w.heap.size ≤ g399 by omega) 9 (.bool false)
   generalize wd415.setCell ⟨g399, 9, none⟩ (.bool false) = wd416 at *
   obtain ⟨cR_0, cR_1, cR_2, cR_3, cR_4, cR_5, cR_6, cR_7, cR_8, cR_9⟩ := R.out.c10
   go_wp2_with fail
   clear cR_0 cR_1 cR_2 cR_3 cR_4 cR_5 cR_6 cR_7 cR_8 cR_9
   ((with_reducible refine (HC.out _).mono ?_); rintro e wd417 ⟨rfl, hb418⟩)
   replace T := Lib.hid (T.out.below hb418 T.out.here)
   replace R := Lib.hid (R.out.below hb418 R.out.here)
   replace hw396 := hw396.trans (hb418.mono hw396.size)
   clear hb418
   go_wp2_with fail
   go_ret
   exact ⟨ret_bool Hf.out.symm, hw396⟩
set_option maxRecDepth 100000 in
set_option maxHeartbeats 4000000 in
theorem form7_any (x : Typ) (A1 A2 : Option Addr) (c1 c2 : Nat) (w : World) (h : x.kind = 7) (_ : x.syms.length ≤ 6000000000000 ∧ x.mems.length ≤ 6000000000000) (_ : TypAt w w.heap.size x (.slice A1 x.syms.length c1) (.slice A2 x.mems.length c2)) :
  Calls Try.prog 67 #[typA x (.slice A1 x.syms.length c1) (.slice A2 x.mems.length c2)] w fun e w' => e = .returned (.bool (formB x)) ∧ Below w.heap.size w w' := by
 have hrt : restT x = { x with kind := 0, max := 0, elem := 0 } := by unfold restT; simp [h]
 have hf := form_of x (by rw [h]; unfold KindIn; omega)
 have hc : ∀ W, Calls Try.prog 93 #[.agg #[.int .i64 0, .string ⟨x.name.toArray⟩, .int .i64 x.low, .int .i64 x.high, .int .i64 0, .slice A1 x.syms.length c1, .slice A2 x.mems.length c2, .int .i64 x.key, .int .i64 0, .bool x.opn], .agg #[.int .i64 0, .string ⟨#[]⟩, .int .i64 0, .int .i64 0, .int .i64 0, .slice none 0 0, .slice none 0 0, .int .i64 0, .int .i64 0, .bool false]] W fun e w' => e = .returned (.bool (sameZ (restT x) typZ)) ∧ Below W.heap.size W w' := fun W => by
  rw [hrt]
  exact equalz_any ({ x with kind := 0, max := 0, elem := 0 } : Typ) typZ A1 A2 c1 c2 W
 have hok : okT x = (decide (0 ≤ x.max) && decide (x.max ≤ 50)) := by unfold okT; simp [h]
 rw [hok] at hf
 have HC := Lib.hid hc
 clear hc hok hrt
 simp only [typA, h]
 go_enter Try.func67, Try.ntmps67
 go_upto_region 1 with fail
 have hb419 := below_al (Below.refl w.heap.size w) (Nat.le_refl _) (.cells #[.int .i64 7, .string ⟨x.name.toArray⟩, .int .i64 x.low, .int .i64 x.high, .int .i64 x.max, .slice A1 x.syms.length c1, .slice A2 x.mems.length c2, .int .i64 x.key, .int .i64 x.elem, .bool x.opn] 67)
 have T := Has.made w 67 #[.int .i64 7, .string ⟨x.name.toArray⟩, .int .i64 x.low, .int .i64 x.high, .int .i64 x.max, .slice A1 x.syms.length c1, .slice A2 x.mems.length c2, .int .i64 x.key, .int .i64 x.elem, .bool x.opn]
 have hw420 := hb419
 replace T := Lib.hid T
 clear hb419
 generalize (w.alloc (.cells #[.int .i64 7, .string ⟨x.name.toArray⟩, .int .i64 x.low, .int .i64 x.high, .int .i64 x.max, .slice A1 x.syms.length c1, .slice A2 x.mems.length c2, .int .i64 x.key, .int .i64 x.elem, .bool x.opn] 67)) = wd421 at *
 obtain ⟨cT_0, cT_1, cT_2, cT_3, cT_4, cT_5, cT_6, cT_7, cT_8, cT_9⟩ := T.out.c10
 go_upto_region 2 with fail
 clear cT_0 cT_1 cT_2 cT_3 cT_4 cT_5 cT_6 cT_7 cT_8 cT_9
 have hb422 := below_al (Below.refl wd421.heap.size wd421) (Nat.le_refl _) (.cells #[.int .i64 7, .string ⟨x.name.toArray⟩, .int .i64 x.low, .int .i64 x.high, .int .i64 x.max, .slice A1 x.syms.length c1, .slice A2 x.mems.length c2, .int .i64 x.key, .int .i64 x.elem, .bool x.opn] 67)
 have R := Has.made wd421 67 #[.int .i64 7, .string ⟨x.name.toArray⟩, .int .i64 x.low, .int .i64 x.high, .int .i64 x.max, .slice A1 x.syms.length c1, .slice A2 x.mems.length c2, .int .i64 x.key, .int .i64 x.elem, .bool x.opn]
 have hl424 := T.out.here
 have hl425 := hw420.size
 replace T := Lib.hid (T.out.below hb422 T.out.here)
 replace hw420 := hw420.trans (hb422.mono hw420.size)
 replace R := Lib.hid R
 clear hb422
 generalize (wd421.alloc (.cells #[.int .i64 7, .string ⟨x.name.toArray⟩, .int .i64 x.low, .int .i64 x.high, .int .i64 x.max, .slice A1 x.syms.length c1, .slice A2 x.mems.length c2, .int .i64 x.key, .int .i64 x.elem, .bool x.opn] 67)) = wd426 at *
 generalize wd421.heap.size = g423 at *
 have cR_0 : wd426.cell? ⟨g423, 0, none⟩ = some (.int .i64 7) := R.out.cell 0
 have fR_0 := R.out.free 0
 go_upto_region 3 with fail
 clear cR_0 fR_0
 replace T := Lib.hid (T.out.far (p := ⟨g423, 0, none⟩) (show w.heap.size ≠ g423 by omega) (.int .i64 0))
 replace R : Hid (Has (wd426.setCell ⟨g423, 0, none⟩ (.int .i64 0)) (g423) 67 #[.int .i64 0, .string ⟨x.name.toArray⟩, .int .i64 x.low, .int .i64 x.high, .int .i64 x.max, .slice A1 x.syms.length c1, .slice A2 x.mems.length c2, .int .i64 x.key, .int .i64 x.elem, .bool x.opn]) := Lib.hid (by have h := R.out.set 0 (.int .i64 0); simpa using h)
 replace hw420 := below_set hw420 (show w.heap.size ≤ g423 by omega) 0 (.int .i64 0)
 generalize wd426.setCell ⟨g423, 0, none⟩ (.int .i64 0) = wd427 at *
 obtain ⟨cT_0, cT_1, cT_2, cT_3, cT_4, cT_5, cT_6, cT_7, cT_8, cT_9⟩ := T.out.c10
 by_cases hlo : 0 ≤ x.max
 ·
  have hd : decide (0 ≤ x.max) = true := decide_eq_true hlo
  by_cases hhi : x.max ≤ 50
  ·
   have hd2 : decide (x.max ≤ 50) = true := decide_eq_true hhi
   have Hf : Hid (formB x = sameZ (restT x) typZ) := by show _ = _; rw [hf, hd, hd2]; rfl
   clear hf h
   have cR_4 : wd427.cell? ⟨g423, 4, none⟩ = some (.int .i64 x.max) := R.out.cell 4
   have cR_8 : wd427.cell? ⟨g423, 8, none⟩ = some (.int .i64 x.elem) := R.out.cell 8
   have fR_4 := R.out.free 4
   have fR_8 := R.out.free 8
   go_upto_region 29 with fail
   clear cT_0 cT_1 cT_2 cT_3 cT_4 cT_5 cT_6 cT_7 cT_8 cT_9 cR_4 cR_8 fR_4 fR_8
   replace T := Lib.hid (T.out.far (p := ⟨g423, 4, none⟩) (show w.heap.size ≠ g423 by omega) (.int .i64 0))
   replace R : Hid (Has (wd427.setCell ⟨g423, 4, none⟩ (.int .i64 0)) (g423) 67 #[.int .i64 0, .string ⟨x.name.toArray⟩, .int .i64 x.low, .int .i64 x.high, .int .i64 0, .slice A1 x.syms.length c1, .slice A2 x.mems.length c2, .int .i64 x.key, .int .i64 x.elem, .bool x.opn]) := Lib.hid (by have h := R.out.set 4 (.int .i64 0); simpa using h)
   replace hw420 := below_set hw420 (show w.heap.size ≤ g423 by omega) 4 (.int .i64 0)
   generalize wd427.setCell ⟨g423, 4, none⟩ (.int .i64 0) = wd428 at *
   replace T := Lib.hid (T.out.far (p := ⟨g423, 8, none⟩) (show w.heap.size ≠ g423 by omega) (.int .i64 0))
   replace R : Hid (Has (wd428.setCell ⟨g423, 8, none⟩ (.int .i64 0)) (g423) 67 #[.int .i64 0, .string ⟨x.name.toArray⟩, .int .i64 x.low, .int .i64 x.high, .int .i64 0, .slice A1 x.syms.length c1, .slice A2 x.mems.length c2, .int .i64 x.key, .int .i64 0, .bool x.opn]) := Lib.hid (by have h := R.out.set 8 (.int .i64 0); simpa using h)
   replace hw420 := below_set hw420 (show w.heap.size ≤ g423 by omega) 8 (.int .i64 0)
   generalize wd428.setCell ⟨g423, 8, none⟩ (.int .i64 0) = wd429 at *
   obtain ⟨cR_0, cR_1, cR_2, cR_3, cR_4, cR_5, cR_6, cR_7, cR_8, cR_9⟩ := R.out.c10
   go_wp2_with fail
   clear cR_0 cR_1 cR_2 cR_3 cR_4 cR_5 cR_6 cR_7 cR_8 cR_9
   ((with_reducible refine (HC.out _).mono ?_); rintro e wd430 ⟨rfl, hb431⟩)
   replace T := Lib.hid (T.out.below hb431 T.out.here)
   replace R := Lib.hid (R.out.below hb431 R.out.here)
   replace hw420 := hw420.trans (hb431.mono hw420.size)
   clear hb431
   go_wp2_with fail
   go_ret
   exact ⟨ret_bool Hf.out.symm, hw420⟩
  ·
   have hd2 : decide (x.max ≤ 50) = false := decide_eq_false hhi
   have Hf : Hid (formB x = false) := by show _ = _; rw [hf, hd, hd2]; rfl
   clear hf h
   have cR_4 : wd427.cell? ⟨g423, 4, none⟩ = some (.int .i64 x.max) := R.out.cell 4
   have cR_8 : wd427.cell? ⟨g423, 8, none⟩ = some (.int .i64 x.elem) := R.out.cell 8
   have fR_4 := R.out.free 4
   have fR_8 := R.out.free 8
   go_upto_region 29 with fail
   clear cT_0 cT_1 cT_2 cT_3 cT_4 cT_5 cT_6 cT_7 cT_8 cT_9 cR_4 cR_8 fR_4 fR_8
   replace T := Lib.hid (T.out.far (p := ⟨g423, 4, none⟩) (show w.heap.size ≠ g423 by omega) (.int .i64 0))
   replace R : Hid (Has (wd427.setCell ⟨g423, 4, none⟩ (.int .i64 0)) (g423) 67 #[.int .i64 0, .string ⟨x.name.toArray⟩, .int .i64 x.low, .int .i64 x.high, .int .i64 0, .slice A1 x.syms.length c1, .slice A2 x.mems.length c2, .int .i64 x.key, .int .i64 x.elem, .bool x.opn]) := Lib.hid (by have h := R.out.set 4 (.int .i64 0); simpa using h)
   replace hw420 := below_set hw420 (show w.heap.size ≤ g423 by omega) 4 (.int .i64 0)
   generalize wd427.setCell ⟨g423, 4, none⟩ (.int .i64 0) = wd432 at *
   replace T := Lib.hid (T.out.far (p := ⟨g423, 8, none⟩) (show w.heap.size ≠ g423 by omega) (.int .i64 0))
   replace R : Hid (Has (wd432.setCell ⟨g423, 8, none⟩ (.int .i64 0)) (g423) 67 #[.int .i64 0, .string ⟨x.name.toArray⟩, .int .i64 x.low, .int .i64 x.high, .int .i64 0, .slice A1 x.syms.length c1, .slice A2 x.mems.length c2, .int .i64 x.key, .int .i64 0, .bool x.opn]) := Lib.hid (by have h := R.out.set 8 (.int .i64 0); simpa using h)
   replace hw420 := below_set hw420 (show w.heap.size ≤ g423 by omega) 8 (.int .i64 0)
   generalize wd432.setCell ⟨g423, 8, none⟩ (.int .i64 0) = wd433 at *
   obtain ⟨cR_0, cR_1, cR_2, cR_3, cR_4, cR_5, cR_6, cR_7, cR_8, cR_9⟩ := R.out.c10
   go_wp2_with fail
   go_ret
   exact ⟨ret_bool Hf.out.symm, hw420⟩
 ·
  have hd : decide (0 ≤ x.max) = false := decide_eq_false hlo
  have Hf : Hid (formB x = false) := by show _ = _; rw [hf, hd]; rfl
  clear hf h
  have cR_4 : wd427.cell? ⟨g423, 4, none⟩ = some (.int .i64 x.max) := R.out.cell 4
  have cR_8 : wd427.cell? ⟨g423, 8, none⟩ = some (.int .i64 x.elem) := R.out.cell 8
  have fR_4 := R.out.free 4
  have fR_8 := R.out.free 8
  go_upto_region 29 with fail
  clear cT_0 cT_1 cT_2 cT_3 cT_4 cT_5 cT_6 cT_7 cT_8 cT_9 cR_4 cR_8 fR_4 fR_8
  replace T := Lib.hid (T.out.far (p := ⟨g423, 4, none⟩) (show w.heap.size ≠ g423 by omega) (.int .i64 0))
  replace R : Hid (Has (wd427.setCell ⟨g423, 4, none⟩ (.int .i64 0)) (g423) 67 #[.int .i64 0, .string ⟨x.name.toArray⟩, .int .i64 x.low, .int .i64 x.high, .int .i64 0, .slice A1 x.syms.length c1, .slice A2 x.mems.length c2, .int .i64 x.key, .int .i64 x.elem, .bool x.opn]) := Lib.hid (by have h := R.out.set 4 (.int .i64 0); simpa using h)
  replace hw420 := below_set hw420 (show w.heap.size ≤ g423 by omega) 4 (.int .i64 0)
  generalize wd427.setCell ⟨g423, 4, none⟩ (.int .i64 0) = wd434 at *
  replace T := Lib.hid (T.out.far (p := ⟨g423, 8, none⟩) (show w.heap.size ≠ g423 by omega) (.int .i64 0))
  replace R : Hid (Has (wd434.setCell ⟨g423, 8, none⟩ (.int .i64 0)) (g423) 67 #[.int .i64 0, .string ⟨x.name.toArray⟩, .int .i64 x.low, .int .i64 x.high, .int .i64 0, .slice A1 x.syms.length c1, .slice A2 x.mems.length c2, .int .i64 x.key, .int .i64 0, .bool x.opn]) := Lib.hid (by have h := R.out.set 8 (.int .i64 0); simpa using h)
  replace hw420 := below_set hw420 (show w.heap.size ≤ g423 by omega) 8 (.int .i64 0)
  generalize wd434.setCell ⟨g423, 8, none⟩ (.int .i64 0) = wd435 at *
  obtain ⟨cR_0, cR_1, cR_2, cR_3, cR_4, cR_5, cR_6, cR_7, cR_8, cR_9⟩ := R.out.c10
  go_wp2_with fail
  go_ret
  exact ⟨ret_bool Hf.out.symm, hw420⟩
set_option maxRecDepth 100000 in
set_option maxHeartbeats 4000000 in
theorem form8_any (x : Typ) (A1 A2 : Option Addr) (c1 c2 : Nat) (w : World) (h : x.kind = 8) (_ : x.syms.length ≤ 6000000000000 ∧ x.mems.length ≤ 6000000000000) (_ : TypAt w w.heap.size x (.slice A1 x.syms.length c1) (.slice A2 x.mems.length c2)) :
  Calls Try.prog 67 #[typA x (.slice A1 x.syms.length c1) (.slice A2 x.mems.length c2)] w fun e w' => e = .returned (.bool (formB x)) ∧ Below w.heap.size w w' := by
 have hrt : restT x = { x with kind := 0, max := 0, elem := 0, key := 0 } := by unfold restT; simp [h]
 have hf := form_of x (by rw [h]; unfold KindIn; omega)
 have hc : ∀ W, Calls Try.prog 93 #[.agg #[.int .i64 0, .string ⟨x.name.toArray⟩, .int .i64 x.low, .int .i64 x.high, .int .i64 0, .slice A1 x.syms.length c1, .slice A2 x.mems.length c2, .int .i64 0, .int .i64 0, .bool x.opn], .agg #[.int .i64 0, .string ⟨#[]⟩, .int .i64 0, .int .i64 0, .int .i64 0, .slice none 0 0, .slice none 0 0, .int .i64 0, .int .i64 0, .bool false]] W fun e w' => e = .returned (.bool (sameZ (restT x) typZ)) ∧ Below W.heap.size W w' := fun W => by
  rw [hrt]
  exact equalz_any ({ x with kind := 0, max := 0, elem := 0, key := 0 } : Typ) typZ A1 A2 c1 c2 W
 have hok : okT x = (decide (0 ≤ x.max) && decide (x.max ≤ 50)) := by unfold okT; simp [h]
 rw [hok] at hf
 have HC := Lib.hid hc
 clear hc hok hrt
 simp only [typA, h]
 go_enter Try.func67, Try.ntmps67
 go_upto_region 1 with fail
 have hb436 := below_al (Below.refl w.heap.size w) (Nat.le_refl _) (.cells #[.int .i64 8, .string ⟨x.name.toArray⟩, .int .i64 x.low, .int .i64 x.high, .int .i64 x.max, .slice A1 x.syms.length c1, .slice A2 x.mems.length c2, .int .i64 x.key, .int .i64 x.elem, .bool x.opn] 67)
 have T := Has.made w 67 #[.int .i64 8, .string ⟨x.name.toArray⟩, .int .i64 x.low, .int .i64 x.high, .int .i64 x.max, .slice A1 x.syms.length c1, .slice A2 x.mems.length c2, .int .i64 x.key, .int .i64 x.elem, .bool x.opn]
 have hw437 := hb436
 replace T := Lib.hid T
 clear hb436
 generalize (w.alloc (.cells #[.int .i64 8, .string ⟨x.name.toArray⟩, .int .i64 x.low, .int .i64 x.high, .int .i64 x.max, .slice A1 x.syms.length c1, .slice A2 x.mems.length c2, .int .i64 x.key, .int .i64 x.elem, .bool x.opn] 67)) = wd438 at *
 obtain ⟨cT_0, cT_1, cT_2, cT_3, cT_4, cT_5, cT_6, cT_7, cT_8, cT_9⟩ := T.out.c10
 go_upto_region 2 with fail
 clear cT_0 cT_1 cT_2 cT_3 cT_4 cT_5 cT_6 cT_7 cT_8 cT_9
 have hb439 := below_al (Below.refl wd438.heap.size wd438) (Nat.le_refl _) (.cells #[.int .i64 8, .string ⟨x.name.toArray⟩, .int .i64 x.low, .int .i64 x.high, .int .i64 x.max, .slice A1 x.syms.length c1, .slice A2 x.mems.length c2, .int .i64 x.key, .int .i64 x.elem, .bool x.opn] 67)
 have R := Has.made wd438 67 #[.int .i64 8, .string ⟨x.name.toArray⟩, .int .i64 x.low, .int .i64 x.high, .int .i64 x.max, .slice A1 x.syms.length c1, .slice A2 x.mems.length c2, .int .i64 x.key, .int .i64 x.elem, .bool x.opn]
 have hl441 := T.out.here
 have hl442 := hw437.size
 replace T := Lib.hid (T.out.below hb439 T.out.here)
 replace hw437 := hw437.trans (hb439.mono hw437.size)
 replace R := Lib.hid R
 clear hb439
 generalize (wd438.alloc (.cells #[.int .i64 8, .string ⟨x.name.toArray⟩, .int .i64 x.low, .int .i64 x.high, .int .i64 x.max, .slice A1 x.syms.length c1, .slice A2 x.mems.length c2, .int .i64 x.key, .int .i64 x.elem, .bool x.opn] 67)) = wd443 at *
 generalize wd438.heap.size = g440 at *
 have cR_0 : wd443.cell? ⟨g440, 0, none⟩ = some (.int .i64 8) := R.out.cell 0
 have fR_0 := R.out.free 0
 go_upto_region 3 with fail
 clear cR_0 fR_0
 replace T := Lib.hid (T.out.far (p := ⟨g440, 0, none⟩) (show w.heap.size ≠ g440 by omega) (.int .i64 0))
 replace R : Hid (Has (wd443.setCell ⟨g440, 0, none⟩ (.int .i64 0)) (g440) 67 #[.int .i64 0, .string ⟨x.name.toArray⟩, .int .i64 x.low, .int .i64 x.high, .int .i64 x.max, .slice A1 x.syms.length c1, .slice A2 x.mems.length c2, .int .i64 x.key, .int .i64 x.elem, .bool x.opn]) := Lib.hid (by have h := R.out.set 0 (.int .i64 0); simpa using h)
 replace hw437 := below_set hw437 (show w.heap.size ≤ g440 by omega) 0 (.int .i64 0)
 generalize wd443.setCell ⟨g440, 0, none⟩ (.int .i64 0) = wd444 at *
 obtain ⟨cT_0, cT_1, cT_2, cT_3, cT_4, cT_5, cT_6, cT_7, cT_8, cT_9⟩ := T.out.c10
 by_cases hlo : 0 ≤ x.max
 ·
  have hd : decide (0 ≤ x.max) = true := decide_eq_true hlo
  by_cases hhi : x.max ≤ 50
  ·
   have hd2 : decide (x.max ≤ 50) = true := decide_eq_true hhi
   have Hf : Hid (formB x = sameZ (restT x) typZ) := by show _ = _; rw [hf, hd, hd2]; rfl
   clear hf h
   obtain ⟨-, -, -, -, cR_4, -, -, cR_7, cR_8, -⟩ := R.out.c10
   have fR_4 := R.out.free 4
   have fR_8 := R.out.free 8
   have fR_7 := R.out.free 7
   go_upto_region 29 with fail
   clear cT_0 cT_1 cT_2 cT_3 cT_4 cT_5 cT_6 cT_7 cT_8 cT_9 cR_4 cR_8 cR_7 fR_4 fR_8 fR_7
   replace T := Lib.hid (T.out.far (p := ⟨g440, 4, none⟩) (show w.heap.size ≠ g440 by omega) (.int .i64 0))
   replace R : Hid (Has (wd444.setCell ⟨g440, 4, none⟩ (.int .i64 0)) (g440) 67 #[.int .i64 0, .string ⟨x.name.toArray⟩, .int .i64 x.low, .int .i64 x.high, .int .i64 0, .slice A1 x.syms.length c1, .slice A2 x.mems.length c2, .int .i64 x.key, .int .i64 x.elem, .bool x.opn]) := Lib.hid (by have h := R.out.set 4 (.int .i64 0); simpa using h)
   replace hw437 := below_set hw437 (show w.heap.size ≤ g440 by omega) 4 (.int .i64 0)
   generalize wd444.setCell ⟨g440, 4, none⟩ (.int .i64 0) = wd445 at *
   replace T := Lib.hid (T.out.far (p := ⟨g440, 8, none⟩) (show w.heap.size ≠ g440 by omega) (.int .i64 0))
   replace R : Hid (Has (wd445.setCell ⟨g440, 8, none⟩ (.int .i64 0)) (g440) 67 #[.int .i64 0, .string ⟨x.name.toArray⟩, .int .i64 x.low, .int .i64 x.high, .int .i64 0, .slice A1 x.syms.length c1, .slice A2 x.mems.length c2, .int .i64 x.key, .int .i64 0, .bool x.opn]) := Lib.hid (by have h := R.out.set 8 (.int .i64 0); simpa using h)
   replace hw437 := below_set hw437 (show w.heap.size ≤ g440 by omega) 8 (.int .i64 0)
   generalize wd445.setCell ⟨g440, 8, none⟩ (.int .i64 0) = wd446 at *
   replace T := Lib.hid (T.out.far (p := ⟨g440, 7, none⟩) (show w.heap.size ≠ g440 by omega) (.int .i64 0))
   replace R : Hid (Has (wd446.setCell ⟨g440, 7, none⟩ (.int .i64 0)) (g440) 67 #[.int .i64 0, .string ⟨x.name.toArray⟩, .int .i64 x.low, .int .i64 x.high, .int .i64 0, .slice A1 x.syms.length c1, .slice A2 x.mems.length c2, .int .i64 0, .int .i64 0, .bool x.opn]) := Lib.hid (by have h := R.out.set 7 (.int .i64 0); simpa using h)
   replace hw437 := below_set hw437 (show w.heap.size ≤ g440 by omega) 7 (.int .i64 0)
   generalize wd446.setCell ⟨g440, 7, none⟩ (.int .i64 0) = wd447 at *
   obtain ⟨cR_0, cR_1, cR_2, cR_3, cR_4, cR_5, cR_6, cR_7, cR_8, cR_9⟩ := R.out.c10
   go_wp2_with fail
   clear cR_0 cR_1 cR_2 cR_3 cR_4 cR_5 cR_6 cR_7 cR_8 cR_9
   ((with_reducible refine (HC.out _).mono ?_); rintro e wd448 ⟨rfl, hb449⟩)
   replace T := Lib.hid (T.out.below hb449 T.out.here)
   replace R := Lib.hid (R.out.below hb449 R.out.here)
   replace hw437 := hw437.trans (hb449.mono hw437.size)
   clear hb449
   go_wp2_with fail
   go_ret
   exact ⟨ret_bool Hf.out.symm, hw437⟩
  ·
   have hd2 : decide (x.max ≤ 50) = false := decide_eq_false hhi
   have Hf : Hid (formB x = false) := by show _ = _; rw [hf, hd, hd2]; rfl
   clear hf h
   obtain ⟨-, -, -, -, cR_4, -, -, cR_7, cR_8, -⟩ := R.out.c10
   have fR_4 := R.out.free 4
   have fR_8 := R.out.free 8
   have fR_7 := R.out.free 7
   go_upto_region 29 with fail
   clear cT_0 cT_1 cT_2 cT_3 cT_4 cT_5 cT_6 cT_7 cT_8 cT_9 cR_4 cR_8 cR_7 fR_4 fR_8 fR_7
   replace T := Lib.hid (T.out.far (p := ⟨g440, 4, none⟩) (show w.heap.size ≠ g440 by omega) (.int .i64 0))
   replace R : Hid (Has (wd444.setCell ⟨g440, 4, none⟩ (.int .i64 0)) (g440) 67 #[.int .i64 0, .string ⟨x.name.toArray⟩, .int .i64 x.low, .int .i64 x.high, .int .i64 0, .slice A1 x.syms.length c1, .slice A2 x.mems.length c2, .int .i64 x.key, .int .i64 x.elem, .bool x.opn]) := Lib.hid (by have h := R.out.set 4 (.int .i64 0); simpa using h)
   replace hw437 := below_set hw437 (show w.heap.size ≤ g440 by omega) 4 (.int .i64 0)
   generalize wd444.setCell ⟨g440, 4, none⟩ (.int .i64 0) = wd450 at *
   replace T := Lib.hid (T.out.far (p := ⟨g440, 8, none⟩) (show w.heap.size ≠ g440 by omega) (.int .i64 0))
   replace R : Hid (Has (wd450.setCell ⟨g440, 8, none⟩ (.int .i64 0)) (g440) 67 #[.int .i64 0, .string ⟨x.name.toArray⟩, .int .i64 x.low, .int .i64 x.high, .int .i64 0, .slice A1 x.syms.length c1, .slice A2 x.mems.length c2, .int .i64 x.key, .int .i64 0, .bool x.opn]) := Lib.hid (by have h := R.out.set 8 (.int .i64 0); simpa using h)
   replace hw437 := below_set hw437 (show w.heap.size ≤ g440 by omega) 8 (.int .i64 0)
   generalize wd450.setCell ⟨g440, 8, none⟩ (.int .i64 0) = wd451 at *
   replace T := Lib.hid (T.out.far (p := ⟨g440, 7, none⟩) (show w.heap.size ≠ g440 by omega) (.int .i64 0))
   replace R : Hid (Has (wd451.setCell ⟨g440, 7, none⟩ (.int .i64 0)) (g440) 67 #[.int .i64 0, .string ⟨x.name.toArray⟩, .int .i64 x.low, .int .i64 x.high, .int .i64 0, .slice A1 x.syms.length c1, .slice A2 x.mems.length c2, .int .i64 0, .int .i64 0, .bool x.opn]) := Lib.hid (by have h := R.out.set 7 (.int .i64 0); simpa using h)
   replace hw437 := below_set hw437 (show w.heap.size ≤ g440 by omega) 7 (.int .i64 0)
   generalize wd451.setCell ⟨g440, 7, none⟩ (.int .i64 0) = wd452 at *
   obtain ⟨cR_0, cR_1, cR_2, cR_3, cR_4, cR_5, cR_6, cR_7, cR_8, cR_9⟩ := R.out.c10
   go_wp2_with fail
   go_ret
   exact ⟨ret_bool Hf.out.symm, hw437⟩
 ·
  have hd : decide (0 ≤ x.max) = false := decide_eq_false hlo
  have Hf : Hid (formB x = false) := by show _ = _; rw [hf, hd]; rfl
  clear hf h
  obtain ⟨-, -, -, -, cR_4, -, -, cR_7, cR_8, -⟩ := R.out.c10
  have fR_4 := R.out.free 4
  have fR_8 := R.out.free 8
  have fR_7 := R.out.free 7
  go_upto_region 29 with fail
  clear cT_0 cT_1 cT_2 cT_3 cT_4 cT_5 cT_6 cT_7 cT_8 cT_9 cR_4 cR_8 cR_7 fR_4 fR_8 fR_7
  replace T := Lib.hid (T.out.far (p := ⟨g440, 4, none⟩) (show w.heap.size ≠ g440 by omega) (.int .i64 0))
  replace R : Hid (Has (wd444.setCell ⟨g440, 4, none⟩ (.int .i64 0)) (g440) 67 #[.int .i64 0, .string ⟨x.name.toArray⟩, .int .i64 x.low, .int .i64 x.high, .int .i64 0, .slice A1 x.syms.length c1, .slice A2 x.mems.length c2, .int .i64 x.key, .int .i64 x.elem, .bool x.opn]) := Lib.hid (by have h := R.out.set 4 (.int .i64 0); simpa using h)
  replace hw437 := below_set hw437 (show w.heap.size ≤ g440 by omega) 4 (.int .i64 0)
  generalize wd444.setCell ⟨g440, 4, none⟩ (.int .i64 0) = wd453 at *
  replace T := Lib.hid (T.out.far (p := ⟨g440, 8, none⟩) (show w.heap.size ≠ g440 by omega) (.int .i64 0))
  replace R : Hid (Has (wd453.setCell ⟨g440, 8, none⟩ (.int .i64 0)) (g440) 67 #[.int .i64 0, .string ⟨x.name.toArray⟩, .int .i64 x.low, .int .i64 x.high, .int .i64 0, .slice A1 x.syms.length c1, .slice A2 x.mems.length c2, .int .i64 x.key, .int .i64 0, .bool x.opn]) := Lib.hid (by have h := R.out.set 8 (.int .i64 0); simpa using h)
  replace hw437 := below_set hw437 (show w.heap.size ≤ g440 by omega) 8 (.int .i64 0)
  generalize wd453.setCell ⟨g440, 8, none⟩ (.int .i64 0) = wd454 at *
  replace T := Lib.hid (T.out.far (p := ⟨g440, 7, none⟩) (show w.heap.size ≠ g440 by omega) (.int .i64 0))
  replace R : Hid (Has (wd454.setCell ⟨g440, 7, none⟩ (.int .i64 0)) (g440) 67 #[.int .i64 0, .string ⟨x.name.toArray⟩, .int .i64 x.low, .int .i64 x.high, .int .i64 0, .slice A1 x.syms.length c1, .slice A2 x.mems.length c2, .int .i64 0, .int .i64 0, .bool x.opn]) := Lib.hid (by have h := R.out.set 7 (.int .i64 0); simpa using h)
  replace hw437 := below_set hw437 (show w.heap.size ≤ g440 by omega) 7 (.int .i64 0)
  generalize wd454.setCell ⟨g440, 7, none⟩ (.int .i64 0) = wd455 at *
  obtain ⟨cR_0, cR_1, cR_2, cR_3, cR_4, cR_5, cR_6, cR_7, cR_8, cR_9⟩ := R.out.c10
  go_wp2_with fail
  go_ret
  exact ⟨ret_bool Hf.out.symm, hw437⟩
set_option maxRecDepth 100000 in
set_option maxHeartbeats 4000000 in
theorem form9_any (x : Typ) (A1 A2 : Option Addr) (c1 c2 : Nat) (w : World) (h : x.kind = 9) (_ : x.syms.length ≤ 6000000000000 ∧ x.mems.length ≤ 6000000000000) (_ : TypAt w w.heap.size x (.slice A1 x.syms.length c1) (.slice A2 x.mems.length c2)) :
  Calls Try.prog 67 #[typA x (.slice A1 x.syms.length c1) (.slice A2 x.mems.length c2)] w fun e w' => e = .returned (.bool (formB x)) ∧ Below w.heap.size w w' := by
 have hrt : restT x = { x with kind := 0, elem := 0 } := by unfold restT; simp [h]
 have hf := form_of x (by rw [h]; unfold KindIn; omega)
 have hc : ∀ W, Calls Try.prog 93 #[.agg #[.int .i64 0, .string ⟨x.name.toArray⟩, .int .i64 x.low, .int .i64 x.high, .int .i64 x.max, .slice A1 x.syms.length c1, .slice A2 x.mems.length c2, .int .i64 x.key, .int .i64 0, .bool x.opn], .agg #[.int .i64 0, .string ⟨#[]⟩, .int .i64 0, .int .i64 0, .int .i64 0, .slice none 0 0, .slice none 0 0, .int .i64 0, .int .i64 0, .bool false]] W fun e w' => e = .returned (.bool (sameZ (restT x) typZ)) ∧ Below W.heap.size W w' := fun W => by
  rw [hrt]
  exact equalz_any ({ x with kind := 0, elem := 0 } : Typ) typZ A1 A2 c1 c2 W
 have hok : okT x = true := by unfold okT; simp [h]
 rw [hok] at hf
 have HC := Lib.hid hc
 clear hc hok hrt
 simp only [typA, h]
 go_enter Try.func67, Try.ntmps67
 go_upto_region 1 with fail
 have hb456 := below_al (Below.refl w.heap.size w) (Nat.le_refl _) (.cells #[.int .i64 9, .string ⟨x.name.toArray⟩, .int .i64 x.low, .int .i64 x.high, .int .i64 x.max, .slice A1 x.syms.length c1, .slice A2 x.mems.length c2, .int .i64 x.key, .int .i64 x.elem, .bool x.opn] 67)
 have T := Has.made w 67 #[.int .i64 9, .string ⟨x.name.toArray⟩, .int .i64 x.low, .int .i64 x.high, .int .i64 x.max, .slice A1 x.syms.length c1, .slice A2 x.mems.length c2, .int .i64 x.key, .int .i64 x.elem, .bool x.opn]
 have hw457 := hb456
 replace T := Lib.hid T
 clear hb456
 generalize (w.alloc (.cells #[.int .i64 9, .string ⟨x.name.toArray⟩, .int .i64 x.low, .int .i64 x.high, .int .i64 x.max, .slice A1 x.syms.length c1, .slice A2 x.mems.length c2, .int .i64 x.key, .int .i64 x.elem, .bool x.opn] 67)) = wd458 at *
 obtain ⟨cT_0, cT_1, cT_2, cT_3, cT_4, cT_5, cT_6, cT_7, cT_8, cT_9⟩ := T.out.c10
 go_upto_region 2 with fail
 clear cT_0 cT_1 cT_2 cT_3 cT_4 cT_5 cT_6 cT_7 cT_8 cT_9
 have hb459 := below_al (Below.refl wd458.heap.size wd458) (Nat.le_refl _) (.cells #[.int .i64 9, .string ⟨x.name.toArray⟩, .int .i64 x.low, .int .i64 x.high, .int .i64 x.max, .slice A1 x.syms.length c1, .slice A2 x.mems.length c2, .int .i64 x.key, .int .i64 x.elem, .bool x.opn] 67)
 have R := Has.made wd458 67 #[.int .i64 9, .string ⟨x.name.toArray⟩, .int .i64 x.low, .int .i64 x.high, .int .i64 x.max, .slice A1 x.syms.length c1, .slice A2 x.mems.length c2, .int .i64 x.key, .int .i64 x.elem, .bool x.opn]
 have hl461 := T.out.here
 have hl462 := hw457.size
 replace T := Lib.hid (T.out.below hb459 T.out.here)
 replace hw457 := hw457.trans (hb459.mono hw457.size)
 replace R := Lib.hid R
 clear hb459
 generalize (wd458.alloc (.cells #[.int .i64 9, .string ⟨x.name.toArray⟩, .int .i64 x.low, .int .i64 x.high, .int .i64 x.max, .slice A1 x.syms.length c1, .slice A2 x.mems.length c2, .int .i64 x.key, .int .i64 x.elem, .bool x.opn] 67)) = wd463 at *
 generalize wd458.heap.size = g460 at *
 have cR_0 : wd463.cell? ⟨g460, 0, none⟩ = some (.int .i64 9) := R.out.cell 0
 have fR_0 := R.out.free 0
 go_upto_region 3 with fail
 clear cR_0 fR_0
 replace T := Lib.hid (T.out.far (p := ⟨g460, 0, none⟩) (show w.heap.size ≠ g460 by omega) (.int .i64 0))
 replace R : Hid (Has (wd463.setCell ⟨g460, 0, none⟩ (.int .i64 0)) (g460) 67 #[.int .i64 0, .string ⟨x.name.toArray⟩, .int .i64 x.low, .int .i64 x.high, .int .i64 x.max, .slice A1 x.syms.length c1, .slice A2 x.mems.length c2, .int .i64 x.key, .int .i64 x.elem, .bool x.opn]) := Lib.hid (by have h := R.out.set 0 (.int .i64 0); simpa using h)
 replace hw457 := below_set hw457 (show w.heap.size ≤ g460 by omega) 0 (.int .i64 0)
 generalize wd463.setCell ⟨g460, 0, none⟩ (.int .i64 0) = wd464 at *
 obtain ⟨cT_0, cT_1, cT_2, cT_3, cT_4, cT_5, cT_6, cT_7, cT_8, cT_9⟩ := T.out.c10
 have Hf : Hid (formB x = sameZ (restT x) typZ) := by show _ = _; rw [hf]; rfl
 clear hf h
 have cR_8 : wd464.cell? ⟨g460, 8, none⟩ = some (.int .i64 x.elem) := R.out.cell 8
 have fR_8 := R.out.free 8
 go_upto_region 29 with fail
 clear cT_0 cT_1 cT_2 cT_3 cT_4 cT_5 cT_6 cT_7 cT_8 cT_9 cR_8 fR_8
 replace T := Lib.hid (T.out.far (p := ⟨g460, 8, none⟩) (show w.heap.size ≠ g460 by omega) (.int .i64 0))
 replace R : Hid (Has (wd464.setCell ⟨g460, 8, none⟩ (.int .i64 0)) (g460) 67 #[.int .i64 0, .string ⟨x.name.toArray⟩, .int .i64 x.low, .int .i64 x.high, .int .i64 x.max, .slice A1 x.syms.length c1, .slice A2 x.mems.length c2, .int .i64 x.key, .int .i64 0, .bool x.opn]) := Lib.hid (by have h := R.out.set 8 (.int .i64 0); simpa using h)
 replace hw457 := below_set hw457 (show w.heap.size ≤ g460 by omega) 8 (.int .i64 0)
 generalize wd464.setCell ⟨g460, 8, none⟩ (.int .i64 0) = wd465 at *
 obtain ⟨cR_0, cR_1, cR_2, cR_3, cR_4, cR_5, cR_6, cR_7, cR_8, cR_9⟩ := R.out.c10
 go_wp2_with fail
 clear cR_0 cR_1 cR_2 cR_3 cR_4 cR_5 cR_6 cR_7 cR_8 cR_9
 ((with_reducible refine (HC.out _).mono ?_); rintro e wd466 ⟨rfl, hb467⟩)
 replace T := Lib.hid (T.out.below hb467 T.out.here)
 replace R := Lib.hid (R.out.below hb467 R.out.here)
 replace hw457 := hw457.trans (hb467.mono hw457.size)
 clear hb467
 go_wp2_with fail
 go_ret
 exact ⟨ret_bool Hf.out.symm, hw457⟩
theorem form5_any (x : Typ) (A1 A2 : Option Addr) (c1 c2 : Nat) (w : World) (h : x.kind = 5) (hl : x.syms.length ≤ 6000000000000 ∧ x.mems.length ≤ 6000000000000) (ht : TypAt w w.heap.size x (.slice A1 x.syms.length c1) (.slice A2 x.mems.length c2)) :
  Calls Try.prog 67 #[typA x (.slice A1 x.syms.length c1) (.slice A2 x.mems.length c2)] w fun e w' => e = .returned (.bool (formB x)) ∧ Below w.heap.size w w' := by
 cases ho : x.opn with
 | true => exact form5true_any x A1 A2 c1 c2 w h ho hl ht
 | false => exact form5false_any x A1 A2 c1 c2 w h ho hl ht
theorem form6_any (x : Typ) (A1 A2 : Option Addr) (c1 c2 : Nat) (w : World) (h : x.kind = 6) (hl : x.syms.length ≤ 6000000000000 ∧ x.mems.length ≤ 6000000000000) (ht : TypAt w w.heap.size x (.slice A1 x.syms.length c1) (.slice A2 x.mems.length c2)) :
  Calls Try.prog 67 #[typA x (.slice A1 x.syms.length c1) (.slice A2 x.mems.length c2)] w fun e w' => e = .returned (.bool (formB x)) ∧ Below w.heap.size w w' := by
 cases ho : x.opn with
 | true => exact form6true_any x A1 A2 c1 c2 w h ho hl ht
 | false => exact form6false_any x A1 A2 c1 c2 w h ho hl ht
set_option maxRecDepth 100000 in
set_option maxHeartbeats 800000 in
theorem form0_any (x : Typ) (A1 A2 : Option Addr) (c1 c2 : Nat) (w : World) (h : ¬ KindIn x.kind) :
  Calls Try.prog 67 #[typA x (.slice A1 x.syms.length c1) (.slice A2 x.mems.length c2)] w fun e w' => e = .returned (.bool (formB x)) ∧ Below w.heap.size w w' := by
 have Hf : Hid (formB x = false) := by show _ = _; unfold formB; rw [decide_eq_false (by unfold KindIn at h; exact h)]; rfl
 have t1 : (x.kind == 1) = false := beq_eq_false_iff_ne.2 (fun e => h (by rw [e]; unfold KindIn; omega))
 have t2 : (x.kind == 2) = false := beq_eq_false_iff_ne.2 (fun e => h (by rw [e]; unfold KindIn; omega))
 have t3 : (x.kind == 3) = false := beq_eq_false_iff_ne.2 (fun e => h (by rw [e]; unfold KindIn; omega))
 have t4 : (x.kind == 4) = false := beq_eq_false_iff_ne.2 (fun e => h (by rw [e]; unfold KindIn; omega))
 have t5 : (x.kind == 5) = false := beq_eq_false_iff_ne.2 (fun e => h (by rw [e]; unfold KindIn; omega))
 have t6 : (x.kind == 6) = false := beq_eq_false_iff_ne.2 (fun e => h (by rw [e]; unfold KindIn; omega))
 have t7 : (x.kind == 7) = false := beq_eq_false_iff_ne.2 (fun e => h (by rw [e]; unfold KindIn; omega))
 have t8 : (x.kind == 8) = false := beq_eq_false_iff_ne.2 (fun e => h (by rw [e]; unfold KindIn; omega))
 have t9 : (x.kind == 9) = false := beq_eq_false_iff_ne.2 (fun e => h (by rw [e]; unfold KindIn; omega))
 clear h
 go_enter Try.func67, Try.ntmps67
 go_upto_region 1 with fail
 have hb468 := below_al (Below.refl w.heap.size w) (Nat.le_refl _) (.cells #[.int .i64 x.kind, .string ⟨x.name.toArray⟩, .int .i64 x.low, .int .i64 x.high, .int .i64 x.max, .slice A1 x.syms.length c1, .slice A2 x.mems.length c2, .int .i64 x.key, .int .i64 x.elem, .bool x.opn] 67)
 have T := Has.made w 67 #[.int .i64 x.kind, .string ⟨x.name.toArray⟩, .int .i64 x.low, .int .i64 x.high, .int .i64 x.max, .slice A1 x.syms.length c1, .slice A2 x.mems.length c2, .int .i64 x.key, .int .i64 x.elem, .bool x.opn]
 have hw469 := hb468
 replace T := Lib.hid T
 clear hb468
 generalize (w.alloc (.cells #[.int .i64 x.kind, .string ⟨x.name.toArray⟩, .int .i64 x.low, .int .i64 x.high, .int .i64 x.max, .slice A1 x.syms.length c1, .slice A2 x.mems.length c2, .int .i64 x.key, .int .i64 x.elem, .bool x.opn] 67)) = wd470 at *
 obtain ⟨cT_0, cT_1, cT_2, cT_3, cT_4, cT_5, cT_6, cT_7, cT_8, cT_9⟩ := T.out.c10
 go_upto_region 2 with fail
 clear cT_0 cT_1 cT_2 cT_3 cT_4 cT_5 cT_6 cT_7 cT_8 cT_9
 have hb471 := below_al (Below.refl wd470.heap.size wd470) (Nat.le_refl _) (.cells #[.int .i64 x.kind, .string ⟨x.name.toArray⟩, .int .i64 x.low, .int .i64 x.high, .int .i64 x.max, .slice A1 x.syms.length c1, .slice A2 x.mems.length c2, .int .i64 x.key, .int .i64 x.elem, .bool x.opn] 67)
 have R := Has.made wd470 67 #[.int .i64 x.kind, .string ⟨x.name.toArray⟩, .int .i64 x.low, .int .i64 x.high, .int .i64 x.max, .slice A1 x.syms.length c1, .slice A2 x.mems.length c2, .int .i64 x.key, .int .i64 x.elem, .bool x.opn]
 have hl473 := T.out.here
 have hl474 := hw469.size
 replace T := Lib.hid (T.out.below hb471 T.out.here)
 replace hw469 := hw469.trans (hb471.mono hw469.size)
 replace R := Lib.hid R
 clear hb471
 generalize (wd470.alloc (.cells #[.int .i64 x.kind, .string ⟨x.name.toArray⟩, .int .i64 x.low, .int .i64 x.high, .int .i64 x.max, .slice A1 x.syms.length c1, .slice A2 x.mems.length c2, .int .i64 x.key, .int .i64 x.elem, .bool x.opn] 67)) = wd475 at *
 generalize wd470.heap.size = g472 at *
 have cR_0 : wd475.cell? ⟨g472, 0, none⟩ = some (.int .i64 x.kind) := R.out.cell 0
 have fR_0 := R.out.free 0
 go_upto_region 3 with fail
 clear cR_0 fR_0
 replace T := Lib.hid (T.out.far (p := ⟨g472, 0, none⟩) (show w.heap.size ≠ g472 by omega) (.int .i64 0))
 replace R : Hid (Has (wd475.setCell ⟨g472, 0, none⟩ (.int .i64 0)) (g472) 67 #[.int .i64 0, .string ⟨x.name.toArray⟩, .int .i64 x.low, .int .i64 x.high, .int .i64 x.max, .slice A1 x.syms.length c1, .slice A2 x.mems.length c2, .int .i64 x.key, .int .i64 x.elem, .bool x.opn]) := Lib.hid (by have h := R.out.set 0 (.int .i64 0); simpa using h)
 replace hw469 := below_set hw469 (show w.heap.size ≤ g472 by omega) 0 (.int .i64 0)
 generalize wd475.setCell ⟨g472, 0, none⟩ (.int .i64 0) = wd476 at *
 obtain ⟨cT_0, cT_1, cT_2, cT_3, cT_4, cT_5, cT_6, cT_7, cT_8, cT_9⟩ := T.out.c10
 go_wp2_with fail
 go_ret
 exact ⟨ret_bool Hf.out.symm, hw469⟩
theorem form_any (x : Typ) (vs vm : Value) (w : World) (hl : x.syms.length ≤ 6000000000000 ∧ x.mems.length ≤ 6000000000000) (ht : TypAt w w.heap.size x vs vm) :
  Calls Try.prog 67 #[typA x vs vm] w fun e w' => e = .returned (.bool (formB x)) ∧ Below w.heap.size w w' := by
 obtain ⟨A1, c1, A2, c2, rfl, rfl, -, -⟩ := ht.forms
 by_cases hk : KindIn x.kind
 ·
  rcases kind_cases hk with h | h | h | h | h | h | h | h | h
  ·
   exact form1_any x A1 A2 c1 c2 w h hl ht
  ·
   exact form2_any x A1 A2 c1 c2 w h hl ht
  ·
   exact form3_any x A1 A2 c1 c2 w h hl ht
  ·
   exact form4_any x A1 A2 c1 c2 w h hl ht
  ·
   exact form5_any x A1 A2 c1 c2 w h hl ht
  ·
   exact form6_any x A1 A2 c1 c2 w h hl ht
  ·
   exact form7_any x A1 A2 c1 c2 w h hl ht
  ·
   exact form8_any x A1 A2 c1 c2 w h hl ht
  ·
   exact form9_any x A1 A2 c1 c2 w h hl ht
 ·
  exact form0_any x A1 A2 c1 c2 w hk
end Go.Proofs.Ytjajgclchapllaa
namespace Go.Proofs.Ytjajgclchapllaa
open Go.ChangeShapes Go.WideShapes Go.ChangeAt Go.RowKit
def namedI (k : Int) : Bool := decide (k = 4 ∨ k = 5 ∨ k = 6)
set_option maxRecDepth 100000 in
theorem named2_any (k : Int) (w : World) : Calls Try.prog 41 #[.int .i64 k] w fun e w' => e = .returned (.bool (namedI k)) ∧ w = w' := by
 have Hd : Hid (namedI k = ((k == 4) || ((k == 5) || (k == 6)))) := by show _ = _; unfold namedI; rw [Bool.eq_iff_iff]; simp
 go_enter Try.func41, Try.ntmps41
 go_wp2
 all_goals
  go_ret
  exact ⟨ret_bool (by rw [Hd.out]; first | rfl | (simp; done) | (rw [Bool.eq_iff_iff]; simp; omega) | simp_all), rfl⟩
def plainT (x : Typ) : Typ :=
 if x.kind = 1 then { typZ with kind := x.kind }
 else if x.kind = 2 then { typZ with kind := x.kind, low := x.low, high := x.high }
 else if x.kind = 3 then { typZ with kind := x.kind, max := x.max }
 else if x.kind = 4 then { typZ with kind := x.kind, name := x.name, syms := x.syms, opn := x.opn }
 else if x.kind = 5 then { typZ with kind := x.kind, name := x.name, mems := x.mems }
 else if x.kind = 6 then { typZ with kind := x.kind, name := x.name, mems := x.mems, opn := x.opn }
 else if x.kind = 7 then { typZ with kind := x.kind, max := x.max, elem := x.elem }
 else if x.kind = 8 then { typZ with kind := x.kind, max := x.max, key := x.key, elem := x.elem }
 else { typZ with kind := x.kind, elem := x.elem }
def plainS (x : Typ) (vs : Value) : Value := if x.kind = 4 then vs else .slice none 0 0
def plainM (x : Typ) (vm : Value) : Value := if x.kind = 5 ∨ x.kind = 6 then vm else .slice none 0 0
set_option maxRecDepth 100000 in
set_option maxHeartbeats 1600000 in
theorem plain1_any (x : Typ) (A1 A2 : Option Addr) (c1 c2 : Nat) (w : World) (h : x.kind = 1) :
  Calls Try.prog 95 #[typA x (.slice A1 x.syms.length c1) (.slice A2 x.mems.length c2)] w fun e w' => e = .returned (typA (plainT x) (plainS x (.slice A1 x.syms.length c1)) (plainM x (.slice A2 x.mems.length c2))) ∧ Below w.heap.size w w' := by
 have hres : typA (plainT x) (plainS x (.slice A1 x.syms.length c1)) (plainM x (.slice A2 x.mems.length c2)) = .agg #[.int .i64 1, .string ⟨#[]⟩, .int .i64 0, .int .i64 0, .int .i64 0, .slice none 0 0, .slice none 0 0, .int .i64 0, .int .i64 0, .bool false] := by unfold plainT plainS plainM; simp [h, typZ]
 rw [hres]
 simp only [typA, h]
 clear hres
 go_enter Try.func95, Try.ntmps95
 go_upto_region 1 with fail
 have hb477 := below_al (below_al (Below.refl w.heap.size w) (Nat.le_refl _) (.cells #[.int .i64 1, .string ⟨x.name.toArray⟩, .int .i64 x.low, .int .i64 x.high, .int .i64 x.max, .slice A1 x.syms.length c1, .slice A2 x.mems.length c2, .int .i64 x.key, .int .i64 x.elem, .bool x.opn] 67)) (Nat.le_refl _) (.cells #[.int .i64 0, .string ⟨#[]⟩, .int .i64 0, .int .i64 0, .int .i64 0, .slice none 0 0, .slice none 0 0, .int .i64 0, .int .i64 0, .bool false] 67)
 have T := (Has.made w 67 #[.int .i64 1, .string ⟨x.name.toArray⟩, .int .i64 x.low, .int .i64 x.high, .int .i64 x.max, .slice A1 x.syms.length c1, .slice A2 x.mems.length c2, .int .i64 x.key, .int .i64 x.elem, .bool x.opn]).alloc (.cells #[.int .i64 0, .string ⟨#[]⟩, .int .i64 0, .int .i64 0, .int .i64 0, .slice none 0 0, .slice none 0 0, .int .i64 0, .int .i64 0, .bool false] 67)
 have R := Has.made (w.alloc (.cells #[.int .i64 1, .string ⟨x.name.toArray⟩, .int .i64 x.low, .int .i64 x.high, .int .i64 x.max, .slice A1 x.syms.length c1, .slice A2 x.mems.length c2, .int .i64 x.key, .int .i64 x.elem, .bool x.opn] 67)) 67 #[.int .i64 0, .string ⟨#[]⟩, .int .i64 0, .int .i64 0, .int .i64 0, .slice none 0 0, .slice none 0 0, .int .i64 0, .int .i64 0, .bool false]
 simp only [alloc_hz] at R
 have hw478 := hb477
 replace T := Lib.hid T
 replace R := Lib.hid R
 clear hb477
 generalize ((w.alloc (.cells #[.int .i64 1, .string ⟨x.name.toArray⟩, .int .i64 x.low, .int .i64 x.high, .int .i64 x.max, .slice A1 x.syms.length c1, .slice A2 x.mems.length c2, .int .i64 x.key, .int .i64 x.elem, .bool x.opn] 67)).alloc (.cells #[.int .i64 0, .string ⟨#[]⟩, .int .i64 0, .int .i64 0, .int .i64 0, .slice none 0 0, .slice none 0 0, .int .i64 0, .int .i64 0, .bool false] 67)) = wd479 at *
 obtain ⟨cT_0, cT_1, cT_2, cT_3, cT_4, cT_5, cT_6, cT_7, cT_8, cT_9⟩ := T.out.c10
 go_upto_region 3 with fail
 go_wp2_with (refine wpList_store_row rfl 67 _ _ rfl (w.heap.size + 1) _ rfl rfl 67 _ R.out (by kernel_rfl) rfl (by simp [Value.oneCell']) ?_)
 clear cT_0 cT_1 cT_2 cT_3 cT_4 cT_5 cT_6 cT_7 cT_8 cT_9
 replace T := Lib.hid (has_row (cs' := #[.int .i64 1, .string ⟨#[]⟩, .int .i64 0, .int .i64 0, .int .i64 0, .slice none 0 0, .slice none 0 0, .int .i64 0, .int .i64 0, .bool false]) T.out (show w.heap.size ≠ w.heap.size + 1 by omega))
 replace R : Hid (Has (wd479.setRow (w.heap.size + 1) #[.int .i64 1, .string ⟨#[]⟩, .int .i64 0, .int .i64 0, .int .i64 0, .slice none 0 0, .slice none 0 0, .int .i64 0, .int .i64 0, .bool false]) (w.heap.size + 1) 67 #[.int .i64 1, .string ⟨#[]⟩, .int .i64 0, .int .i64 0, .int .i64 0, .slice none 0 0, .slice none 0 0, .int .i64 0, .int .i64 0, .bool false]) := Lib.hid (row_has R.out _)
 replace hw478 := below_setRow hw478 (show w.heap.size ≤ w.heap.size + 1 by omega) #[.int .i64 1, .string ⟨#[]⟩, .int .i64 0, .int .i64 0, .int .i64 0, .slice none 0 0, .slice none 0 0, .int .i64 0, .int .i64 0, .bool false]
 generalize wd479.setRow (w.heap.size + 1) #[.int .i64 1, .string ⟨#[]⟩, .int .i64 0, .int .i64 0, .int .i64 0, .slice none 0 0, .slice none 0 0, .int .i64 0, .int .i64 0, .bool false] = wd480 at *
 obtain ⟨cR_0, cR_1, cR_2, cR_3, cR_4, cR_5, cR_6, cR_7, cR_8, cR_9⟩ := R.out.c10
 exact bodyPost_ret (v := .agg #[.int .i64 1, .string ⟨#[]⟩, .int .i64 0, .int .i64 0, .int .i64 0, .slice none 0 0, .slice none 0 0, .int .i64 0, .int .i64 0, .bool false]) (by simp [results, Try.results95, go_sem, cR_0, cR_1, cR_2, cR_3, cR_4, cR_5, cR_6, cR_7, cR_8, cR_9]) rfl (⟨rfl, hw478⟩)
set_option maxRecDepth 100000 in
set_option maxHeartbeats 1600000 in
theorem plain2_any (x : Typ) (A1 A2 : Option Addr) (c1 c2 : Nat) (w : World) (h : x.kind = 2) :
  Calls Try.prog 95 #[typA x (.slice A1 x.syms.length c1) (.slice A2 x.mems.length c2)] w fun e w' => e = .returned (typA (plainT x) (plainS x (.slice A1 x.syms.length c1)) (plainM x (.slice A2 x.mems.length c2))) ∧ Below w.heap.size w w' := by
 have hres : typA (plainT x) (plainS x (.slice A1 x.syms.length c1)) (plainM x (.slice A2 x.mems.length c2)) = .agg #[.int .i64 2, .string ⟨#[]⟩, .int .i64 x.low, .int .i64 x.high, .int .i64 0, .slice none 0 0, .slice none 0 0, .int .i64 0, .int .i64 0, .bool false] := by unfold plainT plainS plainM; simp [h, typZ]
 rw [hres]
 simp only [typA, h]
 clear hres
 go_enter Try.func95, Try.ntmps95
 go_upto_region 1 with fail
 have hb481 := below_al (below_al (Below.refl w.heap.size w) (Nat.le_refl _) (.cells #[.int .i64 2, .string ⟨x.name.toArray⟩, .int .i64 x.low, .int .i64 x.high, .int .i64 x.max, .slice A1 x.syms.length c1, .slice A2 x.mems.length c2, .int .i64 x.key, .int .i64 x.elem, .bool x.opn] 67)) (Nat.le_refl _) (.cells #[.int .i64 0, .string ⟨#[]⟩, .int .i64 0, .int .i64 0, .int .i64 0, .slice none 0 0, .slice none 0 0, .int .i64 0, .int .i64 0, .bool false] 67)
 have T := (Has.made w 67 #[.int .i64 2, .string ⟨x.name.toArray⟩, .int .i64 x.low, .int .i64 x.high, .int .i64 x.max, .slice A1 x.syms.length c1, .slice A2 x.mems.length c2, .int .i64 x.key, .int .i64 x.elem, .bool x.opn]).alloc (.cells #[.int .i64 0, .string ⟨#[]⟩, .int .i64 0, .int .i64 0, .int .i64 0, .slice none 0 0, .slice none 0 0, .int .i64 0, .int .i64 0, .bool false] 67)
 have R := Has.made (w.alloc (.cells #[.int .i64 2, .string ⟨x.name.toArray⟩, .int .i64 x.low, .int .i64 x.high, .int .i64 x.max, .slice A1 x.syms.length c1, .slice A2 x.mems.length c2, .int .i64 x.key, .int .i64 x.elem, .bool x.opn] 67)) 67 #[.int .i64 0, .string ⟨#[]⟩, .int .i64 0, .int .i64 0, .int .i64 0, .slice none 0 0, .slice none 0 0, .int .i64 0, .int .i64 0, .bool false]
 simp only [alloc_hz] at R
 have hw482 := hb481
 replace T := Lib.hid T
 replace R := Lib.hid R
 clear hb481
 generalize ((w.alloc (.cells #[.int .i64 2, .string ⟨x.name.toArray⟩, .int .i64 x.low, .int .i64 x.high, .int .i64 x.max, .slice A1 x.syms.length c1, .slice A2 x.mems.length c2, .int .i64 x.key, .int .i64 x.elem, .bool x.opn] 67)).alloc (.cells #[.int .i64 0, .string ⟨#[]⟩, .int .i64 0, .int .i64 0, .int .i64 0, .slice none 0 0, .slice none 0 0, .int .i64 0, .int .i64 0, .bool false] 67)) = wd483 at *
 obtain ⟨cT_0, cT_1, cT_2, cT_3, cT_4, cT_5, cT_6, cT_7, cT_8, cT_9⟩ := T.out.c10
 go_upto_region 5 with fail
 go_wp2_with (refine wpList_store_row rfl 67 _ _ rfl (w.heap.size + 1) _ rfl rfl 67 _ R.out (by kernel_rfl) rfl (by simp [Value.oneCell']) ?_)
 clear cT_0 cT_1 cT_2 cT_3 cT_4 cT_5 cT_6 cT_7 cT_8 cT_9
 replace T := Lib.hid (has_row (cs' := #[.int .i64 2, .string ⟨#[]⟩, .int .i64 x.low, .int .i64 x.high, .int .i64 0, .slice none 0 0, .slice none 0 0, .int .i64 0, .int .i64 0, .bool false]) T.out (show w.heap.size ≠ w.heap.size + 1 by omega))
 replace R : Hid (Has (wd483.setRow (w.heap.size + 1) #[.int .i64 2, .string ⟨#[]⟩, .int .i64 x.low, .int .i64 x.high, .int .i64 0, .slice none 0 0, .slice none 0 0, .int .i64 0, .int .i64 0, .bool false]) (w.heap.size + 1) 67 #[.int .i64 2, .string ⟨#[]⟩, .int .i64 x.low, .int .i64 x.high, .int .i64 0, .slice none 0 0, .slice none 0 0, .int .i64 0, .int .i64 0, .bool false]) := Lib.hid (row_has R.out _)
 replace hw482 := below_setRow hw482 (show w.heap.size ≤ w.heap.size + 1 by omega) #[.int .i64 2, .string ⟨#[]⟩, .int .i64 x.low, .int .i64 x.high, .int .i64 0, .slice none 0 0, .slice none 0 0, .int .i64 0, .int .i64 0, .bool false]
 generalize wd483.setRow (w.heap.size + 1) #[.int .i64 2, .string ⟨#[]⟩, .int .i64 x.low, .int .i64 x.high, .int .i64 0, .slice none 0 0, .slice none 0 0, .int .i64 0, .int .i64 0, .bool false] = wd484 at *
 obtain ⟨cR_0, cR_1, cR_2, cR_3, cR_4, cR_5, cR_6, cR_7, cR_8, cR_9⟩ := R.out.c10
 exact bodyPost_ret (v := .agg #[.int .i64 2, .string ⟨#[]⟩, .int .i64 x.low, .int .i64 x.high, .int .i64 0, .slice none 0 0, .slice none 0 0, .int .i64 0, .int .i64 0, .bool false]) (by simp [results, Try.results95, go_sem, cR_0, cR_1, cR_2, cR_3, cR_4, cR_5, cR_6, cR_7, cR_8, cR_9]) rfl (⟨rfl, hw482⟩)
set_option maxRecDepth 100000 in
set_option maxHeartbeats 1600000 in
theorem plain3_any (x : Typ) (A1 A2 : Option Addr) (c1 c2 : Nat) (w : World) (h : x.kind = 3) :
  Calls Try.prog 95 #[typA x (.slice A1 x.syms.length c1) (.slice A2 x.mems.length c2)] w fun e w' => e = .returned (typA (plainT x) (plainS x (.slice A1 x.syms.length c1)) (plainM x (.slice A2 x.mems.length c2))) ∧ Below w.heap.size w w' := by
 have hres : typA (plainT x) (plainS x (.slice A1 x.syms.length c1)) (plainM x (.slice A2 x.mems.length c2)) = .agg #[.int .i64 3, .string ⟨#[]⟩, .int .i64 0, .int .i64 0, .int .i64 x.max, .slice none 0 0, .slice none 0 0, .int .i64 0, .int .i64 0, .bool false] := by unfold plainT plainS plainM; simp [h, typZ]
 rw [hres]
 simp only [typA, h]
 clear hres
 go_enter Try.func95, Try.ntmps95
 go_upto_region 1 with fail
 have hb485 := below_al (below_al (Below.refl w.heap.size w) (Nat.le_refl _) (.cells #[.int .i64 3, .string ⟨x.name.toArray⟩, .int .i64 x.low, .int .i64 x.high, .int .i64 x.max, .slice A1 x.syms.length c1, .slice A2 x.mems.length c2, .int .i64 x.key, .int .i64 x.elem, .bool x.opn] 67)) (Nat.le_refl _) (.cells #[.int .i64 0, .string ⟨#[]⟩, .int .i64 0, .int .i64 0, .int .i64 0, .slice none 0 0, .slice none 0 0, .int .i64 0, .int .i64 0, .bool false] 67)
 have T := (Has.made w 67 #[.int .i64 3, .string ⟨x.name.toArray⟩, .int .i64 x.low, .int .i64 x.high, .int .i64 x.max, .slice A1 x.syms.length c1, .slice A2 x.mems.length c2, .int .i64 x.key, .int .i64 x.elem, .bool x.opn]).alloc (.cells #[.int .i64 0, .string ⟨#[]⟩, .int .i64 0, .int .i64 0, .int .i64 0, .slice none 0 0, .slice none 0 0, .int .i64 0, .int .i64 0, .bool false] 67)
 have R := Has.made (w.alloc (.cells #[.int .i64 3, .string ⟨x.name.toArray⟩, .int .i64 x.low, .int .i64 x.high, .int .i64 x.max, .slice A1 x.syms.length c1, .slice A2 x.mems.length c2, .int .i64 x.key, .int .i64 x.elem, .bool x.opn] 67)) 67 #[.int .i64 0, .string ⟨#[]⟩, .int .i64 0, .int .i64 0, .int .i64 0, .slice none 0 0, .slice none 0 0, .int .i64 0, .int .i64 0, .bool false]
 simp only [alloc_hz] at R
 have hw486 := hb485
 replace T := Lib.hid T
 replace R := Lib.hid R
 clear hb485
 generalize ((w.alloc (.cells #[.int .i64 3, .string ⟨x.name.toArray⟩, .int .i64 x.low, .int .i64 x.high, .int .i64 x.max, .slice A1 x.syms.length c1, .slice A2 x.mems.length c2, .int .i64 x.key, .int .i64 x.elem, .bool x.opn] 67)).alloc (.cells #[.int .i64 0, .string ⟨#[]⟩, .int .i64 0, .int .i64 0, .int .i64 0, .slice none 0 0, .slice none 0 0, .int .i64 0, .int .i64 0, .bool false] 67)) = wd487 at *
 obtain ⟨cT_0, cT_1, cT_2, cT_3, cT_4, cT_5, cT_6, cT_7, cT_8, cT_9⟩ := T.out.c10
 go_upto_region 7 with fail
 go_wp2_with (refine wpList_store_row rfl 67 _ _ rfl (w.heap.size + 1) _ rfl rfl 67 _ R.out (by kernel_rfl) rfl (by simp [Value.oneCell']) ?_)
 clear cT_0 cT_1 cT_2 cT_3 cT_4 cT_5 cT_6 cT_7 cT_8 cT_9
 replace T := Lib.hid (has_row (cs' := #[.int .i64 3, .string ⟨#[]⟩, .int .i64 0, .int .i64 0, .int .i64 x.max, .slice none 0 0, .slice none 0 0, .int .i64 0, .int .i64 0, .bool false]) T.out (show w.heap.size ≠ w.heap.size + 1 by omega))
 replace R : Hid (Has (wd487.setRow (w.heap.size + 1) #[.int .i64 3, .string ⟨#[]⟩, .int .i64 0, .int .i64 0, .int .i64 x.max, .slice none 0 0, .slice none 0 0, .int .i64 0, .int .i64 0, .bool false]) (w.heap.size + 1) 67 #[.int .i64 3, .string ⟨#[]⟩, .int .i64 0, .int .i64 0, .int .i64 x.max, .slice none 0 0, .slice none 0 0, .int .i64 0, .int .i64 0, .bool false]) := Lib.hid (row_has R.out _)
 replace hw486 := below_setRow hw486 (show w.heap.size ≤ w.heap.size + 1 by omega) #[.int .i64 3, .string ⟨#[]⟩, .int .i64 0, .int .i64 0, .int .i64 x.max, .slice none 0 0, .slice none 0 0, .int .i64 0, .int .i64 0, .bool false]
 generalize wd487.setRow (w.heap.size + 1) #[.int .i64 3, .string ⟨#[]⟩, .int .i64 0, .int .i64 0, .int .i64 x.max, .slice none 0 0, .slice none 0 0, .int .i64 0, .int .i64 0, .bool false] = wd488 at *
 obtain ⟨cR_0, cR_1, cR_2, cR_3, cR_4, cR_5, cR_6, cR_7, cR_8, cR_9⟩ := R.out.c10
 exact bodyPost_ret (v := .agg #[.int .i64 3, .string ⟨#[]⟩, .int .i64 0, .int .i64 0, .int .i64 x.max, .slice none 0 0, .slice none 0 0, .int .i64 0, .int .i64 0, .bool false]) (by simp [results, Try.results95, go_sem, cR_0, cR_1, cR_2, cR_3, cR_4, cR_5, cR_6, cR_7, cR_8, cR_9]) rfl (⟨rfl, hw486⟩)
set_option maxRecDepth 100000 in
set_option maxHeartbeats 1600000 in
theorem plain4_any (x : Typ) (A1 A2 : Option Addr) (c1 c2 : Nat) (w : World) (h : x.kind = 4) :
  Calls Try.prog 95 #[typA x (.slice A1 x.syms.length c1) (.slice A2 x.mems.length c2)] w fun e w' => e = .returned (typA (plainT x) (plainS x (.slice A1 x.syms.length c1)) (plainM x (.slice A2 x.mems.length c2))) ∧ Below w.heap.size w w' := by
 have hres : typA (plainT x) (plainS x (.slice A1 x.syms.length c1)) (plainM x (.slice A2 x.mems.length c2)) = .agg #[.int .i64 4, .string ⟨x.name.toArray⟩, .int .i64 0, .int .i64 0, .int .i64 0, .slice A1 x.syms.length c1, .slice none 0 0, .int .i64 0, .int .i64 0, .bool x.opn] := by unfold plainT plainS plainM; simp [h, typZ]
 rw [hres]
 simp only [typA, h]
 clear hres
 go_enter Try.func95, Try.ntmps95
 go_upto_region 1 with fail
 have hb489 := below_al (below_al (Below.refl w.heap.size w) (Nat.le_refl _) (.cells #[.int .i64 4, .string ⟨x.name.toArray⟩, .int .i64 x.low, .int .i64 x.high, .int .i64 x.max, .slice A1 x.syms.length c1, .slice A2 x.mems.length c2, .int .i64 x.key, .int .i64 x.elem, .bool x.opn] 67)) (Nat.le_refl _) (.cells #[.int .i64 0, .string ⟨#[]⟩, .int .i64 0, .int .i64 0, .int .i64 0, .slice none 0 0, .slice none 0 0, .int .i64 0, .int .i64 0, .bool false] 67)
 have T := (Has.made w 67 #[.int .i64 4, .string ⟨x.name.toArray⟩, .int .i64 x.low, .int .i64 x.high, .int .i64 x.max, .slice A1 x.syms.length c1, .slice A2 x.mems.length c2, .int .i64 x.key, .int .i64 x.elem, .bool x.opn]).alloc (.cells #[.int .i64 0, .string ⟨#[]⟩, .int .i64 0, .int .i64 0, .int .i64 0, .slice none 0 0, .slice none 0 0, .int .i64 0, .int .i64 0, .bool false] 67)
 have R := Has.made (w.alloc (.cells #[.int .i64 4, .string ⟨x.name.toArray⟩, .int .i64 x.low, .int .i64 x.high, .int .i64 x.max, .slice A1 x.syms.length c1, .slice A2 x.mems.length c2, .int .i64 x.key, .int .i64 x.elem, .bool x.opn] 67)) 67 #[.int .i64 0, .string ⟨#[]⟩, .int .i64 0, .int .i64 0, .int .i64 0, .slice none 0 0, .slice none 0 0, .int .i64 0, .int .i64 0, .bool false]
 simp only [alloc_hz] at R
 have hw490 := hb489
 replace T := Lib.hid T
 replace R := Lib.hid R
 clear hb489
 generalize ((w.alloc (.cells #[.int .i64 4, .string ⟨x.name.toArray⟩, .int .i64 x.low, .int .i64 x.high, .int .i64 x.max, .slice A1 x.syms.length c1, .slice A2 x.mems.length c2, .int .i64 x.key, .int .i64 x.elem, .bool x.opn] 67)).alloc (.cells #[.int .i64 0, .string ⟨#[]⟩, .int .i64 0, .int .i64 0, .int .i64 0, .slice none 0 0, .slice none 0 0, .int .i64 0, .int .i64 0, .bool false] 67)) = wd491 at *
 obtain ⟨cT_0, cT_1, cT_2, cT_3, cT_4, cT_5, cT_6, cT_7, cT_8, cT_9⟩ := T.out.c10
 go_upto_region 9 with fail
 go_wp2_with (refine wpList_store_row rfl 67 _ _ rfl (w.heap.size + 1) _ rfl rfl 67 _ R.out (by kernel_rfl) rfl (by simp [Value.oneCell']) ?_)
 clear cT_0 cT_1 cT_2 cT_3 cT_4 cT_5 cT_6 cT_7 cT_8 cT_9
 replace T := Lib.hid (has_row (cs' := #[.int .i64 4, .string ⟨x.name.toArray⟩, .int .i64 0, .int .i64 0, .int .i64 0, .slice A1 x.syms.length c1, .slice none 0 0, .int .i64 0, .int .i64 0, .bool x.opn]) T.out (show w.heap.size ≠ w.heap.size + 1 by omega))
 replace R : Hid (Has (wd491.setRow (w.heap.size + 1) #[.int .i64 4, .string ⟨x.name.toArray⟩, .int .i64 0, .int .i64 0, .int .i64 0, .slice A1 x.syms.length c1, .slice none 0 0, .int .i64 0, .int .i64 0, .bool x.opn]) (w.heap.size + 1) 67 #[.int .i64 4, .string ⟨x.name.toArray⟩, .int .i64 0, .int .i64 0, .int .i64 0, .slice A1 x.syms.length c1, .slice none 0 0, .int .i64 0, .int .i64 0, .bool x.opn]) := Lib.hid (row_has R.out _)
 replace hw490 := below_setRow hw490 (show w.heap.size ≤ w.heap.size + 1 by omega) #[.int .i64 4, .string ⟨x.name.toArray⟩, .int .i64 0, .int .i64 0, .int .i64 0, .slice A1 x.syms.length c1, .slice none 0 0, .int .i64 0, .int .i64 0, .bool x.opn]
 generalize wd491.setRow (w.heap.size + 1) #[.int .i64 4, .string ⟨x.name.toArray⟩, .int .i64 0, .int .i64 0, .int .i64 0, .slice A1 x.syms.length c1, .slice none 0 0, .int .i64 0, .int .i64 0, .bool x.opn] = wd492 at *
 obtain ⟨cR_0, cR_1, cR_2, cR_3, cR_4, cR_5, cR_6, cR_7, cR_8, cR_9⟩ := R.out.c10
 exact bodyPost_ret (v := .agg #[.int .i64 4, .string ⟨x.name.toArray⟩, .int .i64 0, .int .i64 0, .int .i64 0, .slice A1 x.syms.length c1, .slice none 0 0, .int .i64 0, .int .i64 0, .bool x.opn]) (by simp [results, Try.results95, go_sem, cR_0, cR_1, cR_2, cR_3, cR_4, cR_5, cR_6, cR_7, cR_8, cR_9]) rfl (⟨rfl, hw490⟩)
set_option maxRecDepth 100000 in
set_option maxHeartbeats 1600000 in
theorem plain5_any (x : Typ) (A1 A2 : Option Addr) (c1 c2 : Nat) (w : World) (h : x.kind = 5) :
  Calls Try.prog 95 #[typA x (.slice A1 x.syms.length c1) (.slice A2 x.mems.length c2)] w fun e w' => e = .returned (typA (plainT x) (plainS x (.slice A1 x.syms.length c1)) (plainM x (.slice A2 x.mems.length c2))) ∧ Below w.heap.size w w' := by
 have hres : typA (plainT x) (plainS x (.slice A1 x.syms.length c1)) (plainM x (.slice A2 x.mems.length c2)) = .agg #[.int .i64 5, .string ⟨x.name.toArray⟩, .int .i64 0, .int .i64 0, .int .i64 0, .slice none 0 0, .slice A2 x.mems.length c2, .int .i64 0, .int .i64 0, .bool false] := by unfold plainT plainS plainM; simp [h, typZ]
 rw [hres]
 simp only [typA, h]
 clear hres
 go_enter Try.func95, Try.ntmps95
 go_upto_region 1 with fail
 have hb493 := below_al (below_al (Below.refl w.heap.size w) (Nat.le_refl _) (.cells #[.int .i64 5, .string ⟨x.name.toArray⟩, .int .i64 x.low, .int .i64 x.high, .int .i64 x.max, .slice A1 x.syms.length c1, .slice A2 x.mems.length c2, .int .i64 x.key, .int .i64 x.elem, .bool x.opn] 67)) (Nat.le_refl _) (.cells #[.int .i64 0, .string ⟨#[]⟩, .int .i64 0, .int .i64 0, .int .i64 0, .slice none 0 0, .slice none 0 0, .int .i64 0, .int .i64 0, .bool false] 67)
 have T := (Has.made w 67 #[.int .i64 5, .string ⟨x.name.toArray⟩, .int .i64 x.low, .int .i64 x.high, .int .i64 x.max, .slice A1 x.syms.length c1, .slice A2 x.mems.length c2, .int .i64 x.key, .int .i64 x.elem, .bool x.opn]).alloc (.cells #[.int .i64 0, .string ⟨#[]⟩, .int .i64 0, .int .i64 0, .int .i64 0, .slice none 0 0, .slice none 0 0, .int .i64 0, .int .i64 0, .bool false] 67)
 have R := Has.made (w.alloc (.cells #[.int .i64 5, .string ⟨x.name.toArray⟩, .int .i64 x.low, .int .i64 x.high, .int .i64 x.max, .slice A1 x.syms.length c1, .slice A2 x.mems.length c2, .int .i64 x.key, .int .i64 x.elem, .bool x.opn] 67)) 67 #[.int .i64 0, .string ⟨#[]⟩, .int .i64 0, .int .i64 0, .int .i64 0, .slice none 0 0, .slice none 0 0, .int .i64 0, .int .i64 0, .bool false]
 simp only [alloc_hz] at R
 have hw494 := hb493
 replace T := Lib.hid T
 replace R := Lib.hid R
 clear hb493
 generalize ((w.alloc (.cells #[.int .i64 5, .string ⟨x.name.toArray⟩, .int .i64 x.low, .int .i64 x.high, .int .i64 x.max, .slice A1 x.syms.length c1, .slice A2 x.mems.length c2, .int .i64 x.key, .int .i64 x.elem, .bool x.opn] 67)).alloc (.cells #[.int .i64 0, .string ⟨#[]⟩, .int .i64 0, .int .i64 0, .int .i64 0, .slice none 0 0, .slice none 0 0, .int .i64 0, .int .i64 0, .bool false] 67)) = wd495 at *
 obtain ⟨cT_0, cT_1, cT_2, cT_3, cT_4, cT_5, cT_6, cT_7, cT_8, cT_9⟩ := T.out.c10
 go_upto_region 11 with fail
 go_wp2_with (refine wpList_store_row rfl 67 _ _ rfl (w.heap.size + 1) _ rfl rfl 67 _ R.out (by kernel_rfl) rfl (by simp [Value.oneCell']) ?_)
 clear cT_0 cT_1 cT_2 cT_3 cT_4 cT_5 cT_6 cT_7 cT_8 cT_9
 replace T := Lib.hid (has_row (cs' := #[.int .i64 5, .string ⟨x.name.toArray⟩, .int .i64 0, .int .i64 0, .int .i64 0, .slice none 0 0, .slice A2 x.mems.length c2, .int .i64 0, .int .i64 0, .bool false]) T.out (show w.heap.size ≠ w.heap.size + 1 by omega))
 replace R : Hid (Has (wd495.setRow (w.heap.size + 1) #[.int .i64 5, .string ⟨x.name.toArray⟩, .int .i64 0, .int .i64 0, .int .i64 0, .slice none 0 0, .slice A2 x.mems.length c2, .int .i64 0, .int .i64 0, .bool false]) (w.heap.size + 1) 67 #[.int .i64 5, .string ⟨x.name.toArray⟩, .int .i64 0, .int .i64 0, .int .i64 0, .slice none 0 0, .slice A2 x.mems.length c2, .int .i64 0, .int .i64 0, .bool false]) := Lib.hid (row_has R.out _)
 replace hw494 := below_setRow hw494 (show w.heap.size ≤ w.heap.size + 1 by omega) #[.int .i64 5, .string ⟨x.name.toArray⟩, .int .i64 0, .int .i64 0, .int .i64 0, .slice none 0 0, .slice A2 x.mems.length c2, .int .i64 0, .int .i64 0, .bool false]
 generalize wd495.setRow (w.heap.size + 1) #[.int .i64 5, .string ⟨x.name.toArray⟩, .int .i64 0, .int .i64 0, .int .i64 0, .slice none 0 0, .slice A2 x.mems.length c2, .int .i64 0, .int .i64 0, .bool false] = wd496 at *
 obtain ⟨cR_0, cR_1, cR_2, cR_3, cR_4, cR_5, cR_6, cR_7, cR_8, cR_9⟩ := R.out.c10
 exact bodyPost_ret (v := .agg #[.int .i64 5, .string ⟨x.name.toArray⟩, .int .i64 0, .int .i64 0, .int .i64 0, .slice none 0 0, .slice A2 x.mems.length c2, .int .i64 0, .int .i64 0, .bool false]) (by simp [results, Try.results95, go_sem, cR_0, cR_1, cR_2, cR_3, cR_4, cR_5, cR_6, cR_7, cR_8, cR_9]) rfl (⟨rfl, hw494⟩)
set_option maxRecDepth 100000 in
set_option maxHeartbeats 1600000 in
theorem plain6_any (x : Typ) (A1 A2 : Option Addr) (c1 c2 : Nat) (w : World) (h : x.kind = 6) :
  Calls Try.prog 95 #[typA x (.slice A1 x.syms.length c1) (.slice A2 x.mems.length c2)] w fun e w' => e = .returned (typA (plainT x) (plainS x (.slice A1 x.syms.length c1)) (plainM x (.slice A2 x.mems.length c2))) ∧ Below w.heap.size w w' := by
 have hres : typA (plainT x) (plainS x (.slice A1 x.syms.length c1)) (plainM x (.slice A2 x.mems.length c2)) = .agg #[.int .i64 6, .string ⟨x.name.toArray⟩, .int .i64 0, .int .i64 0, .int .i64 0, .slice none 0 0, .slice A2 x.mems.length c2, .int .i64 0, .int .i64 0, .bool x.opn] := by unfold plainT plainS plainM; simp [h, typZ]
 rw [hres]
 simp only [typA, h]
 clear hres
 go_enter Try.func95, Try.ntmps95
 go_upto_region 1 with fail
 have hb497 := below_al (below_al (Below.refl w.heap.size w) (Nat.le_refl _) (.cells #[.int .i64 6, .string ⟨x.name.toArray⟩, .int .i64 x.low, .int .i64 x.high, .int .i64 x.max, .slice A1 x.syms.length c1, .slice A2 x.mems.length c2, .int .i64 x.key, .int .i64 x.elem, .bool x.opn] 67)) (Nat.le_refl _) (.cells #[.int .i64 0, .string ⟨#[]⟩, .int .i64 0, .int .i64 0, .int .i64 0, .slice none 0 0, .slice none 0 0, .int .i64 0, .int .i64 0, .bool false] 67)
 have T := (Has.made w 67 #[.int .i64 6, .string ⟨x.name.toArray⟩, .int .i64 x.low, .int .i64 x.high, .int .i64 x.max, .slice A1 x.syms.length c1, .slice A2 x.mems.length c2, .int .i64 x.key, .int .i64 x.elem, .bool x.opn]).alloc (.cells #[.int .i64 0, .string ⟨#[]⟩, .int .i64 0, .int .i64 0, .int .i64 0, .slice none 0 0, .slice none 0 0, .int .i64 0, .int .i64 0, .bool false] 67)
 have R := Has.made (w.alloc (.cells #[.int .i64 6, .string ⟨x.name.toArray⟩, .int .i64 x.low, .int .i64 x.high, .int .i64 x.max, .slice A1 x.syms.length c1, .slice A2 x.mems.length c2, .int .i64 x.key, .int .i64 x.elem, .bool x.opn] 67)) 67 #[.int .i64 0, .string ⟨#[]⟩, .int .i64 0, .int .i64 0, .int .i64 0, .slice none 0 0, .slice none 0 0, .int .i64 0, .int .i64 0, .bool false]
 simp only [alloc_hz] at R
 have hw498 := hb497
 replace T := Lib.hid T
 replace R := Lib.hid R
 clear hb497
 generalize ((w.alloc (.cells #[.int .i64 6, .string ⟨x.name.toArray⟩, .int .i64 x.low, .int .i64 x.high, .int .i64 x.max, .slice A1 x.syms.length c1, .slice A2 x.mems.length c2, .int .i64 x.key, .int .i64 x.elem, .bool x.opn] 67)).alloc (.cells #[.int .i64 0, .string ⟨#[]⟩, .int .i64 0, .int .i64 0, .int .i64 0, .slice none 0 0, .slice none 0 0, .int .i64 0, .int .i64 0, .bool false] 67)) = wd499 at *
 obtain ⟨cT_0, cT_1, cT_2, cT_3, cT_4, cT_5, cT_6, cT_7, cT_8, cT_9⟩ := T.out.c10
 go_upto_region 13 with fail
 go_wp2_with (refine wpList_store_row rfl 67 _ _ rfl (w.heap.size + 1) _ rfl rfl 67 _ R.out (by kernel_rfl) rfl (by simp [Value.oneCell']) ?_)
 clear cT_0 cT_1 cT_2 cT_3 cT_4 cT_5 cT_6 cT_7 cT_8 cT_9
 replace T := Lib.hid (has_row (cs' := #[.int .i64 6, .string ⟨x.name.toArray⟩, .int .i64 0, .int .i64 0, .int .i64 0, .slice none 0 0, .slice A2 x.mems.length c2, .int .i64 0, .int .i64 0, .bool x.opn]) T.out (show w.heap.size ≠ w.heap.size + 1 by omega))
 replace R : Hid (Has (wd499.setRow (w.heap.size + 1) #[.int .i64 6, .string ⟨x.name.toArray⟩, .int .i64 0, .int .i64 0, .int .i64 0, .slice none 0 0, .slice A2 x.mems.length c2, .int .i64 0, .int .i64 0, .bool x.opn]) (w.heap.size + 1) 67 #[.int .i64 6, .string ⟨x.name.toArray⟩, .int .i64 0, .int .i64 0, .int .i64 0, .slice none 0 0, .slice A2 x.mems.length c2, .int .i64 0, .int .i64 0, .bool x.opn]) := Lib.hid (row_has R.out _)
 replace hw498 := below_setRow hw498 (show w.heap.size ≤ w.heap.size + 1 by omega) #[.int .i64 6, .string ⟨x.name.toArray⟩, .int .i64 0, .int .i64 0, .int .i64 0, .slice none 0 0, .slice A2 x.mems.length c2, .int .i64 0, .int .i64 0, .bool x.opn]
 generalize wd499.setRow (w.heap.size + 1) #[.int .i64 6, .string ⟨x.name.toArray⟩, .int .i64 0, .int .i64 0, .int .i64 0, .slice none 0 0, .slice A2 x.mems.length c2, .int .i64 0, .int .i64 0, .bool x.opn] = wd500 at *
 obtain ⟨cR_0, cR_1, cR_2, cR_3, cR_4, cR_5, cR_6, cR_7, cR_8, cR_9⟩ := R.out.c10
 exact bodyPost_ret (v := .agg #[.int .i64 6, .string ⟨x.name.toArray⟩, .int .i64 0, .int .i64 0, .int .i64 0, .slice none 0 0, .slice A2 x.mems.length c2, .int .i64 0, .int .i64 0, .bool x.opn]) (by simp [results, Try.results95, go_sem, cR_0, cR_1, cR_2, cR_3, cR_4, cR_5, cR_6, cR_7, cR_8, cR_9]) rfl (⟨rfl, hw498⟩)
set_option maxRecDepth 100000 in
set_option maxHeartbeats 1600000 in
theorem plain7_any (x : Typ) (A1 A2 : Option Addr) (c1 c2 : Nat) (w : World) (h : x.kind = 7) :
  Calls Try.prog 95 #[typA x (.slice A1 x.syms.length c1) (.slice A2 x.mems.length c2)] w fun e w' => e = .returned (typA (plainT x) (plainS x (.slice A1 x.syms.length c1)) (plainM x (.slice A2 x.mems.length c2))) ∧ Below w.heap.size w w' := by
 have hres : typA (plainT x) (plainS x (.slice A1 x.syms.length c1)) (plainM x (.slice A2 x.mems.length c2)) = .agg #[.int .i64 7, .string ⟨#[]⟩, .int .i64 0, .int .i64 0, .int .i64 x.max, .slice none 0 0, .slice none 0 0, .int .i64 0, .int .i64 x.elem, .bool false] := by unfold plainT plainS plainM; simp [h, typZ]
 rw [hres]
 simp only [typA, h]
 clear hres
 go_enter Try.func95, Try.ntmps95
 go_upto_region 1 with fail
 have hb501 := below_al (below_al (Below.refl w.heap.size w) (Nat.le_refl _) (.cells #[.int .i64 7, .string ⟨x.name.toArray⟩, .int .i64 x.low, .int .i64 x.high, .int .i64 x.max, .slice A1 x.syms.length c1, .slice A2 x.mems.length c2, .int .i64 x.key, .int .i64 x.elem, .bool x.opn] 67)) (Nat.le_refl _) (.cells #[.int .i64 0, .string ⟨#[]⟩, .int .i64 0, .int .i64 0, .int .i64 0, .slice none 0 0, .slice none 0 0, .int .i64 0, .int .i64 0, .bool false] 67)
 have T := (Has.made w 67 #[.int .i64 7, .string ⟨x.name.toArray⟩, .int .i64 x.low, .int .i64 x.high, .int .i64 x.max, .slice A1 x.syms.length c1, .slice A2 x.mems.length c2, .int .i64 x.key, .int .i64 x.elem, .bool x.opn]).alloc (.cells #[.int .i64 0, .string ⟨#[]⟩, .int .i64 0, .int .i64 0, .int .i64 0, .slice none 0 0, .slice none 0 0, .int .i64 0, .int .i64 0, .bool false] 67)
 have R := Has.made (w.alloc (.cells #[.int .i64 7, .string ⟨x.name.toArray⟩, .int .i64 x.low, .int .i64 x.high, .int .i64 x.max, .slice A1 x.syms.length c1, .slice A2 x.mems.length c2, .int .i64 x.key, .int .i64 x.elem, .bool x.opn] 67)) 67 #[.int .i64 0, .string ⟨#[]⟩, .int .i64 0, .int .i64 0, .int .i64 0, .slice none 0 0, .slice none 0 0, .int .i64 0, .int .i64 0, .bool false]
 simp only [alloc_hz] at R
 have hw502 := hb501
 replace T := Lib.hid T
 replace R := Lib.hid R
 clear hb501
 generalize ((w.alloc (.cells #[.int .i64 7, .string ⟨x.name.toArray⟩, .int .i64 x.low, .int .i64 x.high, .int .i64 x.max, .slice A1 x.syms.length c1, .slice A2 x.mems.length c2, .int .i64 x.key, .int .i64 x.elem, .bool x.opn] 67)).alloc (.cells #[.int .i64 0, .string ⟨#[]⟩, .int .i64 0, .int .i64 0, .int .i64 0, .slice none 0 0, .slice none 0 0, .int .i64 0, .int .i64 0, .bool false] 67)) = wd503 at *
 obtain ⟨cT_0, cT_1, cT_2, cT_3, cT_4, cT_5, cT_6, cT_7, cT_8, cT_9⟩ := T.out.c10
 go_upto_region 15 with fail
 go_wp2_with (refine wpList_store_row rfl 67 _ _ rfl (w.heap.size + 1) _ rfl rfl 67 _ R.out (by kernel_rfl) rfl (by simp [Value.oneCell']) ?_)
 clear cT_0 cT_1 cT_2 cT_3 cT_4 cT_5 cT_6 cT_7 cT_8 cT_9
 replace T := Lib.hid (has_row (cs' := #[.int .i64 7, .string ⟨#[]⟩, .int .i64 0, .int .i64 0, .int .i64 x.max, .slice none 0 0, .slice none 0 0, .int .i64 0, .int .i64 x.elem, .bool false]) T.out (show w.heap.size ≠ w.heap.size + 1 by omega))
 replace R : Hid (Has (wd503.setRow (w.heap.size + 1) #[.int .i64 7, .string ⟨#[]⟩, .int .i64 0, .int .i64 0, .int .i64 x.max, .slice none 0 0, .slice none 0 0, .int .i64 0, .int .i64 x.elem, .bool false]) (w.heap.size + 1) 67 #[.int .i64 7, .string ⟨#[]⟩, .int .i64 0, .int .i64 0, .int .i64 x.max, .slice none 0 0, .slice none 0 0, .int .i64 0, .int .i64 x.elem, .bool false]) := Lib.hid (row_has R.out _)
 replace hw502 := below_setRow hw502 (show w.heap.size ≤ w.heap.size + 1 by omega) #[.int .i64 7, .string ⟨#[]⟩, .int .i64 0, .int .i64 0, .int .i64 x.max, .slice none 0 0, .slice none 0 0, .int .i64 0, .int .i64 x.elem, .bool false]
 generalize wd503.setRow (w.heap.size + 1) #[.int .i64 7, .string ⟨#[]⟩, .int .i64 0, .int .i64 0, .int .i64 x.max, .slice none 0 0, .slice none 0 0, .int .i64 0, .int .i64 x.elem, .bool false] = wd504 at *
 obtain ⟨cR_0, cR_1, cR_2, cR_3, cR_4, cR_5, cR_6, cR_7, cR_8, cR_9⟩ := R.out.c10
 exact bodyPost_ret (v := .agg #[.int .i64 7, .string ⟨#[]⟩, .int .i64 0, .int .i64 0, .int .i64 x.max, .slice none 0 0, .slice none 0 0, .int .i64 0, .int .i64 x.elem, .bool false]) (by simp [results, Try.results95, go_sem, cR_0, cR_1, cR_2, cR_3, cR_4, cR_5, cR_6, cR_7, cR_8, cR_9]) rfl (⟨rfl, hw502⟩)
set_option maxRecDepth 100000 in
set_option maxHeartbeats 1600000 in
theorem plain8_any (x : Typ) (A1 A2 : Option Addr) (c1 c2 : Nat) (w : World) (h : x.kind = 8) :
  Calls Try.prog 95 #[typA x (.slice A1 x.syms.length c1) (.slice A2 x.mems.length c2)] w fun e w' => e = .returned (typA (plainT x) (plainS x (.slice A1 x.syms.length c1)) (plainM x (.slice A2 x.mems.length c2))) ∧ Below w.heap.size w w' := by
 have hres : typA (plainT x) (plainS x (.slice A1 x.syms.length c1)) (plainM x (.slice A2 x.mems.length c2)) = .agg #[.int .i64 8, .string ⟨#[]⟩, .int .i64 0, .int .i64 0, .int .i64 x.max, .slice none 0 0, .slice none 0 0, .int .i64 x.key, .int .i64 x.elem, .bool false] := by unfold plainT plainS plainM; simp [h, typZ]
 rw [hres]
 simp only [typA, h]
 clear hres
 go_enter Try.func95, Try.ntmps95
 go_upto_region 1 with fail
 have hb505 := below_al (below_al (Below.refl w.heap.size w) (Nat.le_refl _) (.cells #[.int .i64 8, .string ⟨x.name.toArray⟩, .int .i64 x.low, .int .i64 x.high, .int .i64 x.max, .slice A1 x.syms.length c1, .slice A2 x.mems.length c2, .int .i64 x.key, .int .i64 x.elem, .bool x.opn] 67)) (Nat.le_refl _) (.cells #[.int .i64 0, .string ⟨#[]⟩, .int .i64 0, .int .i64 0, .int .i64 0, .slice none 0 0, .slice none 0 0, .int .i64 0, .int .i64 0, .bool false] 67)
 have T := (Has.made w 67 #[.int .i64 8, .string ⟨x.name.toArray⟩, .int .i64 x.low, .int .i64 x.high, .int .i64 x.max, .slice A1 x.syms.length c1, .slice A2 x.mems.length c2, .int .i64 x.key, .int .i64 x.elem, .bool x.opn]).alloc (.cells #[.int .i64 0, .string ⟨#[]⟩, .int .i64 0, .int .i64 0, .int .i64 0, .slice none 0 0, .slice none 0 0, .int .i64 0, .int .i64 0, .bool false] 67)
 have R := Has.made (w.alloc (.cells #[.int .i64 8, .string ⟨x.name.toArray⟩, .int .i64 x.low, .int .i64 x.high, .int .i64 x.max, .slice A1 x.syms.length c1, .slice A2 x.mems.length c2, .int .i64 x.key, .int .i64 x.elem, .bool x.opn] 67)) 67 #[.int .i64 0, .string ⟨#[]⟩, .int .i64 0, .int .i64 0, .int .i64 0, .slice none 0 0, .slice none 0 0, .int .i64 0, .int .i64 0, .bool false]
 simp only [alloc_hz] at R
 have hw506 := hb505
 replace T := Lib.hid T
 replace R := Lib.hid R
 clear hb505
 generalize ((w.alloc (.cells #[.int .i64 8, .string ⟨x.name.toArray⟩, .int .i64 x.low, .int .i64 x.high, .int .i64 x.max, .slice A1 x.syms.length c1, .slice A2 x.mems.length c2, .int .i64 x.key, .int .i64 x.elem, .bool x.opn] 67)).alloc (.cells #[.int .i64 0, .string ⟨#[]⟩, .int .i64 0, .int .i64 0, .int .i64 0, .slice none 0 0, .slice none 0 0, .int .i64 0, .int .i64 0, .bool false] 67)) = wd507 at *
 obtain ⟨cT_0, cT_1, cT_2, cT_3, cT_4, cT_5, cT_6, cT_7, cT_8, cT_9⟩ := T.out.c10
 go_upto_region 17 with fail
 go_wp2_with (refine wpList_store_row rfl 67 _ _ rfl (w.heap.size + 1) _ rfl rfl 67 _ R.out (by kernel_rfl) rfl (by simp [Value.oneCell']) ?_)
 clear cT_0 cT_1 cT_2 cT_3 cT_4 cT_5 cT_6 cT_7 cT_8 cT_9
 replace T := Lib.hid (has_row (cs' := #[.int .i64 8, .string ⟨#[]⟩, .int .i64 0, .int .i64 0, .int .i64 x.max, .slice none 0 0, .slice none 0 0, .int .i64 x.key, .int .i64 x.elem, .bool false]) T.out (show w.heap.size ≠ w.heap.size + 1 by omega))
 replace R : Hid (Has (wd507.setRow (w.heap.size + 1) #[.int .i64 8, .string ⟨#[]⟩, .int .i64 0, .int .i64 0, .int .i64 x.max, .slice none 0 0, .slice none 0 0, .int .i64 x.key, .int .i64 x.elem, .bool false]) (w.heap.size + 1) 67 #[.int .i64 8, .string ⟨#[]⟩, .int .i64 0, .int .i64 0, .int .i64 x.max, .slice none 0 0, .slice none 0 0, .int .i64 x.key, .int .i64 x.elem, .bool false]) := Lib.hid (row_has R.out _)
 replace hw506 := below_setRow hw506 (show w.heap.size ≤ w.heap.size + 1 by omega) #[.int .i64 8, .string ⟨#[]⟩, .int .i64 0, .int .i64 0, .int .i64 x.max, .slice none 0 0, .slice none 0 0, .int .i64 x.key, .int .i64 x.elem, .bool false]
 generalize wd507.setRow (w.heap.size + 1) #[.int .i64 8, .string ⟨#[]⟩, .int .i64 0, .int .i64 0, .int .i64 x.max, .slice none 0 0, .slice none 0 0, .int .i64 x.key, .int .i64 x.elem, .bool false] = wd508 at *
 obtain ⟨cR_0, cR_1, cR_2, cR_3, cR_4, cR_5, cR_6, cR_7, cR_8, cR_9⟩ := R.out.c10
 exact bodyPost_ret (v := .agg #[.int .i64 8, .string ⟨#[]⟩, .int .i64 0, .int .i64 0, .int .i64 x.max, .slice none 0 0, .slice none 0 0, .int .i64 x.key, .int .i64 x.elem, .bool false]) (by simp [results, Try.results95, go_sem, cR_0, cR_1, cR_2, cR_3, cR_4, cR_5, cR_6, cR_7, cR_8, cR_9]) rfl (⟨rfl, hw506⟩)
set_option maxRecDepth 100000 in
set_option maxHeartbeats 1600000 in
theorem plain9_any (x : Typ) (A1 A2 : Option Addr) (c1 c2 : Nat) (w : World) (h : x.kind = 9) :
  Calls Try.prog 95 #[typA x (.slice A1 x.syms.length c1) (.slice A2 x.mems.length c2)] w fun e w' => e = .returned (typA (plainT x) (plainS x (.slice A1 x.syms.length c1)) (plainM x (.slice A2 x.mems.length c2))) ∧ Below w.heap.size w w' := by
 have hres : typA (plainT x) (plainS x (.slice A1 x.syms.length c1)) (plainM x (.slice A2 x.mems.length c2)) = .agg #[.int .i64 9, .string ⟨#[]⟩, .int .i64 0, .int .i64 0, .int .i64 0, .slice none 0 0, .slice none 0 0, .int .i64 0, .int .i64 x.elem, .bool false] := by unfold plainT plainS plainM; simp [h, typZ]
 rw [hres]
 simp only [typA, h]
 clear hres
 go_enter Try.func95, Try.ntmps95
 go_upto_region 1 with fail
 have hb509 := below_al (below_al (Below.refl w.heap.size w) (Nat.le_refl _) (.cells #[.int .i64 9, .string ⟨x.name.toArray⟩, .int .i64 x.low, .int .i64 x.high, .int .i64 x.max, .slice A1 x.syms.length c1, .slice A2 x.mems.length c2, .int .i64 x.key, .int .i64 x.elem, .bool x.opn] 67)) (Nat.le_refl _) (.cells #[.int .i64 0, .string ⟨#[]⟩, .int .i64 0, .int .i64 0, .int .i64 0, .slice none 0 0, .slice none 0 0, .int .i64 0, .int .i64 0, .bool false] 67)
 have T := (Has.made w 67 #[.int .i64 9, .string ⟨x.name.toArray⟩, .int .i64 x.low, .int .i64 x.high, .int .i64 x.max, .slice A1 x.syms.length c1, .slice A2 x.mems.length c2, .int .i64 x.key, .int .i64 x.elem, .bool x.opn]).alloc (.cells #[.int .i64 0, .string ⟨#[]⟩, .int .i64 0, .int .i64 0, .int .i64 0, .slice none 0 0, .slice none 0 0, .int .i64 0, .int .i64 0, .bool false] 67)
 have R := Has.made (w.alloc (.cells #[.int .i64 9, .string ⟨x.name.toArray⟩, .int .i64 x.low, .int .i64 x.high, .int .i64 x.max, .slice A1 x.syms.length c1, .slice A2 x.mems.length c2, .int .i64 x.key, .int .i64 x.elem, .bool x.opn] 67)) 67 #[.int .i64 0, .string ⟨#[]⟩, .int .i64 0, .int .i64 0, .int .i64 0, .slice none 0 0, .slice none 0 0, .int .i64 0, .int .i64 0, .bool false]
 simp only [alloc_hz] at R
 have hw510 := hb509
 replace T := Lib.hid T
 replace R := Lib.hid R
 clear hb509
 generalize ((w.alloc (.cells #[.int .i64 9, .string ⟨x.name.toArray⟩, .int .i64 x.low, .int .i64 x.high, .int .i64 x.max, .slice A1 x.syms.length c1, .slice A2 x.mems.length c2, .int .i64 x.key, .int .i64 x.elem, .bool x.opn] 67)).alloc (.cells #[.int .i64 0, .string ⟨#[]⟩, .int .i64 0, .int .i64 0, .int .i64 0, .slice none 0 0, .slice none 0 0, .int .i64 0, .int .i64 0, .bool false] 67)) = wd511 at *
 obtain ⟨cT_0, cT_1, cT_2, cT_3, cT_4, cT_5, cT_6, cT_7, cT_8, cT_9⟩ := T.out.c10
 go_upto_region 18 with fail
 go_wp2_with (refine wpList_store_row rfl 67 _ _ rfl (w.heap.size + 1) _ rfl rfl 67 _ R.out (by kernel_rfl) rfl (by simp [Value.oneCell']) ?_)
 clear cT_0 cT_1 cT_2 cT_3 cT_4 cT_5 cT_6 cT_7 cT_8 cT_9
 replace T := Lib.hid (has_row (cs' := #[.int .i64 9, .string ⟨#[]⟩, .int .i64 0, .int .i64 0, .int .i64 0, .slice none 0 0, .slice none 0 0, .int .i64 0, .int .i64 x.elem, .bool false]) T.out (show w.heap.size ≠ w.heap.size + 1 by omega))
 replace R : Hid (Has (wd511.setRow (w.heap.size + 1) #[.int .i64 9, .string ⟨#[]⟩, .int .i64 0, .int .i64 0, .int .i64 0, .slice none 0 0, .slice none 0 0, .int .i64 0, .int .i64 x.elem, .bool false]) (w.heap.size + 1) 67 #[.int .i64 9, .string ⟨#[]⟩, .int .i64 0, .int .i64 0, .int .i64 0, .slice none 0 0, .slice none 0 0, .int .i64 0, .int .i64 x.elem, .bool false]) := Lib.hid (row_has R.out _)
 replace hw510 := below_setRow hw510 (show w.heap.size ≤ w.heap.size + 1 by omega) #[.int .i64 9, .string ⟨#[]⟩, .int .i64 0, .int .i64 0, .int .i64 0, .slice none 0 0, .slice none 0 0, .int .i64 0, .int .i64 x.elem, .bool false]
 generalize wd511.setRow (w.heap.size + 1) #[.int .i64 9, .string ⟨#[]⟩, .int .i64 0, .int .i64 0, .int .i64 0, .slice none 0 0, .slice none 0 0, .int .i64 0, .int .i64 x.elem, .bool false] = wd512 at *
 obtain ⟨cR_0, cR_1, cR_2, cR_3, cR_4, cR_5, cR_6, cR_7, cR_8, cR_9⟩ := R.out.c10
 exact bodyPost_ret (v := .agg #[.int .i64 9, .string ⟨#[]⟩, .int .i64 0, .int .i64 0, .int .i64 0, .slice none 0 0, .slice none 0 0, .int .i64 0, .int .i64 x.elem, .bool false]) (by simp [results, Try.results95, go_sem, cR_0, cR_1, cR_2, cR_3, cR_4, cR_5, cR_6, cR_7, cR_8, cR_9]) rfl (⟨rfl, hw510⟩)
theorem plain_any (x : Typ) (vs vm : Value) (w : World) (hk : KindIn x.kind) (hs : ∃ A1 c1, vs = .slice A1 x.syms.length c1) (hm : ∃ A2 c2, vm = .slice A2 x.mems.length c2) :
  Calls Try.prog 95 #[typA x vs vm] w fun e w' => e = .returned (typA (plainT x) (plainS x vs) (plainM x vm)) ∧ Below w.heap.size w w' := by
 obtain ⟨A1, c1, rfl⟩ := hs
 obtain ⟨A2, c2, rfl⟩ := hm
 rcases kind_cases hk with h | h | h | h | h | h | h | h | h
 ·
  exact plain1_any x A1 A2 c1 c2 w h
 ·
  exact plain2_any x A1 A2 c1 c2 w h
 ·
  exact plain3_any x A1 A2 c1 c2 w h
 ·
  exact plain4_any x A1 A2 c1 c2 w h
 ·
  exact plain5_any x A1 A2 c1 c2 w h
 ·
  exact plain6_any x A1 A2 c1 c2 w h
 ·
  exact plain7_any x A1 A2 c1 c2 w h
 ·
  exact plain8_any x A1 A2 c1 c2 w h
 ·
  exact plain9_any x A1 A2 c1 c2 w h
end Go.Proofs.Ytjajgclchapllaa

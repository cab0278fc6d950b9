/- What schema.equal computes for a type whose lists are empty, and schema.blank. No condition. -/
import Derived.Test.YtccmmibkihbobaaDoorHAC
import Derived.Test.YtccmmibkihbobaaDoorHAF
set_option maxHeartbeats 8000000
namespace Go.Proofs.YtccmmibkihbobaaDoor
open Go.ChangeShapes Go.WideShapes Go.ChangeAt Go.RowKit
set_option maxRecDepth 100000 in
theorem eqsymz_any (n : Nat) (A : Option Addr) (c : Nat) (w : World) : Calls Tryd.prog 77 #[.slice A n c, .slice none 0 0] w fun e w' => e = .returned (.bool (decide (n = 0))) ∧ w = w' := by
 by_cases h0 : n = 0
 ·
  subst h0
  go_enter Tryd.func77, Tryd.ntmps77
  go_wp2
  refine wp_loop_rounds 1 ?_
  rw [rounds_succ]
  go_wp2
  go_ret
  exact ⟨rfl, rfl⟩
 have Hd : Hid (decide (n = 0) = false) := decide_eq_false h0
 have t : ((n : Int) != 0) = true := by simpa using h0
 go_enter Tryd.func77, Tryd.ntmps77
 go_wp2
 go_ret
 exact ⟨ret_bool Hd.out.symm, rfl⟩
set_option maxRecDepth 100000 in
theorem eqmemz_any (n : Nat) (A : Option Addr) (c : Nat) (w : World) : Calls Tryd.prog 78 #[.slice A n c, .slice none 0 0, .func (.func 79) #[] #[]] w fun e w' => e = .returned (.bool (decide (n = 0))) ∧ w = w' := by
 by_cases h0 : n = 0
 ·
  subst h0
  go_enter Tryd.func78, Tryd.ntmps78
  go_wp2
  refine wp_loop_rounds 1 ?_
  rw [rounds_succ]
  go_wp2
  go_ret
  exact ⟨rfl, rfl⟩
 have Hd : Hid (decide (n = 0) = false) := decide_eq_false h0
 have t : ((n : Int) != 0) = true := by simpa using h0
 go_enter Tryd.func78, Tryd.ntmps78
 go_wp2
 go_ret
 exact ⟨ret_bool Hd.out.symm, rfl⟩
theorem val0_at' (w : World) (B : Nat) : ValAt w B val0 (.slice none 0 0) (.slice none 0 0) (.slice none 0 0) :=
 ⟨⟨by simp [I64, val0, Val.kind], by simp [I64, val0, Val.num], by simp [I64, val0, Val.id]⟩, by simp [val0, Val.str], ⟨by simp [val0, Val.keys], by simp [val0, Val.items], by simp [val0, Val.rest]⟩, by simp [val0, Val.rest],
  ⟨fun _ => [], ⟨none, 0, rfl, Nat.le_refl _, .inl rfl⟩, fun i h => by simp [val0, Val.keys] at h⟩, ⟨fun _ => [], ⟨none, 0, rfl, Nat.le_refl _, .inl rfl⟩, fun i h => by simp [val0, Val.items] at h⟩, Rd.nil_ w B 2⟩
def sameZ (x y : Typ) : Bool := decide (x.kind = y.kind ∧ x.name = y.name ∧ x.low = y.low ∧ x.high = y.high ∧ x.max = y.max ∧ x.key = y.key ∧ x.elem = y.elem ∧ x.opn = y.opn) && (decide (x.syms.length = 0) && decide (x.mems.length = 0))
set_option maxRecDepth 100000 in
theorem equalz_any (x y : Typ) (A1 A2 : Option Addr) (c1 c2 : Nat) (w : World) :
  Calls Tryd.prog 60 #[typA x (.slice A1 x.syms.length c1) (.slice A2 x.mems.length c2), typA y (.slice none 0 0) (.slice none 0 0)] w fun e w' => e = .returned (.bool (sameZ x y)) ∧ Below w.heap.size w w' := by
 by_cases e0 : x.kind = y.kind
 ·
  have t0 : (x.kind == y.kind) = true := by simp [e0]
  by_cases e1 : x.name = y.name
  ·
   have t1 : (x.name == y.name) = true := by simp [e1]
   by_cases e2 : x.low = y.low
   ·
    have t2 : (x.low == y.low) = true := by simp [e2]
    by_cases e3 : x.high = y.high
    ·
     have t3 : (x.high == y.high) = true := by simp [e3]
     by_cases e4 : x.max = y.max
     ·
      have t4 : (x.max == y.max) = true := by simp [e4]
      by_cases e5 : x.key = y.key
      ·
       have t5 : (x.key == y.key) = true := by simp [e5]
       by_cases e6 : x.elem = y.elem
       ·
        have t6 : (x.elem == y.elem) = true := by simp [e6]
        by_cases e7 : x.opn = y.opn
        ·
         have t7 : (x.opn == y.opn) = true := by simp [e7]
         have Hse : Hid (sameZ x y = (decide (x.syms.length = 0) && decide (x.mems.length = 0))) := by show _ = _; unfold sameZ; rw [decide_eq_true ⟨e0, e1, e2, e3, e4, e5, e6, e7⟩]; rfl
         clear e0 e1 e2 e3 e4 e5 e6 e7
         go_enter Tryd.func60, Tryd.ntmps60
         go_upto_region 1 with fail
         obtain ⟨wd2, hE3⟩ : ∃ ww, ww = w.alloc (.cells #[.int .i64 x.kind, .string ⟨x.name.toArray⟩, .int .i64 x.low, .int .i64 x.high, .int .i64 x.max, .slice A1 x.syms.length c1, .slice A2 x.mems.length c2, .int .i64 x.key, .int .i64 x.elem, .bool x.opn] 33) := ⟨_, rfl⟩
         rw [← hE3]
         have hb1 := aB hE3
         have X := aN hE3
         obtain ⟨wd4, hE5⟩ : ∃ ww, ww = wd2.alloc (.cells #[.int .i64 y.kind, .string ⟨y.name.toArray⟩, .int .i64 y.low, .int .i64 y.high, .int .i64 y.max, .slice none 0 0, .slice none 0 0, .int .i64 y.key, .int .i64 y.elem, .bool y.opn] 33) := ⟨_, rfl⟩
         rw [← hE5]
         replace X := dB X (aB hE5)
         replace hb1 := dT hb1 (aB hE5)
         have Y := aM hE5 (aZ hE3 rfl)
         clear hE3 hE5
         have hw6 := hb1
         clear hb1
         obtain ⟨cX_0, cX_1, cX_2, cX_3, cX_4, cX_5, cX_6, cX_7, cX_8, cX_9⟩ := X.out.c10
         obtain ⟨cY_0, cY_1, cY_2, cY_3, cY_4, cY_5, cY_6, cY_7, cY_8, cY_9⟩ := Y.out.c10
         go_wp2_with fail
         clear cX_0 cX_1 cX_2 cX_3 cX_4 cX_5 cX_6 cX_7 cX_8 cX_9 cY_0 cY_1 cY_2 cY_3 cY_4 cY_5 cY_6 cY_7 cY_8 cY_9
         ((with_reducible refine (eqsymz_any _ _ _ _).mono ?_); rintro e wd7 ⟨rfl, rfl⟩)
         cases hs : decide (x.syms.length = 0) with
         | false =>
          rw [hs] at Hse
          clear hs
          go_wp2_with fail
          go_ret
          exact ⟨ret_bool Hse.out.symm, hw6⟩
         | true =>
          rw [hs, Bool.true_and] at Hse
          clear hs
          have cX_6 : wd4.cell? ⟨w.heap.size, 6, none⟩ = some (.slice A2 x.mems.length c2) := X.out.cell 6
          have cY_6 : wd4.cell? ⟨w.heap.size + 1, 6, none⟩ = some (.slice none 0 0) := Y.out.cell 6
          go_wp2_with fail
          clear cX_6 cY_6
          ((with_reducible refine (eqmemz_any _ _ _ _).mono ?_); rintro e wd9 ⟨rfl, rfl⟩)
          generalize decide (x.mems.length = 0) = bm at *
          go_wp2_with fail
          go_ret
          exact ⟨ret_bool Hse.out.symm, hw6⟩
        have t7 : (x.opn == y.opn) = false := by simpa using e7
        have Hse : Hid (sameZ x y = false) := by show _ = _; unfold sameZ; rw [decide_eq_false (fun h => e7 (by simp [h]))]; rfl
        clear e0 e1 e2 e3 e4 e5 e6 e7
        go_enter Tryd.func60, Tryd.ntmps60
        go_upto_region 1 with fail
        obtain ⟨wd12, hE13⟩ : ∃ ww, ww = w.alloc (.cells #[.int .i64 x.kind, .string ⟨x.name.toArray⟩, .int .i64 x.low, .int .i64 x.high, .int .i64 x.max, .slice A1 x.syms.length c1, .slice A2 x.mems.length c2, .int .i64 x.key, .int .i64 x.elem, .bool x.opn] 33) := ⟨_, rfl⟩
        rw [← hE13]
        have hb11 := aB hE13
        have X := aN hE13
        obtain ⟨wd14, hE15⟩ : ∃ ww, ww = wd12.alloc (.cells #[.int .i64 y.kind, .string ⟨y.name.toArray⟩, .int .i64 y.low, .int .i64 y.high, .int .i64 y.max, .slice none 0 0, .slice none 0 0, .int .i64 y.key, .int .i64 y.elem, .bool y.opn] 33) := ⟨_, rfl⟩
        rw [← hE15]
        replace X := dB X (aB hE15)
        replace hb11 := dT hb11 (aB hE15)
        have Y := aM hE15 (aZ hE13 rfl)
        clear hE13 hE15
        have hw16 := hb11
        clear hb11
        obtain ⟨cX_0, cX_1, cX_2, cX_3, cX_4, cX_5, cX_6, cX_7, cX_8, cX_9⟩ := X.out.c10
        obtain ⟨cY_0, cY_1, cY_2, cY_3, cY_4, cY_5, cY_6, cY_7, cY_8, cY_9⟩ := Y.out.c10
        go_wp2_with fail
        go_ret
        exact ⟨ret_bool Hse.out.symm, hw16⟩
       have t6 : (x.elem == y.elem) = false := by simpa using e6
       have Hse : Hid (sameZ x y = false) := by show _ = _; unfold sameZ; rw [decide_eq_false (fun h => e6 (by simp [h]))]; rfl
       clear e0 e1 e2 e3 e4 e5 e6
       go_enter Tryd.func60, Tryd.ntmps60
       go_upto_region 1 with fail
       obtain ⟨wd18, hE19⟩ : ∃ ww, ww = w.alloc (.cells #[.int .i64 x.kind, .string ⟨x.name.toArray⟩, .int .i64 x.low, .int .i64 x.high, .int .i64 x.max, .slice A1 x.syms.length c1, .slice A2 x.mems.length c2, .int .i64 x.key, .int .i64 x.elem, .bool x.opn] 33) := ⟨_, rfl⟩
       rw [← hE19]
       have hb17 := aB hE19
       have X := aN hE19
       obtain ⟨wd20, hE21⟩ : ∃ ww, ww = wd18.alloc (.cells #[.int .i64 y.kind, .string ⟨y.name.toArray⟩, .int .i64 y.low, .int .i64 y.high, .int .i64 y.max, .slice none 0 0, .slice none 0 0, .int .i64 y.key, .int .i64 y.elem, .bool y.opn] 33) := ⟨_, rfl⟩
       rw [← hE21]
       replace X := dB X (aB hE21)
       replace hb17 := dT hb17 (aB hE21)
       have Y := aM hE21 (aZ hE19 rfl)
       clear hE19 hE21
       have hw22 := hb17
       clear hb17
       obtain ⟨cX_0, cX_1, cX_2, cX_3, cX_4, cX_5, cX_6, cX_7, cX_8, cX_9⟩ := X.out.c10
       obtain ⟨cY_0, cY_1, cY_2, cY_3, cY_4, cY_5, cY_6, cY_7, cY_8, cY_9⟩ := Y.out.c10
       go_wp2_with fail
       go_ret
       exact ⟨ret_bool Hse.out.symm, hw22⟩
      have t5 : (x.key == y.key) = false := by simpa using e5
      have Hse : Hid (sameZ x y = false) := by show _ = _; unfold sameZ; rw [decide_eq_false (fun h => e5 (by simp [h]))]; rfl
      clear e0 e1 e2 e3 e4 e5
      go_enter Tryd.func60, Tryd.ntmps60
      go_upto_region 1 with fail
      obtain ⟨wd24, hE25⟩ : ∃ ww, ww = w.alloc (.cells #[.int .i64 x.kind, .string ⟨x.name.toArray⟩, .int .i64 x.low, .int .i64 x.high, .int .i64 x.max, .slice A1 x.syms.length c1, .slice A2 x.mems.length c2, .int .i64 x.key, .int .i64 x.elem, .bool x.opn] 33) := ⟨_, rfl⟩
      rw [← hE25]
      have hb23 := aB hE25
      have X := aN hE25
      obtain ⟨wd26, hE27⟩ : ∃ ww, ww = wd24.alloc (.cells #[.int .i64 y.kind, .string ⟨y.name.toArray⟩, .int .i64 y.low, .int .i64 y.high, .int .i64 y.max, .slice none 0 0, .slice none 0 0, .int .i64 y.key, .int .i64 y.elem, .bool y.opn] 33) := ⟨_, rfl⟩
      rw [← hE27]
      replace X := dB X (aB hE27)
      replace hb23 := dT hb23 (aB hE27)
      have Y := aM hE27 (aZ hE25 rfl)
      clear hE25 hE27
      have hw28 := hb23
      clear hb23
      obtain ⟨cX_0, cX_1, cX_2, cX_3, cX_4, cX_5, cX_6, cX_7, cX_8, cX_9⟩ := X.out.c10
      obtain ⟨cY_0, cY_1, cY_2, cY_3, cY_4, cY_5, cY_6, cY_7, cY_8, cY_9⟩ := Y.out.c10
      go_wp2_with fail
      go_ret
      exact ⟨ret_bool Hse.out.symm, hw28⟩
     have t4 : (x.max == y.max) = false := by simpa using e4
     have Hse : Hid (sameZ x y = false) := by show _ = _; unfold sameZ; rw [decide_eq_false (fun h => e4 (by simp [h]))]; rfl
     clear e0 e1 e2 e3 e4
     go_enter Tryd.func60, Tryd.ntmps60
     go_upto_region 1 with fail
     obtain ⟨wd30, hE31⟩ : ∃ ww, ww = w.alloc (.cells #[.int .i64 x.kind, .string ⟨x.name.toArray⟩, .int .i64 x.low, .int .i64 x.high, .int .i64 x.max, .slice A1 x.syms.length c1, .slice A2 x.mems.length c2, .int .i64 x.key, .int .i64 x.elem, .bool x.opn] 33) := ⟨_, rfl⟩
     rw [← hE31]
     have hb29 := aB hE31
     have X := aN hE31
     obtain ⟨wd32, hE33⟩ : ∃ ww, ww = wd30.alloc (.cells #[.int .i64 y.kind, .string ⟨y.name.toArray⟩, .int .i64 y.low, .int .i64 y.high, .int .i64 y.max, .slice none 0 0, .slice none 0 0, .int .i64 y.key, .int .i64 y.elem, .bool y.opn] 33) := ⟨_, rfl⟩
     rw [← hE33]
     replace X := dB X (aB hE33)
     replace hb29 := dT hb29 (aB hE33)
     have Y := aM hE33 (aZ hE31 rfl)
     clear hE31 hE33
     have hw34 := hb29
     clear hb29
     obtain ⟨cX_0, cX_1, cX_2, cX_3, cX_4, cX_5, cX_6, cX_7, cX_8, cX_9⟩ := X.out.c10
     obtain ⟨cY_0, cY_1, cY_2, cY_3, cY_4, cY_5, cY_6, cY_7, cY_8, cY_9⟩ := Y.out.c10
     go_wp2_with fail
     go_ret
     exact ⟨ret_bool Hse.out.symm, hw34⟩
    have t3 : (x.high == y.high) = false := by simpa using e3
    have Hse : Hid (sameZ x y = false) := by show _ = _; unfold sameZ; rw [decide_eq_false (fun h => e3 (by simp [h]))]; rfl
    clear e0 e1 e2 e3
    go_enter Tryd.func60, Tryd.ntmps60
    go_upto_region 1 with fail
    obtain ⟨wd36, hE37⟩ : ∃ ww, ww = w.alloc (.cells #[.int .i64 x.kind, .string ⟨x.name.toArray⟩, .int .i64 x.low, .int .i64 x.high, .int .i64 x.max, .slice A1 x.syms.length c1, .slice A2 x.mems.length c2, .int .i64 x.key, .int .i64 x.elem, .bool x.opn] 33) := ⟨_, rfl⟩
    rw [← hE37]
    have hb35 := aB hE37
    have X := aN hE37
    obtain ⟨wd38, hE39⟩ : ∃ ww, ww = wd36.alloc (.cells #[.int .i64 y.kind, .string ⟨y.name.toArray⟩, .int .i64 y.low, .int .i64 y.high, .int .i64 y.max, .slice none 0 0, .slice none 0 0, .int .i64 y.key, .int .i64 y.elem, .bool y.opn] 33) := ⟨_, rfl⟩
    rw [← hE39]
    replace X := dB X (aB hE39)
    replace hb35 := dT hb35 (aB hE39)
    have Y := aM hE39 (aZ hE37 rfl)
    clear hE37 hE39
    have hw40 := hb35
    clear hb35
    obtain ⟨cX_0, cX_1, cX_2, cX_3, cX_4, cX_5, cX_6, cX_7, cX_8, cX_9⟩ := X.out.c10
    obtain ⟨cY_0, cY_1, cY_2, cY_3, cY_4, cY_5, cY_6, cY_7, cY_8, cY_9⟩ := Y.out.c10
    go_wp2_with fail
    go_ret
    exact ⟨ret_bool Hse.out.symm, hw40⟩
   have t2 : (x.low == y.low) = false := by simpa using e2
   have Hse : Hid (sameZ x y = false) := by show _ = _; unfold sameZ; rw [decide_eq_false (fun h => e2 (by simp [h]))]; rfl
   clear e0 e1 e2
   go_enter Tryd.func60, Tryd.ntmps60
   go_upto_region 1 with fail
   obtain ⟨wd42, hE43⟩ : ∃ ww, ww = w.alloc (.cells #[.int .i64 x.kind, .string ⟨x.name.toArray⟩, .int .i64 x.low, .int .i64 x.high, .int .i64 x.max, .slice A1 x.syms.length c1, .slice A2 x.mems.length c2, .int .i64 x.key, .int .i64 x.elem, .bool x.opn] 33) := ⟨_, rfl⟩
   rw [← hE43]
   have hb41 := aB hE43
   have X := aN hE43
   obtain ⟨wd44, hE45⟩ : ∃ ww, ww = wd42.alloc (.cells #[.int .i64 y.kind, .string ⟨y.name.toArray⟩, .int .i64 y.low, .int .i64 y.high, .int .i64 y.max, .slice none 0 0, .slice none 0 0, .int .i64 y.key, .int .i64 y.elem, .bool y.opn] 33) := ⟨_, rfl⟩
   rw [← hE45]
   replace X := dB X (aB hE45)
   replace hb41 := dT hb41 (aB hE45)
   have Y := aM hE45 (aZ hE43 rfl)
   clear hE43 hE45
   have hw46 := hb41
   clear hb41
   obtain ⟨cX_0, cX_1, cX_2, cX_3, cX_4, cX_5, cX_6, cX_7, cX_8, cX_9⟩ := X.out.c10
   obtain ⟨cY_0, cY_1, cY_2, cY_3, cY_4, cY_5, cY_6, cY_7, cY_8, cY_9⟩ := Y.out.c10
   go_wp2_with fail
   go_ret
   exact ⟨ret_bool Hse.out.symm, hw46⟩
  have t1 : (x.name == y.name) = false := by simpa using e1
  have Hse : Hid (sameZ x y = false) := by show _ = _; unfold sameZ; rw [decide_eq_false (fun h => e1 (by simp [h]))]; rfl
  clear e0 e1
  go_enter Tryd.func60, Tryd.ntmps60
  go_upto_region 1 with fail
  obtain ⟨wd48, hE49⟩ : ∃ ww, ww = w.alloc (.cells #[.int .i64 x.kind, .string ⟨x.name.toArray⟩, .int .i64 x.low, .int .i64 x.high, .int .i64 x.max, .slice A1 x.syms.length c1, .slice A2 x.mems.length c2, .int .i64 x.key, .int .i64 x.elem, .bool x.opn] 33) := ⟨_, rfl⟩
  rw [← hE49]
  have hb47 := aB hE49
  have X := aN hE49
  obtain ⟨wd50, hE51⟩ : ∃ ww, ww = wd48.alloc (.cells #[.int .i64 y.kind, .string ⟨y.name.toArray⟩, .int .i64 y.low, .int .i64 y.high, .int .i64 y.max, .slice none 0 0, .slice none 0 0, .int .i64 y.key, .int .i64 y.elem, .bool y.opn] 33) := ⟨_, rfl⟩
  rw [← hE51]
  replace X := dB X (aB hE51)
  replace hb47 := dT hb47 (aB hE51)
  have Y := aM hE51 (aZ hE49 rfl)
  clear hE49 hE51
  have hw52 := hb47
  clear hb47
  obtain ⟨cX_0, cX_1, cX_2, cX_3, cX_4, cX_5, cX_6, cX_7, cX_8, cX_9⟩ := X.out.c10
  obtain ⟨cY_0, cY_1, cY_2, cY_3, cY_4, cY_5, cY_6, cY_7, cY_8, cY_9⟩ := Y.out.c10
  go_wp2_with fail
  go_ret
  exact ⟨ret_bool Hse.out.symm, hw52⟩
 have t0 : (x.kind == y.kind) = false := by simpa using e0
 have Hse : Hid (sameZ x y = false) := by show _ = _; unfold sameZ; rw [decide_eq_false (fun h => e0 (by simp [h]))]; rfl
 clear e0
 go_enter Tryd.func60, Tryd.ntmps60
 go_upto_region 1 with fail
 obtain ⟨wd54, hE55⟩ : ∃ ww, ww = w.alloc (.cells #[.int .i64 x.kind, .string ⟨x.name.toArray⟩, .int .i64 x.low, .int .i64 x.high, .int .i64 x.max, .slice A1 x.syms.length c1, .slice A2 x.mems.length c2, .int .i64 x.key, .int .i64 x.elem, .bool x.opn] 33) := ⟨_, rfl⟩
 rw [← hE55]
 have hb53 := aB hE55
 have X := aN hE55
 obtain ⟨wd56, hE57⟩ : ∃ ww, ww = wd54.alloc (.cells #[.int .i64 y.kind, .string ⟨y.name.toArray⟩, .int .i64 y.low, .int .i64 y.high, .int .i64 y.max, .slice none 0 0, .slice none 0 0, .int .i64 y.key, .int .i64 y.elem, .bool y.opn] 33) := ⟨_, rfl⟩
 rw [← hE57]
 replace X := dB X (aB hE57)
 replace hb53 := dT hb53 (aB hE57)
 have Y := aM hE57 (aZ hE55 rfl)
 clear hE55 hE57
 have hw58 := hb53
 clear hb53
 obtain ⟨cX_0, cX_1, cX_2, cX_3, cX_4, cX_5, cX_6, cX_7, cX_8, cX_9⟩ := X.out.c10
 obtain ⟨cY_0, cY_1, cY_2, cY_3, cY_4, cY_5, cY_6, cY_7, cY_8, cY_9⟩ := Y.out.c10
 go_wp2_with fail
 go_ret
 exact ⟨ret_bool Hse.out.symm, hw58⟩
set_option maxRecDepth 100000 in
theorem blank_any (x : Val) (vk vi vr : Value) (w : World) (hv : ValAt w w.heap.size x vk vi vr) :
  Calls Tryd.prog 76 #[valA x vk vi vr] w fun e w' => e = .returned (.bool (sameV x val0)) ∧ Below w.heap.size w w' := by
 obtain ⟨A1, n1, A2, n2, A3, n3, rfl, rfl, rfl, -, -, -⟩ := hv.forms
 have HV := Lib.hid hv
 have hc : ∀ W, ValAt W W.heap.size x (.slice A1 x.keys.length n1) (.slice A2 x.items.length n2) (.slice A3 x.rest.length n3) → Calls Tryd.prog 80 #[valA x (.slice A1 x.keys.length n1) (.slice A2 x.items.length n2) (.slice A3 x.rest.length n3), .agg #[.int .i64 0, .bool false, .int .i64 0, .string ⟨#[]⟩, .int .i64 0, .slice none 0 0, .slice none 0 0, .slice none 0 0]] W fun e w' => e = .returned (.bool (sameV x val0)) ∧ Below W.heap.size W w' :=
  fun W h => ssame_any (nodes x + 1) x val0 _ _ _ (.slice none 0 0) (.slice none 0 0) (.slice none 0 0) W (by omega) h (val0_at' _ _)
 have HC := Lib.hid hc
 clear hv hc
 go_enter Tryd.func76, Tryd.ntmps76
 go_upto_region 1 with fail
 obtain ⟨wd60, hE61⟩ : ∃ ww, ww = w.alloc (.cells #[.int .i64 x.kind, .bool x.bool, .int .i64 x.num, .string ⟨x.str.toArray⟩, .int .i64 x.id, .slice A1 x.keys.length n1, .slice A2 x.items.length n2, .slice A3 x.rest.length n3] 45) := ⟨_, rfl⟩
 rw [← hE61]
 have hb59 := aB hE61
 have X := aN hE61
 clear hE61
 have hw62 := hb59
 clear hb59
 obtain ⟨cX_0, cX_1, cX_2, cX_3, cX_4, cX_5, cX_6, cX_7⟩ := X.out.c8
 go_wp2_with fail
 clear cX_0 cX_1 cX_2 cX_3 cX_4 cX_5 cX_6 cX_7
 ((with_reducible refine (HC.out _ (HV.out.on hw62)).mono ?_); rintro e wd63 ⟨rfl, hb64⟩)
 replace X := dB X hb64
 replace hw62 := dT hw62 hb64
 clear hb64
 go_wp2_with fail
 go_ret
 exact ⟨rfl, hw62⟩
end Go.Proofs.YtccmmibkihbobaaDoor

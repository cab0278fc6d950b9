/- What schema.equal computes for a type whose lists are empty, and schema.blank. No condition. -/
import Derived.Test.YtlamhkffnlgofaaGreatDoorHAC
import Derived.Test.YtlamhkffnlgofaaGreatDoorHAA
set_option maxHeartbeats 8000000
namespace Go.Proofs.YtlamhkffnlgofaaGreatDoor
open Go.ChangeShapes Go.WideShapes Go.ChangeAt Go.RowKit
set_option maxRecDepth 100000 in
theorem eqsymz_any (n : Nat) (A : Option Addr) (c : Nat) (w : World) : Calls Tryz.prog 148 #[.slice A n c, .slice none 0 0] w fun e w' => e = .returned (.bool (decide (n = 0))) ∧ w = w' := by
 by_cases h0 : n = 0
 ·
  subst h0
  go_enter Tryz.func148, Tryz.ntmps148
  go_wp2
  refine wp_loop_rounds 1 ?_
  rw [rounds_succ]
  go_wp2
  go_ret
  exact ⟨rfl, rfl⟩
 have Hd : Hid (decide (n = 0) = false) := decide_eq_false h0
 have t : ((n : Int) != 0) = true := by simpa using h0
 go_enter Tryz.func148, Tryz.ntmps148
 go_wp2
 go_ret
 exact ⟨ret_bool Hd.out.symm, rfl⟩
set_option maxRecDepth 100000 in
theorem eqmemz_any (n : Nat) (A : Option Addr) (c : Nat) (w : World) : Calls Tryz.prog 149 #[.slice A n c, .slice none 0 0, .func (.func 150) #[] #[]] w fun e w' => e = .returned (.bool (decide (n = 0))) ∧ w = w' := by
 by_cases h0 : n = 0
 ·
  subst h0
  go_enter Tryz.func149, Tryz.ntmps149
  go_wp2
  refine wp_loop_rounds 1 ?_
  rw [rounds_succ]
  go_wp2
  go_ret
  exact ⟨rfl, rfl⟩
 have Hd : Hid (decide (n = 0) = false) := decide_eq_false h0
 have t : ((n : Int) != 0) = true := by simpa using h0
 go_enter Tryz.func149, Tryz.ntmps149
 go_wp2
 go_ret
 exact ⟨ret_bool Hd.out.symm, rfl⟩
theorem val0_at' (w : World) (B : Nat) : ValAt w B val0 (.slice none 0 0) (.slice none 0 0) (.slice none 0 0) :=
 ⟨⟨by simp [I64, val0, Val.kind], by simp [I64, val0, Val.num], by simp [I64, val0, Val.id]⟩, by simp [val0, Val.str], ⟨by simp [val0, Val.keys], by simp [val0, Val.items], by simp [val0, Val.rest]⟩, by simp [val0, Val.rest],
  ⟨fun _ => [], ⟨none, 0, rfl, Nat.le_refl _, .inl rfl⟩, fun i h => by simp [val0, Val.keys] at h⟩, ⟨fun _ => [], ⟨none, 0, rfl, Nat.le_refl _, .inl rfl⟩, fun i h => by simp [val0, Val.items] at h⟩, Rd.nil_ w B 2⟩
def sameZ (x y : Typ) : Bool := decide (x.kind = y.kind ∧ x.name = y.name ∧ x.low = y.low ∧ x.high = y.high ∧ x.max = y.max ∧ x.key = y.key ∧ x.elem = y.elem ∧ x.opn = y.opn) && (decide (x.syms.length = 0) && decide (x.mems.length = 0))
set_option maxRecDepth 100000 in
theorem equalz_any (x y : Typ) (A1 A2 : Option Addr) (c1 c2 : Nat) (w : World) :
  Calls Tryz.prog 120 #[typA x (.slice A1 x.syms.length c1) (.slice A2 x.mems.length c2), typA y (.slice none 0 0) (.slice none 0 0)] w fun e w' => e = .returned (.bool (sameZ x y)) ∧ Below w.heap.size w w' := by
 by_cases e0 : x.kind = y.kind
 ·
  have t0 : (x.kind == y.kind) = true := by simp [e0]
  by_cases e1 : x.name = y.name
  ·
   have t1 : (x.name == y.name) = true := by simp [e1]
   by_cases e2 : x.low = y.low
   ·
    have t2 : (x.low == y.low) = true := by simp [e2]
    by_cases e3 : x.high = y.high
    ·
     have t3 : (x.high == y.high) = true := by simp [e3]
     by_cases e4 : x.max = y.max
     ·
      have t4 : (x.max == y.max) = true := by simp [e4]
      by_cases e5 : x.key = y.key
      ·
       have t5 : (x.key == y.key) = true := by simp [e5]
       by_cases e6 : x.elem = y.elem
       ·
        have t6 : (x.elem == y.elem) = true := by simp [e6]
        by_cases e7 : x.opn = y.opn
        ·
         have t7 : (x.opn == y.opn) = true := by simp [e7]
         have Hse : Hid (sameZ x y = (decide (x.syms.length = 0) && decide (x.mems.length = 0))) := by show _ = _; unfold sameZ; rw [decide_eq_true ⟨e0, e1, e2, e3, e4, e5, e6, e7⟩]; rfl
         clear e0 e1 e2 e3 e4 e5 e6 e7
         go_enter Tryz.func120, Tryz.ntmps120
         go_upto_region 1 with fail
         refine am2 (fun wd2 hb1 X Y => ?_)
         have hw3 := hb1
         clear hb1
         obtain ⟨cX_0, cX_1, cX_2, cX_3, cX_4, cX_5, cX_6, cX_7, cX_8, cX_9⟩ := X.out.c10
         obtain ⟨cY_0, cY_1, cY_2, cY_3, cY_4, cY_5, cY_6, cY_7, cY_8, cY_9⟩ := Y.out.c10
         go_wp2_with fail
         clear cX_0 cX_1 cX_2 cX_3 cX_4 cX_5 cX_6 cX_7 cX_8 cX_9 cY_0 cY_1 cY_2 cY_3 cY_4 cY_5 cY_6 cY_7 cY_8 cY_9
         ((with_reducible refine (eqsymz_any _ _ _ _).mono ?_); rintro e wd4 ⟨rfl, rfl⟩)
         cases hs : decide (x.syms.length = 0) with
         | false =>
          rw [hs] at Hse
          clear hs
          go_wp2_with fail
          go_ret
          exact ⟨ret_bool Hse.out.symm, hw3⟩
         | true =>
          rw [hs, Bool.true_and] at Hse
          clear hs
          have cX_6 := X.out.e6
          have cY_6 := Y.out.e6
          go_wp2_with fail
          clear cX_6 cY_6
          ((with_reducible refine (eqmemz_any _ _ _ _).mono ?_); rintro e wd6 ⟨rfl, rfl⟩)
          generalize decide (x.mems.length = 0) = bm at *
          go_wp2_with fail
          go_ret
          exact ⟨ret_bool Hse.out.symm, hw3⟩
        have t7 : (x.opn == y.opn) = false := by simpa using e7
        have Hse : Hid (sameZ x y = false) := by show _ = _; unfold sameZ; rw [decide_eq_false (fun h => e7 (by simp [h]))]; rfl
        clear e0 e1 e2 e3 e4 e5 e6 e7
        go_enter Tryz.func120, Tryz.ntmps120
        go_upto_region 1 with fail
        refine am2 (fun wd2 hb1 X Y => ?_)
        have hw3 := hb1
        clear hb1
        obtain ⟨cX_0, cX_1, cX_2, cX_3, cX_4, cX_5, cX_6, cX_7, cX_8, cX_9⟩ := X.out.c10
        obtain ⟨cY_0, cY_1, cY_2, cY_3, cY_4, cY_5, cY_6, cY_7, cY_8, cY_9⟩ := Y.out.c10
        go_wp2_with fail
        go_ret
        exact ⟨ret_bool Hse.out.symm, hw3⟩
       have t6 : (x.elem == y.elem) = false := by simpa using e6
       have Hse : Hid (sameZ x y = false) := by show _ = _; unfold sameZ; rw [decide_eq_false (fun h => e6 (by simp [h]))]; rfl
       clear e0 e1 e2 e3 e4 e5 e6
       go_enter Tryz.func120, Tryz.ntmps120
       go_upto_region 1 with fail
       refine am2 (fun wd2 hb1 X Y => ?_)
       have hw3 := hb1
       clear hb1
       obtain ⟨cX_0, cX_1, cX_2, cX_3, cX_4, cX_5, cX_6, cX_7, cX_8, cX_9⟩ := X.out.c10
       obtain ⟨cY_0, cY_1, cY_2, cY_3, cY_4, cY_5, cY_6, cY_7, cY_8, cY_9⟩ := Y.out.c10
       go_wp2_with fail
       go_ret
       exact ⟨ret_bool Hse.out.symm, hw3⟩
      have t5 : (x.key == y.key) = false := by simpa using e5
      have Hse : Hid (sameZ x y = false) := by show _ = _; unfold sameZ; rw [decide_eq_false (fun h => e5 (by simp [h]))]; rfl
      clear e0 e1 e2 e3 e4 e5
      go_enter Tryz.func120, Tryz.ntmps120
      go_upto_region 1 with fail
      refine am2 (fun wd2 hb1 X Y => ?_)
      have hw3 := hb1
      clear hb1
      obtain ⟨cX_0, cX_1, cX_2, cX_3, cX_4, cX_5, cX_6, cX_7, cX_8, cX_9⟩ := X.out.c10
      obtain ⟨cY_0, cY_1, cY_2, cY_3, cY_4, cY_5, cY_6, cY_7, cY_8, cY_9⟩ := Y.out.c10
      go_wp2_with fail
      go_ret
      exact ⟨ret_bool Hse.out.symm, hw3⟩
     have t4 : (x.max == y.max) = false := by simpa using e4
     have Hse : Hid (sameZ x y = false) := by show _ = _; unfold sameZ; rw [decide_eq_false (fun h => e4 (by simp [h]))]; rfl
     clear e0 e1 e2 e3 e4
     go_enter Tryz.func120, Tryz.ntmps120
     go_upto_region 1 with fail
     refine am2 (fun wd2 hb1 X Y => ?_)
     have hw3 := hb1
     clear hb1
     obtain ⟨cX_0, cX_1, cX_2, cX_3, cX_4, cX_5, cX_6, cX_7, cX_8, cX_9⟩ := X.out.c10
     obtain ⟨cY_0, cY_1, cY_2, cY_3, cY_4, cY_5, cY_6, cY_7, cY_8, cY_9⟩ := Y.out.c10
     go_wp2_with fail
     go_ret
     exact ⟨ret_bool Hse.out.symm, hw3⟩
    have t3 : (x.high == y.high) = false := by simpa using e3
    have Hse : Hid (sameZ x y = false) := by show _ = _; unfold sameZ; rw [decide_eq_false (fun h => e3 (by simp [h]))]; rfl
    clear e0 e1 e2 e3
    go_enter Tryz.func120, Tryz.ntmps120
    go_upto_region 1 with fail
    refine am2 (fun wd2 hb1 X Y => ?_)
    have hw3 := hb1
    clear hb1
    obtain ⟨cX_0, cX_1, cX_2, cX_3, cX_4, cX_5, cX_6, cX_7, cX_8, cX_9⟩ := X.out.c10
    obtain ⟨cY_0, cY_1, cY_2, cY_3, cY_4, cY_5, cY_6, cY_7, cY_8, cY_9⟩ := Y.out.c10
    go_wp2_with fail
    go_ret
    exact ⟨ret_bool Hse.out.symm, hw3⟩
   have t2 : (x.low == y.low) = false := by simpa using e2
   have Hse : Hid (sameZ x y = false) := by show _ = _; unfold sameZ; rw [decide_eq_false (fun h => e2 (by simp [h]))]; rfl
   clear e0 e1 e2
   go_enter Tryz.func120, Tryz.ntmps120
   go_upto_region 1 with fail
   refine am2 (fun wd2 hb1 X Y => ?_)
   have hw3 := hb1
   clear hb1
   obtain ⟨cX_0, cX_1, cX_2, cX_3, cX_4, cX_5, cX_6, cX_7, cX_8, cX_9⟩ := X.out.c10
   obtain ⟨cY_0, cY_1, cY_2, cY_3, cY_4, cY_5, cY_6, cY_7, cY_8, cY_9⟩ := Y.out.c10
   go_wp2_with fail
   go_ret
   exact ⟨ret_bool Hse.out.symm, hw3⟩
  have t1 : (x.name == y.name) = false := by simpa using e1
  have Hse : Hid (sameZ x y = false) := by show _ = _; unfold sameZ; rw [decide_eq_false (fun h => e1 (by simp [h]))]; rfl
  clear e0 e1
  go_enter Tryz.func120, Tryz.ntmps120
  go_upto_region 1 with fail
  refine am2 (fun wd2 hb1 X Y => ?_)
  have hw3 := hb1
  clear hb1
  obtain ⟨cX_0, cX_1, cX_2, cX_3, cX_4, cX_5, cX_6, cX_7, cX_8, cX_9⟩ := X.out.c10
  obtain ⟨cY_0, cY_1, cY_2, cY_3, cY_4, cY_5, cY_6, cY_7, cY_8, cY_9⟩ := Y.out.c10
  go_wp2_with fail
  go_ret
  exact ⟨ret_bool Hse.out.symm, hw3⟩
 have t0 : (x.kind == y.kind) = false := by simpa using e0
 have Hse : Hid (sameZ x y = false) := by show _ = _; unfold sameZ; rw [decide_eq_false (fun h => e0 (by simp [h]))]; rfl
 clear e0
 go_enter Tryz.func120, Tryz.ntmps120
 go_upto_region 1 with fail
 refine am2 (fun wd2 hb1 X Y => ?_)
 have hw3 := hb1
 clear hb1
 obtain ⟨cX_0, cX_1, cX_2, cX_3, cX_4, cX_5, cX_6, cX_7, cX_8, cX_9⟩ := X.out.c10
 obtain ⟨cY_0, cY_1, cY_2, cY_3, cY_4, cY_5, cY_6, cY_7, cY_8, cY_9⟩ := Y.out.c10
 go_wp2_with fail
 go_ret
 exact ⟨ret_bool Hse.out.symm, hw3⟩
set_option maxRecDepth 100000 in
theorem blank_any (x : Val) (vk vi vr : Value) (w : World) (hv : ValAt w w.heap.size x vk vi vr) :
  Calls Tryz.prog 147 #[valA x vk vi vr] w fun e w' => e = .returned (.bool (sameV x val0)) ∧ Below w.heap.size w w' := by
 obtain ⟨A1, n1, A2, n2, A3, n3, rfl, rfl, rfl, -, -, -⟩ := hv.forms
 have HV := Lib.hid hv
 have hc : ∀ W, ValAt W W.heap.size x (.slice A1 x.keys.length n1) (.slice A2 x.items.length n2) (.slice A3 x.rest.length n3) → Calls Tryz.prog 151 #[valA x (.slice A1 x.keys.length n1) (.slice A2 x.items.length n2) (.slice A3 x.rest.length n3), .agg #[.int .i64 0, .bool false, .int .i64 0, .string ⟨#[]⟩, .int .i64 0, .slice none 0 0, .slice none 0 0, .slice none 0 0]] W fun e w' => e = .returned (.bool (sameV x val0)) ∧ Below W.heap.size W w' :=
  fun W h => ssame_any (nodes x + 1) x val0 _ _ _ (.slice none 0 0) (.slice none 0 0) (.slice none 0 0) W (by omega) h (val0_at' _ _)
 have HC := Lib.hid hc
 clear hv hc
 go_enter Tryz.func147, Tryz.ntmps147
 go_upto_region 1 with fail
 refine am1 (fun wd2 hb1 X => ?_)
 have hw3 := hb1
 clear hb1
 obtain ⟨cX_0, cX_1, cX_2, cX_3, cX_4, cX_5, cX_6, cX_7⟩ := X.out.c8
 go_wp2_with fail
 clear cX_0 cX_1 cX_2 cX_3 cX_4 cX_5 cX_6 cX_7
 ((with_reducible refine (HC.out _ (HV.out.on hw3)).mono ?_); rintro e wd4 ⟨rfl, hb5⟩)
 replace X := b1 X hb5
 replace hw3 := dT hw3 hb5
 clear hb5
 go_wp2_with fail
 go_ret
 exact ⟨rfl, hw3⟩
end Go.Proofs.YtlamhkffnlgofaaGreatDoor

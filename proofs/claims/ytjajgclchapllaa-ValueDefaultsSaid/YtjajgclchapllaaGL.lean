/- What schema.equal computes for a type whose lists are empty, and schema.blank. What sheaveref07.sameMember computes. No condition. -/
import Derived.Test.YtjajgclchapllaaGC
import Derived.Test.YtjajgclchapllaaGA
namespace Go.Proofs.Ytjajgclchapllaa
open Go.ChangeShapes Go.WideShapes Go.ChangeAt Go.RowKit
set_option maxRecDepth 100000 in
theorem eqsymz_any (n : Nat) (A : Option Addr) (c : Nat) (w : World) : Calls Try.prog 106 #[.slice A n c, .slice none 0 0] w fun e w' => e = .returned (.bool (decide (n = 0))) ∧ w = w' := by
 by_cases h0 : n = 0
 ·
  subst h0
  go_enter Try.func106, Try.ntmps106
  go_wp2
  refine wp_loop_rounds 1 ?_
  rw [rounds_succ]
  go_wp2
  go_ret
  exact ⟨rfl, rfl⟩
 ·
  have Hd : Hid (decide (n = 0) = false) := decide_eq_false h0
  have t : ((n : Int) != 0) = true := by simpa using h0
  go_enter Try.func106, Try.ntmps106
  go_wp2
  go_ret
  exact ⟨ret_bool Hd.out.symm, rfl⟩
set_option maxRecDepth 100000 in
theorem eqmemz_any (n : Nat) (A : Option Addr) (c : Nat) (w : World) : Calls Try.prog 107 #[.slice A n c, .slice none 0 0, .func (.func 108) #[] #[]] w fun e w' => e = .returned (.bool (decide (n = 0))) ∧ w = w' := by
 by_cases h0 : n = 0
 ·
  subst h0
  go_enter Try.func107, Try.ntmps107
  go_wp2
  refine wp_loop_rounds 1 ?_
  rw [rounds_succ]
  go_wp2
  go_ret
  exact ⟨rfl, rfl⟩
 ·
  have Hd : Hid (decide (n = 0) = false) := decide_eq_false h0
  have t : ((n : Int) != 0) = true := by simpa using h0
  go_enter Try.func107, Try.ntmps107
  go_wp2
  go_ret
  exact ⟨ret_bool Hd.out.symm, rfl⟩
theorem val0_at' (w : World) (B : Nat) : ValAt w B val0 (.slice none 0 0) (.slice none 0 0) (.slice none 0 0) :=
 ⟨⟨by simp [I64, val0, Val.kind], by simp [I64, val0, Val.num], by simp [I64, val0, Val.id]⟩, by simp [val0, Val.str], ⟨by simp [val0, Val.keys], by simp [val0, Val.items], by simp [val0, Val.rest]⟩, by simp [val0, Val.rest],
  ⟨fun _ => [], ⟨none, 0, rfl, Nat.le_refl _, .inl rfl⟩, fun i h => by simp [val0, Val.keys] at h⟩, ⟨fun _ => [], ⟨none, 0, rfl, Nat.le_refl _, .inl rfl⟩, fun i h => by simp [val0, Val.items] at h⟩, Rd.nil_ w B 2⟩
def sameZ (x y : Typ) : Bool := decide (x.kind = y.kind ∧ x.name = y.name ∧ x.low = y.low ∧ x.high = y.high ∧ x.max = y.max ∧ x.key = y.key ∧ x.elem = y.elem ∧ x.opn = y.opn) && (decide (x.syms.length = 0) && decide (x.mems.length = 0))
set_option maxRecDepth 100000 in
set_option maxHeartbeats 8000000 in
theorem equalz_any (x y : Typ) (A1 A2 : Option Addr) (c1 c2 : Nat) (w : World) :
  Calls Try.prog 93 #[typA x (.slice A1 x.syms.length c1) (.slice A2 x.mems.length c2), typA y (.slice none 0 0) (.slice none 0 0)] w fun e w' => e = .returned (.bool (sameZ x y)) ∧ Below w.heap.size w w' := by
 by_cases e0 : x.kind = y.kind
 ·
  have t0 : (x.kind == y.kind) = true := by simp [e0]
  by_cases e1 : x.name = y.name
  ·
   have t1 : (x.name == y.name) = true := by simp [e1]
   by_cases e2 : x.low = y.low
   ·
    have t2 : (x.low == y.low) = true := by simp [e2]
    by_cases e3 : x.high = y.high
    ·
     have t3 : (x.high == y.high) = true := by simp [e3]
     by_cases e4 : x.max = y.max
     ·
      have t4 : (x.max == y.max) = true := by simp [e4]
      by_cases e5 : x.key = y.key
      ·
       have t5 : (x.key == y.key) = true := by simp [e5]
       by_cases e6 : x.elem = y.elem
       ·
        have t6 : (x.elem == y.elem) = true := by simp [e6]
        by_cases e7 : x.opn = y.opn
        ·
         have t7 : (x.opn == y.opn) = true := by simp [e7]
         have Hse : Hid (sameZ x y = (decide (x.syms.length = 0) && decide (x.mems.length = 0))) := by show _ = _; unfold sameZ; rw [decide_eq_true ⟨e0, e1, e2, e3, e4, e5, e6, e7⟩]; rfl
         clear e0 e1 e2 e3 e4 e5 e6 e7
         go_enter Try.func93, Try.ntmps93
         go_upto_region 1 with fail
         have hb65 := below_al (below_al (Below.refl w.heap.size w) (Nat.le_refl _) (.cells #[.int .i64 x.kind, .string ⟨x.name.toArray⟩, .int .i64 x.low, .int .i64 x.high, .int .i64 x.max, .slice A1 x.syms.length c1, .slice A2 x.mems.length c2, .int .i64 x.key, .int .i64 x.elem, .bool x.opn] 67)) (Nat.le_refl _) (.cells #[.int .i64 y.kind, .string ⟨y.name.toArray⟩, .int .i64 y.low, .int .i64 y.high, .int .i64 y.max, .slice none 0 0, .slice none 0 0, .int .i64 y.key, .int .i64 y.elem, .bool y.opn] 67)
         have X := (Has.made w 67 #[.int .i64 x.kind, .string ⟨x.name.toArray⟩, .int .i64 x.low, .int .i64 x.high, .int .i64 x.max, .slice A1 x.syms.length c1, .slice A2 x.mems.length c2, .int .i64 x.key, .int .i64 x.elem, .bool x.opn]).alloc (.cells #[.int .i64 y.kind, .string ⟨y.name.toArray⟩, .int .i64 y.low, .int .i64 y.high, .int .i64 y.max, .slice none 0 0, .slice none 0 0, .int .i64 y.key, .int .i64 y.elem, .bool y.opn] 67)
         have Y := Has.made (w.alloc (.cells #[.int .i64 x.kind, .string ⟨x.name.toArray⟩, .int .i64 x.low, .int .i64 x.high, .int .i64 x.max, .slice A1 x.syms.length c1, .slice A2 x.mems.length c2, .int .i64 x.key, .int .i64 x.elem, .bool x.opn] 67)) 67 #[.int .i64 y.kind, .string ⟨y.name.toArray⟩, .int .i64 y.low, .int .i64 y.high, .int .i64 y.max, .slice none 0 0, .slice none 0 0, .int .i64 y.key, .int .i64 y.elem, .bool y.opn]
         simp only [alloc_hz] at Y
         have hw66 := hb65
         replace X := Lib.hid X
         replace Y := Lib.hid Y
         clear hb65
         generalize ((w.alloc (.cells #[.int .i64 x.kind, .string ⟨x.name.toArray⟩, .int .i64 x.low, .int .i64 x.high, .int .i64 x.max, .slice A1 x.syms.length c1, .slice A2 x.mems.length c2, .int .i64 x.key, .int .i64 x.elem, .bool x.opn] 67)).alloc (.cells #[.int .i64 y.kind, .string ⟨y.name.toArray⟩, .int .i64 y.low, .int .i64 y.high, .int .i64 y.max, .slice none 0 0, .slice none 0 0, .int .i64 y.key, .int .i64 y.elem, .bool y.opn] 67)) = wd67 at *
         obtain ⟨cX_0, cX_1, cX_2, cX_3, cX_4, cX_5, cX_6, cX_7, cX_8, cX_9⟩ := X.out.c10
         obtain ⟨cY_0, cY_1, cY_2, cY_3, cY_4, cY_5, cY_6, cY_7, cY_8, cY_9⟩ := Y.out.c10
         go_wp2_with fail
         clear cX_0 cX_1 cX_2 cX_3 cX_4 cX_5 cX_6 cX_7 cX_8 cX_9 cY_0 cY_1 cY_2 cY_3 cY_4 cY_5 cY_6 cY_7 cY_8 cY_9
         ((with_reducible refine (eqsymz_any _ _ _ _).mono ?_); rintro e wd68 ⟨rfl, rfl⟩)
         cases hs : decide (x.syms.length = 0) with
         | false =>
          rw [hs] at Hse
          clear hs
          go_wp2_with fail
          go_ret
          exact ⟨ret_bool Hse.out.symm, hw66⟩
         | true =>
          rw [hs, Bool.true_and] at Hse
          clear hs
          have cX_6 : wd67.cell? ⟨w.heap.size, 6, none⟩ = some (.slice A2 x.mems.length c2) := X.out.cell 6
          have cY_6 : wd67.cell? ⟨w.heap.size + 1, 6, none⟩ = some (.slice none 0 0) := Y.out.cell 6
          go_wp2_with fail
          clear cX_6 cY_6
          ((with_reducible refine (eqmemz_any _ _ _ _).mono ?_); rintro e wd70 ⟨rfl, rfl⟩)
          generalize decide (x.mems.length = 0) = bm at *
          go_wp2_with fail
          go_ret
          exact ⟨ret_bool Hse.out.symm, hw66⟩
        ·
         have t7 : (x.opn == y.opn) = false := by simpa using e7
         have Hse : Hid (sameZ x y = false) := by show _ = _; unfold sameZ; rw [decide_eq_false (fun h => e7 (by simp [h]))]; rfl
         clear e0 e1 e2 e3 e4 e5 e6 e7
         go_enter Try.func93, Try.ntmps93
         go_upto_region 1 with fail
         have hb72 := below_al (below_al (Below.refl w.heap.size w) (Nat.le_refl _) (.cells #[.int .i64 x.kind, .string ⟨x.name.toArray⟩, .int .i64 x.low, .int .i64 x.high, .int .i64 x.max, .slice A1 x.syms.length c1, .slice A2 x.mems.length c2, .int .i64 x.key, .int .i64 x.elem, .bool x.opn] 67)) (Nat.le_refl _) (.cells #[.int .i64 y.kind, .string ⟨y.name.toArray⟩, .int .i64 y.low, .int .i64 y.high, .int .i64 y.max, .slice none 0 0, .slice none 0 0, .int .i64 y.key, .int .i64 y.elem, .bool y.opn] 67)
         have X := (Has.made w 67 #[.int .i64 x.kind, .string ⟨x.name.toArray⟩, .int .i64 x.low, .int .i64 x.high, .int .i64 x.max, .slice A1 x.syms.length c1, .slice A2 x.mems.length c2, .int .i64 x.key, .int .i64 x.elem, .bool x.opn]).alloc (.cells #[.int .i64 y.kind, .string ⟨y.name.toArray⟩, .int .i64 y.low, .int .i64 y.high, .int .i64 y.max, .slice none 0 0, .slice none 0 0, .int .i64 y.key, .int .i64 y.elem, .bool y.opn] 67)
         have Y := Has.made (w.alloc (.cells #[.int .i64 x.kind, .string ⟨x.name.toArray⟩, .int .i64 x.low, .int .i64 x.high, .int .i64 x.max, .slice A1 x.syms.length c1, .slice A2 x.mems.length c2, .int .i64 x.key, .int .i64 x.elem, .bool x.opn] 67)) 67 #[.int .i64 y.kind, .string ⟨y.name.toArray⟩, .int .i64 y.low, .int .i64 y.high, .int .i64 y.max, .slice none 0 0, .slice none 0 0, .int .i64 y.key, .int .i64 y.elem, .bool y.opn]
         simp only [alloc_hz] at Y
         have hw73 := hb72
         replace X := Lib.hid X
         replace Y := Lib.hid Y
         clear hb72
         generalize ((w.alloc (.cells #[.int .i64 x.kind, .string ⟨x.name.toArray⟩, .int .i64 x.low, .int .i64 x.high, .int .i64 x.max, .slice A1 x.syms.length c1, .slice A2 x.mems.length c2, .int .i64 x.key, .int .i64 x.elem, .bool x.opn] 67)).alloc (.cells #[.int .i64 y.kind, .string ⟨y.name.toArray⟩, .int .i64 y.low, .int .i64 y.high, .int .i64 y.max, .slice none 0 0, .slice none 0 0, .int .i64 y.key, .int .i64 y.elem, .bool y.opn] 67)) = wd74 at *
         obtain ⟨cX_0, cX_1, cX_2, cX_3, cX_4, cX_5, cX_6, cX_7, cX_8, cX_9⟩ := X.out.c10
         obtain ⟨cY_0, cY_1, cY_2, cY_3, cY_4, cY_5, cY_6, cY_7, cY_8, cY_9⟩ := Y.out.c10
         go_wp2_with fail
         go_ret
         exact ⟨ret_bool Hse.out.symm, hw73⟩
       ·
        have t6 : (x.elem == y.elem) = false := by simpa using e6
        have Hse : Hid (sameZ x y = false) := by show _ = _; unfold sameZ; rw [decide_eq_false (fun h => e6 (by simp [h]))]; rfl
        clear e0 e1 e2 e3 e4 e5 e6
        go_enter Try.func93, Try.ntmps93
        go_upto_region 1 with fail
        have hb75 := below_al (below_al (Below.refl w.heap.size w) (Nat.le_refl _) (.cells #[.int .i64 x.kind, .string ⟨x.name.toArray⟩, .int .i64 x.low, .int .i64 x.high, .int .i64 x.max, .slice A1 x.syms.length c1, .slice A2 x.mems.length c2, .int .i64 x.key, .int .i64 x.elem, .bool x.opn] 67)) (Nat.le_refl _) (.cells #[.int .i64 y.kind, .string ⟨y.name.toArray⟩, .int .i64 y.low, .int .i64 y.high, .int .i64 y.max, .slice none 0 0, .slice none 0 0, .int .i64 y.key, .int .i64 y.elem, .bool y.opn] 67)
        have X := (Has.made w 67 #[.int .i64 x.kind, .string ⟨x.name.toArray⟩, .int .i64 x.low, .int .i64 x.high, .int .i64 x.max, .slice A1 x.syms.length c1, .slice A2 x.mems.length c2, .int .i64 x.key, .int .i64 x.elem, .bool x.opn]).alloc (.cells #[.int .i64 y.kind, .string ⟨y.name.toArray⟩, .int .i64 y.low, .int .i64 y.high, .int .i64 y.max, .slice none 0 0, .slice none 0 0, .int .i64 y.key, .int .i64 y.elem, .bool y.opn] 67)
        have Y := Has.made (w.alloc (.cells #[.int .i64 x.kind, .string ⟨x.name.toArray⟩, .int .i64 x.low, .int .i64 x.high, .int .i64 x.max, .slice A1 x.syms.length c1, .slice A2 x.mems.length c2, .int .i64 x.key, .int .i64 x.elem, .bool x.opn] 67)) 67 #[.int .i64 y.kind, .string ⟨y.name.toArray⟩, .int .i64 y.low, .int .i64 y.high, .int .i64 y.max, .slice none 0 0, .slice none 0 0, .int .i64 y.key, .int .i64 y.elem, .bool y.opn]
        simp only [alloc_hz] at Y
        have hw76 := hb75
        replace X := Lib.hid X
        replace Y := Lib.hid Y
        clear hb75
        generalize ((w.alloc (.cells #[.int .i64 x.kind, .string ⟨x.name.toArray⟩, .int .i64 x.low, .int .i64 x.high, .int .i64 x.max, .slice A1 x.syms.length c1, .slice A2 x.mems.length c2, .int .i64 x.key, .int .i64 x.elem, .bool x.opn] 67)).alloc (.cells #[.int .i64 y.kind, .string ⟨y.name.toArray⟩, .int .i64 y.low, .int .i64 y.high, .int .i64 y.max, .slice none 0 0, .slice none 0 0, .int .i64 y.key, .int .i64 y.elem, .bool y.opn] 67)) = wd77 at *
        obtain ⟨cX_0, cX_1, cX_2, cX_3, cX_4, cX_5, cX_6, cX_7, cX_8, cX_9⟩ := X.out.c10
        obtain ⟨cY_0, cY_1, cY_2, cY_3, cY_4, cY_5, cY_6, cY_7, cY_8, cY_9⟩ := Y.out.c10
        go_wp2_with fail
        go_ret
        exact ⟨ret_bool Hse.out.symm, hw76⟩
      ·
       have t5 : (x.key == y.key) = false := by simpa using e5
       have Hse : Hid (sameZ x y = false) := by show _ = _; unfold sameZ; rw [decide_eq_false (fun h => e5 (by simp [h]))]; rfl
       clear e0 e1 e2 e3 e4 e5
       go_enter Try.func93, Try.ntmps93
       go_upto_region 1 with fail
       have hb78 := below_al (below_al (Below.refl w.heap.size w) (Nat.le_refl _) (.cells #[.int .i64 x.kind, .string ⟨x.name.toArray⟩, .int .i64 x.low, .int .i64 x.high, .int .i64 x.max, .slice A1 x.syms.length c1, .slice A2 x.mems.length c2, .int .i64 x.key, .int .i64 x.elem, .bool x.opn] 67)) (Nat.le_refl _) (.cells #[.int .i64 y.kind, .string ⟨y.name.toArray⟩, .int .i64 y.low, .int .i64 y.high, .int .i64 y.max, .slice none 0 0, .slice none 0 0, .int .i64 y.key, .int .i64 y.elem, .bool y.opn] 67)
       have X := (Has.made w 67 #[.int .i64 x.kind, .string ⟨x.name.toArray⟩, .int .i64 x.low, .int .i64 x.high, .int .i64 x.max, .slice A1 x.syms.length c1, .slice A2 x.mems.length c2, .int .i64 x.key, .int .i64 x.elem, .bool x.opn]).alloc (.cells #[.int .i64 y.kind, .string ⟨y.name.toArray⟩, .int .i64 y.low, .int .i64 y.high, .int .i64 y.max, .slice none 0 0, .slice none 0 0, .int .i64 y.key, .int .i64 y.elem, .bool y.opn] 67)
       have Y := Has.made (w.alloc (.cells #[.int .i64 x.kind, .string ⟨x.name.toArray⟩, .int .i64 x.low, .int .i64 x.high, .int .i64 x.max, .slice A1 x.syms.length c1, .slice A2 x.mems.length c2, .int .i64 x.key, .int .i64 x.elem, .bool x.opn] 67)) 67 #[.int .i64 y.kind, .string ⟨y.name.toArray⟩, .int .i64 y.low, .int .i64 y.high, .int .i64 y.max, .slice none 0 0, .slice none 0 0, .int .i64 y.key, .int .i64 y.elem, .bool y.opn]
       simp only [alloc_hz] at Y
       have hw79 := hb78
       replace X := Lib.hid X
       replace Y := Lib.hid Y
       clear hb78
       generalize ((w.alloc (.cells #[.int .i64 x.kind, .string ⟨x.name.toArray⟩, .int .i64 x.low, .int .i64 x.high, .int .i64 x.max, .slice A1 x.syms.length c1, .slice A2 x.mems.length c2, .int .i64 x.key, .int .i64 x.elem, .bool x.opn] 67)).alloc (.cells #[.int .i64 y.kind, .string ⟨y.name.toArray⟩, .int .i64 y.low, .int .i64 y.high, .int .i64 y.max, .slice none 0 0, .slice none 0 0, .int .i64 y.key, .int .i64 y.elem, .bool y.opn] 67)) = wd80 at *
       obtain ⟨cX_0, cX_1, cX_2, cX_3, cX_4, cX_5, cX_6, cX_7, cX_8, cX_9⟩ := X.out.c10
       obtain ⟨cY_0, cY_1, cY_2, cY_3, cY_4, cY_5, cY_6, cY_7, cY_8, cY_9⟩ := Y.out.c10
       go_wp2_with fail
       go_ret
       exact ⟨ret_bool Hse.out.symm, hw79⟩
     ·
      have t4 : (x.max == y.max) = false := by simpa using e4
      have Hse : Hid (sameZ x y = false) := by show _ = _; unfold sameZ; rw [decide_eq_false (fun h => e4 (by simp [h]))]; rfl
      clear e0 e1 e2 e3 e4
      go_enter Try.func93, Try.ntmps93
      go_upto_region 1 with fail
      have hb81 := below_al (below_al (Below.refl w.heap.size w) (Nat.le_refl _) (.cells #[.int .i64 x.kind, .string ⟨x.name.toArray⟩, .int .i64 x.low, .int .i64 x.high, .int .i64 x.max, .slice A1 x.syms.length c1, .slice A2 x.mems.length c2, .int .i64 x.key, .int .i64 x.elem, .bool x.opn] 67)) (Nat.le_refl _) (.cells #[.int .i64 y.kind, .string ⟨y.name.toArray⟩, .int .i64 y.low, .int .i64 y.high, .int .i64 y.max, .slice none 0 0, .slice none 0 0, .int .i64 y.key, .int .i64 y.elem, .bool y.opn] 67)
      have X := (Has.made w 67 #[.int .i64 x.kind, .string ⟨x.name.toArray⟩, .int .i64 x.low, .int .i64 x.high, .int .i64 x.max, .slice A1 x.syms.length c1, .slice A2 x.mems.length c2, .int .i64 x.key, .int .i64 x.elem, .bool x.opn]).alloc (.cells #[.int .i64 y.kind, .string ⟨y.name.toArray⟩, .int .i64 y.low, .int .i64 y.high, .int .i64 y.max, .slice none 0 0, .slice none 0 0, .int .i64 y.key, .int .i64 y.elem, .bool y.opn] 67)
      have Y := Has.made (w.alloc (.cells #[.int .i64 x.kind, .string ⟨x.name.toArray⟩, .int .i64 x.low, .int .i64 x.high, .int .i64 x.max, .slice A1 x.syms.length c1, .slice A2 x.mems.length c2, .int .i64 x.key, .int .i64 x.elem, .bool x.opn] 67)) 67 #[.int .i64 y.kind, .string ⟨y.name.toArray⟩, .int .i64 y.low, .int .i64 y.high, .int .i64 y.max, .slice none 0 0, .slice none 0 0, .int .i64 y.key, .int .i64 y.elem, .bool y.opn]
      simp only [alloc_hz] at Y
      have hw82 := hb81
      replace X := Lib.hid X
      replace Y := Lib.hid Y
      clear hb81
      generalize ((w.alloc (.cells #[.int .i64 x.kind, .string ⟨x.name.toArray⟩, .int .i64 x.low, .int .i64 x.high, .int .i64 x.max, .slice A1 x.syms.length c1, .slice A2 x.mems.length c2, .int .i64 x.key, .int .i64 x.elem, .bool x.opn] 67)).alloc (.cells #[.int .i64 y.kind, .string ⟨y.name.toArray⟩, .int .i64 y.low, .int .i64 y.high, .int .i64 y.max, .slice none 0 0, .slice none 0 0, .int .i64 y.key, .int .i64 y.elem, .bool y.opn] 67)) = wd83 at *
      obtain ⟨cX_0, cX_1, cX_2, cX_3, cX_4, cX_5, cX_6, cX_7, cX_8, cX_9⟩ := X.out.c10
      obtain ⟨cY_0, cY_1, cY_2, cY_3, cY_4, cY_5, cY_6, cY_7, cY_8, cY_9⟩ := Y.out.c10
      go_wp2_with fail
      go_ret
      exact ⟨ret_bool Hse.out.symm, hw82⟩
    ·
     have t3 : (x.high == y.high) = false := by simpa using e3
     have Hse : Hid (sameZ x y = false) := by show _ = _; unfold sameZ; rw [decide_eq_false (fun h => e3 (by simp [h]))]; rfl
     clear e0 e1 e2 e3
     go_enter Try.func93, Try.ntmps93
     go_upto_region 1 with fail
     have hb84 := below_al (below_al (Below.refl w.heap.size w) (Nat.le_refl _) (.cells #[.int .i64 x.kind, .string ⟨x.name.toArray⟩, .int .i64 x.low, .int .i64 x.high, .int .i64 x.max, .slice A1 x.syms.length c1, .slice A2 x.mems.length c2, .int .i64 x.key, .int .i64 x.elem, .bool x.opn] 67)) (Nat.le_refl _) (.cells #[.int .i64 y.kind, .string ⟨y.name.toArray⟩, .int .i64 y.low, .int .i64 y.high, .int .i64 y.max, .slice none 0 0, .slice none 0 0, .int .i64 y.key, .int .i64 y.elem, .bool y.opn] 67)
     have X := (Has.made w 67 #[.int .i64 x.kind, .string ⟨x.name.toArray⟩, .int .i64 x.low, .int .i64 x.high, .int .i64 x.max, .slice A1 x.syms.length c1, .slice A2 x.mems.length c2, .int .i64 x.key, .int .i64 x.elem, .bool x.opn]).alloc (.cells #[.int .i64 y.kind, .string ⟨y.name.toArray⟩, .int .i64 y.low, .int .i64 y.high, .int .i64 y.max, .slice none 0 0, .slice none 0 0, .int .i64 y.key, .int .i64 y.elem, .bool y.opn] 67)
     have Y := Has.made (w.alloc (.cells #[.int .i64 x.kind, .string ⟨x.name.toArray⟩, .int .i64 x.low, .int .i64 x.high, .int .i64 x.max, .slice A1 x.syms.length c1, .slice A2 x.mems.length c2, .int .i64 x.key, .int .i64 x.elem, .bool x.opn] 67)) 67 #[.int .i64 y.kind, .string ⟨y.name.toArray⟩, .int .i64 y.low, .int .i64 y.high, .int .i64 y.max, .slice none 0 0, .slice none 0 0, .int .i64 y.key, .int .i64 y.elem, .bool y.opn]
     simp only [alloc_hz] at Y
     have hw85 := hb84
     replace X := Lib.hid X
     replace Y := Lib.hid Y
     clear hb84
     generalize ((w.alloc (.cells #[.int .i64 x.kind, .string ⟨x.name.toArray⟩, .int .i64 x.low, .int .i64 x.high, .int .i64 x.max, .slice A1 x.syms.length c1, .slice A2 x.mems.length c2, .int .i64 x.key, .int .i64 x.elem, .bool x.opn] 67)).alloc (.cells #[.int .i64 y.kind, .string ⟨y.name.toArray⟩, .int .i64 y.low, .int .i64 y.high, .int .i64 y.max, .slice none 0 0, .slice none 0 0, .int .i64 y.key, .int .i64 y.elem, .bool y.opn] 67)) = wd86 at *
     obtain ⟨cX_0, cX_1, cX_2, cX_3, cX_4, cX_5, cX_6, cX_7, cX_8, cX_9⟩ := X.out.c10
     obtain ⟨cY_0, cY_1, cY_2, cY_3, cY_4, cY_5, cY_6, cY_7, cY_8, cY_9⟩ := Y.out.c10
     go_wp2_with fail
     go_ret
     exact ⟨ret_bool Hse.out.symm, hw85⟩
   ·
    have t2 : (x.low == y.low) = false := by simpa using e2
    have Hse : Hid (sameZ x y = false) := by show _ = _; unfold sameZ; rw [decide_eq_false (fun h => e2 (by simp [h]))]; rfl
    clear e0 e1 e2
    go_enter Try.func93, Try.ntmps93
    go_upto_region 1 with fail
    have hb87 := below_al (below_al (Below.refl w.heap.size w) (Nat.le_refl _) (.cells #[.int .i64 x.kind, .string ⟨x.name.toArray⟩, .int .i64 x.low, .int .i64 x.high, .int .i64 x.max, .slice A1 x.syms.length c1, .slice A2 x.mems.length c2, .int .i64 x.key, .int .i64 x.elem, .bool x.opn] 67)) (Nat.le_refl _) (.cells #[.int .i64 y.kind, .string ⟨y.name.toArray⟩, .int .i64 y.low, .int .i64 y.high, .int .i64 y.max, .slice none 0 0, .slice none 0 0, .int .i64 y.key, .int .i64 y.elem, .bool y.opn] 67)
    have X := (Has.made w 67 #[.int .i64 x.kind, .string ⟨x.name.toArray⟩, .int .i64 x.low, .int .i64 x.high, .int .i64 x.max, .slice A1 x.syms.length c1, .slice A2 x.mems.length c2, .int .i64 x.key, .int .i64 x.elem, .bool x.opn]).alloc (.cells #[.int .i64 y.kind, .string ⟨y.name.toArray⟩, .int .i64 y.low, .int .i64 y.high, .int .i64 y.max, .slice none 0 0, .slice none 0 0, .int .i64 y.key, .int .i64 y.elem, .bool y.opn] 67)
    have Y := Has.made (w.alloc (.cells #[.int .i64 x.kind, .string ⟨x.name.toArray⟩, .int .i64 x.low, .int .i64 x.high, .int .i64 x.max, .slice A1 x.syms.length c1, .slice A2 x.mems.length c2, .int .i64 x.key, .int .i64 x.elem, .bool x.opn] 67)) 67 #[.int .i64 y.kind, .string ⟨y.name.toArray⟩, .int .i64 y.low, .int .i64 y.high, .int .i64 y.max, .slice none 0 0, .slice none 0 0, .int .i64 y.key, .int .i64 y.elem, .bool y.opn]
    simp only [alloc_hz] at Y
    have hw88 := hb87
    replace X := Lib.hid X
    replace Y := Lib.hid Y
    clear hb87
    generalize ((w.alloc (.cells #[.int .i64 x.kind, .string ⟨x.name.toArray⟩, .int .i64 x.low, .int .i64 x.high, .int .i64 x.max, .slice A1 x.syms.length c1, .slice A2 x.mems.length c2, .int .i64 x.key, .int .i64 x.elem, .bool x.opn] 67)).alloc (.cells #[.int .i64 y.kind, .string ⟨y.name.toArray⟩, .int .i64 y.low, .int .i64 y.high, .int .i64 y.max, .slice none 0 0, .slice none 0 0, .int .i64 y.key, .int .i64 y.elem, .bool y.opn] 67)) = wd89 at *
    obtain ⟨cX_0, cX_1, cX_2, cX_3, cX_4, cX_5, cX_6, cX_7, cX_8, cX_9⟩ := X.out.c10
    obtain ⟨cY_0, cY_1, cY_2, cY_3, cY_4, cY_5, cY_6, cY_7, cY_8, cY_9⟩ := Y.out.c10
    go_wp2_with fail
    go_ret
    exact ⟨ret_bool Hse.out.symm, hw88⟩
  ·
   have t1 : (x.name == y.name) = false := by simpa using e1
   have Hse : Hid (sameZ x y = false) := by show _ = _; unfold sameZ; rw [decide_eq_false (fun h => e1 (by simp [h]))]; rfl
   clear e0 e1
   go_enter Try.func93, Try.ntmps93
   go_upto_region 1 with fail
   have hb90 := below_al (below_al (Below.refl w.heap.size w) (Nat.le_refl _) (.cells #[.int .i64 x.kind, .string ⟨x.name.toArray⟩, .int .i64 x.low, .int .i64 x.high, .int .i64 x.max, .slice A1 x.syms.length c1, .slice A2 x.mems.length c2, .int .i64 x.key, .int .i64 x.elem, .bool x.opn] 67)) (Nat.le_refl _) (.cells #[.int .i64 y.kind, .string ⟨y.name.toArray⟩, .int .i64 y.low, .int .i64 y.high, .int .i64 y.max, .slice none 0 0, .slice none 0 0, .int .i64 y.key, .int .i64 y.elem, .bool y.opn] 67)
   have X := (Has.made w 67 #[.int .i64 x.kind, .string ⟨x.name.toArray⟩, .int .i64 x.low, .int .i64 x.high, .int .i64 x.max, .slice A1 x.syms.length c1, .slice A2 x.mems.length c2, .int .i64 x.key, .int .i64 x.elem, .bool x.opn]).alloc (.cells #[.int .i64 y.kind, .string ⟨y.name.toArray⟩, .int .i64 y.low, .int .i64 y.high, .int .i64 y.max, .slice none 0 0, .slice none 0 0, .int .i64 y.key, .int .i64 y.elem, .bool y.opn] 67)
   have Y := Has.made (w.alloc (.cells #[.int .i64 x.kind, .string ⟨x.name.toArray⟩, .int .i64 x.low, .int .i64 x.high, .int .i64 x.max, .slice A1 x.syms.length c1, .slice A2 x.mems.length c2, .int .i64 x.key, .int .i64 x.elem, .bool x.opn] 67)) 67 #[.int .i64 y.kind, .string ⟨y.name.toArray⟩, .int .i64 y.low, .int .i64 y.high, .int .i64 y.max, .slice none 0 0, .slice none 0 0, .int .i64 y.key, .int .i64 y.elem, .bool y.opn]
   simp only [alloc_hz] at Y
   have hw91 := hb90
   replace X := Lib.hid X
   replace Y := Lib.hid Y
   clear hb90
   generalize ((w.alloc (.cells #[.int .i64 x.kind, .string ⟨x.name.toArray⟩, .int .i64 x.low, .int .i64 x.high, .int .i64 x.max, .slice A1 x.syms.length c1, .slice A2 x.mems.length c2, .int .i64 x.key, .int .i64 x.elem, .bool x.opn] 67)).alloc (.cells #[.int .i64 y.kind, .string ⟨y.name.toArray⟩, .int .i64 y.low, .int .i64 y.high, .int .i64 y.max, .slice none 0 0, .slice none 0 0, .int .i64 y.key, .int .i64 y.elem, .bool y.opn] 67)) = wd92 at *
   obtain ⟨cX_0, cX_1, cX_2, cX_3, cX_4, cX_5, cX_6, cX_7, cX_8, cX_9⟩ := X.out.c10
   obtain ⟨cY_0, cY_1, cY_2, cY_3, cY_4, cY_5, cY_6, cY_7, cY_8, cY_9⟩ := Y.out.c10
   go_wp2_with fail
   go_ret
   exact ⟨ret_bool Hse.out.symm, hw91⟩
 ·
  have t0 : (x.kind == y.kind) = false := by simpa using e0
  have Hse : Hid (sameZ x y = false) := by show _ = _; unfold sameZ; rw [decide_eq_false (fun h => e0 (by simp [h]))]; rfl
  clear e0
  go_enter Try.func93, Try.ntmps93
  go_upto_region 1 with fail
  have hb93 := below_al (below_al (Below.refl w.heap.size w) (Nat.le_refl _) (.cells #[.int .i64 x.kind, .string ⟨x.name.toArray⟩, .int .i64 x.low, .int .i64 x.high, .int .i64 x.max, .slice A1 x.syms.length c1, .slice A2 x.mems.length c2, .int .i64 x.key, .int .i64 x.elem, .bool x.opn] 67)) (Nat.le_refl _) (.cells #[.int .i64 y.kind, .string ⟨y.name.toArray⟩, .int .i64 y.low, .int .i64 y.high, .int .i64 y.max, .slice none 0 0, .slice none 0 0, .int .i64 y.key, .int .i64 y.elem, .bool y.opn] 67)
  have X := (Has.made w 67 #[.int .i64 x.kind, .string ⟨x.name.toArray⟩, .int .i64 x.low, .int .i64 x.high, .int .i64 x.max, .slice A1 x.syms.length c1, .slice A2 x.mems.length c2, .int .i64 x.key, .int .i64 x.elem, .bool x.opn]).alloc (.cells #[.int .i64 y.kind, .string ⟨y.name.toArray⟩, .int .i64 y.low, .int .i64 y.high, .int .i64 y.max, .slice none 0 0, .slice none 0 0, .int .i64 y.key, .int .i64 y.elem, .bool y.opn] 67)
  have Y := Has.made (w.alloc (.cells #[.int .i64 x.kind, .string ⟨x.name.toArray⟩, .int .i64 x.low, .int .i64 x.high, .int .i64 x.max, .slice A1 x.syms.length c1, .slice A2 x.mems.length c2, .int .i64 x.key, .int .i64 x.elem, .bool x.opn] 67)) 67 #[.int .i64 y.kind, .string ⟨y.name.toArray⟩, .int .i64 y.low, .int .i64 y.high, .int .i64 y.max, .slice none 0 0, .slice none 0 0, .int .i64 y.key, .int .i64 y.elem, .bool y.opn]
  simp only [alloc_hz] at Y
  have hw94 := hb93
  replace X := Lib.hid X
  replace Y := Lib.hid Y
  clear hb93
  generalize ((w.alloc (.cells #[.int .i64 x.kind, .string ⟨x.name.toArray⟩, .int .i64 x.low, .int .i64 x.high, .int .i64 x.max, .slice A1 x.syms.length c1, .slice A2 x.mems.length c2, .int .i64 x.key, .int .i64 x.elem, .bool x.opn] 67)).alloc (.cells #[.int .i64 y.kind, .string ⟨y.name.toArray⟩, .int .i64 y.low, .int .i64 y.high, .int .i64 y.max, .slice none 0 0, .slice none 0 0, .int .i64 y.key, .int .i64 y.elem, .bool y.opn] 67)) = wd95 at *
  obtain ⟨cX_0, cX_1, cX_2, cX_3, cX_4, cX_5, cX_6, cX_7, cX_8, cX_9⟩ := X.out.c10
  obtain ⟨cY_0, cY_1, cY_2, cY_3, cY_4, cY_5, cY_6, cY_7, cY_8, cY_9⟩ := Y.out.c10
  go_wp2_with fail
  go_ret
  exact ⟨ret_bool Hse.out.symm, hw94⟩
set_option maxRecDepth 100000 in
set_option maxHeartbeats 400000 in
theorem blank_any (x : Val) (vk vi vr : Value) (w : World) (hv : ValAt w w.heap.size x vk vi vr) :
  Calls Try.prog 105 #[valA x vk vi vr] w fun e w' => e = .returned (.bool (sameV x val0)) ∧ Below w.heap.size w w' := by
 obtain ⟨A1, n1, A2, n2, A3, n3, rfl, rfl, rfl, -, -, -⟩ := hv.forms
 have HV := Lib.hid hv
 have hc : ∀ W, ValAt W W.heap.size x (.slice A1 x.keys.length n1) (.slice A2 x.items.length n2) (.slice A3 x.rest.length n3) → Calls Try.prog 109 #[valA x (.slice A1 x.keys.length n1) (.slice A2 x.items.length n2) (.slice A3 x.rest.length n3), .agg #[.int .i64 0, .bool false, .int .i64 0, .string ⟨#[]⟩, .int .i64 0, .slice none 0 0, .slice none 0 0, .slice none 0 0]] W fun e w' => e = .returned (.bool (sameV x val0)) ∧ Below W.heap.size W w' :=
  fun W h => ssame_any (nodes x + 1) x val0 _ _ _ (.slice none 0 0) (.slice none 0 0) (.slice none 0 0) W (by omega) h (val0_at' _ _)
 have HC := Lib.hid hc
 clear hv hc
 go_enter Try.func105, Try.ntmps105
 go_upto_region 1 with fail
 have hb96 := below_al (Below.refl w.heap.size w) (Nat.le_refl _) (.cells #[.int .i64 x.kind, .bool x.bool, .int .i64 x.num, .string ⟨x.str.toArray⟩, .int .i64 x.id, .slice A1 x.keys.length n1, .slice A2 x.items.length n2, .slice A3 x.rest.length n3] 34)
 have X := Has.made w 34 #[.int .i64 x.kind, .bool x.bool, .int .i64 x.num, .string ⟨x.str.toArray⟩, .int .i64 x.id, .slice A1 x.keys.length n1, .slice A2 x.items.length n2, .slice A3 x.rest.length n3]
 have hw97 := hb96
 replace X := Lib.hid X
 clear hb96
 generalize (w.alloc (.cells #[.int .i64 x.kind, .bool x.bool, .int .i64 x.num, .string ⟨x.str.toArray⟩, .int .i64 x.id, .slice A1 x.keys.length n1, .slice A2 x.items.length n2, .slice A3 x.rest.length n3] 34)) = wd98 at *
 obtain ⟨cX_0, cX_1, cX_2, cX_3, cX_4, cX_5, cX_6, cX_7⟩ := X.out.c8
 go_wp2_with fail
 clear cX_0 cX_1 cX_2 cX_3 cX_4 cX_5 cX_6 cX_7
 ((with_reducible refine (HC.out _ (HV.out.on hw97)).mono ?_); rintro e wd99 ⟨rfl, hb100⟩)
 replace X := Lib.hid (X.out.below hb100 X.out.here)
 replace hw97 := hw97.trans (hb100.mono hw97.size)
 clear hb100
 go_wp2_with fail
 go_ret
 exact ⟨rfl, hw97⟩
end Go.Proofs.Ytjajgclchapllaa
namespace Go.Proofs.Ytjajgclchapllaa
open Go.ChangeShapes Go.WideShapes Go.ChangeAt Go.RowKit
abbrev memA (m : Mem) (vk vi vr : Value) : Value := .agg #[.int .i64 m.id, .string ⟨m.name.toArray⟩, .int .i64 m.ty, .bool m.crit, .bool m.hasDef, .int .i64 m.dflt.kind, .bool m.dflt.bool, .int .i64 m.dflt.num, .string ⟨m.dflt.str.toArray⟩, .int .i64 m.dflt.id, vk, vi, vr]
def sameM (x y : Mem) : Bool := decide (x.id = y.id ∧ x.name = y.name ∧ x.ty = y.ty ∧ x.crit = y.crit ∧ x.hasDef = y.hasDef) && sameV x.dflt y.dflt
theorem sameM_iff (x y : Mem) : sameM x y = true ↔ x = y := by
 unfold sameM
 rw [Bool.and_eq_true, decide_eq_true_eq, sameV_iff]
 cases x; cases y; simp [and_assoc]
set_option maxRecDepth 100000 in
set_option maxHeartbeats 8000000 in
theorem samem_any (x y : Mem) (vk vi vr uk ui ur : Value) (w : World) (hx : ValAt w w.heap.size x.dflt vk vi vr) (hy : ValAt w w.heap.size y.dflt uk ui ur) :
  Calls Try.prog 110 #[memA x vk vi vr, memA y uk ui ur] w fun e w' => e = .returned (.bool (sameM x y)) ∧ Below w.heap.size w w' := by
 obtain ⟨D1, dx1, D2, dx2, D3, dx3, rfl, rfl, rfl, -, -, -⟩ := hx.forms
 obtain ⟨E1, ex1, E2, ex2, E3, ex3, rfl, rfl, rfl, -, -, -⟩ := hy.forms
 have HX := Lib.hid hx
 have HY := Lib.hid hy
 clear hx hy
 by_cases e0 : x.id = y.id
 ·
  have t0 : (x.id == y.id) = true := by simp [e0]
  by_cases e1 : x.name = y.name
  ·
   have t1 : (x.name == y.name) = true := by simp [e1]
   by_cases e2 : x.ty = y.ty
   ·
    have t2 : (x.ty == y.ty) = true := by simp [e2]
    by_cases e3 : x.crit = y.crit
    ·
     have t3 : (x.crit == y.crit) = true := by simp [e3]
     by_cases e4 : x.hasDef = y.hasDef
     ·
      have t4 : (x.hasDef == y.hasDef) = true := by simp [e4]
      have Hse : Hid (sameM x y = sameV x.dflt y.dflt) := by show _ = _; unfold sameM; rw [decide_eq_true ⟨e0, e1, e2, e3, e4⟩]; rfl
      clear e0 e1 e2 e3 e4
      go_enter Try.func110, Try.ntmps110
      go_upto_region 1 with fail
      have hb101 := below_al (below_al (Below.refl w.heap.size w) (Nat.le_refl _) (.cells #[.int .i64 x.id, .string ⟨x.name.toArray⟩, .int .i64 x.ty, .bool x.crit, .bool x.hasDef, .int .i64 x.dflt.kind, .bool x.dflt.bool, .int .i64 x.dflt.num, .string ⟨x.dflt.str.toArray⟩, .int .i64 x.dflt.id, .slice D1 x.dflt.keys.length dx1, .slice D2 x.dflt.items.length dx2, .slice D3 x.dflt.rest.length dx3] 69)) (Nat.le_refl _) (.cells #[.int .i64 y.id, .string ⟨y.name.toArray⟩, .int .i64 y.ty, .bool y.crit, .bool y.hasDef, .int .i64 y.dflt.kind, .bool y.dflt.bool, .int .i64 y.dflt.num, .string ⟨y.dflt.str.toArray⟩, .int .i64 y.dflt.id, .slice E1 y.dflt.keys.length ex1, .slice E2 y.dflt.items.length ex2, .slice E3 y.dflt.rest.length ex3] 69)
      have X := (Has.made w 69 #[.int .i64 x.id, .string ⟨x.name.toArray⟩, .int .i64 x.ty, .bool x.crit, .bool x.hasDef, .int .i64 x.dflt.kind, .bool x.dflt.bool, .int .i64 x.dflt.num, .string ⟨x.dflt.str.toArray⟩, .int .i64 x.dflt.id, .slice D1 x.dflt.keys.length dx1, .slice D2 x.dflt.items.length dx2, .slice D3 x.dflt.rest.length dx3]).alloc (.cells #[.int .i64 y.id, .string ⟨y.name.toArray⟩, .int .i64 y.ty, .bool y.crit, .bool y.hasDef, .int .i64 y.dflt.kind, .bool y.dflt.bool, .int .i64 y.dflt.num, .string ⟨y.dflt.str.toArray⟩, .int .i64 y.dflt.id, .slice E1 y.dflt.keys.length ex1, .slice E2 y.dflt.items.length ex2, .slice E3 y.dflt.rest.length ex3] 69)
      have Y := Has.made (w.alloc (.cells #[.int .i64 x.id, .string ⟨x.name.toArray⟩, .int .i64 x.ty, .bool x.crit, .bool x.hasDef, .int .i64 x.dflt.kind, .bool x.dflt.bool, .int .i64 x.dflt.num, .string ⟨x.dflt.str.toArray⟩, .int .i64 x.dflt.id, .slice D1 x.dflt.keys.length dx1, .slice D2 x.dflt.items.length dx2, .slice D3 x.dflt.rest.length dx3] 69)) 69 #[.int .i64 y.id, .string ⟨y.name.toArray⟩, .int .i64 y.ty, .bool y.crit, .bool y.hasDef, .int .i64 y.dflt.kind, .bool y.dflt.bool, .int .i64 y.dflt.num, .string ⟨y.dflt.str.toArray⟩, .int .i64 y.dflt.id, .slice E1 y.dflt.keys.length ex1, .slice E2 y.dflt.items.length ex2, .slice E3 y.dflt.rest.length ex3]
      simp only [alloc_hz] at Y
      have hw102 := hb101
      replace X := Lib.hid X
      replace Y := Lib.hid Y
      clear hb101
      generalize ((w.alloc (.cells #[.int .i64 x.id, .string ⟨x.name.toArray⟩, .int .i64 x.ty, .bool x.crit, .bool x.hasDef, .int .i64 x.dflt.kind, .bool x.dflt.bool, .int .i64 x.dflt.num, .string ⟨x.dflt.str.toArray⟩, .int .i64 x.dflt.id, .slice D1 x.dflt.keys.length dx1, .slice D2 x.dflt.items.length dx2, .slice D3 x.dflt.rest.length dx3] 69)).alloc (.cells #[.int .i64 y.id, .string ⟨y.name.toArray⟩, .int .i64 y.ty, .bool y.crit, .bool y.hasDef, .int .i64 y.dflt.kind, .bool y.dflt.bool, .int .i64 y.dflt.num, .string ⟨y.dflt.str.toArray⟩, .int .i64 y.dflt.id, .slice E1 y.dflt.keys.length ex1, .slice E2 y.dflt.items.length ex2, .slice E3 y.dflt.rest.length ex3] 69)) = wd103 at *
      obtain ⟨cX_0, cX_1, cX_2, cX_3, cX_4, cX_5, cX_6, cX_7, cX_8, cX_9, cX_10, cX_11, cX_12⟩ := X.out.c13
      obtain ⟨cY_0, cY_1, cY_2, cY_3, cY_4, cY_5, cY_6, cY_7, cY_8, cY_9, cY_10, cY_11, cY_12⟩ := Y.out.c13
      go_wp2_with fail
      clear cX_0 cX_1 cX_2 cX_3 cX_4 cX_5 cX_6 cX_7 cX_8 cX_9 cX_10 cX_11 cX_12 cY_0 cY_1 cY_2 cY_3 cY_4 cY_5 cY_6 cY_7 cY_8 cY_9 cY_10 cY_11 cY_12
      ((with_reducible refine (rsame_any (nodes x.dflt + 1) x.dflt y.dflt _ _ _ _ _ _ _ (by omega) (HX.out.on hw102) (HY.out.on hw102)).mono ?_); rintro e wd104 ⟨rfl, hb105⟩)
      replace X := Lib.hid (X.out.below hb105 X.out.here)
      replace Y := Lib.hid (Y.out.below hb105 Y.out.here)
      replace hw102 := hw102.trans (hb105.mono hw102.size)
      clear hb105
      go_wp2_with fail
      go_ret
      exact ⟨ret_bool Hse.out.symm, hw102⟩
     ·
      have t4 : (x.hasDef == y.hasDef) = false := by simpa using e4
      have Hse : Hid (sameM x y = false) := by show _ = _; unfold sameM; rw [decide_eq_false (fun h => e4 (by simp [h]))]; rfl
      clear e0 e1 e2 e3 e4
      go_enter Try.func110, Try.ntmps110
      go_upto_region 1 with fail
      have hb106 := below_al (below_al (Below.refl w.heap.size w) (Nat.le_refl _) (.cells #[.int .i64 x.id, .string ⟨x.name.toArray⟩, .int .i64 x.ty, .bool x.crit, .bool x.hasDef, .int .i64 x.dflt.kind, .bool x.dflt.bool, .int .i64 x.dflt.num, .string ⟨x.dflt.str.toArray⟩, .int .i64 x.dflt.id, .slice D1 x.dflt.keys.length dx1, .slice D2 x.dflt.items.length dx2, .slice D3 x.dflt.rest.length dx3] 69)) (Nat.le_refl _) (.cells #[.int .i64 y.id, .string ⟨y.name.toArray⟩, .int .i64 y.ty, .bool y.crit, .bool y.hasDef, .int .i64 y.dflt.kind, .bool y.dflt.bool, .int .i64 y.dflt.num, .string ⟨y.dflt.str.toArray⟩, .int .i64 y.dflt.id, .slice E1 y.dflt.keys.length ex1, .slice E2 y.dflt.items.length ex2, .slice E3 y.dflt.rest.length ex3] 69)
      have X := (Has.made w 69 #[.int .i64 x.id, .string ⟨x.name.toArray⟩, .int .i64 x.ty, .bool x.crit, .bool x.hasDef, .int .i64 x.dflt.kind, .bool x.dflt.bool, .int .i64 x.dflt.num, .string ⟨x.dflt.str.toArray⟩, .int .i64 x.dflt.id, .slice D1 x.dflt.keys.length dx1, .slice D2 x.dflt.items.length dx2, .slice D3 x.dflt.rest.length dx3]).alloc (.cells #[.int .i64 y.id, .string ⟨y.name.toArray⟩, .int .i64 y.ty, .bool y.crit, .bool y.hasDef, .int .i64 y.dflt.kind, .bool y.dflt.bool, .int .i64 y.dflt.num, .string ⟨y.dflt.str.toArray⟩, .int .i64 y.dflt.id, .slice E1 y.dflt.keys.length ex1, .slice E2 y.dflt.items.length ex2, .slice E3 y.dflt.rest.length ex3] 69)
      have Y := Has.made (w.alloc (.cells #[.int .i64 x.id, .string ⟨x.name.toArray⟩, .int .i64 x.ty, .bool x.crit, .bool x.hasDef, .int .i64 x.dflt.kind, .bool x.dflt.bool, .int .i64 x.dflt.num, .string ⟨x.dflt.str.toArray⟩, .int .i64 x.dflt.id, .slice D1 x.dflt.keys.length dx1, .slice D2 x.dflt.items.length dx2, .slice D3 x.dflt.rest.length dx3] 69)) 69 #[.int .i64 y.id, .string ⟨y.name.toArray⟩, .int .i64 y.ty, .bool y.crit, .bool y.hasDef, .int .i64 y.dflt.kind, .bool y.dflt.bool, .int .i64 y.dflt.num, .string ⟨y.dflt.str.toArray⟩, .int .i64 y.dflt.id, .slice E1 y.dflt.keys.length ex1, .slice E2 y.dflt.items.length ex2, .slice E3 y.dflt.rest.length ex3]
      simp only [alloc_hz] at Y
      have hw107 := hb106
      replace X := Lib.hid X
      replace Y := Lib.hid Y
      clear hb106
      generalize ((w.alloc (.cells #[.int .i64 x.id, .string ⟨x.name.toArray⟩, .int .i64 x.ty, .bool x.crit, .bool x.hasDef, .int .i64 x.dflt.kind, .bool x.dflt.bool, .int .i64 x.dflt.num, .string ⟨x.dflt.str.toArray⟩, .int .i64 x.dflt.id, .slice D1 x.dflt.keys.length dx1, .slice D2 x.dflt.items.length dx2, .slice D3 x.dflt.rest.length dx3] 69)).alloc (.cells #[.int .i64 y.id, .string ⟨y.name.toArray⟩, .int .i64 y.ty, .bool y.crit, .bool y.hasDef, .int .i64 y.dflt.kind, .bool y.dflt.bool, .int .i64 y.dflt.num, .string ⟨y.dflt.str.toArray⟩, .int .i64 y.dflt.id, .slice E1 y.dflt.keys.length ex1, .slice E2 y.dflt.items.length ex2, .slice E3 y.dflt.rest.length ex3] 69)) = wd108 at *
      obtain ⟨cX_0, cX_1, cX_2, cX_3, cX_4, -, -, -, -, -, -, -, -⟩ := X.out.c13
      obtain ⟨cY_0, cY_1, cY_2, cY_3, cY_4, -, -, -, -, -, -, -, -⟩ := Y.out.c13
      go_wp2_with fail
      go_ret
      exact ⟨ret_bool Hse.out.symm, hw107⟩
    ·
     have t3 : (x.crit == y.crit) = false := by simpa using e3
     have Hse : Hid (sameM x y = false) := by show _ = _; unfold sameM; rw [decide_eq_false (fun h => e3 (by simp [h]))]; rfl
     clear e0 e1 e2 e3
     go_enter Try.func110, Try.ntmps110
     go_upto_region 1 with fail
     have hb109 := below_al (below_al (Below.refl w.heap.size w) (Nat.le_refl _) (.cells #[.int .i64 x.id, .string ⟨x.name.toArray⟩, .int .i64 x.ty, .bool x.crit, .bool x.hasDef, .int .i64 x.dflt.kind, .bool x.dflt.bool, .int .i64 x.dflt.num, .string ⟨x.dflt.str.toArray⟩, .int .i64 x.dflt.id, .slice D1 x.dflt.keys.length dx1, .slice D2 x.dflt.items.length dx2, .slice D3 x.dflt.rest.length dx3] 69)) (Nat.le_refl _) (.cells #[.int .i64 y.id, .string ⟨y.name.toArray⟩, .int .i64 y.ty, .bool y.crit, .bool y.hasDef, .int .i64 y.dflt.kind, .bool y.dflt.bool, .int .i64 y.dflt.num, .string ⟨y.dflt.str.toArray⟩, .int .i64 y.dflt.id, .slice E1 y.dflt.keys.length ex1, .slice E2 y.dflt.items.length ex2, .slice E3 y.dflt.rest.length ex3] 69)
     have X := (Has.made w 69 #[.int .i64 x.id, .string ⟨x.name.toArray⟩, .int .i64 x.ty, .bool x.crit, .bool x.hasDef, .int .i64 x.dflt.kind, .bool x.dflt.bool, .int .i64 x.dflt.num, .string ⟨x.dflt.str.toArray⟩, .int .i64 x.dflt.id, .slice D1 x.dflt.keys.length dx1, .slice D2 x.dflt.items.length dx2, .slice D3 x.dflt.rest.length dx3]).alloc (.cells #[.int .i64 y.id, .string ⟨y.name.toArray⟩, .int .i64 y.ty, .bool y.crit, .bool y.hasDef, .int .i64 y.dflt.kind, .bool y.dflt.bool, .int .i64 y.dflt.num, .string ⟨y.dflt.str.toArray⟩, .int .i64 y.dflt.id, .slice E1 y.dflt.keys.length ex1, .slice E2 y.dflt.items.length ex2, .slice E3 y.dflt.rest.length ex3] 69)
     have Y := Has.made (w.alloc (.cells #[.int .i64 x.id, .string ⟨x.name.toArray⟩, .int .i64 x.ty, .bool x.crit, .bool x.hasDef, .int .i64 x.dflt.kind, .bool x.dflt.bool, .int .i64 x.dflt.num, .string ⟨x.dflt.str.toArray⟩, .int .i64 x.dflt.id, .slice D1 x.dflt.keys.length dx1, .slice D2 x.dflt.items.length dx2, .slice D3 x.dflt.rest.length dx3] 69)) 69 #[.int .i64 y.id, .string ⟨y.name.toArray⟩, .int .i64 y.ty, .bool y.crit, .bool y.hasDef, .int .i64 y.dflt.kind, .bool y.dflt.bool, .int .i64 y.dflt.num, .string ⟨y.dflt.str.toArray⟩, .int .i64 y.dflt.id, .slice E1 y.dflt.keys.length ex1, .slice E2 y.dflt.items.length ex2, .slice E3 y.dflt.rest.length ex3]
     simp only [alloc_hz] at Y
     have hw110 := hb109
     replace X := Lib.hid X
     replace Y := Lib.hid Y
     clear hb109
     generalize ((w.alloc (.cells #[.int .i64 x.id, .string ⟨x.name.toArray⟩, .int .i64 x.ty, .bool x.crit, .bool x.hasDef, .int .i64 x.dflt.kind, .bool x.dflt.bool, .int .i64 x.dflt.num, .string ⟨x.dflt.str.toArray⟩, .int .i64 x.dflt.id, .slice D1 x.dflt.keys.length dx1, .slice D2 x.dflt.items.length dx2, .slice D3 x.dflt.rest.length dx3] 69)).alloc (.cells #[.int .i64 y.id, .string ⟨y.name.toArray⟩, .int .i64 y.ty, .bool y.crit, .bool y.hasDef, .int .i64 y.dflt.kind, .bool y.dflt.bool, .int .i64 y.dflt.num, .string ⟨y.dflt.str.toArray⟩, .int .i64 y.dflt.id, .slice E1 y.dflt.keys.length ex1, .slice E2 y.dflt.items.length ex2, .slice E3 y.dflt.rest.length ex3] 69)) = wd111 at *
     obtain ⟨cX_0, cX_1, cX_2, cX_3, cX_4, -, -, -, -, -, -, -, -⟩ := X.out.c13
     obtain ⟨cY_0, cY_1, cY_2, cY_3, cY_4, -, -, -, -, -, -, -, -⟩ := Y.out.c13
     go_wp2_with fail
     go_ret
     exact ⟨ret_bool Hse.out.symm, hw110⟩
   ·
    have t2 : (x.ty == y.ty) = false := by simpa using e2
    have Hse : Hid (sameM x y = false) := by show _ = _; unfold sameM; rw [decide_eq_false (fun h => e2 (by simp [h]))]; rfl
    clear e0 e1 e2
    go_enter Try.func110, Try.ntmps110
    go_upto_region 1 with fail
    have hb112 := below_al (below_al (Below.refl w.heap.size w) (Nat.le_refl _) (.cells #[.int .i64 x.id, .string ⟨x.name.toArray⟩, .int .i64 x.ty, .bool x.crit, .bool x.hasDef, .int .i64 x.dflt.kind, .bool x.dflt.bool, .int .i64 x.dflt.num, .string ⟨x.dflt.str.toArray⟩, .int .i64 x.dflt.id, .slice D1 x.dflt.keys.length dx1, .slice D2 x.dflt.items.length dx2, .slice D3 x.dflt.rest.length dx3] 69)) (Nat.le_refl _) (.cells #[.int .i64 y.id, .string ⟨y.name.toArray⟩, .int .i64 y.ty, .bool y.crit, .bool y.hasDef, .int .i64 y.dflt.kind, .bool y.dflt.bool, .int .i64 y.dflt.num, .string ⟨y.dflt.str.toArray⟩, .int .i64 y.dflt.id, .slice E1 y.dflt.keys.length ex1, .slice E2 y.dflt.items.length ex2, .slice E3 y.dflt.rest.length ex3] 69)
    have X := (Has.made w 69 #[.int .i64 x.id, .string ⟨x.name.toArray⟩, .int .i64 x.ty, .bool x.crit, .bool x.hasDef, .int .i64 x.dflt.kind, .bool x.dflt.bool, .int .i64 x.dflt.num, .string ⟨x.dflt.str.toArray⟩, .int .i64 x.dflt.id, .slice D1 x.dflt.keys.length dx1, .slice D2 x.dflt.items.length dx2, .slice D3 x.dflt.rest.length dx3]).alloc (.cells #[.int .i64 y.id, .string ⟨y.name.toArray⟩, .int .i64 y.ty, .bool y.crit, .bool y.hasDef, .int .i64 y.dflt.kind, .bool y.dflt.bool, .int .i64 y.dflt.num, .string ⟨y.dflt.str.toArray⟩, .int .i64 y.dflt.id, .slice E1 y.dflt.keys.length ex1, .slice E2 y.dflt.items.length ex2, .slice E3 y.dflt.rest.length ex3] 69)
    have Y := Has.made (w.alloc (.cells #[.int .i64 x.id, .string ⟨x.name.toArray⟩, .int .i64 x.ty, .bool x.crit, .bool x.hasDef, .int .i64 x.dflt.kind, .bool x.dflt.bool, .int .i64 x.dflt.num, .string ⟨x.dflt.str.toArray⟩, .int .i64 x.dflt.id, .slice D1 x.dflt.keys.length dx1, .slice D2 x.dflt.items.length dx2, .slice D3 x.dflt.rest.length dx3] 69)) 69 #[.int .i64 y.id, .string ⟨y.name.toArray⟩, .int .i64 y.ty, .bool y.crit, .bool y.hasDef, .int .i64 y.dflt.kind, .bool y.dflt.bool, .int .i64 y.dflt.num, .string ⟨y.dflt.str.toArray⟩, .int .i64 y.dflt.id, .slice E1 y.dflt.keys.length ex1, .slice E2 y.dflt.items.length ex2, .slice E3 y.dflt.rest.length ex3]
    simp only [alloc_hz] at Y
    have hw113 := hb112
    replace X := Lib.hid X
    replace Y := Lib.hid Y
    clear hb112
    generalize ((w.alloc (.cells #[.int .i64 x.id, .string ⟨x.name.toArray⟩, .int .i64 x.ty, .bool x.crit, .bool x.hasDef, .int .i64 x.dflt.kind, .bool x.dflt.bool, .int .i64 x.dflt.num, .string ⟨x.dflt.str.toArray⟩, .int .i64 x.dflt.id, .slice D1 x.dflt.keys.length dx1, .slice D2 x.dflt.items.length dx2, .slice D3 x.dflt.rest.length dx3] 69)).alloc (.cells #[.int .i64 y.id, .string ⟨y.name.toArray⟩, .int .i64 y.ty, .bool y.crit, .bool y.hasDef, .int .i64 y.dflt.kind, .bool y.dflt.bool, .int .i64 y.dflt.num, .string ⟨y.dflt.str.toArray⟩, .int .i64 y.dflt.id, .slice E1 y.dflt.keys.length ex1, .slice E2 y.dflt.items.length ex2, .slice E3 y.dflt.rest.length ex3] 69)) = wd114 at *
    obtain ⟨cX_0, cX_1, cX_2, cX_3, cX_4, -, -, -, -, -, -, -, -⟩ := X.out.c13
    obtain ⟨cY_0, cY_1, cY_2, cY_3, cY_4, -, -, -, -, -, -, -, -⟩ := Y.out.c13
    go_wp2_with fail
    go_ret
    exact ⟨ret_bool Hse.out.symm, hw113⟩
  ·
   have t1 : (x.name == y.name) = false := by simpa using e1
   have Hse : Hid (sameM x y = false) := by show _ = _; unfold sameM; rw [decide_eq_false (fun h => e1 (by simp [h]))]; rfl
   clear e0 e1
   go_enter Try.func110, Try.ntmps110
   go_upto_region 1 with fail
   have hb115 := below_al (below_al (Below.refl w.heap.size w) (Nat.le_refl _) (.cells #[.int .i64 x.id, .string ⟨x.name.toArray⟩, .int .i64 x.ty, .bool x.crit, .bool x.hasDef, .int .i64 x.dflt.kind, .bool x.dflt.bool, .int .i64 x.dflt.num, .string ⟨x.dflt.str.toArray⟩, .int .i64 x.dflt.id, .slice D1 x.dflt.keys.length dx1, .slice D2 x.dflt.items.length dx2, .slice D3 x.dflt.rest.length dx3] 69)) (Nat.le_refl _) (.cells #[.int .i64 y.id, .string ⟨y.name.toArray⟩, .int .i64 y.ty, .bool y.crit, .bool y.hasDef, .int .i64 y.dflt.kind, .bool y.dflt.bool, .int .i64 y.dflt.num, .string ⟨y.dflt.str.toArray⟩, .int .i64 y.dflt.id, .slice E1 y.dflt.keys.length ex1, .slice E2 y.dflt.items.length ex2, .slice E3 y.dflt.rest.length ex3] 69)
   have X := (Has.made w 69 #[.int .i64 x.id, .string ⟨x.name.toArray⟩, .int .i64 x.ty, .bool x.crit, .bool x.hasDef, .int .i64 x.dflt.kind, .bool x.dflt.bool, .int .i64 x.dflt.num, .string ⟨x.dflt.str.toArray⟩, .int .i64 x.dflt.id, .slice D1 x.dflt.keys.length dx1, .slice D2 x.dflt.items.length dx2, .slice D3 x.dflt.rest.length dx3]).alloc (.cells #[.int .i64 y.id, .string ⟨y.name.toArray⟩, .int .i64 y.ty, .bool y.crit, .bool y.hasDef, .int .i64 y.dflt.kind, .bool y.dflt.bool, .int .i64 y.dflt.num, .string ⟨y.dflt.str.toArray⟩, .int .i64 y.dflt.id, .slice E1 y.dflt.keys.length ex1, .slice E2 y.dflt.items.length ex2, .slice E3 y.dflt.rest.length ex3] 69)
   have Y := Has.made (w.alloc (.cells #[.int .i64 x.id, .string ⟨x.name.toArray⟩, .int .i64 x.ty, .bool x.crit, .bool x.hasDef, .int .i64 x.dflt.kind, .bool x.dflt.bool, .int .i64 x.dflt.num, .string ⟨x.dflt.str.toArray⟩, .int .i64 x.dflt.id, .slice D1 x.dflt.keys.length dx1, .slice D2 x.dflt.items.length dx2, .slice D3 x.dflt.rest.length dx3] 69)) 69 #[.int .i64 y.id, .string ⟨y.name.toArray⟩, .int .i64 y.ty, .bool y.crit, .bool y.hasDef, .int .i64 y.dflt.kind, .bool y.dflt.bool, .int .i64 y.dflt.num, .string ⟨y.dflt.str.toArray⟩, .int .i64 y.dflt.id, .slice E1 y.dflt.keys.length ex1, .slice E2 y.dflt.items.length ex2, .slice E3 y.dflt.rest.length ex3]
   simp only [alloc_hz] at Y
   have hw116 := hb115
   replace X := Lib.hid X
   replace Y := Lib.hid Y
   clear hb115
   generalize ((w.alloc (.cells #[.int .i64 x.id, .string ⟨x.name.toArray⟩, .int .i64 x.ty, .bool x.crit, .bool x.hasDef, .int .i64 x.dflt.kind, .bool x.dflt.bool, .int .i64 x.dflt.num, .string ⟨x.dflt.str.toArray⟩, .int .i64 x.dflt.id, .slice D1 x.dflt.keys.length dx1, .slice D2 x.dflt.items.length dx2, .slice D3 x.dflt.rest.length dx3] 69)).alloc (.cells #[.int .i64 y.id, .string ⟨y.name.toArray⟩, .int .i64 y.ty, .bool y.crit, .bool y.hasDef, .int .i64 y.dflt.kind, .bool y.dflt.bool, .int .i64 y.dflt.num, .string ⟨y.dflt.str.toArray⟩, .int .i64 y.dflt.id, .slice E1 y.dflt.keys.length ex1, .slice E2 y.dflt.items.length ex2, .slice E3 y.dflt.rest.length ex3] 69)) = wd117 at *
   obtain ⟨cX_0, cX_1, cX_2, cX_3, cX_4, -, -, -, -, -, -, -, -⟩ := X.out.c13
   obtain ⟨cY_0, cY_1, cY_2, cY_3, cY_4, -, -, -, -, -, -, -, -⟩ := Y.out.c13
   go_wp2_with fail
   go_ret
   exact ⟨ret_bool Hse.out.symm, hw116⟩
 ·
  have t0 : (x.id == y.id) = false := by simpa using e0
  have Hse : Hid (sameM x y = false) := by show _ = _; unfold sameM; rw [decide_eq_false (fun h => e0 (by simp [h]))]; rfl
  clear e0
  go_enter Try.func110, Try.ntmps110
  go_upto_region 1 with fail
  have hb118 := below_al (below_al (Below.refl w.heap.size w) (Nat.le_refl _) (.cells #[.int .i64 x.id, .string ⟨x.name.toArray⟩, .int .i64 x.ty, .bool x.crit, .bool x.hasDef, .int .i64 x.dflt.kind, .bool x.dflt.bool, .int .i64 x.dflt.num, .string ⟨x.dflt.str.toArray⟩, .int .i64 x.dflt.id, .slice D1 x.dflt.keys.length dx1, .slice D2 x.dflt.items.length dx2, .slice D3 x.dflt.rest.length dx3] 69)) (Nat.le_refl _) (.cells #[.int .i64 y.id, .string ⟨y.name.toArray⟩, .int .i64 y.ty, .bool y.crit, .bool y.hasDef, .int .i64 y.dflt.kind, .bool y.dflt.bool, .int .i64 y.dflt.num, .string ⟨y.dflt.str.toArray⟩, .int .i64 y.dflt.id, .slice E1 y.dflt.keys.length ex1, .slice E2 y.dflt.items.length ex2, .slice E3 y.dflt.rest.length ex3] 69)
  have X := (Has.made w 69 #[.int .i64 x.id, .string ⟨x.name.toArray⟩, .int .i64 x.ty, .bool x.crit, .bool x.hasDef, .int .i64 x.dflt.kind, .bool x.dflt.bool, .int .i64 x.dflt.num, .string ⟨x.dflt.str.toArray⟩, .int .i64 x.dflt.id, .slice D1 x.dflt.keys.length dx1, .slice D2 x.dflt.items.length dx2, .slice D3 x.dflt.rest.length dx3]).alloc (.cells #[.int .i64 y.id, .string ⟨y.name.toArray⟩, .int .i64 y.ty, .bool y.crit, .bool y.hasDef, .int .i64 y.dflt.kind, .bool y.dflt.bool, .int .i64 y.dflt.num, .string ⟨y.dflt.str.toArray⟩, .int .i64 y.dflt.id, .slice E1 y.dflt.keys.length ex1, .slice E2 y.dflt.items.length ex2, .slice E3 y.dflt.rest.length ex3] 69)
  have Y := Has.made (w.alloc (.cells #[.int .i64 x.id, .string ⟨x.name.toArray⟩, .int .i64 x.ty, .bool x.crit, .bool x.hasDef, .int .i64 x.dflt.kind, .bool x.dflt.bool, .int .i64 x.dflt.num, .string ⟨x.dflt.str.toArray⟩, .int .i64 x.dflt.id, .slice D1 x.dflt.keys.length dx1, .slice D2 x.dflt.items.length dx2, .slice D3 x.dflt.rest.length dx3] 69)) 69 #[.int .i64 y.id, .string ⟨y.name.toArray⟩, .int .i64 y.ty, .bool y.crit, .bool y.hasDef, .int .i64 y.dflt.kind, .bool y.dflt.bool, .int .i64 y.dflt.num, .string ⟨y.dflt.str.toArray⟩, .int .i64 y.dflt.id, .slice E1 y.dflt.keys.length ex1, .slice E2 y.dflt.items.length ex2, .slice E3 y.dflt.rest.length ex3]
  simp only [alloc_hz] at Y
  have hw119 := hb118
  replace X := Lib.hid X
  replace Y := Lib.hid Y
  clear hb118
  generalize ((w.alloc (.cells #[.int .i64 x.id, .string ⟨x.name.toArray⟩, .int .i64 x.ty, .bool x.crit, .bool x.hasDef, .int .i64 x.dflt.kind, .bool x.dflt.bool, .int .i64 x.dflt.num, .string ⟨x.dflt.str.toArray⟩, .int .i64 x.dflt.id, .slice D1 x.dflt.keys.length dx1, .slice D2 x.dflt.items.length dx2, .slice D3 x.dflt.rest.length dx3] 69)).alloc (.cells #[.int .i64 y.id, .string ⟨y.name.toArray⟩, .int .i64 y.ty, .bool y.crit, .bool y.hasDef, .int .i64 y.dflt.kind, .bool y.dflt.bool, .int .i64 y.dflt.num, .string ⟨y.dflt.str.toArray⟩, .int .i64 y.dflt.id, .slice E1 y.dflt.keys.length ex1, .slice E2 y.dflt.items.length ex2, .slice E3 y.dflt.rest.length ex3] 69)) = wd120 at *
  obtain ⟨cX_0, cX_1, cX_2, cX_3, cX_4, -, -, -, -, -, -, -, -⟩ := X.out.c13
  obtain ⟨cY_0, cY_1, cY_2, cY_3, cY_4, -, -, -, -, -, -, -, -⟩ := Y.out.c13
  go_wp2_with fail
  go_ret
  exact ⟨ret_bool Hse.out.symm, hw119⟩
end Go.Proofs.Ytjajgclchapllaa

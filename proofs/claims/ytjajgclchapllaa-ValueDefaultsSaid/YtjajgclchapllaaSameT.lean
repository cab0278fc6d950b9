/- What sheaveref07.SameType computes. No condition. -/
import Derived.Test.YtjajgclchapllaaGL
import Derived.StillTailTactics
import Derived.Deep.QuietTactic
import Derived.BigQuiet
namespace Go.Proofs.Ytjajgclchapllaa
open Go.ChangeShapes Go.WideShapes Go.ChangeAt Go.RowKit
instance decMem : DecidableEq Mem := fun x y => decidable_of_iff (sameM x y = true) (sameM_iff x y)
theorem eq_sym (x y : Raw) (w : World) : (Op.equalIn 10000 84 (rawA x) (rawA y)).run Try.prog w = .ok (decide (x = y)) w := by
 obtain ⟨x0, x3⟩ := x
 obtain ⟨y0, y3⟩ := y
 have u0 := Try.underlying3
 have u2 := Try.underlying9
 have hS : Try.prog.underlying 84 = some (.struct (Try.prog.fieldsOf 84)) := by kernel_rfl
 have hp : Try.prog.stoodInHeld 84 = false := by kernel_rfl
 rw [show (10000 : Nat) = 9999 + 1 from rfl, rawA, rawA, run_equalIn_agg w 9999 84 _ _ hS hp]
 simp only [Program.fieldsOf, Try.underlying84]
 have hb := bytes_beq x3 y3
 go_simp
 by_cases h1 : x0 = y0 <;> by_cases h4 : x3 = y3 <;> simp [h1, h4]
theorem neq_sym (x y : Raw) : ∀ W, (binOp .neq 84 (rawA x) (rawA y)).run Try.prog W = .ok (.bool (!decide (x = y))) W := fun W => by
 rw [rawA, rawA, run_neq_struct, ← rawA, ← rawA, eq_sym]; rfl
def sameT (x y : Typ) : Bool := decide (x.kind = y.kind ∧ x.name = y.name ∧ x.low = y.low ∧ x.high = y.high ∧ x.max = y.max ∧ x.key = y.key ∧ x.elem = y.elem ∧ x.opn = y.opn) && (decide (x.syms = y.syms) && decide (x.mems = y.mems))
set_option maxRecDepth 100000 in
set_option maxHeartbeats 8000000 in
theorem samet_any (x y : Typ) (vs vm us um : Value) (w : World) (hx : TypAt w w.heap.size x vs vm) (hy : TypAt w w.heap.size y us um) :
  Calls Try.prog 94 #[typA x vs vm, typA y us um] w fun e w' => e = .returned (.bool (sameT x y)) ∧ Below w.heap.size w w' := by
 obtain ⟨A1, m1, A2, m2, rfl, rfl, -, -⟩ := hx.forms
 obtain ⟨B1, k1, B2, k2, rfl, rfl, -, -⟩ := hy.forms
 have HX := Lib.hid hx
 have HY := Lib.hid hy
 have hxl := hx.lens
 have hyl := hy.lens
 clear hx hy
 by_cases e0 : x.kind = y.kind
 ·
  skip
  by_cases e1 : x.name = y.name
  ·
   skip
   by_cases e2 : x.low = y.low
   ·
    skip
    by_cases e3 : x.high = y.high
    ·
     skip
     by_cases e4 : x.max = y.max
     ·
      skip
      by_cases e5 : x.key = y.key
      ·
       skip
       by_cases e6 : x.elem = y.elem
       ·
        skip
        by_cases e7 : x.opn = y.opn
        ·
         skip
         have Hse : Hid (sameT x y = (decide (x.syms = y.syms) && decide (x.mems = y.mems))) := by show _ = _; unfold sameT; rw [decide_eq_true ⟨e0, e1, e2, e3, e4, e5, e6, e7⟩]; rfl
         simp only [typA, ← e0, ← e1, ← e2, ← e3, ← e4, ← e5, ← e6, ← e7]
         clear e0 e1 e2 e3 e4 e5 e6 e7
         by_cases ls : x.syms.length = y.syms.length
         ·
          have ts : ((x.syms.length : Int) != (y.syms.length : Int)) = false := by simp [ls]
          have hsl2 : (x.syms.length : Int) ≤ y.syms.length := by omega
          have LS := Lib.hid ls
          clear ls
          by_cases lm : x.mems.length = y.mems.length
          ·
           have tm : ((x.mems.length : Int) != (y.mems.length : Int)) = false := by simp [lm]
           have hml2 : (x.mems.length : Int) ≤ y.mems.length := by omega
           have LM := Lib.hid lm
           clear lm
           go_enter Try.func94, Try.ntmps94
           go_upto_region 1 with fail
           have hb121 := below_al (below_al (Below.refl w.heap.size w) (Nat.le_refl _) (.cells #[.int .i64 x.kind, .string ⟨x.name.toArray⟩, .int .i64 x.low, .int .i64 x.high, .int .i64 x.max, .slice A1 x.syms.length m1, .slice A2 x.mems.length m2, .int .i64 x.key, .int .i64 x.elem, .bool x.opn] 67)) (Nat.le_refl _) (.cells #[.int .i64 x.kind, .string ⟨x.name.toArray⟩, .int .i64 x.low, .int .i64 x.high, .int .i64 x.max, .slice B1 y.syms.length k1, .slice B2 y.mems.length k2, .int .i64 x.key, .int .i64 x.elem, .bool x.opn] 67)
           have X := (Has.made w 67 #[.int .i64 x.kind, .string ⟨x.name.toArray⟩, .int .i64 x.low, .int .i64 x.high, .int .i64 x.max, .slice A1 x.syms.length m1, .slice A2 x.mems.length m2, .int .i64 x.key, .int .i64 x.elem, .bool x.opn]).alloc (.cells #[.int .i64 x.kind, .string ⟨x.name.toArray⟩, .int .i64 x.low, .int .i64 x.high, .int .i64 x.max, .slice B1 y.syms.length k1, .slice B2 y.mems.length k2, .int .i64 x.key, .int .i64 x.elem, .bool x.opn] 67)
           have Y := Has.made (w.alloc (.cells #[.int .i64 x.kind, .string ⟨x.name.toArray⟩, .int .i64 x.low, .int .i64 x.high, .int .i64 x.max, .slice A1 x.syms.length m1, .slice A2 x.mems.length m2, .int .i64 x.key, .int .i64 x.elem, .bool x.opn] 67)) 67 #[.int .i64 x.kind, .string ⟨x.name.toArray⟩, .int .i64 x.low, .int .i64 x.high, .int .i64 x.max, .slice B1 y.syms.length k1, .slice B2 y.mems.length k2, .int .i64 x.key, .int .i64 x.elem, .bool x.opn]
           simp only [alloc_hz] at Y
           have hw122 := hb121
           replace X := Lib.hid X
           replace Y := Lib.hid Y
           clear hb121
           generalize ((w.alloc (.cells #[.int .i64 x.kind, .string ⟨x.name.toArray⟩, .int .i64 x.low, .int .i64 x.high, .int .i64 x.max, .slice A1 x.syms.length m1, .slice A2 x.mems.length m2, .int .i64 x.key, .int .i64 x.elem, .bool x.opn] 67)).alloc (.cells #[.int .i64 x.kind, .string ⟨x.name.toArray⟩, .int .i64 x.low, .int .i64 x.high, .int .i64 x.max, .slice B1 y.syms.length k1, .slice B2 y.mems.length k2, .int .i64 x.key, .int .i64 x.elem, .bool x.opn] 67)) = wd123 at *
           obtain ⟨cX_0, cX_1, cX_2, cX_3, cX_4, cX_5, cX_6, cX_7, cX_8, cX_9⟩ := X.out.c10
           obtain ⟨cY_0, cY_1, cY_2, cY_3, cY_4, cY_5, cY_6, cY_7, cY_8, cY_9⟩ := Y.out.c10
           have HX0 := Lib.hid X.out
           have HY0 := Lib.hid Y.out
           have HB0 := Lib.hid hw122
           go_wp2_with fail
           clear X Y
           go_loopw [5] (fun i wr => ∃ k : Nat, k ≤ x.syms.length ∧ i = .int .i64 k ∧ x.syms.take k = y.syms.take k ∧ Has wr w.heap.size 67 #[.int .i64 x.kind, .string ⟨x.name.toArray⟩, .int .i64 x.low, .int .i64 x.high, .int .i64 x.max, .slice A1 x.syms.length m1, .slice A2 x.mems.length m2, .int .i64 x.key, .int .i64 x.elem, .bool x.opn] ∧ Has wr (w.heap.size + 1) 67 #[.int .i64 x.kind, .string ⟨x.name.toArray⟩, .int .i64 x.low, .int .i64 x.high, .int .i64 x.max, .slice B1 y.syms.length k1, .slice B2 y.mems.length k2, .int .i64 x.key, .int .i64 x.elem, .bool x.opn] ∧ Below w.heap.size w wr) (fun i _ => x.syms.length - (intOf i).toNat)
           case atStart => exact ⟨0, by omega, rfl, rfl, HX0.out, HY0.out, HB0.out⟩
           case round =>
            clear HX0 HY0 HB0
            obtain ⟨k, hk, rfl, hp, X, Y, hb⟩ := hrel
            have Hp := Lib.hid hp
            have cx5 := X.cell 5
            have cy5 := Y.cell 5
            have cx6 := X.cell 6
            have cy6 := Y.cell 6
            simp only [List.getElem?_toArray, List.getElem?_cons_succ, List.getElem?_cons_zero] at cx5 cy5 cx6 cy6
            have HXr := Lib.hid X
            have HYr := Lib.hid Y
            clear hp X Y
            by_cases hlt : k < x.syms.length
            ·
             obtain ⟨b, o, rfl, hbb, hcell⟩ := (HX.out.on hb).syms.at_ (by omega)
             have hlt' : k < y.syms.length := by have := LS.out; omega
             obtain ⟨b', o', rfl, hbb', hcell'⟩ := (HY.out.on hb).syms.at_ (by omega)
             obtain ⟨hc0, hc1⟩ := rawV_at hcell k hlt
             obtain ⟨hd0, hd1⟩ := rawV_at hcell' k hlt'
             clear hcell hcell'
             have hi1 : (k : Int) < x.syms.length := by omega
             have hi2 : (k : Int) < y.syms.length := by omega
             have Hx : Hid (x.syms.take (k+1) = x.syms.take k ++ [x.syms[k]]) := List.take_succ_eq_append_getElem hlt
             have Hy : Hid (y.syms.take (k+1) = y.syms.take k ++ [y.syms[k]]) := List.take_succ_eq_append_getElem hlt'
             have Hne : Hid (x.syms[k] ≠ y.syms[k] → sameT x y = false) := fun h => by
              rw [Hse.out, decide_eq_false (p := x.syms = y.syms) (fun e => h (by simp [e]))]; rfl
             generalize x.syms[k] = r at *
             generalize y.syms[k] = s at *
             have hq := neq_sym r s
             have hg : Try.prog.eqGuardType Try.prog.depth 84 = false := by kernel_rfl
             by_cases he : r = s
             ·
              rw [decide_eq_true he] at hq
              have He := Lib.hid he
              clear he
              simp only [rawA, Bool.not_true] at hq
              go_wp2_with fail
              go_quiet (fail)
              go_wp2_with fail
              go_roundw
              case rel => exact ⟨k + 1, by omega, by go_num, by rw [Hx.out, Hy.out, Hp.out, He.out], HXr.out.drewN _, HYr.out.drewN _, below_drewN hb _⟩
              case measure => simp [intOf]; omega
             ·
              rw [decide_eq_false he] at hq
              have He := Lib.hid he
              clear he
              simp only [rawA, Bool.not_false] at hq
              go_wp2_with fail
              go_quiet (fail)
              go_wp2_with fail
              go_ret
              exact ⟨ret_bool (Hne.out He.out).symm, below_drewN hb _⟩
            ·
             have e1 := Hp.out
             rw [List.take_of_length_le (by omega), List.take_of_length_le (by have := LS.out; omega)] at e1
             have Hse2 : Hid (sameT x y = decide (x.mems = y.mems)) := by show _ = _; rw [Hse.out, decide_eq_true e1, Bool.true_and]
             have HB1 := Lib.hid hb
             clear e1 Hp Hse hb
             go_wp2_with fail
             clear cx5 cy5 cx6 cy6
             go_loopw [6] (fun i wr => ∃ k : Nat, k ≤ x.mems.length ∧ i = .int .i64 k ∧ x.mems.take k = y.mems.take k ∧ Has wr w.heap.size 67 #[.int .i64 x.kind, .string ⟨x.name.toArray⟩, .int .i64 x.low, .int .i64 x.high, .int .i64 x.max, .slice A1 x.syms.length m1, .slice A2 x.mems.length m2, .int .i64 x.key, .int .i64 x.elem, .bool x.opn] ∧ Has wr (w.heap.size + 1) 67 #[.int .i64 x.kind, .string ⟨x.name.toArray⟩, .int .i64 x.low, .int .i64 x.high, .int .i64 x.max, .slice B1 y.syms.length k1, .slice B2 y.mems.length k2, .int .i64 x.key, .int .i64 x.elem, .bool x.opn] ∧ Below w.heap.size w wr) (fun i _ => x.mems.length - (intOf i).toNat)
             case atStart => exact ⟨0, by omega, rfl, rfl, HXr.out, HYr.out, HB1.out⟩
             case round =>
              clear HXr HYr HB1
              obtain ⟨k, hk, rfl, hp, X, Y, hb⟩ := hrel
              have Hp := Lib.hid hp
              have cx6 := X.cell 6
              have cy6 := Y.cell 6
              simp only [List.getElem?_toArray, List.getElem?_cons_succ, List.getElem?_cons_zero] at cx6 cy6
              have HXr := Lib.hid X
              have HYr := Lib.hid Y
              clear hp X Y
              by_cases hlt : k < x.mems.length
              ·
               obtain ⟨b, o, rfl, hbb, hel⟩ := (HX.out.on hb).mems.elem (by omega)
               have hlt' : k < y.mems.length := by have := LM.out; omega
               obtain ⟨b', o', rfl, hbb', hel'⟩ := (HY.out.on hb).mems.elem (by omega)
               obtain ⟨vk, vi, vr, hcm, hma⟩ := hel k hlt
               obtain ⟨uk, ui, ur, hdm, hmb⟩ := hel' k hlt'
               have hi1 : (k : Int) < x.mems.length := by omega
               have hi2 : (k : Int) < y.mems.length := by omega
               have Hx : Hid (x.mems.take (k+1) = x.mems.take k ++ [x.mems[k]]) := List.take_succ_eq_append_getElem hlt
               have Hy : Hid (y.mems.take (k+1) = y.mems.take k ++ [y.mems[k]]) := List.take_succ_eq_append_getElem hlt'
               have Hne : Hid (x.mems[k] ≠ y.mems[k] → sameT x y = false) := fun h => by
                rw [Hse2.out, decide_eq_false (fun e => h (by simp [e]))]
               generalize x.mems[k] = r at *
               generalize y.mems[k] = s at *
               have HR := Lib.hid hma.dflt
               have HS := Lib.hid hmb.dflt
               obtain ⟨V1, v1, V2, v2, V3, v3, rfl, rfl, rfl, -, -, -⟩ := hma.dflt.forms
               obtain ⟨U1, u1, U2, u2, U3, u3, rfl, rfl, rfl, -, -, -⟩ := hmb.dflt.forms
               obtain ⟨c0, c1, c2, c3, c4, c5, c6, c7, c8, c9, c10, c11, c12⟩ := hcm
               obtain ⟨d0, d1, d2, d3, d4, d5, d6, d7, d8, d9, d10, d11, d12⟩ := hdm
               clear hel hel' hma hmb
               go_wp2_with fail
               go_still_tail 10, (by kernel_rfl)
               change wpList _ _ _ _ _ wr.drew
               have HRD := Lib.hid (HR.out.on (w' := wr.drew) (Below.refl _ _).drew)
               have HSD := Lib.hid (HS.out.on (w' := wr.drew) (Below.refl _ _).drew)
               have hbd := hb.drew
               have HXd := Lib.hid HXr.out.drew
               have HYd := Lib.hid HYr.out.drew
               clear hb c0 c1 c2 c3 c4 c5 c6 c7 c8 c9 c10 c11 c12 d0 d1 d2 d3 d4 d5 d6 d7 d8 d9 d10 d11 d12 HR HS HXr HYr cx6 cy6
               generalize wr.drew = w1 at *
               go_wp2_with fail
               refine (samem_any r s _ _ _ _ _ _ _ HRD.out HSD.out).mono ?_
               rintro e w2 ⟨rfl, hb2⟩
               have hb02 := hbd.trans (hb2.mono hbd.size)
               have HX2 := Lib.hid (HXd.out.below hb2 HXd.out.here)
               have HY2 := Lib.hid (HYd.out.below hb2 HYd.out.here)
               clear hb2 hbd HXd HYd HRD HSD
               cases hsm : sameM r s with
               | true =>
                have He := Lib.hid ((sameM_iff r s).1 hsm)
                clear hsm
                go_wp2_with fail
                go_roundw
                case rel => exact ⟨k + 1, by omega, by go_num, by rw [Hx.out, Hy.out, Hp.out, He.out], HX2.out, HY2.out, hb02⟩
                case measure => simp [intOf]; omega
               | false =>
                have Hn := Lib.hid (Hne.out (fun e => by rw [(sameM_iff r s).2 e] at hsm; cases hsm))
                clear hsm
                go_wp2_with fail
                go_ret
                exact ⟨ret_bool Hn.out.symm, hb02⟩
              ·
               have e2 := Hp.out
               rw [List.take_of_length_le (by omega), List.take_of_length_le (by have := LM.out; omega)] at e2
               have Hend : Hid (sameT x y = true) := by show _ = _; rw [Hse2.out, decide_eq_true e2]
               clear e2 Hp
               go_wp2_with fail
               go_ret
               exact ⟨ret_bool Hend.out.symm, hb⟩
          ·
           have tm : ((x.mems.length : Int) != (y.mems.length : Int)) = true := bne_iff_ne.2 (by omega)
           have Hno : Hid (sameT x y = false) := by show _ = _; rw [Hse.out, decide_eq_false (p := x.mems = y.mems) (fun h => lm (by rw [h])), Bool.and_false]
           go_enter Try.func94, Try.ntmps94
           go_upto_region 1 with fail
           have hb124 := below_al (below_al (Below.refl w.heap.size w) (Nat.le_refl _) (.cells #[.int .i64 x.kind, .string ⟨x.name.toArray⟩, .int .i64 x.low, .int .i64 x.high, .int .i64 x.max, .slice A1 x.syms.length m1, .slice A2 x.mems.length m2, .int .i64 x.key, .int .i64 x.elem, .bool x.opn] 67)) (Nat.le_refl _) (.cells #[.int .i64 x.kind, .string ⟨x.name.toArray⟩, .int .i64 x.low, .int .i64 x.high, .int .i64 x.max, .slice B1 y.syms.length k1, .slice B2 y.mems.length k2, .int .i64 x.key, .int .i64 x.elem, .bool x.opn] 67)
           have X := (Has.made w 67 #[.int .i64 x.kind, .string ⟨x.name.toArray⟩, .int .i64 x.low, .int .i64 x.high, .int .i64 x.max, .slice A1 x.syms.length m1, .slice A2 x.mems.length m2, .int .i64 x.key, .int .i64 x.elem, .bool x.opn]).alloc (.cells #[.int .i64 x.kind, .string ⟨x.name.toArray⟩, .int .i64 x.low, .int .i64 x.high, .int .i64 x.max, .slice B1 y.syms.length k1, .slice B2 y.mems.length k2, .int .i64 x.key, .int .i64 x.elem, .bool x.opn] 67)
           have Y := Has.made (w.alloc (.cells #[.int .i64 x.kind, .string ⟨x.name.toArray⟩, .int .i64 x.low, .int .i64 x.high, .int .i64 x.max, .slice A1 x.syms.length m1, .slice A2 x.mems.length m2, .int .i64 x.key, .int .i64 x.elem, .bool x.opn] 67)) 67 #[.int .i64 x.kind, .string ⟨x.name.toArray⟩, .int .i64 x.low, .int .i64 x.high, .int .i64 x.max, .slice B1 y.syms.length k1, .slice B2 y.mems.length k2, .int .i64 x.key, .int .i64 x.elem, .bool x.opn]
           simp only [alloc_hz] at Y
           have hw125 := hb124
           replace X := Lib.hid X
           replace Y := Lib.hid Y
           clear hb124
           generalize ((w.alloc (.cells #[.int .i64 x.kind, .string ⟨x.name.toArray⟩, .int .i64 x.low, .int .i64 x.high, .int .i64 x.max, .slice A1 x.syms.length m1, .slice A2 x.mems.length m2, .int .i64 x.key, .int .i64 x.elem, .bool x.opn] 67)).alloc (.cells #[.int .i64 x.kind, .string ⟨x.name.toArray⟩, .int .i64 x.low, .int .i64 x.high, .int .i64 x.max, .slice B1 y.syms.length k1, .slice B2 y.mems.length k2, .int .i64 x.key, .int .i64 x.elem, .bool x.opn] 67)) = wd126 at *
           obtain ⟨cX_0, cX_1, cX_2, cX_3, cX_4, cX_5, cX_6, cX_7, cX_8, cX_9⟩ := X.out.c10
           obtain ⟨cY_0, cY_1, cY_2, cY_3, cY_4, cY_5, cY_6, cY_7, cY_8, cY_9⟩ := Y.out.c10
           go_wp2_with fail
           go_ret
           exact ⟨ret_bool Hno.out.symm, hw125⟩
         ·
          have ts : ((x.syms.length : Int) != (y.syms.length : Int)) = true := bne_iff_ne.2 (by omega)
          have Hno : Hid (sameT x y = false) := by show _ = _; rw [Hse.out, decide_eq_false (p := x.syms = y.syms) (fun h => ls (by rw [h])), Bool.false_and]
          go_enter Try.func94, Try.ntmps94
          go_upto_region 1 with fail
          have hb127 := below_al (below_al (Below.refl w.heap.size w) (Nat.le_refl _) (.cells #[.int .i64 x.kind, .string ⟨x.name.toArray⟩, .int .i64 x.low, .int .i64 x.high, .int .i64 x.max, .slice A1 x.syms.length m1, .slice A2 x.mems.length m2, .int .i64 x.key, .int .i64 x.elem, .bool x.opn] 67)) (Nat.le_refl _) (.cells #[.int .i64 x.kind, .string ⟨x.name.toArray⟩, .int .i64 x.low, .int .i64 x.high, .int .i64 x.max, .slice B1 y.syms.length k1, .slice B2 y.mems.length k2, .int .i64 x.key, .int .i64 x.elem, .bool x.opn] 67)
          have X := (Has.made w 67 #[.int .i64 x.kind, .string ⟨x.name.toArray⟩, .int .i64 x.low, .int .i64 x.high, .int .i64 x.max, .slice A1 x.syms.length m1, .slice A2 x.mems.length m2, .int .i64 x.key, .int .i64 x.elem, .bool x.opn]).alloc (.cells #[.int .i64 x.kind, .string ⟨x.name.toArray⟩, .int .i64 x.low, .int .i64 x.high, .int .i64 x.max, .slice B1 y.syms.length k1, .slice B2 y.mems.length k2, .int .i64 x.key, .int .i64 x.elem, .bool x.opn] 67)
          have Y := Has.made (w.alloc (.cells #[.int .i64 x.kind, .string ⟨x.name.toArray⟩, .int .i64 x.low, .int .i64 x.high, .int .i64 x.max, .slice A1 x.syms.length m1, .slice A2 x.mems.length m2, .int .i64 x.key, .int .i64 x.elem, .bool x.opn] 67)) 67 #[.int .i64 x.kind, .string ⟨x.name.toArray⟩, .int .i64 x.low, .int .i64 x.high, .int .i64 x.max, .slice B1 y.syms.length k1, .slice B2 y.mems.length k2, .int .i64 x.key, .int .i64 x.elem, .bool x.opn]
          simp only [alloc_hz] at Y
          have hw128 := hb127
          replace X := Lib.hid X
          replace Y := Lib.hid Y
          clear hb127
          generalize ((w.alloc (.cells #[.int .i64 x.kind, .string ⟨x.name.toArray⟩, .int .i64 x.low, .int .i64 x.high, .int .i64 x.max, .slice A1 x.syms.length m1, .slice A2 x.mems.length m2, .int .i64 x.key, .int .i64 x.elem, .bool x.opn] 67)).alloc (.cells #[.int .i64 x.kind, .string ⟨x.name.toArray⟩, .int .i64 x.low, .int .i64 x.high, .int .i64 x.max, .slice B1 y.syms.length k1, .slice B2 y.mems.length k2, .int .i64 x.key, .int .i64 x.elem, .bool x.opn] 67)) = wd129 at *
          obtain ⟨cX_0, cX_1, cX_2, cX_3, cX_4, cX_5, cX_6, cX_7, cX_8, cX_9⟩ := X.out.c10
          obtain ⟨cY_0, cY_1, cY_2, cY_3, cY_4, cY_5, cY_6, cY_7, cY_8, cY_9⟩ := Y.out.c10
          go_wp2_with fail
          go_ret
          exact ⟨ret_bool Hno.out.symm, hw128⟩
        ·
         have t7 : (x.opn != y.opn) = true := by simpa using e7
         have t7' : (!(x.opn == y.opn)) = true := by simpa using e7
         have Hno : Hid (sameT x y = false) := by show _ = _; unfold sameT; rw [decide_eq_false (fun h => e7 (by simp [h]))]; rfl
         simp only [typA, ← e0, ← e1, ← e2, ← e3, ← e4, ← e5, ← e6]
         clear e0 e1 e2 e3 e4 e5 e6
         go_enter Try.func94, Try.ntmps94
         go_upto_region 1 with fail
         have hb130 := below_al (below_al (Below.refl w.heap.size w) (Nat.le_refl _) (.cells #[.int .i64 x.kind, .string ⟨x.name.toArray⟩, .int .i64 x.low, .int .i64 x.high, .int .i64 x.max, .slice A1 x.syms.length m1, .slice A2 x.mems.length m2, .int .i64 x.key, .int .i64 x.elem, .bool x.opn] 67)) (Nat.le_refl _) (.cells #[.int .i64 x.kind, .string ⟨x.name.toArray⟩, .int .i64 x.low, .int .i64 x.high, .int .i64 x.max, .slice B1 y.syms.length k1, .slice B2 y.mems.length k2, .int .i64 x.key, .int .i64 x.elem, .bool y.opn] 67)
         have X := (Has.made w 67 #[.int .i64 x.kind, .string ⟨x.name.toArray⟩, .int .i64 x.low, .int .i64 x.high, .int .i64 x.max, .slice A1 x.syms.length m1, .slice A2 x.mems.length m2, .int .i64 x.key, .int .i64 x.elem, .bool x.opn]).alloc (.cells #[.int .i64 x.kind, .string ⟨x.name.toArray⟩, .int .i64 x.low, .int .i64 x.high, .int .i64 x.max, .slice B1 y.syms.length k1, .slice B2 y.mems.length k2, .int .i64 x.key, .int .i64 x.elem, .bool y.opn] 67)
         have Y := Has.made (w.alloc (.cells #[.int .i64 x.kind, .string ⟨x.name.toArray⟩, .int .i64 x.low, .int .i64 x.high, .int .i64 x.max, .slice A1 x.syms.length m1, .slice A2 x.mems.length m2, .int .i64 x.key, .int .i64 x.elem, .bool x.opn] 67)) 67 #[.int .i64 x.kind, .string ⟨x.name.toArray⟩, .int .i64 x.low, .int .i64 x.high, .int .i64 x.max, .slice B1 y.syms.length k1, .slice B2 y.mems.length k2, .int .i64 x.key, .int .i64 x.elem, .bool y.opn]
         simp only [alloc_hz] at Y
         have hw131 := hb130
         replace X := Lib.hid X
         replace Y := Lib.hid Y
         clear hb130
         generalize ((w.alloc (.cells #[.int .i64 x.kind, .string ⟨x.name.toArray⟩, .int .i64 x.low, .int .i64 x.high, .int .i64 x.max, .slice A1 x.syms.length m1, .slice A2 x.mems.length m2, .int .i64 x.key, .int .i64 x.elem, .bool x.opn] 67)).alloc (.cells #[.int .i64 x.kind, .string ⟨x.name.toArray⟩, .int .i64 x.low, .int .i64 x.high, .int .i64 x.max, .slice B1 y.syms.length k1, .slice B2 y.mems.length k2, .int .i64 x.key, .int .i64 x.elem, .bool y.opn] 67)) = wd132 at *
         obtain ⟨cX_0, cX_1, cX_2, cX_3, cX_4, cX_5, cX_6, cX_7, cX_8, cX_9⟩ := X.out.c10
         obtain ⟨cY_0, cY_1, cY_2, cY_3, cY_4, cY_5, cY_6, cY_7, cY_8, cY_9⟩ := Y.out.c10
         go_wp2_with fail
         go_ret
         exact ⟨ret_bool Hno.out.symm, hw131⟩
       ·
        have t6 : (x.elem != y.elem) = true := by simpa using e6
        have Hno : Hid (sameT x y = false) := by show _ = _; unfold sameT; rw [decide_eq_false (fun h => e6 (by simp [h]))]; rfl
        simp only [typA, ← e0, ← e1, ← e2, ← e3, ← e4, ← e5]
        clear e0 e1 e2 e3 e4 e5
        go_enter Try.func94, Try.ntmps94
        go_upto_region 1 with fail
        have hb133 := below_al (below_al (Below.refl w.heap.size w) (Nat.le_refl _) (.cells #[.int .i64 x.kind, .string ⟨x.name.toArray⟩, .int .i64 x.low, .int .i64 x.high, .int .i64 x.max, .slice A1 x.syms.length m1, .slice A2 x.mems.length m2, .int .i64 x.key, .int .i64 x.elem, .bool x.opn] 67)) (Nat.le_refl _) (.cells #[.int .i64 x.kind, .string ⟨x.name.toArray⟩, .int .i64 x.low, .int .i64 x.high, .int .i64 x.max, .slice B1 y.syms.length k1, .slice B2 y.mems.length k2, .int .i64 x.key, .int .i64 y.elem, .bool y.opn] 67)
        have X := (Has.made w 67 #[.int .i64 x.kind, .string ⟨x.name.toArray⟩, .int .i64 x.low, .int .i64 x.high, .int .i64 x.max, .slice A1 x.syms.length m1, .slice A2 x.mems.length m2, .int .i64 x.key, .int .i64 x.elem, .bool x.opn]).alloc (.cells #[.int .i64 x.kind, .string ⟨x.name.toArray⟩, .int .i64 x.low, .int .i64 x.high, .int .i64 x.max, .slice B1 y.syms.length k1, .slice B2 y.mems.length k2, .int .i64 x.key, .int .i64 y.elem, .bool y.opn] 67)
        have Y := Has.made (w.alloc (.cells #[.int .i64 x.kind, .string ⟨x.name.toArray⟩, .int .i64 x.low, .int .i64 x.high, .int .i64 x.max, .slice A1 x.syms.length m1, .slice A2 x.mems.length m2, .int .i64 x.key, .int .i64 x.elem, .bool x.opn] 67)) 67 #[.int .i64 x.kind, .string ⟨x.name.toArray⟩, .int .i64 x.low, .int .i64 x.high, .int .i64 x.max, .slice B1 y.syms.length k1, .slice B2 y.mems.length k2, .int .i64 x.key, .int .i64 y.elem, .bool y.opn]
        simp only [alloc_hz] at Y
        have hw134 := hb133
        replace X := Lib.hid X
        replace Y := Lib.hid Y
        clear hb133
        generalize ((w.alloc (.cells #[.int .i64 x.kind, .string ⟨x.name.toArray⟩, .int .i64 x.low, .int .i64 x.high, .int .i64 x.max, .slice A1 x.syms.length m1, .slice A2 x.mems.length m2, .int .i64 x.key, .int .i64 x.elem, .bool x.opn] 67)).alloc (.cells #[.int .i64 x.kind, .string ⟨x.name.toArray⟩, .int .i64 x.low, .int .i64 x.high, .int .i64 x.max, .slice B1 y.syms.length k1, .slice B2 y.mems.length k2, .int .i64 x.key, .int .i64 y.elem, .bool y.opn] 67)) = wd135 at *
        obtain ⟨cX_0, cX_1, cX_2, cX_3, cX_4, cX_5, cX_6, cX_7, cX_8, cX_9⟩ := X.out.c10
        obtain ⟨cY_0, cY_1, cY_2, cY_3, cY_4, cY_5, cY_6, cY_7, cY_8, cY_9⟩ := Y.out.c10
        go_wp2_with fail
        go_ret
        exact ⟨ret_bool Hno.out.symm, hw134⟩
      ·
       have t5 : (x.key != y.key) = true := by simpa using e5
       have Hno : Hid (sameT x y = false) := by show _ = _; unfold sameT; rw [decide_eq_false (fun h => e5 (by simp [h]))]; rfl
       simp only [typA, ← e0, ← e1, ← e2, ← e3, ← e4]
       clear e0 e1 e2 e3 e4
       go_enter Try.func94, Try.ntmps94
       go_upto_region 1 with fail
       have hb136 := below_al (below_al (Below.refl w.heap.size w) (Nat.le_refl _) (.cells #[.int .i64 x.kind, .string ⟨x.name.toArray⟩, .int .i64 x.low, .int .i64 x.high, .int .i64 x.max, .slice A1 x.syms.length m1, .slice A2 x.mems.length m2, .int .i64 x.key, .int .i64 x.elem, .bool x.opn] 67)) (Nat.le_refl _) (.cells #[.int .i64 x.kind, .string ⟨x.name.toArray⟩, .int .i64 x.low, .int .i64 x.high, .int .i64 x.max, .slice B1 y.syms.length k1, .slice B2 y.mems.length k2, .int .i64 y.key, .int .i64 y.elem, .bool y.opn] 67)
       have X := (Has.made w 67 #[.int .i64 x.kind, .string ⟨x.name.toArray⟩, .int .i64 x.low, .int .i64 x.high, .int .i64 x.max, .slice A1 x.syms.length m1, .slice A2 x.mems.length m2, .int .i64 x.key, .int .i64 x.elem, .bool x.opn]).alloc (.cells #[.int .i64 x.kind, .string ⟨x.name.toArray⟩, .int .i64 x.low, .int .i64 x.high, .int .i64 x.max, .slice B1 y.syms.length k1, .slice B2 y.mems.length k2, .int .i64 y.key, .int .i64 y.elem, .bool y.opn] 67)
       have Y := Has.made (w.alloc (.cells #[.int .i64 x.kind, .string ⟨x.name.toArray⟩, .int .i64 x.low, .int .i64 x.high, .int .i64 x.max, .slice A1 x.syms.length m1, .slice A2 x.mems.length m2, .int .i64 x.key, .int .i64 x.elem, .bool x.opn] 67)) 67 #[.int .i64 x.kind, .string ⟨x.name.toArray⟩, .int .i64 x.low, .int .i64 x.high, .int .i64 x.max, .slice B1 y.syms.length k1, .slice B2 y.mems.length k2, .int .i64 y.key, .int .i64 y.elem, .bool y.opn]
       simp only [alloc_hz] at Y
       have hw137 := hb136
       replace X := Lib.hid X
       replace Y := Lib.hid Y
       clear hb136
       generalize ((w.alloc (.cells #[.int .i64 x.kind, .string ⟨x.name.toArray⟩, .int .i64 x.low, .int .i64 x.high, .int .i64 x.max, .slice A1 x.syms.length m1, .slice A2 x.mems.length m2, .int .i64 x.key, .int .i64 x.elem, .bool x.opn] 67)).alloc (.cells #[.int .i64 x.kind, .string ⟨x.name.toArray⟩, .int .i64 x.low, .int .i64 x.high, .int .i64 x.max, .slice B1 y.syms.length k1, .slice B2 y.mems.length k2, .int .i64 y.key, .int .i64 y.elem, .bool y.opn] 67)) = wd138 at *
       obtain ⟨cX_0, cX_1, cX_2, cX_3, cX_4, cX_5, cX_6, cX_7, cX_8, cX_9⟩ := X.out.c10
       obtain ⟨cY_0, cY_1, cY_2, cY_3, cY_4, cY_5, cY_6, cY_7, cY_8, cY_9⟩ := Y.out.c10
       go_wp2_with fail
       go_ret
       exact ⟨ret_bool Hno.out.symm, hw137⟩
     ·
      have t4 : (x.max != y.max) = true := by simpa using e4
      have Hno : Hid (sameT x y = false) := by show _ = _; unfold sameT; rw [decide_eq_false (fun h => e4 (by simp [h]))]; rfl
      simp only [typA, ← e0, ← e1, ← e2, ← e3]
      clear e0 e1 e2 e3
      go_enter Try.func94, Try.ntmps94
      go_upto_region 1 with fail
      have hb139 := below_al (below_al (Below.refl w.heap.size w) (Nat.le_refl _) (.cells #[.int .i64 x.kind, .string ⟨x.name.toArray⟩, .int .i64 x.low, .int .i64 x.high, .int .i64 x.max, .slice A1 x.syms.length m1, .slice A2 x.mems.length m2, .int .i64 x.key, .int .i64 x.elem, .bool x.opn] 67)) (Nat.le_refl _) (.cells #[.int .i64 x.kind, .string ⟨x.name.toArray⟩, .int .i64 x.low, .int .i64 x.high, .int .i64 y.max, .slice B1 y.syms.length k1, .slice B2 y.mems.length k2, .int .i64 y.key, .int .i64 y.elem, .bool y.opn] 67)
      have X := (Has.made w 67 #[.int .i64 x.kind, .string ⟨x.name.toArray⟩, .int .i64 x.low, .int .i64 x.high, .int .i64 x.max, .slice A1 x.syms.length m1, .slice A2 x.mems.length m2, .int .i64 x.key, .int .i64 x.elem, .bool x.opn]).alloc (.cells #[.int .i64 x.kind, .string ⟨x.name.toArray⟩, .int .i64 x.low, .int .i64 x.high, .int .i64 y.max, .slice B1 y.syms.length k1, .slice B2 y.mems.length k2, .int .i64 y.key, .int .i64 y.elem, .bool y.opn] 67)
      have Y := Has.made (w.alloc (.cells #[.int .i64 x.kind, .string ⟨x.name.toArray⟩, .int .i64 x.low, .int .i64 x.high, .int .i64 x.max, .slice A1 x.syms.length m1, .slice A2 x.mems.length m2, .int .i64 x.key, .int .i64 x.elem, .bool x.opn] 67)) 67 #[.int .i64 x.kind, .string ⟨x.name.toArray⟩, .int .i64 x.low, .int .i64 x.high, .int .i64 y.max, .slice B1 y.syms.length k1, .slice B2 y.mems.length k2, .int .i64 y.key, .int .i64 y.elem, .bool y.opn]
      simp only [alloc_hz] at Y
      have hw140 := hb139
      replace X := Lib.hid X
      replace Y := Lib.hid Y
      clear hb139
      generalize ((w.alloc (.cells #[.int .i64 x.kind, .string ⟨x.name.toArray⟩, .int .i64 x.low, .int .i64 x.high, .int .i64 x.max, .slice A1 x.syms.length m1, .slice A2 x.mems.length m2, .int .i64 x.key, .int .i64 x.elem, .bool x.opn] 67)).alloc (.cells #[.int .i64 x.kind, .string ⟨x.name.toArray⟩, .int .i64 x.low, .int .i64 x.high, .int .i64 y.max, .slice B1 y.syms.length k1, .slice B2 y.mems.length k2, .int .i64 y.key, .int .i64 y.elem, .bool y.opn] 67)) = wd141 at *
      obtain ⟨cX_0, cX_1, cX_2, cX_3, cX_4, cX_5, cX_6, cX_7, cX_8, cX_9⟩ := X.out.c10
      obtain ⟨cY_0, cY_1, cY_2, cY_3, cY_4, cY_5, cY_6, cY_7, cY_8, cY_9⟩ := Y.out.c10
      go_wp2_with fail
      go_ret
      exact ⟨ret_bool Hno.out.symm, hw140⟩
    ·
     have t3 : (x.high != y.high) = true := by simpa using e3
     have Hno : Hid (sameT x y = false) := by show _ = _; unfold sameT; rw [decide_eq_false (fun h => e3 (by simp [h]))]; rfl
     simp only [typA, ← e0, ← e1, ← e2]
     clear e0 e1 e2
     go_enter Try.func94, Try.ntmps94
     go_upto_region 1 with fail
     have hb142 := below_al (below_al (Below.refl w.heap.size w) (Nat.le_refl _) (.cells #[.int .i64 x.kind, .string ⟨x.name.toArray⟩, .int .i64 x.low, .int .i64 x.high, .int .i64 x.max, .slice A1 x.syms.length m1, .slice A2 x.mems.length m2, .int .i64 x.key, .int .i64 x.elem, .bool x.opn] 67)) (Nat.le_refl _) (.cells #[.int .i64 x.kind, .string ⟨x.name.toArray⟩, .int .i64 x.low, .int .i64 y.high, .int .i64 y.max, .slice B1 y.syms.length k1, .slice B2 y.mems.length k2, .int .i64 y.key, .int .i64 y.elem, .bool y.opn] 67)
     have X := (Has.made w 67 #[.int .i64 x.kind, .string ⟨x.name.toArray⟩, .int .i64 x.low, .int .i64 x.high, .int .i64 x.max, .slice A1 x.syms.length m1, .slice A2 x.mems.length m2, .int .i64 x.key, .int .i64 x.elem, .bool x.opn]).alloc (.cells #[.int .i64 x.kind, .string ⟨x.name.toArray⟩, .int .i64 x.low, .int .i64 y.high, .int .i64 y.max, .slice B1 y.syms.length k1, .slice B2 y.mems.length k2, .int .i64 y.key, .int .i64 y.elem, .bool y.opn] 67)
     have Y := Has.made (w.alloc (.cells #[.int .i64 x.kind, .string ⟨x.name.toArray⟩, .int .i64 x.low, .int .i64 x.high, .int .i64 x.max, .slice A1 x.syms.length m1, .slice A2 x.mems.length m2, .int .i64 x.key, .int .i64 x.elem, .bool x.opn] 67)) 67 #[.int .i64 x.kind, .string ⟨x.name.toArray⟩, .int .i64 x.low, .int .i64 y.high, .int .i64 y.max, .slice B1 y.syms.length k1, .slice B2 y.mems.length k2, .int .i64 y.key, .int .i64 y.elem, .bool y.opn]
     simp only [alloc_hz] at Y
     have hw143 := hb142
     replace X := Lib.hid X
     replace Y := Lib.hid Y
     clear hb142
     generalize ((w.alloc (.cells #[.int .i64 x.kind, .string ⟨x.name.toArray⟩, .int .i64 x.low, .int .i64 x.high, .int .i64 x.max, .slice A1 x.syms.length m1, .slice A2 x.mems.length m2, .int .i64 x.key, .int .i64 x.elem, .bool x.opn] 67)).alloc (.cells #[.int .i64 x.kind, .string ⟨x.name.toArray⟩, .int .i64 x.low, .int .i64 y.high, .int .i64 y.max, .slice B1 y.syms.length k1, .slice B2 y.mems.length k2, .int .i64 y.key, .int .i64 y.elem, .bool y.opn] 67)) = wd144 at *
     obtain ⟨cX_0, cX_1, cX_2, cX_3, cX_4, cX_5, cX_6, cX_7, cX_8, cX_9⟩ := X.out.c10
     obtain ⟨cY_0, cY_1, cY_2, cY_3, cY_4, cY_5, cY_6, cY_7, cY_8, cY_9⟩ := Y.out.c10
     go_wp2_with fail
     go_ret
     exact ⟨ret_bool Hno.out.symm, hw143⟩
   ·
    have t2 : (x.low != y.low) = true := by simpa using e2
    have Hno : Hid (sameT x y = false) := by show _ = _; unfold sameT; rw [decide_eq_false (fun h => e2 (by simp [h]))]; rfl
    simp only [typA, ← e0, ← e1]
    clear e0 e1
    go_enter Try.func94, Try.ntmps94
    go_upto_region 1 with fail
    have hb145 := below_al (below_al (Below.refl w.heap.size w) (Nat.le_refl _) (.cells #[.int .i64 x.kind, .string ⟨x.name.toArray⟩, .int .i64 x.low, .int .i64 x.high, .int .i64 x.max, .slice A1 x.syms.length m1, .slice A2 x.mems.length m2, .int .i64 x.key, .int .i64 x.elem, .bool x.opn] 67)) (Nat.le_refl _) (.cells #[.int .i64 x.kind, .string ⟨x.name.toArray⟩, .int .i64 y.low, .int .i64 y.high, .int .i64 y.max, .slice B1 y.syms.length k1, .slice B2 y.mems.length k2, .int .i64 y.key, .int .i64 y.elem, .bool y.opn] 67)
    have X := (Has.made w 67 #[.int .i64 x.kind, .string ⟨x.name.toArray⟩, .int .i64 x.low, .int .i64 x.high, .int .i64 x.max, .slice A1 x.syms.length m1, .slice A2 x.mems.length m2, .int .i64 x.key, .int .i64 x.elem, .bool x.opn]).alloc (.cells #[.int .i64 x.kind, .string ⟨x.name.toArray⟩, .int .i64 y.low, .int .i64 y.high, .int .i64 y.max, .slice B1 y.syms.length k1, .slice B2 y.mems.length k2, .int .i64 y.key, .int .i64 y.elem, .bool y.opn] 67)
    have Y := Has.made (w.alloc (.cells #[.int .i64 x.kind, .string ⟨x.name.toArray⟩, .int .i64 x.low, .int .i64 x.high, .int .i64 x.max, .slice A1 x.syms.length m1, .slice A2 x.mems.length m2, .int .i64 x.key, .int .i64 x.elem, .bool x.opn] 67)) 67 #[.int .i64 x.kind, .string ⟨x.name.toArray⟩, .int .i64 y.low, .int .i64 y.high, .int .i64 y.max, .slice B1 y.syms.length k1, .slice B2 y.mems.length k2, .int .i64 y.key, .int .i64 y.elem, .bool y.opn]
    simp only [alloc_hz] at Y
    have hw146 := hb145
    replace X := Lib.hid X
    replace Y := Lib.hid Y
    clear hb145
    generalize ((w.alloc (.cells #[.int .i64 x.kind, .string ⟨x.name.toArray⟩, .int .i64 x.low, .int .i64 x.high, .int .i64 x.max, .slice A1 x.syms.length m1, .slice A2 x.mems.length m2, .int .i64 x.key, .int .i64 x.elem, .bool x.opn] 67)).alloc (.cells #[.int .i64 x.kind, .string ⟨x.name.toArray⟩, .int .i64 y.low, .int .i64 y.high, .int .i64 y.max, .slice B1 y.syms.length k1, .slice B2 y.mems.length k2, .int .i64 y.key, .int .i64 y.elem, .bool y.opn] 67)) = wd147 at *
    obtain ⟨cX_0, cX_1, cX_2, cX_3, cX_4, cX_5, cX_6, cX_7, cX_8, cX_9⟩ := X.out.c10
    obtain ⟨cY_0, cY_1, cY_2, cY_3, cY_4, cY_5, cY_6, cY_7, cY_8, cY_9⟩ := Y.out.c10
    go_wp2_with fail
    go_ret
    exact ⟨ret_bool Hno.out.symm, hw146⟩
  ·
   have t1 : (x.name != y.name) = true := by simpa using e1
   have t1' : (!(x.name == y.name)) = true := by simpa using e1
   have Hno : Hid (sameT x y = false) := by show _ = _; unfold sameT; rw [decide_eq_false (fun h => e1 (by simp [h]))]; rfl
   simp only [typA, ← e0]
   clear e0
   go_enter Try.func94, Try.ntmps94
   go_upto_region 1 with fail
   have hb148 := below_al (below_al (Below.refl w.heap.size w) (Nat.le_refl _) (.cells #[.int .i64 x.kind, .string ⟨x.name.toArray⟩, .int .i64 x.low, .int .i64 x.high, .int .i64 x.max, .slice A1 x.syms.length m1, .slice A2 x.mems.length m2, .int .i64 x.key, .int .i64 x.elem, .bool x.opn] 67)) (Nat.le_refl _) (.cells #[.int .i64 x.kind, .string ⟨y.name.toArray⟩, .int .i64 y.low, .int .i64 y.high, .int .i64 y.max, .slice B1 y.syms.length k1, .slice B2 y.mems.length k2, .int .i64 y.key, .int .i64 y.elem, .bool y.opn] 67)
   have X := (Has.made w 67 #[.int .i64 x.kind, .string ⟨x.name.toArray⟩, .int .i64 x.low, .int .i64 x.high, .int .i64 x.max, .slice A1 x.syms.length m1, .slice A2 x.mems.length m2, .int .i64 x.key, .int .i64 x.elem, .bool x.opn]).alloc (.cells #[.int .i64 x.kind, .string ⟨y.name.toArray⟩, .int .i64 y.low, .int .i64 y.high, .int .i64 y.max, .slice B1 y.syms.length k1, .slice B2 y.mems.length k2, .int .i64 y.key, .int .i64 y.elem, .bool y.opn] 67)
   have Y := Has.made (w.alloc (.cells #[.int .i64 x.kind, .string ⟨x.name.toArray⟩, .int .i64 x.low, .int .i64 x.high, .int .i64 x.max, .slice A1 x.syms.length m1, .slice A2 x.mems.length m2, .int .i64 x.key, .int .i64 x.elem, .bool x.opn] 67)) 67 #[.int .i64 x.kind, .string ⟨y.name.toArray⟩, .int .i64 y.low, .int .i64 y.high, .int .i64 y.max, .slice B1 y.syms.length k1, .slice B2 y.mems.length k2, .int .i64 y.key, .int .i64 y.elem, .bool y.opn]
   simp only [alloc_hz] at Y
   have hw149 := hb148
   replace X := Lib.hid X
   replace Y := Lib.hid Y
   clear hb148
   generalize ((w.alloc (.cells #[.int .i64 x.kind, .string ⟨x.name.toArray⟩, .int .i64 x.low, .int .i64 x.high, .int .i64 x.max, .slice A1 x.syms.length m1, .slice A2 x.mems.length m2, .int .i64 x.key, .int .i64 x.elem, .bool x.opn] 67)).alloc (.cells #[.int .i64 x.kind, .string ⟨y.name.toArray⟩, .int .i64 y.low, .int .i64 y.high, .int .i64 y.max, .slice B1 y.syms.length k1, .slice B2 y.mems.length k2, .int .i64 y.key, .int .i64 y.elem, .bool y.opn] 67)) = wd150 at *
   obtain ⟨cX_0, cX_1, cX_2, cX_3, cX_4, cX_5, cX_6, cX_7, cX_8, cX_9⟩ := X.out.c10
   obtain ⟨cY_0, cY_1, cY_2, cY_3, cY_4, cY_5, cY_6, cY_7, cY_8, cY_9⟩ := Y.out.c10
   go_wp2_with fail
   go_ret
   exact ⟨ret_bool Hno.out.symm, hw149⟩
 ·
  have t0 : (x.kind != y.kind) = true := by simpa using e0
  have Hno : Hid (sameT x y = false) := by show _ = _; unfold sameT; rw [decide_eq_false (fun h => e0 (by simp [h]))]; rfl
  go_enter Try.func94, Try.ntmps94
  go_upto_region 1 with fail
  have hb151 := below_al (below_al (Below.refl w.heap.size w) (Nat.le_refl _) (.cells #[.int .i64 x.kind, .string ⟨x.name.toArray⟩, .int .i64 x.low, .int .i64 x.high, .int .i64 x.max, .slice A1 x.syms.length m1, .slice A2 x.mems.length m2, .int .i64 x.key, .int .i64 x.elem, .bool x.opn] 67)) (Nat.le_refl _) (.cells #[.int .i64 y.kind, .string ⟨y.name.toArray⟩, .int .i64 y.low, .int .i64 y.high, .int .i64 y.max, .slice B1 y.syms.length k1, .slice B2 y.mems.length k2, .int .i64 y.key, .int .i64 y.elem, .bool y.opn] 67)
  have X := (Has.made w 67 #[.int .i64 x.kind, .string ⟨x.name.toArray⟩, .int .i64 x.low, .int .i64 x.high, .int .i64 x.max, .slice A1 x.syms.length m1, .slice A2 x.mems.length m2, .int .i64 x.key, .int .i64 x.elem, .bool x.opn]).alloc (.cells #[.int .i64 y.kind, .string ⟨y.name.toArray⟩, .int .i64 y.low, .int .i64 y.high, .int .i64 y.max, .slice B1 y.syms.length k1, .slice B2 y.mems.length k2, .int .i64 y.key, .int .i64 y.elem, .bool y.opn] 67)
  have Y := Has.made (w.alloc (.cells #[.int .i64 x.kind, .string ⟨x.name.toArray⟩, .int .i64 x.low, .int .i64 x.high, .int .i64 x.max, .slice A1 x.syms.length m1, .slice A2 x.mems.length m2, .int .i64 x.key, .int .i64 x.elem, .bool x.opn] 67)) 67 #[.int .i64 y.kind, .string ⟨y.name.toArray⟩, .int .i64 y.low, .int .i64 y.high, .int .i64 y.max, .slice B1 y.syms.length k1, .slice B2 y.mems.length k2, .int .i64 y.key, .int .i64 y.elem, .bool y.opn]
  simp only [alloc_hz] at Y
  have hw152 := hb151
  replace X := Lib.hid X
  replace Y := Lib.hid Y
  clear hb151
  generalize ((w.alloc (.cells #[.int .i64 x.kind, .string ⟨x.name.toArray⟩, .int .i64 x.low, .int .i64 x.high, .int .i64 x.max, .slice A1 x.syms.length m1, .slice A2 x.mems.length m2, .int .i64 x.key, .int .i64 x.elem, .bool x.opn] 67)).alloc (.cells #[.int .i64 y.kind, .string ⟨y.name.toArray⟩, .int .i64 y.low, .int .i64 y.high, .int .i64 y.max, .slice B1 y.syms.length k1, .slice B2 y.mems.length k2, .int .i64 y.key, .int .i64 y.elem, .bool y.opn] 67)) = wd153 at *
  obtain ⟨cX_0, cX_1, cX_2, cX_3, cX_4, cX_5, cX_6, cX_7, cX_8, cX_9⟩ := X.out.c10
  obtain ⟨cY_0, cY_1, cY_2, cY_3, cY_4, cY_5, cY_6, cY_7, cY_8, cY_9⟩ := Y.out.c10
  go_wp2_with fail
  go_ret
  exact ⟨ret_bool Hno.out.symm, hw152⟩
end Go.Proofs.Ytjajgclchapllaa

/- The examples of layer 52: awake returns true. No condition. -/
import Derived.Test.YtngmdhdncfbdjaaJourH
namespace Go.Proofs.Ytngmdhdncfbdjaa
open Go.ChangeShapes Go.WideShapes Go.ChangeAt Go.RowKit

theorem ex1 : writeJ [] (1, 3, 0, []) = ([3, 213, 174, 224, 230, 1, 3, 0], 0) := by decide +kernel
theorem ex2 : fmtE (1, 3, 0, []) = [1, 3, 0] := by decide +kernel
theorem ex3 : writeJ [3, 213, 174, 224, 230, 1, 3, 0] (1, 2, 0, []) = ([], 16) := by decide +kernel
theorem ex4 : writeJ [3, 213, 174, 224, 230, 1, 3, 0] (2, 3, 0, []) = ([3, 213, 174, 224, 230, 1, 3, 0, 3, 215, 232, 94, 191, 2, 3, 0], 0) := by decide +kernel
theorem ex5 : readJ [3, 213, 174, 224, 230, 1, 3] = ([], 0, 17) := by decide +kernel
theorem ex6 : readJ [3, 213, 174, 224, 230, 1, 3, 0, 3, 215, 232, 94, 191, 2, 3, 0] = ([(1, 3, 0, []), (2, 3, 0, [])], 16, 0) := by decide +kernel
theorem ex7 : tokenJ [(1, 3, 0, []), (2, 3, 0, [])] = 3 := by decide +kernel
theorem ok1 : EntOk (1, 3, 0, []) := by simp [EntOk, I64]
theorem ok2 : EntOk (1, 2, 0, []) := by simp [EntOk, I64]
theorem ok3 : EntOk (2, 3, 0, []) := by simp [EntOk, I64]

set_option maxRecDepth 100000 in
set_option maxHeartbeats 400000 in
theorem awake_any (w : World) :
    Calls Try.prog 12 #[] w fun e w' => e = .returned (.bool true) ∧ Below w.heap.size w w' := by
  have k1 := fun W => write_any [] 1 3 0 [] ok1 (by simp) (by simp) W
  have k2 := fun W => format_any 1 3 0 [] ok1 (by simp) W
  have k3 := fun W => write_any [3, 213, 174, 224, 230, 1, 3, 0] 1 2 0 [] ok2 (by simp) (by simp) W
  have k4 := fun W => write_any [3, 213, 174, 224, 230, 1, 3, 0] 2 3 0 [] ok3 (by simp) (by simp) W
  have k5 := fun W => read_any [3, 213, 174, 224, 230, 1, 3] (by simp) W
  have k6 := fun W => read_any [3, 213, 174, 224, 230, 1, 3, 0, 3, 215, 232, 94, 191, 2, 3, 0] (by simp) W
  have k7 := fun v W h => token_any [(1, 3, 0, []), (2, 3, 0, [])] v W (by simp) h
  simp only [ex1, ex2, ex3, ex4, ex5, ex6, ex7] at k1 k2 k3 k4 k5 k6 k7
  have K1 := Lib.hid k1
  have K2 := Lib.hid k2
  have K3 := Lib.hid k3
  have K4 := Lib.hid k4
  have K5 := Lib.hid k5
  have K6 := Lib.hid k6
  have K7 := Lib.hid k7
  clear k1 k2 k3 k4 k5 k6 k7
  go_enter Try.func12, Try.ntmps12
  go_wp2_with fail
  refine (K1.out _).mono ?_
  rintro e w1 ⟨rfl, hb1⟩
  have h01 := ((Below.refl w.heap.size w).alloc (Nat.le_refl _) _).trans (hb1.mono (by simp))
  obtain ⟨c0, c1, c2, c3⟩ := has4 ((Has.made w 23 #[.int .i64 1, .int .i64 3, .int .i64 0, .string ⟨#[]⟩]).below hb1 (by simp))
  clear hb1
  go_wp2_with fail
  refine (K2.out _).mono ?_
  rintro e w2 ⟨rfl, hb2⟩
  have h02 := h01.trans (hb2.mono h01.size)
  clear hb2 c0 c1 c2 c3 h01
  go_wp2_with fail
  refine (K3.out _).mono ?_
  rintro e w3 ⟨rfl, hb3⟩
  have h03 := h02.trans (hb3.mono h02.size)
  clear hb3 h02
  go_wp2_with fail
  refine (K4.out _).mono ?_
  rintro e w4 ⟨rfl, hb4⟩
  have h04 := h03.trans (hb4.mono h03.size)
  clear hb4 h03
  go_wp2_with fail
  refine (K5.out _).mono ?_
  rintro e w5 ⟨v5, rfl, hown5, hb5⟩
  have h05 := h04.trans (hb5.mono h04.size)
  obtain ⟨A5, n5, rfl, hn5⟩ := (Rd.of_own hown5).form
  clear hb5 h04 hown5
  go_wp2_with fail
  refine (K6.out _).mono ?_
  rintro e w6 ⟨v6, rfl, hown6, hb6⟩
  have h06 := h05.trans (hb6.mono h05.size)
  have HR := Lib.hid (Rd.of_own hown6)
  clear hb6 h05 hown6
  obtain ⟨A6, n6, rfl, hn6⟩ := HR.out.form
  go_wp2_with fail
  refine (K7.out _ _ (by exact HR.out)).mono ?_
  rintro e w7 ⟨rfl, hb7⟩
  have h07 := h06.trans (hb7.mono h06.size)
  clear hb7
  go_wp2_with fail
  go_ret
  exact ⟨ret_bool (by first | rfl | simp), h07⟩
end Go.Proofs.Ytngmdhdncfbdjaa

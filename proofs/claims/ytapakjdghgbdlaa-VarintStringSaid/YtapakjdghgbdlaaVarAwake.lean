/- The examples of layer 3: awake returns true. No condition. -/
import Derived.Test.YtapakjdghgbdlaaVarSize
import Derived.Test.YtapakjdghgbdlaaVarZig
namespace Go.Proofs.Ytapakjdghgbdlaa
open Go.ChangeShapes Go.WideShapes Go.ChangeAt Go.RowKit

theorem ex1 : getF 0 0 [172, 2, 0] = (300, 2, 0) := by decide
theorem ex2 : getF 0 0 [128, 0] = (0, 0, 2) := by decide
theorem ex3 : getF 0 0 [128] = (0, 0, 10) := by decide
theorem ex4 : fromBig [1, 44] = (300, 0) := by decide
theorem ex5 : putF 9 300 = [172, 2] := by decide
theorem ex6 : bigF 8 300 [] = [1, 44] := by decide
theorem ex7 : zig (-2) = 3 := by decide
theorem ex8 : unzig ((1 : Nat) : Int) = -1 := by decide

set_option maxRecDepth 100000 in
set_option maxHeartbeats 400000 in
theorem awake_any (w : World) :
    Calls Try.prog 11 #[] w fun e w' => e = .returned (.bool true) ∧ Below w.heap.size w w' := by
  go_enter Try.func11, Try.ntmps11
  go_wp2_with fail
  have h := get_any [172, 2, 0] w
  simp only [ex1] at h
  refine h.mono ?_
  rintro e w1 ⟨rfl, rfl⟩
  clear h
  go_wp2_with fail
  have h := get_any [128, 0] w
  simp only [ex2] at h
  refine h.mono ?_
  rintro e w1 ⟨rfl, rfl⟩
  clear h
  go_wp2_with fail
  have h := get_any [128] w
  simp only [ex3] at h
  refine h.mono ?_
  rintro e w1 ⟨rfl, rfl⟩
  clear h
  go_wp2_with fail
  have h := frombig_any [1, 44] w (by simp)
  simp only [ex4] at h
  refine h.mono ?_
  rintro e w1 ⟨rfl, rfl⟩
  clear h
  go_wp2_with fail
  have h := put 300 (by unfold U64; omega) w
  simp only [ex5] at h
  refine h.mono ?_
  rintro e w1 ⟨rfl, hb1⟩
  clear h
  go_wp2_with fail
  have h := big_any 300 (by unfold U64; omega) w1
  simp only [ex6] at h
  refine h.mono ?_
  rintro e w2 ⟨rfl, hb2⟩
  clear h
  go_wp2_with fail
  have h := zig_any (-2) (by unfold I64; omega) w2
  simp only [ex7] at h
  refine h.mono ?_
  rintro e w3 ⟨rfl, rfl⟩
  clear h
  go_wp2_with fail
  have h := unzig_any 1 (by unfold U64; omega) w2
  simp only [ex8] at h
  refine h.mono ?_
  rintro e w3 ⟨rfl, rfl⟩
  clear h
  go_wp2_with fail
  go_ret
  exact ⟨rfl, hb1.trans (hb2.mono hb1.size)⟩
end Go.Proofs.Ytapakjdghgbdlaa

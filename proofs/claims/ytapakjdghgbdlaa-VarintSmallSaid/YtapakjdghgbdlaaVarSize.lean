/- What varint.Size computes. No condition. -/
import Derived.Test.YtapakjdghgbdlaaVarAll
import Derived.Test.YtapakjdghgbdlaaShelf
namespace Go.Proofs.Ytapakjdghgbdlaa
open Go.ChangeShapes Go.WideShapes Go.ChangeAt Go.RowKit

theorem bitlen_small : ∀ n : Fin 128, Lib.bitLen n.val ≤ 7 := by decide +kernel
theorem bitlen_pos (n : Nat) (h : n ≠ 0) (hn : n < 2 ^ 64) : 1 ≤ Lib.bitLen n := by
  rw [Lib.bitLen_half n h hn]; omega
theorem size_putF : ∀ (f n : Nat), n < 128 ^ (f + 1) → U64 n → max 1 ((Lib.bitLen n + 6) / 7) = (putF f n).length := by
  intro f
  induction f with
  | zero =>
    intro n h _
    have h1 := bitlen_small ⟨n, by simpa using h⟩
    simp only at h1
    simp only [putF, List.length_singleton]
    omega
  | succ f ih =>
    intro n h hn
    unfold U64 at hn
    by_cases h1 : n < 128
    · rw [putF, if_pos h1]
      have h1 := bitlen_small ⟨n, h1⟩
      simp only at h1
      simp only [List.length_singleton]
      omega
    · rw [putF, if_neg h1, List.length_cons, ← ih (n / 128) (by rw [Nat.pow_succ] at h; omega) (by unfold U64; omega), Lib.bitLen_shift 7 n (by omega) (by omega)]
      have := bitlen_pos (n / 128) (by omega) (by omega)
      have e : n / 2 ^ 7 = n / 128 := rfl
      rw [e]
      omega

set_option maxRecDepth 100000 in
set_option maxHeartbeats 400000 in
theorem size_any_put (n : Nat) (hn : U64 n) (w : World) :
    Calls Try.prog 25 #[.int .u64 n] w fun e w' => e = .returned (.int .i64 (putF 9 n).length) ∧ w = w' := by
  have hs := size_putF 9 n (by unfold U64 at hn; have : (128:Nat) ^ 10 = 1180591620717411303424 := by decide
                               omega) hn
  have hpl := putF_len 9 n
  have hl : Calls Try.prog 31 #[.int .u64 n] w fun e w' => e = .returned (.int .i64 (Lib.bitLen n)) ∧ w' = w := by
    unfold U64 at hn
    exact Try.bits_Len64 n w (by omega) (by omega)
  generalize Lib.bitLen n = r at *
  have Hs := Lib.hid hs
  have Hl := Lib.hid hl
  have hr : r ≤ 70 := by omega
  clear hs hl
  go_enter Try.func25, Try.ntmps25
  go_wp2_with (go_at_call 31; refine Hl.out.mono ?_; rintro e w' ⟨rfl, rfl⟩)
  go_ret
  exact ⟨ret_int (by have := Hs.out; omega), rfl⟩
end Go.Proofs.Ytapakjdghgbdlaa

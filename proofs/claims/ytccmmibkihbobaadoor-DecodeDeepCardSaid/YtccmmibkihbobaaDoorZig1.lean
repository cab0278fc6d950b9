/- What Zigzag and its reference compute, for the seats that have no Unzigzag. No condition. -/
import Derived.Test.YtccmmibkihbobaaDoorHAA
set_option maxHeartbeats 400000
namespace Go.Proofs.YtccmmibkihbobaaDoor
open Go.ChangeShapes Go.WideShapes Go.ChangeAt Go.RowKit
def zig (n : Int) : Int := if 0 ≤ n then 2 * n else -2 * n - 1
def unzig (n : Int) : Int := if n % 2 = 0 then n / 2 else -(n / 2) - 1
theorem xor_ones (b : Nat) (hb : b < 2 ^ 64) : (2 ^ 64 - 1) ^^^ b = 2 ^ 64 - 1 - b := by
 apply Nat.eq_of_testBit_eq
 intro i
 rw [Nat.testBit_xor, Nat.testBit_two_pow_sub_one, show 2 ^ 64 - 1 - b = 2 ^ 64 - (b + 1) by omega, Nat.testBit_two_pow_sub_succ hb]
 by_cases hi : i < 64
 ·
  simp [hi]
 have : b.testBit i = false := Nat.testBit_lt_two_pow (Nat.lt_of_lt_of_le hb (Nat.pow_le_pow_right (by decide) (by omega)))
 simp [hi, this]
theorem zig_bits (n : Int) (h : I64 n) : bits .xor .u64 (IntKind.u64.wrap (IntKind.u64.wrap n * 2)) (IntKind.u64.wrap (n / 9223372036854775808)) = zig n := by
 obtain ⟨h0, h1⟩ := h
 unfold zig
 split
 ·
  have e1 : IntKind.u64.wrap (IntKind.u64.wrap n * 2) = (((2 * n).toNat : Nat) : Int) := by
   rw [IntKind.wrap_u64, IntKind.wrap_u64]; omega
  have e2 : IntKind.u64.wrap (n / 9223372036854775808) = ((0 : Nat) : Int) := by
   rw [IntKind.wrap_u64]; omega
  rw [e1, e2, u64_xor_nat _ _ (by omega) (by omega), Nat.xor_zero]
  omega
 have e1 : IntKind.u64.wrap (IntKind.u64.wrap n * 2) = (((2 * n + 18446744073709551616).toNat : Nat) : Int) := by
  rw [IntKind.wrap_u64, IntKind.wrap_u64]; omega
 have e2 : IntKind.u64.wrap (n / 9223372036854775808) = ((2 ^ 64 - 1 : Nat) : Int) := by
  rw [IntKind.wrap_u64]; omega
 rw [e1, e2, u64_xor_nat _ _ (by omega) (by decide), Nat.xor_comm, xor_ones _ (by omega)]
 omega
theorem zig_any (n : Int) (h : I64 n) (w : World) : Calls Tryd.prog 84 #[.int .i64 n] w fun e w' => e = .returned (.int .u64 (zig n)) ∧ w = w' := by
 have H := Lib.hid (zig_bits n h)
 go_enter Tryd.func84, Tryd.ntmps84
 go_wp2
 go_ret
 exact ⟨by rw [← H.out]; rfl, rfl⟩
theorem zig_range (n : Int) (h : I64 n) : 0 ≤ zig n ∧ zig n < 18446744073709551616 := by
 obtain ⟨h0, h1⟩ := h
 unfold zig; split <;> omega
theorem unzig_zig (n : Int) : unzig (zig n) = n := by
 unfold zig unzig; split <;> split <;> omega
end Go.Proofs.YtccmmibkihbobaaDoor

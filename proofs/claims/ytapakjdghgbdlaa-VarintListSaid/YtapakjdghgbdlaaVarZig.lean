/- What Zigzag, Unzigzag, size and their references compute. No condition. -/
import Derived.Test.YtapakjdghgbdlaaKit
namespace Go.Proofs.Ytapakjdghgbdlaa
open Go.ChangeShapes Go.WideShapes Go.ChangeAt Go.RowKit

def zig (n : Int) : Int := if 0 ≤ n then 2 * n else -2 * n - 1
def unzig (n : Int) : Int := if n % 2 = 0 then n / 2 else -(n / 2) - 1

theorem xor_ones (b : Nat) (hb : b < 2 ^ 64) : (2 ^ 64 - 1) ^^^ b = 2 ^ 64 - 1 - b := by
  apply Nat.eq_of_testBit_eq
  intro i
  rw [Nat.testBit_xor, Nat.testBit_two_pow_sub_one, show 2 ^ 64 - 1 - b = 2 ^ 64 - (b + 1) by omega, Nat.testBit_two_pow_sub_succ hb]
  by_cases hi : i < 64
  · simp [hi]
  · have : b.testBit i = false := Nat.testBit_lt_two_pow (Nat.lt_of_lt_of_le hb (Nat.pow_le_pow_right (by decide) (by omega)))
    simp [hi, this]

theorem zig_bits (n : Int) (h : I64 n) : bits .xor .u64 (IntKind.u64.wrap (IntKind.u64.wrap n * 2)) (IntKind.u64.wrap (n / 9223372036854775808)) = zig n := by
  obtain ⟨h0, h1⟩ := h
  unfold zig
  split
  · have e1 : IntKind.u64.wrap (IntKind.u64.wrap n * 2) = (((2 * n).toNat : Nat) : Int) := by
      rw [IntKind.wrap_u64, IntKind.wrap_u64]; omega
    have e2 : IntKind.u64.wrap (n / 9223372036854775808) = ((0 : Nat) : Int) := by
      rw [IntKind.wrap_u64]; omega
    rw [e1, e2, u64_xor_nat _ _ (by omega) (by omega), Nat.xor_zero]
    omega
  · have e1 : IntKind.u64.wrap (IntKind.u64.wrap n * 2) = (((2 * n + 18446744073709551616).toNat : Nat) : Int) := by
      rw [IntKind.wrap_u64, IntKind.wrap_u64]; omega
    have e2 : IntKind.u64.wrap (n / 9223372036854775808) = ((2 ^ 64 - 1 : Nat) : Int) := by
      rw [IntKind.wrap_u64]; omega
    rw [e1, e2, u64_xor_nat _ _ (by omega) (by decide), Nat.xor_comm, xor_ones _ (by omega)]
    omega

theorem and_one (n : Int) (h0 : 0 ≤ n) (h1 : n < 18446744073709551616) : bits .and .u64 n 1 = n % 2 := by
  have h := bits_mask .u64 64 (by decide) (fun n h0 h1 => by rw [IntKind.wrap_u64]; omega) 1 (by decide) n h0 (by omega)
  simpa using h

theorem xor_neg (x : Nat) (hx : x < 9223372036854775808) : bits .xor .i64 (x : Int) (-1) = -(x : Int) - 1 := by
  show IntKind.i64.wrap ((BitVec.ofInt 64 (x : Int) ^^^ BitVec.ofInt 64 (-1)).toNat : Int) = _
  have h1 : (BitVec.ofInt 64 (-1)).toNat = 2 ^ 64 - 1 := by decide
  have h2 : (BitVec.ofInt 64 (x : Int)).toNat = x := by
    rw [BitVec.ofInt_natCast, BitVec.toNat_ofNat]; exact Nat.mod_eq_of_lt (by omega)
  rw [BitVec.toNat_xor, h1, h2, Nat.xor_comm, xor_ones x (by omega), IntKind.wrap_i64]
  omega
theorem xor_nil (x : Nat) (hx : x < 9223372036854775808) : bits .xor .i64 (x : Int) 0 = (x : Int) := by
  show IntKind.i64.wrap ((BitVec.ofInt 64 (x : Int) ^^^ BitVec.ofInt 64 0).toNat : Int) = _
  have h1 : (BitVec.ofInt 64 0).toNat = 0 := by decide
  have h2 : (BitVec.ofInt 64 (x : Int)).toNat = x := by
    rw [BitVec.ofInt_natCast, BitVec.toNat_ofNat]; exact Nat.mod_eq_of_lt (by omega)
  rw [BitVec.toNat_xor, h1, h2, Nat.xor_zero, IntKind.wrap_i64]
  omega

theorem unzig_bits (n : Nat) (h : U64 n) : bits .xor .i64 (wrap64 ((n : Int) / 2)) (wrap64 (- wrap64 (bits .and .u64 (n : Int) 1))) = unzig n := by
  unfold U64 at h
  rw [and_one _ (by omega) (by omega)]
  unfold unzig
  have e : wrap64 ((n : Int) / 2) = ((n / 2 : Nat) : Int) := by unfold wrap64; omega
  rw [e]
  split
  · have e2 : wrap64 (- wrap64 ((n : Int) % 2)) = 0 := by unfold wrap64; omega
    rw [e2, xor_nil _ (by omega)]; omega
  · have e2 : wrap64 (- wrap64 ((n : Int) % 2)) = -1 := by unfold wrap64; omega
    rw [e2, xor_neg _ (by omega)]; omega

set_option maxHeartbeats 400000 in
theorem zig_any (n : Int) (h : I64 n) (w : World) : Calls Try.prog 15 #[.int .i64 n] w fun e w' => e = .returned (.int .u64 (zig n)) ∧ w = w' := by
  have H := Lib.hid (zig_bits n h)
  go_enter Try.func15, Try.ntmps15
  go_wp2
  go_ret
  exact ⟨by rw [← H.out]; rfl, rfl⟩

set_option maxHeartbeats 400000 in
theorem unzig_any (n : Nat) (h : U64 n) (w : World) : Calls Try.prog 16 #[.int .u64 n] w fun e w' => e = .returned (.int .i64 (unzig n)) ∧ w = w' := by
  have H := Lib.hid (unzig_bits n h)
  go_enter Try.func16, Try.ntmps16
  go_wp2
  go_ret
  exact ⟨by rw [← H.out]; rfl, rfl⟩

set_option maxHeartbeats 400000 in
theorem rzig_any (n : Int) (h : I64 n) (w : World) : Calls Try.prog 17 #[.int .i64 n] w fun e w' => e = .returned (.int .u64 (zig n)) ∧ w = w' := by
  by_cases hn : 0 ≤ n
  · go_enter Try.func17, Try.ntmps17
    go_wp2
    go_ret
    refine ⟨ret_int ?_, rfl⟩
    obtain ⟨h0, h1⟩ := h
    unfold zig
    rw [if_pos hn, IntKind.wrap_u64, IntKind.wrap_u64]; omega
  · go_enter Try.func17, Try.ntmps17
    go_wp2
    go_ret
    refine ⟨ret_int ?_, rfl⟩
    obtain ⟨h0, h1⟩ := h
    unfold zig
    rw [if_neg (by omega)]
    simp only [IntKind.wrap_u64, wrap64]; omega

set_option maxHeartbeats 400000 in
theorem runzig_any (n : Nat) (h : U64 n) (w : World) : Calls Try.prog 18 #[.int .u64 n] w fun e w' => e = .returned (.int .i64 (unzig n)) ∧ w = w' := by
  go_enter Try.func18, Try.ntmps18
  go_wp2
  all_goals go_ret
  all_goals refine ⟨ret_int ?_, rfl⟩
  all_goals unfold U64 at h
  all_goals unfold unzig
  · have h2 : (n : Int) % 2 = 0 := beq_iff_eq.1 ‹((n : Int) % 2 == 0) = true›
    rw [if_pos h2]
    simp only [IntKind.wrap_u64, wrap64]; omega
  · have h2 : ¬ (n : Int) % 2 = 0 := beq_eq_false_iff_ne.1 ‹((n : Int) % 2 == 0) = false›
    rw [if_neg h2]
    simp only [IntKind.wrap_u64, wrap64]; omega

def size_ (n : Int) : Int := if n < 0 then -n else n
set_option maxHeartbeats 400000 in
theorem size_any (n : Int) (h : I64 n) (w : World) : Calls Try.prog 19 #[.int .i64 n] w fun e w' => e = .returned (.int .u64 (size_ n)) ∧ w = w' := by
  go_enter Try.func19, Try.ntmps19
  go_wp2
  all_goals go_ret
  all_goals refine ⟨ret_int ?_, rfl⟩
  all_goals obtain ⟨h0, h1⟩ := h
  all_goals unfold size_
  · rw [if_pos (by omega), IntKind.wrap_u64, IntKind.wrap_u64]; omega
  · rw [if_neg (by omega), IntKind.wrap_u64]; omega

theorem zig_range (n : Int) (h : I64 n) : 0 ≤ zig n ∧ zig n < 18446744073709551616 := by
  obtain ⟨h0, h1⟩ := h
  unfold zig; split <;> omega
theorem unzig_range (n : Nat) (h : U64 n) : I64 (unzig n) := by
  unfold U64 at h; unfold unzig I64; split <;> omega
theorem unzig_zig (n : Int) : unzig (zig n) = n := by
  unfold zig unzig; split <;> split <;> omega
theorem zig_unzig (n : Nat) : zig (unzig n) = n := by
  unfold zig unzig; split <;> split <;> omega
theorem zig_order (a b : Int) (h : size_ a < size_ b) : zig a < zig b := by
  unfold size_ at h; unfold zig; split <;> split <;> split at h <;> split at h <;> omega
end Go.Proofs.Ytapakjdghgbdlaa

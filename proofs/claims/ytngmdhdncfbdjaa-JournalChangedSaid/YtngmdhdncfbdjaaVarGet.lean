/- What varint.Get computes. No condition. -/
import Derived.Test.YtngmdhdncfbdjaaKit
namespace Go.Proofs.Ytngmdhdncfbdjaa
open Go.ChangeShapes Go.WideShapes Go.ChangeAt Go.RowKit

/-- number, length, error of the varint at the beginning -/
def getF : Nat → Nat → List UInt8 → Nat × Nat × Nat
  | _, _, [] => (0, 0, 10)
  | i, n, b :: r =>
    if i = 9 ∧ 1 < b.toNat then (0, 0, 7)
    else if 128 ≤ b.toNat then getF (i+1) (n + b.toNat % 128 * 128 ^ i) r
    else if b.toNat = 0 ∧ 0 < i then (0, 0, 2)
    else (n + b.toNat * 128 ^ i, i + 1, 0)

theorem byte_at (l : List UInt8) (k : Nat) (h : k < l.length) : ∃ b r, l.drop k = b :: r ∧ ({ data := l.toArray } : ByteArray)[k]'(by simpa [ByteArray.size] using h) = b ∧ l.drop (k+1) = r := by
  refine ⟨l[k], l.drop (k+1), List.drop_eq_getElem_cons h, rfl, rfl⟩

theorem pow128 (k : Nat) : (2:Int) ^ (7 * k) = ((128 ^ k : Nat) : Int) := by
  rw [show (128 : Nat) = 2 ^ 7 from rfl, ← Nat.pow_mul]
  norm_cast

/-- joining a group of seven bits -/
theorem or_group (n x k : Nat) (hn : n < 128 ^ k) (hx : x < 128) (hk : k ≤ 8 ∨ (k = 9 ∧ x ≤ 1)) :
    bits .or .u64 (n : Int) (IntKind.u64.wrap ((x : Int) * 2 ^ (7 * k))) = ((n + x * 128 ^ k : Nat) : Int) ∧ n + x * 128 ^ k < 128 ^ (k + 1) ∧ n + x * 128 ^ k < 18446744073709551616 := by
  have h1 : n + x * 128 ^ k < 128 ^ (k + 1) := by
    rw [Nat.pow_succ, Nat.mul_comm _ 128]
    have : x * 128 ^ k ≤ 127 * 128 ^ k := Nat.mul_le_mul_right _ (by omega)
    omega
  have h2 : n + x * 128 ^ k < 18446744073709551616 := by
    rcases hk with hk | ⟨rfl, hx1⟩
    · have : 128 ^ (k+1) ≤ 128 ^ 9 := Nat.pow_le_pow_right (by omega) (by omega)
      have e : (128:Nat) ^ 9 < 18446744073709551616 := by decide
      omega
    · have : x * 128 ^ 9 ≤ 1 * 128 ^ 9 := Nat.mul_le_mul_right _ hx1
      have e : (128:Nat) ^ 9 = 9223372036854775808 := by decide
      omega
  refine ⟨?_, h1, h2⟩
  rw [pow128, ← Int.natCast_mul, IntKind.wrap_u64]
  have h3 : ((x * 128 ^ k : Nat) : Int) % 18446744073709551616 = ((x * 128 ^ k : Nat) : Int) := by
    apply Int.emod_eq_of_lt <;> omega
  rw [h3, u64_or_nat _ _ (by omega) (by omega)]
  congr 1
  have e7 : (128:Nat) ^ k = 2 ^ (7 * k) := by rw [show (128 : Nat) = 2 ^ 7 from rfl, ← Nat.pow_mul]
  rw [e7] at hn ⊢
  have := Nat.two_pow_add_eq_or_of_lt hn x
  rw [Nat.or_comm, Nat.mul_comm x, ← this, Nat.add_comm]

theorem and127 (b : UInt8) : IntKind.u64.wrap (bits .and .u8 (b.toNat : Int) 127) = ((b.toNat % 128 : Nat) : Int) := by
  have hb := b.toNat_lt
  have h : bits .and .u8 (b.toNat : Int) 127 = (b.toNat : Int) % 128 := bits_mask .u8 8 (by decide) wraps_u8 7 (by decide) _ (by omega) (by omega)
  rw [h, IntKind.wrap_u64]
  omega

theorem byte_u64 (b : UInt8) (h : b.toNat < 128) : IntKind.u64.wrap (b.toNat : Int) = (b.toNat : Int) := by
  rw [IntKind.wrap_u64]; omega
theorem getF_range (i n : Nat) (b : UInt8) (r : List UInt8) (h : i = 9) (h1 : 1 < b.toNat) : getF i n (b :: r) = (0, 0, 7) := by
  rw [getF, if_pos ⟨h, h1⟩]
theorem getF_more (i n : Nat) (b : UInt8) (r : List UInt8) (h : ¬ (i = 9 ∧ 1 < b.toNat)) (h1 : 128 ≤ b.toNat) : getF i n (b :: r) = getF (i+1) (n + b.toNat % 128 * 128 ^ i) r := by
  rw [getF, if_neg h, if_pos h1]
theorem getF_syntax (i n : Nat) (b : UInt8) (r : List UInt8) (h : ¬ (i = 9 ∧ 1 < b.toNat)) (h1 : b.toNat = 0) (h2 : 0 < i) : getF i n (b :: r) = (0, 0, 2) := by
  rw [getF, if_neg h, if_neg (by omega), if_pos ⟨h1, h2⟩]
theorem getF_done (i n : Nat) (b : UInt8) (r : List UInt8) (h : ¬ (i = 9 ∧ 1 < b.toNat)) (h1 : b.toNat < 128) (h2 : ¬ (b.toNat = 0 ∧ 0 < i)) : getF i n (b :: r) = (n + b.toNat * 128 ^ i, i + 1, 0) := by
  rw [getF, if_neg h, if_neg (by omega), if_neg h2]

theorem or_zero (n k x : Nat) (hx : x = 0) (h : bits .or .u64 (n : Int) (IntKind.u64.wrap ((x : Int) * 2 ^ (7 * k))) = ((n + x * 128 ^ k : Nat) : Int)) : bits .or .u64 (n : Int) 0 = ((n + x * 128 ^ k : Nat) : Int) := by
  rw [← h, hx, Int.natCast_zero, Int.zero_mul]; rfl
theorem or_nine (n k x : Nat) (hk : k = 9) (hx : x ≤ 1) (h : bits .or .u64 (n : Int) (IntKind.u64.wrap ((x : Int) * 2 ^ (7 * k))) = ((n + x * 128 ^ k : Nat) : Int)) : bits .or .u64 (n : Int) ((x : Int) * 9223372036854775808) = ((n + x * 128 ^ k : Nat) : Int) := by
  rw [← h, hk, IntKind.wrap_u64]
  congr 1
  rw [show (2 : Int) ^ (7 * 9) = 9223372036854775808 from rfl]
  omega
theorem ret_done (a b : Int) {a' : Int} {q : Nat} (h : a = a') (h2 : b = (q : Int)) : Ending.returned (.tuple #[.int .u64 a, .int .i64 b, .int .i64 0]) = Ending.returned (.tuple #[.int .u64 a', .int .i64 (q : Int), .int .i64 0]) := by
  rw [h, h2]

set_option maxRecDepth 100000 in
set_option maxHeartbeats 400000 in
theorem get_any (l : List UInt8) (w : World) :
    Calls Try.prog 36 #[.string ⟨l.toArray⟩] w fun e w' => e = .returned (.tuple #[.int .u64 (getF 0 0 l).1, .int .i64 (getF 0 0 l).2.1, .int .i64 (getF 0 0 l).2.2]) ∧ w = w' := by
  go_enter Try.func36, Try.ntmps36
  go_wp2
  all_goals
    go_loop [5, 11] (fun a i => ∃ k n : Nat, k ≤ 9 ∧ k ≤ l.length ∧ a = .int .u64 n ∧ i = .int .i64 k ∧ getF 0 0 l = getF k n (l.drop k) ∧ Hid (n < 128 ^ k)) (fun _ i => 10 - (intOf i).toNat)
    case atStart => exact ⟨0, 0, by omega, by omega, rfl, rfl, rfl, by show _ < _; omega⟩
    case round =>
      obtain ⟨k, n, hk, hk2, rfl, rfl, hp, hm⟩ := hrel
      have Hp := Lib.hid hp
      clear hp
      by_cases hlt : k < l.length
      · obtain ⟨b, r, hd, hb, hr⟩ := byte_at l k hlt
        have Hd := Lib.hid hd
        have Hr := Lib.hid hr
        clear hd hr
        have hbl : b.toNat < 256 := b.toNat_lt
        go_wp2
        all_goals first
          | (go_ret3; refine ⟨?_, rfl⟩; rw [Hp.out, Hd.out, getF_range k n b r (by omega) (by omega)]; rfl)
          | (go_ret3; refine ⟨?_, rfl⟩; rw [Hp.out, Hd.out, getF_syntax k n b r (by omega) (by omega) (by omega)]; rfl)
          | (go_ret3
             refine ⟨?_, rfl⟩
             have hx : b.toNat < 128 := by omega
             have hg := or_group n b.toNat k hm.out hx (by omega)
             rw [Hp.out, Hd.out, getF_done k n b r (by omega) (by omega) (by omega)]
             refine ret_done (a' := ((n + b.toNat * 128 ^ k : Nat) : Int)) (q := k + 1) _ _ ?_ ?_
             · first | (with_reducible exact hg.1) | (refine or_zero n k b.toNat ?_ hg.1; omega) | (refine or_nine n k b.toNat ?_ ?_ hg.1 <;> omega)
             · first | (with_reducible rfl) | omega)
          | (go_round
             case rel =>
               have hg := or_group n (b.toNat % 128) k hm.out (by omega) (by omega)
               exact ⟨k + 1, n + b.toNat % 128 * 128 ^ k, by omega, by omega, by rw [and127, hg.1], by go_num, by rw [Hp.out, Hd.out, Hr.out, getF_more k n b r (by omega) (by omega)], hg.2.1⟩
             case measure => simp [intOf]; omega)
      · have hke : k = l.length := by omega
        clear hm
        go_wp2
        all_goals go_ret3
        all_goals refine ⟨?_, rfl⟩
        all_goals rw [Hp.out, List.drop_of_length_le (by omega)]
        all_goals rfl
end Go.Proofs.Ytngmdhdncfbdjaa

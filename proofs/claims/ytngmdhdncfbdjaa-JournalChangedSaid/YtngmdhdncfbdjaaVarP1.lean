/- Plain laws of varints, for the seats whose code has no GetAll. No condition. -/
import Derived.Test.YtngmdhdncfbdjaaVarPut
import Derived.Test.YtngmdhdncfbdjaaVarGet
import Derived.Test.YtngmdhdncfbdjaaVarRPut
namespace Go.Proofs.Ytngmdhdncfbdjaa
open Go.ChangeShapes Go.WideShapes Go.ChangeAt Go.RowKit

theorem putF_len (f n : Nat) : (putF f n).length ≤ f + 1 := by
  induction f generalizing n with
  | zero => simp [putF]
  | succ f ih =>
    rw [putF]; split
    · simp
    · have := ih (n / 128); simp; omega
theorem getF_ok (l : List UInt8) : ∀ (i n : Nat), i ≤ 9 → n < 128 ^ i → (getF i n l).2.2 = 0 → i < (getF i n l).2.1 ∧ (getF i n l).2.1 ≤ i + l.length ∧ U64 (getF i n l).1 := by
  induction l with
  | nil => intro i n _ _ h; simp [getF] at h
  | cons b r ih =>
    intro i n hi hn h
    by_cases h1 : i = 9 ∧ 1 < b.toNat
    · rw [getF_range i n b r h1.1 h1.2] at h; simp at h
    by_cases h2 : 128 ≤ b.toNat
    · have hg := or_group n (b.toNat % 128) i hn (Nat.mod_lt _ (by omega)) (by omega)
      rw [getF_more i n b r h1 h2] at h ⊢
      have := ih (i+1) _ (by omega) hg.2.1 h
      refine ⟨by omega, by simp only [List.length_cons]; omega, this.2.2⟩
    by_cases h3 : b.toNat = 0 ∧ 0 < i
    · rw [getF_syntax i n b r h1 h3.1 h3.2] at h; simp at h
    have hg := or_group n b.toNat i hn (by omega) (by omega)
    rw [getF_done i n b r h1 (by omega) h3]
    refine ⟨by show i < i + 1; omega, by show i + 1 ≤ _; simp only [List.length_cons]; omega, hg.2.2⟩

theorem ofNat_self (b : UInt8) : UInt8.ofNat b.toNat = b := by simp

/-- what Get accepts is the varint of the number -/
theorem get_put : ∀ (l : List UInt8) (i n : Nat), i ≤ 9 → (getF i n l).2.2 = 0 → ∃ m, (getF i n l).1 = n + m * 128 ^ i ∧ (0 < i → m ≠ 0) ∧ i < (getF i n l).2.1 ∧ putF (9 - i) m = l.take ((getF i n l).2.1 - i) := by
  intro l
  induction l with
  | nil => intro i n _ h; simp [getF] at h
  | cons b r ih =>
    intro i n hi h
    by_cases h1 : i = 9 ∧ 1 < b.toNat
    · rw [getF_range i n b r h1.1 h1.2] at h; simp at h
    have hb := b.toNat_lt
    by_cases h2 : 128 ≤ b.toNat
    · have hi8 : i ≤ 8 := by omega
      rw [getF_more i n b r h1 h2] at h ⊢
      obtain ⟨m, h3, h4, h5, h6⟩ := ih (i+1) _ (by omega) h
      have h4 := h4 (by omega)
      refine ⟨b.toNat % 128 + 128 * m, ?_, by omega, by omega, ?_⟩
      · rw [h3, Nat.pow_succ, Nat.add_mul]
        have : 128 * m * 128 ^ i = m * (128 ^ i * 128) := by rw [Nat.mul_comm 128 m, Nat.mul_assoc, Nat.mul_comm 128]
        omega
      · have e1 : 9 - i = (9 - (i + 1)) + 1 := by omega
        have e2 : (getF (i + 1) (n + b.toNat % 128 * 128 ^ i) r).2.1 - i = ((getF (i + 1) (n + b.toNat % 128 * 128 ^ i) r).2.1 - (i + 1)) + 1 := by omega
        rw [e1, e2, List.take_succ_cons, putF, if_neg (by omega)]
        have e3 : (b.toNat % 128 + 128 * m) / 128 = m := by omega
        have e4 : (b.toNat % 128 + 128 * m) % 128 + 128 = b.toNat := by omega
        rw [e3, e4, h6, ofNat_self]
    by_cases h3 : b.toNat = 0 ∧ 0 < i
    · rw [getF_syntax i n b r h1 h3.1 h3.2] at h; simp at h
    rw [getF_done i n b r h1 (by omega) h3]
    refine ⟨b.toNat, rfl, by omega, by show i < i + 1; omega, ?_⟩
    show _ = List.take (i + 1 - i) _
    rw [show i + 1 - i = 1 from by omega, putF_lt _ _ (by omega), ofNat_self]
    rfl

/-- Get restores what Put wrote, whatever follows -/
theorem put_get : ∀ (f i m acc : Nat) (rest : List UInt8), f = 9 - i → i ≤ 9 → m * 128 ^ i < 18446744073709551616 → (0 < i → m ≠ 0) → getF i acc (putF f m ++ rest) = (acc + m * 128 ^ i, i + (putF f m).length, 0) := by
  intro f
  induction f with
  | zero =>
    intro i m acc rest hf hi hm h0
    obtain rfl : i = 9 := by omega
    have e : (128:Nat) ^ 9 = 9223372036854775808 := by decide
    rw [e] at hm
    have hm2 : m < 2 := by omega
    have e2 : (UInt8.ofNat m).toNat = m := by simp; omega
    rw [putF, List.singleton_append, getF_done 9 acc _ _ (by omega) (by omega) (by omega), e2]
    rfl
  | succ f ih =>
    intro i m acc rest hf hi hm h0
    by_cases h : m < 128
    · have e2 : (UInt8.ofNat m).toNat = m := by simp; omega
      rw [putF, if_pos h, List.singleton_append, getF_done i acc _ _ (by omega) (by omega) (by omega), e2]
      rfl
    · have e2 : (UInt8.ofNat (m % 128 + 128)).toNat = m % 128 + 128 := by simp; omega
      rw [putF, if_neg h, List.cons_append, getF_more i acc _ _ (by omega) (by omega), e2, ih (i+1) (m / 128) _ rest (by omega) (by omega) (pow_step m i hm) (by omega)]
      have e3 : (m % 128 + 128) % 128 = m % 128 := by omega
      rw [e3]
      have e4 : acc + m % 128 * 128 ^ i + m / 128 * 128 ^ (i + 1) = acc + m * 128 ^ i := by
        rw [Nat.pow_succ, Nat.add_assoc, show m / 128 * (128 ^ i * 128) = (m / 128 * 128) * 128 ^ i from by rw [Nat.mul_comm (128 ^ i), Nat.mul_assoc], ← Nat.add_mul]
        congr 2; omega
      rw [e4, List.length_cons]
      congr 2
      omega

theorem put_get0 (n : Nat) (hn : U64 n) (rest : List UInt8) : getF 0 0 (putF 9 n ++ rest) = (n, (putF 9 n).length, 0) := by
  rw [put_get 9 0 n 0 rest rfl (by omega) (by rw [Nat.pow_zero, Nat.mul_one]; exact hn) (by omega)]
  simp
theorem get_put0 (l : List UInt8) (h : (getF 0 0 l).2.2 = 0) : putF 9 (getF 0 0 l).1 = l.take (getF 0 0 l).2.1 := by
  obtain ⟨m, h1, _, _, h4⟩ := get_put l 0 0 (by omega) h
  rw [h1]
  simpa using h4

/-- a varint that is cut off is no varint -/
theorem put_prefix : ∀ (f i m acc k : Nat), f = 9 - i → i ≤ 9 → m * 128 ^ i < 18446744073709551616 → k < (putF f m).length → getF i acc ((putF f m).take k) = (0, 0, 10) := by
  intro f
  induction f with
  | zero =>
    intro i m acc k hf hi hm hk
    simp [putF] at hk
    subst hk
    simp [getF]
  | succ f ih =>
    intro i m acc k hf hi hm hk
    by_cases h : m < 128
    · simp [putF, h] at hk
      subst hk
      simp [getF]
    · rcases k with _ | k
      · simp [getF]
      · have e2 : (UInt8.ofNat (m % 128 + 128)).toNat = m % 128 + 128 := by simp; omega
        rw [putF, if_neg h] at hk ⊢
        rw [List.take_succ_cons, getF_more i acc _ _ (by omega) (by omega)]
        exact ih (i+1) (m / 128) _ k (by omega) (by omega) (pow_step m i hm) (by simpa using hk)
theorem put_prefix0 (n k : Nat) (hn : U64 n) (h : k < (putF 9 n).length) : getF 0 0 ((putF 9 n).take k) = (0, 0, 10) :=
  put_prefix 9 0 n 0 k rfl (by omega) (by rw [Nat.pow_zero, Nat.mul_one]; exact hn) h

end Go.Proofs.Ytngmdhdncfbdjaa

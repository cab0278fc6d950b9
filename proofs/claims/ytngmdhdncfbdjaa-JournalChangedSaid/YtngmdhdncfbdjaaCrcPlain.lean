/- Plain laws of the CRC-32: no program in sight. No condition. -/
import Derived.Test.YtngmdhdncfbdjaaKit
namespace Go.Proofs.Ytngmdhdncfbdjaa

def poly : Nat := 3988292384
def st (c : Nat) : Nat := if c % 2 = 1 then (c / 2) ^^^ poly else c / 2
def st8 (c : Nat) : Nat := st (st (st (st (st (st (st (st c)))))))
def W32 (n : Nat) : Prop := n < 4294967296

theorem w32_iff (n : Nat) : W32 n ↔ n < 2 ^ 32 := Iff.rfl
theorem xor_w32 {a b : Nat} (ha : W32 a) (hb : W32 b) : W32 (a ^^^ b) := Nat.xor_lt_two_pow (n := 32) ha hb
theorem poly_w32 : W32 poly := by unfold W32 poly; omega
theorem st_w32 {c : Nat} (h : W32 c) : W32 (st c) := by
  have h2 : W32 (c / 2) := by unfold W32 at *; omega
  unfold st
  split
  · exact xor_w32 h2 poly_w32
  · exact h2
theorem st8_w32 {c : Nat} (h : W32 c) : W32 (st8 c) := st_w32 (st_w32 (st_w32 (st_w32 (st_w32 (st_w32 (st_w32 (st_w32 h)))))))
theorem byte_w32 (b : UInt8) : W32 b.toNat := by have := b.toNat_lt; unfold W32; omega
theorem xor_back (a b : Nat) : (a ^^^ b) ^^^ b = a := by rw [Nat.xor_assoc, Nat.xor_self, Nat.xor_zero]
/-- the step is injective on 32 bits -/
theorem high_bit (c : Nat) (h : W32 c) : (st c).testBit 31 = decide (c % 2 = 1) := by
  have hc : (c / 2).testBit 31 = false := Nat.testBit_lt_two_pow (by unfold W32 at h; omega)
  have hp : poly.testBit 31 = true := by decide
  unfold st
  by_cases h1 : c % 2 = 1
  · rw [if_pos h1, Nat.testBit_xor, hc, hp]; simp [h1]
  · rw [if_neg h1, hc]; simp [h1]
theorem st_inj {a b : Nat} (ha : W32 a) (hb : W32 b) (h : st a = st b) : a = b := by
  have h1 := high_bit a ha
  have h2 := high_bit b hb
  rw [h, h2] at h1
  have h3 : (b % 2 = 1) ↔ (a % 2 = 1) := by simpa using h1
  unfold st at h
  by_cases h4 : a % 2 = 1
  · rw [if_pos h4, if_pos (h3.2 h4)] at h
    have := congrArg (· ^^^ poly) h
    simp only [xor_back] at this
    have := h3.2 h4
    omega
  · rw [if_neg h4, if_neg (fun h5 => h4 (h3.1 h5))] at h
    have : ¬ b % 2 = 1 := fun h5 => h4 (h3.1 h5)
    omega
theorem st8_inj {a b : Nat} (ha : W32 a) (hb : W32 b) (h : st8 a = st8 b) : a = b := by
  unfold st8 at h
  have a1 := st_w32 ha
  have a2 := st_w32 a1
  have a3 := st_w32 a2
  have a4 := st_w32 a3
  have a5 := st_w32 a4
  have a6 := st_w32 a5
  have a7 := st_w32 a6
  have b1 := st_w32 hb
  have b2 := st_w32 b1
  have b3 := st_w32 b2
  have b4 := st_w32 b3
  have b5 := st_w32 b4
  have b6 := st_w32 b5
  have b7 := st_w32 b6
  exact st_inj ha hb (st_inj a1 b1 (st_inj a2 b2 (st_inj a3 b3 (st_inj a4 b4 (st_inj a5 b5 (st_inj a6 b6 (st_inj a7 b7 h)))))))

theorem xor_cancel {a b c : Nat} (h : a ^^^ c = b ^^^ c) : a = b := by
  have := congrArg (· ^^^ c) h
  simpa only [xor_back] using this
theorem xor_cancel_left {a b c : Nat} (h : c ^^^ a = c ^^^ b) : a = b := by
  rw [Nat.xor_comm c a, Nat.xor_comm c b] at h
  exact xor_cancel h
/-- what is shifted in from above comes out unchanged -/
theorem st_lin (x y : Nat) : st (x ^^^ (2 * y)) = st x ^^^ y := by
  have h1 : (x ^^^ (2 * y)) % 2 = x % 2 := by
    have := Nat.xor_mod_two_pow (a := x) (b := 2 * y) (n := 1)
    simp only [Nat.pow_one] at this
    rw [this, Nat.mul_mod_right, Nat.xor_zero]
  have h2 : (x ^^^ (2 * y)) / 2 = x / 2 ^^^ y := by
    have := Nat.xor_div_two_pow (a := x) (b := 2 * y) (n := 1)
    simp only [Nat.pow_one] at this
    rw [this, Nat.mul_div_cancel_left _ (by omega)]
  unfold st
  rw [h1, h2]
  split
  · rw [Nat.xor_assoc, Nat.xor_assoc, Nat.xor_comm y]
  · rfl
theorem st8_lin (x y : Nat) : st8 (x ^^^ (256 * y)) = st8 x ^^^ y := by
  unfold st8
  rw [show 256 * y = 2 * (128 * y) from by omega, st_lin, show 128 * y = 2 * (64 * y) from by omega, st_lin, show 64 * y = 2 * (32 * y) from by omega, st_lin,
    show 32 * y = 2 * (16 * y) from by omega, st_lin, show 16 * y = 2 * (8 * y) from by omega, st_lin, show 8 * y = 2 * (4 * y) from by omega, st_lin,
    show 4 * y = 2 * (2 * y) from by omega, st_lin, st_lin]

attribute [irreducible] st8
def crcL : Nat → List UInt8 → Nat
  | c, [] => c
  | c, b :: r => crcL (st8 (c ^^^ b.toNat)) r
def ones : Nat := 4294967295
def extend (c : Nat) (l : List UInt8) : Nat := crcL (c ^^^ ones) l ^^^ ones
def crc (l : List UInt8) : Nat := extend 0 l
theorem ones_w32 : W32 ones := by unfold W32 ones; omega
theorem crcL_w32 (l : List UInt8) : ∀ {c : Nat}, W32 c → W32 (crcL c l) := by
  induction l with
  | nil => intro c h; exact h
  | cons b r ih => intro c h; exact ih (st8_w32 (xor_w32 h (byte_w32 b)))
theorem extend_w32 {c : Nat} (h : W32 c) (l : List UInt8) : W32 (extend c l) := xor_w32 (crcL_w32 l (xor_w32 h ones_w32)) ones_w32
theorem crc_w32 (l : List UInt8) : W32 (crc l) := extend_w32 (by unfold W32; omega) l

theorem crcL_app (a b : List UInt8) : ∀ c, crcL c (a ++ b) = crcL (crcL c a) b := by
  induction a with
  | nil => intro c; rfl
  | cons x r ih => intro c; exact ih _
theorem extend_app (c : Nat) (a b : List UInt8) : extend (extend c a) b = extend c (a ++ b) := by
  unfold extend
  rw [xor_back, crcL_app]

theorem crcL_inj (l : List UInt8) : ∀ {a b : Nat}, W32 a → W32 b → crcL a l = crcL b l → a = b := by
  induction l with
  | nil => intro a b _ _ h; exact h
  | cons x r ih =>
    intro a b ha hb h
    have h1 := ih (st8_w32 (xor_w32 ha (byte_w32 x))) (st8_w32 (xor_w32 hb (byte_w32 x))) h
    exact xor_cancel (st8_inj (xor_w32 ha (byte_w32 x)) (xor_w32 hb (byte_w32 x)) h1)

def word : List UInt8 → Nat
  | [] => 0
  | b :: r => b.toNat ^^^ (256 * word r)
def rep8 : Nat → Nat → Nat
  | 0, c => c
  | n+1, c => rep8 n (st8 c)
theorem crcL_word (m : List UInt8) : ∀ c, crcL c m = rep8 m.length (c ^^^ word m) := by
  induction m with
  | nil => intro c; simp [crcL, word, rep8]
  | cons b r ih =>
    intro c
    rw [crcL, ih, List.length_cons, rep8, word, ← Nat.xor_assoc, st8_lin]
theorem rep8_inj (n : Nat) : ∀ {a b : Nat}, W32 a → W32 b → rep8 n a = rep8 n b → a = b := by
  induction n with
  | zero => intro a b _ _ h; exact h
  | succ n ih => intro a b ha hb h; exact st8_inj ha hb (ih (st8_w32 ha) (st8_w32 hb) h)
theorem word_lt (m : List UInt8) : word m < 256 ^ m.length := by
  induction m with
  | nil => simp [word]
  | cons b r ih =>
    have hb := b.toNat_lt
    rw [word, List.length_cons]
    have e : (256 : Nat) ^ (r.length + 1) = 2 ^ (8 * (r.length + 1)) := by rw [show (256 : Nat) = 2 ^ 8 from rfl, ← Nat.pow_mul]
    have h1 : b.toNat < 256 ^ (r.length + 1) := by
      have : 256 ^ 1 ≤ 256 ^ (r.length + 1) := Nat.pow_le_pow_right (by omega) (by omega)
      omega
    have h2 : 256 * word r < 256 ^ (r.length + 1) := by rw [Nat.pow_succ]; omega
    rw [e] at h1 h2 ⊢
    exact Nat.xor_lt_two_pow h1 h2
theorem word_head (b : UInt8) (r : List UInt8) : word (b :: r) % 256 = b.toNat := by
  have := Nat.xor_mod_two_pow (a := b.toNat) (b := 256 * word r) (n := 8)
  rw [word, show (256 : Nat) = 2 ^ 8 from rfl] at *
  rw [this, Nat.mul_mod_right, Nat.xor_zero]
  exact Nat.mod_eq_of_lt b.toNat_lt
theorem word_tail (b : UInt8) (r : List UInt8) : word (b :: r) / 256 = word r := by
  have := Nat.xor_div_two_pow (a := b.toNat) (b := 256 * word r) (n := 8)
  rw [word, show (256 : Nat) = 2 ^ 8 from rfl] at *
  rw [this, Nat.mul_div_cancel_left _ (by decide), Nat.div_eq_of_lt b.toNat_lt, Nat.zero_xor]
theorem word_inj (m : List UInt8) : ∀ n : List UInt8, m.length = n.length → word m = word n → m = n := by
  induction m with
  | nil => intro n h _; exact (List.eq_nil_of_length_eq_zero h.symm).symm
  | cons b r ih =>
    intro n h h2
    rcases n with _ | ⟨c, q⟩
    · simp at h
    · have h3 := word_head b r
      have h4 := word_tail b r
      rw [h2, word_head] at h3
      rw [h2, word_tail] at h4
      have : b = c := UInt8.toNat_inj.1 h3.symm
      subst this
      rw [ih q (by simpa using h) h4.symm]
theorem word_w32 (m : List UInt8) (h : m.length ≤ 4) : W32 (word m) := by
  have h1 := word_lt m
  have h2 : 256 ^ m.length ≤ 256 ^ 4 := Nat.pow_le_pow_right (by omega) h
  have e : (256 : Nat) ^ 4 = 4294967296 := by decide
  unfold W32; omega

/-- strings that differ within four consecutive bytes have different CRCs -/
theorem crc_burst (p m m' q : List UInt8) (h4 : m.length ≤ 4) (hl : m.length = m'.length) (h : crc (p ++ (m ++ q)) = crc (p ++ (m' ++ q))) : m = m' := by
  unfold crc extend at h
  have h := xor_cancel h
  rw [crcL_app, crcL_app, crcL_app, crcL_app] at h
  have hc : W32 (crcL (0 ^^^ ones) p) := crcL_w32 p (xor_w32 (by unfold W32; omega) ones_w32)
  generalize crcL (0 ^^^ ones) p = c at *
  have h := crcL_inj q (crcL_w32 m hc) (crcL_w32 m' hc) h
  rw [crcL_word, crcL_word, hl] at h
  have h := rep8_inj _ (xor_w32 hc (word_w32 m h4)) (xor_w32 hc (word_w32 m' (by omega))) h
  exact word_inj m m' hl (xor_cancel_left h)
end Go.Proofs.Ytngmdhdncfbdjaa

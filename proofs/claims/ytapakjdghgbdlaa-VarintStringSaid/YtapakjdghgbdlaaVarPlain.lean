/- Plain laws of varints and big-endian bytes: no program in sight. No condition. -/
import Derived.Test.YtapakjdghgbdlaaVarAll
namespace Go.Proofs.Ytapakjdghgbdlaa
open Go.ChangeShapes Go.WideShapes Go.ChangeAt Go.RowKit

theorem ofNat_self (b : UInt8) : UInt8.ofNat b.toNat = b := by simp

/-- what Get accepts is the varint of the number -/
theorem get_put : ∀ (l : List UInt8) (i n : Nat), i ≤ 9 → (getF i n l).2.2 = 0 → ∃ m, (getF i n l).1 = n + m * 128 ^ i ∧ (0 < i → m ≠ 0) ∧ i < (getF i n l).2.1 ∧ putF (9 - i) m = l.take ((getF i n l).2.1 - i) := by
  intro l
  induction l with
  | nil => intro i n _ h; simp [getF] at h
  | cons b r ih =>
    intro i n hi h
    by_cases h1 : i = 9 ∧ 1 < b.toNat
    · rw [getF_range i n b r h1.1 h1.2] at h; simp at h
    have hb := b.toNat_lt
    by_cases h2 : 128 ≤ b.toNat
    · have hi8 : i ≤ 8 := by omega
      rw [getF_more i n b r h1 h2] at h ⊢
      obtain ⟨m, h3, h4, h5, h6⟩ := ih (i+1) _ (by omega) h
      have h4 := h4 (by omega)
      refine ⟨b.toNat % 128 + 128 * m, ?_, by omega, by omega, ?_⟩
      · rw [h3, Nat.pow_succ, Nat.add_mul]
        have : 128 * m * 128 ^ i = m * (128 ^ i * 128) := by rw [Nat.mul_comm 128 m, Nat.mul_assoc, Nat.mul_comm 128]
        omega
      · have e1 : 9 - i = (9 - (i + 1)) + 1 := by omega
        have e2 : (getF (i + 1) (n + b.toNat % 128 * 128 ^ i) r).2.1 - i = ((getF (i + 1) (n + b.toNat % 128 * 128 ^ i) r).2.1 - (i + 1)) + 1 := by omega
        rw [e1, e2, List.take_succ_cons, putF, if_neg (by omega)]
        have e3 : (b.toNat % 128 + 128 * m) / 128 = m := by omega
        have e4 : (b.toNat % 128 + 128 * m) % 128 + 128 = b.toNat := by omega
        rw [e3, e4, h6, ofNat_self]
    by_cases h3 : b.toNat = 0 ∧ 0 < i
    · rw [getF_syntax i n b r h1 h3.1 h3.2] at h; simp at h
    rw [getF_done i n b r h1 (by omega) h3]
    refine ⟨b.toNat, rfl, by omega, by show i < i + 1; omega, ?_⟩
    show _ = List.take (i + 1 - i) _
    rw [show i + 1 - i = 1 from by omega, putF_lt _ _ (by omega), ofNat_self]
    rfl

/-- Get restores what Put wrote, whatever follows -/
theorem put_get : ∀ (f i m acc : Nat) (rest : List UInt8), f = 9 - i → i ≤ 9 → m * 128 ^ i < 18446744073709551616 → (0 < i → m ≠ 0) → getF i acc (putF f m ++ rest) = (acc + m * 128 ^ i, i + (putF f m).length, 0) := by
  intro f
  induction f with
  | zero =>
    intro i m acc rest hf hi hm h0
    obtain rfl : i = 9 := by omega
    have e : (128:Nat) ^ 9 = 9223372036854775808 := by decide
    rw [e] at hm
    have hm2 : m < 2 := by omega
    have e2 : (UInt8.ofNat m).toNat = m := by simp; omega
    rw [putF, List.singleton_append, getF_done 9 acc _ _ (by omega) (by omega) (by omega), e2]
    rfl
  | succ f ih =>
    intro i m acc rest hf hi hm h0
    by_cases h : m < 128
    · have e2 : (UInt8.ofNat m).toNat = m := by simp; omega
      rw [putF, if_pos h, List.singleton_append, getF_done i acc _ _ (by omega) (by omega) (by omega), e2]
      rfl
    · have e2 : (UInt8.ofNat (m % 128 + 128)).toNat = m % 128 + 128 := by simp; omega
      rw [putF, if_neg h, List.cons_append, getF_more i acc _ _ (by omega) (by omega), e2, ih (i+1) (m / 128) _ rest (by omega) (by omega) (pow_step m i hm) (by omega)]
      have e3 : (m % 128 + 128) % 128 = m % 128 := by omega
      rw [e3]
      have e4 : acc + m % 128 * 128 ^ i + m / 128 * 128 ^ (i + 1) = acc + m * 128 ^ i := by
        rw [Nat.pow_succ, Nat.add_assoc, show m / 128 * (128 ^ i * 128) = (m / 128 * 128) * 128 ^ i from by rw [Nat.mul_comm (128 ^ i), Nat.mul_assoc], ← Nat.add_mul]
        congr 2; omega
      rw [e4, List.length_cons]
      congr 2
      omega

theorem put_get0 (n : Nat) (hn : U64 n) (rest : List UInt8) : getF 0 0 (putF 9 n ++ rest) = (n, (putF 9 n).length, 0) := by
  rw [put_get 9 0 n 0 rest rfl (by omega) (by rw [Nat.pow_zero, Nat.mul_one]; exact hn) (by omega)]
  simp
theorem get_put0 (l : List UInt8) (h : (getF 0 0 l).2.2 = 0) : putF 9 (getF 0 0 l).1 = l.take (getF 0 0 l).2.1 := by
  obtain ⟨m, h1, _, _, h4⟩ := get_put l 0 0 (by omega) h
  rw [h1]
  simpa using h4

theorem getAllF_put (ns : List Nat) : ∀ (f : Nat) (acc : List Nat), (putAll ns).length ≤ f → (∀ n ∈ ns, U64 n) → getAllF f (putAll ns) acc = (acc ++ ns, 0) := by
  induction ns with
  | nil => intro f acc _ _; cases f <;> simp [putAll, getAllF]
  | cons n r ih =>
    intro f acc hf hns
    have e : putAll (n :: r) = putF 9 n ++ putAll r := by simp [putAll]
    have hp : 0 < (putF 9 n).length := by
      rw [putF]; split <;> simp
    rw [e] at hf ⊢
    rw [List.length_append] at hf
    obtain ⟨f, rfl⟩ : ∃ g, f = g + 1 := ⟨f - 1, by omega⟩
    have hne : putF 9 n ++ putAll r ≠ [] := by
      intro h
      have := congrArg List.length h
      simp at this
      simp [this.1] at hp
    rw [getAllF, if_neg hne, put_get0 n (hns n (by simp)), if_pos rfl, List.drop_left, ih f _ (by omega) (fun x hx => hns x (by simp [hx]))]
    simp
theorem getAll_put (ns : List Nat) (h : ∀ n ∈ ns, U64 n) : getAll (putAll ns) = (ns, 0) := by
  rw [getAll, getAllF_put ns _ [] (Nat.le_refl _) h]
  simp

theorem putAll_app (a b : List Nat) : putAll (a ++ b) = putAll a ++ putAll b := by simp [putAll]
theorem getAllF_ok : ∀ (f : Nat) (l : List UInt8) (acc : List Nat), l.length ≤ f → (getAllF f l acc).2 = 0 → (∀ n ∈ acc, U64 n) → (putAll (getAllF f l acc).1 = putAll acc ++ l ∧ ∀ n ∈ (getAllF f l acc).1, U64 n) := by
  intro f
  induction f with
  | zero =>
    intro l acc hl h hu
    have : l = [] := List.eq_nil_of_length_eq_zero (by omega)
    subst this
    simpa [getAllF] using hu
  | succ f ih =>
    intro l acc hl h hu
    rw [getAllF] at h ⊢
    by_cases h1 : l = []
    · rw [if_pos h1]; subst h1; simpa using hu
    rw [if_neg h1] at h ⊢
    by_cases h2 : (getF 0 0 l).2.2 = 0
    · rw [if_pos h2] at h ⊢
      obtain ⟨h3, h4, h5⟩ := getF_ok l 0 0 (by omega) (by decide) h2
      have := ih (l.drop (getF 0 0 l).2.1) (acc ++ [(getF 0 0 l).1]) (by simp; omega) h (by
        intro n hn
        rcases List.mem_append.1 hn with hn | hn
        · exact hu n hn
        · simp at hn; subst hn; exact h5)
      refine ⟨?_, this.2⟩
      rw [this.1, putAll_app, List.append_assoc]
      congr 1
      have e : putAll [(getF 0 0 l).1] = putF 9 (getF 0 0 l).1 := by simp [putAll]
      rw [e, get_put0 l h2, List.take_append_drop]
    · rw [if_neg h2] at h
      exact absurd h h2
theorem getAll_ok (l : List UInt8) (h : (getAll l).2 = 0) : putAll (getAll l).1 = l ∧ ∀ n ∈ (getAll l).1, U64 n := by
  have := getAllF_ok l.length l [] (Nat.le_refl _) h (by simp)
  exact ⟨by rw [getAll, this.1]; rfl, this.2⟩

theorem getAllF_len : ∀ (f : Nat) (l : List UInt8) (acc : List Nat), (getAllF f l acc).1.length ≤ acc.length + f := by
  intro f
  induction f with
  | zero => intro l acc; simp [getAllF]
  | succ f ih =>
    intro l acc
    rw [getAllF]
    split
    · show acc.length ≤ _; omega
    split
    · have := ih (l.drop (getF 0 0 l).2.1) (acc ++ [(getF 0 0 l).1])
      simp at this; omega
    · simp
theorem getAll_len (l : List UInt8) : (getAll l).1.length ≤ l.length := by
  have := getAllF_len l.length l []
  simp only [List.length_nil, Nat.zero_add] at this
  exact this

/-! big-endian bytes -/
theorem fromF_big : ∀ (f n : Nat) (acc : List UInt8), n < 256 ^ f → fromF (bigF f n acc) 0 = fromF acc n := by
  intro f
  induction f with
  | zero =>
    intro n acc h
    obtain rfl : n = 0 := by simpa using h
    rfl
  | succ f ih =>
    intro n acc h
    rw [bigF]
    split
    · next h0 => rw [h0]
    · rw [ih _ _ (by rw [Nat.pow_succ] at h; omega), fromF]
      congr 1
      simp; omega
theorem bigF_head : ∀ (f n : Nat) (acc : List UInt8), n ≠ 0 → n < 256 ^ f → (bigF f n acc).head? ≠ some 0 ∧ bigF f n acc ≠ [] := by
  intro f
  induction f with
  | zero => intro n acc h0 h; simp at h; omega
  | succ f ih =>
    intro n acc h0 h
    rw [bigF, if_neg h0]
    by_cases h1 : n / 256 = 0
    · rw [h1, bigF_zero _ _ _ (by omega)]
      refine ⟨fun h2 => ?_, by simp⟩
      have h3 : UInt8.ofNat (n % 256) = 0 := by simpa using h2
      have := congrArg UInt8.toNat h3
      simp at this
      omega
    · exact ih _ _ h1 (by rw [Nat.pow_succ] at h; omega)
theorem bigF_len : ∀ (f n : Nat) (acc : List UInt8), (bigF f n acc).length ≤ f + acc.length := by
  intro f
  induction f with
  | zero => intro n acc; simp [bigF]
  | succ f ih =>
    intro n acc
    rw [bigF]
    split
    · omega
    · have := ih (n / 256) (UInt8.ofNat (n % 256) :: acc)
      simp at this
      omega
theorem u64_256 (n : Nat) (h : U64 n) : n < 256 ^ 8 := by
  have e : (256:Nat) ^ 8 = 18446744073709551616 := by decide
  rw [e]; exact h
theorem big_head (n : Nat) (h : U64 n) : (bigF 8 n []).head? ≠ some 0 := by
  by_cases h0 : n = 0
  · subst h0; simp [bigF]
  · exact (bigF_head 8 n [] h0 (u64_256 n h)).1
theorem fromBig_big (n : Nat) (h : U64 n) : fromBig (bigF 8 n []) = (n, 0) := by
  have hl := bigF_len 8 n []
  rw [fromBig, if_neg (big_head n h), if_neg (by simp at hl; omega), fromF_big 8 n [] (u64_256 n h)]
  rfl
theorem fromF_acc (l : List UInt8) : ∀ n, fromF l n = n * 256 ^ l.length + fromF l 0 := by
  induction l with
  | nil => intro n; simp [fromF]
  | cons b r ih =>
    intro n
    rw [fromF, ih, fromF, ih (0 * 256 + b.toNat), List.length_cons, Nat.pow_succ]
    have : n * (256 ^ r.length * 256) = (n * 256) * 256 ^ r.length := by rw [Nat.mul_comm (256 ^ r.length), Nat.mul_assoc]
    have e : 0 * 256 + b.toNat = b.toNat := by omega
    rw [this, Nat.add_mul, e, Nat.add_assoc]
theorem fromF_lt (l : List UInt8) : fromF l 0 < 256 ^ l.length := by
  induction l with
  | nil => simp [fromF]
  | cons b r ih =>
    rw [fromF, fromF_acc, List.length_cons, Nat.pow_succ]
    have hb := b.toNat_lt
    have : (0 * 256 + b.toNat) * 256 ^ r.length ≤ 255 * 256 ^ r.length := Nat.mul_le_mul_right _ (by omega)
    omega
theorem fromF_ge (b : UInt8) (r : List UInt8) (h : b ≠ 0) : 256 ^ r.length ≤ fromF (b :: r) 0 := by
  rw [fromF, fromF_acc]
  have : 1 ≤ b.toNat := by
    rcases Nat.eq_zero_or_pos b.toNat with h0 | h0
    · exact absurd (byte_zero b h0) h
    · exact h0
  have : 1 * 256 ^ r.length ≤ (0 * 256 + b.toNat) * 256 ^ r.length := Nat.mul_le_mul_right _ (by omega)
  omega
theorem fromF_len (l r : List UInt8) (hr : r.head? ≠ some 0) (h : l.length < r.length) : fromF l 0 < fromF r 0 := by
  rcases r with _ | ⟨b, r⟩
  · simp at h
  · have h1 := fromF_ge b r (by simpa using hr)
    have h2 := fromF_lt l
    have : 256 ^ l.length ≤ 256 ^ r.length := Nat.pow_le_pow_right (by omega) (by simp at h; omega)
    omega
theorem fromF_inj (l : List UInt8) : ∀ r : List UInt8, l.length = r.length → fromF l 0 = fromF r 0 → l = r := by
  induction l with
  | nil => intro r h _; simp at h; exact (List.eq_nil_of_length_eq_zero h.symm).symm
  | cons b l ih =>
    intro r h h2
    rcases r with _ | ⟨c, r⟩
    · simp at h
    · simp at h
      rw [fromF, fromF_acc, fromF, fromF_acc r, h] at h2
      have h3 := fromF_lt l
      have h4 := fromF_lt r
      rw [h] at h3
      simp only [Nat.zero_mul, Nat.zero_add] at h2
      have hp : 0 < 256 ^ r.length := Nat.pow_pos (by omega)
      have hbc : b.toNat = c.toNat := by
        have e1 : (b.toNat * 256 ^ r.length + fromF l 0) / 256 ^ r.length = b.toNat := by
          rw [Nat.add_comm, Nat.add_mul_div_right _ _ hp, Nat.div_eq_of_lt h3, Nat.zero_add]
        have e2 : (c.toNat * 256 ^ r.length + fromF r 0) / 256 ^ r.length = c.toNat := by
          rw [Nat.add_comm, Nat.add_mul_div_right _ _ hp, Nat.div_eq_of_lt h4, Nat.zero_add]
        rw [← e1, ← e2, h2]
      have hb : b = c := UInt8.toNat_inj.1 hbc
      subst hb
      rw [ih r h (by omega)]
theorem fromBig_u64 (l : List UInt8) : U64 (fromBig l).1 := by
  have e : (256:Nat) ^ 8 = 18446744073709551616 := by decide
  unfold fromBig U64
  split
  · show 0 < _; omega
  split
  · show 0 < _; omega
  · show fromF l 0 < _
    have hlt := fromF_lt l
    have h8 : 256 ^ l.length ≤ 256 ^ 8 := Nat.pow_le_pow_right (by omega) (by omega)
    omega
theorem big_fromBig (l : List UInt8) (h : (fromBig l).2 = 0) : bigF 8 (fromBig l).1 [] = l := by
  unfold fromBig at h ⊢
  by_cases h1 : l.head? = some 0
  · rw [if_pos h1] at h; simp at h
  rw [if_neg h1] at h ⊢
  by_cases h2 : 8 < l.length
  · rw [if_pos h2] at h; simp at h
  rw [if_neg h2]
  show bigF 8 (fromF l 0) [] = l
  have hlt := fromF_lt l
  have h8 : 256 ^ l.length ≤ 256 ^ 8 := Nat.pow_le_pow_right (by omega) (by omega)
  have hu : fromF l 0 < 256 ^ 8 := by omega
  have hu2 : U64 (fromF l 0) := by
    have e : (256:Nat) ^ 8 = 18446744073709551616 := by decide
    rw [e] at hu; exact hu
  have hv : fromF (bigF 8 (fromF l 0) []) 0 = fromF l 0 := fromF_big 8 _ [] hu
  have hh := big_head _ hu2
  generalize bigF 8 (fromF l 0) [] = q at *
  apply fromF_inj _ _ _ hv
  rcases Nat.lt_trichotomy q.length l.length with h3 | h3 | h3
  · have := fromF_len q l h1 h3; omega
  · exact h3
  · have := fromF_len l q hh h3; omega

/-- bytes of equal length are ordered like their numbers -/
theorem less_iff (l : List UInt8) : ∀ r : List UInt8, l.length = r.length → (Op.bytesLess l r = true ↔ fromF l 0 < fromF r 0) := by
  induction l with
  | nil =>
    intro r h
    have : r = [] := List.eq_nil_of_length_eq_zero h.symm
    subst this
    simp [Op.bytesLess]
  | cons b l ih =>
    intro r h
    rcases r with _ | ⟨c, r⟩
    · simp at h
    · simp at h
      have h3 := fromF_lt l
      have h4 := fromF_lt r
      have h5 := ih r h
      rw [fromF, fromF_acc, fromF, fromF_acc r, h]
      rw [h] at h3
      simp only [Nat.zero_mul, Nat.zero_add]
      have e0 : Op.bytesLess (b :: l) (c :: r) = true ↔ b < c ∨ b = c ∧ Op.bytesLess l r = true := by simp [Op.bytesLess]
      rw [e0, h5, UInt8.lt_iff_toNat_lt, ← UInt8.toNat_inj]
      generalize 256 ^ r.length = P at *
      rcases Nat.lt_trichotomy b.toNat c.toNat with h6 | h6 | h6
      · have : (b.toNat + 1) * P ≤ c.toNat * P := Nat.mul_le_mul_right _ h6
        rw [Nat.add_mul] at this
        constructor
        · intro _; omega
        · intro _; exact .inl h6
      · rw [h6]
        constructor
        · rintro (h7 | ⟨_, h7⟩) <;> omega
        · intro h7; exact .inr ⟨rfl, by omega⟩
      · have : (c.toNat + 1) * P ≤ b.toNat * P := Nat.mul_le_mul_right _ h6
        rw [Nat.add_mul] at this
        constructor
        · rintro (h7 | ⟨h7, _⟩) <;> omega
        · intro h7; omega
theorem big_less (a b : Nat) (ha : U64 a) (hb : U64 b) :
    (decide ((bigF 8 a []).length < (bigF 8 b []).length) || (decide ((bigF 8 a []).length = (bigF 8 b []).length) && Op.bytesLess (bigF 8 a []) (bigF 8 b []))) = decide (a < b) := by
  have va : fromF (bigF 8 a []) 0 = a := fromF_big 8 _ [] (u64_256 a ha)
  have vb : fromF (bigF 8 b []) 0 = b := fromF_big 8 _ [] (u64_256 b hb)
  have h1 := big_head a ha
  have h2 := big_head b hb
  generalize bigF 8 a [] = x at *
  generalize bigF 8 b [] = y at *
  subst va vb
  rcases Nat.lt_trichotomy x.length y.length with h3 | h3 | h3
  · have := fromF_len x y h2 h3
    simp [h3, this]
  · have := less_iff x y h3
    rw [Bool.eq_iff_iff]
    simp [h3, this]
  · have := fromF_len y x h1 h3
    have e1 : ¬ x.length < y.length := by omega
    have e2 : ¬ x.length = y.length := by omega
    have e3 : ¬ fromF x 0 < fromF y 0 := by omega
    simp [e1, e2, e3]

end Go.Proofs.Ytapakjdghgbdlaa

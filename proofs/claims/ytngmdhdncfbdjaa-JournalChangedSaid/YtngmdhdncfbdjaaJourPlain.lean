/- Entries of a journal, their texts, and what a journal reads as: plain functions and their laws. No condition. -/
import Derived.Test.YtngmdhdncfbdjaaTornPlain
namespace Go.Proofs.Ytngmdhdncfbdjaa
open Go.ChangeShapes Go.WideShapes Go.ChangeAt Go.RowKit

/-- kind, token, index, data -/
abbrev Ent := Int × Int × Int × List UInt8
def entV (x : Ent) : List Value := [.int .i64 x.1, .int .i64 x.2.1, .int .i64 x.2.2.1, .string ⟨x.2.2.2.toArray⟩]
def entsV (xs : List Ent) : List Value := xs.flatMap entV
def EntOk (x : Ent) : Prop := I64 x.1 ∧ I64 x.2.1 ∧ I64 x.2.2.1
def validB (x : Ent) : Bool := decide (0 ≤ x.1 ∧ 0 ≤ x.2.1 ∧ 0 ≤ x.2.2.1)
def heads (x : Ent) : List UInt8 := putF 9 x.1.toNat ++ putF 9 x.2.1.toNat ++ putF 9 x.2.2.1.toNat
def fmtE (x : Ent) : List UInt8 := if validB x then heads x ++ x.2.2.2 else []
def ent0 : Ent := (0, 0, 0, [])
/-- the numbers read so far, the rest, and those still to read -/
def parseF : Nat → List Nat → List UInt8 → Option (List Nat × List UInt8)
  | 0, acc, l => some (acc, l)
  | f+1, acc, l => if (getF 0 0 l).2.2 ≠ 0 ∨ 9223372036854775807 < (getF 0 0 l).1 then none else parseF f (acc ++ [(getF 0 0 l).1]) (l.drop (getF 0 0 l).2.1)
def parseE (l : List UInt8) : Ent × Nat :=
  match parseF 3 [] l with
  | some ([a, b, c], r) => ((a, b, c, r), 0)
  | _ => (ent0, 2)
def appendJ (log : List UInt8) (x : Ent) : List UInt8 × Nat :=
  if validB x then (if (frame (fmtE x)).2 = 0 then (log ++ (frame (fmtE x)).1, 0) else ([], (frame (fmtE x)).2)) else ([], 1)
def readJF : Nat → List UInt8 → Nat → List Ent → List Ent × Nat × Nat
  | 0, _, at_, acc => (acc, at_, 0)
  | f+1, l, at_, acc => if l.length ≤ at_ then (acc, at_, 0)
    else if (unframe (l.drop at_)).2.2 = 0 ∧ (parseE (unframe (l.drop at_)).1).2 = 0 then readJF f l (at_ + (unframe (l.drop at_)).2.1) (acc ++ [(parseE (unframe (l.drop at_)).1).1])
    else (acc, at_, 17)
def readJ (l : List UInt8) : List Ent × Nat × Nat := readJF (l.length + 1) l 0 []
def tokenJ (xs : List Ent) : Int := xs.foldl (fun m x => max m x.2.1) 0
def repairJ (l : List UInt8) : List UInt8 := l.take (readJ l).2.1
def writeJ (log : List UInt8) (x : Ent) : List UInt8 × Nat :=
  if validB x then (if x.2.1 < tokenJ (readJ log).1 then ([], 16) else appendJ (log.take (readJ log).2.1) x) else ([], 1)

theorem readJF_done (f : Nat) (l : List UInt8) (p : Nat) (acc : List Ent) (h : l.length ≤ p) : readJF f l p acc = (acc, p, 0) := by
  cases f with
  | zero => rfl
  | succ f => rw [readJF, if_pos h]
theorem unframe_ok (l : List UInt8) (h : (unframe l).2.2 = 0) : 0 < (unframe l).2.1 ∧ (unframe l).2.1 ≤ l.length := by
  unfold unframe at h ⊢
  split at h
  · simp at h
  split at h
  · next h1 => exact absurd h h1
  split at h
  · simp at h
  split at h
  · simp at h
  split at h
  · next h1 h2 h3 h4 h5 =>
    rw [if_neg h1, if_neg h2, if_neg h3, if_neg h4, if_pos h5]
    exact ⟨by show 0 < _ + 4 + _; omega, by show _ + 4 + _ ≤ _; omega⟩
  · simp at h
theorem unframe_len (l : List UInt8) : (unframe l).1.length ≤ l.length := by
  unfold unframe
  split
  · simp
  split
  · simp
  split
  · simp
  split
  · simp
  split
  · exact body_len _ _ _
  · simp

/-! the text of an entry -/
theorem parseF_put (f : Nat) (acc : List Nat) (n : Nat) (r : List UInt8) (hn : n ≤ 9223372036854775807) : parseF (f+1) acc (putF 9 n ++ r) = parseF f (acc ++ [n]) r := by
  rw [parseF]
  have h := put_get0 n (by unfold U64; omega) r
  simp only [h]
  rw [if_neg (by simp; omega), List.drop_left]
theorem parse_fmt (x : Ent) (hx : EntOk x) (hv : validB x = true) : parseE (fmtE x) = (x, 0) := by
  obtain ⟨k, t, i, d⟩ := x
  obtain ⟨h1, h2, h3⟩ := hx
  simp only [I64] at h1 h2 h3
  have hv' := hv
  simp only [validB, decide_eq_true_eq] at hv'
  unfold parseE fmtE heads
  rw [if_pos hv]
  simp only [List.append_assoc]
  rw [parseF_put _ _ _ _ (by omega), parseF_put _ _ _ _ (by omega), parseF_put _ _ _ _ (by omega), parseF]
  simp only [List.nil_append, List.cons_append]
  rw [Int.toNat_of_nonneg hv'.1, Int.toNat_of_nonneg hv'.2.1, Int.toNat_of_nonneg hv'.2.2]
theorem parseF_some : ∀ (f : Nat) (acc : List Nat) (l : List UInt8) (ns : List Nat) (r : List UInt8), parseF f acc l = some (ns, r) →
    ∃ ms, ns = acc ++ ms ∧ ms.length = f ∧ (∀ n ∈ ms, n ≤ 9223372036854775807) ∧ l = ms.flatMap (putF 9) ++ r := by
  intro f
  induction f with
  | zero =>
    intro acc l ns r h
    rw [parseF] at h
    simp only [Option.some.injEq, Prod.mk.injEq] at h
    exact ⟨[], by simp [h.1], rfl, by simp, by simp [h.2]⟩
  | succ f ih =>
    intro acc l ns r h
    rw [parseF] at h
    split at h
    · cases h
    next hc =>
    obtain ⟨ms, h1, h2, h3, h4⟩ := ih _ _ _ _ h
    have h0 : (getF 0 0 l).2.2 = 0 := by
      rcases Nat.eq_zero_or_pos (getF 0 0 l).2.2 with h | h
      · exact h
      · exact absurd (.inl (by omega)) hc
    have hp := get_put0 l h0
    refine ⟨(getF 0 0 l).1 :: ms, by rw [h1]; simp, by simp [h2], ?_, ?_⟩
    · intro n hn
      rcases List.mem_cons.1 hn with rfl | hn
      · exact Nat.le_of_not_lt fun h => hc (.inr h)
      · exact h3 n hn
    · rw [List.flatMap_cons, List.append_assoc, ← h4, hp, List.take_append_drop]
theorem parse_ok (l : List UInt8) (h : (parseE l).2 = 0) : EntOk (parseE l).1 ∧ validB (parseE l).1 = true ∧ fmtE (parseE l).1 = l := by
  unfold parseE at h ⊢
  split at h
  · next a b c r he =>
    obtain ⟨ms, h1, _, h3, h4⟩ := parseF_some _ _ _ _ _ he
    rw [List.nil_append] at h1
    subst h1
    have ha := h3 a (by simp)
    have hb := h3 b (by simp)
    have hc := h3 c (by simp)
    have hv : validB ((a : Int), (b : Int), (c : Int), r) = true := by simp [validB]
    refine ⟨⟨by show I64 (a : Int); unfold I64; omega, by show I64 (b : Int); unfold I64; omega, by show I64 (c : Int); unfold I64; omega⟩, hv, ?_⟩
    rw [fmtE, if_pos hv]
    simp only [heads, Int.toNat_natCast]
    rw [h4]
    simp
  · simp at h
theorem parse_err (l : List UInt8) : (parseE l).2 = 0 ∨ parseE l = (ent0, 2) := by
  unfold parseE
  split
  · exact .inl rfl
  · exact .inr rfl
end Go.Proofs.Ytngmdhdncfbdjaa

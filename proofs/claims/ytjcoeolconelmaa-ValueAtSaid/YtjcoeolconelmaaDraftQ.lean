/- Plain: the types of a draft's schema have small numbers and short lists. No condition. -/
import Derived.Test.YtjcoeolconelmaaOwnT
namespace Go.Proofs.Ytjcoeolconelmaa
open Go.ChangeShapes Go.WideShapes Go.ChangeAt Go.RowKit

theorem initialN_plain (xs : List Nod) (t code : Nat) : I64 (initialN xs t code).1.kind ∧ I64 (initialN xs t code).1.num ∧ I64 (initialN xs t code).1.id ∧ (initialN xs t code).1.str.length ≤ 140737488351232 ∧ (initialN xs t code).1.keys = [] ∧ (initialN xs t code).1.items = [] ∧ (initialN xs t code).1.rest = [] := by
  unfold initialN
  cases xs[t]? with
  | none => simp [val0, Val.kind, Val.num, Val.id, Val.str, Val.keys, Val.items, Val.rest, I64]
  | some x =>
    simp only
    generalize hk : (if kindN x = 8 ∧ keyN xs 0 = none then 7 else kindN x) = k
    have hk9 : 1 ≤ k ∧ k ≤ 9 := by have := kindN_in x; rw [← hk]; split <;> omega
    by_cases h56 : k = 5 ∨ k = 6
    · rw [if_pos h56]; simp [val0, Val.kind, Val.num, Val.id, Val.str, Val.keys, Val.items, Val.rest, I64]
    · rw [if_neg h56]
      have hlo := low_rng x
      have hhi : highN x - lowN x + 1 = (x.b : Int) % 6 + 1 := by unfold highN; omega
      refine ⟨by simp only [Val.kind, I64]; omega, ?_, ?_, ?_, rfl, rfl, rfl⟩
      · simp only [Val.num, I64]
        split
        · rw [hhi]
          have h1 := Int.emod_nonneg (code : Int) (show (x.b : Int) % 6 + 1 ≠ 0 by omega)
          have h2 := Int.emod_lt_of_pos (code : Int) (show 0 < (x.b : Int) % 6 + 1 by omega)
          omega
        · omega
      · simp only [Val.id, I64]
        split
        · have hm : code % (idsN x).length < (idsN x).length := Nat.mod_lt _ (by have := idsN_pos x; omega)
          rw [List.getD_eq_getElem?_getD, List.getElem?_eq_getElem hm]
          have := idsN_mem x _ (List.getElem_mem hm)
          simp only [Option.getD_some]
          omega
        · omega
      · simp only [Val.str]
        split <;> simp
theorem partOf_plain (xs : List Nod) (i : Nat) (rc : Bool) (id : Nat) (hid : id ≤ 12) (h5 : xs.length ≤ 5) (hi : i < xs.length) (p : Prt) (m : Mem) (h : partOf xs i rc id p = some m) : MemPlain m := by
  unfold partOf at h
  cases ht : targetN xs i p.2.1 with
  | none => rw [ht] at h; cases h
  | some t =>
    rw [ht] at h
    have htl := targetN_lt xs i p.2.1 hi t ht
    simp only at h
    split at h
    · injection h with h
      subst h
      have hd : ∀ b : Bool, I64 (if b then initialN xs t (p.2.2 / 4) else (val0, false)).1.kind ∧ I64 (if b then initialN xs t (p.2.2 / 4) else (val0, false)).1.num ∧ I64 (if b then initialN xs t (p.2.2 / 4) else (val0, false)).1.id ∧ (if b then initialN xs t (p.2.2 / 4) else (val0, false)).1.str.length ≤ 140737488351232 ∧ (if b then initialN xs t (p.2.2 / 4) else (val0, false)).1.keys = [] ∧ (if b then initialN xs t (p.2.2 / 4) else (val0, false)).1.items = [] ∧ (if b then initialN xs t (p.2.2 / 4) else (val0, false)).1.rest = [] := by
        intro b
        cases b with
        | true => exact initialN_plain xs t _
        | false => simp [val0, Val.kind, Val.num, Val.id, Val.str, Val.keys, Val.items, Val.rest, I64]
      obtain ⟨d1, d2, d3, d4, d5, d6, d7⟩ := hd (rc && decide (2 ≤ p.2.2 % 4))
      exact ⟨by simp only [I64]; omega, by simp only [I64]; omega, by simp [nm1], d1, d2, d3, d4, d5, d6, d7⟩
    · cases h
theorem partsK_plain (xs : List Nod) (i : Nat) (rc : Bool) (ps : List Prt) (h5 : xs.length ≤ 5) (hi : i < xs.length) (k : Nat) (hk : k ≤ 12) : ∀ m ∈ partsK xs i rc ps k, MemPlain m := by
  induction k with
  | zero => simp [partsK]
  | succ k ih =>
    intro m hm
    rw [partsK] at hm
    rcases List.mem_append.1 hm with h | h
    · exact ih (by omega) m h
    · unfold partFor at h
      cases hf : ps.findSome? (partOf xs i rc (k + 1)) with
      | none => rw [hf] at h; simp at h
      | some m2 =>
        rw [hf] at h
        have : m = m2 := by simpa using h
        subst this
        obtain ⟨p, _, hp⟩ := List.exists_of_findSome?_eq_some hf
        exact partOf_plain xs i rc (k + 1) hk h5 hi p m hp
theorem typN_plain (xs : List Nod) (i : Nat) (x : Nod) (h5 : xs.length ≤ 5) (hi : i < xs.length) : TypPlain (typN xs i x) := by
  have hk := kindN_in x
  have hlo := low_rng x
  have hhi : highN x ≤ 8 ∧ -3 ≤ highN x := by unfold highN; omega
  have hmp := fun rc => partsK_plain xs i rc x.parts h5 hi 12 (Nat.le_refl _)
  have hml := fun rc => partsK_len xs i rc x.parts 12
  have hnl : (if namedB (kindN x) then typName i else []).length ≤ 140737488351232 := by split <;> simp [typName]
  have hc : x.c % xs.length < 5 := by have := Nat.mod_lt x.c (show 0 < xs.length by omega); omega
  have ha : x.a % 4 < 4 := Nat.mod_lt _ (by omega)
  unfold typN
  simp only
  have hb : ∀ t : Typ, t.syms = [] → t.mems = [] → (I64 t.kind ∧ I64 t.low ∧ I64 t.high ∧ I64 t.max ∧ I64 t.key ∧ I64 t.elem) → t.name.length ≤ 140737488351232 → TypPlain t := by
    intro t h1 h2 h3 h4
    exact ⟨h3, h4, by rw [h1, h2]; simp, by rw [h1]; simp, by rw [h2]; simp⟩
  split
  · exact hb _ rfl rfl (by simp only [typ0, I64]; omega) (by simp [typ0])
  split
  · exact hb _ rfl rfl (by simp only [typ0, I64]; omega) (by simp [typ0])
  split
  · refine ⟨by simp only [typ0, I64]; omega, hnl, by have := idsN_pos x; simp [typ0]; omega, ?_, by simp [typ0]⟩
    intro r hr
    obtain ⟨a, ha2, rfl⟩ := List.mem_map.1 hr
    have := idsN_mem x a ha2
    exact ⟨by simp only [I64]; omega, by simp [nm1]⟩
  split
  · exact ⟨by simp only [typ0, I64]; omega, hnl, by have := hml true; simp [typ0, partsN]; omega, by simp [typ0], hmp true⟩
  split
  · split
    · exact hb _ rfl rfl (by simp only [typ0, I64]; omega) hnl
    · exact ⟨by simp only [typ0, I64]; omega, hnl, by have := hml false; simp [typ0, partsN]; omega, by simp [typ0], hmp false⟩
  split
  · exact hb _ rfl rfl (by simp only [typ0, I64]; omega) (by simp [typ0])
  split
  · cases hkn : keyN xs x.b with
    | none => exact hb _ rfl rfl (by simp only [typ0, I64]; omega) (by simp [typ0])
    | some j =>
      have := (keyN_lt xs x.b j hkn).1
      exact hb _ rfl rfl (by simp only [typ0, I64]; omega) (by simp [typ0])
  split
  · exact hb _ rfl rfl (by simp only [typ0, I64]; omega) (by simp [typ0])
  · exact hb _ rfl rfl (by simp only [typ0, I64]; omega) (by simp [typ0])
theorem ofN_len (xs : List Nod) : (ofN xs).length = xs.length := by unfold ofN; simp
theorem ofN_get (xs : List Nod) (k : Nat) (h : k < xs.length) : (ofN xs)[k]'(by rw [ofN_len]; exact h) = typN xs k xs[k] := by unfold ofN; simp
theorem ofN_take (xs : List Nod) (k : Nat) (h : k < xs.length) : (ofN xs).take (k + 1) = (ofN xs).take k ++ [typN xs k xs[k]] := by
  rw [List.take_succ_eq_append_getElem (by rw [ofN_len]; exact h), ofN_get]
end Go.Proofs.Ytjcoeolconelmaa

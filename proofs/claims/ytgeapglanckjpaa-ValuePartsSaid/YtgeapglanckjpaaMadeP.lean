/- Plain: what the types of a draft's schema have, for the maker of values. No condition. -/
import Derived.Test.YtgeapglanckjpaaGS
import Derived.Test.YtgeapglanckjpaaGE
set_option maxHeartbeats 2000000
namespace Go.Proofs.Ytgeapglanckjpaa
open Go.ChangeShapes Go.WideShapes Go.ChangeAt Go.RowKit
theorem ofNl (xs : List Nod) : (ofN xs).length = xs.length := by unfold ofN; simp
theorem ofNg (xs : List Nod) (k : Nat) (h : k < xs.length) : (ofN xs)[k]'(by rw [ofNl]; exact h) = typN xs k xs[k] := by unfold ofN; simp
def Down (ts : List Typ) (i : Nat) (t : Int) : Prop := ∃ j : Nat, t = j ∧ ∃ h : j < ts.length, j < i ∨ 7 ≤ ts[j].kind
structure MakeTyp (ts : List Typ) (i : Nat) (x : Typ) : Prop where
 three : x.kind = 3 → 0 ≤ x.max ∧ x.max ≤ 3
 four : x.kind = 4 → 1 ≤ x.syms.length
 syms : x.syms.length ≤ 6 ∧ ∀ a ∈ x.syms, 1 ≤ a.1 ∧ a.1 ≤ 6
 mems : x.mems.length ≤ 12 ∧ ∀ m ∈ x.mems, (1 ≤ m.id ∧ m.id ≤ 12) ∧ Down ts i m.ty
 six : x.kind = 6 → 1 ≤ x.mems.length
 max : x.kind = 7 ∨ x.kind = 8 → 0 ≤ x.max ∧ x.max ≤ 3
 elem : 7 ≤ x.kind → ∃ j : Nat, x.elem = j ∧ j < ts.length
 key : x.kind = 8 → ∃ j : Nat, x.key = j ∧ ∃ h : j < ts.length, 1 ≤ ts[j].kind ∧ ts[j].kind ≤ 4
theorem partsK_len (xs : List Nod) (i : Nat) (rc : Bool) (ps : List Prt) (k : Nat) : (partsK xs i rc ps k).length ≤ k := by
 induction k with
 | zero => simp [partsK]
 | succ k ih =>
  rw [partsK, List.length_append]
  have : (partFor xs i rc ps (k + 1)).length ≤ 1 := by
   unfold partFor
   cases ps.findSome? (partOf xs i rc (k + 1)) <;> simp
  omega
theorem typN_hollow (xs : List Nod) (i : Nat) (x : Nod) (h : 7 ≤ kindN x) : 7 ≤ (typN xs i x).kind := by
 unfold typN
 have h1 : kindN x ≠ 2 := by omega
 have h2 : kindN x ≠ 3 := by omega
 have h3 : kindN x ≠ 4 := by omega
 have h4 : kindN x ≠ 5 := by omega
 have h5 : kindN x ≠ 6 := by omega
 simp only [h1, h2, h3, h4, h5, if_false]
 by_cases h7 : kindN x = 7
 ·
  simp [h7]
 by_cases h8 : kindN x = 8
 ·
  simp only [h8]
  cases keyN xs x.b <;> simp
 have h9 := (kindN_in x).2
 have h9 : kindN x = 9 := by omega
 simp [h9]
theorem target_down (xs : List Nod) (i c t : Nat) (hi : i < xs.length) (h : targetN xs i c = some t) : Down (ofN xs) i t := by
 have hm : c % xs.length < xs.length := Nat.mod_lt _ (by omega)
 have hk : ∀ j (hj : j < xs.length), hollowN (kindAt xs j) = true → ∃ h : j < (ofN xs).length, 7 ≤ (ofN xs)[j].kind := fun j hj hh => by
  refine ⟨by rw [ofNl]; exact hj, ?_⟩
  rw [ofNg xs j hj]
  rw [kindAt_get xs j hj] at hh
  exact typN_hollow xs j xs[j] (by simpa [hollowN] using hh)
 unfold targetN at h
 split at h
 ·
  next h1 =>
  injection h with h; subst h
  rcases Bool.or_eq_true _ _ ▸ h1 with h2 | h2
  ·
   obtain ⟨h3, h4⟩ := hk _ hm h2
   exact ⟨_, rfl, h3, .inr h4⟩
  exact ⟨_, rfl, by rw [ofNl]; exact hm, .inl (of_decide_eq_true h2)⟩
 split at h
 ·
  next h1 =>
  injection h with h; subst h
  have := Nat.mod_lt (c % xs.length) h1
  exact ⟨_, rfl, by rw [ofNl]; omega, .inl this⟩
 obtain ⟨_, h2, h3⟩ := firstF_some _ _ _ h
 obtain ⟨h4, h5⟩ := hk t (by omega) h3
 exact ⟨_, rfl, h4, .inr h5⟩
theorem partsK_mem (xs : List Nod) (i : Nat) (rc : Bool) (ps : List Prt) (k : Nat) : ∀ m ∈ partsK xs i rc ps k, ∃ (id : Nat) (p : Prt), 1 ≤ id ∧ id ≤ k ∧ p ∈ ps ∧ partOf xs i rc id p = some m := by
 induction k with
 | zero => simp [partsK]
 | succ k ih =>
  intro m hm
  rw [partsK, List.mem_append] at hm
  rcases hm with hm | hm
  ·
   obtain ⟨id, p, h1, h2, h3⟩ := ih m hm
   exact ⟨id, p, h1, by omega, h3⟩
  unfold partFor at hm
  cases h : ps.findSome? (partOf xs i rc (k + 1)) with
  | none => rw [h] at hm; simp at hm
  | some q =>
   rw [h] at hm
   have hq : m = q := by simpa using hm
   subst hq
   obtain ⟨p, hp, h2⟩ := List.exists_of_findSome?_eq_some h
   exact ⟨k + 1, p, by omega, Nat.le_refl _, hp, h2⟩
theorem partOf_down (xs : List Nod) (i : Nat) (hi : i < xs.length) (rc : Bool) (id : Nat) (p : Prt) (m : Mem) (h : partOf xs i rc id p = some m) : m.id = id ∧ Down (ofN xs) i m.ty ∧ (m.hasDef = true → rc = true ∧ ∃ t code, m.ty = (t : Nat) ∧ targetN xs i p.2.1 = some t ∧ initialN xs t code = (m.dflt, true)) := by
 unfold partOf at h
 cases ht : targetN xs i p.2.1 with
 | none => rw [ht] at h; simp at h
 | some t =>
  rw [ht] at h
  simp only at h
  split at h
  ·
   injection h with h
   subst h
   refine ⟨rfl, target_down xs i _ t hi ht, fun hd => ?_⟩
   cases rc with
   | false => simp [val0] at hd
   | true =>
    refine ⟨rfl, t, p.2.2 / 4, rfl, rfl, ?_⟩
    by_cases h2 : 2 ≤ p.2.2 % 4
    ·
     simp only [Bool.true_and, decide_eq_true h2, if_true] at hd ⊢
     exact Prod.ext rfl hd
    simp [h2] at hd
  cases h
theorem typN_make (xs : List Nod) (i : Nat) (hi : i < xs.length) : MakeTyp (ofN xs) i (typN xs i xs[i]) := by
 have hx : ∀ c : Nat, ∃ j : Nat, ((c % xs.length : Nat) : Int) = j ∧ j < (ofN xs).length := fun c => ⟨_, rfl, by rw [ofNl]; exact Nat.mod_lt _ (by omega)⟩
 have hmx : 0 ≤ ((xs[i].a % 4 : Nat) : Int) ∧ ((xs[i].a % 4 : Nat) : Int) ≤ 3 := by omega
 have hp : ∀ rc ps, (partsN xs i rc ps).length ≤ 12 ∧ ∀ m ∈ partsN xs i rc ps, (1 ≤ m.id ∧ m.id ≤ 12) ∧ Down (ofN xs) i m.ty := fun rc ps => ⟨partsK_len xs i rc ps 12, fun m hm => by
  obtain ⟨id, p, h1, h2, _, h3⟩ := partsK_mem xs i rc ps 12 m hm
  obtain ⟨h4, h5, _⟩ := partOf_down xs i hi rc id p m h3
  exact ⟨by omega, h5⟩⟩
 have h0 : ([] : List Mem).length ≤ 12 ∧ ∀ m ∈ ([] : List Mem), (1 ≤ m.id ∧ m.id ≤ 12) ∧ Down (ofN xs) i m.ty := by simp
 have s0 : ([] : List (Int × List UInt8)).length ≤ 6 ∧ ∀ a ∈ ([] : List (Int × List UInt8)), 1 ≤ a.1 ∧ a.1 ≤ 6 := by simp
 unfold typN
 simp only
 split
 ·
  exact ⟨by simp, by simp, s0, h0, by simp, by simp, by simp, by simp⟩
 split
 ·
  exact ⟨fun _ => hmx, by simp, s0, h0, by simp, by simp, by simp, by simp⟩
 split
 ·
  refine ⟨by simp, fun _ => ?_, ⟨?_, ?_⟩, h0, by simp, by simp, by simp, by simp⟩
  ·
   simpa using (idsN_pos xs[i]).1
  ·
   simpa using (idsN_pos xs[i]).2
  intro a ha
  simp only [List.mem_map] at ha
  obtain ⟨b, hb, rfl⟩ := ha
  exact idsN_mem _ b hb
 split
 ·
  exact ⟨by simp, by simp, s0, hp _ _, by simp, by simp, by simp, by simp⟩
 split
 ·
  split
  ·
   exact ⟨by simp, by simp, s0, h0, by simp, by simp, by simp, by simp⟩
  next he =>
  refine ⟨by simp, by simp, s0, hp _ _, fun _ => ?_, by simp, by simp, by simp⟩
  cases hq : partsN xs i false xs[i].parts with
  | nil => rw [hq] at he; simp at he
  | cons a r => simp
 split
 ·
  exact ⟨by simp, by simp, s0, h0, by simp, fun _ => hmx, fun _ => hx _, by simp⟩
 split
 ·
  cases hk : keyN xs xs[i].b with
  | none => exact ⟨by simp, by simp, s0, h0, by simp, fun _ => hmx, fun _ => hx _, by simp⟩
  | some j =>
   obtain ⟨h1, h2⟩ := keyN_lt xs _ j hk
   refine ⟨by simp, by simp, s0, h0, by simp, fun _ => hmx, fun _ => hx _, fun _ => ⟨j, rfl, by rw [ofNl]; exact h1, ?_⟩⟩
   rw [ofNg xs j h1]
   rw [kindAt_get xs j h1] at h2
   have h3 : 1 ≤ kindN xs[j] ∧ kindN xs[j] ≤ 4 := by simpa [keyKindN] using h2
   have h4 : kindN xs[j] = 1 ∨ kindN xs[j] = 2 ∨ kindN xs[j] = 3 ∨ kindN xs[j] = 4 := by omega
   rcases h4 with h4 | h4 | h4 | h4 <;> simp [typN, h4]
 split
 ·
  exact ⟨by simp, by simp, s0, h0, by simp, by simp, fun _ => hx _, by simp⟩
 exact ⟨by simp, by simp, s0, h0, by simp, by simp, by simp, by simp⟩
theorem firstF_none {p : Nat → Bool} : ∀ (f k : Nat), firstF p f k = none → ∀ j, k ≤ j → j < k + f → p j = false := by
 intro f
 induction f with
 | zero => intro k _ j h1 h2; omega
 | succ f ih =>
  intro k h j h1 h2
  rw [firstF] at h
  split at h
  ·
   cases h
  next hp =>
  rcases Nat.eq_or_lt_of_le h1 with h3 | h3
  ·
   subst h3; simpa using hp
  exact ih (k + 1) h j (by omega) (by omega)
theorem keyN_none (xs : List Nod) (c d : Nat) (h : keyN xs c = none) : keyN xs d = none := by
 cases hd : keyN xs d with
 | none => rfl
 | some j =>
  obtain ⟨h1, h2⟩ := keyN_lt xs d j hd
  unfold keyN at h
  have h3 : firstF (fun k => keyKindN (kindAt xs (keyPlace xs c k))) xs.length 0 = none := by
   cases hq : firstF (fun k => keyKindN (kindAt xs (keyPlace xs c k))) xs.length 0 with
   | none => rfl
   | some q => rw [hq] at h; simp at h
  have h4 := firstF_none _ _ h3 ((j + xs.length - c % xs.length) % xs.length) (Nat.zero_le _) (by have := Nat.mod_lt (j + xs.length - c % xs.length) (show 0 < xs.length by omega); omega)
  have h5 : keyPlace xs c ((j + xs.length - c % xs.length) % xs.length) = j := by
   have hc := Nat.mod_lt c (show 0 < xs.length by omega)
   unfold keyPlace
   rw [Nat.add_mod, Nat.mod_mod, ← Nat.add_mod_mod, Nat.mod_mod]
   rw [show c % xs.length + (j + xs.length - c % xs.length) % xs.length = c % xs.length + (j + xs.length - c % xs.length) % xs.length from rfl, Nat.add_mod_mod, show c % xs.length + (j + xs.length - c % xs.length) = j + xs.length by omega, Nat.add_mod_right, Nat.mod_eq_of_lt h1]
  simp only [h5, h2] at h4
  cases h4
theorem idxF_mem (a : Int) : ∀ (l : List Int) (k : Nat), a ∈ l → (idxF l a k).isSome = true
 | [], _, h => by simp at h
 | b :: r, k, h => by
  rw [idxF_cons]
  split
  ·
   rfl
  next hb =>
  rcases List.mem_cons.1 h with h | h
  ·
   exact absurd h.symm hb
  exact idxF_mem a r (k + 1) h
theorem idxF_not (a : Int) : ∀ (l : List Int) (k : Nat), a ∉ l → idxF l a k = none
 | [], _, _ => rfl
 | b :: r, k, h => by
  rw [idxF_cons, if_neg (fun e => h (by rw [e]; exact List.mem_cons_self)), idxF_not a r (k + 1) (fun e => h (List.mem_cons_of_mem _ e))]
theorem MakeTyp.free {ts : List Typ} {i : Nat} {x : Typ} (h : MakeTyp ts i x) (n : Int) (hn : 13 ≤ n) : memIdx x n = none ∧ symIdx x n = none := by
 refine ⟨idxF_not _ _ _ fun hm => ?_, idxF_not _ _ _ fun hm => ?_⟩
 ·
  obtain ⟨m, hm, e⟩ := List.mem_map.1 hm
  have := (h.mems.2 m hm).1; omega
 obtain ⟨m, hm, e⟩ := List.mem_map.1 hm
 have := h.syms.2 m hm; omega
theorem typAt_of (xs : List Nod) (t : Nat) (ht : t < xs.length) : typAt (ofN xs) (t : Nat) = some (typN xs t xs[t]) := by
 unfold typAt
 rw [if_pos (by omega), Int.toNat_natCast, List.getElem?_eq_getElem (by rw [ofNl]; exact ht), ofNg xs t ht]
theorem initial_fit (xs : List Nod) (t code : Nat) (d : Val) (ht : t < xs.length) (h : initialN xs t code = (d, true)) : fitV (ofN xs) true d (t : Nat) = true := by
 rw [fitV_eq, typAt_of xs t ht]
 unfold initialN at h
 rw [List.getElem?_eq_getElem ht] at h
 simp only at h
 have hkn := kindN_in xs[t]
 have hkk : kindN xs[t] = 1 ∨ kindN xs[t] = 2 ∨ kindN xs[t] = 3 ∨ kindN xs[t] = 4 ∨ kindN xs[t] = 5 ∨ kindN xs[t] = 6 ∨ kindN xs[t] = 7 ∨ kindN xs[t] = 8 ∨ kindN xs[t] = 9 := by omega
 rcases hkk with hk | hk | hk | hk | hk | hk | hk | hk | hk
 ·
  simp [hk] at h; subst h; simp [typN, hk, properB, bodyR, Val.kind, Val.bool, Val.num, Val.str, Val.id, Val.keys, Val.items, Val.rest]
 ·
  simp [hk] at h; subst h
  have h1 : highN xs[t] - lowN xs[t] + 1 > 0 := by unfold highN; omega
  have h2 := Int.emod_nonneg (code : Int) (show highN xs[t] - lowN xs[t] + 1 ≠ 0 by omega)
  have h3 := Int.emod_lt_of_pos (code : Int) h1
  simp [typN, hk, properB, bodyR, Val.kind, Val.bool, Val.num, Val.str, Val.id, Val.keys, Val.items, Val.rest]
  omega
 ·
  simp [hk] at h; subst h
  simp [typN, hk, properB, bodyR, Val.kind, Val.bool, Val.num, Val.str, Val.id, Val.keys, Val.items, Val.rest]
  split <;> simp <;> omega
 ·
  simp [hk] at h; subst h
  have hl := (idsN_pos xs[t]).1
  have hlt := Nat.mod_lt code (show 0 < (idsN xs[t]).length by omega)
  have hm : (idsN xs[t])[code % (idsN xs[t]).length] ∈ idsN xs[t] := List.getElem_mem hlt
  have hs := idxF_mem _ _ 0 hm
  simp [typN, hk, properB, bodyR, symIdx, Val.kind, Val.bool, Val.num, Val.str, Val.id, Val.keys, Val.items, Val.rest]
  have hc : (Prod.fst ∘ fun a => (a, nm1 115 a)) = (id : Int → Int) := rfl
  rw [hc, List.map_id, List.getElem?_eq_getElem hlt]
  exact hs
 ·
  simp [hk] at h
 ·
  simp [hk] at h
 ·
  simp [hk] at h; subst h; simp [typN, hk, properB, bodyR, fitL_all, Val.kind, Val.bool, Val.num, Val.str, Val.id, Val.keys, Val.items, Val.rest]; omega
 ·
  cases h0 : keyN xs 0 with
  | none =>
   have hb := keyN_none xs 0 xs[t].b h0
   simp [hk, h0] at h; subst h
   simp [typN, hk, hb, properB, bodyR, fitL_all, Val.kind, Val.bool, Val.num, Val.str, Val.id, Val.keys, Val.items, Val.rest]; omega
  | some q =>
   cases hb : keyN xs xs[t].b with
   | none => rw [keyN_none xs _ 0 hb] at h0; cases h0
   | some j =>
    simp [hk, h0] at h; subst h
    simp [typN, hk, hb, properB, bodyR, fitL_all, ascB, Val.kind, Val.bool, Val.num, Val.str, Val.id, Val.keys, Val.items, Val.rest]; omega
 simp [hk] at h; subst h; simp [typN, hk, properB, bodyR, fitL_all, Val.kind, Val.bool, Val.num, Val.str, Val.id, Val.keys, Val.items, Val.rest]
theorem typN_dflt (xs : List Nod) (i : Nat) (hi : i < xs.length) : ∀ m ∈ (typN xs i xs[i]).mems, m.hasDef = true → fitV (ofN xs) true m.dflt m.ty = true := by
 intro m hm hd
 have hp : ∀ rc ps, m ∈ partsN xs i rc ps → fitV (ofN xs) true m.dflt m.ty = true := fun rc ps hm => by
  obtain ⟨id, p, _, _, _, h3⟩ := partsK_mem xs i rc ps 12 m hm
  obtain ⟨_, ⟨j, hj, hjl, _⟩, h6⟩ := partOf_down xs i hi rc id p m h3
  obtain ⟨_, t, code, h7, _, h8⟩ := h6 hd
  have : t < xs.length := by rw [ofNl] at hjl; omega
  rw [h7]
  exact initial_fit xs t code _ this h8
 unfold typN at hm
 simp only at hm
 repeat' split at hm
 all_goals first
  | (exfalso; simp [typ0] at hm; done)
  | exact hp _ _ hm
theorem typN_two (xs : List Nod) (i : Nat) (x : Nod) (h : (typN xs i x).kind = 2) : -3 ≤ (typN xs i x).low ∧ (typN xs i x).low ≤ (typN xs i x).high ∧ (typN xs i x).high ≤ 8 := by
 have hl := low_rng x
 by_cases h2 : kindN x = 2
 ·
  simp only [typN, h2, if_true]
  unfold highN
  omega
 exfalso
 unfold typN at h
 simp only [h2, if_false] at h
 repeat' split at h
 all_goals simp at h
end Go.Proofs.Ytgeapglanckjpaa

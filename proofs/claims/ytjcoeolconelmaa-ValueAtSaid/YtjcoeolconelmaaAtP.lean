/- The part at a path: a plain function; that each part fits its type. No condition. -/
import Derived.Test.YtjcoeolconelmaaFitP
import Derived.Test.YtjcoeolconelmaaFresh
namespace Go.Proofs.Ytjcoeolconelmaa
open Go.ChangeShapes Go.WideShapes Go.ChangeAt Go.RowKit

/-- one step of a path -/
def stepV (x : Typ) (v : Val) (p : Int) : Option (Val × Int) :=
  if x.kind = 5 then
    match memIdx x p with
    | none => none
    | some k => match x.mems[k]?, v.items[k]? with
      | some m, some y => some (y, m.ty)
      | _, _ => none
  else if x.kind = 6 then
    match memIdx x p with
    | none => none
    | some k => if p = v.id then (match x.mems[k]?, v.items[0]? with
      | some m, some y => some (y, m.ty)
      | _, _ => none) else none
  else if 0 ≤ p then (match v.items[p.toNat]? with
    | some y => some (y, x.elem)
    | none => none) else none
def atV (ts : List Typ) : List Int → Val → Int → Option (Val × Int)
  | [], v, t => some (v, t)
  | p :: r, v, t => match typAt ts t with
    | none => none
    | some x => match stepV x v p with
      | none => none
      | some q => atV ts r q.1 q.2
theorem atV_cons (ts : List Typ) (p : Int) (r : List Int) (v : Val) (t : Int) (x : Typ) (h : typAt ts t = some x) : atV ts (p :: r) v t = match stepV x v p with | none => none | some q => atV ts r q.1 q.2 := by
  rw [atV, h]
theorem step5_none (x : Typ) (v : Val) (p : Int) (h5 : x.kind = 5) (hm : memIdx x p = none) : stepV x v p = none := by unfold stepV; rw [if_pos h5, hm]
theorem step5_some (x : Typ) (v : Val) (p : Int) (i : Nat) (h5 : x.kind = 5) (hm : memIdx x p = some i) (h1 : i < x.mems.length) (h2 : i < v.items.length) : stepV x v p = some (v.items[i], x.mems[i].ty) := by
  unfold stepV; rw [if_pos h5, hm]; simp [h1, h2]
theorem step5_out (x : Typ) (v : Val) (p : Int) (i : Nat) (h5 : x.kind = 5) (hm : memIdx x p = some i) (h2 : ¬ i < v.items.length) : stepV x v p = none := by
  unfold stepV; rw [if_pos h5, hm]
  have h3 : v.items[i]? = none := List.getElem?_eq_none (by omega)
  simp [h3]
theorem step6_none (x : Typ) (v : Val) (p : Int) (h6 : x.kind = 6) (hm : memIdx x p = none) : stepV x v p = none := by unfold stepV; rw [if_neg (by omega), if_pos h6, hm]
theorem step6_ne (x : Typ) (v : Val) (p : Int) (h6 : x.kind = 6) (hne : p ≠ v.id) : stepV x v p = none := by
  unfold stepV; rw [if_neg (by omega), if_pos h6]
  cases memIdx x p with
  | none => rfl
  | some i => simp [hne]
theorem step6_some (x : Typ) (v : Val) (p : Int) (i : Nat) (h6 : x.kind = 6) (hm : memIdx x p = some i) (hp : p = v.id) (h1 : i < x.mems.length) (h2 : 0 < v.items.length) : stepV x v p = some (v.items[0], x.mems[i].ty) := by
  unfold stepV; rw [if_neg (by omega), if_pos h6, hm]; simp [h1, h2, hp]
theorem step6_out (x : Typ) (v : Val) (p : Int) (h6 : x.kind = 6) (h2 : ¬ 0 < v.items.length) : stepV x v p = none := by
  unfold stepV; rw [if_neg (by omega), if_pos h6]
  have h3 : v.items[0]? = none := List.getElem?_eq_none (by omega)
  cases memIdx x p with
  | none => rfl
  | some i => simp [h3]
theorem step7_some (x : Typ) (v : Val) (i : Nat) (h5 : ¬ x.kind = 5) (h6 : ¬ x.kind = 6) (h2 : i < v.items.length) : stepV x v i = some (v.items[i], x.elem) := by
  unfold stepV; rw [if_neg h5, if_neg h6]; simp [h2]
theorem step7_neg (x : Typ) (v : Val) (p : Int) (h5 : ¬ x.kind = 5) (h6 : ¬ x.kind = 6) (h2 : p < 0) : stepV x v p = none := by
  unfold stepV; rw [if_neg h5, if_neg h6, if_neg (by omega)]
theorem step7_out (x : Typ) (v : Val) (i : Nat) (h5 : ¬ x.kind = 5) (h6 : ¬ x.kind = 6) (h2 : ¬ i < v.items.length) : stepV x v i = none := by
  unfold stepV; rw [if_neg h5, if_neg h6]
  have h3 : v.items[i]? = none := List.getElem?_eq_none (by omega)
  simp [h3]
theorem fitL_get (ts : List Typ) (pl : Bool) (t : Int) (l : List Val) (h : fitL ts pl l t = true) (k : Nat) (y : Val) (hy : l[k]? = some y) : fitV ts pl y t = true := by
  rw [fitL_all, List.all_eq_true] at h
  exact h y (List.mem_of_getElem? hy)
theorem fitZ_get (ts : List Typ) (pl : Bool) : ∀ (l : List Val) (ms : List Mem), fitZ ts pl l ms = true → ∀ (k : Nat) (y : Val) (m : Mem), l[k]? = some y → ms[k]? = some m → fitV ts pl y m.ty = true
  | [], _, _, k, y, m, h, _ => by simp at h
  | _ :: _, [], _, k, y, m, _, h => by simp at h
  | a :: r, b :: ms, h, k, y, m, h1, h2 => by
    rw [fitZ, Bool.and_eq_true] at h
    cases k with
    | zero =>
      simp only [List.getElem?_cons_zero, Option.some.injEq] at h1 h2
      subst h1; subst h2; exact h.1
    | succ k =>
      simp only [List.getElem?_cons_succ] at h1 h2
      exact fitZ_get ts pl r ms h.2 k y m h1 h2
theorem fit_parts (ts : List Typ) (pl : Bool) (v : Val) (t : Int) (x : Typ) (h : fitV ts pl v t = true) (hx : typAt ts t = some x) : v.kind = x.kind ∧ properB v = true ∧ bodyV ts pl x v = true := by
  rw [fitV_eq, hx] at h
  simp only [Bool.and_eq_true, decide_eq_true_eq] at h
  exact h
theorem proper_items (v : Val) (h : properB v = true) (hk : v.kind < 5) : v.items = [] := by
  simp only [properB, Bool.and_eq_true, Bool.or_eq_true, decide_eq_true_eq] at h
  have h1 := h.2.2.2.2.2.1
  rcases h1 with h1 | h1
  · omega
  · exact List.eq_nil_of_length_eq_zero h1
theorem step_fit (ts : List Typ) (pl : Bool) (v : Val) (t : Int) (x : Typ) (p : Int) (y : Val) (u : Int) (hk : 1 ≤ x.kind ∧ x.kind ≤ 9) (h : fitV ts pl v t = true) (hx : typAt ts t = some x) (hs : stepV x v p = some (y, u)) : fitV ts pl y u = true := by
  obtain ⟨hkk, hp, hb⟩ := fit_parts ts pl v t x h hx
  unfold stepV at hs
  unfold bodyV bodyR at hb
  split at hs
  · next h5 =>
    simp only [h5] at hb
    simp only [show ¬(5 : Int) = 2 by omega, show ¬(5 : Int) = 3 by omega, show ¬(5 : Int) = 4 by omega, if_false, if_true, Bool.and_eq_true] at hb
    split at hs
    · cases hs
    · split at hs
      · next k _ m z h1 h2 =>
        injection hs with hs; injection hs with e1 e2; subst e1; subst e2
        exact fitZ_get ts pl _ _ hb.2.2.2 _ _ _ h2 h1
      · cases hs
  · split at hs
    · next h6 =>
      simp only [h6] at hb
      simp only [show ¬(6 : Int) = 2 by omega, show ¬(6 : Int) = 3 by omega, show ¬(6 : Int) = 4 by omega, show ¬(6 : Int) = 5 by omega, if_false, if_true] at hb
      split at hs
      · cases hs
      · next k hm =>
        split at hs
        · next hpv =>
          subst hpv
          split at hs
          · next m z h1 h2 =>
            injection hs with hs; injection hs with e1 e2; subst e1; subst e2
            rw [hm] at hb
            simp only [h1, Bool.and_eq_true] at hb
            have h3 := hb.2.2
            cases hi : v.items with
            | nil => rw [hi] at h2; simp at h2
            | cons a r =>
              rw [hi] at h2 h3
              simp only [List.getElem?_cons_zero, Option.some.injEq] at h2
              subst h2
              rwa [fitH] at h3
          · cases hs
        · cases hs
    · next h5 h6 =>
      split at hs
      · split at hs
        · next z h1 =>
          injection hs with hs; injection hs with e1 e2; subst e1; subst e2
          by_cases h4 : x.kind < 5
          · rw [proper_items v hp (by omega)] at h1
            simp at h1
          · rw [if_neg (by omega), if_neg (by omega), if_neg (by omega), if_neg h5, if_neg h6] at hb
            have h3 : fitL ts pl v.items x.elem = true := by
              split at hb
              · simp only [Bool.and_eq_true] at hb; exact hb.2
              · split at hb
                · simp only [Bool.and_eq_true] at hb; exact hb.2.2.2.2
                · rw [if_pos (by omega)] at hb
                  simp only [Bool.and_eq_true] at hb; exact hb.2
            exact fitL_get ts pl _ _ h3 _ _ h1
        · cases hs
      · cases hs
theorem step_mem (x : Typ) (v : Val) (p : Int) (y : Val) (u : Int) (hs : stepV x v p = some (y, u)) : y ∈ v.items := by
  unfold stepV at hs
  split at hs
  · split at hs
    · cases hs
    · split at hs
      · next h2 => injection hs with hs; injection hs with e1 e2; subst e1; exact List.mem_of_getElem? h2
      · cases hs
  · split at hs
    · split at hs
      · cases hs
      · split at hs
        · split at hs
          · next h2 => injection hs with hs; injection hs with e1 e2; subst e1; exact List.mem_of_getElem? h2
          · cases hs
        · cases hs
    · split at hs
      · split at hs
        · next h2 => injection hs with hs; injection hs with e1 e2; subst e1; exact List.mem_of_getElem? h2
        · cases hs
      · cases hs
theorem step_wt (x : Typ) (v : Val) (p : Int) (y : Val) (u : Int) (hs : stepV x v p = some (y, u)) : wt y ≤ wt v := by
  have h1 := wtL_mem v.items y (step_mem x v p y u hs)
  have h2 := wt_eq v
  omega
/-- what At returns -/
def atE (ts : List Typ) (path : List Int) (v : Val) (t : Int) : Except Int (Val × Int) :=
  if fitV ts false v t then (match atV ts path v t with
    | some r => .ok r
    | none => .error 4) else .error 1
def AtPost (w : World) (r : Except Int (Val × Int)) (e : Ending) (w' : World) : Prop :=
  match r with
  | .ok q => (∃ vk vi vr, e = .returned (.tuple #[valA q.1 vk vi vr, .int .i64 q.2, .int .i64 0]) ∧ ValAt w' w'.heap.size q.1 vk vi vr) ∧ Below w.heap.size w w'
  | .error n => e = .returned (.tuple #[.agg #[.int .i64 0, .bool false, .int .i64 0, .string ⟨#[]⟩, .int .i64 0, .slice none 0 0, .slice none 0 0, .slice none 0 0], .int .i64 0, .int .i64 n]) ∧ Below w.heap.size w w'
end Go.Proofs.Ytjcoeolconelmaa

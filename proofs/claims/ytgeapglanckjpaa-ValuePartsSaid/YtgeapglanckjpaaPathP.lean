/- Plain: the paths of the parts of a value; where they lead, and that a path may be continued. No condition. -/
import Derived.Test.YtgeapglanckjpaaGE
namespace Go.Proofs.Ytgeapglanckjpaa
open Go.ChangeShapes Go.WideShapes Go.ChangeAt Go.RowKit
def kidT (x : Typ) (id : Int) (i : Nat) : Int := if x.kind = 5 then (x.mems[i]?.map Mem.ty).getD 0 else if x.kind = 6 then ((memIdx x id).bind fun k => x.mems[k]?.map Mem.ty).getD 0 else x.elem
def kidN (x : Typ) (id : Int) (i : Nat) : Int := if x.kind = 5 then (x.mems[i]?.map Mem.id).getD 0 else if x.kind = 6 then id else i
mutual
def pathsV (ts : List Typ) : Val → Int → List (List Int)
 | .mk _ _ _ _ id _ is _, t => [] :: (match typAt ts t with | none => [] | some x => pathsL ts x id is 0)
def pathsL (ts : List Typ) (x : Typ) (id : Int) : List Val → Nat → List (List Int)
 | [], _ => []
 | y :: r, i => (pathsV ts y (kidT x id i)).map (fun q => kidN x id i :: q) ++ pathsL ts x id r (i + 1)
end
theorem pathsV_eq (ts : List Typ) (v : Val) (t : Int) : pathsV ts v t = [] :: (match typAt ts t with | none => [] | some x => pathsL ts x v.id v.items 0) := by
 cases v; rw [pathsV]; rfl
theorem pathsL_mem (ts : List Typ) (x : Typ) (id : Int) (p : List Int) : ∀ (l : List Val) (k : Nat), p ∈ pathsL ts x id l k → ∃ (i : Nat) (h : i < l.length) (q : List Int), q ∈ pathsV ts l[i] (kidT x id (k + i)) ∧ p = kidN x id (k + i) :: q
 | [], k, h => by rw [pathsL] at h; cases h
 | y :: r, k, h => by
  rw [pathsL, List.mem_append, List.mem_map] at h
  rcases h with ⟨q, hq, rfl⟩ | h
  ·
   exact ⟨0, by simp, q, hq, rfl⟩
  obtain ⟨i, hi, q, hq, hp⟩ := pathsL_mem ts x id p r (k + 1) h
  have e : k + 1 + i = k + (i + 1) := by omega
  rw [e] at hq hp
  exact ⟨i + 1, by simpa using hi, q, by simpa using hq, hp⟩
theorem atV_app (ts : List Typ) (q : List Int) : ∀ (p : List Int) (v : Val) (t : Int), atV ts (p ++ q) v t = match atV ts p v t with | none => none | some r => atV ts q r.1 r.2
 | [], v, t => by rw [List.nil_append, atV]
 | n :: p, v, t => by
  rw [List.cons_append, atV, atV]
  cases typAt ts t with
  | none => rfl
  | some x =>
   simp only
   cases stepV x v n with
   | none => rfl
   | some r => exact atV_app ts q p r.1 r.2
theorem idxF_val (id : Int) : ∀ (l : List Int) (k j : Nat), idxF l id k = some j → l[j - k]? = some id
 | [], _, _, h => by cases h
 | a :: r, k, j, h => by
  have hb := idxF_lt (a :: r) id k j h
  rw [idxF_cons] at h
  by_cases e : a = id
  ·
   rw [if_pos e] at h
   injection h with h
   subst h e
   simp
  rw [if_neg e] at h
  have h1 := idxF_lt r id (k + 1) j h
  have h2 := idxF_val id r (k + 1) j h
  rw [show j - k = (j - (k + 1)) + 1 by omega, List.getElem?_cons_succ]
  exact h2
theorem memIdx_id (x : Typ) (id : Int) (k : Nat) (h : memIdx x id = some k) (hk : k < x.mems.length) : x.mems[k].id = id := by
 have := idxF_val id (x.mems.map Mem.id) 0 k h
 rw [Nat.sub_zero, List.getElem?_map, List.getElem?_eq_getElem hk] at this
 simpa using this
structure PathTyps (ts : List Typ) : Prop where
 kinds : ∀ x ∈ ts, 1 ≤ x.kind ∧ x.kind ≤ 9
 nodup : ∀ x ∈ ts, ∀ (k : Nat) (h : k < x.mems.length), memIdx x x.mems[k].id = some k
 small : ∀ x ∈ ts, ∀ m ∈ x.mems, 0 ≤ m.id ∧ m.id ≤ 1000
theorem typAt_mem {ts : List Typ} {t : Int} {x : Typ} (h : typAt ts t = some x) : x ∈ ts := by
 unfold typAt at h
 split at h
 ·
  exact List.mem_of_getElem? h
 cases h
theorem kid_step (ts : List Typ) (hP : PathTyps ts) (v : Val) (t : Int) (x : Typ) (hx : typAt ts t = some x) (hf : fitV ts false v t = true) (i : Nat) (hi : i < v.items.length) :
  stepV x v (kidN x v.id i) = some (v.items[i], kidT x v.id i) ∧ 0 ≤ kidN x v.id i ∧ (kidN x v.id i ≤ 1000 ∨ kidN x v.id i = i) := by
 obtain ⟨hk, hp, hb⟩ := fit_parts ts false v t x hf hx
 have hm := typAt_mem hx
 by_cases h5 : x.kind = 5
 ·
  have hl : v.items.length = x.mems.length := by
   simp only [bodyV, bodyR, h5] at hb
   simp at hb
   exact hb.1
  have hi2 : i < x.mems.length := by omega
  have e1 : kidN x v.id i = x.mems[i].id := by simp [kidN, h5, hi2]
  have e2 : kidT x v.id i = x.mems[i].ty := by simp [kidT, h5, hi2]
  rw [e1, e2]
  have := hP.small x hm _ (List.getElem_mem hi2)
  exact ⟨step5_some x v _ i h5 (hP.nodup x hm i hi2) hi2 hi, this.1, .inl this.2⟩
 by_cases h6 : x.kind = 6
 ·
  have e1 : kidN x v.id i = v.id := by simp [kidN, h6]
  simp only [bodyV, bodyR, h6] at hb
  simp at hb
  cases hmi : memIdx x v.id with
  | none =>
   rw [hmi] at hb
   simp at hb
   obtain ⟨_, _, hz, _⟩ := hb
   rw [hz] at hi; simp at hi
  | some k =>
   rw [hmi] at hb
   simp at hb
   have h1 : v.items.length = 1 := hb.1
   have hk2 := memIdx_lt x v.id k hmi
   obtain rfl : i = 0 := by omega
   have e2 : kidT x v.id 0 = x.mems[k].ty := by simp [kidT, h6, hmi, hk2]
   rw [e1, e2]
   refine ⟨step6_some x v _ k h6 hmi rfl hk2 hi, ?_⟩
   have hs := hP.small x hm _ (List.getElem_mem hk2)
   have he := memIdx_id x v.id k hmi hk2
   rw [he] at hs
   exact ⟨hs.1, .inl hs.2⟩
 have e1 : kidN x v.id i = i := by simp [kidN, h5, h6]
 have e2 : kidT x v.id i = x.elem := by simp [kidT, h5, h6]
 rw [e1, e2]
 exact ⟨step7_some x v i h5 h6 hi, by omega, .inr rfl⟩
theorem paths_at (ts : List Typ) (hP : PathTyps ts) : ∀ (N : Nat) (v : Val) (t : Int), nodes v ≤ N → fitV ts false v t = true → ∀ p ∈ pathsV ts v t,
  (∃ y j, atV ts p v t = some (y, j) ∧ fitV ts false y j = true) ∧ (∀ n ∈ p, 0 ≤ n ∧ n ≤ 1000 + (N : Int)) ∧ p.length ≤ N
 | 0, v, _, hN, _, _, _ => by have := nodes_pos v; omega
 | N + 1, v, t, hN, hf, p, hp => by
  rw [pathsV_eq] at hp
  rcases List.mem_cons.1 hp with rfl | hp
  ·
   exact ⟨⟨v, t, by rw [atV], hf⟩, by simp, by simp⟩
  cases hx : typAt ts t with
  | none => rw [hx] at hp; cases hp
  | some x =>
   rw [hx] at hp
   obtain ⟨i, hi, q, hq, rfl⟩ := pathsL_mem ts x v.id p v.items 0 hp
   rw [Nat.zero_add] at hq ⊢
   obtain ⟨hs, hn1, hn2⟩ := kid_step ts hP v t x hx hf i hi
   have hfy := step_fit ts false v t x _ _ _ (hP.kinds x (typAt_mem hx)) hf hx hs
   have hny := nodesL_mem v.items v.items[i] (List.getElem_mem hi)
   have hnl := nodesL_len v.items
   have hnv : 1 + nodesL v.items ≤ nodes v := by cases v; rw [nodes]; simp only [Val.items]; omega
   obtain ⟨⟨y, j, h1, h2⟩, h3, h4⟩ := paths_at ts hP N v.items[i] _ (by omega) hfy q hq
   refine ⟨⟨y, j, by rw [atV_cons ts _ q v t x hx, hs]; exact h1, h2⟩, fun n hn => ?_, by simp; omega⟩
   rcases List.mem_cons.1 hn with rfl | hn
   ·
    refine ⟨hn1, ?_⟩
    rcases hn2 with hn2 | hn2
    ·
     omega
    rw [hn2]; omega
   have := h3 n hn; omega
theorem paths_cut (ts : List Typ) (p : List Int) (k : Nat) (v : Val) (t : Int) (y : Val) (j : Int) (h : atV ts p v t = some (y, j)) : ∃ z i, atV ts (p.take k) v t = some (z, i) ∧ atV ts (p.drop k) z i = some (y, j) := by
 have h2 : atV ts (p.take k ++ p.drop k) v t = some (y, j) := by rw [List.take_append_drop]; exact h
 rw [atV_app] at h2
 cases hq : atV ts (p.take k) v t with
 | none => rw [hq] at h2; cases h2
 | some r => rw [hq] at h2; exact ⟨r.1, r.2, rfl, h2⟩
theorem at_fits (ts : List Typ) (hP : PathTyps ts) : ∀ (p : List Int) (v : Val) (t : Int) (z : Val) (i : Int), fitV ts false v t = true → atV ts p v t = some (z, i) → fitV ts false z i = true ∧ wt z ≤ wt v
 | [], v, t, z, i, hf, h => by
  rw [atV] at h
  injection h with h; injection h with h1 h2
  subst h1 h2
  exact ⟨hf, Nat.le_refl _⟩
 | n :: p, v, t, z, i, hf, h => by
  rw [atV] at h
  cases hx : typAt ts t with
  | none => rw [hx] at h; cases h
  | some x =>
   rw [hx] at h
   simp only at h
   cases hs : stepV x v n with
   | none => rw [hs] at h; cases h
   | some r =>
    rw [hs] at h
    have h1 := step_fit ts false v t x n r.1 r.2 (hP.kinds x (typAt_mem hx)) hf hx hs
    have h2 := step_wt x v n r.1 r.2 hs
    obtain ⟨h3, h4⟩ := at_fits ts hP p r.1 r.2 z i h1 h
    exact ⟨h3, by omega⟩
end Go.Proofs.Ytgeapglanckjpaa

/- Values all of whose parts lie in blocks of a set; how much a value holds; rows that a call owns, read as rows. No condition. -/
import Derived.Test.YtjcoeolconelmaaValS
namespace Go.Proofs.Ytjcoeolconelmaa
open Go.ChangeShapes Go.WideShapes Go.ChangeAt Go.RowKit

mutual
/-- how many values and unknown parts a value holds -/
def wt : Val → Nat
  | .mk _ _ _ _ _ ks is rs => wtL ks + wtL is + rs.length + 1
def wtL : List Val → Nat
  | [] => 0
  | x :: r => wt x + wtL r
end
theorem wt_eq (x : Val) : wt x = wtL x.keys + wtL x.items + x.rest.length + 1 := by cases x; rw [wt]; rfl
theorem wt_pos (x : Val) : 1 ≤ wt x := by rw [wt_eq]; omega
theorem wtL_mem (l : List Val) (x : Val) (h : x ∈ l) : wt x ≤ wtL l := by
  induction l with
  | nil => simp at h
  | cons y r ih =>
    rw [wtL]
    rcases List.mem_cons.1 h with rfl | h
    · omega
    · have := ih h; omega
theorem wtL_len (l : List Val) : l.length ≤ wtL l := by
  induction l with
  | nil => simp
  | cons y r ih => rw [wtL, List.length_cons]; have := wt_pos y; omega
mutual
theorem sizeV_wt : ∀ (x : Val) (n : Int), 0 ≤ sizeV x n → (wt x : Int) ≤ n - sizeV x n
  | .mk _ _ _ s _ ks is rs, n => by
    rw [sizeV, wt]
    intro h
    have h1 := sizeR_le rs (n - (10 + s.length + rs.length))
    have h2 := (sizeL_nodes ks (sizeR rs (n - (10 + s.length + rs.length)))).1
    have h3 := (sizeL_nodes is (sizeL ks (sizeR rs (n - (10 + s.length + rs.length))))).1
    have h4 := sizeL_wt is _ h
    have h5 := sizeL_wt ks (sizeR rs (n - (10 + s.length + rs.length))) (by omega)
    omega
theorem sizeL_wt : ∀ (l : List Val) (n : Int), 0 ≤ sizeL l n → (wtL l : Int) ≤ n - sizeL l n
  | [], n => by rw [sizeL, wtL]; omega
  | x :: r, n => by
    rw [sizeL, wtL]
    split
    · omega
    · intro h
      have h1 := sizeL_wt r _ h
      have h2 := (sizeL_nodes r (sizeV x n)).1
      have h3 := sizeV_wt x n (by omega)
      omega
end
theorem small_wt (x : Val) (h : smallB x = true) : wt x ≤ 3000 := by
  have h1 : 0 ≤ sizeV x 3000 := of_decide_eq_true h
  have h2 := sizeV_wt x 3000 h1
  omega

/-- as Rd, of which all lies in blocks of S -/
def RdP (w : World) (S : Nat → Prop) (size : Nat) (v : Value) (n : Nat) (xs : List Value) : Prop :=
  xs.length = n * size ∧ ∃ A c, v = .slice A n c ∧ n ≤ c ∧ (n = 0 ∨ ∃ b o, A = some ⟨b, o, none⟩ ∧ S b ∧ ∀ j u, xs[j]? = some u → w.cell? ⟨b, o + j, none⟩ = some u)
/-- as Row -/
def RowP (w : World) (S : Nat → Prop) (size : Nat) (v : Value) (n : Nat) (c : Nat → List Value) : Prop :=
  ∃ A cap, v = .slice A n cap ∧ n ≤ cap ∧ (n = 0 ∨ ∃ b o, A = some ⟨b, o, none⟩ ∧ S b ∧ ∀ i, i < n → ∀ j u, (c i)[j]? = some u → w.cell? ⟨b, o + i * size + j, none⟩ = some u)
section
variable {w w' : World} {S S' : Nat → Prop} {B size n : Nat} {v : Value} {xs : List Value} {c : Nat → List Value}
theorem RdP.keep (h : RdP w S size v n xs) (hk : ∀ p : Addr, S p.block → w'.cell? p = w.cell? p) (hS : ∀ b, S b → S' b) : RdP w' S' size v n xs := by
  obtain ⟨hl, A, c, hv, hc, h2⟩ := h
  refine ⟨hl, A, c, hv, hc, ?_⟩
  rcases h2 with h2 | ⟨b, o, hA, hb, hcell⟩
  · exact .inl h2
  · exact .inr ⟨b, o, hA, hS b hb, fun j u hu => (hk ⟨b, o + j, none⟩ hb).trans (hcell j u hu)⟩
theorem RowP.keep (h : RowP w S size v n c) (hk : ∀ p : Addr, S p.block → w'.cell? p = w.cell? p) (hS : ∀ b, S b → S' b) : RowP w' S' size v n c := by
  obtain ⟨A, cap, hv, hc, h2⟩ := h
  refine ⟨A, cap, hv, hc, ?_⟩
  rcases h2 with h2 | ⟨b, o, hA, hb, hcell⟩
  · exact .inl h2
  · exact .inr ⟨b, o, hA, hS b hb, fun i hi j u hu => (hk ⟨b, o + i * size + j, none⟩ hb).trans (hcell i hi j u hu)⟩
theorem RdP.rd (h : RdP w S size v n xs) (hS : ∀ b, S b → b < B) : Rd w B size v n xs := by
  obtain ⟨hl, A, c, hv, hc, h2⟩ := h
  refine ⟨hl, A, c, hv, hc, ?_⟩
  rcases h2 with h2 | ⟨b, o, hA, hb, hcell⟩
  · exact .inl h2
  · exact .inr ⟨b, o, hA, hS b hb, hcell⟩
theorem RowP.row (h : RowP w S size v n c) (hS : ∀ b, S b → b < B) : Row w B size v n c := by
  obtain ⟨A, cap, hv, hc, h2⟩ := h
  refine ⟨A, cap, hv, hc, ?_⟩
  rcases h2 with h2 | ⟨b, o, hA, hb, hcell⟩
  · exact .inl h2
  · exact .inr ⟨b, o, hA, hS b hb, hcell⟩
end
inductive RdValP (w : World) (S : Nat → Prop) : Val → List Value → Prop
  | mk (k : Int) (b : Bool) (n : Int) (s : List UInt8) (id : Int) (ks is : List Val) (rs : List Raw) (vk vi vr : Value) (ck ci : Nat → List Value)
      (hn : I64 k ∧ I64 n ∧ I64 id) (hs : s.length ≤ 140737488351232) (hl : ks.length ≤ 140737488351232 ∧ is.length ≤ 140737488351232 ∧ rs.length ≤ 140737488351232) (hri : ∀ r ∈ rs, RawIn r)
      (hk : RowP w S 8 vk ks.length ck) (hkr : ∀ (i : Nat) (h : i < ks.length), RdValP w S ks[i] (ck i))
      (hi : RowP w S 8 vi is.length ci) (hir : ∀ (i : Nat) (h : i < is.length), RdValP w S is[i] (ci i))
      (hr : RdP w S 2 vr rs.length (rawsV rs)) : RdValP w S (.mk k b n s id ks is rs) [.int .i64 k, .bool b, .int .i64 n, .string ⟨s.toArray⟩, .int .i64 id, vk, vi, vr]
theorem RdValP.keep {w w' : World} {S S' : Nat → Prop} {v : Val} {cs : List Value} (h : RdValP w S v cs) (hk : ∀ p : Addr, S p.block → w'.cell? p = w.cell? p) (hS : ∀ b, S b → S' b) : RdValP w' S' v cs := by
  induction h with
  | mk k b n s id ks is rs vk vi vr ck ci hn hs hl hri h1 _ h2 _ h3 ih1 ih2 =>
    exact .mk k b n s id ks is rs vk vi vr ck ci hn hs hl hri (h1.keep hk hS) ih1 (h2.keep hk hS) ih2 (h3.keep hk hS)
theorem RdValP.rd {w : World} {S : Nat → Prop} {B : Nat} {v : Val} {cs : List Value} (h : RdValP w S v cs) (hS : ∀ b, S b → b < B) : RdVal w B v cs := by
  induction h with
  | mk k b n s id ks is rs vk vi vr ck ci hn hs hl hri h1 _ h2 _ h3 ih1 ih2 =>
    exact .mk k b n s id ks is rs vk vi vr ck ci hn hs hl hri (h1.row hS) ih1 (h2.row hS) ih2 (h3.rd hS)
theorem RdVal.toP {w : World} {B : Nat} {v : Val} {cs : List Value} (h : RdVal w B v cs) : RdValP w (· < B) v cs := by
  induction h with
  | mk k b n s id ks is rs vk vi vr ck ci hn hs hl hri h1 _ h2 _ h3 ih1 ih2 =>
    exact .mk k b n s id ks is rs vk vi vr ck ci hn hs hl hri h1 ih1 h2 ih2 h3
/-- a slice of values -/
def RdValsP (w : World) (S : Nat → Prop) (v : Value) (xs : List Val) : Prop := ∃ c : Nat → List Value, RowP w S 8 v xs.length c ∧ ∀ (i : Nat) (h : i < xs.length), RdValP w S xs[i] (c i)
theorem RdValsP.keep {w w' : World} {S S' : Nat → Prop} {v : Value} {xs : List Val} (h : RdValsP w S v xs) (hk : ∀ p : Addr, S p.block → w'.cell? p = w.cell? p) (hS : ∀ b, S b → S' b) : RdValsP w' S' v xs := by
  obtain ⟨c, h1, h2⟩ := h
  exact ⟨c, h1.keep hk hS, fun i hi => (h2 i hi).keep hk hS⟩
structure ValP (w : World) (S : Nat → Prop) (x : Val) (vk vi vr : Value) : Prop where
  ints : I64 x.kind ∧ I64 x.num ∧ I64 x.id
  strl : x.str.length ≤ 140737488351232
  lens : x.keys.length ≤ 140737488351232 ∧ x.items.length ≤ 140737488351232 ∧ x.rest.length ≤ 140737488351232
  raws : ∀ r ∈ x.rest, RawIn r
  keys : RdValsP w S vk x.keys
  items : RdValsP w S vi x.items
  rest : RdP w S 2 vr x.rest.length (rawsV x.rest)
theorem ValP.rd {w : World} {S : Nat → Prop} {x : Val} {vk vi vr : Value} (h : ValP w S x vk vi vr) : RdValP w S x (valV x vk vi vr) := by
  obtain ⟨hn, hs, hl, hri, ⟨ck, h1, h2⟩, ⟨ci, h3, h4⟩, h5⟩ := h
  cases x
  exact .mk _ _ _ _ _ _ _ _ vk vi vr ck ci hn hs hl hri h1 h2 h3 h4 h5
theorem ValP.at_ {w : World} {S : Nat → Prop} {B : Nat} {x : Val} {vk vi vr : Value} (h : ValP w S x vk vi vr) (hS : ∀ b, S b → b < B) : ValAt w B x vk vi vr := by
  obtain ⟨hn, hs, hl, hri, ⟨ck, h1, h2⟩, ⟨ci, h3, h4⟩, h5⟩ := h
  exact ⟨hn, hs, hl, hri, ⟨ck, h1.row hS, fun i hi => (h2 i hi).rd hS⟩, ⟨ci, h3.row hS, fun i hi => (h4 i hi).rd hS⟩, h5.rd hS⟩
theorem ValP.keep {w w' : World} {S S' : Nat → Prop} {x : Val} {vk vi vr : Value} (h : ValP w S x vk vi vr) (hk : ∀ p : Addr, S p.block → w'.cell? p = w.cell? p) (hS : ∀ b, S b → S' b) : ValP w' S' x vk vi vr :=
  ⟨h.ints, h.strl, h.lens, h.raws, h.keys.keep hk hS, h.items.keep hk hS, h.rest.keep hk hS⟩

/-! rows one behind the other -/
def rowsV (c : Nat → List Value) : Nat → List Value
  | 0 => []
  | n+1 => rowsV c n ++ c n
theorem rowsV_len (c : Nat → List Value) (size n : Nat) (h : ∀ i, i < n → (c i).length = size) : (rowsV c n).length = n * size := by
  induction n with
  | zero => simp [rowsV]
  | succ n ih => rw [rowsV, List.length_append, ih (fun i hi => h i (by omega)), h n (by omega), Nat.add_mul]; omega
theorem rowsV_get (c : Nat → List Value) (size n : Nat) (h : ∀ i, i < n → (c i).length = size) (i j : Nat) (hi : i < n) (hj : j < size) : (rowsV c n)[i * size + j]? = (c i)[j]? := by
  induction n with
  | zero => omega
  | succ n ih =>
    have hl := rowsV_len c size n (fun i hi => h i (by omega))
    rw [rowsV]
    by_cases hin : i < n
    · have : i * size + j < n * size := by
        have h1 : (i + 1) * size ≤ n * size := Nat.mul_le_mul_right _ hin
        rw [Nat.add_mul] at h1; omega
      rw [List.getElem?_append_left (by omega)]
      exact ih (fun i hi => h i (by omega)) hin
    · obtain rfl : i = n := by omega
      rw [List.getElem?_append_right (by omega), hl]
      congr 1
      omega
theorem rowsV_inv (c : Nat → List Value) (size n : Nat) (hs : 0 < size) (h : ∀ i, i < n → (c i).length = size) (q : Nat) (u : Value) (hq : (rowsV c n)[q]? = some u) : q / size < n ∧ (c (q / size))[q % size]? = some u := by
  have hl := rowsV_len c size n h
  have hlt : q < n * size := by rw [← hl]; exact (List.getElem?_eq_some_iff.1 hq).1
  have h1 : q / size < n := Nat.div_lt_of_lt_mul (by rwa [Nat.mul_comm] at hlt)
  refine ⟨h1, ?_⟩
  have h2 := rowsV_get c size n h (q / size) (q % size) h1 (Nat.mod_lt _ hs)
  rw [show q / size * size + q % size = q by rw [Nat.mul_comm]; exact Nat.div_add_mod q size] at h2
  rw [← h2]; exact hq
/-- a row's cells, one behind the other -/
theorem Row.flat {w : World} {B size n cap : Nat} {A : Option Addr} {c : Nat → List Value} (h : Row w B size (.slice A n cap) n c) (hs : 0 < size) (hc : ∀ i, i < n → (c i).length = size) (a : Addr) (hA : A = some a) :
    ∀ j u, (rowsV c n)[j]? = some u → w.cell? (a.add j) = some u := by
  intro q u hq
  obtain ⟨h1, h2⟩ := rowsV_inv c size n hs hc q u hq
  obtain ⟨A', c', hv, _, h3⟩ := h
  injection hv with h4 h5 h6
  subst h4
  rcases h3 with h3 | ⟨b, o, hb, _, hcell⟩
  · rw [h3] at h1; exact absurd h1 (Nat.not_lt_zero _)
  · rw [hb] at hA
    injection hA with hA
    subst hA
    have e : (⟨b, o, none⟩ : Addr).add q = ⟨b, o + q / size * size + q % size, none⟩ := by
      unfold Addr.add
      split <;> simp_all
      rw [Nat.add_assoc, Nat.mul_comm, Nat.div_add_mod]
    rw [e]
    exact hcell _ h1 _ _ h2
/-- an owned row, read as a row -/
theorem RowP.of_own {w : World} {base n size : Nat} {e : TypeId} {v : Value} {c : Nat → List Value} (h : w.ownsRow base e size v n (rowsV c n)) (hc : ∀ i, i < n → (c i).length = size) : RowP w (fun b => v.ownBlock = some b) size v n c := by
  have h0 := h
  obtain ⟨hl, h2⟩ := h
  rcases h2 with ⟨rfl, rfl⟩ | ⟨g, cap, cur, rfl, hb, hh, hn, hm, hsz, ht⟩
  · exact ⟨none, 0, rfl, Nat.le_refl _, .inl rfl⟩
  · refine ⟨_, cap, rfl, hn, .inr ⟨g, 0, rfl, rfl, fun i hi j u hu => ?_⟩⟩
    have hj : j < size := by rw [← hc i hi]; exact (List.getElem?_eq_some_iff.1 hu).1
    have := h0.cells (g := g) rfl (i * size + j) u (by rw [rowsV_get c size n hc i j hi hj]; exact hu)
    have e : (⟨g, 0, none⟩ : Addr).add (i * size + j) = ⟨g, 0 + i * size + j, none⟩ := by unfold Addr.add; split <;> simp_all
    rwa [e] at this
end Go.Proofs.Ytjcoeolconelmaa

/- Values all of whose parts lie in blocks of a set; how much a value holds; rows that a call owns, read as rows. The example schema and example values of layer 8. Plain: the unknown parts of a value that fits. What varint.Get computes. No condition. -/
import Derived.Test.YtccmmibkihbobaaDoorHAB
import Derived.Test.YtccmmibkihbobaaDoorHAC
import Derived.Test.YtccmmibkihbobaaDoorHAA
set_option maxHeartbeats 400000
namespace Go.Proofs.YtccmmibkihbobaaDoor
open Go.ChangeShapes Go.WideShapes Go.ChangeAt Go.RowKit
mutual
def wt : Val → Nat
 | .mk _ _ _ _ _ ks is rs => wtL ks + wtL is + rs.length + 1
def wtL : List Val → Nat
 | [] => 0
 | x :: r => wt x + wtL r
end
theorem wt_eq (x : Val) : wt x = wtL x.keys + wtL x.items + x.rest.length + 1 := by cases x; rw [wt]; rfl
theorem wt_pos (x : Val) : 1 ≤ wt x := by rw [wt_eq]; omega
theorem wtL_mem (l : List Val) (x : Val) (h : x ∈ l) : wt x ≤ wtL l := by
 induction l with
 | nil => simp at h
 | cons y r ih =>
  rw [wtL]
  rcases List.mem_cons.1 h with rfl | h
  ·
   omega
  have := ih h; omega
theorem wtL_len (l : List Val) : l.length ≤ wtL l := by
 induction l with
 | nil => simp
 | cons y r ih => rw [wtL, List.length_cons]; have := wt_pos y; omega
mutual
theorem sizeV_wt : ∀ (x : Val) (n : Int), 0 ≤ sizeV x n → (wt x : Int) ≤ n - sizeV x n
 | .mk _ _ _ s _ ks is rs, n => by
  rw [sizeV, wt]
  intro h
  have h1 := sizeR_le rs (n - (10 + s.length + rs.length))
  have h2 := (sizeL_nodes ks (sizeR rs (n - (10 + s.length + rs.length)))).1
  have h3 := (sizeL_nodes is (sizeL ks (sizeR rs (n - (10 + s.length + rs.length))))).1
  have h4 := sizeL_wt is _ h
  have h5 := sizeL_wt ks (sizeR rs (n - (10 + s.length + rs.length))) (by omega)
  omega
theorem sizeL_wt : ∀ (l : List Val) (n : Int), 0 ≤ sizeL l n → (wtL l : Int) ≤ n - sizeL l n
 | [], n => by rw [sizeL, wtL]; omega
 | x :: r, n => by
  rw [sizeL, wtL]
  split
  ·
   omega
  intro h
  have h1 := sizeL_wt r _ h
  have h2 := (sizeL_nodes r (sizeV x n)).1
  have h3 := sizeV_wt x n (by omega)
  omega
end
theorem small_wt (x : Val) (h : smallB x = true) : wt x ≤ 3000 := by
 have h1 : 0 ≤ sizeV x 3000 := of_decide_eq_true h
 have h2 := sizeV_wt x 3000 h1
 omega
def RdP (w : World) (S : Nat → Prop) (size : Nat) (v : Value) (n : Nat) (xs : List Value) : Prop :=
 xs.length = n * size ∧ ∃ A c, v = .slice A n c ∧ n ≤ c ∧ (n = 0 ∨ ∃ b o, A = some ⟨b, o, none⟩ ∧ S b ∧ ∀ j u, xs[j]? = some u → w.cell? ⟨b, o + j, none⟩ = some u)
def RowP (w : World) (S : Nat → Prop) (size : Nat) (v : Value) (n : Nat) (c : Nat → List Value) : Prop :=
 ∃ A cap, v = .slice A n cap ∧ n ≤ cap ∧ (n = 0 ∨ ∃ b o, A = some ⟨b, o, none⟩ ∧ S b ∧ ∀ i, i < n → ∀ j u, (c i)[j]? = some u → w.cell? ⟨b, o + i * size + j, none⟩ = some u)
section
variable {w w' : World} {S S' : Nat → Prop} {B size n : Nat} {v : Value} {xs : List Value} {c : Nat → List Value}
theorem RdP.keep (h : RdP w S size v n xs) (hk : ∀ p : Addr, S p.block → w'.cell? p = w.cell? p) (hS : ∀ b, S b → S' b) : RdP w' S' size v n xs := by
 obtain ⟨hl, A, c, hv, hc, h2⟩ := h
 refine ⟨hl, A, c, hv, hc, ?_⟩
 rcases h2 with h2 | ⟨b, o, hA, hb, hcell⟩
 ·
  exact .inl h2
 exact .inr ⟨b, o, hA, hS b hb, fun j u hu => (hk ⟨b, o + j, none⟩ hb).trans (hcell j u hu)⟩
theorem RowP.keep (h : RowP w S size v n c) (hk : ∀ p : Addr, S p.block → w'.cell? p = w.cell? p) (hS : ∀ b, S b → S' b) : RowP w' S' size v n c := by
 obtain ⟨A, cap, hv, hc, h2⟩ := h
 refine ⟨A, cap, hv, hc, ?_⟩
 rcases h2 with h2 | ⟨b, o, hA, hb, hcell⟩
 ·
  exact .inl h2
 exact .inr ⟨b, o, hA, hS b hb, fun i hi j u hu => (hk ⟨b, o + i * size + j, none⟩ hb).trans (hcell i hi j u hu)⟩
theorem RdP.rd (h : RdP w S size v n xs) (hS : ∀ b, S b → b < B) : Rd w B size v n xs := by
 obtain ⟨hl, A, c, hv, hc, h2⟩ := h
 refine ⟨hl, A, c, hv, hc, ?_⟩
 rcases h2 with h2 | ⟨b, o, hA, hb, hcell⟩
 ·
  exact .inl h2
 exact .inr ⟨b, o, hA, hS b hb, hcell⟩
theorem RowP.row (h : RowP w S size v n c) (hS : ∀ b, S b → b < B) : Row w B size v n c := by
 obtain ⟨A, cap, hv, hc, h2⟩ := h
 refine ⟨A, cap, hv, hc, ?_⟩
 rcases h2 with h2 | ⟨b, o, hA, hb, hcell⟩
 ·
  exact .inl h2
 exact .inr ⟨b, o, hA, hS b hb, hcell⟩
end
inductive RdValP (w : World) (S : Nat → Prop) : Val → List Value → Prop
 | mk (k : Int) (b : Bool) (n : Int) (s : List UInt8) (id : Int) (ks is : List Val) (rs : List Raw) (vk vi vr : Value) (ck ci : Nat → List Value)
   (hn : I64 k ∧ I64 n ∧ I64 id) (hs : s.length ≤ 140737488351232) (hl : ks.length ≤ 1172812402926 ∧ is.length ≤ 1172812402926 ∧ rs.length ≤ 5864062014634) (hri : ∀ r ∈ rs, RawIn r)
   (hk : RowP w S 8 vk ks.length ck) (hkr : ∀ (i : Nat) (h : i < ks.length), RdValP w S ks[i] (ck i))
   (hi : RowP w S 8 vi is.length ci) (hir : ∀ (i : Nat) (h : i < is.length), RdValP w S is[i] (ci i))
   (hr : RdP w S 2 vr rs.length (rawsV rs)) : RdValP w S (.mk k b n s id ks is rs) [.int .i64 k, .bool b, .int .i64 n, .string ⟨s.toArray⟩, .int .i64 id, vk, vi, vr]
theorem RdValP.keep {w w' : World} {S S' : Nat → Prop} {v : Val} {cs : List Value} (h : RdValP w S v cs) (hk : ∀ p : Addr, S p.block → w'.cell? p = w.cell? p) (hS : ∀ b, S b → S' b) : RdValP w' S' v cs := by
 induction h with
 | mk k b n s id ks is rs vk vi vr ck ci hn hs hl hri h1 _ h2 _ h3 ih1 ih2 =>
  exact .mk k b n s id ks is rs vk vi vr ck ci hn hs hl hri (h1.keep hk hS) ih1 (h2.keep hk hS) ih2 (h3.keep hk hS)
theorem RdValP.rd {w : World} {S : Nat → Prop} {B : Nat} {v : Val} {cs : List Value} (h : RdValP w S v cs) (hS : ∀ b, S b → b < B) : RdVal w B v cs := by
 induction h with
 | mk k b n s id ks is rs vk vi vr ck ci hn hs hl hri h1 _ h2 _ h3 ih1 ih2 =>
  exact .mk k b n s id ks is rs vk vi vr ck ci hn hs hl hri (h1.row hS) ih1 (h2.row hS) ih2 (h3.rd hS)
theorem RdVal.toP {w : World} {B : Nat} {v : Val} {cs : List Value} (h : RdVal w B v cs) : RdValP w (· < B) v cs := by
 induction h with
 | mk k b n s id ks is rs vk vi vr ck ci hn hs hl hri h1 _ h2 _ h3 ih1 ih2 =>
  exact .mk k b n s id ks is rs vk vi vr ck ci hn hs hl hri h1 ih1 h2 ih2 h3
def RdValsP (w : World) (S : Nat → Prop) (v : Value) (xs : List Val) : Prop := ∃ c : Nat → List Value, RowP w S 8 v xs.length c ∧ ∀ (i : Nat) (h : i < xs.length), RdValP w S xs[i] (c i)
theorem RdValsP.keep {w w' : World} {S S' : Nat → Prop} {v : Value} {xs : List Val} (h : RdValsP w S v xs) (hk : ∀ p : Addr, S p.block → w'.cell? p = w.cell? p) (hS : ∀ b, S b → S' b) : RdValsP w' S' v xs := by
 obtain ⟨c, h1, h2⟩ := h
 exact ⟨c, h1.keep hk hS, fun i hi => (h2 i hi).keep hk hS⟩
structure ValP (w : World) (S : Nat → Prop) (x : Val) (vk vi vr : Value) : Prop where
 ints : I64 x.kind ∧ I64 x.num ∧ I64 x.id
 strl : x.str.length ≤ 140737488351232
 lenz : x.keys.length ≤ 1172812402926 ∧ x.items.length ≤ 1172812402926 ∧ x.rest.length ≤ 5864062014634
 raws : ∀ r ∈ x.rest, RawIn r
 keys : RdValsP w S vk x.keys
 items : RdValsP w S vi x.items
 rest : RdP w S 2 vr x.rest.length (rawsV x.rest)
theorem ValP.lens {w : World} {S : Nat → Prop} {x : Val} {vk vi vr : Value} (h : ValP w S x vk vi vr) : x.keys.length ≤ 140737488351232 ∧ x.items.length ≤ 140737488351232 ∧ x.rest.length ≤ 140737488351232 := by have := h.lenz; omega
theorem ValP.rd {w : World} {S : Nat → Prop} {x : Val} {vk vi vr : Value} (h : ValP w S x vk vi vr) : RdValP w S x (valV x vk vi vr) := by
 obtain ⟨hn, hs, hl, hri, ⟨ck, h1, h2⟩, ⟨ci, h3, h4⟩, h5⟩ := h
 cases x
 exact .mk _ _ _ _ _ _ _ _ vk vi vr ck ci hn hs hl hri h1 h2 h3 h4 h5
theorem ValP.at_ {w : World} {S : Nat → Prop} {B : Nat} {x : Val} {vk vi vr : Value} (h : ValP w S x vk vi vr) (hS : ∀ b, S b → b < B) : ValAt w B x vk vi vr := by
 obtain ⟨hn, hs, hl, hri, ⟨ck, h1, h2⟩, ⟨ci, h3, h4⟩, h5⟩ := h
 exact ⟨hn, hs, hl, hri, ⟨ck, h1.row hS, fun i hi => (h2 i hi).rd hS⟩, ⟨ci, h3.row hS, fun i hi => (h4 i hi).rd hS⟩, h5.rd hS⟩
theorem ValP.keep {w w' : World} {S S' : Nat → Prop} {x : Val} {vk vi vr : Value} (h : ValP w S x vk vi vr) (hk : ∀ p : Addr, S p.block → w'.cell? p = w.cell? p) (hS : ∀ b, S b → S' b) : ValP w' S' x vk vi vr :=
 ⟨h.ints, h.strl, h.lenz, h.raws, h.keys.keep hk hS, h.items.keep hk hS, h.rest.keep hk hS⟩
/-! rows one behind the other -/
def rowsV (c : Nat → List Value) : Nat → List Value
 | 0 => []
 | n+1 => rowsV c n ++ c n
theorem rowsV_len (c : Nat → List Value) (size n : Nat) (h : ∀ i, i < n → (c i).length = size) : (rowsV c n).length = n * size := by
 induction n with
 | zero => simp [rowsV]
 | succ n ih => rw [rowsV, List.length_append, ih (fun i hi => h i (by omega)), h n (by omega), Nat.add_mul]; omega
theorem rowsV_get (c : Nat → List Value) (size n : Nat) (h : ∀ i, i < n → (c i).length = size) (i j : Nat) (hi : i < n) (hj : j < size) : (rowsV c n)[i * size + j]? = (c i)[j]? := by
 induction n with
 | zero => omega
 | succ n ih =>
  have hl := rowsV_len c size n (fun i hi => h i (by omega))
  rw [rowsV]
  by_cases hin : i < n
  ·
   have : i * size + j < n * size := by
    have h1 : (i + 1) * size ≤ n * size := Nat.mul_le_mul_right _ hin
    rw [Nat.add_mul] at h1; omega
   rw [List.getElem?_append_left (by omega)]
   exact ih (fun i hi => h i (by omega)) hin
  obtain rfl : i = n := by omega
  rw [List.getElem?_append_right (by omega), hl]
  congr 1
  omega
theorem rowsV_inv (c : Nat → List Value) (size n : Nat) (hs : 0 < size) (h : ∀ i, i < n → (c i).length = size) (q : Nat) (u : Value) (hq : (rowsV c n)[q]? = some u) : q / size < n ∧ (c (q / size))[q % size]? = some u := by
 have hl := rowsV_len c size n h
 have hlt : q < n * size := by rw [← hl]; exact (List.getElem?_eq_some_iff.1 hq).1
 have h1 : q / size < n := Nat.div_lt_of_lt_mul (by rwa [Nat.mul_comm] at hlt)
 refine ⟨h1, ?_⟩
 have h2 := rowsV_get c size n h (q / size) (q % size) h1 (Nat.mod_lt _ hs)
 rw [show q / size * size + q % size = q by rw [Nat.mul_comm]; exact Nat.div_add_mod q size] at h2
 rw [← h2]; exact hq
theorem Row.flat {w : World} {B size n cap : Nat} {A : Option Addr} {c : Nat → List Value} (h : Row w B size (.slice A n cap) n c) (hs : 0 < size) (hc : ∀ i, i < n → (c i).length = size) (a : Addr) (hA : A = some a) :
  ∀ j u, (rowsV c n)[j]? = some u → w.cell? (a.add j) = some u := by
 intro q u hq
 obtain ⟨h1, h2⟩ := rowsV_inv c size n hs hc q u hq
 obtain ⟨A', c', hv, _, h3⟩ := h
 injection hv with h4 h5 h6
 subst h4
 rcases h3 with h3 | ⟨b, o, hb, _, hcell⟩
 ·
  rw [h3] at h1; exact absurd h1 (Nat.not_lt_zero _)
 rw [hb] at hA
 injection hA with hA
 subst hA
 have e : (⟨b, o, none⟩ : Addr).add q = ⟨b, o + q / size * size + q % size, none⟩ := by
  unfold Addr.add
  split <;> simp_all
  rw [Nat.add_assoc, Nat.mul_comm, Nat.div_add_mod]
 rw [e]
 exact hcell _ h1 _ _ h2
theorem RowP.of_own {w : World} {base n size : Nat} {e : TypeId} {v : Value} {c : Nat → List Value} (h : w.ownsRow base e size v n (rowsV c n)) (hc : ∀ i, i < n → (c i).length = size) : RowP w (fun b => v.ownBlock = some b) size v n c := by
 have h0 := h
 obtain ⟨hl, h2⟩ := h
 rcases h2 with ⟨rfl, rfl⟩ | ⟨g, cap, cur, rfl, hb, hh, hn, hm, hsz, ht⟩
 ·
  exact ⟨none, 0, rfl, Nat.le_refl _, .inl rfl⟩
 refine ⟨_, cap, rfl, hn, .inr ⟨g, 0, rfl, rfl, fun i hi j u hu => ?_⟩⟩
 have hj : j < size := by rw [← hc i hi]; exact (List.getElem?_eq_some_iff.1 hu).1
 have := h0.cells (g := g) rfl (i * size + j) u (by rw [rowsV_get c size n hc i j hi hj]; exact hu)
 have e : (⟨g, 0, none⟩ : Addr).add (i * size + j) = ⟨g, 0 + i * size + j, none⟩ := by unfold Addr.add; split <;> simp_all
 rwa [e] at this
end Go.Proofs.YtccmmibkihbobaaDoor
namespace Go.Proofs.YtccmmibkihbobaaDoor
open Go.ChangeShapes Go.WideShapes Go.ChangeAt Go.RowKit
def numV (n : Int) : Val := .mk 2 false n [] 0 [] [] []
def strV (s : List UInt8) : Val := .mk 3 false 0 s 0 [] [] []
theorem rdvals_nil (w : World) (B : Nat) : RdVals w B (.slice none 0 0) [] := ⟨fun _ => [], ⟨none, 0, rfl, Nat.le_refl _, .inl rfl⟩, fun i h => by simp at h⟩
theorem rdmems_nil (w : World) (B : Nat) : RdMems w B (.slice none 0 0) [] := ⟨fun _ => [], ⟨none, 0, rfl, Nat.le_refl _, .inl rfl⟩, fun i h => by simp at h⟩
theorem leaf_at (w : World) (B : Nat) (k : Int) (b : Bool) (n : Int) (s : List UInt8) (id : Int) (h : I64 k ∧ I64 n ∧ I64 id) (hs : s.length ≤ 140737488351232) : ValAt w B (.mk k b n s id [] [] []) (.slice none 0 0) (.slice none 0 0) (.slice none 0 0) :=
 ⟨h, hs, ⟨by simp [Val.keys], by simp [Val.items], by simp [Val.rest]⟩, by simp [Val.rest], rdvals_nil w B, rdvals_nil w B, Rd.nil_ w B 2⟩
theorem num_at (w : World) (B : Nat) (n : Int) (h : I64 n) : ValAt w B (numV n) (.slice none 0 0) (.slice none 0 0) (.slice none 0 0) := leaf_at w B 2 false n [] 0 ⟨by simp [I64], h, by simp [I64]⟩ (by simp)
theorem str_at (w : World) (B : Nat) (s : List UInt8) (h : s.length ≤ 140737488351232) : ValAt w B (strV s) (.slice none 0 0) (.slice none 0 0) (.slice none 0 0) := leaf_at w B 3 false 0 s 0 ⟨by simp [I64], by simp [I64], by simp [I64]⟩ h
theorem val0_at (w : World) (B : Nat) : ValAt w B val0 (.slice none 0 0) (.slice none 0 0) (.slice none 0 0) := leaf_at w B 0 false 0 [] 0 ⟨by simp [I64], by simp [I64], by simp [I64]⟩ (by simp)
theorem alloc_hs' (w : World) (o : Obj) : (w.alloc o).heap.size = w.heap.size + 1 := by simp
def pointM : List Mem := [⟨1, [120], 1, false, false, val0⟩, ⟨3, [121], 2, false, false, val0⟩]
def pointT : List Typ := [⟨5, [80, 111, 105, 110, 116], 0, 0, 0, [], pointM, 0, 0, false⟩, ⟨2, [], 0, 9, 0, [], [], 0, 0, false⟩, ⟨9, [], 0, 0, 0, [], [], 0, 1, false⟩]
theorem row_hasP {w : World} {B g size n : Nat} {T : TypeId} {c : Nat → List Value} (h : Has w g T (rowsV c n).toArray) (hB : g < B) (hc : ∀ i, i < n → (c i).length = size) : Row w B size (.slice (some ⟨g, 0, none⟩) n n) n c := by
 refine ⟨_, n, rfl, Nat.le_refl _, ?_⟩
 refine .inr ⟨g, 0, rfl, hB, fun i hi j u hu => ?_⟩
 have hj : j < size := by rw [← hc i hi]; exact (List.getElem?_eq_some_iff.1 hu).1
 have h1 := h.cell (i * size + j)
 rw [List.getElem?_toArray, rowsV_get c size n hc i j hi hj, hu] at h1
 rw [show 0 + i * size + j = i * size + j by omega]
 exact h1
def ptMc : Nat → List Value
 | 0 => memV ⟨1, [120], 1, false, false, val0⟩ (.slice none 0 0) (.slice none 0 0) (.slice none 0 0)
 | _ => memV ⟨3, [121], 2, false, false, val0⟩ (.slice none 0 0) (.slice none 0 0) (.slice none 0 0)
theorem pointM_rd {w : World} {B g : Nat} {T : TypeId} (h : Has w g T (rowsV ptMc 2).toArray) (hB : g < B) : RdMems w B (.slice (some ⟨g, 0, none⟩) 2 2) pointM := by
 refine ⟨ptMc, row_hasP h hB (fun i hi => ?_), fun i hi => ?_⟩
 ·
  match i, hi with
  | 0, _ => rfl
  | 1, _ => rfl
 match i, hi with
 | 0, _ => exact ⟨_, _, _, rfl, ⟨by simp [I64, pointM], by simp [pointM], val0_at w B⟩⟩
 | 1, _ => exact ⟨_, _, _, rfl, ⟨by simp [I64, pointM], by simp [pointM], val0_at w B⟩⟩
def ptTc (g : Nat) : Nat → List Value
 | 0 => typV ⟨5, [80, 111, 105, 110, 116], 0, 0, 0, [], pointM, 0, 0, false⟩ (.slice none 0 0) (.slice (some ⟨g, 0, none⟩) 2 2)
 | 1 => typV ⟨2, [], 0, 9, 0, [], [], 0, 0, false⟩ (.slice none 0 0) (.slice none 0 0)
 | _ => typV ⟨9, [], 0, 0, 0, [], [], 0, 1, false⟩ (.slice none 0 0) (.slice none 0 0)
theorem pointT_rd {w : World} {B g g2 : Nat} {T T2 : TypeId} (h : Has w g T (rowsV ptMc 2).toArray) (h2 : Has w g2 T2 (rowsV (ptTc g) 3).toArray) (hB : g < B) (hB2 : g2 < B) : RdTyps w B (.slice (some ⟨g2, 0, none⟩) 3 3) pointT := by
 refine ⟨ptTc g, row_hasP h2 hB2 (fun i hi => ?_), fun i hi => ?_⟩
 ·
  match i, hi with
  | 0, _ => rfl
  | 1, _ => rfl
  | 2, _ => rfl
 match i, hi with
 | 0, _ => exact ⟨_, _, rfl, ⟨by simp [I64, pointT], by simp [pointT], by simp [pointT, pointM], by simp [pointT], Rd.nil_ w B 2, pointM_rd h hB⟩⟩
 | 1, _ => exact ⟨_, _, rfl, ⟨by simp [I64, pointT], by simp [pointT], by simp [pointT], by simp [pointT], Rd.nil_ w B 2, rdmems_nil w B⟩⟩
 | 2, _ => exact ⟨_, _, rfl, ⟨by simp [I64, pointT], by simp [pointT], by simp [pointT], by simp [pointT], Rd.nil_ w B 2, rdmems_nil w B⟩⟩
def PointPost (w : World) (e : Ending) (w' : World) : Prop := ∃ g, e = .returned (.agg #[.slice (some ⟨g, 0, none⟩) 3 3]) ∧ RdTyps w' w'.heap.size (.slice (some ⟨g, 0, none⟩) 3 3) pointT ∧ Below w.heap.size w w'
end Go.Proofs.YtccmmibkihbobaaDoor
namespace Go.Proofs.YtccmmibkihbobaaDoor
open Go.ChangeShapes Go.WideShapes Go.ChangeAt Go.RowKit
def partB (x : Typ) (id : Int) (K I : Int → Int) (Z : List Mem → Int) (H : Int → Int) : Int :=
 if x.kind = 4 then (if (symIdx x id).isSome then 0 else 1)
 else if x.kind = 5 then Z x.mems
 else if x.kind = 6 then (match memIdx x id with
  | some i => (match x.mems[i]? with | some m => H m.ty | none => 0)
  | none => 0)
 else if x.kind = 7 ∨ x.kind = 8 ∨ x.kind = 9 then K x.key + I x.elem
 else 0
mutual
def partsV (ts : List Typ) : Val → Int → Int
 | .mk _ _ _ _ id ks is rs, t => match typAt ts t with
  | none => 0
  | some x => (rs.length : Int) + partB x id (fun t => partsL ts ks t) (fun t => partsL ts is t) (fun ms => partsZ ts is ms) (fun t => partsH ts is t)
def partsL (ts : List Typ) : List Val → Int → Int
 | [], _ => 0
 | y :: r, t => partsV ts y t + partsL ts r t
def partsZ (ts : List Typ) : List Val → List Mem → Int
 | y :: r, m :: ms => partsV ts y m.ty + partsZ ts r ms
 | [], _ => 0
 | _ :: _, [] => 0
def partsH (ts : List Typ) : List Val → Int → Int
 | [], _ => 0
 | y :: _, t => partsV ts y t
end
theorem partsV_eq (ts : List Typ) (v : Val) (t : Int) (x : Typ) (h : typAt ts t = some x) : partsV ts v t = (v.rest.length : Int) + partB x v.id (fun t => partsL ts v.keys t) (fun t => partsL ts v.items t) (fun ms => partsZ ts v.items ms) (fun t => partsH ts v.items t) := by
 cases v; rw [partsV, h]; rfl
theorem partsL_at (ts : List Typ) (l : List Val) (t : Int) (k : Nat) (h : k < l.length) : partsL ts (l.drop k) t = partsV ts l[k] t + partsL ts (l.drop (k + 1)) t := by
 rw [List.drop_eq_getElem_cons h, partsL]
theorem partsL_end (ts : List Typ) (l : List Val) (t : Int) (k : Nat) (h : l.length ≤ k) : partsL ts (l.drop k) t = 0 := by rw [List.drop_eq_nil_of_le h, partsL]
theorem partsZ_at (ts : List Typ) (l : List Val) (ms : List Mem) (k : Nat) (h : k < l.length) (h2 : k < ms.length) : partsZ ts (l.drop k) (ms.drop k) = partsV ts l[k] ms[k].ty + partsZ ts (l.drop (k + 1)) (ms.drop (k + 1)) := by
 rw [List.drop_eq_getElem_cons h, List.drop_eq_getElem_cons h2, partsZ]
theorem partsZ_end (ts : List Typ) (l : List Val) (ms : List Mem) (k : Nat) (h : l.length ≤ k) : partsZ ts (l.drop k) ms = 0 := by rw [List.drop_eq_nil_of_le h, partsZ]
theorem partsH_at (ts : List Typ) (l : List Val) (t : Int) (h : 0 < l.length) : partsH ts l t = partsV ts l[0] t := by
 cases l with
 | nil => simp at h
 | cons y r => rw [partsH]; rfl
/-! what a value that fits has -/
theorem fitZ_at_ (ts : List Typ) (pl : Bool) : ∀ (vs : List Val) (ms : List Mem), fitZ ts pl vs ms = true → ∀ k (h1 : k < vs.length) (h2 : k < ms.length), fitV ts pl vs[k] ms[k].ty = true
 | [], _, _, k, h1, _ => by simp at h1
 | _ :: _, [], _, k, _, h2 => by simp at h2
 | y :: r, m :: ms, h, k, h1, h2 => by
  rw [fitZ, Bool.and_eq_true] at h
  cases k with
  | zero => exact h.1
  | succ k => exact fitZ_at_ ts pl r ms h.2 k (by simpa using h1) (by simpa using h2)
theorem fitL_mem {ts : List Typ} {pl : Bool} {l : List Val} {t : Int} (h : fitL ts pl l t = true) : ∀ y ∈ l, fitV ts pl y t = true := by
 rw [fitL_all, List.all_eq_true] at h; exact h
theorem fit_split {ts : List Typ} {pl : Bool} {v : Val} {t : Int} {x : Typ} (hx : typAt ts t = some x) (h : fitV ts pl v t = true) : v.kind = x.kind ∧ properB v = true ∧ bodyV ts pl x v = true := by
 rw [fitV_eq, hx] at h
 simp only [Bool.and_eq_true, decide_eq_true_eq] at h
 exact h
theorem fit5 {ts : List Typ} {pl : Bool} {v : Val} {t : Int} {x : Typ} (hx : typAt ts t = some x) (h : fitV ts pl v t = true) (hk : x.kind = 5) : v.items.length = x.mems.length ∧ ∀ k (h1 : k < v.items.length) (h2 : k < x.mems.length), fitV ts pl v.items[k] x.mems[k].ty = true := by
 have h3 := (fit_split hx h).2.2
 unfold bodyV bodyR at h3
 simp [hk] at h3
 exact ⟨h3.1, fitZ_at_ ts pl _ _ h3.2.2.2⟩
theorem fitH_at_ (ts : List Typ) (pl : Bool) : ∀ (l : List Val) (t : Int), fitH ts pl l t = true → ∀ h : 0 < l.length, fitV ts pl l[0] t = true
 | [], _, _, h => by simp at h
 | y :: r, t, h, _ => by rw [fitH] at h; exact h
theorem fit_nokeys {x : Typ} {v : Val} (h1 : v.kind = x.kind) (h2 : properB v = true) (hk : x.kind ≠ 8) : v.keys = [] := by
 unfold properB at h2
 simp only [Bool.and_eq_true, Bool.or_eq_true, decide_eq_true_eq] at h2
 have h3 := h2.2.2.2.2.1
 exact List.eq_nil_of_length_eq_zero (h3.elim (fun h => absurd (h1.symm.trans h) hk) id)
theorem fit6 {ts : List Typ} {pl : Bool} {v : Val} {t : Int} {x : Typ} {i : Nat} (hx : typAt ts t = some x) (h : fitV ts pl v t = true) (hk : x.kind = 6) (hi : memIdx x v.id = some i) : ∃ (h1 : 0 < v.items.length) (h2 : i < x.mems.length), fitV ts pl v.items[0] x.mems[i].ty = true := by
 have h3 := (fit_split hx h).2.2
 have hlt := memIdx_lt x v.id i hi
 unfold bodyV bodyR at h3
 simp [hk, hi, List.getElem?_eq_getElem hlt] at h3
 obtain ⟨h4, _, h5⟩ := h3
 exact ⟨by omega, hlt, fitH_at_ _ _ _ _ h5 (by omega)⟩
theorem fit789 {ts : List Typ} {pl : Bool} {v : Val} {t : Int} {x : Typ} (hx : typAt ts t = some x) (h : fitV ts pl v t = true) (hk : x.kind = 7 ∨ x.kind = 8 ∨ x.kind = 9) : (∀ y ∈ v.keys, fitV ts pl y x.key = true) ∧ ∀ y ∈ v.items, fitV ts pl y x.elem = true := by
 obtain ⟨h1, h2, h3⟩ := fit_split hx h
 unfold bodyV bodyR at h3
 rcases hk with hk | hk | hk
 ·
  simp [hk] at h3
  refine ⟨fun y hy => ?_, fitL_mem h3.2⟩
  rw [fit_nokeys h1 h2 (by omega)] at hy
  simp at hy
 ·
  simp [hk] at h3
  exact ⟨fitL_mem h3.2.2.1, fitL_mem h3.2.2.2.2⟩
 simp [hk] at h3
 refine ⟨fun y hy => ?_, fitL_mem h3.2⟩
 rw [fit_nokeys h1 h2 (by omega)] at hy
 simp at hy
end Go.Proofs.YtccmmibkihbobaaDoor
namespace Go.Proofs.YtccmmibkihbobaaDoor
open Go.ChangeShapes Go.WideShapes Go.ChangeAt Go.RowKit
def getF : Nat → Nat → List UInt8 → Nat × Nat × Nat
 | _, _, [] => (0, 0, 10)
 | i, n, b :: r =>
  if i = 9 ∧ 1 < b.toNat then (0, 0, 7)
  else if 128 ≤ b.toNat then getF (i+1) (n + b.toNat % 128 * 128 ^ i) r
  else if b.toNat = 0 ∧ 0 < i then (0, 0, 2)
  else (n + b.toNat * 128 ^ i, i + 1, 0)
theorem byte_at (l : List UInt8) (k : Nat) (h : k < l.length) : ∃ b r, l.drop k = b :: r ∧ ({ data := l.toArray } : ByteArray)[k]'(by simpa [ByteArray.size] using h) = b ∧ l.drop (k+1) = r := by
 refine ⟨l[k], l.drop (k+1), List.drop_eq_getElem_cons h, rfl, rfl⟩
theorem pow128 (k : Nat) : (2:Int) ^ (7 * k) = ((128 ^ k : Nat) : Int) := by
 rw [show (128 : Nat) = 2 ^ 7 from rfl, ← Nat.pow_mul]
 norm_cast
theorem or_group (n x k : Nat) (hn : n < 128 ^ k) (hx : x < 128) (hk : k ≤ 8 ∨ (k = 9 ∧ x ≤ 1)) :
  bits .or .u64 (n : Int) (IntKind.u64.wrap ((x : Int) * 2 ^ (7 * k))) = ((n + x * 128 ^ k : Nat) : Int) ∧ n + x * 128 ^ k < 128 ^ (k + 1) ∧ n + x * 128 ^ k < 18446744073709551616 := by
 have h1 : n + x * 128 ^ k < 128 ^ (k + 1) := by
  rw [Nat.pow_succ, Nat.mul_comm _ 128]
  have : x * 128 ^ k ≤ 127 * 128 ^ k := Nat.mul_le_mul_right _ (by omega)
  omega
 have h2 : n + x * 128 ^ k < 18446744073709551616 := by
  rcases hk with hk | ⟨rfl, hx1⟩
  ·
   have : 128 ^ (k+1) ≤ 128 ^ 9 := Nat.pow_le_pow_right (by omega) (by omega)
   have e : (128:Nat) ^ 9 < 18446744073709551616 := by decide
   omega
  have : x * 128 ^ 9 ≤ 1 * 128 ^ 9 := Nat.mul_le_mul_right _ hx1
  have e : (128:Nat) ^ 9 = 9223372036854775808 := by decide
  omega
 refine ⟨?_, h1, h2⟩
 rw [pow128, ← Int.natCast_mul, IntKind.wrap_u64]
 have h3 : ((x * 128 ^ k : Nat) : Int) % 18446744073709551616 = ((x * 128 ^ k : Nat) : Int) := by
  apply Int.emod_eq_of_lt <;> omega
 rw [h3, u64_or_nat _ _ (by omega) (by omega)]
 congr 1
 have e7 : (128:Nat) ^ k = 2 ^ (7 * k) := by rw [show (128 : Nat) = 2 ^ 7 from rfl, ← Nat.pow_mul]
 rw [e7] at hn ⊢
 have := Nat.two_pow_add_eq_or_of_lt hn x
 rw [Nat.or_comm, Nat.mul_comm x, ← this, Nat.add_comm]
theorem and127 (b : UInt8) : IntKind.u64.wrap (bits .and .u8 (b.toNat : Int) 127) = ((b.toNat % 128 : Nat) : Int) := by
 have hb := b.toNat_lt
 have h : bits .and .u8 (b.toNat : Int) 127 = (b.toNat : Int) % 128 := bits_mask .u8 8 (by decide) wraps_u8 7 (by decide) _ (by omega) (by omega)
 rw [h, IntKind.wrap_u64]
 omega
theorem byte_u64 (b : UInt8) (h : b.toNat < 128) : IntKind.u64.wrap (b.toNat : Int) = (b.toNat : Int) := by
 rw [IntKind.wrap_u64]; omega
theorem getF_range (i n : Nat) (b : UInt8) (r : List UInt8) (h : i = 9) (h1 : 1 < b.toNat) : getF i n (b :: r) = (0, 0, 7) := by
 rw [getF, if_pos ⟨h, h1⟩]
theorem getF_more (i n : Nat) (b : UInt8) (r : List UInt8) (h : ¬ (i = 9 ∧ 1 < b.toNat)) (h1 : 128 ≤ b.toNat) : getF i n (b :: r) = getF (i+1) (n + b.toNat % 128 * 128 ^ i) r := by
 rw [getF, if_neg h, if_pos h1]
theorem getF_syntax (i n : Nat) (b : UInt8) (r : List UInt8) (h : ¬ (i = 9 ∧ 1 < b.toNat)) (h1 : b.toNat = 0) (h2 : 0 < i) : getF i n (b :: r) = (0, 0, 2) := by
 rw [getF, if_neg h, if_neg (by omega), if_pos ⟨h1, h2⟩]
theorem getF_done (i n : Nat) (b : UInt8) (r : List UInt8) (h : ¬ (i = 9 ∧ 1 < b.toNat)) (h1 : b.toNat < 128) (h2 : ¬ (b.toNat = 0 ∧ 0 < i)) : getF i n (b :: r) = (n + b.toNat * 128 ^ i, i + 1, 0) := by
 rw [getF, if_neg h, if_neg (by omega), if_neg h2]
theorem or_zero (n k x : Nat) (hx : x = 0) (h : bits .or .u64 (n : Int) (IntKind.u64.wrap ((x : Int) * 2 ^ (7 * k))) = ((n + x * 128 ^ k : Nat) : Int)) : bits .or .u64 (n : Int) 0 = ((n + x * 128 ^ k : Nat) : Int) := by
 rw [← h, hx, Int.natCast_zero, Int.zero_mul]; rfl
theorem or_nine (n k x : Nat) (hk : k = 9) (hx : x ≤ 1) (h : bits .or .u64 (n : Int) (IntKind.u64.wrap ((x : Int) * 2 ^ (7 * k))) = ((n + x * 128 ^ k : Nat) : Int)) : bits .or .u64 (n : Int) ((x : Int) * 9223372036854775808) = ((n + x * 128 ^ k : Nat) : Int) := by
 rw [← h, hk, IntKind.wrap_u64]
 congr 1
 rw [show (2 : Int) ^ (7 * 9) = 9223372036854775808 from rfl]
 omega
theorem ret_done (a b : Int) {a' : Int} {q : Nat} (h : a = a') (h2 : b = (q : Int)) : Ending.returned (.tuple #[.int .u64 a, .int .i64 b, .int .i64 0]) = Ending.returned (.tuple #[.int .u64 a', .int .i64 (q : Int), .int .i64 0]) := by
 rw [h, h2]
set_option maxRecDepth 100000 in
theorem get_any (l : List UInt8) (w : World) :
  Calls Tryd.prog 94 #[.string ⟨l.toArray⟩] w fun e w' => e = .returned (.tuple #[.int .u64 (getF 0 0 l).1, .int .i64 (getF 0 0 l).2.1, .int .i64 (getF 0 0 l).2.2]) ∧ w = w' := by
 go_enter Tryd.func94, Tryd.ntmps94
 go_wp2
 all_goals
  go_loop [5, 11] (fun a i => ∃ k n : Nat, k ≤ 9 ∧ k ≤ l.length ∧ a = .int .u64 n ∧ i = .int .i64 k ∧ getF 0 0 l = getF k n (l.drop k) ∧ Hid (n < 128 ^ k)) (fun _ i => 10 - (intOf i).toNat)
  case atStart => exact ⟨0, 0, by omega, by omega, rfl, rfl, rfl, by show _ < _; omega⟩
  case round =>
   obtain ⟨k, n, hk, hk2, rfl, rfl, hp, hm⟩ := hrel
   have Hp := Lib.hid hp
   clear hp
   by_cases hlt : k < l.length
   ·
    obtain ⟨b, r, hd, hb, hr⟩ := byte_at l k hlt
    have Hd := Lib.hid hd
    have Hr := Lib.hid hr
    clear hd hr
    have hbl : b.toNat < 256 := b.toNat_lt
    go_wp2
    all_goals first
     | (go_ret3; refine ⟨?_, rfl⟩; rw [Hp.out, Hd.out, getF_range k n b r (by omega) (by omega)]; rfl)
     | (go_ret3; refine ⟨?_, rfl⟩; rw [Hp.out, Hd.out, getF_syntax k n b r (by omega) (by omega) (by omega)]; rfl)
     | (
      go_ret3
      refine ⟨?_, rfl⟩
      have hx : b.toNat < 128 := by omega
      have hg := or_group n b.toNat k hm.out hx (by omega)
      rw [Hp.out, Hd.out, getF_done k n b r (by omega) (by omega) (by omega)]
      refine ret_done (a' := ((n + b.toNat * 128 ^ k : Nat) : Int)) (q := k + 1) _ _ ?_ ?_
      ·
       first | (with_reducible exact hg.1) | (refine or_zero n k b.toNat ?_ hg.1; omega) | (refine or_nine n k b.toNat ?_ ?_ hg.1 <;> omega)
      first | (with_reducible rfl) | omega)
     | (
      go_round
      case rel =>
       have hg := or_group n (b.toNat % 128) k hm.out (by omega) (by omega)
       exact ⟨k + 1, n + b.toNat % 128 * 128 ^ k, by omega, by omega, by rw [and127, hg.1], by go_num, by rw [Hp.out, Hd.out, Hr.out, getF_more k n b r (by omega) (by omega)], hg.2.1⟩
      case measure => simp [intOf]; omega)
   have hke : k = l.length := by omega
   clear hm
   go_wp2
   all_goals go_ret3
   all_goals refine ⟨?_, rfl⟩
   all_goals rw [Hp.out, List.drop_of_length_le (by omega)]
   all_goals rfl
end Go.Proofs.YtccmmibkihbobaaDoor

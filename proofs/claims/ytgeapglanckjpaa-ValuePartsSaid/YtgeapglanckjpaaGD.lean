/- Values all of whose parts lie in blocks of a set; how much a value holds; rows that a call owns, read as rows. What slices.Clone computes for values and for unknown parts. Storing a row of cells into a row that the call owns. What slices.Clone computes for integers. Two rows of one-cell elements that a call owns, and appends to them within a region that draws. Values that come in, of any depth. No condition. -/
import Derived.Test.YtgeapglanckjpaaGB
import Derived.Deep.MidRow
import Derived.Test.YtgeapglanckjpaaGA
import Derived.Deep.AppendLies
import Derived.Lib.SmallJoins
set_option maxHeartbeats 800000
namespace Go.Proofs.Ytgeapglanckjpaa
open Go.ChangeShapes Go.WideShapes Go.ChangeAt Go.RowKit
mutual
def wt : Val → Nat
 | .mk _ _ _ _ _ ks is rs => wtL ks + wtL is + rs.length + 1
def wtL : List Val → Nat
 | [] => 0
 | x :: r => wt x + wtL r
end
theorem wt_eq (x : Val) : wt x = wtL x.keys + wtL x.items + x.rest.length + 1 := by cases x; rw [wt]; rfl
theorem wt_pos (x : Val) : 1 ≤ wt x := by rw [wt_eq]; omega
theorem wtL_mem (l : List Val) (x : Val) (h : x ∈ l) : wt x ≤ wtL l := by
 induction l with
 | nil => simp at h
 | cons y r ih =>
  rw [wtL]
  rcases List.mem_cons.1 h with rfl | h
  ·
   omega
  have := ih h; omega
theorem wtL_len (l : List Val) : l.length ≤ wtL l := by
 induction l with
 | nil => simp
 | cons y r ih => rw [wtL, List.length_cons]; have := wt_pos y; omega
mutual
theorem sizeV_wt : ∀ (x : Val) (n : Int), 0 ≤ sizeV x n → (wt x : Int) ≤ n - sizeV x n
 | .mk _ _ _ s _ ks is rs, n => by
  rw [sizeV, wt]
  intro h
  have h1 := sizeR_le rs (n - (10 + s.length + rs.length))
  have h2 := (sizeL_nodes ks (sizeR rs (n - (10 + s.length + rs.length)))).1
  have h3 := (sizeL_nodes is (sizeL ks (sizeR rs (n - (10 + s.length + rs.length))))).1
  have h4 := sizeL_wt is _ h
  have h5 := sizeL_wt ks (sizeR rs (n - (10 + s.length + rs.length))) (by omega)
  omega
theorem sizeL_wt : ∀ (l : List Val) (n : Int), 0 ≤ sizeL l n → (wtL l : Int) ≤ n - sizeL l n
 | [], n => by rw [sizeL, wtL]; omega
 | x :: r, n => by
  rw [sizeL, wtL]
  split
  ·
   omega
  intro h
  have h1 := sizeL_wt r _ h
  have h2 := (sizeL_nodes r (sizeV x n)).1
  have h3 := sizeV_wt x n (by omega)
  omega
end
theorem small_wt (x : Val) (h : smallB x = true) : wt x ≤ 3000 := by
 have h1 : 0 ≤ sizeV x 3000 := of_decide_eq_true h
 have h2 := sizeV_wt x 3000 h1
 omega
def RdP (w : World) (S : Nat → Prop) (size : Nat) (v : Value) (n : Nat) (xs : List Value) : Prop :=
 xs.length = n * size ∧ ∃ A c, v = .slice A n c ∧ n ≤ c ∧ (n = 0 ∨ ∃ b o, A = some ⟨b, o, none⟩ ∧ S b ∧ ∀ j u, xs[j]? = some u → w.cell? ⟨b, o + j, none⟩ = some u)
def RowP (w : World) (S : Nat → Prop) (size : Nat) (v : Value) (n : Nat) (c : Nat → List Value) : Prop :=
 ∃ A cap, v = .slice A n cap ∧ n ≤ cap ∧ (n = 0 ∨ ∃ b o, A = some ⟨b, o, none⟩ ∧ S b ∧ ∀ i, i < n → ∀ j u, (c i)[j]? = some u → w.cell? ⟨b, o + i * size + j, none⟩ = some u)
section
variable {w w' : World} {S S' : Nat → Prop} {B size n : Nat} {v : Value} {xs : List Value} {c : Nat → List Value}
theorem RdP.keep (h : RdP w S size v n xs) (hk : ∀ p : Addr, S p.block → w'.cell? p = w.cell? p) (hS : ∀ b, S b → S' b) : RdP w' S' size v n xs := by
 obtain ⟨hl, A, c, hv, hc, h2⟩ := h
 refine ⟨hl, A, c, hv, hc, ?_⟩
 rcases h2 with h2 | ⟨b, o, hA, hb, hcell⟩
 ·
  exact .inl h2
 exact .inr ⟨b, o, hA, hS b hb, fun j u hu => (hk ⟨b, o + j, none⟩ hb).trans (hcell j u hu)⟩
theorem RowP.keep (h : RowP w S size v n c) (hk : ∀ p : Addr, S p.block → w'.cell? p = w.cell? p) (hS : ∀ b, S b → S' b) : RowP w' S' size v n c := by
 obtain ⟨A, cap, hv, hc, h2⟩ := h
 refine ⟨A, cap, hv, hc, ?_⟩
 rcases h2 with h2 | ⟨b, o, hA, hb, hcell⟩
 ·
  exact .inl h2
 exact .inr ⟨b, o, hA, hS b hb, fun i hi j u hu => (hk ⟨b, o + i * size + j, none⟩ hb).trans (hcell i hi j u hu)⟩
theorem RdP.rd (h : RdP w S size v n xs) (hS : ∀ b, S b → b < B) : Rd w B size v n xs := by
 obtain ⟨hl, A, c, hv, hc, h2⟩ := h
 refine ⟨hl, A, c, hv, hc, ?_⟩
 rcases h2 with h2 | ⟨b, o, hA, hb, hcell⟩
 ·
  exact .inl h2
 exact .inr ⟨b, o, hA, hS b hb, hcell⟩
theorem RowP.row (h : RowP w S size v n c) (hS : ∀ b, S b → b < B) : Row w B size v n c := by
 obtain ⟨A, cap, hv, hc, h2⟩ := h
 refine ⟨A, cap, hv, hc, ?_⟩
 rcases h2 with h2 | ⟨b, o, hA, hb, hcell⟩
 ·
  exact .inl h2
 exact .inr ⟨b, o, hA, hS b hb, hcell⟩
end
inductive RdValP (w : World) (S : Nat → Prop) : Val → List Value → Prop
 | mk (k : Int) (b : Bool) (n : Int) (s : List UInt8) (id : Int) (ks is : List Val) (rs : List Raw) (vk vi vr : Value) (ck ci : Nat → List Value)
   (hn : I64 k ∧ I64 n ∧ I64 id) (hs : s.length ≤ 140737488351232) (hl : ks.length ≤ 140737488351232 ∧ is.length ≤ 140737488351232 ∧ rs.length ≤ 140737488351232) (hri : ∀ r ∈ rs, RawIn r)
   (hk : RowP w S 8 vk ks.length ck) (hkr : ∀ (i : Nat) (h : i < ks.length), RdValP w S ks[i] (ck i))
   (hi : RowP w S 8 vi is.length ci) (hir : ∀ (i : Nat) (h : i < is.length), RdValP w S is[i] (ci i))
   (hr : RdP w S 2 vr rs.length (rawsV rs)) : RdValP w S (.mk k b n s id ks is rs) [.int .i64 k, .bool b, .int .i64 n, .string ⟨s.toArray⟩, .int .i64 id, vk, vi, vr]
theorem RdValP.keep {w w' : World} {S S' : Nat → Prop} {v : Val} {cs : List Value} (h : RdValP w S v cs) (hk : ∀ p : Addr, S p.block → w'.cell? p = w.cell? p) (hS : ∀ b, S b → S' b) : RdValP w' S' v cs := by
 induction h with
 | mk k b n s id ks is rs vk vi vr ck ci hn hs hl hri h1 _ h2 _ h3 ih1 ih2 =>
  exact .mk k b n s id ks is rs vk vi vr ck ci hn hs hl hri (h1.keep hk hS) ih1 (h2.keep hk hS) ih2 (h3.keep hk hS)
theorem RdValP.rd {w : World} {S : Nat → Prop} {B : Nat} {v : Val} {cs : List Value} (h : RdValP w S v cs) (hS : ∀ b, S b → b < B) : RdVal w B v cs := by
 induction h with
 | mk k b n s id ks is rs vk vi vr ck ci hn hs hl hri h1 _ h2 _ h3 ih1 ih2 =>
  exact .mk k b n s id ks is rs vk vi vr ck ci hn hs hl hri (h1.row hS) ih1 (h2.row hS) ih2 (h3.rd hS)
theorem RdVal.toP {w : World} {B : Nat} {v : Val} {cs : List Value} (h : RdVal w B v cs) : RdValP w (· < B) v cs := by
 induction h with
 | mk k b n s id ks is rs vk vi vr ck ci hn hs hl hri h1 _ h2 _ h3 ih1 ih2 =>
  exact .mk k b n s id ks is rs vk vi vr ck ci hn hs hl hri h1 ih1 h2 ih2 h3
def RdValsP (w : World) (S : Nat → Prop) (v : Value) (xs : List Val) : Prop := ∃ c : Nat → List Value, RowP w S 8 v xs.length c ∧ ∀ (i : Nat) (h : i < xs.length), RdValP w S xs[i] (c i)
theorem RdValsP.keep {w w' : World} {S S' : Nat → Prop} {v : Value} {xs : List Val} (h : RdValsP w S v xs) (hk : ∀ p : Addr, S p.block → w'.cell? p = w.cell? p) (hS : ∀ b, S b → S' b) : RdValsP w' S' v xs := by
 obtain ⟨c, h1, h2⟩ := h
 exact ⟨c, h1.keep hk hS, fun i hi => (h2 i hi).keep hk hS⟩
structure ValP (w : World) (S : Nat → Prop) (x : Val) (vk vi vr : Value) : Prop where
 ints : I64 x.kind ∧ I64 x.num ∧ I64 x.id
 strl : x.str.length ≤ 140737488351232
 lens : x.keys.length ≤ 140737488351232 ∧ x.items.length ≤ 140737488351232 ∧ x.rest.length ≤ 140737488351232
 raws : ∀ r ∈ x.rest, RawIn r
 keys : RdValsP w S vk x.keys
 items : RdValsP w S vi x.items
 rest : RdP w S 2 vr x.rest.length (rawsV x.rest)
theorem ValP.rd {w : World} {S : Nat → Prop} {x : Val} {vk vi vr : Value} (h : ValP w S x vk vi vr) : RdValP w S x (valV x vk vi vr) := by
 obtain ⟨hn, hs, hl, hri, ⟨ck, h1, h2⟩, ⟨ci, h3, h4⟩, h5⟩ := h
 cases x
 exact .mk _ _ _ _ _ _ _ _ vk vi vr ck ci hn hs hl hri h1 h2 h3 h4 h5
theorem ValP.at_ {w : World} {S : Nat → Prop} {B : Nat} {x : Val} {vk vi vr : Value} (h : ValP w S x vk vi vr) (hS : ∀ b, S b → b < B) : ValAt w B x vk vi vr := by
 obtain ⟨hn, hs, hl, hri, ⟨ck, h1, h2⟩, ⟨ci, h3, h4⟩, h5⟩ := h
 exact ⟨hn, hs, hl, hri, ⟨ck, h1.row hS, fun i hi => (h2 i hi).rd hS⟩, ⟨ci, h3.row hS, fun i hi => (h4 i hi).rd hS⟩, h5.rd hS⟩
theorem ValP.keep {w w' : World} {S S' : Nat → Prop} {x : Val} {vk vi vr : Value} (h : ValP w S x vk vi vr) (hk : ∀ p : Addr, S p.block → w'.cell? p = w.cell? p) (hS : ∀ b, S b → S' b) : ValP w' S' x vk vi vr :=
 ⟨h.ints, h.strl, h.lens, h.raws, h.keys.keep hk hS, h.items.keep hk hS, h.rest.keep hk hS⟩
/-! rows one behind the other -/
def rowsV (c : Nat → List Value) : Nat → List Value
 | 0 => []
 | n+1 => rowsV c n ++ c n
theorem rowsV_len (c : Nat → List Value) (size n : Nat) (h : ∀ i, i < n → (c i).length = size) : (rowsV c n).length = n * size := by
 induction n with
 | zero => simp [rowsV]
 | succ n ih => rw [rowsV, List.length_append, ih (fun i hi => h i (by omega)), h n (by omega), Nat.add_mul]; omega
theorem rowsV_get (c : Nat → List Value) (size n : Nat) (h : ∀ i, i < n → (c i).length = size) (i j : Nat) (hi : i < n) (hj : j < size) : (rowsV c n)[i * size + j]? = (c i)[j]? := by
 induction n with
 | zero => omega
 | succ n ih =>
  have hl := rowsV_len c size n (fun i hi => h i (by omega))
  rw [rowsV]
  by_cases hin : i < n
  ·
   have : i * size + j < n * size := by
    have h1 : (i + 1) * size ≤ n * size := Nat.mul_le_mul_right _ hin
    rw [Nat.add_mul] at h1; omega
   rw [List.getElem?_append_left (by omega)]
   exact ih (fun i hi => h i (by omega)) hin
  obtain rfl : i = n := by omega
  rw [List.getElem?_append_right (by omega), hl]
  congr 1
  omega
theorem rowsV_inv (c : Nat → List Value) (size n : Nat) (hs : 0 < size) (h : ∀ i, i < n → (c i).length = size) (q : Nat) (u : Value) (hq : (rowsV c n)[q]? = some u) : q / size < n ∧ (c (q / size))[q % size]? = some u := by
 have hl := rowsV_len c size n h
 have hlt : q < n * size := by rw [← hl]; exact (List.getElem?_eq_some_iff.1 hq).1
 have h1 : q / size < n := Nat.div_lt_of_lt_mul (by rwa [Nat.mul_comm] at hlt)
 refine ⟨h1, ?_⟩
 have h2 := rowsV_get c size n h (q / size) (q % size) h1 (Nat.mod_lt _ hs)
 rw [show q / size * size + q % size = q by rw [Nat.mul_comm]; exact Nat.div_add_mod q size] at h2
 rw [← h2]; exact hq
theorem Row.flat {w : World} {B size n cap : Nat} {A : Option Addr} {c : Nat → List Value} (h : Row w B size (.slice A n cap) n c) (hs : 0 < size) (hc : ∀ i, i < n → (c i).length = size) (a : Addr) (hA : A = some a) :
  ∀ j u, (rowsV c n)[j]? = some u → w.cell? (a.add j) = some u := by
 intro q u hq
 obtain ⟨h1, h2⟩ := rowsV_inv c size n hs hc q u hq
 obtain ⟨A', c', hv, _, h3⟩ := h
 injection hv with h4 h5 h6
 subst h4
 rcases h3 with h3 | ⟨b, o, hb, _, hcell⟩
 ·
  rw [h3] at h1; exact absurd h1 (Nat.not_lt_zero _)
 rw [hb] at hA
 injection hA with hA
 subst hA
 have e : (⟨b, o, none⟩ : Addr).add q = ⟨b, o + q / size * size + q % size, none⟩ := by
  unfold Addr.add
  split <;> simp_all
  rw [Nat.add_assoc, Nat.mul_comm, Nat.div_add_mod]
 rw [e]
 exact hcell _ h1 _ _ h2
theorem RowP.of_own {w : World} {base n size : Nat} {e : TypeId} {v : Value} {c : Nat → List Value} (h : w.ownsRow base e size v n (rowsV c n)) (hc : ∀ i, i < n → (c i).length = size) : RowP w (fun b => v.ownBlock = some b) size v n c := by
 have h0 := h
 obtain ⟨hl, h2⟩ := h
 rcases h2 with ⟨rfl, rfl⟩ | ⟨g, cap, cur, rfl, hb, hh, hn, hm, hsz, ht⟩
 ·
  exact ⟨none, 0, rfl, Nat.le_refl _, .inl rfl⟩
 refine ⟨_, cap, rfl, hn, .inr ⟨g, 0, rfl, rfl, fun i hi j u hu => ?_⟩⟩
 have hj : j < size := by rw [← hc i hi]; exact (List.getElem?_eq_some_iff.1 hu).1
 have := h0.cells (g := g) rfl (i * size + j) u (by rw [rowsV_get c size n hc i j hi hj]; exact hu)
 have e : (⟨g, 0, none⟩ : Addr).add (i * size + j) = ⟨g, 0 + i * size + j, none⟩ := by unfold Addr.add; split <;> simp_all
 rwa [e] at this
end Go.Proofs.Ytgeapglanckjpaa
namespace Go.Proofs.Ytgeapglanckjpaa
open Go.ChangeShapes Go.WideShapes Go.ChangeAt Go.RowKit
theorem info_val : (Try.prog.info? 34).map (fun i => (i.zero, i.size, i.bytes)) = some (some (.agg #[.int .i64 0, .bool false, .int .i64 0, .string ByteArray.empty, .int .i64 0, .slice none 0 0, .slice none 0 0, .slice none 0 0]), 8, 120) := by kernel_rfl
theorem info_raw : (Try.prog.info? 56).map (fun i => (i.zero, i.size, i.bytes)) = some (some (.agg #[.int .i64 0, .string ByteArray.empty]), 2, 24) := by kernel_rfl
def ClonedV (w : World) (e : TypeId) (size n : Nat) (xs : List Value) (r : Ending) (w' : World) : Prop :=
 ∃ v', r = .returned v' ∧ w'.ownsRow w.heap.size e size v' n xs ∧ Below w.heap.size w w'
set_option maxRecDepth 100000 in
theorem clonev_any (n : Nat) (A : Option Addr) (cap : Nat) (xs : List Value) (w : World) (hn : n ≤ 1000000) (hA : A = none → n = 0) (hl : xs.length = n * 8) (hr : ∀ a, A = some a → ∀ j u, xs[j]? = some u → w.cell? (a.add j) = some u) (hlt : ∀ a, A = some a → 0 < n → a.block < w.heap.size) (h1 : ∀ u ∈ xs, u.oneCell' = true) :
  Calls Try.prog 59 #[.slice A n cap] w (ClonedV w 34 8 n xs) := by
 have heq := fun (W : World) => Lib.run_eql_slice_nil (P := Try.prog) W 31 34 A n cap 0 0 Try.underlying31
 cases A with
 | none =>
  obtain rfl := hA rfl
  simp only [Option.isNone_none] at heq
  have hx : xs = [] := by simpa using hl
  subst hx
  clear hr hlt h1
  go_enter Try.func59, Try.ntmps59
  go_wp2_with fail
  go_ret
  exact ⟨_, rfl, ⟨rfl, .inl ⟨rfl, rfl⟩⟩, Below.refl _ _⟩
 | some a =>
  simp only [Option.isNone_some] at heq
  have hcell : ∀ j u, xs[j]? = some u → (w.alloc (.cells #[] 34)).cell? (a.add j) = some u := by
   intro j u hu
   have h := hr a rfl j u hu
   have hb := World.block_lt_of_cell? _ _ h
   rw [← h]
   exact World.cell?_of_block (Below.heap_alloc w _ _ hb)
  have HR := Lib.hid hcell
  have hown : (w.alloc (.cells #[] 34)).ownsRow w.heap.size 34 8 (.slice (some ⟨w.heap.size, 0, none⟩) 0 0) 0 [] :=
   ⟨rfl, .inr ⟨w.heap.size, 0, #[], rfl, Nat.le_refl _, heap_alloc_new w _, Nat.le_refl _, by simp [maxLen], rfl, rfl⟩⟩
  have h01 := (Below.refl w.heap.size w).alloc (Nat.le_refl _) (.cells #[] 34)
  have Hown := Lib.hid hown
  have H1 := Lib.hid h1
  have HL := Lib.hid hl
  obtain ⟨i0, hi, hz0, hz1, hz2⟩ := info_parts info_val
  have Hi := Lib.hid hi
  have Hz0 := Lib.hid hz0
  have Hz1 := Lib.hid hz1
  have Hz2 := Lib.hid hz2
  clear hr hcell hown h1 hl hlt hA hi hz0 hz1 hz2
  go_enter Try.func59, Try.ntmps59
  go_wp2_with (at_builtin; refine wpList_append_own _ rfl _ _ _ rfl w.heap.size 34 i0 _ 8 120 Try.underlying31 Hi.out Hz0.out Hz1.out Hz2.out rfl (by decide) _ 0 [] rfl Hown.out a n cap xs rfl HL.out HR.out H1.out (by simp only [maxLen]; omega) (by omega) (by simp) ?_; intro v' w2 hown2 hgrow _)
  rw [Nat.zero_add, List.nil_append] at hown2
  have h02 : Below w.heap.size w w2 := h01.grown hgrow (by simp) (fun k hk => (Hown.out.lt k hk).1)
  have HO := Lib.hid hown2
  clear hown2 hgrow
  go_wp2_with fail
  go_ret
  exact ⟨_, rfl, HO.out, h02⟩
set_option maxRecDepth 100000 in
theorem cloner_any (n : Nat) (A : Option Addr) (cap : Nat) (xs : List Value) (w : World) (hn : n ≤ 1000000) (hA : A = none → n = 0) (hl : xs.length = n * 2) (hr : ∀ a, A = some a → ∀ j u, xs[j]? = some u → w.cell? (a.add j) = some u) (hlt : ∀ a, A = some a → 0 < n → a.block < w.heap.size) (h1 : ∀ u ∈ xs, u.oneCell' = true) :
  Calls Try.prog 58 #[.slice A n cap] w (ClonedV w 56 2 n xs) := by
 have heq := fun (W : World) => Lib.run_eql_slice_nil (P := Try.prog) W 32 56 A n cap 0 0 Try.underlying32
 cases A with
 | none =>
  obtain rfl := hA rfl
  simp only [Option.isNone_none] at heq
  have hx : xs = [] := by simpa using hl
  subst hx
  clear hr hlt h1
  go_enter Try.func58, Try.ntmps58
  go_wp2_with fail
  go_ret
  exact ⟨_, rfl, ⟨rfl, .inl ⟨rfl, rfl⟩⟩, Below.refl _ _⟩
 | some a =>
  simp only [Option.isNone_some] at heq
  have hcell : ∀ j u, xs[j]? = some u → (w.alloc (.cells #[] 56)).cell? (a.add j) = some u := by
   intro j u hu
   have h := hr a rfl j u hu
   have hb := World.block_lt_of_cell? _ _ h
   rw [← h]
   exact World.cell?_of_block (Below.heap_alloc w _ _ hb)
  have HR := Lib.hid hcell
  have hown : (w.alloc (.cells #[] 56)).ownsRow w.heap.size 56 2 (.slice (some ⟨w.heap.size, 0, none⟩) 0 0) 0 [] :=
   ⟨rfl, .inr ⟨w.heap.size, 0, #[], rfl, Nat.le_refl _, heap_alloc_new w _, Nat.le_refl _, by simp [maxLen], rfl, rfl⟩⟩
  have h01 := (Below.refl w.heap.size w).alloc (Nat.le_refl _) (.cells #[] 56)
  have Hown := Lib.hid hown
  have H1 := Lib.hid h1
  have HL := Lib.hid hl
  obtain ⟨i0, hi, hz0, hz1, hz2⟩ := info_parts info_raw
  have Hi := Lib.hid hi
  have Hz0 := Lib.hid hz0
  have Hz1 := Lib.hid hz1
  have Hz2 := Lib.hid hz2
  clear hr hcell hown h1 hl hlt hA hi hz0 hz1 hz2
  go_enter Try.func58, Try.ntmps58
  go_wp2_with (at_builtin; refine wpList_append_own _ rfl _ _ _ rfl w.heap.size 56 i0 _ 2 24 Try.underlying32 Hi.out Hz0.out Hz1.out Hz2.out rfl (by decide) _ 0 [] rfl Hown.out a n cap xs rfl HL.out HR.out H1.out (by simp only [maxLen]; omega) (by omega) (by simp) ?_; intro v' w2 hown2 hgrow _)
  rw [Nat.zero_add, List.nil_append] at hown2
  have h02 : Below w.heap.size w w2 := h01.grown hgrow (by simp) (fun k hk => (Hown.out.lt k hk).1)
  have HO := Lib.hid hown2
  clear hown2 hgrow
  go_wp2_with fail
  go_ret
  exact ⟨_, rfl, HO.out, h02⟩
end Go.Proofs.Ytgeapglanckjpaa
namespace Go.Proofs.Ytgeapglanckjpaa
open Go.ChangeShapes Go.WideShapes Go.ChangeAt Go.RowKit
def setL (xs : List Value) : Nat → List Value → List Value
 | _, [] => xs
 | o, v :: r => setL (xs.set o v) (o + 1) r
theorem setL_len : ∀ (vs xs : List Value) (o : Nat), (setL xs o vs).length = xs.length
 | [], _, _ => rfl
 | v :: r, xs, o => by rw [setL, setL_len r]; simp
theorem setL_out : ∀ (vs xs : List Value) (o q : Nat), (q < o ∨ o + vs.length ≤ q) → (setL xs o vs)[q]? = xs[q]?
 | [], _, _, _, _ => rfl
 | v :: r, xs, o, q, h => by
  simp only [List.length_cons] at h
  rw [setL, setL_out r _ _ _ (by omega), List.getElem?_set_ne (by omega)]
theorem setL_in : ∀ (vs xs : List Value) (o j : Nat), j < vs.length → o + vs.length ≤ xs.length → (setL xs o vs)[o + j]? = vs[j]?
 | [], _, _, _, h, _ => by simp at h
 | v :: r, xs, o, j, h, hl => by
  simp only [List.length_cons] at h hl
  rw [setL]
  cases j with
  | zero =>
   rw [setL_out r _ _ _ (by omega), Nat.add_zero, List.getElem?_set_self (by omega)]
   rfl
  | succ j =>
   rw [show o + (j + 1) = o + 1 + j by omega, setL_in r _ _ j (by omega) (by simp; omega)]
   rfl
theorem own_setCells {base n size cap g : Nat} {e : TypeId} : ∀ (vs xs : List Value) (o : Nat) (w : World), w.ownsRow base e size (.slice (some ⟨g, 0, none⟩) n cap) n xs →
  (w.setCells g o vs).ownsRow base e size (.slice (some ⟨g, 0, none⟩) n cap) n (setL xs o vs)
 | [], _, _, _, h => h
 | v :: r, _, o, _, h => own_setCells r _ (o + 1) _ (h.stored o v).1
theorem below_setCells {B g : Nat} {w0 : World} (hg : B ≤ g) : ∀ (vs : List Value) (o : Nat) (w : World), Below B w0 w → Below B w0 (w.setCells g o vs)
 | [], _, _, h => h
 | v :: r, o, _, h => below_setCells hg r (o + 1) _ (h.setCell hg v)
theorem size_setCellsX (g : Nat) : ∀ (vs : List Value) (o : Nat) (w : World), (w.setCells g o vs).heap.size = w.heap.size
 | [], _, _ => rfl
 | v :: r, o, w => by rw [World.setCells, size_setCellsX g r]; simp
theorem cell_setCells (g o : Nat) (vs : List Value) (w : World) (p : Addr) (hp : p.block ≠ g) : (w.setCells g o vs).cell? p = w.cell? p :=
 World.cell?_setCells_out g vs o w p (fun h => absurd h hp)
theorem own_there {w : World} {base n size cap g : Nat} {e : TypeId} {xs : List Value} (h : w.ownsRow base e size (.slice (some ⟨g, 0, none⟩) n cap) n xs) (o m : Nat) (hm : o + m ≤ n * size) : w.there g o m := by
 intro j hj
 refine ⟨?_, h.frozenAt (o + j)⟩
 rw [h.cellAt (o + j) (by omega), List.getElem?_eq_getElem (by rw [h.1]; omega)]
 rfl
def Tiled (size n : Nat) (xs : List Value) (c : Nat → List Value) : Prop := xs.length = n * size ∧ (∀ i, i < n → (c i).length = size) ∧ ∀ i, i < n → ∀ j u, (c i)[j]? = some u → xs[i * size + j]? = some u
theorem Tiled.of_rows (c : Nat → List Value) (size n : Nat) (h : ∀ i, i < n → (c i).length = size) : Tiled size n (rowsV c n) c :=
 ⟨rowsV_len c size n h, h, fun i hi j u hu => by
  have hj : j < size := by rw [← h i hi]; exact (List.getElem?_eq_some_iff.1 hu).1
  rw [rowsV_get c size n h i j hi hj]; exact hu⟩
theorem tile_lt {k n size : Nat} (h : k < n) : k * size + size ≤ n * size := by
 have := Nat.mul_le_mul_right size h
 rw [Nat.succ_mul] at this
 exact this
theorem Tiled.set {size n : Nat} {xs : List Value} {c : Nat → List Value} (h : Tiled size n xs c) (k : Nat) (cs : List Value) (hk : k < n) (hl : cs.length = size) : Tiled size n (setL xs (k * size) cs) (fun i => if i = k then cs else c i) := by
 obtain ⟨h1, h2, h3⟩ := h
 have hkn := tile_lt (size := size) hk
 refine ⟨by rw [setL_len, h1], fun i hi => ?_, fun i hi j u hu => ?_⟩
 ·
  show (if i = k then cs else c i).length = size
  split
  ·
   exact hl
  exact h2 i hi
 replace hu : (if i = k then cs else c i)[j]? = some u := hu
 by_cases e : i = k
 ·
  subst e
  rw [if_pos rfl] at hu
  rw [setL_in cs xs (i * size) j (List.getElem?_eq_some_iff.1 hu).1 (by omega)]
  exact hu
 rw [if_neg e] at hu
 have hj : j < size := by rw [← h2 i hi]; exact (List.getElem?_eq_some_iff.1 hu).1
 have : i * size + j < k * size ∨ k * size + cs.length ≤ i * size + j := by
  rcases Nat.lt_or_gt_of_ne e with h | h
  ·
   left; have := tile_lt (size := size) h; omega
  right; have := tile_lt (size := size) h; omega
 rw [setL_out cs xs (k * size) _ this]
 exact h3 i hi j u hu
theorem RowP.of_tiled {w : World} {base n size : Nat} {e : TypeId} {v : Value} {xs : List Value} {c : Nat → List Value} (h : w.ownsRow base e size v n xs) (hc : Tiled size n xs c) : RowP w (fun b => v.ownBlock = some b) size v n c := by
 have h0 := h
 obtain ⟨hl, h2⟩ := h
 rcases h2 with ⟨rfl, rfl⟩ | ⟨g, cap, cur, rfl, hb, hh, hn, hm, hsz, ht⟩
 ·
  exact ⟨none, 0, rfl, Nat.le_refl _, .inl rfl⟩
 refine ⟨_, cap, rfl, hn, .inr ⟨g, 0, rfl, rfl, fun i hi j u hu => ?_⟩⟩
 have := h0.cells (g := g) rfl (i * size + j) u (hc.2.2 i hi j u hu)
 have e : (⟨g, 0, none⟩ : Addr).add (i * size + j) = ⟨g, 0 + i * size + j, none⟩ := by unfold Addr.add; split <;> simp_all
 rwa [e] at this
theorem valV_one (x : Val) (vk vi vr : Value) (h1 : vk.oneCell' = true) (h2 : vi.oneCell' = true) (h3 : vr.oneCell' = true) : ∀ u ∈ valV x vk vi vr, u.oneCell' = true := by
 intro u hu
 simp only [valV, List.mem_cons, List.not_mem_nil, or_false] at hu
 rcases hu with rfl | rfl | rfl | rfl | rfl | rfl | rfl | rfl <;> first | assumption | rfl
end Go.Proofs.Ytgeapglanckjpaa
namespace Go.Proofs.Ytgeapglanckjpaa
open Go.ChangeShapes Go.WideShapes Go.ChangeAt Go.RowKit
theorem info_intC : (Try.prog.info? 3).map (fun i => (i.zero, i.size, i.bytes)) = some (some (.int .i64 0), 1, 8) := by kernel_rfl
end Go.Proofs.Ytgeapglanckjpaa
namespace Go.Proofs.Ytgeapglanckjpaa
open Go.ChangeShapes Go.WideShapes Go.ChangeAt Go.RowKit
structure Two (w : World) (B : Nat) (v1 : Value) (n1 : Nat) (xs1 : List Value) (v2 : Value) (n2 : Nat) (xs2 : List Value) : Prop where
 o1 : w.ownsRow B 3 1 v1 n1 xs1
 o2 : w.ownsRow B 9 1 v2 n2 xs2
 sp : ∀ k, v1.ownBlock = some k → v2.ownBlock = some k → False
section
variable {w w' : World} {B n1 n2 : Nat} {v1 v2 : Value} {xs1 xs2 : List Value}
theorem Two.nil (w : World) (B : Nat) : Two w B (.slice none 0 0) 0 [] (.slice none 0 0) 0 [] := ⟨World.ownsRow_nil _ _ _ _, World.ownsRow_nil _ _ _ _, fun k h => by cases h⟩
theorem Two.heap (h : Two w B v1 n1 xs1 v2 n2 xs2) (hk : ∀ k : Nat, B ≤ k → k < w.heap.size → w'.heap[k]? = w.heap[k]?) : Two w' B v1 n1 xs1 v2 n2 xs2 :=
 ⟨own_heap h.o1 hk, own_heap h.o2 hk, h.sp⟩
theorem Two.on (h : Two w B v1 n1 xs1 v2 n2 xs2) (hb : Below w.heap.size w w') : Two w' B v1 n1 xs1 v2 n2 xs2 := h.heap fun _ _ hk => hb.block _ hk
end
theorem hgr_below {w w1 : World} {B : Nat} {r : Option Nat} (h : w.grownBy w1 r) (hB : B ≤ w.heap.size) (hr : ∀ k, r = some k → B ≤ k) : Below B w w1 := (Below.refl B w).grown h hB hr
end Go.Proofs.Ytgeapglanckjpaa
namespace Go.Proofs.Ytgeapglanckjpaa
open Go.ChangeShapes Go.WideShapes Go.ChangeAt Go.RowKit Go.Joins
section
variable {H : Type} {enc : TypeId × Value → H} {w : World} {base : Nat} {spare : Nat → Bool} {held : Bool}
theorem size_elem {es sp : List (DataW H)} {y : DataW H} (h : y ∈ es) : SizeOf.sizeOf y < SizeOf.sizeOf (DataW.slice es sp) := by
 have h2 := List.sizeOf_lt_of_mem h
 simp only [DataW.slice.sizeOf_spec]
 omega
set_option maxRecDepth 100000 in
theorem open_rowsV {t e : TypeId} {size fuel : Nat} {cs : List Value} {x : DataW H × List MemPlace} (ht : Try.prog.underlying t = some (.slice e)) (hC : Try.prog.cellsOf e = size) (hpos : 0 < size)
  (h : DataW.trod enc Try.prog w base spare held fuel t cs = some x) (hs : Sz t x.1) :
  ∃ (A : Option Addr) (len cap : Nat), cs = [.slice A len cap] ∧ len ≤ cap ∧ len * Try.prog.bytesOf e ≤ 140737488351232 ∧
   (len = 0 ∨ ∃ b o, A = some ⟨b, o, none⟩ ∧ b < w.heap.size ∧ ∃ (N : Nat) (D : Nat → DataW H) (Pl : Nat → List MemPlace), ∀ i, i < len → ∃ cs', cs'.length = size ∧
    (∀ j u, cs'[j]? = some u → w.cell? ⟨b, o + i * size + j, none⟩ = some u) ∧ DataW.trod enc Try.prog w base spare held N e cs' = some (D i, Pl i) ∧ Sz e (D i) ∧ SizeOf.sizeOf (D i) < SizeOf.sizeOf x.1) := by
 rcases Go.Deep.open_slice ht h with ⟨rfl, _⟩ | ⟨a, len, cap, m, n, D, Pl, rfl, hb, hl, hm, hmm, rfl, hel⟩
 ·
  exact ⟨none, 0, 0, rfl, Nat.le_refl _, by simp, .inl rfl⟩
 have hlm : len ≤ m := by rw [hmm]; split <;> omega
 refine ⟨some a, len, cap, rfl, hl, ?_, ?_⟩
 ·
  have := hs.len ht
  simp only [List.length_map, List.length_range] at this
  exact Nat.le_trans (Nat.mul_le_mul_right _ (by omega)) this
 by_cases h0 : len = 0
 ·
  exact .inl h0
 right
 have hcell : ∀ i, i < len → ∃ cs', cs'.length = size ∧ (∀ j, j < size → w.cell? ((a.add (i * size)).add j) = cs'[j]?) ∧ DataW.trod enc Try.prog w base spare held n e cs' = some (D i, Pl i) := fun i hi => by
  obtain ⟨cs', h1, h2⟩ := hel i (by omega)
  rw [hC] at h1
  obtain ⟨_, h3, h4⟩ := World.cells?_some h1
  exact ⟨cs', h3, h4, h2⟩
 have h00 : ∃ u, w.cell? a = some u := by
  obtain ⟨cs', h1, h2, _⟩ := hcell 0 (by omega)
  have := h2 0 hpos
  have e0 : (a.add (0 * size)).add 0 = a := by simp [Addr.add]
  rw [e0] at this
  exact ⟨cs'[0]'(by omega), by rw [this]; exact List.getElem?_eq_getElem (by omega)⟩
 obtain ⟨u, hu⟩ := h00
 have hsp : a.spot = none := by
  cases hs : a.spot with
  | none => rfl
  | some s => simp [World.cell?, hs] at hu; split at hu <;> simp at hu
 obtain ⟨b, o, sp⟩ := a
 simp only at hsp
 subst hsp
 refine ⟨b, o, rfl, World.block_lt_of_cell? _ _ hu, n, D, Pl, fun i hi => ?_⟩
 obtain ⟨cs', h1, h2, h3⟩ := hcell i hi
 have hmem : D i ∈ (List.range len).map D := List.mem_map.2 ⟨i, by simpa using hi, rfl⟩
 refine ⟨cs', h1, fun j v hv => ?_, h3, hs.elem ht hmem, size_elem hmem⟩
 have hj : j < size := by rw [← h1]; exact (List.getElem?_eq_some_iff.1 hv).1
 have e1 : ((⟨b, o, none⟩ : Addr).add (i * size)).add j = ⟨b, o + i * size + j, none⟩ := by unfold Addr.add; split <;> split <;> simp_all
 rw [← e1, h2 j hj, hv]
end
end Go.Proofs.Ytgeapglanckjpaa

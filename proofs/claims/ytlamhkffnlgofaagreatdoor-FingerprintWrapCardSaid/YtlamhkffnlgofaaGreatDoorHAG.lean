/- Values all of whose parts lie in blocks of a set; how much a value holds; rows that a call owns, read as rows. What slices.Clone computes for values and for unknown parts. What slices.Clone computes for integers. Two rows of one-cell elements that a call owns, and appends to them within a region that draws. What schema.symbols computes. No condition. -/
import Derived.Test.YtlamhkffnlgofaaGreatDoorHAB
import Derived.Test.YtlamhkffnlgofaaGreatDoorHAA
import Derived.Deep.AppendLies
import Derived.Test.YtlamhkffnlgofaaGreatDoorHAF
set_option maxHeartbeats 1600000
namespace Go.Proofs.YtlamhkffnlgofaaGreatDoor
open Go.ChangeShapes Go.WideShapes Go.ChangeAt Go.RowKit
mutual
def wt : Val → Nat
 | .mk _ _ _ _ _ ks is rs => wtL ks + wtL is + rs.length + 1
def wtL : List Val → Nat
 | [] => 0
 | x :: r => wt x + wtL r
end
theorem wt_eq (x : Val) : wt x = wtL x.keys + wtL x.items + x.rest.length + 1 := by cases x; rw [wt]; rfl
theorem wt_pos (x : Val) : 1 ≤ wt x := by rw [wt_eq]; omega
theorem wtL_mem (l : List Val) (x : Val) (h : x ∈ l) : wt x ≤ wtL l := by
 induction l with
 | nil => simp at h
 | cons y r ih =>
  rw [wtL]
  rcases List.mem_cons.1 h with rfl | h
  ·
   omega
  have := ih h; omega
theorem wtL_len (l : List Val) : l.length ≤ wtL l := by
 induction l with
 | nil => simp
 | cons y r ih => rw [wtL, List.length_cons]; have := wt_pos y; omega
mutual
theorem sizeV_wt : ∀ (x : Val) (n : Int), 0 ≤ sizeV x n → (wt x : Int) ≤ n - sizeV x n
 | .mk _ _ _ s _ ks is rs, n => by
  rw [sizeV, wt]
  intro h
  have h1 := sizeR_le rs (n - (10 + s.length + rs.length))
  have h2 := (sizeL_nodes ks (sizeR rs (n - (10 + s.length + rs.length)))).1
  have h3 := (sizeL_nodes is (sizeL ks (sizeR rs (n - (10 + s.length + rs.length))))).1
  have h4 := sizeL_wt is _ h
  have h5 := sizeL_wt ks (sizeR rs (n - (10 + s.length + rs.length))) (by omega)
  omega
theorem sizeL_wt : ∀ (l : List Val) (n : Int), 0 ≤ sizeL l n → (wtL l : Int) ≤ n - sizeL l n
 | [], n => by rw [sizeL, wtL]; omega
 | x :: r, n => by
  rw [sizeL, wtL]
  split
  ·
   omega
  intro h
  have h1 := sizeL_wt r _ h
  have h2 := (sizeL_nodes r (sizeV x n)).1
  have h3 := sizeV_wt x n (by omega)
  omega
end
def RdP (w : World) (S : Nat → Prop) (size : Nat) (v : Value) (n : Nat) (xs : List Value) : Prop :=
 xs.length = n * size ∧ ∃ A c, v = .slice A n c ∧ n ≤ c ∧ (n = 0 ∨ ∃ b o, A = some ⟨b, o, none⟩ ∧ S b ∧ ∀ j u, xs[j]? = some u → w.cell? ⟨b, o + j, none⟩ = some u)
def RowP (w : World) (S : Nat → Prop) (size : Nat) (v : Value) (n : Nat) (c : Nat → List Value) : Prop :=
 ∃ A cap, v = .slice A n cap ∧ n ≤ cap ∧ (n = 0 ∨ ∃ b o, A = some ⟨b, o, none⟩ ∧ S b ∧ ∀ i, i < n → ∀ j u, (c i)[j]? = some u → w.cell? ⟨b, o + i * size + j, none⟩ = some u)
section
variable {w w' : World} {S S' : Nat → Prop} {B size n : Nat} {v : Value} {xs : List Value} {c : Nat → List Value}
theorem RdP.keep (h : RdP w S size v n xs) (hk : ∀ p : Addr, S p.block → w'.cell? p = w.cell? p) (hS : ∀ b, S b → S' b) : RdP w' S' size v n xs := by
 obtain ⟨hl, A, c, hv, hc, h2⟩ := h
 refine ⟨hl, A, c, hv, hc, ?_⟩
 rcases h2 with h2 | ⟨b, o, hA, hb, hcell⟩
 ·
  exact .inl h2
 exact .inr ⟨b, o, hA, hS b hb, fun j u hu => (hk ⟨b, o + j, none⟩ hb).trans (hcell j u hu)⟩
theorem RowP.keep (h : RowP w S size v n c) (hk : ∀ p : Addr, S p.block → w'.cell? p = w.cell? p) (hS : ∀ b, S b → S' b) : RowP w' S' size v n c := by
 obtain ⟨A, cap, hv, hc, h2⟩ := h
 refine ⟨A, cap, hv, hc, ?_⟩
 rcases h2 with h2 | ⟨b, o, hA, hb, hcell⟩
 ·
  exact .inl h2
 exact .inr ⟨b, o, hA, hS b hb, fun i hi j u hu => (hk ⟨b, o + i * size + j, none⟩ hb).trans (hcell i hi j u hu)⟩
theorem RdP.rd (h : RdP w S size v n xs) (hS : ∀ b, S b → b < B) : Rd w B size v n xs := by
 obtain ⟨hl, A, c, hv, hc, h2⟩ := h
 refine ⟨hl, A, c, hv, hc, ?_⟩
 rcases h2 with h2 | ⟨b, o, hA, hb, hcell⟩
 ·
  exact .inl h2
 exact .inr ⟨b, o, hA, hS b hb, hcell⟩
theorem RowP.row (h : RowP w S size v n c) (hS : ∀ b, S b → b < B) : Row w B size v n c := by
 obtain ⟨A, cap, hv, hc, h2⟩ := h
 refine ⟨A, cap, hv, hc, ?_⟩
 rcases h2 with h2 | ⟨b, o, hA, hb, hcell⟩
 ·
  exact .inl h2
 exact .inr ⟨b, o, hA, hS b hb, hcell⟩
end
inductive RdValP (w : World) (S : Nat → Prop) : Val → List Value → Prop
 | mk (k : Int) (b : Bool) (n : Int) (s : List UInt8) (id : Int) (ks is : List Val) (rs : List Raw) (vk vi vr : Value) (ck ci : Nat → List Value)
   (hn : I64 k ∧ I64 n ∧ I64 id) (hs : s.length ≤ 140737488351232) (hl : ks.length ≤ 1172812402926 ∧ is.length ≤ 1172812402926 ∧ rs.length ≤ 5864062014634) (hri : ∀ r ∈ rs, RawIn r)
   (hk : RowP w S 8 vk ks.length ck) (hkr : ∀ (i : Nat) (h : i < ks.length), RdValP w S ks[i] (ck i))
   (hi : RowP w S 8 vi is.length ci) (hir : ∀ (i : Nat) (h : i < is.length), RdValP w S is[i] (ci i))
   (hr : RdP w S 2 vr rs.length (rawsV rs)) : RdValP w S (.mk k b n s id ks is rs) [.int .i64 k, .bool b, .int .i64 n, .string ⟨s.toArray⟩, .int .i64 id, vk, vi, vr]
theorem RdValP.keep {w w' : World} {S S' : Nat → Prop} {v : Val} {cs : List Value} (h : RdValP w S v cs) (hk : ∀ p : Addr, S p.block → w'.cell? p = w.cell? p) (hS : ∀ b, S b → S' b) : RdValP w' S' v cs := by
 induction h with
 | mk k b n s id ks is rs vk vi vr ck ci hn hs hl hri h1 _ h2 _ h3 ih1 ih2 =>
  exact .mk k b n s id ks is rs vk vi vr ck ci hn hs hl hri (h1.keep hk hS) ih1 (h2.keep hk hS) ih2 (h3.keep hk hS)
theorem RdValP.rd {w : World} {S : Nat → Prop} {B : Nat} {v : Val} {cs : List Value} (h : RdValP w S v cs) (hS : ∀ b, S b → b < B) : RdVal w B v cs := by
 induction h with
 | mk k b n s id ks is rs vk vi vr ck ci hn hs hl hri h1 _ h2 _ h3 ih1 ih2 =>
  exact .mk k b n s id ks is rs vk vi vr ck ci hn hs hl hri (h1.row hS) ih1 (h2.row hS) ih2 (h3.rd hS)
theorem RdVal.toP {w : World} {B : Nat} {v : Val} {cs : List Value} (h : RdVal w B v cs) : RdValP w (· < B) v cs := by
 induction h with
 | mk k b n s id ks is rs vk vi vr ck ci hn hs hl hri h1 _ h2 _ h3 ih1 ih2 =>
  exact .mk k b n s id ks is rs vk vi vr ck ci hn hs hl hri h1 ih1 h2 ih2 h3
def RdValsP (w : World) (S : Nat → Prop) (v : Value) (xs : List Val) : Prop := ∃ c : Nat → List Value, RowP w S 8 v xs.length c ∧ ∀ (i : Nat) (h : i < xs.length), RdValP w S xs[i] (c i)
theorem RdValsP.keep {w w' : World} {S S' : Nat → Prop} {v : Value} {xs : List Val} (h : RdValsP w S v xs) (hk : ∀ p : Addr, S p.block → w'.cell? p = w.cell? p) (hS : ∀ b, S b → S' b) : RdValsP w' S' v xs := by
 obtain ⟨c, h1, h2⟩ := h
 exact ⟨c, h1.keep hk hS, fun i hi => (h2 i hi).keep hk hS⟩
structure ValP (w : World) (S : Nat → Prop) (x : Val) (vk vi vr : Value) : Prop where
 ints : I64 x.kind ∧ I64 x.num ∧ I64 x.id
 strl : x.str.length ≤ 140737488351232
 lenz : x.keys.length ≤ 1172812402926 ∧ x.items.length ≤ 1172812402926 ∧ x.rest.length ≤ 5864062014634
 raws : ∀ r ∈ x.rest, RawIn r
 keys : RdValsP w S vk x.keys
 items : RdValsP w S vi x.items
 rest : RdP w S 2 vr x.rest.length (rawsV x.rest)
theorem ValP.lens {w : World} {S : Nat → Prop} {x : Val} {vk vi vr : Value} (h : ValP w S x vk vi vr) : x.keys.length ≤ 140737488351232 ∧ x.items.length ≤ 140737488351232 ∧ x.rest.length ≤ 140737488351232 := by have := h.lenz; omega
theorem ValP.rd {w : World} {S : Nat → Prop} {x : Val} {vk vi vr : Value} (h : ValP w S x vk vi vr) : RdValP w S x (valV x vk vi vr) := by
 obtain ⟨hn, hs, hl, hri, ⟨ck, h1, h2⟩, ⟨ci, h3, h4⟩, h5⟩ := h
 cases x
 exact .mk _ _ _ _ _ _ _ _ vk vi vr ck ci hn hs hl hri h1 h2 h3 h4 h5
theorem ValP.at_ {w : World} {S : Nat → Prop} {B : Nat} {x : Val} {vk vi vr : Value} (h : ValP w S x vk vi vr) (hS : ∀ b, S b → b < B) : ValAt w B x vk vi vr := by
 obtain ⟨hn, hs, hl, hri, ⟨ck, h1, h2⟩, ⟨ci, h3, h4⟩, h5⟩ := h
 exact ⟨hn, hs, hl, hri, ⟨ck, h1.row hS, fun i hi => (h2 i hi).rd hS⟩, ⟨ci, h3.row hS, fun i hi => (h4 i hi).rd hS⟩, h5.rd hS⟩
theorem ValP.keep {w w' : World} {S S' : Nat → Prop} {x : Val} {vk vi vr : Value} (h : ValP w S x vk vi vr) (hk : ∀ p : Addr, S p.block → w'.cell? p = w.cell? p) (hS : ∀ b, S b → S' b) : ValP w' S' x vk vi vr :=
 ⟨h.ints, h.strl, h.lenz, h.raws, h.keys.keep hk hS, h.items.keep hk hS, h.rest.keep hk hS⟩
/-! rows one behind the other -/
def rowsV (c : Nat → List Value) : Nat → List Value
 | 0 => []
 | n+1 => rowsV c n ++ c n
theorem rowsV_len (c : Nat → List Value) (size n : Nat) (h : ∀ i, i < n → (c i).length = size) : (rowsV c n).length = n * size := by
 induction n with
 | zero => simp [rowsV]
 | succ n ih => rw [rowsV, List.length_append, ih (fun i hi => h i (by omega)), h n (by omega), Nat.add_mul]; omega
theorem rowsV_get (c : Nat → List Value) (size n : Nat) (h : ∀ i, i < n → (c i).length = size) (i j : Nat) (hi : i < n) (hj : j < size) : (rowsV c n)[i * size + j]? = (c i)[j]? := by
 induction n with
 | zero => omega
 | succ n ih =>
  have hl := rowsV_len c size n (fun i hi => h i (by omega))
  rw [rowsV]
  by_cases hin : i < n
  ·
   have : i * size + j < n * size := by
    have h1 : (i + 1) * size ≤ n * size := Nat.mul_le_mul_right _ hin
    rw [Nat.add_mul] at h1; omega
   rw [List.getElem?_append_left (by omega)]
   exact ih (fun i hi => h i (by omega)) hin
  obtain rfl : i = n := by omega
  rw [List.getElem?_append_right (by omega), hl]
  congr 1
  omega
theorem rowsV_inv (c : Nat → List Value) (size n : Nat) (hs : 0 < size) (h : ∀ i, i < n → (c i).length = size) (q : Nat) (u : Value) (hq : (rowsV c n)[q]? = some u) : q / size < n ∧ (c (q / size))[q % size]? = some u := by
 have hl := rowsV_len c size n h
 have hlt : q < n * size := by rw [← hl]; exact (List.getElem?_eq_some_iff.1 hq).1
 have h1 : q / size < n := Nat.div_lt_of_lt_mul (by rwa [Nat.mul_comm] at hlt)
 refine ⟨h1, ?_⟩
 have h2 := rowsV_get c size n h (q / size) (q % size) h1 (Nat.mod_lt _ hs)
 rw [show q / size * size + q % size = q by rw [Nat.mul_comm]; exact Nat.div_add_mod q size] at h2
 rw [← h2]; exact hq
theorem Row.flat {w : World} {B size n cap : Nat} {A : Option Addr} {c : Nat → List Value} (h : Row w B size (.slice A n cap) n c) (hs : 0 < size) (hc : ∀ i, i < n → (c i).length = size) (a : Addr) (hA : A = some a) :
  ∀ j u, (rowsV c n)[j]? = some u → w.cell? (a.add j) = some u := by
 intro q u hq
 obtain ⟨h1, h2⟩ := rowsV_inv c size n hs hc q u hq
 obtain ⟨A', c', hv, _, h3⟩ := h
 injection hv with h4 h5 h6
 subst h4
 rcases h3 with h3 | ⟨b, o, hb, _, hcell⟩
 ·
  rw [h3] at h1; exact absurd h1 (Nat.not_lt_zero _)
 rw [hb] at hA
 injection hA with hA
 subst hA
 have e : (⟨b, o, none⟩ : Addr).add q = ⟨b, o + q / size * size + q % size, none⟩ := by
  unfold Addr.add
  split <;> simp_all
  rw [Nat.add_assoc, Nat.mul_comm, Nat.div_add_mod]
 rw [e]
 exact hcell _ h1 _ _ h2
theorem RowP.of_own {w : World} {base n size : Nat} {e : TypeId} {v : Value} {c : Nat → List Value} (h : w.ownsRow base e size v n (rowsV c n)) (hc : ∀ i, i < n → (c i).length = size) : RowP w (fun b => v.ownBlock = some b) size v n c := by
 have h0 := h
 obtain ⟨hl, h2⟩ := h
 rcases h2 with ⟨rfl, rfl⟩ | ⟨g, cap, cur, rfl, hb, hh, hn, hm, hsz, ht⟩
 ·
  exact ⟨none, 0, rfl, Nat.le_refl _, .inl rfl⟩
 refine ⟨_, cap, rfl, hn, .inr ⟨g, 0, rfl, rfl, fun i hi j u hu => ?_⟩⟩
 have hj : j < size := by rw [← hc i hi]; exact (List.getElem?_eq_some_iff.1 hu).1
 have := h0.cells (g := g) rfl (i * size + j) u (by rw [rowsV_get c size n hc i j hi hj]; exact hu)
 have e : (⟨g, 0, none⟩ : Addr).add (i * size + j) = ⟨g, 0 + i * size + j, none⟩ := by unfold Addr.add; split <;> simp_all
 rwa [e] at this
end Go.Proofs.YtlamhkffnlgofaaGreatDoor
namespace Go.Proofs.YtlamhkffnlgofaaGreatDoor
open Go.ChangeShapes Go.WideShapes Go.ChangeAt Go.RowKit
theorem info_val : (Tryz.prog.info? 81).map (fun i => (i.zero, i.size, i.bytes)) = some (some (.agg #[.int .i64 0, .bool false, .int .i64 0, .string ByteArray.empty, .int .i64 0, .slice none 0 0, .slice none 0 0, .slice none 0 0]), 8, 120) := by kernel_rfl
theorem info_raw : (Tryz.prog.info? 129).map (fun i => (i.zero, i.size, i.bytes)) = some (some (.agg #[.int .i64 0, .string ByteArray.empty]), 2, 24) := by kernel_rfl
def ClonedV (w : World) (e : TypeId) (size n : Nat) (xs : List Value) (r : Ending) (w' : World) : Prop :=
 ∃ v', r = .returned v' ∧ w'.ownsRow w.heap.size e size v' n xs ∧ Below w.heap.size w w'
set_option maxRecDepth 100000 in
theorem clonev_any (n : Nat) (A : Option Addr) (cap : Nat) (xs : List Value) (w : World) (hn : n ≤ 1172812402926) (hA : A = none → n = 0) (hl : xs.length = n * 8) (hr : ∀ a, A = some a → ∀ j u, xs[j]? = some u → w.cell? (a.add j) = some u) (hlt : ∀ a, A = some a → 0 < n → a.block < w.heap.size) (h1 : ∀ u ∈ xs, u.oneCell' = true) :
  Calls Tryz.prog 127 #[.slice A n cap] w (ClonedV w 81 8 n xs) := by
 have heq := fun (W : World) => Lib.run_eql_slice_nil (P := Tryz.prog) W 78 81 A n cap 0 0 Tryz.underlying78
 cases A with
 | none =>
  obtain rfl := hA rfl
  simp only [Option.isNone_none] at heq
  have hx : xs = [] := by simpa using hl
  subst hx
  clear hr hlt h1
  go_enter Tryz.func127, Tryz.ntmps127
  go_wp2_with fail
  go_ret
  exact ⟨_, rfl, ⟨rfl, .inl ⟨rfl, rfl⟩⟩, Below.refl _ _⟩
 | some a =>
  simp only [Option.isNone_some] at heq
  have hcell : ∀ j u, xs[j]? = some u → (w.alloc (.cells #[] 81)).cell? (a.add j) = some u := by
   intro j u hu
   have h := hr a rfl j u hu
   have hb := World.block_lt_of_cell? _ _ h
   rw [← h]
   exact World.cell?_of_block (Below.heap_alloc w _ _ hb)
  have HR := Lib.hid hcell
  have hown : (w.alloc (.cells #[] 81)).ownsRow w.heap.size 81 8 (.slice (some ⟨w.heap.size, 0, none⟩) 0 0) 0 [] :=
   ⟨rfl, .inr ⟨w.heap.size, 0, #[], rfl, Nat.le_refl _, heap_alloc_new w _, Nat.le_refl _, by simp [maxLen], rfl, rfl⟩⟩
  have h01 := (Below.refl w.heap.size w).alloc (Nat.le_refl _) (.cells #[] 81)
  have Hown := Lib.hid hown
  have H1 := Lib.hid h1
  have HL := Lib.hid hl
  obtain ⟨i0, hi, hz0, hz1, hz2⟩ := info_parts info_val
  have Hi := Lib.hid hi
  have Hz0 := Lib.hid hz0
  have Hz1 := Lib.hid hz1
  have Hz2 := Lib.hid hz2
  clear hr hcell hown h1 hl hlt hA hi hz0 hz1 hz2
  go_enter Tryz.func127, Tryz.ntmps127
  go_wp2_with (at_builtin; refine wpList_append_own _ rfl _ _ _ rfl w.heap.size 81 i0 _ 8 120 Tryz.underlying78 Hi.out Hz0.out Hz1.out Hz2.out rfl (by decide) _ 0 [] rfl Hown.out a n cap xs rfl HL.out HR.out H1.out (by simp only [maxLen]; omega) (by omega) (by simp) ?_; intro v' w2 hown2 hgrow _)
  rw [Nat.zero_add, List.nil_append] at hown2
  have h02 : Below w.heap.size w w2 := h01.grown hgrow (by simp) (fun k hk => (Hown.out.lt k hk).1)
  have HO := Lib.hid hown2
  clear hown2 hgrow
  go_wp2_with fail
  go_ret
  exact ⟨_, rfl, HO.out, h02⟩
set_option maxRecDepth 100000 in
theorem cloner_any (n : Nat) (A : Option Addr) (cap : Nat) (xs : List Value) (w : World) (hn : n ≤ 5864062014634) (hA : A = none → n = 0) (hl : xs.length = n * 2) (hr : ∀ a, A = some a → ∀ j u, xs[j]? = some u → w.cell? (a.add j) = some u) (hlt : ∀ a, A = some a → 0 < n → a.block < w.heap.size) (h1 : ∀ u ∈ xs, u.oneCell' = true) :
  Calls Tryz.prog 128 #[.slice A n cap] w (ClonedV w 129 2 n xs) := by
 have heq := fun (W : World) => Lib.run_eql_slice_nil (P := Tryz.prog) W 79 129 A n cap 0 0 Tryz.underlying79
 cases A with
 | none =>
  obtain rfl := hA rfl
  simp only [Option.isNone_none] at heq
  have hx : xs = [] := by simpa using hl
  subst hx
  clear hr hlt h1
  go_enter Tryz.func128, Tryz.ntmps128
  go_wp2_with fail
  go_ret
  exact ⟨_, rfl, ⟨rfl, .inl ⟨rfl, rfl⟩⟩, Below.refl _ _⟩
 | some a =>
  simp only [Option.isNone_some] at heq
  have hcell : ∀ j u, xs[j]? = some u → (w.alloc (.cells #[] 129)).cell? (a.add j) = some u := by
   intro j u hu
   have h := hr a rfl j u hu
   have hb := World.block_lt_of_cell? _ _ h
   rw [← h]
   exact World.cell?_of_block (Below.heap_alloc w _ _ hb)
  have HR := Lib.hid hcell
  have hown : (w.alloc (.cells #[] 129)).ownsRow w.heap.size 129 2 (.slice (some ⟨w.heap.size, 0, none⟩) 0 0) 0 [] :=
   ⟨rfl, .inr ⟨w.heap.size, 0, #[], rfl, Nat.le_refl _, heap_alloc_new w _, Nat.le_refl _, by simp [maxLen], rfl, rfl⟩⟩
  have h01 := (Below.refl w.heap.size w).alloc (Nat.le_refl _) (.cells #[] 129)
  have Hown := Lib.hid hown
  have H1 := Lib.hid h1
  have HL := Lib.hid hl
  obtain ⟨i0, hi, hz0, hz1, hz2⟩ := info_parts info_raw
  have Hi := Lib.hid hi
  have Hz0 := Lib.hid hz0
  have Hz1 := Lib.hid hz1
  have Hz2 := Lib.hid hz2
  clear hr hcell hown h1 hl hlt hA hi hz0 hz1 hz2
  go_enter Tryz.func128, Tryz.ntmps128
  go_wp2_with (at_builtin; refine wpList_append_own _ rfl _ _ _ rfl w.heap.size 129 i0 _ 2 24 Tryz.underlying79 Hi.out Hz0.out Hz1.out Hz2.out rfl (by decide) _ 0 [] rfl Hown.out a n cap xs rfl HL.out HR.out H1.out (by simp only [maxLen]; omega) (by omega) (by simp) ?_; intro v' w2 hown2 hgrow _)
  rw [Nat.zero_add, List.nil_append] at hown2
  have h02 : Below w.heap.size w w2 := h01.grown hgrow (by simp) (fun k hk => (Hown.out.lt k hk).1)
  have HO := Lib.hid hown2
  clear hown2 hgrow
  go_wp2_with fail
  go_ret
  exact ⟨_, rfl, HO.out, h02⟩
end Go.Proofs.YtlamhkffnlgofaaGreatDoor
namespace Go.Proofs.YtlamhkffnlgofaaGreatDoor
open Go.ChangeShapes Go.WideShapes Go.ChangeAt Go.RowKit
theorem info_intC : (Tryz.prog.info? 3).map (fun i => (i.zero, i.size, i.bytes)) = some (some (.int .i64 0), 1, 8) := by kernel_rfl
end Go.Proofs.YtlamhkffnlgofaaGreatDoor
namespace Go.Proofs.YtlamhkffnlgofaaGreatDoor
open Go.ChangeShapes Go.WideShapes Go.ChangeAt Go.RowKit
theorem info_strC : (Tryz.prog.info? 9).map (fun i => (i.zero, i.size, i.bytes)) = some (some (.string ByteArray.empty), 1, 16) := by kernel_rfl
structure Two (w : World) (B : Nat) (v1 : Value) (n1 : Nat) (xs1 : List Value) (v2 : Value) (n2 : Nat) (xs2 : List Value) : Prop where
 o1 : w.ownsRow B 3 1 v1 n1 xs1
 o2 : w.ownsRow B 9 1 v2 n2 xs2
 sp : ∀ k, v1.ownBlock = some k → v2.ownBlock = some k → False
section
variable {w w' : World} {B n1 n2 : Nat} {v1 v2 : Value} {xs1 xs2 : List Value}
theorem Two.nil (w : World) (B : Nat) : Two w B (.slice none 0 0) 0 [] (.slice none 0 0) 0 [] := ⟨World.ownsRow_nil _ _ _ _, World.ownsRow_nil _ _ _ _, fun k h => by cases h⟩
theorem Two.heap (h : Two w B v1 n1 xs1 v2 n2 xs2) (hk : ∀ k : Nat, B ≤ k → k < w.heap.size → w'.heap[k]? = w.heap[k]?) : Two w' B v1 n1 xs1 v2 n2 xs2 :=
 ⟨own_heap h.o1 hk, own_heap h.o2 hk, h.sp⟩
theorem Two.on (h : Two w B v1 n1 xs1 v2 n2 xs2) (hb : Below w.heap.size w w') : Two w' B v1 n1 xs1 v2 n2 xs2 := h.heap fun _ _ hk => hb.block _ hk
theorem Two.lt1 (h : Two w B v1 n1 xs1 v2 n2 xs2) : ∀ k, v1.ownBlock = some k → k < w.heap.size := fun k hk => (h.o1.lt k hk).2
theorem Two.lt2 (h : Two w B v1 n1 xs1 v2 n2 xs2) : ∀ k, v2.ownBlock = some k → k < w.heap.size := fun k hk => (h.o2.lt k hk).2
end
theorem sepL {a b : Value} (h : ∀ k, a.ownBlock = some k → b.ownBlock = some k → False) : b.ownBlock = none ∨ b.ownBlock ≠ a.ownBlock := by
 cases hv : b.ownBlock with
 | none => exact .inl rfl
 | some k => exact .inr (fun e => h k e.symm hv)
theorem hgr_below {w w1 : World} {B : Nat} {r : Option Nat} (h : w.grownBy w1 r) (hB : B ≤ w.heap.size) (hr : ∀ k, r = some k → B ≤ k) : Below B w w1 := (Below.refl B w).grown h hB hr
theorem step_two1 {ops : Array Oper} {op : Oper} {a : Act} {w : World} {K : Act → World → Prop} {Q : Exit → Act → World → Prop} {E : Prop} (hgd : op.guard = none) (s x : Operand)
  (ho : op.op = .call { callee := .builtin .append, args := #[s, x], argTypes := #[39, 39] }) {B gN n1 n2 : Nat} {v1 v2 : Value} {xs1 xs2 : List Value} (ht : Two w B v1 n1 xs1 v2 n2 xs2) (u : Value) (hs : a.eval s = v1)
  (hN : Has w gN 3 #[u]) (hx : a.eval x = .slice (some ⟨gN, 0, none⟩) 1 1) (h1 : u.oneCell' = true) (hn : n1 < 8000000000000) (hB : B ≤ w.heap.size)
  (h : ∀ v w1, Two w1 B v (n1 + 1) (xs1 ++ [u]) v2 n2 xs2 → Below B w w1 → (∀ k, k < w.heap.size → v1.ownBlock ≠ some k → w1.heap[k]? = w.heap[k]?) → K (a.put op.dst v) w1) :
  if Region.wanted op (yielded ops a.tmps) = true then Oper.wp Tryz.prog op a w K Q else E := by
 obtain ⟨i0, hi, hz0, hz1, hz2⟩ := info_parts info_intC
 refine step_append_lies (P := Tryz.prog) w hgd s x _ ho B 3 i0 _ 1 8 Tryz.underlying39 hi hz0 hz1 hz2 rfl (by decide) v1 n1 xs1 hs ht.o1 ⟨gN, 0, none⟩ 1 1 [u] hx rfl (World.news_of_block hN) (by simpa using h1) (by omega) (by simp only [maxLen]; omega) (by omega) hB w.heap.size rfl ?_
 intro g cap w1 hown hgr hat _
 have hsp : ∀ k, (Value.slice (some ⟨g, 0, none⟩) (n1 + 1) cap).ownBlock = some k → v2.ownBlock = some k → False := by
  intro k hk hk2
  have hg : g = k := by injection hk
  rcases hat with h2 | h2
  ·
   rw [hg] at h2; exact ht.sp k h2 hk2
  have := ht.lt2 k hk2; omega
 refine h _ w1 ⟨hown, ht.o2.kept hgr (sepL ht.sp), hsp⟩ (hgr_below hgr hB (fun k hk => (ht.o1.lt k hk).1)) (fun k hk hne => hgr.block k hk (fun e => hne e.symm))
theorem step_two2 {ops : Array Oper} {op : Oper} {a : Act} {w : World} {K : Act → World → Prop} {Q : Exit → Act → World → Prop} {E : Prop} (hgd : op.guard = none) (s x : Operand)
  (ho : op.op = .call { callee := .builtin .append, args := #[s, x], argTypes := #[190, 190] }) {B gN n1 n2 : Nat} {v1 v2 : Value} {xs1 xs2 : List Value} (ht : Two w B v1 n1 xs1 v2 n2 xs2) (u : Value) (hs : a.eval s = v2)
  (hN : Has w gN 9 #[u]) (hx : a.eval x = .slice (some ⟨gN, 0, none⟩) 1 1) (h1 : u.oneCell' = true) (hn : n2 < 8000000000000) (hB : B ≤ w.heap.size)
  (h : ∀ v w1, Two w1 B v1 n1 xs1 v (n2 + 1) (xs2 ++ [u]) → Below B w w1 → (∀ k, k < w.heap.size → v2.ownBlock ≠ some k → w1.heap[k]? = w.heap[k]?) → K (a.put op.dst v) w1) :
  if Region.wanted op (yielded ops a.tmps) = true then Oper.wp Tryz.prog op a w K Q else E := by
 obtain ⟨i0, hi, hz0, hz1, hz2⟩ := info_parts info_strC
 refine step_append_lies (P := Tryz.prog) w hgd s x _ ho B 9 i0 _ 1 16 Tryz.underlying190 hi hz0 hz1 hz2 rfl (by decide) v2 n2 xs2 hs ht.o2 ⟨gN, 0, none⟩ 1 1 [u] hx rfl (World.news_of_block hN) (by simpa using h1) (by omega) (by simp only [maxLen]; omega) (by omega) hB w.heap.size rfl ?_
 intro g cap w1 hown hgr hat _
 have hsp : ∀ k, (Value.slice (some ⟨g, 0, none⟩) (n2 + 1) cap).ownBlock = some k → v1.ownBlock = some k → False := by
  intro k hk hk2
  have hg : g = k := by injection hk
  rcases hat with h2 | h2
  ·
   rw [hg] at h2; exact ht.sp k hk2 h2
  have := ht.lt1 k hk2; omega
 refine h _ w1 ⟨ht.o1.kept hgr (sepL fun k h1 h2 => ht.sp k h2 h1), hown, fun k h1 h2 => hsp k h2 h1⟩ (hgr_below hgr hB (fun k hk => (ht.o2.lt k hk).1)) (fun k hk hne => hgr.block k hk (fun e => hne e.symm))
end Go.Proofs.YtlamhkffnlgofaaGreatDoor
namespace Go.Proofs.YtlamhkffnlgofaaGreatDoor
open Go.ChangeShapes Go.WideShapes Go.ChangeAt Go.RowKit
theorem Two.kept {w : World} {B n1 n2 : Nat} {v1 v2 : Value} {xs1 xs2 : List Value} (h : Two w B v1 n1 xs1 v2 n2 xs2) : Kept (fun w => Two w B v1 n1 xs1 v2 n2 xs2) w B w.heap.size :=
 ⟨h, fun _ hk => h.heap hk, Nat.le_refl _⟩
def symB (l : List Raw) : Bool := decide (0 < l.length) && idsB l
theorem take_map {α β : Type} (f : α → β) (l : List α) (k : Nat) (h : k < l.length) : (l.take (k + 1)).map f = (l.take k).map f ++ [f l[k]] := by
 rw [List.take_succ_eq_append_getElem h, List.map_append]; rfl
def intV (r : Raw) : Value := .int .i64 r.1
def strV1 (r : Raw) : Value := .string ⟨r.2.toArray⟩
set_option maxRecDepth 100000 in
theorem symbols_any (l : List Raw) (va : Value) (w : World) (hl : l.length ≤ 6000000000000) (hri : ∀ r ∈ l, RawIn r) (h1 : Rd w w.heap.size 2 va l.length (rawsV l)) :
  Calls Tryz.prog 118 #[va] w fun e w' => e = .returned (.bool (symB l)) ∧ Below w.heap.size w w' := by
 obtain ⟨A, c, rfl, hca⟩ := h1.form
 have H1 := Lib.hid h1
 have HRI := Lib.hid hri
 clear h1 hri
 go_enter Tryz.func118, Tryz.ntmps118
 go_wp2_with fail
 go_loopw [3, 4, 9] (fun s3 s4 i wr => ∃ k : Nat, k ≤ l.length ∧ i = .int .i64 k ∧ Two wr w.heap.size s3 k ((l.take k).map intV) s4 k ((l.take k).map strV1) ∧ Below w.heap.size w wr) (fun _ _ i _ => l.length - (intOf i).toNat)
 case atStart => exact ⟨0, by omega, rfl, Two.nil _ _, Below.refl _ _⟩
 case round =>
  obtain ⟨k, hk, rfl, htw, hb⟩ := hrel
  by_cases hlt : k < l.length
  ·
   obtain ⟨b, o, rfl, hb1, hc1⟩ := (H1.out.below hb).at_ (by omega)
   obtain ⟨x1, x2⟩ := rawV_at hc1 k hlt
   have HT1 : Hid ((l.take (k + 1)).map intV = (l.take k).map intV ++ [.int .i64 l[k].1]) := take_map intV l k hlt
   have HT2 : Hid ((l.take (k + 1)).map strV1 = (l.take k).map strV1 ++ [.string ⟨l[k].2.toArray⟩]) := take_map strV1 l k hlt
   have hi1 : (k : Int) < l.length := by omega
   have hZ1 := htw.lt1
   have hZ2 := htw.lt2
   generalize l[k].1 = a at *
   generalize l[k].2 = s at *
   clear hc1
   have TW := Lib.hid (Two.kept htw)
   clear htw
   go_upto_region 6 with fail
   refine am1 (fun wd2 hb1 X => ?_)
   have hl4 := TW.out.le
   have hl5 := hb.size
   replace TW := b1 TW hb1
   replace hb := dT hb hb1
   clear hb1
   generalize wr.heap.size = g3 at *
   clear x1 x2
   obtain ⟨cX_0, cX_1⟩ := X.out.c2
   refine wp_region_held_drew (S := (fun w' => w'.cell? ⟨g3, 0, none⟩ = some (.int .i64 a) ∧ w'.cell? ⟨g3, 1, none⟩ = some (.string ⟨s.toArray⟩))) (by kernel_rfl) ⟨cX_0, cX_1⟩ (fun hHeld => ?_)
   clear cX_0 cX_1
   have hb6 : Below wd2.heap.size wd2 (wd2.drew) := (Below.refl _ _).drew
   obtain ⟨X, TW⟩ := b2 X TW hb6
   replace hb := dT hb hb6
   clear hb6
   generalize wd2.drew = wd7 at *
   refine wpAnyH_take (i := 0) (v := ?_) rfl (by kernel_rfl) (by kernel_rfl) (by kernel_rfl) (fun _ _ _ h => h) (Or.inl ⟨by rfl, ?_⟩) (by assumption) ?_
   case refine_2 => (intro w hSw; (try dsimp only at hSw); go_simp; (first | done | with_reducible rfl))
   try simp only [put_laws]
   refine wpAnyH_take (i := 1) (v := ?_) rfl (by kernel_rfl) (by kernel_rfl) (by kernel_rfl) (fun _ _ _ h => h) (Or.inl ⟨by rfl, ?_⟩) (by assumption) ?_
   case refine_2 => (intro w hSw; (try dsimp only at hSw); go_simp; (first | done | with_reducible rfl))
   try simp only [put_laws]
   refine wpAnyH_take (i := 2) (v := ?_) rfl (by kernel_rfl) (by kernel_rfl) (by kernel_rfl) (fun _ _ _ h => h) (Or.inl ⟨by rfl, ?_⟩) (by assumption) ?_
   case refine_2 => (intro w hSw; (try dsimp only at hSw); go_simp; (first | done | with_reducible rfl))
   try simp only [put_laws]
   refine wpAnyH_take (i := 5) (v := ?_) rfl (by kernel_rfl) (by kernel_rfl) (by kernel_rfl) (fun _ _ _ h => h) (Or.inl ⟨by rfl, ?_⟩) (by assumption) ?_
   case refine_2 => (intro w hSw; (try dsimp only at hSw); go_simp; (first | done | with_reducible rfl))
   try simp only [put_laws]
   refine wpAnyH_take (i := 6) (v := ?_) rfl (by kernel_rfl) (by kernel_rfl) (by kernel_rfl) (fun _ _ _ h => h) (Or.inl ⟨by rfl, ?_⟩) (by assumption) ?_
   case refine_2 => (intro w hSw; (try dsimp only at hSw); go_simp; (first | done | with_reducible rfl))
   try simp only [put_laws]
   refine wpAnyH_take (i := 7) (v := ?_) rfl (by kernel_rfl) (by kernel_rfl) (by kernel_rfl) (fun _ _ _ h => h) (Or.inl ⟨by rfl, ?_⟩) (by assumption) ?_
   case refine_2 => (intro w hSw; (try dsimp only at hSw); go_simp; (first | done | with_reducible rfl))
   try simp only [put_laws]
   refine wpAnyH_ready (rs := [3, 8]) (by kernel_rfl) (by simp) ?_
   refine AllReadyH.cons rfl (fun K hK => ?_) (AllReadyH.cons rfl (fun K hK => ?_) (AllReadyH.nil))
   ·
    skip
    go_simp
    refine am1 (fun wd9 hb8 N1 => ?_)
    have hl11 := X.out.here
    have hl12 := TW.out.le
    have hl13 := hb.size
    obtain ⟨X, TW⟩ := b2 X TW hb8
    replace hb := dT hb hb8
    clear hb8
    generalize wd7.heap.size = g10 at *
    try clear hHeld
    refine hK.out _ _ (⟨X.out.cell 0, X.out.cell 1⟩) (fun hHeld => ?_)
    clear hK K
    refine wpAnyH_ready (rs := [4, 8]) (by kernel_rfl) (by simp) ?_
    refine AllReadyH.cons rfl (fun K hK => ?_) (AllReadyH.cons rfl (fun K hK => ?_) (AllReadyH.nil))
    ·
     skip
     refine step_two1 (by rfl) _ _ (by rfl) TW.out.now (.int .i64 a) (by rfl) N1.out (by rfl) rfl (by omega) (hb).size ?_
     intro v1' w1 htw hbB hkk
     clear TW
     replace X := dG X hkk (fun hh => by have := hZ1 _ hh; omega)
     replace N1 := dG N1 hkk (fun hh => by have := hZ1 _ hh; omega)
     replace hb := hb.trans (hbB.mono (show w.heap.size ≤ w.heap.size by omega))
     have TW := Lib.hid (Two.kept htw)
     clear htw hkk hbB
     try clear hHeld
     refine hK.out _ _ (⟨X.out.cell 0, X.out.cell 1⟩) (fun hHeld => ?_)
     clear hK K
     refine wpAnyH_ready (rs := [8]) (by kernel_rfl) (by simp) ?_
     refine AllReadyH.cons rfl (fun K hK => ?_) (AllReadyH.nil)
     go_simp
     refine am1 (fun wd15 hb14 N2 => ?_)
     have hl17 := X.out.here
     have hl18 := N1.out.here
     have hl19 := TW.out.le
     have hl20 := hb.size
     obtain ⟨X, N1, TW⟩ := b3 X N1 TW hb14
     replace hb := dT hb hb14
     clear hb14
     generalize w1.heap.size = g16 at *
     try clear hHeld
     refine hK.out _ _ (⟨X.out.cell 0, X.out.cell 1⟩) (fun hHeld => ?_)
     clear hK K
     refine wpAnyH_ready (rs := [9]) (by kernel_rfl) (by simp) ?_
     refine AllReadyH.cons rfl (fun K hK => ?_) (AllReadyH.nil)
     refine step_two2 (by rfl) _ _ (by rfl) TW.out.now (.string ⟨s.toArray⟩) (by rfl) N2.out (by rfl) rfl (by omega) (hb).size ?_
     intro v2' w1 htw hbB hkk
     clear TW
     replace X := dG X hkk (fun hh => by have := hZ2 _ hh; omega)
     replace N1 := dG N1 hkk (fun hh => by have := hZ2 _ hh; omega)
     replace N2 := dG N2 hkk (fun hh => by have := hZ2 _ hh; omega)
     replace hb := hb.trans (hbB.mono (show w.heap.size ≤ w.heap.size by omega))
     have TW := Lib.hid (Two.kept htw)
     clear htw hkk hbB
     try clear hHeld
     refine hK.out _ _ (⟨X.out.cell 0, X.out.cell 1⟩) (fun hHeld => ?_)
     clear hK K
     refine wpAnyH_take (i := 10) (v := ?_) rfl (by kernel_rfl) (by kernel_rfl) (by kernel_rfl) (fun _ _ _ h => h) (Or.inl ⟨by rfl, ?_⟩) (by assumption) ?_
     case refine_2 => (intro w hSw; (try dsimp only at hSw); go_simp; (first | done | with_reducible rfl))
     try simp only [put_laws]
     refine wpAnyH_take (i := 11) (v := ?_) rfl (by kernel_rfl) (by kernel_rfl) (by kernel_rfl) (fun _ _ _ h => h) (Or.inl ⟨by rfl, ?_⟩) (by assumption) ?_
     case refine_2 => (intro w hSw; (try dsimp only at hSw); go_simp; (first | done | with_reducible rfl))
     try simp only [put_laws]
     refine wpAnyH_done (by kernel_rfl) ?_ _
     try clear hHeld
     go_wp2_with fail
     go_roundw
     case rel => exact ⟨k + 1, by omega, by go_num, by rw [HT1.out, HT2.out]; exact TW.out.now, hb⟩
     case measure => simp [intOf]; omega
    skip
    go_simp
    refine am1 (fun wd15 hb14 N2 => ?_)
    have hl17 := X.out.here
    have hl18 := N1.out.here
    have hl19 := TW.out.le
    have hl20 := hb.size
    obtain ⟨X, N1, TW⟩ := b3 X N1 TW hb14
    replace hb := dT hb hb14
    clear hb14
    generalize wd9.heap.size = g16 at *
    try clear hHeld
    refine hK.out _ _ (⟨X.out.cell 0, X.out.cell 1⟩) (fun hHeld => ?_)
    clear hK K
    refine wpAnyH_ready (rs := [4]) (by kernel_rfl) (by simp) ?_
    refine AllReadyH.cons rfl (fun K hK => ?_) (AllReadyH.nil)
    refine step_two1 (by rfl) _ _ (by rfl) TW.out.now (.int .i64 a) (by rfl) N1.out (by rfl) rfl (by omega) (hb).size ?_
    intro v1' w1 htw hbB hkk
    clear TW
    replace X := dG X hkk (fun hh => by have := hZ1 _ hh; omega)
    replace N1 := dG N1 hkk (fun hh => by have := hZ1 _ hh; omega)
    replace N2 := dG N2 hkk (fun hh => by have := hZ1 _ hh; omega)
    replace hb := hb.trans (hbB.mono (show w.heap.size ≤ w.heap.size by omega))
    have TW := Lib.hid (Two.kept htw)
    clear htw hkk hbB
    try clear hHeld
    refine hK.out _ _ (⟨X.out.cell 0, X.out.cell 1⟩) (fun hHeld => ?_)
    clear hK K
    refine wpAnyH_ready (rs := [9]) (by kernel_rfl) (by simp) ?_
    refine AllReadyH.cons rfl (fun K hK => ?_) (AllReadyH.nil)
    refine step_two2 (by rfl) _ _ (by rfl) TW.out.now (.string ⟨s.toArray⟩) (by rfl) N2.out (by rfl) rfl (by omega) (hb).size ?_
    intro v2' w1 htw hbB hkk
    clear TW
    replace X := dG X hkk (fun hh => by have := hZ2 _ hh; omega)
    replace N1 := dG N1 hkk (fun hh => by have := hZ2 _ hh; omega)
    replace N2 := dG N2 hkk (fun hh => by have := hZ2 _ hh; omega)
    replace hb := hb.trans (hbB.mono (show w.heap.size ≤ w.heap.size by omega))
    have TW := Lib.hid (Two.kept htw)
    clear htw hkk hbB
    try clear hHeld
    refine hK.out _ _ (⟨X.out.cell 0, X.out.cell 1⟩) (fun hHeld => ?_)
    clear hK K
    refine wpAnyH_take (i := 10) (v := ?_) rfl (by kernel_rfl) (by kernel_rfl) (by kernel_rfl) (fun _ _ _ h => h) (Or.inl ⟨by rfl, ?_⟩) (by assumption) ?_
    case refine_2 => (intro w hSw; (try dsimp only at hSw); go_simp; (first | done | with_reducible rfl))
    try simp only [put_laws]
    refine wpAnyH_take (i := 11) (v := ?_) rfl (by kernel_rfl) (by kernel_rfl) (by kernel_rfl) (fun _ _ _ h => h) (Or.inl ⟨by rfl, ?_⟩) (by assumption) ?_
    case refine_2 => (intro w hSw; (try dsimp only at hSw); go_simp; (first | done | with_reducible rfl))
    try simp only [put_laws]
    refine wpAnyH_done (by kernel_rfl) ?_ _
    try clear hHeld
    go_wp2_with fail
    go_roundw
    case rel => exact ⟨k + 1, by omega, by go_num, by rw [HT1.out, HT2.out]; exact TW.out.now, hb⟩
    case measure => simp [intOf]; omega
   skip
   go_simp
   refine am1 (fun wd9 hb8 N2 => ?_)
   have hl11 := X.out.here
   have hl12 := TW.out.le
   have hl13 := hb.size
   obtain ⟨X, TW⟩ := b2 X TW hb8
   replace hb := dT hb hb8
   clear hb8
   generalize wd7.heap.size = g10 at *
   try clear hHeld
   refine hK.out _ _ (⟨X.out.cell 0, X.out.cell 1⟩) (fun hHeld => ?_)
   clear hK K
   refine wpAnyH_ready (rs := [3]) (by kernel_rfl) (by simp) ?_
   refine AllReadyH.cons rfl (fun K hK => ?_) (AllReadyH.nil)
   go_simp
   refine am1 (fun wd15 hb14 N1 => ?_)
   have hl17 := X.out.here
   have hl18 := N2.out.here
   have hl19 := TW.out.le
   have hl20 := hb.size
   obtain ⟨X, N2, TW⟩ := b3 X N2 TW hb14
   replace hb := dT hb hb14
   clear hb14
   generalize wd9.heap.size = g16 at *
   try clear hHeld
   refine hK.out _ _ (⟨X.out.cell 0, X.out.cell 1⟩) (fun hHeld => ?_)
   clear hK K
   refine wpAnyH_ready (rs := [4]) (by kernel_rfl) (by simp) ?_
   refine AllReadyH.cons rfl (fun K hK => ?_) (AllReadyH.nil)
   refine step_two1 (by rfl) _ _ (by rfl) TW.out.now (.int .i64 a) (by rfl) N1.out (by rfl) rfl (by omega) (hb).size ?_
   intro v1' w1 htw hbB hkk
   clear TW
   replace X := dG X hkk (fun hh => by have := hZ1 _ hh; omega)
   replace N2 := dG N2 hkk (fun hh => by have := hZ1 _ hh; omega)
   replace N1 := dG N1 hkk (fun hh => by have := hZ1 _ hh; omega)
   replace hb := hb.trans (hbB.mono (show w.heap.size ≤ w.heap.size by omega))
   have TW := Lib.hid (Two.kept htw)
   clear htw hkk hbB
   try clear hHeld
   refine hK.out _ _ (⟨X.out.cell 0, X.out.cell 1⟩) (fun hHeld => ?_)
   clear hK K
   refine wpAnyH_ready (rs := [9]) (by kernel_rfl) (by simp) ?_
   refine AllReadyH.cons rfl (fun K hK => ?_) (AllReadyH.nil)
   refine step_two2 (by rfl) _ _ (by rfl) TW.out.now (.string ⟨s.toArray⟩) (by rfl) N2.out (by rfl) rfl (by omega) (hb).size ?_
   intro v2' w1 htw hbB hkk
   clear TW
   replace X := dG X hkk (fun hh => by have := hZ2 _ hh; omega)
   replace N2 := dG N2 hkk (fun hh => by have := hZ2 _ hh; omega)
   replace N1 := dG N1 hkk (fun hh => by have := hZ2 _ hh; omega)
   replace hb := hb.trans (hbB.mono (show w.heap.size ≤ w.heap.size by omega))
   have TW := Lib.hid (Two.kept htw)
   clear htw hkk hbB
   try clear hHeld
   refine hK.out _ _ (⟨X.out.cell 0, X.out.cell 1⟩) (fun hHeld => ?_)
   clear hK K
   refine wpAnyH_take (i := 10) (v := ?_) rfl (by kernel_rfl) (by kernel_rfl) (by kernel_rfl) (fun _ _ _ h => h) (Or.inl ⟨by rfl, ?_⟩) (by assumption) ?_
   case refine_2 => (intro w hSw; (try dsimp only at hSw); go_simp; (first | done | with_reducible rfl))
   try simp only [put_laws]
   refine wpAnyH_take (i := 11) (v := ?_) rfl (by kernel_rfl) (by kernel_rfl) (by kernel_rfl) (fun _ _ _ h => h) (Or.inl ⟨by rfl, ?_⟩) (by assumption) ?_
   case refine_2 => (intro w hSw; (try dsimp only at hSw); go_simp; (first | done | with_reducible rfl))
   try simp only [put_laws]
   refine wpAnyH_done (by kernel_rfl) ?_ _
   try clear hHeld
   go_wp2_with fail
   go_roundw
   case rel => exact ⟨k + 1, by omega, by go_num, by rw [HT1.out, HT2.out]; exact TW.out.now, hb⟩
   case measure => simp [intOf]; omega
  obtain rfl : k = l.length := by omega
  rw [List.take_of_length_le (Nat.le_refl _)] at htw
  have hr1 := Rd.of_own htw.o1
  have hr2 := Rd.of_own htw.o2
  have HI := Lib.hid (sids_any l _ _ wr (by omega) HRI.out hr1 hr2)
  clear htw hr1 hr2
  by_cases h0 : l.length = 0
  ·
   have Hs : Hid (symB l = false) := by show _ = _; unfold symB; rw [h0]; rfl
   have Hn := Lib.hid (List.eq_nil_of_length_eq_zero h0)
   have hd : decide (0 < l.length) = false := decide_eq_false (by omega)
   clear h0
   go_wp2_with fail
   go_ret
   exact ⟨ret_bool Hs.out.symm, hb⟩
  have Hs : Hid (symB l = idsB l) := by show _ = _; unfold symB; rw [decide_eq_true (by omega)]; rfl
  have hd : decide (0 < l.length) = true := decide_eq_true (by omega)
  have hd2 : (0 : Int) < l.length := by omega
  clear h0
  go_wp2_with fail
  refine HI.out.mono ?_
  rintro e w2 ⟨rfl, hb2⟩
  go_wp2_with fail
  go_ret
  exact ⟨ret_bool Hs.out.symm, hb.trans (hb2.mono hb.size)⟩
end Go.Proofs.YtlamhkffnlgofaaGreatDoor

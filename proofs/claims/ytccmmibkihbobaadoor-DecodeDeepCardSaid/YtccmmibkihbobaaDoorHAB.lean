/- Append that tells which block may have changed; operations under a guard that holds. Values as trees, and how memory reads as one. What Depth, Nodes and their references compute. What size and Small compute. No condition. -/
import Derived.Test.YtccmmibkihbobaaDoorHAA
namespace Go.Proofs.YtccmmibkihbobaaDoor
open Go.ChangeShapes Go.WideShapes Go.ChangeAt Go.RowKit
theorem wpList_unguard {P : Program} {ops : Array Oper} {rest : List Oper} {o : Oper} {a : Act} {w : World} {Q : Exit → Act → World → Prop} (hw : Region.wanted o (yielded ops a.tmps) = true)
  (h : wpList P ops Q ({o with guard := none} :: rest) a w) : wpList P ops Q (o :: rest) a w := by
 cases o
 rw [wpList] at h ⊢
 rw [if_pos hw]
 rw [if_pos (by simp [Region.wanted])] at h
 exact h
theorem wpList_append_grow {P : Program} {ops : Array Oper} {rest : List Oper} {o : Oper} {a : Act} {Q : Exit → Act → World → Prop} (hgd : o.guard = none) (s x : Operand) (t : TypeId)
  (ho : o.op = .call { callee := .builtin .append, args := #[s, x], argTypes := #[t, t] })
  (base : Nat) (e : TypeId) (z : Value) (size bytes : Nat) (ht : P.underlying t = some (.slice e)) (hinfo : (P.info? e).map (fun i => (i.zero, i.size, i.bytes)) = some (some z, size, bytes)) (hzs : z.cells.size = size) (hsz : 0 < size)
  (v : Value) (n : Nat) (xs : List Value) (hs : a.eval s = v) {W : World} (hown : W.ownsRow base e size v n xs) (news : List Value) (te : TypeId) (c g : Nat)
  (hx : a.eval x = .slice (some ⟨g, 0, none⟩) 1 c) (hg : g = W.heap.size) (hl : news.length = size) (h1 : ∀ u ∈ news, u.oneCell' = true) (hsmall : n < 1048576) (hby : bytes ≤ 1048576) (hbase : base ≤ W.heap.size)
  (h : ∀ v' w', w'.ownsRow base e size v' (n + 1) (xs ++ news) → (W.alloc (.cells news.toArray te)).grownBy w' v.ownBlock → wpList P ops Q rest (a.put o.dst v') w') : wpList P ops Q (o :: rest) a (W.alloc (.cells news.toArray te)) := by
 subst hg
 obtain ⟨i0, hi, hz0, hz1, hz2⟩ := info_parts hinfo
 refine wpList_append_own _ hgd s x t ho base e i0 z size bytes ht hi hz0 hz1 hz2 hzs hsz v n xs hs (hown.alloc _) ⟨W.heap.size, 0, none⟩ 1 c news hx (by omega) ?_ h1 (by simp only [maxLen]; omega) ?_ (by simp; omega) ?_
 ·
  intro j u hu
  have hj : (⟨W.heap.size, 0, none⟩ : Addr).add j = ⟨W.heap.size, j, none⟩ := by unfold Addr.add; split <;> simp_all
  rw [hj]
  simp only [World.cell?, new_block]
  simpa using hu
 ·
  have : (n + 1) * bytes ≤ 1048576 * 1048576 := Nat.mul_le_mul (by omega) hby
  omega
 intro v' w' h2 h3 _
 exact h v' w' h2 h3
theorem grown_below {W w' : World} {base : Nat} {e : TypeId} {size n : Nat} {v : Value} {xs : List Value} {o : Obj} (hown : W.ownsRow base e size v n xs) (hb : base ≤ W.heap.size) (h : (W.alloc o).grownBy w' v.ownBlock) : Below base W w' :=
 ((Below.refl base W).alloc hb o).grown h (by simp; omega) (fun k hk => (hown.lt k hk).1)
theorem own_later {w0 w1 : World} {b0 b1 s0 s1 n0 n1 : Nat} {e0 e1 : TypeId} {v0 v1 : Value} {x0 x1 : List Value} (h0 : w0.ownsRow b0 e0 s0 v0 n0 x0) (h1 : w1.ownsRow b1 e1 s1 v1 n1 x1) (hb : w0.heap.size ≤ b1) : v1.ownBlock = none ∨ v1.ownBlock ≠ v0.ownBlock := by
 cases h : v1.ownBlock with
 | none => exact .inl rfl
 | some k =>
  right
  intro he
  have h2 := (h1.lt k h).1
  have h3 := (h0.lt k he.symm).2
  omega
theorem own_grown {W w' : World} {base : Nat} {e : TypeId} {size n : Nat} {v : Value} {xs : List Value} {o : Obj} {row : Option Nat} (hown : W.ownsRow base e size v n xs) (h : (W.alloc o).grownBy w' row) (hne : v.ownBlock = none ∨ v.ownBlock ≠ row) : w'.ownsRow base e size v n xs :=
 (hown.alloc o).kept h hne
end Go.Proofs.YtccmmibkihbobaaDoor
namespace Go.Proofs.YtccmmibkihbobaaDoor
open Go.ChangeShapes Go.WideShapes Go.ChangeAt Go.RowKit
abbrev Raw := Int × List UInt8
inductive Val where
 | mk (kind : Int) (bool : Bool) (num : Int) (str : List UInt8) (id : Int) (keys items : List Val) (rest : List Raw) : Val
namespace Val
def kind : Val → Int | .mk k _ _ _ _ _ _ _ => k
def bool : Val → Bool | .mk _ b _ _ _ _ _ _ => b
def num : Val → Int | .mk _ _ n _ _ _ _ _ => n
def str : Val → List UInt8 | .mk _ _ _ s _ _ _ _ => s
def id : Val → Int | .mk _ _ _ _ i _ _ _ => i
def keys : Val → List Val | .mk _ _ _ _ _ ks _ _ => ks
def items : Val → List Val | .mk _ _ _ _ _ _ is _ => is
def rest : Val → List Raw | .mk _ _ _ _ _ _ _ rs => rs
end Val
def val0 : Val := .mk 0 false 0 [] 0 [] [] []
mutual
def nodes : Val → Nat
 | .mk _ _ _ _ _ ks is _ => nodesL ks + nodesL is + 1
def nodesL : List Val → Nat
 | [] => 0
 | x :: r => nodes x + nodesL r
end
mutual
def depth : Val → Nat
 | .mk _ _ _ _ _ ks is _ => max (depthL ks) (depthL is) + 1
def depthL : List Val → Nat
 | [] => 0
 | x :: r => max (depth x) (depthL r)
end
theorem nodes_pos (v : Val) : 1 ≤ nodes v := by cases v; rw [nodes]; omega
theorem nodesL_mem (l : List Val) (x : Val) (h : x ∈ l) : nodes x ≤ nodesL l := by
 induction l with
 | nil => simp at h
 | cons y r ih =>
  rw [nodesL]
  rcases List.mem_cons.1 h with rfl | h
  ·
   omega
  have := ih h; omega
theorem nodesL_len (l : List Val) : l.length ≤ nodesL l := by
 induction l with
 | nil => simp
 | cons y r ih => rw [nodesL, List.length_cons]; have := nodes_pos y; omega
theorem nodesL_app (a b : List Val) : nodesL (a ++ b) = nodesL a + nodesL b := by
 induction a with
 | nil => simp [nodesL]
 | cons y r ih => rw [List.cons_append, nodesL, nodesL, ih]; omega
theorem depthL_app (a b : List Val) : depthL (a ++ b) = max (depthL a) (depthL b) := by
 induction a with
 | nil => simp [depthL]
 | cons y r ih => rw [List.cons_append, depthL, depthL, ih]; omega
theorem nodesL_take (l : List Val) (k : Nat) (h : k < l.length) : nodesL (l.take (k+1)) = nodesL (l.take k) + nodes l[k] := by
 rw [List.take_succ_eq_append_getElem h, nodesL_app]
 simp [nodesL]
theorem nodesL_take_le (l : List Val) (k : Nat) : nodesL (l.take k) ≤ nodesL l := by
 have h := nodesL_app (l.take k) (l.drop k)
 rw [List.take_append_drop] at h
 omega
theorem depthL_take (l : List Val) (k : Nat) (h : k < l.length) : depthL (l.take (k+1)) = max (depthL (l.take k)) (depth l[k]) := by
 rw [List.take_succ_eq_append_getElem h, depthL_app]
 simp [depthL]
mutual
theorem depth_nodes : ∀ v : Val, depth v ≤ nodes v
 | .mk _ _ _ _ _ ks is _ => by
  rw [depth, nodes]
  have h1 := depthL_nodes ks
  have h2 := depthL_nodes is
  omega
theorem depthL_nodes : ∀ l : List Val, depthL l ≤ nodesL l
 | [] => by simp [depthL]
 | x :: r => by
  rw [depthL, nodesL]
  have h1 := depth_nodes x
  have h2 := depthL_nodes r
  omega
end
def rawV (r : Raw) : List Value := [.int .i64 r.1, .string ⟨r.2.toArray⟩]
theorem rawV_len (r : Raw) : (rawV r).length = 2 := rfl
def rawsV (rs : List Raw) : List Value := rs.flatMap rawV
def RawIn (r : Raw) : Prop := I64 r.1 ∧ r.2.length ≤ 140737488351232
def Row (w : World) (B size : Nat) (v : Value) (n : Nat) (c : Nat → List Value) : Prop :=
 ∃ A cap, v = .slice A n cap ∧ n ≤ cap ∧ (n = 0 ∨ ∃ b o, A = some ⟨b, o, none⟩ ∧ b < B ∧ ∀ i, i < n → ∀ j u, (c i)[j]? = some u → w.cell? ⟨b, o + i * size + j, none⟩ = some u)
section
variable {w w' : World} {B B' size n : Nat} {v : Value} {c : Nat → List Value}
theorem Row.keep (h : Row w B size v n c) (hk : ∀ p : Addr, p.block < B → w'.cell? p = w.cell? p) : Row w' B size v n c := by
 obtain ⟨A, cap, hv, hc, h2⟩ := h
 refine ⟨A, cap, hv, hc, ?_⟩
 rcases h2 with h2 | ⟨b, o, hA, hb, hcell⟩
 ·
  exact .inl h2
 exact .inr ⟨b, o, hA, hb, fun i hi j u hu => (hk _ hb).trans (hcell i hi j u hu)⟩
theorem Row.mono (h : Row w B size v n c) (hB : B ≤ B') : Row w B' size v n c := by
 obtain ⟨A, cap, hv, hc, h2⟩ := h
 refine ⟨A, cap, hv, hc, ?_⟩
 rcases h2 with h2 | ⟨b, o, hA, hb, hcell⟩
 ·
  exact .inl h2
 exact .inr ⟨b, o, hA, by omega, hcell⟩
end
inductive RdVal (w : World) (B : Nat) : Val → List Value → Prop
 | mk (k : Int) (b : Bool) (n : Int) (s : List UInt8) (id : Int) (ks is : List Val) (rs : List Raw) (vk vi vr : Value) (ck ci : Nat → List Value)
   (hn : I64 k ∧ I64 n ∧ I64 id) (hs : s.length ≤ 140737488351232) (hl : ks.length ≤ 1172812402926 ∧ is.length ≤ 1172812402926 ∧ rs.length ≤ 5864062014634) (hri : ∀ r ∈ rs, RawIn r)
   (hk : Row w B 8 vk ks.length ck) (hkr : ∀ (i : Nat) (h : i < ks.length), RdVal w B ks[i] (ck i))
   (hi : Row w B 8 vi is.length ci) (hir : ∀ (i : Nat) (h : i < is.length), RdVal w B is[i] (ci i))
   (hr : Rd w B 2 vr rs.length (rawsV rs)) : RdVal w B (.mk k b n s id ks is rs) [.int .i64 k, .bool b, .int .i64 n, .string ⟨s.toArray⟩, .int .i64 id, vk, vi, vr]
def RdVals (w : World) (B : Nat) (v : Value) (xs : List Val) : Prop := ∃ c : Nat → List Value, Row w B 8 v xs.length c ∧ ∀ (i : Nat) (h : i < xs.length), RdVal w B xs[i] (c i)
theorem RdVal.keep {w w' : World} {B B' : Nat} {v : Val} {cs : List Value} (h : RdVal w B v cs) (hk : ∀ p : Addr, p.block < B → w'.cell? p = w.cell? p) (hB : B ≤ B') : RdVal w' B' v cs := by
 induction h with
 | mk k b n s id ks is rs vk vi vr ck ci hn hs hl hri h1 _ h2 _ h3 ih1 ih2 =>
  exact .mk k b n s id ks is rs vk vi vr ck ci hn hs hl hri ((h1.keep hk).mono hB) ih1 ((h2.keep hk).mono hB) ih2 ((h3.keep hk).mono hB)
theorem RdVal.on {w w' : World} {v : Val} {cs : List Value} (h : RdVal w w.heap.size v cs) (hb : Below w.heap.size w w') : RdVal w' w'.heap.size v cs := h.keep (fun _ hp => hb.cell hp) hb.size
theorem RdVals.keep {w w' : World} {B B' : Nat} {v : Value} {xs : List Val} (h : RdVals w B v xs) (hk : ∀ p : Addr, p.block < B → w'.cell? p = w.cell? p) (hB : B ≤ B') : RdVals w' B' v xs := by
 obtain ⟨c, h1, h2⟩ := h
 exact ⟨c, (h1.keep hk).mono hB, fun i hi => (h2 i hi).keep hk hB⟩
theorem RdVals.on {w w' : World} {v : Value} {xs : List Val} (h : RdVals w w.heap.size v xs) (hb : Below w.heap.size w w') : RdVals w' w'.heap.size v xs := h.keep (fun _ hp => hb.cell hp) hb.size
theorem RdVals.form {w : World} {B : Nat} {v : Value} {xs : List Val} (h : RdVals w B v xs) : ∃ A c, v = .slice A xs.length c ∧ xs.length ≤ c := by
 obtain ⟨_, ⟨A, c, h1, h2, _⟩, _⟩ := h
 exact ⟨A, c, h1, h2⟩
theorem RdVals.at_ {w : World} {B n cap : Nat} {A : Option Addr} {xs : List Val} (h : RdVals w B (.slice A n cap) xs) (hpos : 0 < xs.length) : ∃ b o, A = some ⟨b, o, none⟩ ∧ b < B ∧ ∀ k (hk : k < xs.length), ∃ cs, (∀ j u, cs[j]? = some u → w.cell? ⟨b, o + k * 8 + j, none⟩ = some u) ∧ RdVal w B xs[k] cs := by
 obtain ⟨c, ⟨A', c', hv, hc, h2⟩, h3⟩ := h
 injection hv with h4 h5 h6
 subst h4
 rcases h2 with h2 | ⟨b, o, hA, hb, hcell⟩
 ·
  omega
 exact ⟨b, o, hA, hb, fun k hk => ⟨c k, hcell k hk, h3 k hk⟩⟩
def Cells8 (w : World) (b o : Nat) (x : Val) (vk vi vr : Value) : Prop :=
 w.cell? ⟨b, o, none⟩ = some (.int .i64 x.kind) ∧ w.cell? ⟨b, o + 1, none⟩ = some (.bool x.bool) ∧ w.cell? ⟨b, o + 2, none⟩ = some (.int .i64 x.num) ∧ w.cell? ⟨b, o + 3, none⟩ = some (.string ⟨x.str.toArray⟩) ∧
 w.cell? ⟨b, o + 4, none⟩ = some (.int .i64 x.id) ∧ w.cell? ⟨b, o + 5, none⟩ = some vk ∧ w.cell? ⟨b, o + 6, none⟩ = some vi ∧ w.cell? ⟨b, o + 7, none⟩ = some vr
def valV (x : Val) (vk vi vr : Value) : List Value := [.int .i64 x.kind, .bool x.bool, .int .i64 x.num, .string ⟨x.str.toArray⟩, .int .i64 x.id, vk, vi, vr]
structure ValAt (w : World) (B : Nat) (x : Val) (vk vi vr : Value) : Prop where
 ints : I64 x.kind ∧ I64 x.num ∧ I64 x.id
 strl : x.str.length ≤ 140737488351232
 lenz : x.keys.length ≤ 1172812402926 ∧ x.items.length ≤ 1172812402926 ∧ x.rest.length ≤ 5864062014634
 raws : ∀ r ∈ x.rest, RawIn r
 keys : RdVals w B vk x.keys
 items : RdVals w B vi x.items
 rest : Rd w B 2 vr x.rest.length (rawsV x.rest)
theorem ValAt.lens {w : World} {B : Nat} {x : Val} {vk vi vr : Value} (h : ValAt w B x vk vi vr) : x.keys.length ≤ 140737488351232 ∧ x.items.length ≤ 140737488351232 ∧ x.rest.length ≤ 140737488351232 := by have := h.lenz; omega
theorem RdVal.inv {w : World} {B : Nat} {x : Val} {cs : List Value} (h : RdVal w B x cs) : ∃ vk vi vr, cs = valV x vk vi vr ∧ ValAt w B x vk vi vr := by
 cases h with
 | mk k b n s id ks is rs vk vi vr ck ci hn hs hl hri h1 h2 h3 h4 h5 => exact ⟨vk, vi, vr, rfl, hn, hs, hl, hri, ⟨ck, h1, h2⟩, ⟨ci, h3, h4⟩, h5⟩
theorem ValAt.forms {w : World} {B : Nat} {x : Val} {vk vi vr : Value} (h : ValAt w B x vk vi vr) : ∃ A1 c1 A2 c2 A3 c3, vk = .slice A1 x.keys.length c1 ∧ vi = .slice A2 x.items.length c2 ∧ vr = .slice A3 x.rest.length c3 ∧ x.keys.length ≤ c1 ∧ x.items.length ≤ c2 ∧ x.rest.length ≤ c3 := by
 obtain ⟨A1, c1, e1, h1⟩ := h.keys.form
 obtain ⟨A2, c2, e2, h2⟩ := h.items.form
 obtain ⟨A3, c3, e3, h3⟩ := h.rest.form
 exact ⟨A1, c1, A2, c2, A3, c3, e1, e2, e3, h1, h2, h3⟩
theorem ValAt.rd {w : World} {B : Nat} {x : Val} {vk vi vr : Value} (h : ValAt w B x vk vi vr) : RdVal w B x (valV x vk vi vr) := by
 obtain ⟨hn, hs, hl, hri, ⟨ck, h1, h2⟩, ⟨ci, h3, h4⟩, h5⟩ := h
 cases x
 exact .mk _ _ _ _ _ _ _ _ vk vi vr ck ci hn hs hl hri h1 h2 h3 h4 h5
theorem ValAt.on {w w' : World} {x : Val} {vk vi vr : Value} (h : ValAt w w.heap.size x vk vi vr) (hb : Below w.heap.size w w') : ValAt w' w'.heap.size x vk vi vr :=
 ⟨h.ints, h.strl, h.lenz, h.raws, h.keys.on hb, h.items.on hb, (h.rest.below hb).mono hb.size⟩
theorem RdVals.elem {w : World} {B n cap : Nat} {A : Option Addr} {xs : List Val} (h : RdVals w B (.slice A n cap) xs) (hpos : 0 < xs.length) : ∃ b o, A = some ⟨b, o, none⟩ ∧ b < B ∧ ∀ k (hk : k < xs.length), ∃ vk vi vr, Cells8 w b (o + k * 8) xs[k] vk vi vr ∧ ValAt w B xs[k] vk vi vr := by
 obtain ⟨b, o, h1, h2, h3⟩ := h.at_ hpos
 refine ⟨b, o, h1, h2, fun k hk => ?_⟩
 obtain ⟨cs, hc, hr⟩ := h3 k hk
 obtain ⟨vk, vi, vr, rfl, hv⟩ := hr.inv
 exact ⟨vk, vi, vr, ⟨hc 0 _ rfl, hc 1 _ rfl, hc 2 _ rfl, hc 3 _ rfl, hc 4 _ rfl, hc 5 _ rfl, hc 6 _ rfl, hc 7 _ rfl⟩, hv⟩
theorem Cells8.below {w w' : World} {B b o : Nat} {x : Val} {vk vi vr : Value} (h : Cells8 w b o x vk vi vr) (hb : Below B w w') (hlt : b < B) : Cells8 w' b o x vk vi vr := by
 obtain ⟨h0, h1, h2, h3, h4, h5, h6, h7⟩ := h
 exact ⟨(hb.cell hlt).trans h0, (hb.cell hlt).trans h1, (hb.cell hlt).trans h2, (hb.cell hlt).trans h3, (hb.cell hlt).trans h4, (hb.cell hlt).trans h5, (hb.cell hlt).trans h6, (hb.cell hlt).trans h7⟩
theorem Has.cells8 {w : World} {b : Nat} {t : TypeId} {x : Val} {vk vi vr : Value} (h : Has w b t (valV x vk vi vr).toArray) : Cells8 w b 0 x vk vi vr :=
 ⟨h.cell 0, h.cell 1, h.cell 2, h.cell 3, h.cell 4, h.cell 5, h.cell 6, h.cell 7⟩
end Go.Proofs.YtccmmibkihbobaaDoor
namespace Go.Proofs.YtccmmibkihbobaaDoor
open Go.ChangeShapes Go.WideShapes Go.ChangeAt Go.RowKit
abbrev valA (x : Val) (vk vi vr : Value) : Value := .agg #[.int .i64 x.kind, .bool x.bool, .int .i64 x.num, .string ⟨x.str.toArray⟩, .int .i64 x.id, vk, vi, vr]
theorem depth_eq (x : Val) : depth x = max (depthL x.keys) (depthL x.items) + 1 := by cases x; rw [depth]; rfl
theorem nodes_eq (x : Val) : nodes x = nodesL x.keys + nodesL x.items + 1 := by cases x; rw [nodes]; rfl
def foldD (m : Nat) (l : List Val) : Nat := max m (depthL l)
def foldN (m : Nat) (l : List Val) : Nat := m + nodesL l
def oneD (m : Nat) (x : Val) : Nat := max m (depth x)
def oneN (m : Nat) (x : Val) : Nat := m + nodes x
theorem foldD_nil (m : Nat) : foldD m [] = m := by simp [foldD, depthL]
theorem foldN_nil (m : Nat) : foldN m [] = m := by simp [foldN, nodesL]
theorem foldD_take (m : Nat) (l : List Val) (k : Nat) (h : k < l.length) : foldD m (l.take (k+1)) = oneD (foldD m (l.take k)) l[k] := by
 unfold foldD oneD; rw [depthL_take l k h]; omega
theorem foldN_take (m : Nat) (l : List Val) (k : Nat) (h : k < l.length) : foldN m (l.take (k+1)) = oneN (foldN m (l.take k)) l[k] := by
 unfold foldN oneN; rw [nodesL_take l k h]; omega
theorem depthL_take_le (l : List Val) (k : Nat) : depthL (l.take k) ≤ depthL l := by
 have h := depthL_app (l.take k) (l.drop k)
 rw [List.take_append_drop] at h
 omega
theorem foldD_le (m : Nat) (l : List Val) (k : Nat) : foldD m (l.take k) ≤ foldD m l := by
 have := depthL_take_le l k
 unfold foldD; omega
theorem foldN_le (m : Nat) (l : List Val) (k : Nat) : foldN m (l.take k) ≤ foldN m l := by
 have := nodesL_take_le l k
 unfold foldN; omega
theorem depth_fold (x : Val) : depth x = foldD (foldD 0 x.keys) x.items + 1 := by rw [depth_eq]; unfold foldD; omega
theorem nodes_fold (x : Val) : nodes x = foldN (foldN 1 x.keys) x.items + 0 := by rw [nodes_eq]; unfold foldN; omega
end Go.Proofs.YtccmmibkihbobaaDoor
namespace Go.Proofs.YtccmmibkihbobaaDoor
open Go.ChangeShapes Go.WideShapes Go.ChangeAt Go.RowKit
def sizeR : List Raw → Int → Int
 | [], n => n
 | r :: rs, n => if n < 0 then n else sizeR rs (n - r.2.length)
mutual
def sizeV : Val → Int → Int
 | .mk _ _ _ s _ ks is rs, n => sizeL is (sizeL ks (sizeR rs (n - (10 + s.length + rs.length))))
def sizeL : List Val → Int → Int
 | [], n => n
 | x :: r, n => if n < 0 then n else sizeL r (sizeV x n)
end
theorem sizeV_eq (x : Val) (n : Int) : sizeV x n = sizeL x.items (sizeL x.keys (sizeR x.rest (n - (10 + x.str.length + x.rest.length)))) := by cases x; rw [sizeV]; rfl
theorem sizeR_le (rs : List Raw) : ∀ n, sizeR rs n ≤ n := by
 induction rs with
 | nil => intro n; exact Int.le_refl _
 | cons r rs ih =>
  intro n
  rw [sizeR]
  split
  ·
   omega
  have := ih (n - r.2.length); omega
theorem sizeR_neg (rs : List Raw) (n : Int) (h : n < 0) : sizeR rs n = n := by
 cases rs with
 | nil => rfl
 | cons r rs => rw [sizeR, if_pos h]
theorem sizeL_neg (l : List Val) (n : Int) (h : n < 0) : sizeL l n = n := by
 cases l with
 | nil => rw [sizeL]
 | cons x r => rw [sizeL, if_pos h]
mutual
theorem sizeV_nodes : ∀ (x : Val) (n : Int), sizeV x n ≤ n - 10 ∧ (0 ≤ sizeV x n → 10 * (nodes x : Int) ≤ n - sizeV x n)
 | .mk _ _ _ s _ ks is rs, n => by
  rw [sizeV, nodes]
  have h1 := sizeR_le rs (n - (10 + s.length + rs.length))
  have h2 := sizeL_nodes ks (sizeR rs (n - (10 + s.length + rs.length)))
  have h3 := sizeL_nodes is (sizeL ks (sizeR rs (n - (10 + s.length + rs.length))))
  refine ⟨by omega, fun h => ?_⟩
  have h4 := h3.2 h
  have h5 := h2.2 (by omega)
  omega
theorem sizeL_nodes : ∀ (l : List Val) (n : Int), sizeL l n ≤ n ∧ (0 ≤ sizeL l n → 10 * (nodesL l : Int) ≤ n - sizeL l n)
 | [], n => by rw [sizeL, nodesL]; omega
 | x :: r, n => by
  rw [sizeL, nodesL]
  split
  ·
   omega
  have h1 := sizeV_nodes x n
  have h2 := sizeL_nodes r (sizeV x n)
  refine ⟨by omega, fun h => ?_⟩
  have h3 := h2.2 h
  have h4 := h1.2 (by omega)
  omega
end
def smallB (x : Val) : Bool := decide (0 ≤ sizeV x 3000)
theorem small_nodes (x : Val) (h : smallB x = true) : nodes x ≤ 300 := by
 have h1 : 0 ≤ sizeV x 3000 := of_decide_eq_true h
 have h2 := (sizeV_nodes x 3000).2 h1
 omega
theorem rawV_at {w : World} {b o : Nat} {rs : List Raw} (hcell : ∀ j u, (rawsV rs)[j]? = some u → w.cell? ⟨b, o + j, none⟩ = some u) (k : Nat) (h : k < rs.length) :
  w.cell? ⟨b, o + k * 2, none⟩ = some (.int .i64 rs[k].1) ∧ w.cell? ⟨b, o + k * 2 + 1, none⟩ = some (.string ⟨rs[k].2.toArray⟩) :=
 ⟨hcell (k * 2) _ (flat_get rawV_len rs k 0 h (by omega)), hcell (k * 2 + 1) _ (flat_get rawV_len rs k 1 h (by omega))⟩
end Go.Proofs.YtccmmibkihbobaaDoor

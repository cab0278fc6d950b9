/- Values as trees, and how memory reads as one. No condition. -/
import Derived.Test.YtjcoeolconelmaaOpen
import Derived.Test.YtjcoeolconelmaaGrow
namespace Go.Proofs.Ytjcoeolconelmaa
open Go.ChangeShapes Go.WideShapes Go.ChangeAt Go.RowKit

abbrev Raw := Int × List UInt8
inductive Val where
  | mk (kind : Int) (bool : Bool) (num : Int) (str : List UInt8) (id : Int) (keys items : List Val) (rest : List Raw) : Val
namespace Val
def kind : Val → Int | .mk k _ _ _ _ _ _ _ => k
def bool : Val → Bool | .mk _ b _ _ _ _ _ _ => b
def num : Val → Int | .mk _ _ n _ _ _ _ _ => n
def str : Val → List UInt8 | .mk _ _ _ s _ _ _ _ => s
def id : Val → Int | .mk _ _ _ _ i _ _ _ => i
def keys : Val → List Val | .mk _ _ _ _ _ ks _ _ => ks
def items : Val → List Val | .mk _ _ _ _ _ _ is _ => is
def rest : Val → List Raw | .mk _ _ _ _ _ _ _ rs => rs
end Val
def val0 : Val := .mk 0 false 0 [] 0 [] [] []

mutual
def nodes : Val → Nat
  | .mk _ _ _ _ _ ks is _ => nodesL ks + nodesL is + 1
def nodesL : List Val → Nat
  | [] => 0
  | x :: r => nodes x + nodesL r
end
mutual
def depth : Val → Nat
  | .mk _ _ _ _ _ ks is _ => max (depthL ks) (depthL is) + 1
def depthL : List Val → Nat
  | [] => 0
  | x :: r => max (depth x) (depthL r)
end
theorem nodes_pos (v : Val) : 1 ≤ nodes v := by cases v; rw [nodes]; omega
theorem nodesL_mem (l : List Val) (x : Val) (h : x ∈ l) : nodes x ≤ nodesL l := by
  induction l with
  | nil => simp at h
  | cons y r ih =>
    rw [nodesL]
    rcases List.mem_cons.1 h with rfl | h
    · omega
    · have := ih h; omega
theorem nodesL_len (l : List Val) : l.length ≤ nodesL l := by
  induction l with
  | nil => simp
  | cons y r ih => rw [nodesL, List.length_cons]; have := nodes_pos y; omega
theorem nodesL_app (a b : List Val) : nodesL (a ++ b) = nodesL a + nodesL b := by
  induction a with
  | nil => simp [nodesL]
  | cons y r ih => rw [List.cons_append, nodesL, nodesL, ih]; omega
theorem depthL_app (a b : List Val) : depthL (a ++ b) = max (depthL a) (depthL b) := by
  induction a with
  | nil => simp [depthL]
  | cons y r ih => rw [List.cons_append, depthL, depthL, ih]; omega
theorem nodesL_take (l : List Val) (k : Nat) (h : k < l.length) : nodesL (l.take (k+1)) = nodesL (l.take k) + nodes l[k] := by
  rw [List.take_succ_eq_append_getElem h, nodesL_app]
  simp [nodesL]
theorem nodesL_take_le (l : List Val) (k : Nat) : nodesL (l.take k) ≤ nodesL l := by
  have h := nodesL_app (l.take k) (l.drop k)
  rw [List.take_append_drop] at h
  omega
theorem depthL_take (l : List Val) (k : Nat) (h : k < l.length) : depthL (l.take (k+1)) = max (depthL (l.take k)) (depth l[k]) := by
  rw [List.take_succ_eq_append_getElem h, depthL_app]
  simp [depthL]
mutual
theorem depth_nodes : ∀ v : Val, depth v ≤ nodes v
  | .mk _ _ _ _ _ ks is _ => by
    rw [depth, nodes]
    have h1 := depthL_nodes ks
    have h2 := depthL_nodes is
    omega
theorem depthL_nodes : ∀ l : List Val, depthL l ≤ nodesL l
  | [] => by simp [depthL]
  | x :: r => by
    rw [depthL, nodesL]
    have h1 := depth_nodes x
    have h2 := depthL_nodes r
    omega
end

def rawV (r : Raw) : List Value := [.int .i64 r.1, .string ⟨r.2.toArray⟩]
theorem rawV_len (r : Raw) : (rawV r).length = 2 := rfl
def rawsV (rs : List Raw) : List Value := rs.flatMap rawV
def RawIn (r : Raw) : Prop := I64 r.1 ∧ r.2.length ≤ 140737488351232

/-- a slice value with n elements of so many cells each, of which the i-th are c i, all below block B -/
def Row (w : World) (B size : Nat) (v : Value) (n : Nat) (c : Nat → List Value) : Prop :=
  ∃ A cap, v = .slice A n cap ∧ n ≤ cap ∧ (n = 0 ∨ ∃ b o, A = some ⟨b, o, none⟩ ∧ b < B ∧ ∀ i, i < n → ∀ j u, (c i)[j]? = some u → w.cell? ⟨b, o + i * size + j, none⟩ = some u)
section
variable {w w' : World} {B B' size n : Nat} {v : Value} {c : Nat → List Value}
theorem Row.keep (h : Row w B size v n c) (hk : ∀ p : Addr, p.block < B → w'.cell? p = w.cell? p) : Row w' B size v n c := by
  obtain ⟨A, cap, hv, hc, h2⟩ := h
  refine ⟨A, cap, hv, hc, ?_⟩
  rcases h2 with h2 | ⟨b, o, hA, hb, hcell⟩
  · exact .inl h2
  · exact .inr ⟨b, o, hA, hb, fun i hi j u hu => (hk _ hb).trans (hcell i hi j u hu)⟩
theorem Row.mono (h : Row w B size v n c) (hB : B ≤ B') : Row w B' size v n c := by
  obtain ⟨A, cap, hv, hc, h2⟩ := h
  refine ⟨A, cap, hv, hc, ?_⟩
  rcases h2 with h2 | ⟨b, o, hA, hb, hcell⟩
  · exact .inl h2
  · exact .inr ⟨b, o, hA, by omega, hcell⟩
end

/-- the eight cells cs read as the value, all of whose parts lie below block B; numbers and lengths are within bounds -/
inductive RdVal (w : World) (B : Nat) : Val → List Value → Prop
  | mk (k : Int) (b : Bool) (n : Int) (s : List UInt8) (id : Int) (ks is : List Val) (rs : List Raw) (vk vi vr : Value) (ck ci : Nat → List Value)
      (hn : I64 k ∧ I64 n ∧ I64 id) (hs : s.length ≤ 140737488351232) (hl : ks.length ≤ 140737488351232 ∧ is.length ≤ 140737488351232 ∧ rs.length ≤ 140737488351232) (hri : ∀ r ∈ rs, RawIn r)
      (hk : Row w B 8 vk ks.length ck) (hkr : ∀ (i : Nat) (h : i < ks.length), RdVal w B ks[i] (ck i))
      (hi : Row w B 8 vi is.length ci) (hir : ∀ (i : Nat) (h : i < is.length), RdVal w B is[i] (ci i))
      (hr : Rd w B 2 vr rs.length (rawsV rs)) : RdVal w B (.mk k b n s id ks is rs) [.int .i64 k, .bool b, .int .i64 n, .string ⟨s.toArray⟩, .int .i64 id, vk, vi, vr]
/-- a slice of values -/
def RdVals (w : World) (B : Nat) (v : Value) (xs : List Val) : Prop := ∃ c : Nat → List Value, Row w B 8 v xs.length c ∧ ∀ (i : Nat) (h : i < xs.length), RdVal w B xs[i] (c i)

theorem RdVal.keep {w w' : World} {B B' : Nat} {v : Val} {cs : List Value} (h : RdVal w B v cs) (hk : ∀ p : Addr, p.block < B → w'.cell? p = w.cell? p) (hB : B ≤ B') : RdVal w' B' v cs := by
  induction h with
  | mk k b n s id ks is rs vk vi vr ck ci hn hs hl hri h1 _ h2 _ h3 ih1 ih2 =>
    exact .mk k b n s id ks is rs vk vi vr ck ci hn hs hl hri ((h1.keep hk).mono hB) ih1 ((h2.keep hk).mono hB) ih2 ((h3.keep hk).mono hB)
theorem RdVal.on {w w' : World} {v : Val} {cs : List Value} (h : RdVal w w.heap.size v cs) (hb : Below w.heap.size w w') : RdVal w' w'.heap.size v cs := h.keep (fun _ hp => hb.cell hp) hb.size
theorem RdVals.keep {w w' : World} {B B' : Nat} {v : Value} {xs : List Val} (h : RdVals w B v xs) (hk : ∀ p : Addr, p.block < B → w'.cell? p = w.cell? p) (hB : B ≤ B') : RdVals w' B' v xs := by
  obtain ⟨c, h1, h2⟩ := h
  exact ⟨c, (h1.keep hk).mono hB, fun i hi => (h2 i hi).keep hk hB⟩
theorem RdVals.on {w w' : World} {v : Value} {xs : List Val} (h : RdVals w w.heap.size v xs) (hb : Below w.heap.size w w') : RdVals w' w'.heap.size v xs := h.keep (fun _ hp => hb.cell hp) hb.size
theorem RdVals.form {w : World} {B : Nat} {v : Value} {xs : List Val} (h : RdVals w B v xs) : ∃ A c, v = .slice A xs.length c ∧ xs.length ≤ c := by
  obtain ⟨_, ⟨A, c, h1, h2, _⟩, _⟩ := h
  exact ⟨A, c, h1, h2⟩
/-- the cells of one element -/
theorem RdVals.at_ {w : World} {B n cap : Nat} {A : Option Addr} {xs : List Val} (h : RdVals w B (.slice A n cap) xs) (hpos : 0 < xs.length) : ∃ b o, A = some ⟨b, o, none⟩ ∧ b < B ∧ ∀ k (hk : k < xs.length), ∃ cs, (∀ j u, cs[j]? = some u → w.cell? ⟨b, o + k * 8 + j, none⟩ = some u) ∧ RdVal w B xs[k] cs := by
  obtain ⟨c, ⟨A', c', hv, hc, h2⟩, h3⟩ := h
  injection hv with h4 h5 h6
  subst h4
  rcases h2 with h2 | ⟨b, o, hA, hb, hcell⟩
  · omega
  · exact ⟨b, o, hA, hb, fun k hk => ⟨c k, hcell k hk, h3 k hk⟩⟩
/-- the eight cells of an element, each by itself -/
def Cells8 (w : World) (b o : Nat) (x : Val) (vk vi vr : Value) : Prop :=
  w.cell? ⟨b, o, none⟩ = some (.int .i64 x.kind) ∧ w.cell? ⟨b, o + 1, none⟩ = some (.bool x.bool) ∧ w.cell? ⟨b, o + 2, none⟩ = some (.int .i64 x.num) ∧ w.cell? ⟨b, o + 3, none⟩ = some (.string ⟨x.str.toArray⟩) ∧
  w.cell? ⟨b, o + 4, none⟩ = some (.int .i64 x.id) ∧ w.cell? ⟨b, o + 5, none⟩ = some vk ∧ w.cell? ⟨b, o + 6, none⟩ = some vi ∧ w.cell? ⟨b, o + 7, none⟩ = some vr
def valV (x : Val) (vk vi vr : Value) : List Value := [.int .i64 x.kind, .bool x.bool, .int .i64 x.num, .string ⟨x.str.toArray⟩, .int .i64 x.id, vk, vi, vr]
/-- what is known of a value whose cells are at hand -/
structure ValAt (w : World) (B : Nat) (x : Val) (vk vi vr : Value) : Prop where
  ints : I64 x.kind ∧ I64 x.num ∧ I64 x.id
  strl : x.str.length ≤ 140737488351232
  lens : x.keys.length ≤ 140737488351232 ∧ x.items.length ≤ 140737488351232 ∧ x.rest.length ≤ 140737488351232
  raws : ∀ r ∈ x.rest, RawIn r
  keys : RdVals w B vk x.keys
  items : RdVals w B vi x.items
  rest : Rd w B 2 vr x.rest.length (rawsV x.rest)
theorem RdVal.inv {w : World} {B : Nat} {x : Val} {cs : List Value} (h : RdVal w B x cs) : ∃ vk vi vr, cs = valV x vk vi vr ∧ ValAt w B x vk vi vr := by
  cases h with
  | mk k b n s id ks is rs vk vi vr ck ci hn hs hl hri h1 h2 h3 h4 h5 => exact ⟨vk, vi, vr, rfl, hn, hs, hl, hri, ⟨ck, h1, h2⟩, ⟨ci, h3, h4⟩, h5⟩
theorem ValAt.forms {w : World} {B : Nat} {x : Val} {vk vi vr : Value} (h : ValAt w B x vk vi vr) : ∃ A1 c1 A2 c2 A3 c3, vk = .slice A1 x.keys.length c1 ∧ vi = .slice A2 x.items.length c2 ∧ vr = .slice A3 x.rest.length c3 ∧ x.keys.length ≤ c1 ∧ x.items.length ≤ c2 ∧ x.rest.length ≤ c3 := by
  obtain ⟨A1, c1, e1, h1⟩ := h.keys.form
  obtain ⟨A2, c2, e2, h2⟩ := h.items.form
  obtain ⟨A3, c3, e3, h3⟩ := h.rest.form
  exact ⟨A1, c1, A2, c2, A3, c3, e1, e2, e3, h1, h2, h3⟩
theorem ValAt.rd {w : World} {B : Nat} {x : Val} {vk vi vr : Value} (h : ValAt w B x vk vi vr) : RdVal w B x (valV x vk vi vr) := by
  obtain ⟨hn, hs, hl, hri, ⟨ck, h1, h2⟩, ⟨ci, h3, h4⟩, h5⟩ := h
  cases x
  exact .mk _ _ _ _ _ _ _ _ vk vi vr ck ci hn hs hl hri h1 h2 h3 h4 h5
theorem ValAt.on {w w' : World} {x : Val} {vk vi vr : Value} (h : ValAt w w.heap.size x vk vi vr) (hb : Below w.heap.size w w') : ValAt w' w'.heap.size x vk vi vr :=
  ⟨h.ints, h.strl, h.lens, h.raws, h.keys.on hb, h.items.on hb, (h.rest.below hb).mono hb.size⟩
theorem RdVals.elem {w : World} {B n cap : Nat} {A : Option Addr} {xs : List Val} (h : RdVals w B (.slice A n cap) xs) (hpos : 0 < xs.length) : ∃ b o, A = some ⟨b, o, none⟩ ∧ b < B ∧ ∀ k (hk : k < xs.length), ∃ vk vi vr, Cells8 w b (o + k * 8) xs[k] vk vi vr ∧ ValAt w B xs[k] vk vi vr := by
  obtain ⟨b, o, h1, h2, h3⟩ := h.at_ hpos
  refine ⟨b, o, h1, h2, fun k hk => ?_⟩
  obtain ⟨cs, hc, hr⟩ := h3 k hk
  obtain ⟨vk, vi, vr, rfl, hv⟩ := hr.inv
  exact ⟨vk, vi, vr, ⟨hc 0 _ rfl, hc 1 _ rfl, hc 2 _ rfl, hc 3 _ rfl, hc 4 _ rfl, hc 5 _ rfl, hc 6 _ rfl, hc 7 _ rfl⟩, hv⟩
theorem Cells8.below {w w' : World} {B b o : Nat} {x : Val} {vk vi vr : Value} (h : Cells8 w b o x vk vi vr) (hb : Below B w w') (hlt : b < B) : Cells8 w' b o x vk vi vr := by
  obtain ⟨h0, h1, h2, h3, h4, h5, h6, h7⟩ := h
  exact ⟨(hb.cell hlt).trans h0, (hb.cell hlt).trans h1, (hb.cell hlt).trans h2, (hb.cell hlt).trans h3, (hb.cell hlt).trans h4, (hb.cell hlt).trans h5, (hb.cell hlt).trans h6, (hb.cell hlt).trans h7⟩
theorem Has.cells8 {w : World} {b : Nat} {t : TypeId} {x : Val} {vk vi vr : Value} (h : Has w b t (valV x vk vi vr).toArray) : Cells8 w b 0 x vk vi vr :=
  ⟨h.cell 0, h.cell 1, h.cell 2, h.cell 3, h.cell 4, h.cell 5, h.cell 6, h.cell 7⟩
end Go.Proofs.Ytjcoeolconelmaa

/- Plain helpers: byte values, blocks of bytes turned into strings, small facts on worlds. Small words on blocks of cells that a call has made. Append that tells which block may have changed; operations under a guard that holds. Opening arguments of any depth: slices, structs, strings, with the reach. Values as trees, and how memory reads as one. What Zigzag and its reference compute, for the seats that have no Unzigzag. Small words that carry facts on blocks from world to world. Steps of regions that draw: a store of a whole block. The state behind an operation of a region that draws, laid out. A set of strings in a map that the call has made. What IsName of both packages computes. No condition. -/
import Derived.Test.YtgeapglanckjpaaRows
import Derived.Handy
import Derived.Lib.Hide
import Derived.Lib.AppendStr
import Derived.Deep.QuietTactic
import Derived.BigQuiet
import Derived.WalkSpells
import Derived.WalkLawsBesides
import Derived.ShutString
import Derived.ChangeOld
import Derived.Carry
import Derived.SizedLaws
import Derived.Deep.RegionHeld3
import Derived.Deep.Slices
import Derived.Deep.RegionWith
import Derived.Deep.Cut
import Derived.Deep.DeepCutAuto
import Derived.Laws.Tables
import Derived.Deep.AppendLies
import Derived.Laws.CopyOwn
import Derived.IntWalk
import Derived.Deep.CutBlock
import Derived.Maps.OwnSet
import Derived.Maps.Views
set_option maxHeartbeats 400000
namespace Go.Proofs.Ytgeapglanckjpaa
open Go.ChangeShapes Go.WideShapes Go.ChangeAt Go.RowKit
open Go.ChangeMaps (open_string shut_string)
def B8 (b : UInt8) : Value := .int .u8 (b.toNat : Int)
theorem ret_int {k : IntKind} {a b : Int} (h : a = b) : Ending.returned (.int k a) = .returned (.int k b) := by rw [h]
theorem ret_bool {a b : Bool} (h : a = b) : Ending.returned (.bool a) = .returned (.bool b) := by rw [h]
theorem str_app (a b : List UInt8) : ({ data := a.toArray } : ByteArray) ++ { data := b.toArray } = { data := (a ++ b).toArray } := by
 ext1
 rw [ByteArray.data_append]
 simp
theorem below_drewN {B : Nat} {a w : World} (h : Below B a w) (n : Nat) : Below B a (w.drewN n) := ⟨h.os, h.tape, h.output, h.size, h.block⟩
theorem new_block (w : World) (o : Obj) : (w.alloc o).heap[w.heap.size]? = some o := heap_alloc_new w o
theorem wpList_append_one {P : Program} {ops : Array Oper} {rest : List Oper} {o : Oper} {a : Act} {Q : Exit → Act → World → Prop} (hgd : o.guard = none) (s x : Operand) (t : TypeId)
  (ho : o.op = .call { callee := .builtin .append, args := #[s, x], argTypes := #[t, t] })
  (base : Nat) (e : TypeId) (z : Value) (size bytes : Nat) (ht : P.underlying t = some (.slice e)) (hinfo : (P.info? e).map (fun i => (i.zero, i.size, i.bytes)) = some (some z, size, bytes)) (hzs : z.cells.size = size) (hsz : 0 < size)
  (v : Value) (n : Nat) (xs : List Value) (hs : a.eval s = v) {W : World} (hown : W.ownsRow base e size v n xs) (news : List Value) (te : TypeId) (c : Nat)
  (hx : a.eval x = .slice (some ⟨W.heap.size, 0, none⟩) 1 c) (hl : news.length = size) (h1 : ∀ u ∈ news, u.oneCell' = true) (hsmall : n < 1048576) (hby : bytes ≤ 1048576) (hbase : base ≤ W.heap.size)
  (h : ∀ v' w', w'.ownsRow base e size v' (n + 1) (xs ++ news) → Below base W w' → wpList P ops Q rest (a.put o.dst v') w') : wpList P ops Q (o :: rest) a (W.alloc (.cells news.toArray te)) := by
 obtain ⟨i0, hi, hz0, hz1, hz2⟩ := info_parts hinfo
 refine wpList_append_own _ hgd s x t ho base e i0 z size bytes ht hi hz0 hz1 hz2 hzs hsz v n xs hs (hown.alloc _) ⟨W.heap.size, 0, none⟩ 1 c news hx (by omega) ?_ h1 (by simp only [maxLen]; omega) ?_ (by simp; omega) ?_
 ·
  intro j u hu
  have hj : (⟨W.heap.size, 0, none⟩ : Addr).add j = ⟨W.heap.size, j, none⟩ := by unfold Addr.add; split <;> simp_all
  rw [hj]
  simp only [World.cell?, new_block]
  simpa using hu
 ·
  have : (n + 1) * bytes ≤ 1048576 * 1048576 := Nat.mul_le_mul (by omega) hby
  omega
 intro v' w' h2 h3 _
 exact h v' w' h2 (((Below.refl base W).alloc hbase _).grown h3 (by simp; omega) (fun k hk => (hown.lt k hk).1))
def Rd (w : World) (B size : Nat) (v : Value) (n : Nat) (xs : List Value) : Prop :=
 xs.length = n * size ∧ ∃ A c, v = .slice A n c ∧ n ≤ c ∧ (n = 0 ∨ ∃ b o, A = some ⟨b, o, none⟩ ∧ b < B ∧ ∀ j u, xs[j]? = some u → w.cell? ⟨b, o + j, none⟩ = some u)
section
variable {w w' : World} {B B' size n : Nat} {v : Value} {xs : List Value}
theorem Rd.nil_ (w : World) (B size : Nat) : Rd w B size (.slice none 0 0) 0 [] := ⟨by simp, none, 0, rfl, Nat.le_refl _, .inl rfl⟩
theorem Rd.keep (h : Rd w B size v n xs) (hk : ∀ p : Addr, p.block < B → w'.cell? p = w.cell? p) : Rd w' B size v n xs := by
 obtain ⟨hl, A, c, hv, hc, h2⟩ := h
 refine ⟨hl, A, c, hv, hc, ?_⟩
 rcases h2 with h2 | ⟨b, o, hA, hb, hcell⟩
 ·
  exact .inl h2
 exact .inr ⟨b, o, hA, hb, fun j u hu => (hk _ hb).trans (hcell j u hu)⟩
theorem Rd.mono (h : Rd w B size v n xs) (hB : B ≤ B') : Rd w B' size v n xs := by
 obtain ⟨hl, A, c, hv, hc, h2⟩ := h
 refine ⟨hl, A, c, hv, hc, ?_⟩
 rcases h2 with h2 | ⟨b, o, hA, hb, hcell⟩
 ·
  exact .inl h2
 exact .inr ⟨b, o, hA, by omega, hcell⟩
theorem Rd.below (h : Rd w B size v n xs) (hb : Below B w w') : Rd w' B size v n xs := h.keep fun _ hp => hb.cell hp
theorem Rd.alloc (h : Rd w B size v n xs) (hB : B ≤ w.heap.size) (o : Obj) : Rd (w.alloc o) B size v n xs := h.keep fun p hp => World.cell?_of_block (Below.heap_alloc w o p.block (by omega))
theorem Rd.form (h : Rd w B size v n xs) : ∃ A c, v = .slice A n c ∧ n ≤ c := by
 obtain ⟨_, A, c, hv, hc, _⟩ := h
 exact ⟨A, c, hv, hc⟩
theorem Rd.at_ {A : Option Addr} {c : Nat} (h : Rd w B size (.slice A n c) n xs) (hn : 0 < n) : ∃ b o, A = some ⟨b, o, none⟩ ∧ b < B ∧ ∀ j u, xs[j]? = some u → w.cell? ⟨b, o + j, none⟩ = some u := by
 obtain ⟨hl, A', c', hv, hc, h2⟩ := h
 injection hv with h3 h4 h5
 subst h3
 rcases h2 with h2 | h2
 ·
  omega
 exact h2
theorem Rd.of_own {base : Nat} {e : TypeId} (h : w.ownsRow base e size v n xs) : Rd w w.heap.size size v n xs := by
 have h0 := h
 obtain ⟨hl, h2⟩ := h
 rcases h2 with ⟨rfl, rfl⟩ | ⟨g, cap, cur, rfl, hb, hh, hn, hm, hsz, ht⟩
 ·
  exact ⟨hl, none, 0, rfl, Nat.le_refl _, .inl rfl⟩
 refine ⟨hl, _, cap, rfl, hn, .inr ⟨g, 0, rfl, ?_, fun j u hu => ?_⟩⟩
 ·
  rcases Nat.lt_or_ge g w.heap.size with h3 | h3
  ·
   exact h3
  rw [Array.getElem?_eq_none h3] at hh; cases hh
 have := h0.cells (g := g) rfl j u hu
 have e : (⟨g, 0, none⟩ : Addr).add j = ⟨g, 0 + j, none⟩ := by unfold Addr.add; split <;> simp_all
 rwa [e] at this
theorem own_below {base : Nat} {e : TypeId} (h : w.ownsRow base e size v n xs) (hb : Below w.heap.size w w') : w'.ownsRow base e size v n xs :=
 h.kept (row := none) ⟨hb.os, hb.tape, hb.output, hb.size, fun k hk _ => hb.block k hk⟩ (by
  cases hv : v.ownBlock with
  | none => exact .inl rfl
  | some k => exact .inr (by simp))
theorem own_base {base base' : Nat} {e : TypeId} (h : w.ownsRow base e size v n xs) (hb : base' ≤ base) : w.ownsRow base' e size v n xs := by
 obtain ⟨hl, h2⟩ := h
 refine ⟨hl, ?_⟩
 rcases h2 with h2 | ⟨g, cap, cur, hv, hb2, h3⟩
 ·
  exact .inl h2
 exact .inr ⟨g, cap, cur, hv, by omega, h3⟩
end
/-! what a row's frame needs -/
def I64 (n : Int) : Prop := -9223372036854775808 ≤ n ∧ n ≤ 9223372036854775807
theorem own_knob : ownKnob Try.prog.godebug = none := by kernel_rfl
theorem laid_out : laidOutB Try.prog = true := by kernel_rfl
theorem trodAll_below {H : Type} {enc : TypeId × Value → H} {P : Program} (hl : laidOutB P = true) {W W' : World} (hb : Below W.heap.size W W') :
  ∀ (ts : List TypeId) (vs : List Value) (ds : List (DataW H)) (ps : List MemPlace), ts.all (fun t => P.readableRec t && decide (t < P.types.size)) = true →
   DataW.TrodAll enc P W 0 (fun _ => true) true ts vs ds ps → (∀ x ∈ ps, x.block < W.heap.size) → DataW.TrodAll enc P W' 0 (fun b => decide (b < W.heap.size)) true ts vs ds ps := by
 intro ts
 induction ts with
 | nil => intro vs ds ps _ h _; exact (match vs, ds, h with | [], [], h => h)
 | cons t ts ih =>
  intro vs ds ps hall h hlt
  match vs, ds, h with
  | v :: vs, d :: ds, ⟨p, q, h1, h2, e⟩ =>
   subst e
   simp only [List.all_cons, Bool.and_eq_true, decide_eq_true_eq] at hall
   exact ⟨p, q, Below.trod hl hall.1.1 hall.1.2 h1 hb (fun x hx => hlt x (List.mem_append_left _ hx)), ih vs ds q hall.2 h2 (fun x hx => hlt x (List.mem_append_right _ hx)), rfl⟩
theorem gl3 : (∀ (l : List Value) (i : Nat), l.toArray[i]? = l[i]?) ∧ (∀ (x : Value) (l : List Value) (i : Nat), (x :: l)[i + 1]? = l[i]?) ∧ (∀ (x : Value) (l : List Value), (x :: l)[0]? = some x) := ⟨fun _ _ => by simp, fun _ _ _ => by simp, fun _ _ => by simp⟩
theorem al2 (w : World) : ∀ o1 o2 : Obj, Below w.heap.size w ((w.alloc o1).alloc o2) := fun o1 o2 => ((Below.refl w.heap.size w).alloc (Nat.le_refl _) o1).alloc (show w.heap.size ≤ (w.alloc o1).heap.size by simp) o2
theorem al3 (w : World) : ∀ o1 o2 o3 : Obj, Below w.heap.size w (((w.alloc o1).alloc o2).alloc o3) := fun o1 o2 o3 => (((Below.refl w.heap.size w).alloc (Nat.le_refl _) o1).alloc (show w.heap.size ≤ (w.alloc o1).heap.size by simp) o2).alloc (show w.heap.size ≤ ((w.alloc o1).alloc o2).heap.size by simp; omega) o3
end Go.Proofs.Ytgeapglanckjpaa
namespace Go.Proofs.Ytgeapglanckjpaa
open Go.ChangeShapes Go.WideShapes Go.ChangeAt Go.RowKit
def Has (w : World) (g : Nat) (t : TypeId) (cs : Array Value) : Prop := w.heap[g]? = some (.cells cs t (0, 0))
section
variable {w w' : World} {g : Nat} {t : TypeId} {cs : Array Value}
theorem Has.here (h : Has w g t cs) : g < w.heap.size := by
 rcases Nat.lt_or_ge g w.heap.size with h1 | h1
 ·
  exact h1
 unfold Has at h; rw [Array.getElem?_eq_none h1] at h; cases h
theorem Has.cell (h : Has w g t cs) (i : Nat) : w.cell? ⟨g, i, none⟩ = cs[i]? := by
 unfold Has at h
 simp [World.cell?, h]
theorem Has.free (h : Has w g t cs) (i : Nat) : w.frozen? ⟨g, i, none⟩ = false := by
 unfold Has at h
 simp [World.frozen?, h]
theorem Has.made (w : World) (t : TypeId) (cs : Array Value) : Has (w.alloc (.cells cs t)) w.heap.size t cs := heap_alloc_new w _
theorem Has.alloc (h : Has w g t cs) (o : Obj) : Has (w.alloc o) g t cs := (Below.heap_alloc w o g h.here).trans h
theorem Has.drew (h : Has w g t cs) : Has w.drew g t cs := h
theorem Has.drewN (h : Has w g t cs) (n : Nat) : Has (w.drewN n) g t cs := h
theorem Has.set (h : Has w g t cs) (i : Nat) (u : Value) : Has (w.setCell ⟨g, i, none⟩ u) g t (cs.setIfInBounds i u) := by
 unfold Has at h ⊢
 simp [World.setCell, Array.getElem?_modify, h]
theorem Has.far (h : Has w g t cs) {p : Addr} (hp : g ≠ p.block) (u : Value) : Has (w.setCell p u) g t cs := (Below.heap_setCell w p u g hp).trans h
theorem Has.below {B : Nat} (h : Has w g t cs) (hb : Below B w w') (hg : g < B) : Has w' g t cs := (hb.block g hg).trans h
end
theorem wpList_append_at {P : Program} {ops : Array Oper} {rest : List Oper} {o : Oper} {a : Act} {Q : Exit → Act → World → Prop} (hgd : o.guard = none) (s x : Operand) (t : TypeId)
  (ho : o.op = .call { callee := .builtin .append, args := #[s, x], argTypes := #[t, t] })
  (base : Nat) (e : TypeId) (z : Value) (size bytes : Nat) (ht : P.underlying t = some (.slice e)) (hinfo : (P.info? e).map (fun i => (i.zero, i.size, i.bytes)) = some (some z, size, bytes)) (hzs : z.cells.size = size) (hsz : 0 < size)
  (v : Value) (n : Nat) (xs : List Value) (hs : a.eval s = v) {W : World} (hown : W.ownsRow base e size v n xs) (news : List Value) (te : TypeId) (c g : Nat)
  (hx : a.eval x = .slice (some ⟨g, 0, none⟩) 1 c) (hg : g = W.heap.size) (hl : news.length = size) (h1 : ∀ u ∈ news, u.oneCell' = true) (hsmall : n < 1048576) (hby : bytes ≤ 1048576) (hbase : base ≤ W.heap.size)
  (h : ∀ v' w', w'.ownsRow base e size v' (n + 1) (xs ++ news) → Below base W w' → wpList P ops Q rest (a.put o.dst v') w') : wpList P ops Q (o :: rest) a (W.alloc (.cells news.toArray te)) := by
 subst hg
 exact wpList_append_one hgd s x t ho base e z size bytes ht hinfo hzs hsz v n xs hs hown news te c hx hl h1 hsmall hby hbase h
end Go.Proofs.Ytgeapglanckjpaa
namespace Go.Proofs.Ytgeapglanckjpaa
open Go.ChangeShapes Go.WideShapes Go.ChangeAt Go.RowKit
theorem grown_below {W w' : World} {base : Nat} {e : TypeId} {size n : Nat} {v : Value} {xs : List Value} {o : Obj} (hown : W.ownsRow base e size v n xs) (hb : base ≤ W.heap.size) (h : (W.alloc o).grownBy w' v.ownBlock) : Below base W w' :=
 ((Below.refl base W).alloc hb o).grown h (by simp; omega) (fun k hk => (hown.lt k hk).1)
theorem own_later {w0 w1 : World} {b0 b1 s0 s1 n0 n1 : Nat} {e0 e1 : TypeId} {v0 v1 : Value} {x0 x1 : List Value} (h0 : w0.ownsRow b0 e0 s0 v0 n0 x0) (h1 : w1.ownsRow b1 e1 s1 v1 n1 x1) (hb : w0.heap.size ≤ b1) : v1.ownBlock = none ∨ v1.ownBlock ≠ v0.ownBlock := by
 cases h : v1.ownBlock with
 | none => exact .inl rfl
 | some k =>
  right
  intro he
  have h2 := (h1.lt k h).1
  have h3 := (h0.lt k he.symm).2
  omega
theorem own_grown {W w' : World} {base : Nat} {e : TypeId} {size n : Nat} {v : Value} {xs : List Value} {o : Obj} {row : Option Nat} (hown : W.ownsRow base e size v n xs) (h : (W.alloc o).grownBy w' row) (hne : v.ownBlock = none ∨ v.ownBlock ≠ row) : w'.ownsRow base e size v n xs :=
 (hown.alloc o).kept h hne
end Go.Proofs.Ytgeapglanckjpaa
namespace Go.Proofs.Ytgeapglanckjpaa
open Go.ChangeShapes Go.WideShapes Go.ChangeAt Go.RowKit
def Sz {H : Type} (t : TypeId) (d : DataW H) : Prop := ∀ n ∈ d.weights Try.prog t, n ≤ 140737488351232
theorem reach_num : reachBytes = 140737488351232 := by decide
theorem sz_of_each {H : Type} {ts : List TypeId} {ds : List (DataW H)} (h : (DataW.weightsEach Try.prog ts ds).all (· ≤ reachBytes) = true) {j : Nat} {t : TypeId} {d : DataW H} (ht : ts[j]? = some t) (hd : ds[j]? = some d) : Sz t d := fun n hn => by
 have := List.all_eq_true.1 h n (DataW.weights_mem_each ht hd n hn)
 rw [← reach_num]
 simpa using this
theorem mem_weightsAll {H : Type} {P : Program} {e : TypeId} : ∀ {ds : List (DataW H)} {d : DataW H}, d ∈ ds → ∀ n ∈ d.weights P e, n ∈ DataW.weightsAll P e ds
 | d0 :: ds, d, hd, n, hn => by
  rw [DataW.weightsAll]
  rcases List.mem_cons.1 hd with rfl | hd
  ·
   exact List.mem_append_left _ hn
  exact List.mem_append_right _ (mem_weightsAll hd n hn)
theorem mem_weightsEach {H : Type} {P : Program} : ∀ {ts : List TypeId} {ds : List (DataW H)} {j : Nat} {t : TypeId} {d : DataW H}, ts[j]? = some t → ds[j]? = some d → ∀ n ∈ d.weights P t, n ∈ DataW.weightsEach P ts ds := DataW.weights_mem_each
theorem Sz.str {H : Type} {t : TypeId} {b : List UInt8} (h : Sz t (.lit (.string b) : DataW H)) : b.length ≤ 140737488351232 := h _ (by simp [DataW.weights])
theorem Sz.field {H : Type} {t : TypeId} {fs : Array Field} {parts : List (DataW H)} (h : Sz t (.agg parts)) (ht : Try.prog.underlying t = some (.struct fs)) {i : Nat} {f : Field} {d : DataW H} (hf : fs[i]? = some f) (hd : parts[i]? = some d) : Sz f.type d := fun n hn => by
 refine h n ?_
 simp only [DataW.weights, ht]
 exact mem_weightsEach (j := i) (by simpa using ⟨f, hf, rfl⟩) hd n hn
theorem Sz.len {H : Type} {t e : TypeId} {es sp : List (DataW H)} (h : Sz t (.slice es sp)) (ht : Try.prog.underlying t = some (.slice e)) : (es.length + sp.length) * Try.prog.bytesOf e ≤ 140737488351232 :=
 h _ (by simp [DataW.weights, ht])
theorem Sz.elem {H : Type} {t e : TypeId} {es sp : List (DataW H)} (h : Sz t (.slice es sp)) (ht : Try.prog.underlying t = some (.slice e)) {d : DataW H} (hd : d ∈ es) : Sz e d := fun n hn =>
 h n (by simp only [DataW.weights, ht]; exact List.mem_cons_of_mem _ (List.mem_append_left _ (mem_weightsAll hd n hn)))
section
variable {H : Type} {enc : TypeId × Value → H} {w : World} {base : Nat} {spare : Nat → Bool} {held : Bool}
set_option maxRecDepth 100000 in
theorem open_rows {t e : TypeId} {size fuel : Nat} {cs : List Value} {x : DataW H × List MemPlace} (ht : Try.prog.underlying t = some (.slice e)) (hC : Try.prog.cellsOf e = size) (hpos : 0 < size)
  (h : DataW.trod enc Try.prog w base spare held fuel t cs = some x) (hs : Sz t x.1) :
  ∃ (A : Option Addr) (len cap : Nat), cs = [.slice A len cap] ∧ len ≤ cap ∧ len * Try.prog.bytesOf e ≤ 140737488351232 ∧
   (len = 0 ∨ ∃ b o, A = some ⟨b, o, none⟩ ∧ b < w.heap.size ∧ ∃ (N : Nat) (D : Nat → DataW H) (Pl : Nat → List MemPlace), ∀ i, i < len → ∃ cs', cs'.length = size ∧
    (∀ j u, cs'[j]? = some u → w.cell? ⟨b, o + i * size + j, none⟩ = some u) ∧ DataW.trod enc Try.prog w base spare held N e cs' = some (D i, Pl i) ∧ Sz e (D i)) := by
 rcases Go.Deep.open_slice ht h with ⟨rfl, _⟩ | ⟨a, len, cap, m, n, D, Pl, rfl, hb, hl, hm, hmm, rfl, hel⟩
 ·
  exact ⟨none, 0, 0, rfl, Nat.le_refl _, by simp, .inl rfl⟩
 have hlm : len ≤ m := by rw [hmm]; split <;> omega
 refine ⟨some a, len, cap, rfl, hl, ?_, ?_⟩
 ·
  have := hs.len ht
  simp only [List.length_map, List.length_range] at this
  exact Nat.le_trans (Nat.mul_le_mul_right _ (by omega)) this
 by_cases h0 : len = 0
 ·
  exact .inl h0
 right
 have hcell : ∀ i, i < len → ∃ cs', cs'.length = size ∧ (∀ j, j < size → w.cell? ((a.add (i * size)).add j) = cs'[j]?) ∧ DataW.trod enc Try.prog w base spare held n e cs' = some (D i, Pl i) := fun i hi => by
  obtain ⟨cs', h1, h2⟩ := hel i (by omega)
  rw [hC] at h1
  obtain ⟨_, h3, h4⟩ := World.cells?_some h1
  exact ⟨cs', h3, h4, h2⟩
 have h00 : ∃ u, w.cell? a = some u := by
  obtain ⟨cs', h1, h2, _⟩ := hcell 0 (by omega)
  have := h2 0 hpos
  have e0 : (a.add (0 * size)).add 0 = a := by simp [Addr.add]
  rw [e0] at this
  exact ⟨cs'[0]'(by omega), by rw [this]; exact List.getElem?_eq_getElem (by omega)⟩
 obtain ⟨u, hu⟩ := h00
 have hsp : a.spot = none := by
  cases hs : a.spot with
  | none => rfl
  | some s => simp [World.cell?, hs] at hu; split at hu <;> simp at hu
 obtain ⟨b, o, sp⟩ := a
 simp only at hsp
 subst hsp
 refine ⟨b, o, rfl, World.block_lt_of_cell? _ _ hu, n, D, Pl, fun i hi => ?_⟩
 obtain ⟨cs', h1, h2, h3⟩ := hcell i hi
 refine ⟨cs', h1, fun j v hv => ?_, h3, hs.elem ht (List.mem_map.2 ⟨i, by simpa using hi, rfl⟩)⟩
 have hj : j < size := by rw [← h1]; exact (List.getElem?_eq_some_iff.1 hv).1
 have e1 : ((⟨b, o, none⟩ : Addr).add (i * size)).add j = ⟨b, o + i * size + j, none⟩ := by unfold Addr.add; split <;> split <;> simp_all
 rw [← e1, h2 j hj, hv]
end
theorem flat_len {α : Type} {f : α → List Value} {size : Nat} (hf : ∀ a, (f a).length = size) (xs : List α) : (xs.flatMap f).length = xs.length * size := by
 induction xs with
 | nil => simp
 | cons x r ih => rw [List.flatMap_cons, List.length_append, hf, ih, List.length_cons, Nat.succ_mul, Nat.add_comm]
theorem flat_get {α : Type} {f : α → List Value} {size : Nat} (hf : ∀ a, (f a).length = size) (xs : List α) : ∀ (k j : Nat) (h : k < xs.length), j < size → (xs.flatMap f)[k * size + j]? = (f xs[k])[j]? := by
 induction xs with
 | nil => intro k j h; simp at h
 | cons x r ih =>
  intro k j h hj
  rw [List.flatMap_cons]
  cases k with
  | zero => rw [List.getElem?_append_left (by rw [hf]; omega)]; simp
  | succ k =>
   rw [List.getElem?_append_right (by rw [hf, Nat.succ_mul]; omega), hf]
   have e2 : (k + 1) * size + j - size = k * size + j := by rw [Nat.succ_mul]; omega
   rw [e2, ih k j (by simpa using h) hj]
   simp
theorem flat_inv {α : Type} {f : α → List Value} {size : Nat} (hf : ∀ a, (f a).length = size) (hpos : 0 < size) (xs : List α) (j : Nat) (u : Value) (h : (xs.flatMap f)[j]? = some u) : ∃ hk : j / size < xs.length, (f (xs[j / size]))[j % size]? = some u := by
 have hl := (List.getElem?_eq_some_iff.1 h).1
 rw [flat_len hf] at hl
 have hk : j / size < xs.length := Nat.div_lt_of_lt_mul (by rw [Nat.mul_comm]; exact hl)
 refine ⟨hk, ?_⟩
 rw [← flat_get hf xs (j / size) (j % size) hk (Nat.mod_lt _ hpos)]
 have : j / size * size + j % size = j := by rw [Nat.mul_comm]; exact Nat.div_add_mod j size
 rw [this, h]
set_option maxRecDepth 100000 in
theorem open_list {H : Type} {enc : TypeId × Value → H} {w : World} {base : Nat} {spare : Nat → Bool} {held : Bool} {α : Type} {good : α → Prop} {f : α → List Value}
  {t e : TypeId} {size fuel : Nat} {cs : List Value} {x : DataW H × List MemPlace} (ht : Try.prog.underlying t = some (.slice e)) (hC : Try.prog.cellsOf e = size) (hpos : 0 < size) (hf : ∀ a, (f a).length = size)
  (h : DataW.trod enc Try.prog w base spare held fuel t cs = some x) (hs : Sz t x.1)
  (hel : ∀ (N : Nat) (cs' : List Value) (D : DataW H) (Q : List MemPlace), cs'.length = size → DataW.trod enc Try.prog w base spare held N e cs' = some (D, Q) → Sz e D → ∃ a, cs' = f a ∧ good a) :
  ∃ (v : Value) (xs : List α), cs = [v] ∧ xs.length * Try.prog.bytesOf e ≤ 140737488351232 ∧ (∀ a ∈ xs, good a) ∧ Rd w w.heap.size size v xs.length (xs.flatMap f) := by
 obtain ⟨A, len, cap, rfl, hl, hb, hrow⟩ := open_rows ht hC hpos h hs
 rcases hrow with rfl | ⟨b, o, rfl, hlt, N, D, Pl, hi⟩
 ·
  exact ⟨_, [], rfl, by simp, by simp, by simp, A, cap, rfl, hl, .inl rfl⟩
 have hex : ∀ i, i < len → ∃ a, good a ∧ ∀ j u, (f a)[j]? = some u → w.cell? ⟨b, o + i * size + j, none⟩ = some u := fun i h0 => by
  obtain ⟨cs', h1, h2, h3, h4⟩ := hi i h0
  obtain ⟨a, rfl, hg⟩ := hel N cs' (D i) (Pl i) h1 h3 h4
  exact ⟨a, hg, h2⟩
 have hall : ∀ n, n ≤ len → ∃ xs : List α, xs.length = n ∧ (∀ a ∈ xs, good a) ∧ ∀ i (h : i < xs.length), ∀ j u, (f xs[i])[j]? = some u → w.cell? ⟨b, o + i * size + j, none⟩ = some u := by
  intro n
  induction n with
  | zero => intro _; exact ⟨[], rfl, by simp, fun i h => by simp at h⟩
  | succ n ih =>
   intro hn
   obtain ⟨xs, h1, h2, h3⟩ := ih (by omega)
   obtain ⟨a, hg, ha⟩ := hex n (by omega)
   refine ⟨xs ++ [a], by simp [h1], fun y hy => ?_, fun i hi j u hu => ?_⟩
   ·
    rcases List.mem_append.1 hy with hy | hy
    ·
     exact h2 y hy
    rw [List.mem_singleton.1 hy]; exact hg
   rw [List.length_append, List.length_singleton] at hi
   rcases Nat.lt_or_ge i xs.length with hlt | hge
   ·
    rw [List.getElem_append_left hlt] at hu; exact h3 i hlt j u hu
   obtain rfl : i = xs.length := by omega
   rw [List.getElem_append_right (Nat.le_refl _)] at hu
   simp only [Nat.sub_self, List.getElem_cons_zero] at hu
   rw [h1]; exact ha j u hu
 obtain ⟨xs, h1, h2, h3⟩ := hall len (Nat.le_refl _)
 subst h1
 refine ⟨_, xs, rfl, hb, h2, flat_len hf xs, _, cap, rfl, hl, ?_⟩
 refine .inr ⟨b, o, rfl, hlt, fun j u hu => ?_⟩
 obtain ⟨hk, hu2⟩ := flat_inv hf hpos xs j u hu
 have := h3 _ hk _ _ hu2
 have e : o + j / size * size + j % size = o + j := by
  have := Nat.div_add_mod j size
  rw [Nat.mul_comm] at this
  omega
 rw [e] at this
 exact this
end Go.Proofs.Ytgeapglanckjpaa
namespace Go.Proofs.Ytgeapglanckjpaa
open Go.ChangeShapes Go.WideShapes Go.ChangeAt Go.RowKit
abbrev Raw := Int × List UInt8
inductive Val where
 | mk (kind : Int) (bool : Bool) (num : Int) (str : List UInt8) (id : Int) (keys items : List Val) (rest : List Raw) : Val
namespace Val
def kind : Val → Int | .mk k _ _ _ _ _ _ _ => k
def bool : Val → Bool | .mk _ b _ _ _ _ _ _ => b
def num : Val → Int | .mk _ _ n _ _ _ _ _ => n
def str : Val → List UInt8 | .mk _ _ _ s _ _ _ _ => s
def id : Val → Int | .mk _ _ _ _ i _ _ _ => i
def keys : Val → List Val | .mk _ _ _ _ _ ks _ _ => ks
def items : Val → List Val | .mk _ _ _ _ _ _ is _ => is
def rest : Val → List Raw | .mk _ _ _ _ _ _ _ rs => rs
end Val
def val0 : Val := .mk 0 false 0 [] 0 [] [] []
mutual
def nodes : Val → Nat
 | .mk _ _ _ _ _ ks is _ => nodesL ks + nodesL is + 1
def nodesL : List Val → Nat
 | [] => 0
 | x :: r => nodes x + nodesL r
end
mutual
def depth : Val → Nat
 | .mk _ _ _ _ _ ks is _ => max (depthL ks) (depthL is) + 1
def depthL : List Val → Nat
 | [] => 0
 | x :: r => max (depth x) (depthL r)
end
theorem nodes_pos (v : Val) : 1 ≤ nodes v := by cases v; rw [nodes]; omega
theorem nodesL_mem (l : List Val) (x : Val) (h : x ∈ l) : nodes x ≤ nodesL l := by
 induction l with
 | nil => simp at h
 | cons y r ih =>
  rw [nodesL]
  rcases List.mem_cons.1 h with rfl | h
  ·
   omega
  have := ih h; omega
theorem nodesL_len (l : List Val) : l.length ≤ nodesL l := by
 induction l with
 | nil => simp
 | cons y r ih => rw [nodesL, List.length_cons]; have := nodes_pos y; omega
theorem nodesL_app (a b : List Val) : nodesL (a ++ b) = nodesL a + nodesL b := by
 induction a with
 | nil => simp [nodesL]
 | cons y r ih => rw [List.cons_append, nodesL, nodesL, ih]; omega
theorem depthL_app (a b : List Val) : depthL (a ++ b) = max (depthL a) (depthL b) := by
 induction a with
 | nil => simp [depthL]
 | cons y r ih => rw [List.cons_append, depthL, depthL, ih]; omega
theorem nodesL_take (l : List Val) (k : Nat) (h : k < l.length) : nodesL (l.take (k+1)) = nodesL (l.take k) + nodes l[k] := by
 rw [List.take_succ_eq_append_getElem h, nodesL_app]
 simp [nodesL]
theorem nodesL_take_le (l : List Val) (k : Nat) : nodesL (l.take k) ≤ nodesL l := by
 have h := nodesL_app (l.take k) (l.drop k)
 rw [List.take_append_drop] at h
 omega
theorem depthL_take (l : List Val) (k : Nat) (h : k < l.length) : depthL (l.take (k+1)) = max (depthL (l.take k)) (depth l[k]) := by
 rw [List.take_succ_eq_append_getElem h, depthL_app]
 simp [depthL]
mutual
theorem depth_nodes : ∀ v : Val, depth v ≤ nodes v
 | .mk _ _ _ _ _ ks is _ => by
  rw [depth, nodes]
  have h1 := depthL_nodes ks
  have h2 := depthL_nodes is
  omega
theorem depthL_nodes : ∀ l : List Val, depthL l ≤ nodesL l
 | [] => by simp [depthL]
 | x :: r => by
  rw [depthL, nodesL]
  have h1 := depth_nodes x
  have h2 := depthL_nodes r
  omega
end
def rawV (r : Raw) : List Value := [.int .i64 r.1, .string ⟨r.2.toArray⟩]
theorem rawV_len (r : Raw) : (rawV r).length = 2 := rfl
def rawsV (rs : List Raw) : List Value := rs.flatMap rawV
def RawIn (r : Raw) : Prop := I64 r.1 ∧ r.2.length ≤ 140737488351232
def Row (w : World) (B size : Nat) (v : Value) (n : Nat) (c : Nat → List Value) : Prop :=
 ∃ A cap, v = .slice A n cap ∧ n ≤ cap ∧ (n = 0 ∨ ∃ b o, A = some ⟨b, o, none⟩ ∧ b < B ∧ ∀ i, i < n → ∀ j u, (c i)[j]? = some u → w.cell? ⟨b, o + i * size + j, none⟩ = some u)
section
variable {w w' : World} {B B' size n : Nat} {v : Value} {c : Nat → List Value}
theorem Row.keep (h : Row w B size v n c) (hk : ∀ p : Addr, p.block < B → w'.cell? p = w.cell? p) : Row w' B size v n c := by
 obtain ⟨A, cap, hv, hc, h2⟩ := h
 refine ⟨A, cap, hv, hc, ?_⟩
 rcases h2 with h2 | ⟨b, o, hA, hb, hcell⟩
 ·
  exact .inl h2
 exact .inr ⟨b, o, hA, hb, fun i hi j u hu => (hk _ hb).trans (hcell i hi j u hu)⟩
theorem Row.mono (h : Row w B size v n c) (hB : B ≤ B') : Row w B' size v n c := by
 obtain ⟨A, cap, hv, hc, h2⟩ := h
 refine ⟨A, cap, hv, hc, ?_⟩
 rcases h2 with h2 | ⟨b, o, hA, hb, hcell⟩
 ·
  exact .inl h2
 exact .inr ⟨b, o, hA, by omega, hcell⟩
end
inductive RdVal (w : World) (B : Nat) : Val → List Value → Prop
 | mk (k : Int) (b : Bool) (n : Int) (s : List UInt8) (id : Int) (ks is : List Val) (rs : List Raw) (vk vi vr : Value) (ck ci : Nat → List Value)
   (hn : I64 k ∧ I64 n ∧ I64 id) (hs : s.length ≤ 140737488351232) (hl : ks.length ≤ 140737488351232 ∧ is.length ≤ 140737488351232 ∧ rs.length ≤ 140737488351232) (hri : ∀ r ∈ rs, RawIn r)
   (hk : Row w B 8 vk ks.length ck) (hkr : ∀ (i : Nat) (h : i < ks.length), RdVal w B ks[i] (ck i))
   (hi : Row w B 8 vi is.length ci) (hir : ∀ (i : Nat) (h : i < is.length), RdVal w B is[i] (ci i))
   (hr : Rd w B 2 vr rs.length (rawsV rs)) : RdVal w B (.mk k b n s id ks is rs) [.int .i64 k, .bool b, .int .i64 n, .string ⟨s.toArray⟩, .int .i64 id, vk, vi, vr]
def RdVals (w : World) (B : Nat) (v : Value) (xs : List Val) : Prop := ∃ c : Nat → List Value, Row w B 8 v xs.length c ∧ ∀ (i : Nat) (h : i < xs.length), RdVal w B xs[i] (c i)
theorem RdVal.keep {w w' : World} {B B' : Nat} {v : Val} {cs : List Value} (h : RdVal w B v cs) (hk : ∀ p : Addr, p.block < B → w'.cell? p = w.cell? p) (hB : B ≤ B') : RdVal w' B' v cs := by
 induction h with
 | mk k b n s id ks is rs vk vi vr ck ci hn hs hl hri h1 _ h2 _ h3 ih1 ih2 =>
  exact .mk k b n s id ks is rs vk vi vr ck ci hn hs hl hri ((h1.keep hk).mono hB) ih1 ((h2.keep hk).mono hB) ih2 ((h3.keep hk).mono hB)
theorem RdVal.on {w w' : World} {v : Val} {cs : List Value} (h : RdVal w w.heap.size v cs) (hb : Below w.heap.size w w') : RdVal w' w'.heap.size v cs := h.keep (fun _ hp => hb.cell hp) hb.size
theorem RdVals.keep {w w' : World} {B B' : Nat} {v : Value} {xs : List Val} (h : RdVals w B v xs) (hk : ∀ p : Addr, p.block < B → w'.cell? p = w.cell? p) (hB : B ≤ B') : RdVals w' B' v xs := by
 obtain ⟨c, h1, h2⟩ := h
 exact ⟨c, (h1.keep hk).mono hB, fun i hi => (h2 i hi).keep hk hB⟩
theorem RdVals.on {w w' : World} {v : Value} {xs : List Val} (h : RdVals w w.heap.size v xs) (hb : Below w.heap.size w w') : RdVals w' w'.heap.size v xs := h.keep (fun _ hp => hb.cell hp) hb.size
theorem RdVals.form {w : World} {B : Nat} {v : Value} {xs : List Val} (h : RdVals w B v xs) : ∃ A c, v = .slice A xs.length c ∧ xs.length ≤ c := by
 obtain ⟨_, ⟨A, c, h1, h2, _⟩, _⟩ := h
 exact ⟨A, c, h1, h2⟩
theorem RdVals.at_ {w : World} {B n cap : Nat} {A : Option Addr} {xs : List Val} (h : RdVals w B (.slice A n cap) xs) (hpos : 0 < xs.length) : ∃ b o, A = some ⟨b, o, none⟩ ∧ b < B ∧ ∀ k (hk : k < xs.length), ∃ cs, (∀ j u, cs[j]? = some u → w.cell? ⟨b, o + k * 8 + j, none⟩ = some u) ∧ RdVal w B xs[k] cs := by
 obtain ⟨c, ⟨A', c', hv, hc, h2⟩, h3⟩ := h
 injection hv with h4 h5 h6
 subst h4
 rcases h2 with h2 | ⟨b, o, hA, hb, hcell⟩
 ·
  omega
 exact ⟨b, o, hA, hb, fun k hk => ⟨c k, hcell k hk, h3 k hk⟩⟩
def Cells8 (w : World) (b o : Nat) (x : Val) (vk vi vr : Value) : Prop :=
 w.cell? ⟨b, o, none⟩ = some (.int .i64 x.kind) ∧ w.cell? ⟨b, o + 1, none⟩ = some (.bool x.bool) ∧ w.cell? ⟨b, o + 2, none⟩ = some (.int .i64 x.num) ∧ w.cell? ⟨b, o + 3, none⟩ = some (.string ⟨x.str.toArray⟩) ∧
 w.cell? ⟨b, o + 4, none⟩ = some (.int .i64 x.id) ∧ w.cell? ⟨b, o + 5, none⟩ = some vk ∧ w.cell? ⟨b, o + 6, none⟩ = some vi ∧ w.cell? ⟨b, o + 7, none⟩ = some vr
def valV (x : Val) (vk vi vr : Value) : List Value := [.int .i64 x.kind, .bool x.bool, .int .i64 x.num, .string ⟨x.str.toArray⟩, .int .i64 x.id, vk, vi, vr]
structure ValAt (w : World) (B : Nat) (x : Val) (vk vi vr : Value) : Prop where
 ints : I64 x.kind ∧ I64 x.num ∧ I64 x.id
 strl : x.str.length ≤ 140737488351232
 lens : x.keys.length ≤ 140737488351232 ∧ x.items.length ≤ 140737488351232 ∧ x.rest.length ≤ 140737488351232
 raws : ∀ r ∈ x.rest, RawIn r
 keys : RdVals w B vk x.keys
 items : RdVals w B vi x.items
 rest : Rd w B 2 vr x.rest.length (rawsV x.rest)
theorem RdVal.inv {w : World} {B : Nat} {x : Val} {cs : List Value} (h : RdVal w B x cs) : ∃ vk vi vr, cs = valV x vk vi vr ∧ ValAt w B x vk vi vr := by
 cases h with
 | mk k b n s id ks is rs vk vi vr ck ci hn hs hl hri h1 h2 h3 h4 h5 => exact ⟨vk, vi, vr, rfl, hn, hs, hl, hri, ⟨ck, h1, h2⟩, ⟨ci, h3, h4⟩, h5⟩
theorem ValAt.forms {w : World} {B : Nat} {x : Val} {vk vi vr : Value} (h : ValAt w B x vk vi vr) : ∃ A1 c1 A2 c2 A3 c3, vk = .slice A1 x.keys.length c1 ∧ vi = .slice A2 x.items.length c2 ∧ vr = .slice A3 x.rest.length c3 ∧ x.keys.length ≤ c1 ∧ x.items.length ≤ c2 ∧ x.rest.length ≤ c3 := by
 obtain ⟨A1, c1, e1, h1⟩ := h.keys.form
 obtain ⟨A2, c2, e2, h2⟩ := h.items.form
 obtain ⟨A3, c3, e3, h3⟩ := h.rest.form
 exact ⟨A1, c1, A2, c2, A3, c3, e1, e2, e3, h1, h2, h3⟩
theorem ValAt.rd {w : World} {B : Nat} {x : Val} {vk vi vr : Value} (h : ValAt w B x vk vi vr) : RdVal w B x (valV x vk vi vr) := by
 obtain ⟨hn, hs, hl, hri, ⟨ck, h1, h2⟩, ⟨ci, h3, h4⟩, h5⟩ := h
 cases x
 exact .mk _ _ _ _ _ _ _ _ vk vi vr ck ci hn hs hl hri h1 h2 h3 h4 h5
theorem ValAt.on {w w' : World} {x : Val} {vk vi vr : Value} (h : ValAt w w.heap.size x vk vi vr) (hb : Below w.heap.size w w') : ValAt w' w'.heap.size x vk vi vr :=
 ⟨h.ints, h.strl, h.lens, h.raws, h.keys.on hb, h.items.on hb, (h.rest.below hb).mono hb.size⟩
theorem RdVals.elem {w : World} {B n cap : Nat} {A : Option Addr} {xs : List Val} (h : RdVals w B (.slice A n cap) xs) (hpos : 0 < xs.length) : ∃ b o, A = some ⟨b, o, none⟩ ∧ b < B ∧ ∀ k (hk : k < xs.length), ∃ vk vi vr, Cells8 w b (o + k * 8) xs[k] vk vi vr ∧ ValAt w B xs[k] vk vi vr := by
 obtain ⟨b, o, h1, h2, h3⟩ := h.at_ hpos
 refine ⟨b, o, h1, h2, fun k hk => ?_⟩
 obtain ⟨cs, hc, hr⟩ := h3 k hk
 obtain ⟨vk, vi, vr, rfl, hv⟩ := hr.inv
 exact ⟨vk, vi, vr, ⟨hc 0 _ rfl, hc 1 _ rfl, hc 2 _ rfl, hc 3 _ rfl, hc 4 _ rfl, hc 5 _ rfl, hc 6 _ rfl, hc 7 _ rfl⟩, hv⟩
theorem Cells8.below {w w' : World} {B b o : Nat} {x : Val} {vk vi vr : Value} (h : Cells8 w b o x vk vi vr) (hb : Below B w w') (hlt : b < B) : Cells8 w' b o x vk vi vr := by
 obtain ⟨h0, h1, h2, h3, h4, h5, h6, h7⟩ := h
 exact ⟨(hb.cell hlt).trans h0, (hb.cell hlt).trans h1, (hb.cell hlt).trans h2, (hb.cell hlt).trans h3, (hb.cell hlt).trans h4, (hb.cell hlt).trans h5, (hb.cell hlt).trans h6, (hb.cell hlt).trans h7⟩
end Go.Proofs.Ytgeapglanckjpaa
namespace Go.Proofs.Ytgeapglanckjpaa
open Go.ChangeShapes Go.WideShapes Go.ChangeAt Go.RowKit
def zig (n : Int) : Int := if 0 ≤ n then 2 * n else -2 * n - 1
def unzig (n : Int) : Int := if n % 2 = 0 then n / 2 else -(n / 2) - 1
theorem xor_ones (b : Nat) (hb : b < 2 ^ 64) : (2 ^ 64 - 1) ^^^ b = 2 ^ 64 - 1 - b := by
 apply Nat.eq_of_testBit_eq
 intro i
 rw [Nat.testBit_xor, Nat.testBit_two_pow_sub_one, show 2 ^ 64 - 1 - b = 2 ^ 64 - (b + 1) by omega, Nat.testBit_two_pow_sub_succ hb]
 by_cases hi : i < 64
 ·
  simp [hi]
 have : b.testBit i = false := Nat.testBit_lt_two_pow (Nat.lt_of_lt_of_le hb (Nat.pow_le_pow_right (by decide) (by omega)))
 simp [hi, this]
theorem zig_bits (n : Int) (h : I64 n) : bits .xor .u64 (IntKind.u64.wrap (IntKind.u64.wrap n * 2)) (IntKind.u64.wrap (n / 9223372036854775808)) = zig n := by
 obtain ⟨h0, h1⟩ := h
 unfold zig
 split
 ·
  have e1 : IntKind.u64.wrap (IntKind.u64.wrap n * 2) = (((2 * n).toNat : Nat) : Int) := by
   rw [IntKind.wrap_u64, IntKind.wrap_u64]; omega
  have e2 : IntKind.u64.wrap (n / 9223372036854775808) = ((0 : Nat) : Int) := by
   rw [IntKind.wrap_u64]; omega
  rw [e1, e2, u64_xor_nat _ _ (by omega) (by omega), Nat.xor_zero]
  omega
 have e1 : IntKind.u64.wrap (IntKind.u64.wrap n * 2) = (((2 * n + 18446744073709551616).toNat : Nat) : Int) := by
  rw [IntKind.wrap_u64, IntKind.wrap_u64]; omega
 have e2 : IntKind.u64.wrap (n / 9223372036854775808) = ((2 ^ 64 - 1 : Nat) : Int) := by
  rw [IntKind.wrap_u64]; omega
 rw [e1, e2, u64_xor_nat _ _ (by omega) (by decide), Nat.xor_comm, xor_ones _ (by omega)]
 omega
theorem zig_any (n : Int) (h : I64 n) (w : World) : Calls Try.prog 42 #[.int .i64 n] w fun e w' => e = .returned (.int .u64 (zig n)) ∧ w = w' := by
 have H := Lib.hid (zig_bits n h)
 go_enter Try.func42, Try.ntmps42
 go_wp2
 go_ret
 exact ⟨by rw [← H.out]; rfl, rfl⟩
theorem rzig_any (n : Int) (h : I64 n) (w : World) : Calls Try.prog 78 #[.int .i64 n] w fun e w' => e = .returned (.int .u64 (zig n)) ∧ w = w' := by
 by_cases hn : 0 ≤ n
 ·
  go_enter Try.func78, Try.ntmps78
  go_wp2
  go_ret
  refine ⟨ret_int ?_, rfl⟩
  obtain ⟨h0, h1⟩ := h
  unfold zig
  rw [if_pos hn, IntKind.wrap_u64, IntKind.wrap_u64]; omega
 go_enter Try.func78, Try.ntmps78
 go_wp2
 go_ret
 refine ⟨ret_int ?_, rfl⟩
 obtain ⟨h0, h1⟩ := h
 unfold zig
 rw [if_neg (by omega)]
 simp only [IntKind.wrap_u64, wrap64]; omega
theorem unzig_zig (n : Int) : unzig (zig n) = n := by
 unfold zig unzig; split <;> split <;> omega
end Go.Proofs.Ytgeapglanckjpaa
namespace Go.Proofs.Ytgeapglanckjpaa
open Go.ChangeShapes Go.WideShapes Go.ChangeAt Go.RowKit
theorem Has.c8 {w : World} {g : Nat} {T : TypeId} {a0 a1 a2 a3 a4 a5 a6 a7 : Value} (h : Has w g T #[a0, a1, a2, a3, a4, a5, a6, a7]) : w.cell? ⟨g, 0, none⟩ = some a0 ∧ w.cell? ⟨g, 1, none⟩ = some a1 ∧ w.cell? ⟨g, 2, none⟩ = some a2 ∧ w.cell? ⟨g, 3, none⟩ = some a3 ∧ w.cell? ⟨g, 4, none⟩ = some a4 ∧ w.cell? ⟨g, 5, none⟩ = some a5 ∧ w.cell? ⟨g, 6, none⟩ = some a6 ∧ w.cell? ⟨g, 7, none⟩ = some a7 :=
 ⟨h.cell 0, h.cell 1, h.cell 2, h.cell 3, h.cell 4, h.cell 5, h.cell 6, h.cell 7⟩
theorem Has.c10 {w : World} {g : Nat} {T : TypeId} {a0 a1 a2 a3 a4 a5 a6 a7 a8 a9 : Value} (h : Has w g T #[a0, a1, a2, a3, a4, a5, a6, a7, a8, a9]) : w.cell? ⟨g, 0, none⟩ = some a0 ∧ w.cell? ⟨g, 1, none⟩ = some a1 ∧ w.cell? ⟨g, 2, none⟩ = some a2 ∧ w.cell? ⟨g, 3, none⟩ = some a3 ∧ w.cell? ⟨g, 4, none⟩ = some a4 ∧ w.cell? ⟨g, 5, none⟩ = some a5 ∧ w.cell? ⟨g, 6, none⟩ = some a6 ∧ w.cell? ⟨g, 7, none⟩ = some a7 ∧ w.cell? ⟨g, 8, none⟩ = some a8 ∧ w.cell? ⟨g, 9, none⟩ = some a9 :=
 ⟨h.cell 0, h.cell 1, h.cell 2, h.cell 3, h.cell 4, h.cell 5, h.cell 6, h.cell 7, h.cell 8, h.cell 9⟩
theorem Has.c13 {w : World} {g : Nat} {T : TypeId} {a0 a1 a2 a3 a4 a5 a6 a7 a8 a9 a10 a11 a12 : Value} (h : Has w g T #[a0, a1, a2, a3, a4, a5, a6, a7, a8, a9, a10, a11, a12]) : w.cell? ⟨g, 0, none⟩ = some a0 ∧ w.cell? ⟨g, 1, none⟩ = some a1 ∧ w.cell? ⟨g, 2, none⟩ = some a2 ∧ w.cell? ⟨g, 3, none⟩ = some a3 ∧ w.cell? ⟨g, 4, none⟩ = some a4 ∧ w.cell? ⟨g, 5, none⟩ = some a5 ∧ w.cell? ⟨g, 6, none⟩ = some a6 ∧ w.cell? ⟨g, 7, none⟩ = some a7 ∧ w.cell? ⟨g, 8, none⟩ = some a8 ∧ w.cell? ⟨g, 9, none⟩ = some a9 ∧ w.cell? ⟨g, 10, none⟩ = some a10 ∧ w.cell? ⟨g, 11, none⟩ = some a11 ∧ w.cell? ⟨g, 12, none⟩ = some a12 :=
 ⟨h.cell 0, h.cell 1, h.cell 2, h.cell 3, h.cell 4, h.cell 5, h.cell 6, h.cell 7, h.cell 8, h.cell 9, h.cell 10, h.cell 11, h.cell 12⟩
theorem alloc_hz (w : World) (o : Obj) : (w.alloc o).heap.size = w.heap.size + 1 := by simp
theorem below_al {B : Nat} {a w : World} (h : Below B a w) (hs : B ≤ a.heap.size) (o : Obj) : Below B a (w.alloc o) := h.alloc (Nat.le_trans hs h.size) o
theorem below_set {B g : Nat} {a w : World} (h : Below B a w) (hB : B ≤ g) (i : Nat) (u : Value) : Below B a (w.setCell ⟨g, i, none⟩ u) := h.setCell (p := ⟨g, i, none⟩) hB u
theorem has_row {w : World} {g k : Nat} {T : TypeId} {cs cs' : Array Value} (h : Has w g T cs) (hne : g ≠ k) : Has (w.setRow k cs') g T cs := (setRow_other _ _ _ _ hne).trans h
theorem row_has {w : World} {g : Nat} {T : TypeId} {cs : Array Value} (h : Has w g T cs) (cs' : Array Value) : Has (w.setRow g cs') g T cs' := setRow_heap w g cs cs' T (0, 0) h
theorem own_form {w : World} {base : Nat} {e : TypeId} {size n : Nat} {v : Value} {xs : List Value} (h : w.ownsRow base e size v n xs) : ∃ A c, v = .slice A n c := by
 obtain ⟨_, h2⟩ := h
 rcases h2 with ⟨rfl, rfl⟩ | ⟨g, cap, cur, rfl, _⟩
 ·
  exact ⟨_, _, rfl⟩
 exact ⟨_, _, rfl⟩
theorem own_pos {w : World} {base : Nat} {e : TypeId} {n : Nat} {v : Value} {xs : List Value} (h : w.ownsRow base e 1 v n xs) (hn : 0 < n) : ∃ g c, v = .slice (some ⟨g, 0, none⟩) n c ∧ base ≤ g ∧ g < w.heap.size ∧ n ≤ c ∧ ∀ (j : Nat) (u : Value), xs[j]? = some u → w.cell? ⟨g, j, none⟩ = some u := by
 have h0 := h
 obtain ⟨_, h2⟩ := h
 rcases h2 with ⟨rfl, rfl⟩ | ⟨g, cap, cur, rfl, hb, hh, hc, _⟩
 ·
  omega
 refine ⟨g, cap, rfl, hb, ?_, hc, fun j u hu => ?_⟩
 ·
  rcases Nat.lt_or_ge g w.heap.size with h3 | h3
  ·
   exact h3
  rw [Array.getElem?_eq_none h3] at hh; cases hh
 have := h0.cells (g := g) rfl j u hu
 have e : (⟨g, 0, none⟩ : Addr).add j = ⟨g, j, none⟩ := by unfold Addr.add; split <;> simp_all
 rwa [e] at this
theorem cell_far (w : World) (g i : Nat) (u : Value) (p : Addr) (h : p.block ≠ g) : (w.setCell ⟨g, i, none⟩ u).cell? p = w.cell? p := by
 have := Below.heap_setCell w ⟨g, i, none⟩ u p.block h
 exact World.cell?_of_block this
theorem wpList_append_lie {P : Program} {ops : Array Oper} {rest : List Oper} {o : Oper} {a : Act} {Q : Exit → Act → World → Prop} (hgd : o.guard = none) (s x : Operand) (t : TypeId)
  (ho : o.op = .call { callee := .builtin .append, args := #[s, x], argTypes := #[t, t] })
  (base : Nat) (e : TypeId) (z : Value) (size bytes : Nat) (ht : P.underlying t = some (.slice e)) (hinfo : (P.info? e).map (fun i => (i.zero, i.size, i.bytes)) = some (some z, size, bytes)) (hzs : z.cells.size = size) (hsz : 0 < size)
  (v : Value) (n : Nat) (xs : List Value) (hs : a.eval s = v) {W : World} (hown : W.ownsRow base e size v n xs) (news : List Value) (te : TypeId) (c g0 : Nat)
  (hx : a.eval x = .slice (some ⟨g0, 0, none⟩) 1 c) (hg : g0 = W.heap.size) (hl : news.length = size) (h1 : ∀ u ∈ news, u.oneCell' = true) (hsmall : n < 8000000000000) (hby : (n + 1) * bytes ≤ 140737488355328) (hbase : base ≤ W.heap.size)
  (h : ∀ g cap w', w'.ownsRow base e size (.slice (some ⟨g, 0, none⟩) (n + 1) cap) (n + 1) (xs ++ news) → (W.alloc (.cells news.toArray te)).grownBy w' v.ownBlock → (v.ownBlock = some g ∨ g = W.heap.size + 1) → Below base W w' → wpList P ops Q rest (a.put o.dst (.slice (some ⟨g, 0, none⟩) (n + 1) cap)) w') : wpList P ops Q (o :: rest) a (W.alloc (.cells news.toArray te)) := by
 subst hg
 obtain ⟨i0, hi, hz0, hz1, hz2⟩ := info_parts hinfo
 refine wpList_append_lies _ hgd s x t ho base e i0 z size bytes ht hi hz0 hz1 hz2 hzs hsz v n xs hs (hown.alloc _) ⟨W.heap.size, 0, none⟩ 1 c news hx (by omega) ?_ h1 (by omega) (by simp only [maxLen]; omega) ?_ (by simp; omega) (W.heap.size + 1) (by simp) ?_
 ·
  intro j u hu
  have hj : (⟨W.heap.size, 0, none⟩ : Addr).add j = ⟨W.heap.size, j, none⟩ := by unfold Addr.add; split <;> simp_all
  rw [hj]
  simp only [World.cell?, new_block]
  simpa using hu
 ·
  omega
 intro g cap w' h2 h3 h4 _
 exact h g cap w' h2 h3 h4 (grown_below hown hbase h3)
structure Kept (P : World → Prop) (w : World) (L B : Nat) : Prop where
 now : P w
 st : ∀ w', (∀ k : Nat, L ≤ k → k < B → w'.heap[k]? = w.heap[k]?) → P w'
 le : B ≤ w.heap.size
theorem Kept.move {P : World → Prop} {w w' : World} {L B : Nat} (h : Kept P w L B) (hk : ∀ k : Nat, L ≤ k → k < B → w'.heap[k]? = w.heap[k]?) (hs : w.heap.size ≤ w'.heap.size) : Kept P w' L B :=
 ⟨h.st w' hk, fun w2 h2 => h.st w2 fun p hl hp => (h2 p hl hp).trans (hk p hl hp), Nat.le_trans h.le hs⟩
theorem Kept.on {P : World → Prop} {w w' : World} {L B : Nat} (h : Kept P w L B) (hb : Below w.heap.size w w') : Kept P w' L B :=
 h.move (fun _ _ hp => hb.block _ (Nat.lt_of_lt_of_le hp h.le)) hb.size
theorem Kept.ond {P : World → Prop} {w w0 w' : World} {L B : Nat} (h : Kept P w L B) (hb : Below w0.heap.size w0 w') (hw : w0.heap = w.heap := by rfl) : Kept P w' L B :=
 h.move (fun _ _ hp => (hb.block _ (by rw [hw]; exact Nat.lt_of_lt_of_le hp h.le)).trans (by rw [hw])) (by have := hb.size; rw [hw] at this; exact this)
theorem Kept.from0 {P : World → Prop} {w w' : World} {L B C : Nat} (h : Kept P w L B) (hb : Below C w w') (hc : B ≤ C) : Kept P w' L B :=
 h.move (fun _ _ hp => hb.block _ (Nat.lt_of_lt_of_le hp hc)) hb.size
theorem Kept.set {P : World → Prop} {w : World} {L B : Nat} (h : Kept P w L B) (g : Nat) (hg : B ≤ g ∨ g < L) (i : Nat) (u : Value) : Kept P (w.setCell ⟨g, i, none⟩ u) L B :=
 h.move (fun k hl hk => Below.heap_setCell w ⟨g, i, none⟩ u k (by show k ≠ g; omega)) (by simp [World.setCell])
theorem Kept.row {P : World → Prop} {w : World} {L B : Nat} (h : Kept P w L B) (g : Nat) (hg : B ≤ g ∨ g < L) (cs : Array Value) : Kept P (w.setRow g cs) L B :=
 h.move (fun k hl hk => setRow_other _ _ _ _ (by omega)) (by simp)
theorem own_heap {w w' : World} {base : Nat} {e : TypeId} {size n : Nat} {v : Value} {xs : List Value} (h : w.ownsRow base e size v n xs) (hk : ∀ k : Nat, base ≤ k → k < w.heap.size → w'.heap[k]? = w.heap[k]?) : w'.ownsRow base e size v n xs := by
 obtain ⟨h1, h2⟩ := h
 refine ⟨h1, ?_⟩
 rcases h2 with h2 | ⟨g, cap, cur, hv, hb, hh, h3⟩
 ·
  exact .inl h2
 refine .inr ⟨g, cap, cur, hv, hb, ?_, h3⟩
 rw [hk g hb, hh]
 rcases Nat.lt_or_ge g w.heap.size with h4 | h4
 ·
  exact h4
 rw [Array.getElem?_eq_none h4] at hh; cases hh
theorem Kept.own {w : World} {base : Nat} {e : TypeId} {size n : Nat} {v : Value} {xs : List Value} (h : w.ownsRow base e size v n xs) : Kept (fun w => w.ownsRow base e size v n xs) w base w.heap.size :=
 ⟨h, fun _ hk => own_heap h hk, Nat.le_refl _⟩
theorem Kept.rd {P : World → Nat → Prop} {w : World} {B : Nat} (h : P w B) (hB : B ≤ w.heap.size) (hk : ∀ w', (∀ p : Addr, p.block < B → w'.cell? p = w.cell? p) → P w' B) : Kept (fun w => P w B) w 0 B :=
 ⟨h, fun w' h2 => hk w' fun p hp => World.cell?_of_block (h2 p.block (Nat.zero_le _) hp), hB⟩
section
variable {w w' w0 : World} {g g' i L B : Nat} {T T' : TypeId} {cs cs' : Array Value} {P : World → Prop} {v : Value} {o : Obj}
theorem dB (h : Hid (Has w g T cs)) (hb : Below w.heap.size w w') : Hid (Has w' g T cs) := h.out.below hb h.out.here
theorem dK (h : Hid (Kept P w L B)) (hb : Below w.heap.size w w') : Hid (Kept P w' L B) := h.out.on hb
theorem dT (h : Below w0.heap.size w0 w) (hb : Below w.heap.size w w') : Below w0.heap.size w0 w' := h.trans (hb.mono h.size)
theorem aB (h : w' = w.alloc o) : Below w.heap.size w w' := by rw [h]; exact below_al (Below.refl _ _) (Nat.le_refl _) _
theorem aN (h : w' = w.alloc (.cells cs T)) : Hid (Has w' w.heap.size T cs) := by rw [h]; exact Has.made w T cs
theorem aZ {n : Nat} (h : w' = w.alloc o) (hn : w.heap.size = n) : w'.heap.size = n + 1 := by rw [h, alloc_hz, hn]
theorem aM {n : Nat} (h : w' = w.alloc (.cells cs T)) (hn : w.heap.size = n) : Hid (Has w' n T cs) := hn ▸ aN h
theorem dF (h : Hid (Has w g T cs)) (hE : w' = w.setCell ⟨g', i, none⟩ v) (hn : g ≠ g') : Hid (Has w' g T cs) := by rw [hE]; exact h.out.far (p := ⟨g', i, none⟩) hn v
theorem dS (h : Hid (Has w g T cs)) (hE : w' = w.setCell ⟨g, i, none⟩ v) : Has w' g T (cs.setIfInBounds i v) := by rw [hE]; exact h.out.set i v
theorem dR (h : Hid (Has w g T cs)) (hE : w' = w.setRow g' cs') (hn : g ≠ g') : Hid (Has w' g T cs) := by rw [hE]; exact has_row h.out hn
theorem dO (h : Hid (Has w g T cs)) (hE : w' = w.setRow g cs') : Hid (Has w' g T cs') := by rw [hE]; exact row_has h.out _
theorem kF (h : Hid (Kept P w L B)) (hE : w' = w.setCell ⟨g', i, none⟩ v) (hn : B ≤ g' ∨ g' < L) : Hid (Kept P w' L B) := by rw [hE]; exact h.out.set g' hn i v
theorem kR (h : Hid (Kept P w L B)) (hE : w' = w.setRow g' cs') (hn : B ≤ g' ∨ g' < L) : Hid (Kept P w' L B) := by rw [hE]; exact h.out.row g' hn cs'
theorem tF (h : Below w0.heap.size w0 w) (hE : w' = w.setCell ⟨g', i, none⟩ v) (hn : w0.heap.size ≤ g') : Below w0.heap.size w0 w' := by rw [hE]; exact below_set h hn i v
theorem tR (h : Below w0.heap.size w0 w) (hE : w' = w.setRow g' cs') (hn : w0.heap.size ≤ g') : Below w0.heap.size w0 w' := by rw [hE]; exact below_setRow h hn cs'
theorem dG (h : Hid (Has w g T cs)) (hk : ∀ k, k < w.heap.size → v.ownBlock ≠ some k → w'.heap[k]? = w.heap[k]?) (hn : v.ownBlock ≠ some g) : Hid (Has w' g T cs) := (hk g h.out.here hn).trans h.out
theorem d8 {R : Prop} {a0 a1 a2 a3 a4 a5 a6 a7 : Value} (h : Hid (Has w g T #[a0, a1, a2, a3, a4, a5, a6, a7])) (r : R) : w.cell? ⟨g, 0, none⟩ = some a0 ∧ w.cell? ⟨g, 1, none⟩ = some a1 ∧ w.cell? ⟨g, 2, none⟩ = some a2 ∧ w.cell? ⟨g, 3, none⟩ = some a3 ∧ w.cell? ⟨g, 4, none⟩ = some a4 ∧ w.cell? ⟨g, 5, none⟩ = some a5 ∧ w.cell? ⟨g, 6, none⟩ = some a6 ∧ w.cell? ⟨g, 7, none⟩ = some a7 ∧ R :=
 ⟨h.out.cell 0, h.out.cell 1, h.out.cell 2, h.out.cell 3, h.out.cell 4, h.out.cell 5, h.out.cell 6, h.out.cell 7, r⟩
end
end Go.Proofs.Ytgeapglanckjpaa
namespace Go.Proofs.Ytgeapglanckjpaa
open Go.ChangeShapes Go.WideShapes Go.ChangeAt Go.RowKit
theorem cell_alR {w : World} {b o : Nat} {u : Value} (h : w.cell? ⟨b, o, none⟩ = some u) : ∀ ob, (w.alloc ob).cell? ⟨b, o, none⟩ = some u := fun ob =>
 (((Below.refl w.heap.size w).alloc (Nat.le_refl _) ob).cell (p := ⟨b, o, none⟩) (World.block_lt_of_cell? _ _ h)).trans h
theorem step_store_row {P : Program} {ops : Array Oper} {op : Oper} {a : Act} {w : World} {K : Act → World → Prop} {Q : Exit → Act → World → Prop} {E : Prop} (hgd : op.guard = none) (ty : TypeId) (x y : Operand) (ho : op.op = .store ty x y)
  (g : Nat) (cells : Array Value) (hx : a.eval x = .pointer (some ⟨g, 0, none⟩)) (hy : a.eval y = .agg cells)
  (t : TypeId) (old : Array Value) (hg : w.heap[g]? = some (.cells old t (0, 0))) (hi : (P.info? ty).map (·.size) = some cells.size) (hold : old.size = cells.size) (h1 : cells.all (·.oneCell') = true)
  (h : K (a.put op.dst undef) (w.setRow g cells)) : if Region.wanted op (yielded ops a.tmps) = true then Oper.wp P op a w K Q else E := by
 rw [if_pos (by simp [Region.wanted, hgd])]
 exact wp_store_row ty x y ho g cells hx hy t old hg hi hold h1 h
end Go.Proofs.Ytgeapglanckjpaa
namespace Go.Proofs.Ytgeapglanckjpaa
open Go.ChangeShapes Go.WideShapes Go.ChangeAt Go.RowKit
theorem put_laws2 : (∀ (a : Act) (v : Value), a.put none v = a) ∧ (∀ (ts : Array Value) (ds : List _) (i : Nat) (v : Value), Act.put ⟨ts, ds⟩ (some i) v = ⟨ts.setIfInBounds i v, ds⟩) ∧
  (∀ (l : List Value) (i : Nat) (v : Value), l.toArray.setIfInBounds i v = (l.set i v).toArray) ∧ (∀ (x : Value) (l : List Value) (v : Value), (x :: l).set 0 v = v :: l) ∧ (∀ (x : Value) (l : List Value) (i : Nat) (v : Value), (x :: l).set (i + 1) v = x :: l.set i v) ∧
  (∀ (l : List Oper) (i : Nat) (h : i < l.toArray.size), l.toArray[i]'h = l[i]'(by simpa using h)) ∧ (∀ (x : Oper) (l : List Oper) (h : 0 < (x :: l).length), (x :: l)[0]'h = x) ∧ (∀ (x : Oper) (l : List Oper) (i : Nat) (h : i + 1 < (x :: l).length), (x :: l)[i + 1]'h = l[i]'(by simpa using h)) :=
 ⟨fun _ _ => rfl, fun _ _ _ _ => rfl, fun _ _ _ => by simp, fun _ _ _ => rfl, fun _ _ _ _ => rfl, fun _ _ _ => rfl, fun _ _ _ => rfl, fun _ _ _ _ => rfl⟩
section
variable {P : Program} {md : Region.Mode} {ops : Array Oper} {Q : Exit → Act → World → Prop} {S : World → Prop} {fuel : Nat} {listed : Array Bool} {a : Act} {w : World} {oi : Oper}
theorem tk {i : Nat} {v : Value} (r : wpAnyH P md ops Q S fuel (listed.setIfInBounds i true) (a.put oi.dst v) w) (hi : ops[i]? = some oi := by rfl) (y : ∀ w, S w → (execOp a.eval oi).run P w = .ok (.value v) w := by (intro w hS; (try dsimp only at hS); go_simp; (first | done | with_reducible rfl)))
  (h1 : Region.noSelect ops = true := by kernel_rfl) (h2 : Region.free md ops listed i = true := by kernel_rfl) (h3 : (Region.ready md ops listed).contains i = true := by kernel_rfl)
  (h4 : ∀ c a w, Q (.panic c) (a.put oi.dst v) w → Q (.panic c) a w := by exact fun _ _ _ h => h) (h5 : Region.wanted oi (yielded ops a.tmps) = true := by rfl) (h6 : S w := by assumption) : wpAnyH P md ops Q S (fuel + 1) listed a w :=
 wpAnyH_take hi h1 h2 h3 h4 (.inl ⟨h5, y⟩) h6 r
theorem tks {i : Nat} (r : wpAnyH P md ops Q S fuel (listed.setIfInBounds i true) (a.put oi.dst undef) w) (hi : ops[i]? = some oi := by rfl)
  (h1 : Region.noSelect ops = true := by kernel_rfl) (h2 : Region.free md ops listed i = true := by kernel_rfl) (h3 : (Region.ready md ops listed).contains i = true := by kernel_rfl)
  (h4 : ∀ c a w, Q (.panic c) (a.put oi.dst undef) w → Q (.panic c) a w := by exact fun _ _ _ h => h) (h5 : Region.wanted oi (yielded ops a.tmps) = false := by rfl) (h6 : S w := by assumption) : wpAnyH P md ops Q S (fuel + 1) listed a w :=
 wpAnyH_take hi h1 h2 h3 h4 (.inr ⟨h5, rfl⟩) h6 r
theorem rd1 {i : Nat} {o : Oper} (h : ∀ K' : Act → World → Prop, Shut (∀ a w, S w → (S w → wpAnyH P md ops Q S fuel (listed.setIfInBounds i true) a w) → K' a w) → if Region.wanted o (yielded ops a.tmps) = true then Oper.wp P o a w K' Q else K' (a.put o.dst undef) w) (hr : Region.ready md ops listed = [i] := by kernel_rfl) (ho : ops[i]? = some o := by rfl) : wpAnyH P md ops Q S (fuel + 1) listed a w :=
 wpAnyH_ready hr (by simp) (AllReadyH.cons ho h AllReadyH.nil)
end
end Go.Proofs.Ytgeapglanckjpaa
namespace Go.Proofs.Ytgeapglanckjpaa
open Go.ChangeShapes Go.WideShapes Go.ChangeAt Go.RowKit
open Go.Maps (Keyed)
open Go.WideMaps
end Go.Proofs.Ytgeapglanckjpaa
namespace Go.Proofs.Ytgeapglanckjpaa
open Go.ChangeShapes Go.WideShapes Go.ChangeAt Go.RowKit
end Go.Proofs.Ytgeapglanckjpaa

/- Small words that carry facts on blocks from world to world. No condition. -/
import Derived.Test.YtjcoeolconelmaaGrow
import Derived.Deep.RegionHeld3
import Derived.Deep.RegionWith
import Derived.Deep.Cut
import Derived.Deep.DeepCutAuto
import Derived.Laws.Tables
import Derived.Deep.AppendLies
import Derived.Laws.CopyOwn
import Derived.IntWalk
namespace Go.Proofs.Ytjcoeolconelmaa
open Go.ChangeShapes Go.WideShapes Go.ChangeAt Go.RowKit

theorem alloc_hz (w : World) (o : Obj) : (w.alloc o).heap.size = w.heap.size + 1 := by simp
theorem below_al {B : Nat} {a w : World} (h : Below B a w) (hs : B ≤ a.heap.size) (o : Obj) : Below B a (w.alloc o) := h.alloc (Nat.le_trans hs h.size) o
theorem below_set {B g : Nat} {a w : World} (h : Below B a w) (hB : B ≤ g) (i : Nat) (u : Value) : Below B a (w.setCell ⟨g, i, none⟩ u) := h.setCell (p := ⟨g, i, none⟩) hB u
theorem has_row {w : World} {g k : Nat} {T : TypeId} {cs cs' : Array Value} (h : Has w g T cs) (hne : g ≠ k) : Has (w.setRow k cs') g T cs := (setRow_other _ _ _ _ hne).trans h
theorem row_has {w : World} {g : Nat} {T : TypeId} {cs : Array Value} (h : Has w g T cs) (cs' : Array Value) : Has (w.setRow g cs') g T cs' := setRow_heap w g cs cs' T (0, 0) h
theorem own_form {w : World} {base : Nat} {e : TypeId} {size n : Nat} {v : Value} {xs : List Value} (h : w.ownsRow base e size v n xs) : ∃ A c, v = .slice A n c := by
  obtain ⟨_, h2⟩ := h
  rcases h2 with ⟨rfl, rfl⟩ | ⟨g, cap, cur, rfl, _⟩
  · exact ⟨_, _, rfl⟩
  · exact ⟨_, _, rfl⟩

theorem own_pos {w : World} {base : Nat} {e : TypeId} {n : Nat} {v : Value} {xs : List Value} (h : w.ownsRow base e 1 v n xs) (hn : 0 < n) : ∃ g c, v = .slice (some ⟨g, 0, none⟩) n c ∧ base ≤ g ∧ g < w.heap.size ∧ n ≤ c ∧ ∀ (j : Nat) (u : Value), xs[j]? = some u → w.cell? ⟨g, j, none⟩ = some u := by
  have h0 := h
  obtain ⟨_, h2⟩ := h
  rcases h2 with ⟨rfl, rfl⟩ | ⟨g, cap, cur, rfl, hb, hh, hc, _⟩
  · omega
  · refine ⟨g, cap, rfl, hb, ?_, hc, fun j u hu => ?_⟩
    · rcases Nat.lt_or_ge g w.heap.size with h3 | h3
      · exact h3
      · rw [Array.getElem?_eq_none h3] at hh; cases hh
    · have := h0.cells (g := g) rfl j u hu
      have e : (⟨g, 0, none⟩ : Addr).add j = ⟨g, j, none⟩ := by unfold Addr.add; split <;> simp_all
      rwa [e] at this
theorem cell_far (w : World) (g i : Nat) (u : Value) (p : Addr) (h : p.block ≠ g) : (w.setCell ⟨g, i, none⟩ u).cell? p = w.cell? p := by
  have := Below.heap_setCell w ⟨g, i, none⟩ u p.block h
  exact World.cell?_of_block this
/-- append of one element that was just laid in a block of its own: only the row's own block may have changed; where the new row lies -/
theorem wpList_append_lie {P : Program} {ops : Array Oper} {rest : List Oper} {o : Oper} {a : Act} {Q : Exit → Act → World → Prop} (hgd : o.guard = none) (s x : Operand) (t : TypeId)
    (ho : o.op = .call { callee := .builtin .append, args := #[s, x], argTypes := #[t, t] })
    (base : Nat) (e : TypeId) (z : Value) (size bytes : Nat) (ht : P.underlying t = some (.slice e)) (hinfo : (P.info? e).map (fun i => (i.zero, i.size, i.bytes)) = some (some z, size, bytes)) (hzs : z.cells.size = size) (hsz : 0 < size)
    (v : Value) (n : Nat) (xs : List Value) (hs : a.eval s = v) {W : World} (hown : W.ownsRow base e size v n xs) (news : List Value) (te : TypeId) (c g0 : Nat)
    (hx : a.eval x = .slice (some ⟨g0, 0, none⟩) 1 c) (hg : g0 = W.heap.size) (hl : news.length = size) (h1 : ∀ u ∈ news, u.oneCell' = true) (hsmall : n < 1048576) (hby : bytes ≤ 1048576) (hbase : base ≤ W.heap.size)
    (h : ∀ g cap w', w'.ownsRow base e size (.slice (some ⟨g, 0, none⟩) (n + 1) cap) (n + 1) (xs ++ news) → (W.alloc (.cells news.toArray te)).grownBy w' v.ownBlock → (v.ownBlock = some g ∨ g = W.heap.size + 1) → Below base W w' → wpList P ops Q rest (a.put o.dst (.slice (some ⟨g, 0, none⟩) (n + 1) cap)) w') : wpList P ops Q (o :: rest) a (W.alloc (.cells news.toArray te)) := by
  subst hg
  obtain ⟨i0, hi, hz0, hz1, hz2⟩ := info_parts hinfo
  refine wpList_append_lies _ hgd s x t ho base e i0 z size bytes ht hi hz0 hz1 hz2 hzs hsz v n xs hs (hown.alloc _) ⟨W.heap.size, 0, none⟩ 1 c news hx (by omega) ?_ h1 (by omega) (by simp only [maxLen]; omega) ?_ (by simp; omega) (W.heap.size + 1) (by simp) ?_
  · intro j u hu
    have hj : (⟨W.heap.size, 0, none⟩ : Addr).add j = ⟨W.heap.size, j, none⟩ := by unfold Addr.add; split <;> simp_all
    rw [hj]
    simp only [World.cell?, new_block]
    simpa using hu
  · have : (n + 1) * bytes ≤ 1048576 * 1048576 := Nat.mul_le_mul (by omega) hby
    omega
  · intro g cap w' h2 h3 h4 _
    exact h g cap w' h2 h3 h4 (grown_below hown hbase h3)
/-- a fact that hangs on the blocks from L on and below B alone -/
structure Kept (P : World → Prop) (w : World) (L B : Nat) : Prop where
  now : P w
  st : ∀ w', (∀ k : Nat, L ≤ k → k < B → w'.heap[k]? = w.heap[k]?) → P w'
  le : B ≤ w.heap.size
theorem Kept.move {P : World → Prop} {w w' : World} {L B : Nat} (h : Kept P w L B) (hk : ∀ k : Nat, L ≤ k → k < B → w'.heap[k]? = w.heap[k]?) (hs : w.heap.size ≤ w'.heap.size) : Kept P w' L B :=
  ⟨h.st w' hk, fun w2 h2 => h.st w2 fun p hl hp => (h2 p hl hp).trans (hk p hl hp), Nat.le_trans h.le hs⟩
theorem Kept.on {P : World → Prop} {w w' : World} {L B : Nat} (h : Kept P w L B) (hb : Below w.heap.size w w') : Kept P w' L B :=
  h.move (fun _ _ hp => hb.block _ (Nat.lt_of_lt_of_le hp h.le)) hb.size
theorem Kept.ond {P : World → Prop} {w w0 w' : World} {L B : Nat} (h : Kept P w L B) (hb : Below w0.heap.size w0 w') (hw : w0.heap = w.heap := by rfl) : Kept P w' L B :=
  h.move (fun _ _ hp => (hb.block _ (by rw [hw]; exact Nat.lt_of_lt_of_le hp h.le)).trans (by rw [hw])) (by have := hb.size; rw [hw] at this; exact this)
theorem Kept.from0 {P : World → Prop} {w w' : World} {L B C : Nat} (h : Kept P w L B) (hb : Below C w w') (hc : B ≤ C) : Kept P w' L B :=
  h.move (fun _ _ hp => hb.block _ (Nat.lt_of_lt_of_le hp hc)) hb.size
theorem Kept.set {P : World → Prop} {w : World} {L B : Nat} (h : Kept P w L B) (g : Nat) (hg : B ≤ g ∨ g < L) (i : Nat) (u : Value) : Kept P (w.setCell ⟨g, i, none⟩ u) L B :=
  h.move (fun k hl hk => Below.heap_setCell w ⟨g, i, none⟩ u k (by show k ≠ g; omega)) (by simp [World.setCell])
theorem Kept.row {P : World → Prop} {w : World} {L B : Nat} (h : Kept P w L B) (g : Nat) (hg : B ≤ g ∨ g < L) (cs : Array Value) : Kept P (w.setRow g cs) L B :=
  h.move (fun k hl hk => setRow_other _ _ _ _ (by omega)) (by simp)
theorem own_heap {w w' : World} {base : Nat} {e : TypeId} {size n : Nat} {v : Value} {xs : List Value} (h : w.ownsRow base e size v n xs) (hk : ∀ k : Nat, base ≤ k → k < w.heap.size → w'.heap[k]? = w.heap[k]?) : w'.ownsRow base e size v n xs := by
  obtain ⟨h1, h2⟩ := h
  refine ⟨h1, ?_⟩
  rcases h2 with h2 | ⟨g, cap, cur, hv, hb, hh, h3⟩
  · exact .inl h2
  · refine .inr ⟨g, cap, cur, hv, hb, ?_, h3⟩
    rw [hk g hb, hh]
    rcases Nat.lt_or_ge g w.heap.size with h4 | h4
    · exact h4
    · rw [Array.getElem?_eq_none h4] at hh; cases hh
theorem Kept.own {w : World} {base : Nat} {e : TypeId} {size n : Nat} {v : Value} {xs : List Value} (h : w.ownsRow base e size v n xs) : Kept (fun w => w.ownsRow base e size v n xs) w base w.heap.size :=
  ⟨h, fun _ hk => own_heap h hk, Nat.le_refl _⟩
/-- as '.keep' of the words that read memory -/
theorem Kept.rd {P : World → Nat → Prop} {w : World} {B : Nat} (h : P w B) (hB : B ≤ w.heap.size) (hk : ∀ w', (∀ p : Addr, p.block < B → w'.cell? p = w.cell? p) → P w' B) : Kept (fun w => P w B) w 0 B :=
  ⟨h, fun w' h2 => hk w' fun p hp => World.cell?_of_block (h2 p.block (Nat.zero_le _) hp), hB⟩
end Go.Proofs.Ytjcoeolconelmaa

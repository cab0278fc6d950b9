/- Small words on blocks of cells that a call has made. No condition. -/
import Derived.Test.YtjcoeolconelmaaKit
import Derived.Deep.RegionHeld3
namespace Go.Proofs.Ytjcoeolconelmaa
open Go.ChangeShapes Go.WideShapes Go.ChangeAt Go.RowKit

/-- block g is just the cells cs of type t, none of them frozen -/
def Has (w : World) (g : Nat) (t : TypeId) (cs : Array Value) : Prop := w.heap[g]? = some (.cells cs t (0, 0))
section
variable {w w' : World} {g : Nat} {t : TypeId} {cs : Array Value}
theorem Has.here (h : Has w g t cs) : g < w.heap.size := by
  rcases Nat.lt_or_ge g w.heap.size with h1 | h1
  · exact h1
  · unfold Has at h; rw [Array.getElem?_eq_none h1] at h; cases h
theorem Has.cell (h : Has w g t cs) (i : Nat) : w.cell? ⟨g, i, none⟩ = cs[i]? := by
  unfold Has at h
  simp [World.cell?, h]
theorem Has.free (h : Has w g t cs) (i : Nat) : w.frozen? ⟨g, i, none⟩ = false := by
  unfold Has at h
  simp [World.frozen?, h]
theorem Has.made (w : World) (t : TypeId) (cs : Array Value) : Has (w.alloc (.cells cs t)) w.heap.size t cs := heap_alloc_new w _
theorem Has.alloc (h : Has w g t cs) (o : Obj) : Has (w.alloc o) g t cs := (Below.heap_alloc w o g h.here).trans h
theorem Has.drew (h : Has w g t cs) : Has w.drew g t cs := h
theorem Has.drewN (h : Has w g t cs) (n : Nat) : Has (w.drewN n) g t cs := h
theorem Has.set (h : Has w g t cs) (i : Nat) (u : Value) : Has (w.setCell ⟨g, i, none⟩ u) g t (cs.setIfInBounds i u) := by
  unfold Has at h ⊢
  simp [World.setCell, Array.getElem?_modify, h]
theorem Has.far (h : Has w g t cs) {p : Addr} (hp : g ≠ p.block) (u : Value) : Has (w.setCell p u) g t cs := (Below.heap_setCell w p u g hp).trans h
theorem Has.below {B : Nat} (h : Has w g t cs) (hb : Below B w w') (hg : g < B) : Has w' g t cs := (hb.block g hg).trans h
end
theorem new_cell (w : World) (cs : Array Value) (t : TypeId) (i : Nat) : (w.alloc (.cells cs t)).cell? ⟨w.heap.size, i, none⟩ = cs[i]? := by
  unfold World.cell?
  rw [new_block]
  rfl
/-- append of one element that was just laid in a block of its own (its number in the walk's spelling) -/
theorem wpList_append_at {P : Program} {ops : Array Oper} {rest : List Oper} {o : Oper} {a : Act} {Q : Exit → Act → World → Prop} (hgd : o.guard = none) (s x : Operand) (t : TypeId)
    (ho : o.op = .call { callee := .builtin .append, args := #[s, x], argTypes := #[t, t] })
    (base : Nat) (e : TypeId) (z : Value) (size bytes : Nat) (ht : P.underlying t = some (.slice e)) (hinfo : (P.info? e).map (fun i => (i.zero, i.size, i.bytes)) = some (some z, size, bytes)) (hzs : z.cells.size = size) (hsz : 0 < size)
    (v : Value) (n : Nat) (xs : List Value) (hs : a.eval s = v) {W : World} (hown : W.ownsRow base e size v n xs) (news : List Value) (te : TypeId) (c g : Nat)
    (hx : a.eval x = .slice (some ⟨g, 0, none⟩) 1 c) (hg : g = W.heap.size) (hl : news.length = size) (h1 : ∀ u ∈ news, u.oneCell' = true) (hsmall : n < 1048576) (hby : bytes ≤ 1048576) (hbase : base ≤ W.heap.size)
    (h : ∀ v' w', w'.ownsRow base e size v' (n + 1) (xs ++ news) → Below base W w' → wpList P ops Q rest (a.put o.dst v') w') : wpList P ops Q (o :: rest) a (W.alloc (.cells news.toArray te)) := by
  subst hg
  exact wpList_append_one hgd s x t ho base e z size bytes ht hinfo hzs hsz v n xs hs hown news te c hx hl h1 hsmall hby hbase h
end Go.Proofs.Ytjcoeolconelmaa

/- Append that tells which block may have changed; operations under a guard that holds. No condition. -/
import Derived.Test.YtjcoeolconelmaaBlk
namespace Go.Proofs.Ytjcoeolconelmaa
open Go.ChangeShapes Go.WideShapes Go.ChangeAt Go.RowKit

/-- an operation whose guard holds is walked as one without a guard -/
theorem wpList_unguard {P : Program} {ops : Array Oper} {rest : List Oper} {o : Oper} {a : Act} {w : World} {Q : Exit → Act → World → Prop} (hw : Region.wanted o (yielded ops a.tmps) = true)
    (h : wpList P ops Q ({o with guard := none} :: rest) a w) : wpList P ops Q (o :: rest) a w := by
  cases o
  rw [wpList] at h ⊢
  rw [if_pos hw]
  rw [if_pos (by simp [Region.wanted])] at h
  exact h
/-- append of one element that was just laid in a block of its own: only the row's own block may have changed -/
theorem wpList_append_grow {P : Program} {ops : Array Oper} {rest : List Oper} {o : Oper} {a : Act} {Q : Exit → Act → World → Prop} (hgd : o.guard = none) (s x : Operand) (t : TypeId)
    (ho : o.op = .call { callee := .builtin .append, args := #[s, x], argTypes := #[t, t] })
    (base : Nat) (e : TypeId) (z : Value) (size bytes : Nat) (ht : P.underlying t = some (.slice e)) (hinfo : (P.info? e).map (fun i => (i.zero, i.size, i.bytes)) = some (some z, size, bytes)) (hzs : z.cells.size = size) (hsz : 0 < size)
    (v : Value) (n : Nat) (xs : List Value) (hs : a.eval s = v) {W : World} (hown : W.ownsRow base e size v n xs) (news : List Value) (te : TypeId) (c g : Nat)
    (hx : a.eval x = .slice (some ⟨g, 0, none⟩) 1 c) (hg : g = W.heap.size) (hl : news.length = size) (h1 : ∀ u ∈ news, u.oneCell' = true) (hsmall : n < 1048576) (hby : bytes ≤ 1048576) (hbase : base ≤ W.heap.size)
    (h : ∀ v' w', w'.ownsRow base e size v' (n + 1) (xs ++ news) → (W.alloc (.cells news.toArray te)).grownBy w' v.ownBlock → wpList P ops Q rest (a.put o.dst v') w') : wpList P ops Q (o :: rest) a (W.alloc (.cells news.toArray te)) := by
  subst hg
  obtain ⟨i0, hi, hz0, hz1, hz2⟩ := info_parts hinfo
  refine wpList_append_own _ hgd s x t ho base e i0 z size bytes ht hi hz0 hz1 hz2 hzs hsz v n xs hs (hown.alloc _) ⟨W.heap.size, 0, none⟩ 1 c news hx (by omega) ?_ h1 (by simp only [maxLen]; omega) ?_ (by simp; omega) ?_
  · intro j u hu
    have hj : (⟨W.heap.size, 0, none⟩ : Addr).add j = ⟨W.heap.size, j, none⟩ := by unfold Addr.add; split <;> simp_all
    rw [hj]
    simp only [World.cell?, new_block]
    simpa using hu
  · have : (n + 1) * bytes ≤ 1048576 * 1048576 := Nat.mul_le_mul (by omega) hby
    omega
  · intro v' w' h2 h3 _
    exact h v' w' h2 h3
theorem grown_below {W w' : World} {base : Nat} {e : TypeId} {size n : Nat} {v : Value} {xs : List Value} {o : Obj} (hown : W.ownsRow base e size v n xs) (hb : base ≤ W.heap.size) (h : (W.alloc o).grownBy w' v.ownBlock) : Below base W w' :=
  ((Below.refl base W).alloc hb o).grown h (by simp; omega) (fun k hk => (hown.lt k hk).1)
/-- a row that was made later lies in another block -/
theorem own_later {w0 w1 : World} {b0 b1 s0 s1 n0 n1 : Nat} {e0 e1 : TypeId} {v0 v1 : Value} {x0 x1 : List Value} (h0 : w0.ownsRow b0 e0 s0 v0 n0 x0) (h1 : w1.ownsRow b1 e1 s1 v1 n1 x1) (hb : w0.heap.size ≤ b1) : v1.ownBlock = none ∨ v1.ownBlock ≠ v0.ownBlock := by
  cases h : v1.ownBlock with
  | none => exact .inl rfl
  | some k =>
    right
    intro he
    have h2 := (h1.lt k h).1
    have h3 := (h0.lt k he.symm).2
    omega
theorem own_grown {W w' : World} {base : Nat} {e : TypeId} {size n : Nat} {v : Value} {xs : List Value} {o : Obj} {row : Option Nat} (hown : W.ownsRow base e size v n xs) (h : (W.alloc o).grownBy w' row) (hne : v.ownBlock = none ∨ v.ownBlock ≠ row) : w'.ownsRow base e size v n xs :=
  (hown.alloc o).kept h hne
end Go.Proofs.Ytjcoeolconelmaa

/- Facts carried through calls that decode. No condition. -/
import Derived.Test.YtlamhkffnlgofaaGreatDoorHAL
namespace Go.Proofs.YtlamhkffnlgofaaGreatDoor
open Go.ChangeShapes Go.WideShapes Go.ChangeAt Go.RowKit
theorem KeepT.above {w W W' : World} {gr B : Nat} (K : KeepT w gr W) (hb : Below B W W') (hB : w.heap.size ≤ B) (hg : gr ≤ B) : KeepT w gr W' :=
 ⟨K.low.trans (hb.mono hg), fun b h1 h2 h3 => (hb.block b (Nat.lt_of_lt_of_le h2 hB)).trans (K.block b h1 h2 h3)⟩
theorem KeepT.drew {w W : World} {gr : Nat} (K : KeepT w gr W) : KeepT w gr W.drew := ⟨K.low.trans (Below.refl gr W).drew, fun b h1 h2 h3 => K.block b h1 h2 h3⟩
structure KeptN (P : World → Prop) (w : World) (L B : Nat) : Prop where
 now : P w
 st : ∀ w', (∀ k : Nat, L ≤ k → k < B → NotInt w k → w'.heap[k]? = w.heap[k]?) → P w'
 le : B ≤ w.heap.size
theorem NotInt.same {w w' : World} {k : Nat} (h : w'.heap[k]? = w.heap[k]?) (h' : NotInt w' k) : NotInt w k := fun c f e => h' c f (h.trans e)
theorem KeptN.move {P : World → Prop} {w w' : World} {L B : Nat} (h : KeptN P w L B) (hk : ∀ k : Nat, L ≤ k → k < B → NotInt w k → w'.heap[k]? = w.heap[k]?) (hs : w.heap.size ≤ w'.heap.size) : KeptN P w' L B :=
 ⟨h.st w' hk, fun w2 h2 => h.st w2 fun p hl hp hn => (h2 p hl hp (fun c f e => hn c f ((hk p hl hp hn).symm.trans e))).trans (hk p hl hp hn), Nat.le_trans h.le hs⟩
section
variable {w w' W W' : World} {g g' gr i L B : Nat} {T T' : TypeId} {cs cs' : Array Value} {P : World → Prop} {v tv fp : Value} {fn : Int} {path : List Int} {o : Obj}
theorem nB (h : Hid (KeptN P w L B)) (hb : Below w.heap.size w w') : Hid (KeptN P w' L B) := h.out.move (fun _ _ hp _ => hb.block _ (Nat.lt_of_lt_of_le hp h.out.le)) hb.size
instance nxtN : Nxt w w' (KeptN P w L B) (KeptN P w' L B) := ⟨fun hb h => (nB (Lib.hid h) hb).out⟩
instance nxeN : NxE w w' g' (KeptN P w L B) (KeptN P w' L B) (B ≤ g' ∨ g' < L) := ⟨fun e hn h => h.move (fun k hl hk _ => e.blk k (by omega)) e.sz⟩
end
def ValN (L B : Nat) (v : Val) (vk vi vr : Value) (W : World) : Prop := ∃ S : Nat → Prop, ValP W S v vk vi vr ∧ ∀ k, S k → L ≤ k ∧ k < B ∧ NotInt W k
theorem NotInt.to {w w' : World} {k : Nat} (h : w'.heap[k]? = w.heap[k]?) (h' : NotInt w k) : NotInt w' k := fun c f e => h' c f (h.symm.trans e)
theorem ValN.kept {L B : Nat} {v : Val} {vk vi vr : Value} {W : World} (h : ValN L B v vk vi vr W) (hB : B ≤ W.heap.size) : KeptN (ValN L B v vk vi vr) W L B :=
 ⟨h, fun w' hk => by
  obtain ⟨S, h1, h2⟩ := h
  have hs : ∀ k, S k → w'.heap[k]? = W.heap[k]? := fun k hS => hk k (h2 k hS).1 (h2 k hS).2.1 (h2 k hS).2.2
  exact ⟨S, h1.keep (fun p hp => World.cell?_of_block (hs p.block hp)) (fun _ h => h), fun k hS => ⟨(h2 k hS).1, (h2 k hS).2.1, NotInt.to (hs k hS) (h2 k hS).2.2⟩⟩, hB⟩
theorem lt_same {w w' : World} {k : Nat} (h : w'.heap[k]? = w.heap[k]?) (hk : k < w.heap.size) : k < w'.heap.size := by
 rcases Nat.lt_or_ge k w'.heap.size with h1 | h1
 ·
  exact h1
 rw [Array.getElem?_eq_none h1, Array.getElem?_eq_getElem hk] at h; cases h
theorem own_type {W : World} {base n size k : Nat} {e : TypeId} {v : Value} {xs : List Value} (h : W.ownsRow base e size v n xs) (he : e ≠ 3) (hk : v.ownBlock = some k) : NotInt W k := by
 rcases h.2 with ⟨rfl, _⟩ | ⟨g, cap, cur, rfl, _, hh, _⟩
 ·
  simp [Value.ownBlock] at hk
 simp only [Value.ownBlock, Option.some.injEq] at hk
 subst hk
 intro c f e2
 rw [hh] at e2; injection e2 with e3; injection e3 with _ e4; exact he e4
theorem KeptN.own {w : World} {base n size : Nat} {e : TypeId} {v : Value} {xs : List Value} (h : w.ownsRow base e size v n xs) (he : e ≠ 3) : KeptN (fun w => w.ownsRow base e size v n xs) w base w.heap.size :=
 ⟨h, fun _ hk => own_keep h fun k hb => hk k (h.lt k hb).1 (h.lt k hb).2 (own_type h he hb), Nat.le_refl _⟩
def ListN (L : Nat) (v : Value) (xs : List Val) (W : World) : Prop := ∃ S : Nat → Prop, OwnVals W L S v xs ∧ ∀ k, S k → L ≤ k ∧ NotInt W k
theorem ListN.nil (L : Nat) (W : World) : ListN L (.slice none 0 0) [] W := ⟨_, OwnVals.nil W L, fun _ h => h.elim⟩
theorem OwnVals.notInt {W : World} {L k : Nat} {S : Nat → Prop} {v : Value} {xs : List Val} (h : OwnVals W L S v xs) (hk : v.ownBlock = some k) : NotInt W k := by
 obtain ⟨⟨cs, h1, _⟩, _⟩ := h; exact own_type h1 (by decide) hk
theorem ListN.kept {L : Nat} {v : Value} {xs : List Val} {W : World} (h : ListN L v xs W) : KeptN (ListN L v xs) W L W.heap.size := ⟨h, fun w' hk => by
 obtain ⟨S, h1, h2⟩ := h
 have hS : ∀ k, S k → w'.heap[k]? = W.heap[k]? := fun k hs => hk k (h2 k hs).1 (h1.sep k hs).1 (h2 k hs).2
 have hO : ∀ k, v.ownBlock = some k → w'.heap[k]? = W.heap[k]? := fun k ho => hk k (h1.lt k ho).1 (h1.lt k ho).2 (h1.notInt ho)
 obtain ⟨⟨cs, h3, h4⟩, h5⟩ := h1
 exact ⟨S, ⟨⟨cs, own_keep h3 hO, fun i hi => (h4 i hi).keep (fun p hp => World.cell?_of_block (hS p.block hp)) (fun _ h => h)⟩, fun k hs => ⟨lt_same (hS k hs) (h5 k hs).1, (h5 k hs).2⟩⟩, fun k hs => ⟨(h2 k hs).1, NotInt.to (hS k hs) (h2 k hs).2⟩⟩, Nat.le_refl _⟩
theorem ListN.lt {L : Nat} {v : Value} {xs : List Val} {W : World} (h : ListN L v xs W) : ∀ k, v.ownBlock = some k → L ≤ k ∧ k < W.heap.size ∧ NotInt W k := fun k hk => by
 obtain ⟨S, h1, _⟩ := h; exact ⟨(h1.lt k hk).1, (h1.lt k hk).2, h1.notInt hk⟩
theorem ListN.form {L : Nat} {v : Value} {xs : List Val} {W : World} (h : ListN L v xs W) : ∃ A c, v = .slice A xs.length c := by
 obtain ⟨S, h1, _⟩ := h; exact h1.form
theorem ListN.row {L : Nat} {v : Value} {xs : List Val} {w W : World} (h : ListN L v xs W) (hL : w.heap.size ≤ L) : RdValsP W (NewT w W) v xs := by
 obtain ⟨S, h1, h2⟩ := h
 exact h1.row.keep (fun _ _ => rfl) fun k hk => hk.elim (fun hs => ⟨Nat.le_trans hL (h2 k hs).1, (h1.sep k hs).1, (h2 k hs).2⟩) (fun ho => ⟨Nat.le_trans hL (h1.lt k ho).1, (h1.lt k ho).2, h1.notInt ho⟩)
section
variable {w W W' : World} {gr L B : Nat} {P : World → Prop} {tv fp : Value} {fn : Int} {path : List Int} {row : Option Nat}
end
end Go.Proofs.YtlamhkffnlgofaaGreatDoor

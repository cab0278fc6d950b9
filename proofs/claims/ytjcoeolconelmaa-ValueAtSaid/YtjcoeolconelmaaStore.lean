/- Storing a row of cells into a row that the call owns. No condition. -/
import Derived.Test.YtjcoeolconelmaaClone
import Derived.Deep.MidRow
namespace Go.Proofs.Ytjcoeolconelmaa
open Go.ChangeShapes Go.WideShapes Go.ChangeAt Go.RowKit

def setL (xs : List Value) : Nat → List Value → List Value
  | _, [] => xs
  | o, v :: r => setL (xs.set o v) (o + 1) r
theorem setL_len : ∀ (vs xs : List Value) (o : Nat), (setL xs o vs).length = xs.length
  | [], _, _ => rfl
  | v :: r, xs, o => by rw [setL, setL_len r]; simp
theorem setL_out : ∀ (vs xs : List Value) (o q : Nat), (q < o ∨ o + vs.length ≤ q) → (setL xs o vs)[q]? = xs[q]?
  | [], _, _, _, _ => rfl
  | v :: r, xs, o, q, h => by
    simp only [List.length_cons] at h
    rw [setL, setL_out r _ _ _ (by omega), List.getElem?_set_ne (by omega)]
theorem setL_in : ∀ (vs xs : List Value) (o j : Nat), j < vs.length → o + vs.length ≤ xs.length → (setL xs o vs)[o + j]? = vs[j]?
  | [], _, _, _, h, _ => by simp at h
  | v :: r, xs, o, j, h, hl => by
    simp only [List.length_cons] at h hl
    rw [setL]
    cases j with
    | zero =>
      rw [setL_out r _ _ _ (by omega), Nat.add_zero, List.getElem?_set_self (by omega)]
      rfl
    | succ j =>
      rw [show o + (j + 1) = o + 1 + j by omega, setL_in r _ _ j (by omega) (by simp; omega)]
      rfl
theorem own_setCells {base n size cap g : Nat} {e : TypeId} : ∀ (vs xs : List Value) (o : Nat) (w : World), w.ownsRow base e size (.slice (some ⟨g, 0, none⟩) n cap) n xs →
    (w.setCells g o vs).ownsRow base e size (.slice (some ⟨g, 0, none⟩) n cap) n (setL xs o vs)
  | [], _, _, _, h => h
  | v :: r, _, o, _, h => own_setCells r _ (o + 1) _ (h.stored o v).1
theorem below_setCells {B g : Nat} {w0 : World} (hg : B ≤ g) : ∀ (vs : List Value) (o : Nat) (w : World), Below B w0 w → Below B w0 (w.setCells g o vs)
  | [], _, _, h => h
  | v :: r, o, _, h => below_setCells hg r (o + 1) _ (h.setCell hg v)
theorem size_setCellsX (g : Nat) : ∀ (vs : List Value) (o : Nat) (w : World), (w.setCells g o vs).heap.size = w.heap.size
  | [], _, _ => rfl
  | v :: r, o, w => by rw [World.setCells, size_setCellsX g r]; simp
theorem cell_setCells (g o : Nat) (vs : List Value) (w : World) (p : Addr) (hp : p.block ≠ g) : (w.setCells g o vs).cell? p = w.cell? p :=
  World.cell?_setCells_out g vs o w p (fun h => absurd h hp)
theorem own_there {w : World} {base n size cap g : Nat} {e : TypeId} {xs : List Value} (h : w.ownsRow base e size (.slice (some ⟨g, 0, none⟩) n cap) n xs) (o m : Nat) (hm : o + m ≤ n * size) : w.there g o m := by
  intro j hj
  refine ⟨?_, h.frozenAt (o + j)⟩
  rw [h.cellAt (o + j) (by omega), List.getElem?_eq_getElem (by rw [h.1]; omega)]
  rfl
/-- the list holds the rows c, each of this size -/
def Tiled (size n : Nat) (xs : List Value) (c : Nat → List Value) : Prop := xs.length = n * size ∧ (∀ i, i < n → (c i).length = size) ∧ ∀ i, i < n → ∀ j u, (c i)[j]? = some u → xs[i * size + j]? = some u
theorem Tiled.of_rows (c : Nat → List Value) (size n : Nat) (h : ∀ i, i < n → (c i).length = size) : Tiled size n (rowsV c n) c :=
  ⟨rowsV_len c size n h, h, fun i hi j u hu => by
    have hj : j < size := by rw [← h i hi]; exact (List.getElem?_eq_some_iff.1 hu).1
    rw [rowsV_get c size n h i j hi hj]; exact hu⟩
theorem tile_lt {k n size : Nat} (h : k < n) : k * size + size ≤ n * size := by
  have := Nat.mul_le_mul_right size h
  rw [Nat.succ_mul] at this
  exact this
theorem Tiled.set {size n : Nat} {xs : List Value} {c : Nat → List Value} (h : Tiled size n xs c) (k : Nat) (cs : List Value) (hk : k < n) (hl : cs.length = size) : Tiled size n (setL xs (k * size) cs) (fun i => if i = k then cs else c i) := by
  obtain ⟨h1, h2, h3⟩ := h
  have hkn := tile_lt (size := size) hk
  refine ⟨by rw [setL_len, h1], fun i hi => ?_, fun i hi j u hu => ?_⟩
  · show (if i = k then cs else c i).length = size
    split
    · exact hl
    · exact h2 i hi
  · replace hu : (if i = k then cs else c i)[j]? = some u := hu
    by_cases e : i = k
    · subst e
      rw [if_pos rfl] at hu
      rw [setL_in cs xs (i * size) j (List.getElem?_eq_some_iff.1 hu).1 (by omega)]
      exact hu
    · rw [if_neg e] at hu
      have hj : j < size := by rw [← h2 i hi]; exact (List.getElem?_eq_some_iff.1 hu).1
      have : i * size + j < k * size ∨ k * size + cs.length ≤ i * size + j := by
        rcases Nat.lt_or_gt_of_ne e with h | h
        · left; have := tile_lt (size := size) h; omega
        · right; have := tile_lt (size := size) h; omega
      rw [setL_out cs xs (k * size) _ this]
      exact h3 i hi j u hu
theorem RowP.of_tiled {w : World} {base n size : Nat} {e : TypeId} {v : Value} {xs : List Value} {c : Nat → List Value} (h : w.ownsRow base e size v n xs) (hc : Tiled size n xs c) : RowP w (fun b => v.ownBlock = some b) size v n c := by
  have h0 := h
  obtain ⟨hl, h2⟩ := h
  rcases h2 with ⟨rfl, rfl⟩ | ⟨g, cap, cur, rfl, hb, hh, hn, hm, hsz, ht⟩
  · exact ⟨none, 0, rfl, Nat.le_refl _, .inl rfl⟩
  · refine ⟨_, cap, rfl, hn, .inr ⟨g, 0, rfl, rfl, fun i hi j u hu => ?_⟩⟩
    have := h0.cells (g := g) rfl (i * size + j) u (hc.2.2 i hi j u hu)
    have e : (⟨g, 0, none⟩ : Addr).add (i * size + j) = ⟨g, 0 + i * size + j, none⟩ := by unfold Addr.add; split <;> simp_all
    rwa [e] at this
theorem valV_one (x : Val) (vk vi vr : Value) (h1 : vk.oneCell' = true) (h2 : vi.oneCell' = true) (h3 : vr.oneCell' = true) : ∀ u ∈ valV x vk vi vr, u.oneCell' = true := by
  intro u hu
  simp only [valV, List.mem_cons, List.not_mem_nil, or_false] at hu
  rcases hu with rfl | rfl | rfl | rfl | rfl | rfl | rfl | rfl <;> first | assumption | rfl
end Go.Proofs.Ytjcoeolconelmaa

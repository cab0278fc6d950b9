/- Opening arguments of any depth: slices, structs, strings, with the reach. No condition. -/
import Derived.Test.YtjcoeolconelmaaBlk
import Derived.Deep.Slices
namespace Go.Proofs.Ytjcoeolconelmaa
open Go.ChangeShapes Go.WideShapes Go.ChangeAt Go.RowKit

/-- all weights of a datum are within the reach -/
def Sz {H : Type} (t : TypeId) (d : DataW H) : Prop := ∀ n ∈ d.weights Try.prog t, n ≤ 140737488351232
theorem reach_num : reachBytes = 140737488351232 := by decide
theorem sz_of_each {H : Type} {ts : List TypeId} {ds : List (DataW H)} (h : (DataW.weightsEach Try.prog ts ds).all (· ≤ reachBytes) = true) {j : Nat} {t : TypeId} {d : DataW H} (ht : ts[j]? = some t) (hd : ds[j]? = some d) : Sz t d := fun n hn => by
  have := List.all_eq_true.1 h n (DataW.weights_mem_each ht hd n hn)
  rw [← reach_num]
  simpa using this
theorem mem_weightsAll {H : Type} {P : Program} {e : TypeId} : ∀ {ds : List (DataW H)} {d : DataW H}, d ∈ ds → ∀ n ∈ d.weights P e, n ∈ DataW.weightsAll P e ds
  | d0 :: ds, d, hd, n, hn => by
    rw [DataW.weightsAll]
    rcases List.mem_cons.1 hd with rfl | hd
    · exact List.mem_append_left _ hn
    · exact List.mem_append_right _ (mem_weightsAll hd n hn)
theorem mem_weightsEach {H : Type} {P : Program} : ∀ {ts : List TypeId} {ds : List (DataW H)} {j : Nat} {t : TypeId} {d : DataW H}, ts[j]? = some t → ds[j]? = some d → ∀ n ∈ d.weights P t, n ∈ DataW.weightsEach P ts ds := DataW.weights_mem_each
theorem Sz.str {H : Type} {t : TypeId} {b : List UInt8} (h : Sz t (.lit (.string b) : DataW H)) : b.length ≤ 140737488351232 := h _ (by simp [DataW.weights])
theorem Sz.field {H : Type} {t : TypeId} {fs : Array Field} {parts : List (DataW H)} (h : Sz t (.agg parts)) (ht : Try.prog.underlying t = some (.struct fs)) {i : Nat} {f : Field} {d : DataW H} (hf : fs[i]? = some f) (hd : parts[i]? = some d) : Sz f.type d := fun n hn => by
  refine h n ?_
  simp only [DataW.weights, ht]
  exact mem_weightsEach (j := i) (by simpa using ⟨f, hf, rfl⟩) hd n hn
theorem Sz.len {H : Type} {t e : TypeId} {es sp : List (DataW H)} (h : Sz t (.slice es sp)) (ht : Try.prog.underlying t = some (.slice e)) : (es.length + sp.length) * Try.prog.bytesOf e ≤ 140737488351232 :=
  h _ (by simp [DataW.weights, ht])
theorem Sz.elem {H : Type} {t e : TypeId} {es sp : List (DataW H)} (h : Sz t (.slice es sp)) (ht : Try.prog.underlying t = some (.slice e)) {d : DataW H} (hd : d ∈ es) : Sz e d := fun n hn =>
  h n (by simp only [DataW.weights, ht]; exact List.mem_cons_of_mem _ (List.mem_append_left _ (mem_weightsAll hd n hn)))

section
variable {H : Type} {enc : TypeId × Value → H} {w : World} {base : Nat} {spare : Nat → Bool} {held : Bool}
set_option maxRecDepth 100000 in
/-- a slice whose elements have 'size' cells each: its address, and the cells of each element, which read -/
theorem open_rows {t e : TypeId} {size fuel : Nat} {cs : List Value} {x : DataW H × List MemPlace} (ht : Try.prog.underlying t = some (.slice e)) (hC : Try.prog.cellsOf e = size) (hpos : 0 < size)
    (h : DataW.trod enc Try.prog w base spare held fuel t cs = some x) (hs : Sz t x.1) :
    ∃ (A : Option Addr) (len cap : Nat), cs = [.slice A len cap] ∧ len ≤ cap ∧ len * Try.prog.bytesOf e ≤ 140737488351232 ∧
      (len = 0 ∨ ∃ b o, A = some ⟨b, o, none⟩ ∧ b < w.heap.size ∧ ∃ (N : Nat) (D : Nat → DataW H) (Pl : Nat → List MemPlace), ∀ i, i < len → ∃ cs', cs'.length = size ∧
        (∀ j u, cs'[j]? = some u → w.cell? ⟨b, o + i * size + j, none⟩ = some u) ∧ DataW.trod enc Try.prog w base spare held N e cs' = some (D i, Pl i) ∧ Sz e (D i)) := by
  rcases Go.Deep.open_slice ht h with ⟨rfl, _⟩ | ⟨a, len, cap, m, n, D, Pl, rfl, hb, hl, hm, hmm, rfl, hel⟩
  · exact ⟨none, 0, 0, rfl, Nat.le_refl _, by simp, .inl rfl⟩
  · have hlm : len ≤ m := by rw [hmm]; split <;> omega
    refine ⟨some a, len, cap, rfl, hl, ?_, ?_⟩
    · have := hs.len ht
      simp only [List.length_map, List.length_range] at this
      exact Nat.le_trans (Nat.mul_le_mul_right _ (by omega)) this
    · by_cases h0 : len = 0
      · exact .inl h0
      right
      have hcell : ∀ i, i < len → ∃ cs', cs'.length = size ∧ (∀ j, j < size → w.cell? ((a.add (i * size)).add j) = cs'[j]?) ∧ DataW.trod enc Try.prog w base spare held n e cs' = some (D i, Pl i) := fun i hi => by
        obtain ⟨cs', h1, h2⟩ := hel i (by omega)
        rw [hC] at h1
        obtain ⟨_, h3, h4⟩ := World.cells?_some h1
        exact ⟨cs', h3, h4, h2⟩
      have h00 : ∃ u, w.cell? a = some u := by
        obtain ⟨cs', h1, h2, _⟩ := hcell 0 (by omega)
        have := h2 0 hpos
        have e0 : (a.add (0 * size)).add 0 = a := by simp [Addr.add]
        rw [e0] at this
        exact ⟨cs'[0]'(by omega), by rw [this]; exact List.getElem?_eq_getElem (by omega)⟩
      obtain ⟨u, hu⟩ := h00
      have hsp : a.spot = none := by
        cases hs : a.spot with
        | none => rfl
        | some s => simp [World.cell?, hs] at hu; split at hu <;> simp at hu
      obtain ⟨b, o, sp⟩ := a
      simp only at hsp
      subst hsp
      refine ⟨b, o, rfl, World.block_lt_of_cell? _ _ hu, n, D, Pl, fun i hi => ?_⟩
      obtain ⟨cs', h1, h2, h3⟩ := hcell i hi
      refine ⟨cs', h1, fun j v hv => ?_, h3, hs.elem ht (List.mem_map.2 ⟨i, by simpa using hi, rfl⟩)⟩
      have hj : j < size := by rw [← h1]; exact (List.getElem?_eq_some_iff.1 hv).1
      have e1 : ((⟨b, o, none⟩ : Addr).add (i * size)).add j = ⟨b, o + i * size + j, none⟩ := by unfold Addr.add; split <;> split <;> simp_all
      rw [← e1, h2 j hj, hv]
end

theorem flat_len {α : Type} {f : α → List Value} {size : Nat} (hf : ∀ a, (f a).length = size) (xs : List α) : (xs.flatMap f).length = xs.length * size := by
  induction xs with
  | nil => simp
  | cons x r ih => rw [List.flatMap_cons, List.length_append, hf, ih, List.length_cons, Nat.succ_mul, Nat.add_comm]
theorem flat_get {α : Type} {f : α → List Value} {size : Nat} (hf : ∀ a, (f a).length = size) (xs : List α) : ∀ (k j : Nat) (h : k < xs.length), j < size → (xs.flatMap f)[k * size + j]? = (f xs[k])[j]? := by
  induction xs with
  | nil => intro k j h; simp at h
  | cons x r ih =>
    intro k j h hj
    rw [List.flatMap_cons]
    cases k with
    | zero => rw [List.getElem?_append_left (by rw [hf]; omega)]; simp
    | succ k =>
      rw [List.getElem?_append_right (by rw [hf, Nat.succ_mul]; omega), hf]
      have e2 : (k + 1) * size + j - size = k * size + j := by rw [Nat.succ_mul]; omega
      rw [e2, ih k j (by simpa using h) hj]
      simp
theorem flat_inv {α : Type} {f : α → List Value} {size : Nat} (hf : ∀ a, (f a).length = size) (hpos : 0 < size) (xs : List α) (j : Nat) (u : Value) (h : (xs.flatMap f)[j]? = some u) : ∃ hk : j / size < xs.length, (f (xs[j / size]))[j % size]? = some u := by
  have hl := (List.getElem?_eq_some_iff.1 h).1
  rw [flat_len hf] at hl
  have hk : j / size < xs.length := Nat.div_lt_of_lt_mul (by rw [Nat.mul_comm]; exact hl)
  refine ⟨hk, ?_⟩
  rw [← flat_get hf xs (j / size) (j % size) hk (Nat.mod_lt _ hpos)]
  have : j / size * size + j % size = j := by rw [Nat.mul_comm]; exact Nat.div_add_mod j size
  rw [this, h]

set_option maxRecDepth 100000 in
/-- a slice that came in, whose elements read as f of something good: as a list -/
theorem open_list {H : Type} {enc : TypeId × Value → H} {w : World} {base : Nat} {spare : Nat → Bool} {held : Bool} {α : Type} {good : α → Prop} {f : α → List Value}
    {t e : TypeId} {size fuel : Nat} {cs : List Value} {x : DataW H × List MemPlace} (ht : Try.prog.underlying t = some (.slice e)) (hC : Try.prog.cellsOf e = size) (hpos : 0 < size) (hf : ∀ a, (f a).length = size)
    (h : DataW.trod enc Try.prog w base spare held fuel t cs = some x) (hs : Sz t x.1)
    (hel : ∀ (N : Nat) (cs' : List Value) (D : DataW H) (Q : List MemPlace), cs'.length = size → DataW.trod enc Try.prog w base spare held N e cs' = some (D, Q) → Sz e D → ∃ a, cs' = f a ∧ good a) :
    ∃ (v : Value) (xs : List α), cs = [v] ∧ xs.length * Try.prog.bytesOf e ≤ 140737488351232 ∧ (∀ a ∈ xs, good a) ∧ Rd w w.heap.size size v xs.length (xs.flatMap f) := by
  obtain ⟨A, len, cap, rfl, hl, hb, hrow⟩ := open_rows ht hC hpos h hs
  rcases hrow with rfl | ⟨b, o, rfl, hlt, N, D, Pl, hi⟩
  · exact ⟨_, [], rfl, by simp, by simp, by simp, A, cap, rfl, hl, .inl rfl⟩
  · have hex : ∀ i, i < len → ∃ a, good a ∧ ∀ j u, (f a)[j]? = some u → w.cell? ⟨b, o + i * size + j, none⟩ = some u := fun i h0 => by
      obtain ⟨cs', h1, h2, h3, h4⟩ := hi i h0
      obtain ⟨a, rfl, hg⟩ := hel N cs' (D i) (Pl i) h1 h3 h4
      exact ⟨a, hg, h2⟩
    have hall : ∀ n, n ≤ len → ∃ xs : List α, xs.length = n ∧ (∀ a ∈ xs, good a) ∧ ∀ i (h : i < xs.length), ∀ j u, (f xs[i])[j]? = some u → w.cell? ⟨b, o + i * size + j, none⟩ = some u := by
      intro n
      induction n with
      | zero => intro _; exact ⟨[], rfl, by simp, fun i h => by simp at h⟩
      | succ n ih =>
        intro hn
        obtain ⟨xs, h1, h2, h3⟩ := ih (by omega)
        obtain ⟨a, hg, ha⟩ := hex n (by omega)
        refine ⟨xs ++ [a], by simp [h1], fun y hy => ?_, fun i hi j u hu => ?_⟩
        · rcases List.mem_append.1 hy with hy | hy
          · exact h2 y hy
          · rw [List.mem_singleton.1 hy]; exact hg
        · rw [List.length_append, List.length_singleton] at hi
          rcases Nat.lt_or_ge i xs.length with hlt | hge
          · rw [List.getElem_append_left hlt] at hu; exact h3 i hlt j u hu
          · obtain rfl : i = xs.length := by omega
            rw [List.getElem_append_right (Nat.le_refl _)] at hu
            simp only [Nat.sub_self, List.getElem_cons_zero] at hu
            rw [h1]; exact ha j u hu
    obtain ⟨xs, h1, h2, h3⟩ := hall len (Nat.le_refl _)
    subst h1
    refine ⟨_, xs, rfl, hb, h2, flat_len hf xs, _, cap, rfl, hl, ?_⟩
    refine .inr ⟨b, o, rfl, hlt, fun j u hu => ?_⟩
    obtain ⟨hk, hu2⟩ := flat_inv hf hpos xs j u hu
    have := h3 _ hk _ _ hu2
    have e : o + j / size * size + j % size = o + j := by
      have := Nat.div_add_mod j size
      rw [Nat.mul_comm] at this
      omega
    rw [e] at this
    exact this
end Go.Proofs.Ytjcoeolconelmaa

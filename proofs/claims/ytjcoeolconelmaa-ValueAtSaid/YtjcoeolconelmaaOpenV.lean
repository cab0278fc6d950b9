/- Values that come in, of any depth. No condition. -/
import Derived.Test.YtjcoeolconelmaaVal
import Derived.Test.YtjcoeolconelmaaValD
import Derived.Lib.SmallJoins
namespace Go.Proofs.Ytjcoeolconelmaa
open Go.ChangeShapes Go.WideShapes Go.ChangeAt Go.RowKit Go.Joins

section
variable {H : Type} {enc : TypeId × Value → H} {w : World} {base : Nat} {spare : Nat → Bool} {held : Bool}
theorem size_part {parts : List (DataW H × List MemPlace)} {y : DataW H × List MemPlace} (h : y ∈ parts) : SizeOf.sizeOf y.1 < SizeOf.sizeOf (DataW.agg (parts.map (·.1))) := by
  have h1 : y.1 ∈ parts.map (·.1) := List.mem_map.2 ⟨y, h, rfl⟩
  have h2 := List.sizeOf_lt_of_mem h1
  simp only [DataW.agg.sizeOf_spec]
  omega
theorem size_elem {es sp : List (DataW H)} {y : DataW H} (h : y ∈ es) : SizeOf.sizeOf y < SizeOf.sizeOf (DataW.slice es sp) := by
  have h2 := List.sizeOf_lt_of_mem h
  simp only [DataW.slice.sizeOf_spec]
  omega
set_option maxRecDepth 100000 in
/-- as open_rows; each element's datum is a part of the slice's -/
theorem open_rowsV {t e : TypeId} {size fuel : Nat} {cs : List Value} {x : DataW H × List MemPlace} (ht : Try.prog.underlying t = some (.slice e)) (hC : Try.prog.cellsOf e = size) (hpos : 0 < size)
    (h : DataW.trod enc Try.prog w base spare held fuel t cs = some x) (hs : Sz t x.1) :
    ∃ (A : Option Addr) (len cap : Nat), cs = [.slice A len cap] ∧ len ≤ cap ∧ len * Try.prog.bytesOf e ≤ 140737488351232 ∧
      (len = 0 ∨ ∃ b o, A = some ⟨b, o, none⟩ ∧ b < w.heap.size ∧ ∃ (N : Nat) (D : Nat → DataW H) (Pl : Nat → List MemPlace), ∀ i, i < len → ∃ cs', cs'.length = size ∧
        (∀ j u, cs'[j]? = some u → w.cell? ⟨b, o + i * size + j, none⟩ = some u) ∧ DataW.trod enc Try.prog w base spare held N e cs' = some (D i, Pl i) ∧ Sz e (D i) ∧ SizeOf.sizeOf (D i) < SizeOf.sizeOf x.1) := by
  rcases Go.Deep.open_slice ht h with ⟨rfl, _⟩ | ⟨a, len, cap, m, n, D, Pl, rfl, hb, hl, hm, hmm, rfl, hel⟩
  · exact ⟨none, 0, 0, rfl, Nat.le_refl _, by simp, .inl rfl⟩
  · have hlm : len ≤ m := by rw [hmm]; split <;> omega
    refine ⟨some a, len, cap, rfl, hl, ?_, ?_⟩
    · have := hs.len ht
      simp only [List.length_map, List.length_range] at this
      exact Nat.le_trans (Nat.mul_le_mul_right _ (by omega)) this
    · by_cases h0 : len = 0
      · exact .inl h0
      right
      have hcell : ∀ i, i < len → ∃ cs', cs'.length = size ∧ (∀ j, j < size → w.cell? ((a.add (i * size)).add j) = cs'[j]?) ∧ DataW.trod enc Try.prog w base spare held n e cs' = some (D i, Pl i) := fun i hi => by
        obtain ⟨cs', h1, h2⟩ := hel i (by omega)
        rw [hC] at h1
        obtain ⟨_, h3, h4⟩ := World.cells?_some h1
        exact ⟨cs', h3, h4, h2⟩
      have h00 : ∃ u, w.cell? a = some u := by
        obtain ⟨cs', h1, h2, _⟩ := hcell 0 (by omega)
        have := h2 0 hpos
        have e0 : (a.add (0 * size)).add 0 = a := by simp [Addr.add]
        rw [e0] at this
        exact ⟨cs'[0]'(by omega), by rw [this]; exact List.getElem?_eq_getElem (by omega)⟩
      obtain ⟨u, hu⟩ := h00
      have hsp : a.spot = none := by
        cases hs : a.spot with
        | none => rfl
        | some s => simp [World.cell?, hs] at hu; split at hu <;> simp at hu
      obtain ⟨b, o, sp⟩ := a
      simp only at hsp
      subst hsp
      refine ⟨b, o, rfl, World.block_lt_of_cell? _ _ hu, n, D, Pl, fun i hi => ?_⟩
      obtain ⟨cs', h1, h2, h3⟩ := hcell i hi
      have hmem : D i ∈ (List.range len).map D := List.mem_map.2 ⟨i, by simpa using hi, rfl⟩
      refine ⟨cs', h1, fun j v hv => ?_, h3, hs.elem ht hmem, size_elem hmem⟩
      have hj : j < size := by rw [← h1]; exact (List.getElem?_eq_some_iff.1 hv).1
      have e1 : ((⟨b, o, none⟩ : Addr).add (i * size)).add j = ⟨b, o + i * size + j, none⟩ := by unfold Addr.add; split <;> split <;> simp_all
      rw [← e1, h2 j hj, hv]
set_option maxRecDepth 100000 in
theorem raw_of (N : Nat) (cs : List Value) (D : DataW H) (Q : List MemPlace) (hl : cs.length = 2)
    (h : DataW.trod enc Try.prog w base spare held N 78 cs = some (D, Q)) (hs : Sz 78 D) : ∃ x : Raw, cs = rawV x ∧ RawIn x := by
  obtain ⟨xs, n, rfl, hx, _, hxl, hg⟩ := DataW.trod_struct Try.underlying78 h
  obtain ⟨c0, c1, rfl⟩ : ∃ a b, cs = [a, b] := by
    match cs, hl with
    | [a, b], _ => exact ⟨a, b, rfl⟩
  match xs, hxl with
  | [y0, y1], _ =>
    injection hx with hx1 hx2
    have k0 : Try.prog.cellsOf 3 = 1 := by kernel_rfl
    have k2 : Try.prog.cellsOf 9 = 1 := by kernel_rfl
    have h0 : DataW.trod enc Try.prog w base spare held n 3 (([c0, c1].drop 0).take (Try.prog.cellsOf 3)) = some y0 := hg 0 _ rfl
    rw [k0] at h0
    have h3 : DataW.trod enc Try.prog w base spare held n 9 (([c0, c1].drop 1).take (Try.prog.cellsOf 9)) = some y1 := hg 1 _ rfl
    rw [k2] at h3
    obtain ⟨n0, e0, _, w0⟩ := DataW.trod_int Try.underlying3 h0
    obtain ⟨s, e3, e4, _⟩ := DataW.trod_string Try.underlying9 h3
    simp only [List.drop, List.take, List.cons.injEq, and_true] at e0 e3
    subst e0 e3
    obtain ⟨l, rfl, hll⟩ := str_list s
    refine ⟨(n0, l), rfl, wf_i64 w0, ?_⟩
    subst hx1
    have hz := Sz.field hs Try.underlying78 (i := 1) rfl rfl
    rw [e4] at hz
    simpa using hz.str
set_option maxRecDepth 100000 in
/-- a slice of values, given its elements -/
theorem vals_of {fuel : Nat} {cs : List Value} {x : DataW H × List MemPlace} (h : DataW.trod enc Try.prog w base spare held fuel 25 cs = some x) (hs : Sz 25 x.1)
    (ih : ∀ (N : Nat) (cs : List Value) (D : DataW H) (Q : List MemPlace), SizeOf.sizeOf D < SizeOf.sizeOf x.1 → cs.length = 8 → DataW.trod enc Try.prog w base spare held N 28 cs = some (D, Q) → Sz 28 D → ∃ y : Val, RdVal w w.heap.size y cs) :
    ∃ (v : Value) (xs : List Val), cs = [v] ∧ xs.length ≤ 140737488351232 ∧ RdVals w w.heap.size v xs := by
  obtain ⟨A, len, cap, rfl, hl, hb, hrow⟩ := open_rowsV Try.underlying25 (size := 8) (by kernel_rfl) (by decide) h hs
  have hbb : Try.prog.bytesOf 28 = 120 := by kernel_rfl
  rw [hbb] at hb
  rcases hrow with rfl | ⟨b, o, rfl, hlt, N, D, Pl, hi⟩
  · exact ⟨_, [], rfl, by simp, fun _ => [], ⟨A, cap, rfl, hl, .inl rfl⟩, fun i h => by simp at h⟩
  · have hex : ∀ i : Nat, ∃ p : Val × List Value, i < len → (∀ j u, p.2[j]? = some u → w.cell? ⟨b, o + i * 8 + j, none⟩ = some u) ∧ RdVal w w.heap.size p.1 p.2 := by
      intro i
      by_cases h0 : i < len
      · obtain ⟨cs', h1, h2, h3, h4, h5⟩ := hi i h0
        obtain ⟨y, hy⟩ := ih N cs' (D i) (Pl i) h5 h1 h3 h4
        exact ⟨(y, cs'), fun _ => ⟨h2, hy⟩⟩
      · exact ⟨(val0, []), fun h => absurd h h0⟩
    obtain ⟨F, hF⟩ := Classical.axiomOfChoice hex
    refine ⟨_, (List.range len).map (fun i => (F i).1), rfl, by simp; omega, fun i => (F i).2, ⟨_, cap, by simp, by simpa using hl, .inr ⟨b, o, rfl, hlt, fun i h0 => (hF i (by simpa using h0)).1⟩⟩, fun i h0 => ?_⟩
    have h1 : i < len := by simpa using h0
    simpa using (hF i h1).2
set_option maxRecDepth 100000 in
theorem val_of : ∀ (S N : Nat) (cs : List Value) (D : DataW H) (Q : List MemPlace), SizeOf.sizeOf D < S → cs.length = 8 → DataW.trod enc Try.prog w base spare held N 28 cs = some (D, Q) → Sz 28 D → ∃ y : Val, RdVal w w.heap.size y cs := by
  intro S
  induction S with
  | zero => intro N cs D Q h; omega
  | succ S ih =>
    intro N cs D Q hS hl h hs
    obtain ⟨xs, n, rfl, hx, _, hxl, hg⟩ := DataW.trod_struct Try.underlying28 h
    obtain ⟨c0, c1, c2, c3, c4, c5, c6, c7, rfl⟩ : ∃ a b c d e f g h, cs = [a, b, c, d, e, f, g, h] := by
      match cs, hl with
      | [a, b, c, d, e, f, g, h], _ => exact ⟨a, b, c, d, e, f, g, h, rfl⟩
    match xs, hxl with
    | [y0, y1, y2, y3, y4, y5, y6, y7], _ =>
      injection hx with hx1 hx2
      have k0 : Try.prog.cellsOf 3 = 1 := by kernel_rfl
      have k1 : Try.prog.cellsOf 4 = 1 := by kernel_rfl
      have k2 : Try.prog.cellsOf 2 = 1 := by kernel_rfl
      have k3 : Try.prog.cellsOf 9 = 1 := by kernel_rfl
      have k5 : Try.prog.cellsOf 25 = 1 := by kernel_rfl
      have k7 : Try.prog.cellsOf 26 = 1 := by kernel_rfl
      have h0 : DataW.trod enc Try.prog w base spare held n 3 (([c0, c1, c2, c3, c4, c5, c6, c7].drop 0).take (Try.prog.cellsOf 3)) = some y0 := hg 0 _ rfl
      have h1 : DataW.trod enc Try.prog w base spare held n 4 (([c0, c1, c2, c3, c4, c5, c6, c7].drop 1).take (Try.prog.cellsOf 4)) = some y1 := hg 1 _ rfl
      have h2 : DataW.trod enc Try.prog w base spare held n 2 (([c0, c1, c2, c3, c4, c5, c6, c7].drop 2).take (Try.prog.cellsOf 2)) = some y2 := hg 2 _ rfl
      have h3 : DataW.trod enc Try.prog w base spare held n 9 (([c0, c1, c2, c3, c4, c5, c6, c7].drop 3).take (Try.prog.cellsOf 9)) = some y3 := hg 3 _ rfl
      have h4 : DataW.trod enc Try.prog w base spare held n 3 (([c0, c1, c2, c3, c4, c5, c6, c7].drop 4).take (Try.prog.cellsOf 3)) = some y4 := hg 4 _ rfl
      have h5 : DataW.trod enc Try.prog w base spare held n 25 (([c0, c1, c2, c3, c4, c5, c6, c7].drop 5).take (Try.prog.cellsOf 25)) = some y5 := hg 5 _ rfl
      have h6 : DataW.trod enc Try.prog w base spare held n 25 (([c0, c1, c2, c3, c4, c5, c6, c7].drop 6).take (Try.prog.cellsOf 25)) = some y6 := hg 6 _ rfl
      have h7 : DataW.trod enc Try.prog w base spare held n 26 (([c0, c1, c2, c3, c4, c5, c6, c7].drop 7).take (Try.prog.cellsOf 26)) = some y7 := hg 7 _ rfl
      rw [k0] at h0 h4
      rw [k1] at h1
      rw [k2] at h2
      rw [k3] at h3
      rw [k5] at h5 h6
      rw [k7] at h7
      obtain ⟨n0, e0, _, w0⟩ := DataW.trod_int Try.underlying3 h0
      obtain ⟨b1, e1, _⟩ := DataW.trod_bool Try.underlying4 h1
      obtain ⟨n2, e2, _, w2⟩ := DataW.trod_int Try.underlying2 h2
      obtain ⟨s, e3, e3', _⟩ := DataW.trod_string Try.underlying9 h3
      obtain ⟨n4, e4, _, w4⟩ := DataW.trod_int Try.underlying3 h4
      subst hx1
      have sz3 := Sz.field hs Try.underlying28 (i := 3) rfl rfl
      have sz5 := Sz.field hs Try.underlying28 (i := 5) rfl rfl
      have sz6 := Sz.field hs Try.underlying28 (i := 6) rfl rfl
      have sz7 := Sz.field hs Try.underlying28 (i := 7) rfl rfl
      have z5 := size_part (H := H) (parts := [y0, y1, y2, y3, y4, y5, y6, y7]) (y := y5) (by simp)
      have z6 := size_part (H := H) (parts := [y0, y1, y2, y3, y4, y5, y6, y7]) (y := y6) (by simp)
      obtain ⟨vk, ks, ek, lk, rk⟩ := vals_of h5 sz5 (fun N cs D Q hD hl ht hz => ih N cs D Q (by omega) hl ht hz)
      obtain ⟨vi, is, ei, li, ri⟩ := vals_of h6 sz6 (fun N cs D Q hD hl ht hz => ih N cs D Q (by omega) hl ht hz)
      obtain ⟨vr, rs, er, lr, gr, rr⟩ := open_list Try.underlying26 (size := 2) (by kernel_rfl) (by decide) rawV_len h7 sz7 (good := RawIn) (fun N cs' D Q hl ht hsz => raw_of N cs' D Q hl ht hsz)
      simp only [List.drop, List.take, List.cons.injEq, and_true] at e0 e1 e2 e3 e4 ek ei er
      subst e0 e1 e2 e3 e4 ek ei er
      obtain ⟨l, rfl, hll⟩ := str_list s
      have hbb : Try.prog.bytesOf 78 = 24 := by kernel_rfl
      rw [hbb] at lr
      have hsl : l.length ≤ 140737488351232 := by
        rw [e3'] at sz3
        simpa using sz3.str
      exact ⟨.mk n0 b1 n2 l n4 ks is rs, (ValAt.rd (x := .mk n0 b1 n2 l n4 ks is rs) ⟨⟨wf_i64 w0, wf_i64 w2, wf_i64 w4⟩, hsl, ⟨lk, li, by show rs.length ≤ _; omega⟩, gr, rk, ri, rr⟩)⟩
end
set_option maxRecDepth 100000 in
theorem open_val {H : Type} {enc : TypeId × Value → H} {W : World} {base0 : Nat} {v : Value} {d : DataW H} {p : List MemPlace} (hv : Value.okWide Try.prog W .any base0 28 v) (h : DataW.Trod enc Try.prog W 0 (fun _ => true) true 28 v d p) (hs : Sz 28 d) :
    ∃ (x : Val) (vk vi vr : Value), v = valA x vk vi vr ∧ ValAt W W.heap.size x vk vi vr := by
  obtain ⟨cs, rfl, hsz⟩ := okWide_struct Try.underlying28 hv
  obtain ⟨fuel, hf⟩ := h
  have hC : Try.prog.cellsOf 28 = 8 := by kernel_rfl
  obtain ⟨x, hx⟩ := val_of (SizeOf.sizeOf d + 1) fuel _ d p (Nat.lt_succ_self _) (by simpa [Value.cells, hC] using hsz) hf hs
  obtain ⟨vk, vi, vr, hcs, hva⟩ := hx.inv
  refine ⟨x, vk, vi, vr, ?_, hva⟩
  unfold valA
  congr 1
  apply Array.toList_inj.1
  exact hcs
end Go.Proofs.Ytjcoeolconelmaa

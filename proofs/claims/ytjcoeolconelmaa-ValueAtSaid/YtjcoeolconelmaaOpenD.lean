/- Drafts of schemas that come in. No condition. -/
import Derived.Test.YtjcoeolconelmaaOpenV
namespace Go.Proofs.Ytjcoeolconelmaa
open Go.ChangeShapes Go.WideShapes Go.ChangeAt Go.RowKit Go.Joins

abbrev Prt := Nat × Nat × Nat
structure Nod where
  kind : Nat
  a : Nat
  b : Nat
  c : Nat
  parts : List Prt
def partV (p : Prt) : List Value := [.int .u8 p.1, .int .u8 p.2.1, .int .u8 p.2.2]
theorem partV_len (p : Prt) : (partV p).length = 3 := rfl
def PartIn (p : Prt) : Prop := p.1 < 256 ∧ p.2.1 < 256 ∧ p.2.2 < 256
def nodV (x : Nod) (vp : Value) : List Value := [.int .u8 x.kind, .int .u8 x.a, .int .u8 x.b, .int .u8 x.c, vp]
structure NodAt (w : World) (B : Nat) (x : Nod) (vp : Value) : Prop where
  ints : x.kind < 256 ∧ x.a < 256 ∧ x.b < 256 ∧ x.c < 256
  len : x.parts.length ≤ 140737488351232
  ins : ∀ p ∈ x.parts, PartIn p
  parts : Rd w B 3 vp x.parts.length (x.parts.flatMap partV)
def RdNods (w : World) (B : Nat) (v : Value) (xs : List Nod) : Prop := ∃ c : Nat → List Value, Row w B 5 v xs.length c ∧ ∀ (i : Nat) (h : i < xs.length), ∃ vp, c i = nodV xs[i] vp ∧ NodAt w B xs[i] vp
theorem wf_u8n {a : Int} (h : (Lit.int .u8 a).wf = true) : ∃ n : Nat, a = (n : Int) ∧ n < 256 := by
  simp [Lit.wf, IntKind.min, IntKind.max, IntKind.bits, IntKind.signed] at h
  exact ⟨a.toNat, by omega, by omega⟩
section
variable {H : Type} {enc : TypeId × Value → H} {w : World} {base : Nat} {spare : Nat → Bool} {held : Bool}
set_option maxRecDepth 100000 in
theorem part_of (N : Nat) (cs : List Value) (D : DataW H) (Q : List MemPlace) (hl : cs.length = 3)
    (h : DataW.trod enc Try.prog w base spare held N 100 cs = some (D, Q)) : ∃ x : Prt, cs = partV x ∧ PartIn x := by
  obtain ⟨xs, n, rfl, hx, _, hxl, hg⟩ := DataW.trod_struct Try.underlying100 h
  obtain ⟨c0, c1, c2, rfl⟩ : ∃ a b c, cs = [a, b, c] := by
    match cs, hl with
    | [a, b, c], _ => exact ⟨a, b, c, rfl⟩
  match xs, hxl with
  | [y0, y1, y2], _ =>
    have k0 : Try.prog.cellsOf 5 = 1 := by kernel_rfl
    have h0 : DataW.trod enc Try.prog w base spare held n 5 (([c0, c1, c2].drop 0).take (Try.prog.cellsOf 5)) = some y0 := hg 0 _ rfl
    have h1 : DataW.trod enc Try.prog w base spare held n 5 (([c0, c1, c2].drop 1).take (Try.prog.cellsOf 5)) = some y1 := hg 1 _ rfl
    have h2 : DataW.trod enc Try.prog w base spare held n 5 (([c0, c1, c2].drop 2).take (Try.prog.cellsOf 5)) = some y2 := hg 2 _ rfl
    rw [k0] at h0 h1 h2
    obtain ⟨n0, e0, _, w0⟩ := DataW.trod_int Try.underlying5 h0
    obtain ⟨n1, e1, _, w1⟩ := DataW.trod_int Try.underlying5 h1
    obtain ⟨n2, e2, _, w2⟩ := DataW.trod_int Try.underlying5 h2
    obtain ⟨m0, rfl, b0⟩ := wf_u8n w0
    obtain ⟨m1, rfl, b1⟩ := wf_u8n w1
    obtain ⟨m2, rfl, b2⟩ := wf_u8n w2
    simp only [List.drop, List.take, List.cons.injEq, and_true] at e0 e1 e2
    subst e0 e1 e2
    exact ⟨(m0, m1, m2), rfl, b0, b1, b2⟩
set_option maxRecDepth 100000 in
theorem nod_of (N : Nat) (cs : List Value) (D : DataW H) (Q : List MemPlace) (hl : cs.length = 5)
    (h : DataW.trod enc Try.prog w base spare held N 62 cs = some (D, Q)) (hs : Sz 62 D) : ∃ (x : Nod) (vp : Value), cs = nodV x vp ∧ NodAt w w.heap.size x vp := by
  obtain ⟨xs, n, rfl, hx, _, hxl, hg⟩ := DataW.trod_struct Try.underlying62 h
  obtain ⟨c0, c1, c2, c3, c4, rfl⟩ : ∃ a b c d e, cs = [a, b, c, d, e] := by
    match cs, hl with
    | [a, b, c, d, e], _ => exact ⟨a, b, c, d, e, rfl⟩
  match xs, hxl with
  | [y0, y1, y2, y3, y4], _ =>
    injection hx with hx1 hx2
    have k0 : Try.prog.cellsOf 5 = 1 := by kernel_rfl
    have k4 : Try.prog.cellsOf 60 = 1 := by kernel_rfl
    have h0 : DataW.trod enc Try.prog w base spare held n 5 (([c0, c1, c2, c3, c4].drop 0).take (Try.prog.cellsOf 5)) = some y0 := hg 0 _ rfl
    have h1 : DataW.trod enc Try.prog w base spare held n 5 (([c0, c1, c2, c3, c4].drop 1).take (Try.prog.cellsOf 5)) = some y1 := hg 1 _ rfl
    have h2 : DataW.trod enc Try.prog w base spare held n 5 (([c0, c1, c2, c3, c4].drop 2).take (Try.prog.cellsOf 5)) = some y2 := hg 2 _ rfl
    have h3 : DataW.trod enc Try.prog w base spare held n 5 (([c0, c1, c2, c3, c4].drop 3).take (Try.prog.cellsOf 5)) = some y3 := hg 3 _ rfl
    have h4 : DataW.trod enc Try.prog w base spare held n 60 (([c0, c1, c2, c3, c4].drop 4).take (Try.prog.cellsOf 60)) = some y4 := hg 4 _ rfl
    rw [k0] at h0 h1 h2 h3
    rw [k4] at h4
    obtain ⟨n0, e0, _, w0⟩ := DataW.trod_int Try.underlying5 h0
    obtain ⟨n1, e1, _, w1⟩ := DataW.trod_int Try.underlying5 h1
    obtain ⟨n2, e2, _, w2⟩ := DataW.trod_int Try.underlying5 h2
    obtain ⟨n3, e3, _, w3⟩ := DataW.trod_int Try.underlying5 h3
    obtain ⟨m0, rfl, b0⟩ := wf_u8n w0
    obtain ⟨m1, rfl, b1⟩ := wf_u8n w1
    obtain ⟨m2, rfl, b2⟩ := wf_u8n w2
    obtain ⟨m3, rfl, b3⟩ := wf_u8n w3
    subst hx1
    have sz4 := Sz.field hs Try.underlying62 (i := 4) rfl rfl
    obtain ⟨vp, ps, ep, lp, gp, rp⟩ := open_list Try.underlying60 (size := 3) (by kernel_rfl) (by decide) partV_len h4 sz4 (good := PartIn) (fun N cs' D Q hl ht _ => part_of N cs' D Q hl ht)
    have hbb : Try.prog.bytesOf 100 = 3 := by kernel_rfl
    rw [hbb] at lp
    simp only [List.drop, List.take, List.cons.injEq, and_true] at e0 e1 e2 e3 ep
    subst e0 e1 e2 e3 ep
    exact ⟨⟨m0, m1, m2, m3, ps⟩, _, rfl, ⟨b0, b1, b2, b3⟩, by show ps.length ≤ _; omega, gp, rp⟩
set_option maxRecDepth 100000 in
theorem nods_of {fuel : Nat} {cs : List Value} {x : DataW H × List MemPlace} (h : DataW.trod enc Try.prog w base spare held fuel 22 cs = some x) (hs : Sz 22 x.1) :
    ∃ (v : Value) (xs : List Nod), cs = [v] ∧ xs.length ≤ 140737488351232 ∧ RdNods w w.heap.size v xs := by
  obtain ⟨A, len, cap, rfl, hl, hb, hrow⟩ := open_rowsV Try.underlying22 (size := 5) (by kernel_rfl) (by decide) h hs
  have hbb : 0 < Try.prog.bytesOf 62 := by
    rw [show Try.prog.bytesOf 62 = 32 by kernel_rfl]; omega
  have hlen : len ≤ 140737488351232 := Nat.le_trans (Nat.le_mul_of_pos_right _ hbb) hb
  rcases hrow with rfl | ⟨b, o, rfl, hlt, N, D, Pl, hi⟩
  · exact ⟨_, [], rfl, by simp, fun _ => [], ⟨A, cap, rfl, hl, .inl rfl⟩, fun i h => by simp at h⟩
  · have hex : ∀ i : Nat, ∃ p : Nod × List Value, i < len → (∀ j u, p.2[j]? = some u → w.cell? ⟨b, o + i * 5 + j, none⟩ = some u) ∧ ∃ vp, p.2 = nodV p.1 vp ∧ NodAt w w.heap.size p.1 vp := by
      intro i
      by_cases h0 : i < len
      · obtain ⟨cs', h1, h2, h3, h4, _⟩ := hi i h0
        obtain ⟨y, vp, hy, hn⟩ := nod_of N cs' (D i) (Pl i) h1 h3 h4
        exact ⟨(y, cs'), fun _ => ⟨h2, vp, hy, hn⟩⟩
      · exact ⟨(⟨0, 0, 0, 0, []⟩, []), fun h => absurd h h0⟩
    obtain ⟨F, hF⟩ := Classical.axiomOfChoice hex
    refine ⟨_, (List.range len).map (fun i => (F i).1), rfl, by simpa using hlen, fun i => (F i).2, ⟨_, cap, by simp, by simpa using hl, .inr ⟨b, o, rfl, hlt, fun i h0 => (hF i (by simpa using h0)).1⟩⟩, fun i h0 => ?_⟩
    have h1 : i < len := by simpa using h0
    simpa using (hF i h1).2
end
set_option maxRecDepth 100000 in
theorem open_draft {H : Type} {enc : TypeId × Value → H} {W : World} {base0 : Nat} {v : Value} {d : DataW H} {p : List MemPlace} (hv : Value.okWide Try.prog W .any base0 24 v) (h : DataW.Trod enc Try.prog W 0 (fun _ => true) true 24 v d p) (hs : Sz 24 d) :
    ∃ (xs : List Nod) (vn : Value), v = .agg #[vn] ∧ xs.length ≤ 140737488351232 ∧ RdNods W W.heap.size vn xs := by
  obtain ⟨cs, rfl, hsz⟩ := okWide_struct Try.underlying24 hv
  obtain ⟨fuel, hf⟩ := h
  have hC : Try.prog.cellsOf 24 = 1 := by kernel_rfl
  obtain ⟨xs, n, rfl, hx, _, hxl, hg⟩ := DataW.trod_struct Try.underlying24 hf
  match xs, hxl with
  | [y0], _ =>
    injection hx with hx1 hx2
    have k0 : Try.prog.cellsOf 22 = 1 := by kernel_rfl
    have h0 : DataW.trod enc Try.prog W 0 (fun _ => true) true n 22 (((Value.agg cs).cells.toList.drop 0).take (Try.prog.cellsOf 22)) = some y0 := hg 0 _ rfl
    subst hx1
    have sz0 := Sz.field hs Try.underlying24 (i := 0) rfl rfl
    obtain ⟨vn, ns, e, l, r⟩ := nods_of h0 sz0
    refine ⟨ns, vn, ?_, l, r⟩
    rw [k0] at e
    have hl : cs.toList.length = 1 := by simpa [hC] using hsz
    congr 1
    apply Array.toList_inj.1
    simp only [Value.cells, List.drop_zero] at e
    rw [List.take_of_length_le (by omega)] at e
    exact e
end Go.Proofs.Ytjcoeolconelmaa

/- What few, Good and Log compute; entries that come in. No condition. -/
import Derived.Test.YtngmdhdncfbdjaaJourE
import Derived.Test.YtngmdhdncfbdjaaOpen
import Derived.Lib.SmallJoins
namespace Go.Proofs.Ytngmdhdncfbdjaa
open Go.ChangeShapes Go.WideShapes Go.ChangeAt Go.RowKit Go.Joins

def EntIn (x : Ent) : Prop := EntOk x ∧ x.2.2.2.length ≤ 140737488351232
theorem entV_len (x : Ent) : (entV x).length = 4 := rfl
theorem ent_of {H : Type} {enc : TypeId × Value → H} {w : World} {base : Nat} {spare : Nat → Bool} {held : Bool} (N : Nat) (cs : List Value) (D : DataW H) (Q : List MemPlace) (hl : cs.length = 4)
    (h : DataW.trod enc Try.prog w base spare held N 23 cs = some (D, Q)) (hs : Sz 23 D) : ∃ x : Ent, cs = entV x ∧ EntIn x := by
  obtain ⟨xs, n, rfl, hx, _, hxl, hg⟩ := DataW.trod_struct Try.underlying23 h
  obtain ⟨c0, c1, c2, c3, rfl⟩ : ∃ a b c d, cs = [a, b, c, d] := by
    match cs, hl with
    | [a, b, c, d], _ => exact ⟨a, b, c, d, rfl⟩
  match xs, hxl with
  | [y0, y1, y2, y3], _ =>
    injection hx with hx1 hx2
    have k0 : Try.prog.cellsOf 3 = 1 := by kernel_rfl
    have k1 : Try.prog.cellsOf 2 = 1 := by kernel_rfl
    have k2 : Try.prog.cellsOf 9 = 1 := by kernel_rfl
    have h0 : DataW.trod enc Try.prog w base spare held n 3 (([c0, c1, c2, c3].drop 0).take (Try.prog.cellsOf 3)) = some y0 := hg 0 _ rfl
    rw [k0] at h0
    have h1 : DataW.trod enc Try.prog w base spare held n 2 (([c0, c1, c2, c3].drop 1).take (Try.prog.cellsOf 2)) = some y1 := hg 1 _ rfl
    rw [k1] at h1
    have h2 : DataW.trod enc Try.prog w base spare held n 3 (([c0, c1, c2, c3].drop 2).take (Try.prog.cellsOf 3)) = some y2 := hg 2 _ rfl
    rw [k0] at h2
    have h3 : DataW.trod enc Try.prog w base spare held n 9 (([c0, c1, c2, c3].drop 3).take (Try.prog.cellsOf 9)) = some y3 := hg 3 _ rfl
    rw [k2] at h3
    obtain ⟨n0, e0, _, w0⟩ := DataW.trod_int Try.underlying3 h0
    obtain ⟨n1, e1, _, w1⟩ := DataW.trod_int Try.underlying2 h1
    obtain ⟨n2, e2, _, w2⟩ := DataW.trod_int Try.underlying3 h2
    obtain ⟨s, e3, e4, _⟩ := DataW.trod_string Try.underlying9 h3
    simp only [List.drop, List.take, List.cons.injEq, and_true] at e0 e1 e2 e3
    subst e0 e1 e2 e3
    obtain ⟨l, rfl, hll⟩ := str_list s
    refine ⟨(n0, n1, n2, l), rfl, ⟨wf_i64 w0, wf_i64 w1, wf_i64 w2⟩, ?_⟩
    subst hx1
    have hz := Sz.field hs Try.underlying23 (i := 3) rfl rfl
    rw [e4] at hz
    simpa using hz.str
theorem open_ents {H : Type} {enc : TypeId × Value → H} {W : World} {base0 : Nat} {v : Value} {d : DataW H} {p : List MemPlace} (hv : Value.okWide Try.prog W .any base0 31 v) (h : DataW.Trod enc Try.prog W 0 (fun _ => true) true 31 v d p) (hs : Sz 31 d) :
    ∃ xs : List Ent, xs.length ≤ 140737488351232 ∧ (∀ x ∈ xs, EntIn x) ∧ Rd W W.heap.size 4 v xs.length (entsV xs) := by
  obtain ⟨a0, len0, cap0, rfl⟩ := okWide_slice Try.underlying31 hv
  obtain ⟨fuel, hf⟩ := h
  obtain ⟨v', xs, h1, h2, h3, h4⟩ := open_list Try.underlying31 (by kernel_rfl) (by decide) entV_len hf hs (good := EntIn) (fun N cs' D Q hl ht hsz => ent_of N cs' D Q hl ht hsz)
  simp only [Value.cells, List.cons.injEq, and_true] at h1
  have hb : Try.prog.bytesOf 23 = 40 := by kernel_rfl
  rw [hb] at h2
  subst h1
  exact ⟨xs, by omega, h3, h4⟩
end Go.Proofs.Ytngmdhdncfbdjaa

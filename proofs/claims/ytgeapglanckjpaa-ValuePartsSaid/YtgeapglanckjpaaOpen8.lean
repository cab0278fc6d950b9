/- Drafts of values that come in. No condition. -/
import Derived.Test.YtgeapglanckjpaaGS
namespace Go.Proofs.Ytgeapglanckjpaa
open Go.ChangeShapes Go.WideShapes Go.ChangeAt Go.RowKit Go.Joins
def byteV (b : UInt8) : List Value := [B8 b]
theorem byteV_len (b : UInt8) : (byteV b).length = 1 := rfl
theorem bytes_flat (l : List UInt8) : l.flatMap byteV = l.map B8 := by
 induction l with
 | nil => rfl
 | cons a r ih => rw [List.flatMap_cons, List.map_cons, ih]; rfl
section
variable {H : Type} {enc : TypeId × Value → H} {w : World} {base : Nat} {spare : Nat → Bool} {held : Bool}
set_option maxRecDepth 100000 in
theorem byte_of (N : Nat) (cs : List Value) (D : DataW H) (Q : List MemPlace) (hl : cs.length = 1)
  (h : DataW.trod enc Try.prog w base spare held N 5 cs = some (D, Q)) : ∃ x : UInt8, cs = byteV x ∧ True := by
 obtain ⟨c0, rfl⟩ : ∃ a, cs = [a] := by
  match cs, hl with
  | [a], _ => exact ⟨a, rfl⟩
 obtain ⟨n0, e0, _, w0⟩ := DataW.trod_int Try.underlying5 h
 obtain ⟨m0, rfl, b0⟩ := wf_u8n w0
 refine ⟨UInt8.ofNat m0, ?_, trivial⟩
 simp only [List.cons.injEq, and_true] at e0
 subst e0
 unfold byteV B8
 rw [UInt8.toNat_ofNat_of_lt' b0]
set_option maxRecDepth 100000 in
theorem draft7_of (N : Nat) (cs : List Value) (D : DataW H) (Q : List MemPlace) (hl : cs.length = 1)
  (h : DataW.trod enc Try.prog w base spare held N 24 cs = some (D, Q)) (hs : Sz 24 D) : ∃ (xs : List Nod) (vn : Value), cs = [vn] ∧ xs.length ≤ 140737488351232 ∧ RdNods w w.heap.size vn xs := by
 obtain ⟨xs, n, rfl, hx, _, hxl, hg⟩ := DataW.trod_struct Try.underlying24 h
 match xs, hxl with
 | [y0], _ =>
  injection hx with hx1 hx2
  have h0 : DataW.trod enc Try.prog w base spare held n 22 ((cs.drop 0).take (Try.prog.cellsOf 22)) = some y0 := hg 0 _ rfl
  have k0 : Try.prog.cellsOf 22 = 1 := by kernel_rfl
  subst hx1
  have sz0 := Sz.field hs Try.underlying24 (i := 0) rfl rfl
  obtain ⟨vn, ns, e, l, r⟩ := nods_of h0 sz0
  refine ⟨ns, vn, ?_, l, r⟩
  rw [k0, List.drop_zero, List.take_of_length_le (by omega)] at e
  exact e
end
set_option maxRecDepth 100000 in
theorem open_draft8 {H : Type} {enc : TypeId × Value → H} {W : World} {base0 : Nat} {v : Value} {d : DataW H} {p : List MemPlace} (hv : Value.okWide Try.prog W .any base0 27 v) (h : DataW.Trod enc Try.prog W 0 (fun _ => true) true 27 v d p) (hs : Sz 27 d) :
  ∃ (xs : List Nod) (vn : Value) (t : Nat) (l : List UInt8) (vl : Value), v = .agg #[vn, .int .u8 t, vl] ∧ t < 256 ∧ l.length ≤ 140737488351232 ∧ xs.length ≤ 140737488351232 ∧ RdNods W W.heap.size vn xs ∧ Rd W W.heap.size 1 vl l.length (l.map B8) := by
 obtain ⟨cs, rfl, hsz⟩ := okWide_struct Try.underlying27 hv
 obtain ⟨fuel, hf⟩ := h
 have hC : Try.prog.cellsOf 27 = 3 := by kernel_rfl
 have hl : cs.toList.length = 3 := by simpa [hC] using hsz
 obtain ⟨xs, n, rfl, hx, _, hxl, hg⟩ := DataW.trod_struct Try.underlying27 hf
 have hce : (Value.agg cs).cells.toList = cs.toList := rfl
 rw [hce] at hg
 obtain ⟨c0, c1, c2, hcs⟩ : ∃ a b c, cs.toList = [a, b, c] := by
  match hcl : cs.toList, hl with
  | [a, b, c], _ => exact ⟨a, b, c, rfl⟩
 rw [hcs] at hg
 match xs, hxl with
 | [y0, y1, y2], _ =>
  injection hx with hx1 hx2
  have k0 : Try.prog.cellsOf 24 = 1 := by kernel_rfl
  have k1 : Try.prog.cellsOf 5 = 1 := by kernel_rfl
  have k2 : Try.prog.cellsOf 25 = 1 := by kernel_rfl
  have h0 : DataW.trod enc Try.prog W 0 (fun _ => true) true n 24 (([c0, c1, c2].drop 0).take (Try.prog.cellsOf 24)) = some y0 := hg 0 _ rfl
  have h1 : DataW.trod enc Try.prog W 0 (fun _ => true) true n 5 (([c0, c1, c2].drop 1).take (Try.prog.cellsOf 5)) = some y1 := hg 1 _ rfl
  have h2 : DataW.trod enc Try.prog W 0 (fun _ => true) true n 25 (([c0, c1, c2].drop 2).take (Try.prog.cellsOf 25)) = some y2 := hg 2 _ rfl
  rw [k0] at h0
  rw [k1] at h1
  rw [k2] at h2
  subst hx1
  have sz0 := Sz.field hs Try.underlying27 (i := 0) rfl rfl
  have sz2 := Sz.field hs Try.underlying27 (i := 2) rfl rfl
  obtain ⟨ns, vn, e0, l0, r0⟩ := draft7_of n _ y0.1 y0.2 (by simp) h0 sz0
  obtain ⟨n1, e1, _, w1⟩ := DataW.trod_int Try.underlying5 h1
  obtain ⟨m1, rfl, b1⟩ := wf_u8n w1
  obtain ⟨vl, l, el, ll, gl, rl⟩ := open_list Try.underlying25 (size := 1) (by kernel_rfl) (by decide) byteV_len h2 sz2 (good := fun _ => True) (fun N cs' D Q hl ht _ => byte_of N cs' D Q hl ht)
  have hbb : Try.prog.bytesOf 5 = 1 := by kernel_rfl
  rw [hbb] at ll
  rw [bytes_flat] at rl
  simp only [List.drop, List.take, List.cons.injEq, and_true] at e0 e1 el
  subst e0 e1 el
  refine ⟨ns, _, m1, l, _, ?_, b1, by omega, l0, r0, rl⟩
  congr 1
  apply Array.toList_inj.1
  exact hcs
end Go.Proofs.Ytgeapglanckjpaa

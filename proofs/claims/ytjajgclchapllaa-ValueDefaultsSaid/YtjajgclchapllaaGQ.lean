/- Schemas that come in. What sheaveref07.size and Few return: some number, some bool. No condition. -/
import Derived.Test.YtjajgclchapllaaGD
import Derived.Test.YtjajgclchapllaaValid
namespace Go.Proofs.Ytjajgclchapllaa
open Go.ChangeShapes Go.WideShapes Go.ChangeAt Go.RowKit Go.Joins
section
variable {H : Type} {enc : TypeId × Value → H} {w : World} {base : Nat} {spare : Nat → Bool} {held : Bool}
set_option maxRecDepth 100000 in
theorem sym_of (N : Nat) (cs : List Value) (D : DataW H) (Q : List MemPlace) (hl : cs.length = 2)
  (h : DataW.trod enc Try.prog w base spare held N 84 cs = some (D, Q)) (hs : Sz 84 D) : ∃ x : Raw, cs = rawV x ∧ RawIn x := by
 obtain ⟨xs, n, rfl, hx, _, hxl, hg⟩ := DataW.trod_struct Try.underlying84 h
 obtain ⟨c0, c1, rfl⟩ : ∃ c0 c1, cs = [c0, c1] := by
  match cs, hl with
  | [c0, c1], _ => exact ⟨c0, c1, rfl⟩
 match xs, hxl with
 | [y0, y1], _ =>
  injection hx with hx1 hx2
  have k0 : Try.prog.cellsOf 3 = 1 := by kernel_rfl
  have h0 : DataW.trod enc Try.prog w base spare held n 3 (([c0, c1].drop 0).take (Try.prog.cellsOf 3)) = some y0 := hg 0 _ rfl
  rw [k0] at h0
  have k1 : Try.prog.cellsOf 9 = 1 := by kernel_rfl
  have h1 : DataW.trod enc Try.prog w base spare held n 9 (([c0, c1].drop 1).take (Try.prog.cellsOf 9)) = some y1 := hg 1 _ rfl
  rw [k1] at h1
  obtain ⟨n0, e0, _, w0⟩ := DataW.trod_int Try.underlying3 h0
  obtain ⟨s1, e1, e1', _⟩ := DataW.trod_string Try.underlying9 h1
  subst hx1
  have sz1 := Sz.field hs Try.underlying84 (i := 1) rfl rfl
  simp only [List.drop, List.take, List.cons.injEq, and_true] at e0 e1
  subst e0 e1
  obtain ⟨l1, rfl, hll1⟩ := str_list s1
  have hsl1 : l1.length ≤ 140737488351232 := by
   rw [e1'] at sz1
   simpa using sz1.str
  exact ⟨(n0, l1), rfl, wf_i64 w0, hsl1⟩
set_option maxRecDepth 100000 in
theorem mem_of (N : Nat) (cs : List Value) (D : DataW H) (Q : List MemPlace) (hl : cs.length = 13)
  (h : DataW.trod enc Try.prog w base spare held N 69 cs = some (D, Q)) (hs : Sz 69 D) : ∃ m : Mem, RdMem w w.heap.size m cs := by
 obtain ⟨xs, n, rfl, hx, _, hxl, hg⟩ := DataW.trod_struct Try.underlying69 h
 obtain ⟨c0, c1, c2, c3, c4, c5, c6, c7, c8, c9, c10, c11, c12, rfl⟩ : ∃ c0 c1 c2 c3 c4 c5 c6 c7 c8 c9 c10 c11 c12, cs = [c0, c1, c2, c3, c4, c5, c6, c7, c8, c9, c10, c11, c12] := by
  match cs, hl with
  | [c0, c1, c2, c3, c4, c5, c6, c7, c8, c9, c10, c11, c12], _ => exact ⟨c0, c1, c2, c3, c4, c5, c6, c7, c8, c9, c10, c11, c12, rfl⟩
 match xs, hxl with
 | [y0, y1, y2, y3, y4, y5], _ =>
  injection hx with hx1 hx2
  have k0 : Try.prog.cellsOf 3 = 1 := by kernel_rfl
  have h0 : DataW.trod enc Try.prog w base spare held n 3 (([c0, c1, c2, c3, c4, c5, c6, c7, c8, c9, c10, c11, c12].drop 0).take (Try.prog.cellsOf 3)) = some y0 := hg 0 _ rfl
  rw [k0] at h0
  have k1 : Try.prog.cellsOf 9 = 1 := by kernel_rfl
  have h1 : DataW.trod enc Try.prog w base spare held n 9 (([c0, c1, c2, c3, c4, c5, c6, c7, c8, c9, c10, c11, c12].drop 1).take (Try.prog.cellsOf 9)) = some y1 := hg 1 _ rfl
  rw [k1] at h1
  have k2 : Try.prog.cellsOf 3 = 1 := by kernel_rfl
  have h2 : DataW.trod enc Try.prog w base spare held n 3 (([c0, c1, c2, c3, c4, c5, c6, c7, c8, c9, c10, c11, c12].drop 2).take (Try.prog.cellsOf 3)) = some y2 := hg 2 _ rfl
  rw [k2] at h2
  have k3 : Try.prog.cellsOf 4 = 1 := by kernel_rfl
  have h3 : DataW.trod enc Try.prog w base spare held n 4 (([c0, c1, c2, c3, c4, c5, c6, c7, c8, c9, c10, c11, c12].drop 3).take (Try.prog.cellsOf 4)) = some y3 := hg 3 _ rfl
  rw [k3] at h3
  have k4 : Try.prog.cellsOf 4 = 1 := by kernel_rfl
  have h4 : DataW.trod enc Try.prog w base spare held n 4 (([c0, c1, c2, c3, c4, c5, c6, c7, c8, c9, c10, c11, c12].drop 4).take (Try.prog.cellsOf 4)) = some y4 := hg 4 _ rfl
  rw [k4] at h4
  have k5 : Try.prog.cellsOf 34 = 8 := by kernel_rfl
  have h5 : DataW.trod enc Try.prog w base spare held n 34 (([c0, c1, c2, c3, c4, c5, c6, c7, c8, c9, c10, c11, c12].drop 5).take (Try.prog.cellsOf 34)) = some y5 := hg 5 _ rfl
  rw [k5] at h5
  obtain ⟨n0, e0, _, w0⟩ := DataW.trod_int Try.underlying3 h0
  obtain ⟨s1, e1, e1', _⟩ := DataW.trod_string Try.underlying9 h1
  obtain ⟨n2, e2, _, w2⟩ := DataW.trod_int Try.underlying3 h2
  obtain ⟨n3, e3, _⟩ := DataW.trod_bool Try.underlying4 h3
  obtain ⟨n4, e4, _⟩ := DataW.trod_bool Try.underlying4 h4
  subst hx1
  have sz1 := Sz.field hs Try.underlying69 (i := 1) rfl rfl
  have sz5 := Sz.field hs Try.underlying69 (i := 5) rfl rfl
  obtain ⟨y, hy⟩ := val_of _ n _ y5.1 y5.2 (Nat.lt_succ_self _) rfl h5 sz5
  obtain ⟨vk, vi, vr, hcs, hva⟩ := hy.inv
  have hcs2 : [c5, c6, c7, c8, c9, c10, c11, c12] = valV y vk vi vr := hcs
  simp only [List.drop, List.take, List.cons.injEq, and_true] at e0 e1 e2 e3 e4
  subst e0 e1 e2 e3 e4
  obtain ⟨l1, rfl, hll1⟩ := str_list s1
  have hsl1 : l1.length ≤ 140737488351232 := by
   rw [e1'] at sz1
   simpa using sz1.str
  refine ⟨⟨n0, l1, n2, n3, n4, y⟩, vk, vi, vr, ?_, ⟨wf_i64 w0, wf_i64 w2⟩, hsl1, hva⟩
  unfold memV
  rw [← hcs2]
  rfl
set_option maxRecDepth 100000 in
theorem mems_of {fuel : Nat} {cs : List Value} {x : DataW H × List MemPlace} (h : DataW.trod enc Try.prog w base spare held fuel 65 cs = some x) (hs : Sz 65 x.1) :
  ∃ (v : Value) (xs : List Mem), cs = [v] ∧ xs.length ≤ 6000000000000 ∧ RdMems w w.heap.size v xs := by
 obtain ⟨A, len, cap, rfl, hl, hb, hrow⟩ := open_rowsV Try.underlying65 (size := 13) (by kernel_rfl) (by decide) h hs
 have hbb : Try.prog.bytesOf 69 = 160 := by kernel_rfl
 rw [hbb] at hb
 rcases hrow with rfl | ⟨b, o, rfl, hlt, N, D, Pl, hi⟩
 ·
  exact ⟨_, [], rfl, by simp, fun _ => [], ⟨A, cap, rfl, hl, .inl rfl⟩, fun i h => by simp at h⟩
 ·
  have hex : ∀ i : Nat, ∃ p : Mem × List Value, i < len → (∀ j u, p.2[j]? = some u → w.cell? ⟨b, o + i * 13 + j, none⟩ = some u) ∧ RdMem w w.heap.size p.1 p.2 := by
   intro i
   by_cases h0 : i < len
   ·
    obtain ⟨cs', h1, h2, h3, h4, h5⟩ := hi i h0
    obtain ⟨y, hy⟩ := mem_of N cs' (D i) (Pl i) h1 h3 h4
    exact ⟨(y, cs'), fun _ => ⟨h2, hy⟩⟩
   ·
    exact ⟨(⟨0, [], 0, false, false, val0⟩, []), fun h => absurd h h0⟩
  obtain ⟨F, hF⟩ := Classical.axiomOfChoice hex
  refine ⟨_, (List.range len).map (fun i => (F i).1), rfl, by simp; omega, fun i => (F i).2, ⟨_, cap, by simp, by simpa using hl, .inr ⟨b, o, rfl, hlt, fun i h0 => (hF i (by simpa using h0)).1⟩⟩, fun i h0 => ?_⟩
  have h1 : i < len := by simpa using h0
  simpa using (hF i h1).2
set_option maxRecDepth 100000 in
theorem typ_of (N : Nat) (cs : List Value) (D : DataW H) (Q : List MemPlace) (hl : cs.length = 10)
  (h : DataW.trod enc Try.prog w base spare held N 67 cs = some (D, Q)) (hs : Sz 67 D) : ∃ (x : Typ) (vs vm : Value), cs = typV x vs vm ∧ TypAt w w.heap.size x vs vm ∧ x.syms.length ≤ 6000000000000 ∧ x.mems.length ≤ 6000000000000 := by
 obtain ⟨xs, n, rfl, hx, _, hxl, hg⟩ := DataW.trod_struct Try.underlying67 h
 obtain ⟨c0, c1, c2, c3, c4, c5, c6, c7, c8, c9, rfl⟩ : ∃ c0 c1 c2 c3 c4 c5 c6 c7 c8 c9, cs = [c0, c1, c2, c3, c4, c5, c6, c7, c8, c9] := by
  match cs, hl with
  | [c0, c1, c2, c3, c4, c5, c6, c7, c8, c9], _ => exact ⟨c0, c1, c2, c3, c4, c5, c6, c7, c8, c9, rfl⟩
 match xs, hxl with
 | [y0, y1, y2, y3, y4, y5, y6, y7, y8, y9], _ =>
  injection hx with hx1 hx2
  have k0 : Try.prog.cellsOf 3 = 1 := by kernel_rfl
  have h0 : DataW.trod enc Try.prog w base spare held n 3 (([c0, c1, c2, c3, c4, c5, c6, c7, c8, c9].drop 0).take (Try.prog.cellsOf 3)) = some y0 := hg 0 _ rfl
  rw [k0] at h0
  have k1 : Try.prog.cellsOf 9 = 1 := by kernel_rfl
  have h1 : DataW.trod enc Try.prog w base spare held n 9 (([c0, c1, c2, c3, c4, c5, c6, c7, c8, c9].drop 1).take (Try.prog.cellsOf 9)) = some y1 := hg 1 _ rfl
  rw [k1] at h1
  have k2 : Try.prog.cellsOf 2 = 1 := by kernel_rfl
  have h2 : DataW.trod enc Try.prog w base spare held n 2 (([c0, c1, c2, c3, c4, c5, c6, c7, c8, c9].drop 2).take (Try.prog.cellsOf 2)) = some y2 := hg 2 _ rfl
  rw [k2] at h2
  have k3 : Try.prog.cellsOf 2 = 1 := by kernel_rfl
  have h3 : DataW.trod enc Try.prog w base spare held n 2 (([c0, c1, c2, c3, c4, c5, c6, c7, c8, c9].drop 3).take (Try.prog.cellsOf 2)) = some y3 := hg 3 _ rfl
  rw [k3] at h3
  have k4 : Try.prog.cellsOf 3 = 1 := by kernel_rfl
  have h4 : DataW.trod enc Try.prog w base spare held n 3 (([c0, c1, c2, c3, c4, c5, c6, c7, c8, c9].drop 4).take (Try.prog.cellsOf 3)) = some y4 := hg 4 _ rfl
  rw [k4] at h4
  have k5 : Try.prog.cellsOf 64 = 1 := by kernel_rfl
  have h5 : DataW.trod enc Try.prog w base spare held n 64 (([c0, c1, c2, c3, c4, c5, c6, c7, c8, c9].drop 5).take (Try.prog.cellsOf 64)) = some y5 := hg 5 _ rfl
  rw [k5] at h5
  have k6 : Try.prog.cellsOf 65 = 1 := by kernel_rfl
  have h6 : DataW.trod enc Try.prog w base spare held n 65 (([c0, c1, c2, c3, c4, c5, c6, c7, c8, c9].drop 6).take (Try.prog.cellsOf 65)) = some y6 := hg 6 _ rfl
  rw [k6] at h6
  have k7 : Try.prog.cellsOf 3 = 1 := by kernel_rfl
  have h7 : DataW.trod enc Try.prog w base spare held n 3 (([c0, c1, c2, c3, c4, c5, c6, c7, c8, c9].drop 7).take (Try.prog.cellsOf 3)) = some y7 := hg 7 _ rfl
  rw [k7] at h7
  have k8 : Try.prog.cellsOf 3 = 1 := by kernel_rfl
  have h8 : DataW.trod enc Try.prog w base spare held n 3 (([c0, c1, c2, c3, c4, c5, c6, c7, c8, c9].drop 8).take (Try.prog.cellsOf 3)) = some y8 := hg 8 _ rfl
  rw [k8] at h8
  have k9 : Try.prog.cellsOf 4 = 1 := by kernel_rfl
  have h9 : DataW.trod enc Try.prog w base spare held n 4 (([c0, c1, c2, c3, c4, c5, c6, c7, c8, c9].drop 9).take (Try.prog.cellsOf 4)) = some y9 := hg 9 _ rfl
  rw [k9] at h9
  obtain ⟨n0, e0, _, w0⟩ := DataW.trod_int Try.underlying3 h0
  obtain ⟨s1, e1, e1', _⟩ := DataW.trod_string Try.underlying9 h1
  obtain ⟨n2, e2, _, w2⟩ := DataW.trod_int Try.underlying2 h2
  obtain ⟨n3, e3, _, w3⟩ := DataW.trod_int Try.underlying2 h3
  obtain ⟨n4, e4, _, w4⟩ := DataW.trod_int Try.underlying3 h4
  obtain ⟨n7, e7, _, w7⟩ := DataW.trod_int Try.underlying3 h7
  obtain ⟨n8, e8, _, w8⟩ := DataW.trod_int Try.underlying3 h8
  obtain ⟨n9, e9, _⟩ := DataW.trod_bool Try.underlying4 h9
  subst hx1
  have sz1 := Sz.field hs Try.underlying67 (i := 1) rfl rfl
  have sz5 := Sz.field hs Try.underlying67 (i := 5) rfl rfl
  have sz6 := Sz.field hs Try.underlying67 (i := 6) rfl rfl
  obtain ⟨vs, ss, es, ls, gs, rs⟩ := open_list Try.underlying64 (size := 2) (by kernel_rfl) (by decide) rawV_len h5 sz5 (good := RawIn) (fun N cs' D Q hl ht hsz => sym_of N cs' D Q hl ht hsz)
  have hbb : Try.prog.bytesOf 84 = 24 := by kernel_rfl
  rw [hbb] at ls
  obtain ⟨vm, ms, em, lm, rm⟩ := mems_of h6 sz6
  simp only [List.drop, List.take, List.cons.injEq, and_true] at e0 e1 e2 e3 e4 e7 e8 e9 es em
  subst e0 e1 e2 e3 e4 e7 e8 e9 es em
  obtain ⟨l1, rfl, hll1⟩ := str_list s1
  have hsl1 : l1.length ≤ 140737488351232 := by
   rw [e1'] at sz1
   simpa using sz1.str
  exact ⟨⟨n0, l1, n2, n3, n4, ss, ms, n7, n8, n9⟩, _, _, rfl, ⟨⟨wf_i64 w0, wf_i64 w2, wf_i64 w3, wf_i64 w4, wf_i64 w7, wf_i64 w8⟩, hsl1, ⟨by show ss.length ≤ _; omega, by show ms.length ≤ _; omega⟩, gs, rs, rm⟩, by show ss.length ≤ _; omega, lm⟩
set_option maxRecDepth 100000 in
theorem typs_of {fuel : Nat} {cs : List Value} {x : DataW H × List MemPlace} (h : DataW.trod enc Try.prog w base spare held fuel 28 cs = some x) (hs : Sz 28 x.1) :
  ∃ (v : Value) (xs : List Typ), cs = [v] ∧ xs.length ≤ 140737488351232 ∧ RdTyps w w.heap.size v xs ∧ Sizes xs := by
 obtain ⟨A, len, cap, rfl, hl, hb, hrow⟩ := open_rowsV Try.underlying28 (size := 10) (by kernel_rfl) (by decide) h hs
 have hbb : 0 < Try.prog.bytesOf 67 := by
  rw [show Try.prog.bytesOf 67 = 120 by kernel_rfl]; omega
 have hlen : len ≤ 140737488351232 := Nat.le_trans (Nat.le_mul_of_pos_right _ hbb) hb
 rcases hrow with rfl | ⟨b, o, rfl, hlt, N, D, Pl, hi⟩
 ·
  exact ⟨_, [], rfl, by simp, ⟨fun _ => [], ⟨A, cap, rfl, hl, .inl rfl⟩, fun i h => by simp at h⟩, fun x hx => by simp at hx⟩
 ·
  have hex : ∀ i : Nat, ∃ p : Typ × List Value, i < len → (∀ j u, p.2[j]? = some u → w.cell? ⟨b, o + i * 10 + j, none⟩ = some u) ∧ ∃ vs vm, p.2 = typV p.1 vs vm ∧ TypAt w w.heap.size p.1 vs vm ∧ p.1.syms.length ≤ 6000000000000 ∧ p.1.mems.length ≤ 6000000000000 := by
   intro i
   by_cases h0 : i < len
   ·
    obtain ⟨cs', h1, h2, h3, h4, _⟩ := hi i h0
    obtain ⟨y, vs, vm, hy, hn⟩ := typ_of N cs' (D i) (Pl i) h1 h3 h4
    exact ⟨(y, cs'), fun _ => ⟨h2, vs, vm, hy, hn⟩⟩
   ·
    exact ⟨(typZ, []), fun h => absurd h h0⟩
  obtain ⟨F, hF⟩ := Classical.axiomOfChoice hex
  refine ⟨_, (List.range len).map (fun i => (F i).1), rfl, by simpa using hlen, ⟨fun i => (F i).2, ⟨_, cap, by simp, by simpa using hl, .inr ⟨b, o, rfl, hlt, fun i h0 => (hF i (by simpa using h0)).1⟩⟩, fun i h0 => ?_⟩, fun x hx => ?_⟩
  ·
   have h1 : i < len := by simpa using h0
   obtain ⟨vs, vm, h2, h3, _⟩ := (hF i h1).2
   exact ⟨vs, vm, by simpa using h2, by simpa using h3⟩
  ·
   obtain ⟨i, hi2, rfl⟩ := List.mem_map.1 hx
   obtain ⟨vs, vm, h2, h3, h4⟩ := (hF i (by simpa using hi2)).2
   exact h4
end
set_option maxRecDepth 100000 in
theorem open_schema {H : Type} {enc : TypeId × Value → H} {W : World} {base0 : Nat} {v : Value} {d : DataW H} {p : List MemPlace} (hv : Value.okWide Try.prog W .any base0 30 v) (h : DataW.Trod enc Try.prog W 0 (fun _ => true) true 30 v d p) (hs : Sz 30 d) :
  ∃ (ts : List Typ) (A : Option Addr) (c : Nat), v = .agg #[.slice A ts.length c] ∧ Sizes ts ∧ RdTyps W W.heap.size (.slice A ts.length c) ts := by
 obtain ⟨cs, rfl, hsz⟩ := okWide_struct Try.underlying30 hv
 obtain ⟨fuel, hf⟩ := h
 have hC : Try.prog.cellsOf 30 = 1 := by kernel_rfl
 obtain ⟨xs, n, rfl, hx, _, hxl, hg⟩ := DataW.trod_struct Try.underlying30 hf
 match xs, hxl with
 | [y0], _ =>
  injection hx with hx1 hx2
  have k0 : Try.prog.cellsOf 28 = 1 := by kernel_rfl
  have h0 : DataW.trod enc Try.prog W 0 (fun _ => true) true n 28 (((Value.agg cs).cells.toList.drop 0).take (Try.prog.cellsOf 28)) = some y0 := hg 0 _ rfl
  subst hx1
  have sz0 := Sz.field hs Try.underlying30 (i := 0) rfl rfl
  obtain ⟨vn, ts, e, _, r, hz⟩ := typs_of h0 sz0
  obtain ⟨A, c, rfl, _⟩ := r.form
  refine ⟨ts, A, c, ?_, hz, r⟩
  rw [k0] at e
  have hl : cs.toList.length = 1 := by simpa [hC] using hsz
  congr 1
  apply Array.toList_inj.1
  simp only [Value.cells, List.drop_zero] at e
  rw [List.take_of_length_le (by omega)] at e
  exact e
end Go.Proofs.Ytjajgclchapllaa
namespace Go.Proofs.Ytjajgclchapllaa
open Go.ChangeShapes Go.WideShapes Go.ChangeAt Go.RowKit
def SomeI (w : World) (e : Ending) (w' : World) : Prop := (∃ n : Int, e = .returned (.int .i64 n)) ∧ Below w.heap.size w w'
def SomeB (w : World) (e : Ending) (w' : World) : Prop := (∃ b : Bool, e = .returned (.bool b)) ∧ Below w.heap.size w w'
set_option maxRecDepth 100000 in
set_option maxHeartbeats 1600000 in
theorem rsz_any : ∀ (N : Nat) (x : Val) (vk vi vr : Value) (w : World), nodes x ≤ N → ValAt w w.heap.size x vk vi vr → Calls Try.prog 37 #[valA x vk vi vr] w (SomeI w) := by
 intro N
 induction N with
 | zero => intro x vk vi vr w h; have := nodes_pos x; omega
 | succ N ih =>
  intro x vk vi vr w hN hv
  have hle := hv.lens
  have hsl := hv.strl
  have HRW := Lib.hid hv.raws
  obtain ⟨A1, n1, A2, n2, A3, n3, rfl, rfl, rfl, -, -, -⟩ := hv.forms
  have hnn : nodesL x.keys + nodesL x.items ≤ N := by have := nodes_eq x; omega
  have HV := Lib.hid hv
  have IH := Lib.hid ih
  clear hv ih hN
  go_enter Try.func37, Try.ntmps37
  go_upto_region 1 with fail
  have hb22 := below_al (Below.refl w.heap.size w) (Nat.le_refl _) (.cells #[.int .i64 x.kind, .bool x.bool, .int .i64 x.num, .string ⟨x.str.toArray⟩, .int .i64 x.id, .slice A1 x.keys.length n1, .slice A2 x.items.length n2, .slice A3 x.rest.length n3] 34)
  have V := Has.made w 34 #[.int .i64 x.kind, .bool x.bool, .int .i64 x.num, .string ⟨x.str.toArray⟩, .int .i64 x.id, .slice A1 x.keys.length n1, .slice A2 x.items.length n2, .slice A3 x.rest.length n3]
  have hw23 := hb22
  replace V := Lib.hid V
  clear hb22
  generalize (w.alloc (.cells #[.int .i64 x.kind, .bool x.bool, .int .i64 x.num, .string ⟨x.str.toArray⟩, .int .i64 x.id, .slice A1 x.keys.length n1, .slice A2 x.items.length n2, .slice A3 x.rest.length n3] 34)) = wd24 at *
  have cV_3 : wd24.cell? ⟨w.heap.size, 3, none⟩ = some (.string ⟨x.str.toArray⟩) := V.out.cell 3
  have HV0 := Lib.hid V.out
  have hB0 := hw23
  go_wp2_with fail
  clear cV_3
  go_loopw [3, 4] (fun m i wr => ∃ (k : Nat) (a : Int), k ≤ x.keys.length ∧ i = .int .i64 k ∧ m = .int .i64 a ∧ Has wr w.heap.size 34 #[.int .i64 x.kind, .bool x.bool, .int .i64 x.num, .string ⟨x.str.toArray⟩, .int .i64 x.id, .slice A1 x.keys.length n1, .slice A2 x.items.length n2, .slice A3 x.rest.length n3] ∧ Below w.heap.size w wr) (fun _ i _ => x.keys.length - (intOf i).toNat)
  case atStart => exact ⟨0, _, by omega, rfl, rfl, HV0.out, hB0⟩
  case round =>
   clear V HV0 hB0
   obtain ⟨k, a, hk, rfl, rfl, V, hb⟩ := hrel
   replace V := Lib.hid V
   by_cases hlt : k < x.keys.length
   ·
    obtain ⟨b, o, hA, hbb, hel⟩ := (HV.out.on hb).keys.elem (by omega)
    obtain ⟨yk, yi, yr, hcells, hva⟩ := hel k hlt
    have hny := nodesL_mem x.keys x.keys[k] (List.getElem_mem hlt)
    generalize x.keys[k] = y at *
    obtain ⟨B1, k1, B2, k2, B3, k3, rfl, rfl, rfl, -, -, -⟩ := hva.forms
    obtain ⟨d0, d1, d2, d3, d4, d5, d6, d7⟩ := hcells
    have HA := Lib.hid hva
    have hk1 : (k : Int) < x.keys.length := by omega
    clear hel hva
    have cV_5 : wr.cell? ⟨w.heap.size, 5, none⟩ = some (.slice A1 x.keys.length n1) := V.out.cell 5
    go_wp2_with fail
    clear cV_5
    ((with_reducible refine (IH.out y _ _ _ _ (by omega) HA.out).mono ?_); rintro e wd25 ⟨⟨z, rfl⟩, hb26⟩)
    replace V := Lib.hid (V.out.below hb26 V.out.here)
    replace hb := hb.trans (hb26.mono hb.size)
    clear hb26
    clear d0 d1 d2 d3 d4 d5 d6 d7 hA
    go_wp2_with fail
    go_roundw
    case rel => exact ⟨k + 1, _, by omega, by go_num, rfl, V.out, hb⟩
    case measure => simp [intOf]; omega
   ·
    obtain rfl : k = x.keys.length := by omega
    have cV_5 : wr.cell? ⟨w.heap.size, 5, none⟩ = some (.slice A1 x.keys.length n1) := V.out.cell 5
    have HV0 := Lib.hid V.out
    have hB0 := hb
    go_wp2_with fail
    clear cV_5
    go_loopw [3, 5] (fun m i wr => ∃ (k : Nat) (a : Int), k ≤ x.items.length ∧ i = .int .i64 k ∧ m = .int .i64 a ∧ Has wr w.heap.size 34 #[.int .i64 x.kind, .bool x.bool, .int .i64 x.num, .string ⟨x.str.toArray⟩, .int .i64 x.id, .slice A1 x.keys.length n1, .slice A2 x.items.length n2, .slice A3 x.rest.length n3] ∧ Below w.heap.size w wr) (fun _ i _ => x.items.length - (intOf i).toNat)
    case atStart => exact ⟨0, _, by omega, rfl, rfl, HV0.out, hB0⟩
    case round =>
     clear V HV0 hB0
     obtain ⟨k, a, hk, rfl, rfl, V, hb⟩ := hrel
     replace V := Lib.hid V
     by_cases hlt : k < x.items.length
     ·
      obtain ⟨b, o, hA, hbb, hel⟩ := (HV.out.on hb).items.elem (by omega)
      obtain ⟨yk, yi, yr, hcells, hva⟩ := hel k hlt
      have hny := nodesL_mem x.items x.items[k] (List.getElem_mem hlt)
      generalize x.items[k] = y at *
      obtain ⟨B1, k1, B2, k2, B3, k3, rfl, rfl, rfl, -, -, -⟩ := hva.forms
      obtain ⟨d0, d1, d2, d3, d4, d5, d6, d7⟩ := hcells
      have HA := Lib.hid hva
      have hk1 : (k : Int) < x.items.length := by omega
      clear hel hva
      have cV_6 : wr.cell? ⟨w.heap.size, 6, none⟩ = some (.slice A2 x.items.length n2) := V.out.cell 6
      go_wp2_with fail
      clear cV_6
      ((with_reducible refine (IH.out y _ _ _ _ (by omega) HA.out).mono ?_); rintro e wd27 ⟨⟨z, rfl⟩, hb28⟩)
      replace V := Lib.hid (V.out.below hb28 V.out.here)
      replace hb := hb.trans (hb28.mono hb.size)
      clear hb28
      clear d0 d1 d2 d3 d4 d5 d6 d7 hA
      go_wp2_with fail
      go_roundw
      case rel => exact ⟨k + 1, _, by omega, by go_num, rfl, V.out, hb⟩
      case measure => simp [intOf]; omega
     ·
      obtain rfl : k = x.items.length := by omega
      have cV_6 : wr.cell? ⟨w.heap.size, 6, none⟩ = some (.slice A2 x.items.length n2) := V.out.cell 6
      have HV0 := Lib.hid V.out
      have hB0 := hb
      go_wp2_with fail
      clear cV_6
      go_loopw [3, 6] (fun m i wr => ∃ (k : Nat) (a : Int), k ≤ x.rest.length ∧ i = .int .i64 k ∧ m = .int .i64 a ∧ Has wr w.heap.size 34 #[.int .i64 x.kind, .bool x.bool, .int .i64 x.num, .string ⟨x.str.toArray⟩, .int .i64 x.id, .slice A1 x.keys.length n1, .slice A2 x.items.length n2, .slice A3 x.rest.length n3] ∧ Below w.heap.size w wr) (fun _ i _ => x.rest.length - (intOf i).toNat)
      case atStart => exact ⟨0, _, by omega, rfl, rfl, HV0.out, hB0⟩
      case round =>
       clear V HV0 hB0
       obtain ⟨k, a, hk, rfl, rfl, V, hb⟩ := hrel
       replace V := Lib.hid V
       by_cases hlt : k < x.rest.length
       ·
        obtain ⟨b, o, hA, hbb, hcell⟩ := (HV.out.on hb).rest.at_ (by omega)
        obtain ⟨d0, d1⟩ := rawV_at hcell k hlt
        have hri := (HRW.out x.rest[k] (List.getElem_mem hlt)).2
        generalize x.rest[k] = r at *
        have hk1 : (k : Int) < x.rest.length := by omega
        clear hcell
        have cV_7 : wr.cell? ⟨w.heap.size, 7, none⟩ = some (.slice A3 x.rest.length n3) := V.out.cell 7
        go_wp2_with fail
        clear hA
        go_roundw
        case rel => exact ⟨k + 1, _, by omega, by go_num, rfl, V.out, hb⟩
        case measure => simp [intOf]; omega
       ·
        obtain rfl : k = x.rest.length := by omega
        have cV_7 : wr.cell? ⟨w.heap.size, 7, none⟩ = some (.slice A3 x.rest.length n3) := V.out.cell 7
        go_wp2_with fail
        go_ret
        exact ⟨⟨_, rfl⟩, hb⟩
set_option maxRecDepth 100000 in
set_option maxHeartbeats 4000000 in
theorem few_any (ts : List Typ) (A : Option Addr) (c : Nat) (w : World) (ht : RdTyps w w.heap.size (.slice A ts.length c) ts) :
  Calls Try.prog 17 #[.agg #[.slice A ts.length c]] w (SomeB w) := by
 have HT := Lib.hid ht
 clear ht
 by_cases h40 : 40 < ts.length
 ·
  have hd : (40 : Int) < ts.length := by omega
  have hd2 : decide ((40 : Int) < ts.length) = true := decide_eq_true hd
  go_enter Try.func17, Try.ntmps17
  go_upto_region 1 with fail
  have hb29 := below_al (Below.refl w.heap.size w) (Nat.le_refl _) (.cells #[.slice A ts.length c] 30)
  have S := Has.made w 30 #[.slice A ts.length c]
  have hw30 := hb29
  replace S := Lib.hid S
  clear hb29
  generalize (w.alloc (.cells #[.slice A ts.length c] 30)) = wd31 at *
  have cS_0 : wd31.cell? ⟨w.heap.size, 0, none⟩ = some (.slice A ts.length c) := S.out.cell 0
  go_wp2_with fail
  go_ret
  exact ⟨⟨_, rfl⟩, hw30⟩
 have hd : (ts.length : Int) ≤ 40 := by omega
 have hd2 : decide ((40 : Int) < ts.length) = false := decide_eq_false (by omega)
 clear h40
 go_enter Try.func17, Try.ntmps17
 go_upto_region 1 with fail
 have hb32 := below_al (Below.refl w.heap.size w) (Nat.le_refl _) (.cells #[.slice A ts.length c] 30)
 have S := Has.made w 30 #[.slice A ts.length c]
 have hw33 := hb32
 replace S := Lib.hid S
 clear hb32
 generalize (w.alloc (.cells #[.slice A ts.length c] 30)) = wd34 at *
 have cS_0 : wd34.cell? ⟨w.heap.size, 0, none⟩ = some (.slice A ts.length c) := S.out.cell 0
 have HS0 := Lib.hid S.out
 have hB0 := hw33
 go_wp2_with fail
 clear cS_0
 go_loopw [3, 4] (fun m i wr => ∃ (j : Nat) (a : Int), j ≤ ts.length ∧ i = .int .i64 j ∧ m = .int .i64 a ∧ Has wr w.heap.size 30 #[.slice A ts.length c] ∧ Below w.heap.size w wr) (fun _ i _ => ts.length - (intOf i).toNat)
 case atStart => exact ⟨0, _, by omega, rfl, rfl, HS0.out, hB0⟩
 case round =>
  clear S HS0 hB0
  obtain ⟨j, a, hj, rfl, rfl, S, hb⟩ := hrel
  replace S := Lib.hid S
  by_cases hlt : j < ts.length
  ·
   obtain ⟨b, o, hA, hbb, hel⟩ := HT.out.elem (by omega)
   obtain ⟨vs, vm, hcells, hxa⟩ := hel j hlt
   have hi1 : (j : Int) < ts.length := by omega
   generalize ts[j] = x at *
   obtain ⟨C1, m1, C2, m2, rfl, rfl, -, -⟩ := hxa.forms
   obtain ⟨c0, c1, c2, c3, c4, c5, c6, c7, c8, c9⟩ := hcells.below hb hbb
   have hls := hxa.lens
   have hnl := hxa.namel
   have HXA := Lib.hid hxa
   clear hxa hel hcells
   have cS_0 : wr.cell? ⟨w.heap.size, 0, none⟩ = some (.slice A ts.length c) := S.out.cell 0
   go_upto_region 8 with fail
   clear cS_0
   have hb35 := below_al (Below.refl wr.heap.size wr) (Nat.le_refl _) (.cells #[.int .i64 x.kind, .string ⟨x.name.toArray⟩, .int .i64 x.low, .int .i64 x.high, .int .i64 x.max, .slice C1 x.syms.length m1, .slice C2 x.mems.length m2, .int .i64 x.key, .int .i64 x.elem, .bool x.opn] 67)
   have X := Has.made wr 67 #[.int .i64 x.kind, .string ⟨x.name.toArray⟩, .int .i64 x.low, .int .i64 x.high, .int .i64 x.max, .slice C1 x.syms.length m1, .slice C2 x.mems.length m2, .int .i64 x.key, .int .i64 x.elem, .bool x.opn]
   have hl37 := S.out.here
   have hl38 := hb.size
   replace S := Lib.hid (S.out.below hb35 S.out.here)
   replace hb := hb.trans (hb35.mono hb.size)
   replace X := Lib.hid X
   clear hb35
   generalize (wr.alloc (.cells #[.int .i64 x.kind, .string ⟨x.name.toArray⟩, .int .i64 x.low, .int .i64 x.high, .int .i64 x.max, .slice C1 x.syms.length m1, .slice C2 x.mems.length m2, .int .i64 x.key, .int .i64 x.elem, .bool x.opn] 67)) = wd39 at *
   generalize wr.heap.size = g36 at *
   clear c0 c1 c2 c3 c4 c5 c6 c7 c8 c9 hA
   obtain ⟨-, cX_1, -, -, -, cX_5, cX_6, -, -, -⟩ := X.out.c10
   go_wp2_with fail
   obtain ⟨gX, hgX⟩ : ∃ g, g = g36 := ⟨_, rfl⟩
   subst hgX
   have HX0 := Lib.hid X.out
   have HS0 := Lib.hid S.out
   have hB0 := hb
   clear cX_1 cX_5 cX_6
   go_loopw [3, 6] (fun m i ws => ∃ (k : Nat) (a : Int), k ≤ x.mems.length ∧ i = .int .i64 k ∧ m = .int .i64 a ∧ Has ws w.heap.size 30 #[.slice A ts.length c] ∧ Has ws gX 67 #[.int .i64 x.kind, .string ⟨x.name.toArray⟩, .int .i64 x.low, .int .i64 x.high, .int .i64 x.max, .slice C1 x.syms.length m1, .slice C2 x.mems.length m2, .int .i64 x.key, .int .i64 x.elem, .bool x.opn] ∧ Below w.heap.size w ws) (fun _ i _ => x.mems.length - (intOf i).toNat)
   case atStart => exact ⟨0, _, by omega, rfl, rfl, HS0.out, HX0.out, hB0⟩
   case round =>
    clear X S HX0 HS0 hB0
    obtain ⟨k, a2, hk, rfl, rfl, S, X, hb2⟩ := hrel
    replace S := Lib.hid S
    replace X := Lib.hid X
    by_cases hlk : k < x.mems.length ∧ k < 100
    ·
     obtain ⟨hlk, hk100⟩ := hlk
     obtain ⟨b1, o1, rfl, hb1, hel⟩ := HXA.out.mems.elem (by omega)
     obtain ⟨dk, di, dr, hcells, hma⟩ := hel k hlk
     have hk1 : (k : Int) < x.mems.length := by omega
     have hk2 : (k : Int) < 100 := by omega
     have hk0 : (0 : Int) ≤ (k : Int) := by omega
     generalize x.mems[k] = m at *
     obtain ⟨D1, d1, D2, d2, D3, d3, rfl, rfl, rfl, -, -, -⟩ := hma.dflt.forms
     obtain ⟨y0, y1, y2, y3, y4, y5, y6, y7, y8, y9, y10, y11, y12⟩ := hcells
     have hnl := hma.namel
     have HDF := Lib.hid hma.dflt
     clear hel hma y0 y2 y3 y4
     have cX_6 : wr.cell? ⟨gX, 6, none⟩ = some (.slice (some ⟨b1, o1, none⟩) x.mems.length m2) := X.out.cell 6
     go_upto_region 12 with fail
     refine wp_region_held_drew (S := (fun w' => w'.cell? ⟨gX, 6, none⟩ = some (.slice (some ⟨b1, o1, none⟩) x.mems.length m2) ∧ (∀ (b o : Nat), b < w.heap.size → w'.cell? ⟨b, o, none⟩ = w.cell? ⟨b, o, none⟩))) (by kernel_rfl) ⟨cX_6, (fun b o hlt => hb2.cell (p := ⟨b, o, none⟩) hlt)⟩ (fun hHeld => ?_)
     clear cX_6
     have hb40 : Below wr.heap.size wr (wr.drew) := (Below.refl _ _).drew
     replace S := Lib.hid (S.out.below hb40 S.out.here)
     replace X := Lib.hid (X.out.below hb40 X.out.here)
     replace hb2 := hb2.trans (hb40.mono hb2.size)
     clear hb40
     generalize wr.drew = wd41 at *
     refine wpAnyH_take (i := 0) (v := ?vk42) rfl (by kernel_rfl) (by kernel_rfl) (by kernel_rfl) (fun _ _ _ h => h) (Or.inl ⟨by rfl, ?hk42⟩) (by assumption) ?rk42
     case hk42 => (intro w hSw; (try dsimp only at hSw); go_simp; (first | done | with_reducible rfl))
     try simp only [put_laws]
     refine wpAnyH_take (i := 1) (v := ?vk43) rfl (by kernel_rfl) (by kernel_rfl) (by kernel_rfl) (fun _ _ _ h => h) (Or.inl ⟨by rfl, ?hk43⟩) (by assumption) ?rk43
     case hk43 => (intro w hSw; (try dsimp only at hSw); go_simp; (first | done | with_reducible rfl))
     try simp only [put_laws]
     refine wpAnyH_take (i := 2) (v := ?vk44) rfl (by kernel_rfl) (by kernel_rfl) (by kernel_rfl) (fun _ _ _ h => h) (Or.inl ⟨by rfl, ?hk44⟩) (by assumption) ?rk44
     case hk44 => (intro w hSw; (try dsimp only at hSw); go_simp; (first | done | with_reducible rfl))
     try simp only [put_laws]
     refine wpAnyH_take (i := 3) (v := ?vk45) rfl (by kernel_rfl) (by kernel_rfl) (by kernel_rfl) (fun _ _ _ h => h) (Or.inl ⟨by rfl, ?hk45⟩) (by assumption) ?rk45
     case hk45 => (intro w hSw; (try dsimp only at hSw); go_simp; (first | done | with_reducible rfl))
     try simp only [put_laws]
     refine wpAnyH_take (i := 4) (v := ?vk46) rfl (by kernel_rfl) (by kernel_rfl) (by kernel_rfl) (fun _ _ _ h => h) (Or.inl ⟨by rfl, ?hk46⟩) (by assumption) ?rk46
     case hk46 => (intro w hSw; (try dsimp only at hSw); go_simp; (first | done | with_reducible rfl))
     try simp only [put_laws]
     refine wpAnyH_take (i := 5) (v := ?vk47) rfl (by kernel_rfl) (by kernel_rfl) (by kernel_rfl) (fun _ _ _ h => h) (Or.inl ⟨by rfl, ?hk47⟩) (by assumption) ?rk47
     case hk47 => (intro w hSw; (try dsimp only at hSw); go_simp; (first | done | with_reducible rfl))
     try simp only [put_laws]
     refine wpAnyH_take (i := 6) (v := ?vk48) rfl (by kernel_rfl) (by kernel_rfl) (by kernel_rfl) (fun _ _ _ h => h) (Or.inl ⟨by rfl, ?hk48⟩) (by assumption) ?rk48
     case hk48 => (intro w hSw; (try dsimp only at hSw); go_simp; (first | done | with_reducible rfl))
     try simp only [put_laws]
     refine wpAnyH_take (i := 9) (v := ?vk49) rfl (by kernel_rfl) (by kernel_rfl) (by kernel_rfl) (fun _ _ _ h => h) (Or.inl ⟨by rfl, ?hk49⟩) (by assumption) ?rk49
     case hk49 => (intro w hSw; (try dsimp only at hSw); go_simp; (first | done | with_reducible rfl))
     try simp only [put_laws]
     refine wpAnyH_take (i := 10) (v := ?vk50) rfl (by kernel_rfl) (by kernel_rfl) (by kernel_rfl) (fun _ _ _ h => h) (Or.inl ⟨by rfl, ?hk50⟩) (by assumption) ?rk50
     case hk50 => (intro w hSw; (try dsimp only at hSw); go_simp; (first | done | with_reducible rfl))
     try simp only [put_laws]
     refine wpAnyH_take (i := 11) (v := ?vk51) rfl (by kernel_rfl) (by kernel_rfl) (by kernel_rfl) (fun _ _ _ h => h) (Or.inl ⟨by rfl, ?hk51⟩) (by assumption) ?rk51
     case hk51 => (intro w hSw; (try dsimp only at hSw); go_simp; (first | done | with_reducible rfl))
     try simp only [put_laws]
     refine wpAnyH_take (i := 12) (v := ?vk52) rfl (by kernel_rfl) (by kernel_rfl) (by kernel_rfl) (fun _ _ _ h => h) (Or.inl ⟨by rfl, ?hk52⟩) (by assumption) ?rk52
     case hk52 => (intro w hSw; (try dsimp only at hSw); go_simp; (first | done | with_reducible rfl))
     try simp only [put_laws]
     refine wpAnyH_take (i := 13) (v := ?vk53) rfl (by kernel_rfl) (by kernel_rfl) (by kernel_rfl) (fun _ _ _ h => h) (Or.inl ⟨by rfl, ?hk53⟩) (by assumption) ?rk53
     case hk53 => (intro w hSw; (try dsimp only at hSw); go_simp; (first | done | with_reducible rfl))
     try simp only [put_laws]
     refine wpAnyH_take (i := 14) (v := ?vk54) rfl (by kernel_rfl) (by kernel_rfl) (by kernel_rfl) (fun _ _ _ h => h) (Or.inl ⟨by rfl, ?hk54⟩) (by assumption) ?rk54
     case hk54 => (intro w hSw; (try dsimp only at hSw); go_simp; (first | done | with_reducible rfl))
     try simp only [put_laws]
     refine wpAnyH_take (i := 15) (v := ?vk55) rfl (by kernel_rfl) (by kernel_rfl) (by kernel_rfl) (fun _ _ _ h => h) (Or.inl ⟨by rfl, ?hk55⟩) (by assumption) ?rk55
     case hk55 => (intro w hSw; (try dsimp only at hSw); go_simp; (first | done | with_reducible rfl))
     try simp only [put_laws]
     refine wpAnyH_ready (rs := [7]) (by kernel_rfl) (by simp) ?_
     refine AllReadyH.cons rfl (fun K hK => ?_) (AllReadyH.nil)
     go_simp
     ((with_reducible refine (rsz_any (nodes m.dflt) m.dflt _ _ _ _ (Nat.le_refl _) (HDF.out.on hb2)).mono ?_); rintro e wd56 ⟨⟨z, rfl⟩, hb57⟩)
     replace S := Lib.hid (S.out.below hb57 S.out.here)
     replace X := Lib.hid (X.out.below hb57 X.out.here)
     replace hb2 := hb2.trans (hb57.mono hb2.size)
     clear hb57
     try clear hHeld
     refine hK.out _ _ ⟨X.out.cell 6, (fun b o hlt => hb2.cell (p := ⟨b, o, none⟩) hlt)⟩ (fun hHeld => ?_)
     clear hK K
     refine wpAnyH_take (i := 8) (v := ?vk58) rfl (by kernel_rfl) (by kernel_rfl) (by kernel_rfl) (fun _ _ _ h => h) (Or.inl ⟨by rfl, ?hk58⟩) (by assumption) ?rk58
     case hk58 => (intro w hSw; (try dsimp only at hSw); go_simp; (first | done | with_reducible rfl))
     try simp only
     refine wpAnyH_take (i := 16) (v := ?vk59) rfl (by kernel_rfl) (by kernel_rfl) (by kernel_rfl) (fun _ _ _ h => h) (Or.inl ⟨by rfl, ?hk59⟩) (by assumption) ?rk59
     case hk59 => (intro w hSw; (try dsimp only at hSw); go_simp; (first | done | with_reducible rfl))
     try simp only [put_laws]
     refine wpAnyH_take (i := 17) (v := ?vk60) rfl (by kernel_rfl) (by kernel_rfl) (by kernel_rfl) (fun _ _ _ h => h) (Or.inl ⟨by rfl, ?hk60⟩) (by assumption) ?rk60
     case hk60 => (intro w hSw; (try dsimp only at hSw); go_simp; (first | done | with_reducible rfl))
     try simp only [put_laws]
     refine wpAnyH_done (by kernel_rfl) ?_ _
     try clear hHeld
     clear y1 y5 y6 y7 y8 y9 y10 y11 y12
     go_wp2_with fail
     go_roundw
     case rel => exact ⟨k + 1, _, by omega, by go_num, rfl, S.out, X.out, hb2⟩
     case measure => simp [intOf]; omega
    ·
     have cX_6 : wr.cell? ⟨gX, 6, none⟩ = some (.slice C2 x.mems.length m2) := X.out.cell 6
     by_cases hk3 : k < x.mems.length
     ·
      have hk1 : (k : Int) < x.mems.length := by omega
      have hk2 : ¬ (k : Int) < 100 := by omega
      go_wp2_with fail
      go_roundw
      case rel => exact ⟨j + 1, _, by omega, by go_num, rfl, S.out, hb2⟩
      case measure => simp [intOf]; omega
     ·
      have hk1 : ¬ (k : Int) < x.mems.length := by omega
      go_wp2_with fail
      go_roundw
      case rel => exact ⟨j + 1, _, by omega, by go_num, rfl, S.out, hb2⟩
      case measure => simp [intOf]; omega
  ·
   obtain rfl : j = ts.length := by omega
   have cS_0 : wr.cell? ⟨w.heap.size, 0, none⟩ = some (.slice A ts.length c) := S.out.cell 0
   go_wp2_with fail
   go_ret
   exact ⟨⟨_, rfl⟩, hb⟩
end Go.Proofs.Ytjajgclchapllaa

/- What the maker's value leaves, kinds 9 and 7. No condition. -/
import Derived.Test.YtgeapglanckjpaaValueA
import Derived.Test.YtgeapglanckjpaaPutP
import Derived.Test.YtgeapglanckjpaaPutC
set_option maxHeartbeats 1600000
namespace Go.Proofs.Ytgeapglanckjpaa
open Go.ChangeShapes Go.WideShapes Go.ChangeAt Go.RowKit
def rankT (ts : List Typ) (j : Nat) : Nat := match ts[j]? with | some x => if 7 ≤ x.kind then 0 else j + 1 | none => 0
theorem rank_le (ts : List Typ) (j : Nat) (hj : j < ts.length) : rankT ts j ≤ ts.length := by
 unfold rankT
 rw [List.getElem?_eq_getElem hj]
 show (if 7 ≤ ts[j].kind then 0 else j + 1) ≤ _
 split <;> omega
theorem rank_hollow (ts : List Typ) (j : Nat) (hj : j < ts.length) (h : 7 ≤ ts[j].kind) : rankT ts j = 0 := by
 unfold rankT
 rw [List.getElem?_eq_getElem hj]
 show (if _ then _ else _) = _
 rw [if_pos h]
theorem rank_solid (ts : List Typ) (j : Nat) (hj : j < ts.length) (h : ¬ 7 ≤ ts[j].kind) : rankT ts j = j + 1 := by
 unfold rankT
 rw [List.getElem?_eq_getElem hj]
 show (if _ then _ else _) = _
 rw [if_neg h]
structure MadeIH (B gm : Nat) (vt : Value) (odd : Bool) (ts : List Typ) (N : Nat) : Prop where
 at_ : ∀ (l : List UInt8) (j : Nat) (w : World), 7 * l.length + rankT ts j < N → j < ts.length → MkAt w B gm vt odd l → RdTyps w B vt ts →
  Calls Try.prog 40 #[.pointer (some ⟨gm, 0, none⟩), .int .i64 j] w (MadePost w B gm vt odd l fun x => fitV ts (!odd) x j = true)
theorem MadeIH.as {B gm : Nat} {vt : Value} {odd : Bool} {ts : List Typ} {N : Nat} (h : MadeIH B gm vt odd ts N) (j : Nat) (hj : j < ts.length) (e : Int) (he : e = j) (l : List UInt8) (w : World) (hm : 7 * l.length + rankT ts j < N) (h1 : MkAt w B gm vt odd l) (h2 : RdTyps w B vt ts) :
  Calls Try.prog 40 #[.pointer (some ⟨gm, 0, none⟩), .int .i64 e] w (MadePost w B gm vt odd l fun x => fitV ts (!odd) x e = true) := by
 subst he
 exact h.at_ l j w hm hj h1 h2
theorem Took.lowh {w w1 : World} {B gm : Nat} {vt : Value} {odd : Bool} {l l1 : List UInt8} (h : Took w B gm vt odd l l1 w1) (hB : B ≤ gm := by assumption) (hg : gm < w.heap.size := by assumption) : ∀ k : Nat, k < B → w1.heap[k]? = w.heap[k]? :=
 fun k hk => h.gr.block k (by omega) (fun e => by injection e; omega)
def VPB (w0 : World) (B : Nat) (S : Nat → Prop) (x : Val) (vk vi vr : Value) (w : World) : Prop := (∀ k : Nat, k < B → w.heap[k]? = w0.heap[k]?) → ValP w S x vk vi vr
theorem ValP.keptB {w0 w : World} {B L : Nat} {S : Nat → Prop} {x : Val} {vk vi vr : Value} (h : ValP w S x vk vi vr) (hS : ∀ b, S b → b < B ∨ (L ≤ b ∧ b < w.heap.size)) (hb : ∀ k : Nat, k < B → w.heap[k]? = w0.heap[k]?) : Kept (VPB w0 B S x vk vi vr) w L w.heap.size :=
 ⟨fun _ => h, fun _ hk hold => h.keep (fun p hp => World.cell?_of_block ((hS p.block hp).elim (fun h1 => (hold _ h1).trans (hb _ h1).symm) (fun h1 => hk _ h1.1 h1.2))) (fun _ h => h), Nat.le_refl _⟩
def OVB (w0 : World) (B L : Nat) (S : Nat → Prop) (v : Value) (xs : List Val) (w : World) : Prop := (∀ k : Nat, k < B → w.heap[k]? = w0.heap[k]?) → OwnVals w L S v xs
theorem OwnVals.keptB {w0 w : World} {B L : Nat} {S : Nat → Prop} {v : Value} {xs : List Val} (h : OwnVals w L S v xs) (hS : ∀ b, S b → b < B ∨ L ≤ b) (hb : ∀ k : Nat, k < B → w.heap[k]? = w0.heap[k]?) : Kept (OVB w0 B L S v xs) w L w.heap.size :=
 ⟨fun _ => h, fun _ hk hold => h.keepS fun k hs => hs.elim (fun hs => (hS k hs).elim (fun h1 => (hold k h1).trans (hb k h1).symm) (fun h1 => hk k h1 (h.sep k hs).1)) (fun hs => hk k (h.lt k hs).1 (h.lt k hs).2), Nat.le_refl _⟩
theorem one_row {w : World} {g : Nat} {T : TypeId} {S : Nat → Prop} {x : Val} {vk vi vr : Value} (hN : Has w g T (valV x vk vi vr).toArray) (hx : ValP w S x vk vi vr) (hg : S g) : RdValsP w S (.slice (some ⟨g, 0, none⟩) 1 1) [x] :=
 ⟨fun _ => valV x vk vi vr, ⟨_, _, rfl, Nat.le_refl _, .inr ⟨g, 0, rfl, hg, fun i hi j u hu => by
   obtain rfl : i = 0 := by simpa using hi
   have := hN.cell j
   rw [show 0 + 0 * 8 + j = j by omega, this]
   simpa using hu⟩⟩, fun i hi => by
  obtain rfl : i = 0 := by simpa using hi
  exact hx.rd⟩
theorem hold9 {w : World} {S : Nat → Prop} (k : Int) (id : Int) (xs : List Val) (v : Value) (hk : I64 k) (hid : I64 id) (hl : xs.length ≤ 140737488351232) (h : RdValsP w S v xs) : ValP w S (.mk k false 0 [] id [] xs []) (.slice none 0 0) v (.slice none 0 0) :=
 ⟨⟨hk, by simp [Val.num, I64], hid⟩, by simp [Val.str], ⟨by simp [Val.keys], by simpa [Val.items] using hl, by simp [Val.rest]⟩, by simp [Val.rest],
  ⟨fun _ => [], ⟨none, 0, rfl, Nat.le_refl _, .inl rfl⟩, fun i h => by simp [Val.keys] at h⟩, h, ⟨rfl, none, 0, rfl, Nat.le_refl _, .inl rfl⟩⟩
/- a call of value: the choices LL, by H -/
set_option maxRecDepth 100000 in
theorem value9_any (B gm : Nat) (A : Option Addr) (c : Nat) (odd : Bool) (l : List UInt8) (ts : List Typ) (i : Nat) (hi : i < ts.length) (w : World) (hk : ts[i].kind = 9) (j : Nat) (hj : j < ts.length) (hel0 : ts[i].elem = (j : Int)) (h6 : ts.length ≤ 6)
  (ih : MadeIH B gm (.slice A ts.length c) odd ts (7 * l.length + rankT ts i)) (hM : MkAt w B gm (.slice A ts.length c) odd l) (hT : RdTyps w B (.slice A ts.length c) ts) :
  Calls Try.prog 40 #[.pointer (some ⟨gm, 0, none⟩), .int .i64 i] w (MadePost w B gm (.slice A ts.length c) odd l fun x => fitV ts (!odd) x i = true) := by
 have HIH := Lib.hid (ih.as j hj _ hel0)
 have hrk := rank_le ts j hj
 clear hel0 ih
 have hgw := hM.here
 have hBg := hM.le
 obtain ⟨b, o, rfl, hb, hcs⟩ := hT.elem (by omega)
 obtain ⟨vs, vm, ⟨y0, y1, y2, y3, y4, y5, y6, y7, y8, y9⟩, hty⟩ := hcs i hi
 obtain ⟨C1, m1, C2, m2, rfl, rfl, -, -⟩ := hty.forms
 have hi1 : (i : Int) < ts.length := by omega
 have hi0 : (0 : Int) ≤ (i : Int) := by omega
 rw [hk] at y0
 have HM := Lib.hid hM
 have HTY := Lib.hid hty
 have HT := Lib.hid hT
 clear hcs hty hT
 obtain ⟨⟨A1, c1, M, _⟩, _, _⟩ := hM
 replace M := Lib.hid M
 have cM_0 : w.cell? ⟨gm, 0, none⟩ = some (.slice (some ⟨b, o, none⟩) ts.length c) := M.out.cell 0
 have cM_1 : w.cell? ⟨gm, 1, none⟩ = some (.slice A1 l.length c1) := M.out.cell 1
 have cM_2 : w.cell? ⟨gm, 2, none⟩ = some (.bool odd) := M.out.cell 2
 go_enter Try.func40, Try.ntmps40
 go_upto_region 1 with fail
 clear cM_0 cM_1 cM_2
 obtain ⟨wd634, hE635⟩ : ∃ ww, ww = w.alloc (.cells #[.int .i64 0, .bool false, .int .i64 0, .string ⟨#[]⟩, .int .i64 0, .slice none 0 0, .slice none 0 0, .slice none 0 0] 34) := ⟨_, rfl⟩
 rw [← hE635]
 have hb633 := aB hE635
 have R := aN hE635
 clear hE635
 replace M := dB M hb633
 have hw636 := hb633
 clear hb633
 have hbl : b < w.heap.size := by omega
 have z0 := ((hw636).cell (p := ⟨b, o + i * 10, none⟩) hbl).trans y0
 have z1 := ((hw636).cell (p := ⟨b, o + i * 10 + 1, none⟩) hbl).trans y1
 have z2 := ((hw636).cell (p := ⟨b, o + i * 10 + 2, none⟩) hbl).trans y2
 have z3 := ((hw636).cell (p := ⟨b, o + i * 10 + 3, none⟩) hbl).trans y3
 have z4 := ((hw636).cell (p := ⟨b, o + i * 10 + 4, none⟩) hbl).trans y4
 have z5 := ((hw636).cell (p := ⟨b, o + i * 10 + 5, none⟩) hbl).trans y5
 have z6 := ((hw636).cell (p := ⟨b, o + i * 10 + 6, none⟩) hbl).trans y6
 have z7 := ((hw636).cell (p := ⟨b, o + i * 10 + 7, none⟩) hbl).trans y7
 have z8 := ((hw636).cell (p := ⟨b, o + i * 10 + 8, none⟩) hbl).trans y8
 have z9 := ((hw636).cell (p := ⟨b, o + i * 10 + 9, none⟩) hbl).trans y9
 have cM_0 : wd634.cell? ⟨gm, 0, none⟩ = some (.slice (some ⟨b, o, none⟩) ts.length c) := M.out.cell 0
 have cM_1 : wd634.cell? ⟨gm, 1, none⟩ = some (.slice A1 l.length c1) := M.out.cell 1
 have cM_2 : wd634.cell? ⟨gm, 2, none⟩ = some (.bool odd) := M.out.cell 2
 go_upto_region 2 with fail
 clear cM_0 cM_1 cM_2
 obtain ⟨wd638, hE639⟩ : ∃ ww, ww = wd634.alloc (.cells #[.int .i64 9, .string ⟨ts[i].name.toArray⟩, .int .i64 ts[i].low, .int .i64 ts[i].high, .int .i64 ts[i].max, .slice C1 ts[i].syms.length m1, .slice C2 ts[i].mems.length m2, .int .i64 ts[i].key, .int .i64 ts[i].elem, .bool ts[i].opn] 64) := ⟨_, rfl⟩
 rw [← hE639]
 have hb637 := aB hE639
 have X := aN hE639
 clear hE639
 have hl641 := M.out.here
 have hl642 := R.out.here
 have hl643 := hw636.size
 replace M := dB M hb637
 replace R := dB R hb637
 replace hw636 := dT hw636 hb637
 clear hb637
 generalize wd634.heap.size = g640 at *
 clear y0 y1 y2 y3 y4 y5 y6 y7 y8 y9 z0 z1 z2 z3 z4 z5 z6 z7 z8 z9
 have cX_0 : wd638.cell? ⟨g640, 0, none⟩ = some (.int .i64 9) := X.out.cell 0
 go_upto_region 3 with fail
 clear cX_0
 obtain ⟨wd645, hE646⟩ : ∃ ww, ww = wd638.alloc (.cells #[.int .i64 9, .bool false, .int .i64 0, .string ⟨#[]⟩, .int .i64 0, .slice none 0 0, .slice none 0 0, .slice none 0 0] 34) := ⟨_, rfl⟩
 rw [← hE646]
 have hb644 := aB hE646
 have V := aN hE646
 clear hE646
 have hl648 := M.out.here
 have hl649 := R.out.here
 have hl650 := X.out.here
 have hl651 := hw636.size
 replace M := dB M hb644
 replace R := dB R hb644
 replace X := dB X hb644
 replace hw636 := dT hw636 hb644
 clear hb644
 generalize wd638.heap.size = g647 at *
 have cX_0 : wd645.cell? ⟨g640, 0, none⟩ = some (.int .i64 9) := X.out.cell 0
 clear M
 have hTK := Took.below (Took.refl HM.out) (hw636)
 have TK := Lib.hid (hTK)
 clear HM hTK
 go_wp2_with fail
 clear cX_0
 ((with_reducible refine (next_any B gm (.slice (some ⟨b, o, none⟩) ts.length c) odd l 2 2 _ rfl (by omega) (by omega) TK.out.at_).mono ?_); rintro e wd652 ⟨k, l', hk2, hk0, hkl, rfl, hT⟩)
 replace R := Lib.hid (R.out.gr hT.gr (show w.heap.size ≠ gm by omega))
 replace X := Lib.hid (X.out.gr hT.gr (show g640 ≠ gm by omega))
 replace V := Lib.hid (V.out.gr hT.gr (show g647 ≠ gm by omega))
 replace TK := Lib.hid (TK.out.trans hT)
 clear hT
 have hk01 : k = 0 ∨ k = 1 := by omega
 rcases hk01 with rfl | rfl
 ·
  clear hk0 hkl
  go_upto_region 44 with fail
  obtain ⟨cV_0, cV_1, cV_2, cV_3, cV_4, cV_5, cV_6, cV_7⟩ := V.out.c8
  go_wp2_with (refine wpList_store_row rfl 34 _ _ rfl (w.heap.size) _ rfl rfl 34 _ R.out (by kernel_rfl) rfl (by simp [Value.oneCell']) ?_)
  clear cV_0 cV_1 cV_2 cV_3 cV_4 cV_5 cV_6 cV_7
  obtain ⟨wd654, hE655⟩ : ∃ ww, ww = wd652.setRow (w.heap.size) #[.int .i64 9, .bool false, .int .i64 0, .string ⟨#[]⟩, .int .i64 0, .slice none 0 0, .slice none 0 0, .slice none 0 0] := ⟨_, rfl⟩
  rw [← hE655]
  replace X := dR X hE655 (by omega)
  replace V := dR V hE655 (by omega)
  replace R := dO R hE655
  replace TK := Lib.hid (TK.out.belowL (hE655 ▸ below_rowL (w.heap.size) wd652 #[.int .i64 9, .bool false, .int .i64 0, .string ⟨#[]⟩, .int .i64 0, .slice none 0 0, .slice none 0 0, .slice none 0 0]) (show w.heap.size ≤ w.heap.size by omega))
  clear hE655
  obtain ⟨cR_0, cR_1, cR_2, cR_3, cR_4, cR_5, cR_6, cR_7⟩ := R.out.c8
  exact bodyPost_ret (v := .agg #[.int .i64 9, .bool false, .int .i64 0, .string ⟨#[]⟩, .int .i64 0, .slice none 0 0, .slice none 0 0, .slice none 0 0]) (by simp [results, Try.results40, go_sem, cR_0, cR_1, cR_2, cR_3, cR_4, cR_5, cR_6, cR_7]) rfl (⟨.mk 9 false 0 [] 0 [] [] [], .slice none 0 0, .slice none 0 0, .slice none 0 0, l', rfl, bareP _ _ _ _ _ _ _ (by simp [I64]) (by simp [I64]) (by simp [I64]) (by simp), (by show fitV ts (!odd) _ _ = true; rw [fitV_eq, typAt_get ts i hi]; simp [hk, properB, bodyR, fitL, Val.kind, Val.bool, Val.num, Val.str, Val.id, Val.keys, Val.items, Val.rest]), TK.out⟩)
 have hne : l ≠ [] := fun h => by have := hk0 h; omega
 have hlt := hkl hne
 clear hk0 hkl
 have cX_8 : wd652.cell? ⟨g640, 8, none⟩ = some (.int .i64 ts[i].elem) := X.out.cell 8
 go_wp2_with fail
 obtain ⟨L0, hL0⟩ : ∃ L, L = wd652.heap.size := ⟨_, rfl⟩
 skip
 have hLX0 : g640 < L0 := hL0 ▸ X.out.here
 have hLV0 : g647 < L0 := hL0 ▸ V.out.here
 have hLR0 : w.heap.size < L0 := hL0 ▸ R.out.here
 have hLg0 : gm < L0 := by have := R.out.here; omega
 clear cX_8
 ((with_reducible refine (HIH.out l' _ (by omega) TK.out.at_ (HT.out.keep (fun p hp => TK.out.low hp) (Nat.le_refl _))).mono ?_); rintro e wd656 ⟨y0, yk0, yi0, yr0, l20, rfl, hyp0, hyF0, hT⟩)
 rw [← hL0] at hyp0
 have hTL0 := hT.len
 replace R := Lib.hid (R.out.gr hT.gr (show w.heap.size ≠ gm by omega))
 replace X := Lib.hid (X.out.gr hT.gr (show g640 ≠ gm by omega))
 replace V := Lib.hid (V.out.gr hT.gr (show g647 ≠ gm by omega))
 replace TK := Lib.hid (TK.out.trans hT)
 clear hT
 obtain ⟨Y10, z10, Y20, z20, Y30, z30, rfl, rfl, rfl, -, -, -⟩ := hyp0.forms
 have hyk0 := hyp0.keptB (w0 := w) (B := B) (L := L0) (fun _ h => .inr h) TK.out.lowh
 have HYF0 := Lib.hid hyF0
 have Y0 := Lib.hid (hyk0)
 clear hyp0 hyk0 hL0 hyF0
 have aV6 : ∀ ob, (wd656.alloc ob).cell? ⟨g647, 6, none⟩ = some (.slice none 0 0) := fun ob => (V.out.alloc ob).cell 6
 have bV6 : ∀ ob, (wd656.alloc ob).frozen? ⟨g647, 6, none⟩ = false := fun ob => (V.out.alloc ob).free 6
 go_upto_region 44 with fail
 clear aV6 bV6
 obtain ⟨wd659, hE660⟩ : ∃ ww, ww = wd656.alloc (.cells #[.int .i64 y0.kind, .bool y0.bool, .int .i64 y0.num, .string ⟨y0.str.toArray⟩, .int .i64 y0.id, .slice Y10 y0.keys.length z10, .slice Y20 y0.items.length z20, .slice Y30 y0.rest.length z30] 34) := ⟨_, rfl⟩
 rw [← hE660]
 have hb658 := aB hE660
 have N := aN hE660
 clear hE660
 have hl662 := R.out.here
 have hl663 := X.out.here
 have hl664 := V.out.here
 have hl665 := Y0.out.le
 have hl666 := TK.out.gr.size
 replace R := dB R hb658
 replace X := dB X hb658
 replace V := dB V hb658
 replace Y0 := dK Y0 hb658
 replace TK := Lib.hid (TK.out.below hb658)
 clear hb658
 generalize wd656.heap.size = g661 at *
 obtain ⟨wd667, hE668⟩ : ∃ ww, ww = wd659.setCell ⟨g647, 6, none⟩ (.slice (some ⟨g661, 0, none⟩) 1 1) := ⟨_, rfl⟩
 rw [← hE668]
 replace R := dF R hE668 (by omega)
 replace X := dF X hE668 (by omega)
 replace N := dF N hE668 (by omega)
 replace V : Hid (Has wd667 (g647) 34 #[.int .i64 9, .bool false, .int .i64 0, .string ⟨#[]⟩, .int .i64 0, .slice none 0 0, .slice (some ⟨g661, 0, none⟩) 1 1, .slice none 0 0]) := Lib.hid (by simpa using dS V hE668)
 replace Y0 := kF Y0 hE668 (by omega)
 replace TK := Lib.hid (TK.out.belowL (hE668 ▸ below_set (Below.refl (g647) wd659) (Nat.le_refl _) 6 (.slice (some ⟨g661, 0, none⟩) 1 1)) (show w.heap.size ≤ g647 by omega))
 clear hE668
 obtain ⟨cV_0, cV_1, cV_2, cV_3, cV_4, cV_5, cV_6, cV_7⟩ := V.out.c8
 go_wp2_with (refine wpList_store_row rfl 34 _ _ rfl (w.heap.size) _ rfl rfl 34 _ R.out (by kernel_rfl) rfl (by simp [Value.oneCell']) ?_)
 clear cV_0 cV_1 cV_2 cV_3 cV_4 cV_5 cV_6 cV_7
 obtain ⟨wd669, hE670⟩ : ∃ ww, ww = wd667.setRow (w.heap.size) #[.int .i64 9, .bool false, .int .i64 0, .string ⟨#[]⟩, .int .i64 0, .slice none 0 0, .slice (some ⟨g661, 0, none⟩) 1 1, .slice none 0 0] := ⟨_, rfl⟩
 rw [← hE670]
 replace X := dR X hE670 (by omega)
 replace V := dR V hE670 (by omega)
 replace N := dR N hE670 (by omega)
 replace R := dO R hE670
 replace Y0 := kR Y0 hE670 (by omega)
 replace TK := Lib.hid (TK.out.belowL (hE670 ▸ below_rowL (w.heap.size) wd667 #[.int .i64 9, .bool false, .int .i64 0, .string ⟨#[]⟩, .int .i64 0, .slice none 0 0, .slice (some ⟨g661, 0, none⟩) 1 1, .slice none 0 0]) (show w.heap.size ≤ w.heap.size by omega))
 clear hE670
 have hy := Y0.out.now TK.out.lowh
 have hgN := N.out.here
 obtain ⟨cR_0, cR_1, cR_2, cR_3, cR_4, cR_5, cR_6, cR_7⟩ := R.out.c8
 exact bodyPost_ret (v := .agg #[.int .i64 9, .bool false, .int .i64 0, .string ⟨#[]⟩, .int .i64 0, .slice none 0 0, .slice (some ⟨g661, 0, none⟩) 1 1, .slice none 0 0]) (by simp [results, Try.results40, go_sem, cR_0, cR_1, cR_2, cR_3, cR_4, cR_5, cR_6, cR_7]) rfl (⟨.mk 9 false 0 [] 0 [] [y0] [], .slice none 0 0, .slice (some ⟨g661, 0, none⟩) 1 1, .slice none 0 0, l20, rfl, hold9 _ _ _ _ (by simp [I64]) (by simp [I64]) (by simp) (one_row N.out (hy.keep (fun _ _ => rfl) (fun q hq => by omega)) (by omega)), (by show fitV ts (!odd) _ _ = true; rw [fitV_eq, typAt_get ts i hi]; simp [hk, properB, bodyR, fitL, HYF0.out, Val.kind, Val.bool, Val.num, Val.str, Val.id, Val.keys, Val.items, Val.rest]), TK.out⟩)
def ListInv (w wr : World) (B gm gX gV : Nat) (vt : Value) (odd : Bool) (ts : List Typ) (l : List UInt8) (cx cr : Array Value) (j : Int) (m : Nat) (n : Value) : Prop :=
 ∃ (xs : List Val) (q : Nat) (lc : List UInt8) (S : Nat → Prop) (AV : Option Addr) (cv : Nat), xs.length + q ≤ m ∧ n = .int .i64 q ∧ (0 < q → lc.length < l.length) ∧
  Has wr gV 34 #[.int .i64 7, .bool false, .int .i64 0, .string ⟨#[]⟩, .int .i64 0, .slice none 0 0, .slice AV xs.length cv, .slice none 0 0] ∧ Has wr gX 64 cx ∧ Has wr w.heap.size 34 cr ∧
  Took w B gm vt odd l lc wr ∧ OwnVals wr (gV + 1) S (.slice AV xs.length cv) xs ∧ (∀ b, S b → gV + 1 ≤ b) ∧ xs.all (fun y0 => fitV ts (!odd) y0 j) = true
set_option maxRecDepth 100000 in
theorem value7_any (B gm : Nat) (A : Option Addr) (c : Nat) (odd : Bool) (l : List UInt8) (ts : List Typ) (i : Nat) (hi : i < ts.length) (w : World) (hk : ts[i].kind = 7) (j : Nat) (hj : j < ts.length) (hel0 : ts[i].elem = (j : Int)) (h6 : ts.length ≤ 6) (m : Nat) (hm : m ≤ 3) (hmx0 : ts[i].max = (m : Int))
  (ih : MadeIH B gm (.slice A ts.length c) odd ts (7 * l.length + rankT ts i)) (hM : MkAt w B gm (.slice A ts.length c) odd l) (hT : RdTyps w B (.slice A ts.length c) ts) :
  Calls Try.prog 40 #[.pointer (some ⟨gm, 0, none⟩), .int .i64 i] w (MadePost w B gm (.slice A ts.length c) odd l fun x => fitV ts (!odd) x i = true) := by
 have HMX := Lib.hid hmx0
 have HIH := Lib.hid (ih.as j hj _ hel0)
 have hrk := rank_le ts j hj
 clear hel0 ih hmx0
 have hgw := hM.here
 have hBg := hM.le
 obtain ⟨b, o, rfl, hb, hcs⟩ := hT.elem (by omega)
 obtain ⟨vs, vm, ⟨y0, y1, y2, y3, y4, y5, y6, y7, y8, y9⟩, hty⟩ := hcs i hi
 obtain ⟨C1, m1, C2, m2, rfl, rfl, -, -⟩ := hty.forms
 have hi1 : (i : Int) < ts.length := by omega
 have hi0 : (0 : Int) ≤ (i : Int) := by omega
 rw [hk] at y0
 have HM := Lib.hid hM
 have HTY := Lib.hid hty
 have HT := Lib.hid hT
 clear hcs hty hT
 obtain ⟨⟨A1, c1, M, _⟩, _, _⟩ := hM
 replace M := Lib.hid M
 have cM_0 : w.cell? ⟨gm, 0, none⟩ = some (.slice (some ⟨b, o, none⟩) ts.length c) := M.out.cell 0
 have cM_1 : w.cell? ⟨gm, 1, none⟩ = some (.slice A1 l.length c1) := M.out.cell 1
 have cM_2 : w.cell? ⟨gm, 2, none⟩ = some (.bool odd) := M.out.cell 2
 go_enter Try.func40, Try.ntmps40
 go_upto_region 1 with fail
 clear cM_0 cM_1 cM_2
 obtain ⟨wd672, hE673⟩ : ∃ ww, ww = w.alloc (.cells #[.int .i64 0, .bool false, .int .i64 0, .string ⟨#[]⟩, .int .i64 0, .slice none 0 0, .slice none 0 0, .slice none 0 0] 34) := ⟨_, rfl⟩
 rw [← hE673]
 have hb671 := aB hE673
 have R := aN hE673
 clear hE673
 replace M := dB M hb671
 have hw674 := hb671
 clear hb671
 have hbl : b < w.heap.size := by omega
 have z0 := ((hw674).cell (p := ⟨b, o + i * 10, none⟩) hbl).trans y0
 have z1 := ((hw674).cell (p := ⟨b, o + i * 10 + 1, none⟩) hbl).trans y1
 have z2 := ((hw674).cell (p := ⟨b, o + i * 10 + 2, none⟩) hbl).trans y2
 have z3 := ((hw674).cell (p := ⟨b, o + i * 10 + 3, none⟩) hbl).trans y3
 have z4 := ((hw674).cell (p := ⟨b, o + i * 10 + 4, none⟩) hbl).trans y4
 have z5 := ((hw674).cell (p := ⟨b, o + i * 10 + 5, none⟩) hbl).trans y5
 have z6 := ((hw674).cell (p := ⟨b, o + i * 10 + 6, none⟩) hbl).trans y6
 have z7 := ((hw674).cell (p := ⟨b, o + i * 10 + 7, none⟩) hbl).trans y7
 have z8 := ((hw674).cell (p := ⟨b, o + i * 10 + 8, none⟩) hbl).trans y8
 have z9 := ((hw674).cell (p := ⟨b, o + i * 10 + 9, none⟩) hbl).trans y9
 have cM_0 : wd672.cell? ⟨gm, 0, none⟩ = some (.slice (some ⟨b, o, none⟩) ts.length c) := M.out.cell 0
 have cM_1 : wd672.cell? ⟨gm, 1, none⟩ = some (.slice A1 l.length c1) := M.out.cell 1
 have cM_2 : wd672.cell? ⟨gm, 2, none⟩ = some (.bool odd) := M.out.cell 2
 go_upto_region 2 with fail
 clear cM_0 cM_1 cM_2
 obtain ⟨wd676, hE677⟩ : ∃ ww, ww = wd672.alloc (.cells #[.int .i64 7, .string ⟨ts[i].name.toArray⟩, .int .i64 ts[i].low, .int .i64 ts[i].high, .int .i64 ts[i].max, .slice C1 ts[i].syms.length m1, .slice C2 ts[i].mems.length m2, .int .i64 ts[i].key, .int .i64 ts[i].elem, .bool ts[i].opn] 64) := ⟨_, rfl⟩
 rw [← hE677]
 have hb675 := aB hE677
 have X := aN hE677
 clear hE677
 have hl679 := M.out.here
 have hl680 := R.out.here
 have hl681 := hw674.size
 replace M := dB M hb675
 replace R := dB R hb675
 replace hw674 := dT hw674 hb675
 clear hb675
 generalize wd672.heap.size = g678 at *
 clear y0 y1 y2 y3 y4 y5 y6 y7 y8 y9 z0 z1 z2 z3 z4 z5 z6 z7 z8 z9
 have cX_0 : wd676.cell? ⟨g678, 0, none⟩ = some (.int .i64 7) := X.out.cell 0
 go_upto_region 3 with fail
 clear cX_0
 obtain ⟨wd683, hE684⟩ : ∃ ww, ww = wd676.alloc (.cells #[.int .i64 7, .bool false, .int .i64 0, .string ⟨#[]⟩, .int .i64 0, .slice none 0 0, .slice none 0 0, .slice none 0 0] 34) := ⟨_, rfl⟩
 rw [← hE684]
 have hb682 := aB hE684
 have V := aN hE684
 clear hE684
 have hl686 := M.out.here
 have hl687 := R.out.here
 have hl688 := X.out.here
 have hl689 := hw674.size
 replace M := dB M hb682
 replace R := dB R hb682
 replace X := dB X hb682
 replace hw674 := dT hw674 hb682
 clear hb682
 generalize wd676.heap.size = g685 at *
 have cX_0 : wd683.cell? ⟨g678, 0, none⟩ = some (.int .i64 7) := X.out.cell 0
 clear M
 have hTK := Took.below (Took.refl HM.out) (hw674)
 have TK := Lib.hid (hTK)
 clear HM hTK
 have cX_4 : wd683.cell? ⟨g678, 4, none⟩ = some (.int .i64 ts[i].max) := X.out.cell 4
 have hmi : (m : Int) ≤ 3 := by omega
 have hmx : ts[i].max = (m : Int) := HMX.out
 go_wp2_with fail
 clear cX_0 cX_4
 ((with_reducible refine (next_any B gm (.slice (some ⟨b, o, none⟩) ts.length c) odd l (m + 1) _ _ (by omega) (by omega) (by omega) TK.out.at_).mono ?_); rintro e wd690 ⟨k, l', hk2, hk0, hkl, rfl, hT⟩)
 replace R := Lib.hid (R.out.gr hT.gr (show w.heap.size ≠ gm by omega))
 replace X := Lib.hid (X.out.gr hT.gr (show g678 ≠ gm by omega))
 replace V := Lib.hid (V.out.gr hT.gr (show g685 ≠ gm by omega))
 replace TK := Lib.hid (TK.out.trans hT)
 clear hT
 have hlk : 0 < k → l'.length < l.length := fun h => hkl (fun h2 => by have := hk0 h2; omega)
 clear hk0 hkl hmx hmi
 have HR0 := Lib.hid R.out
 have HX0 := Lib.hid X.out
 have HV0 := Lib.hid V.out
 have HTK0 := Lib.hid TK.out
 have hXV : g678 < g685 := by omega
 have hRX : w.heap.size < g678 := by omega
 clear R X V TK
 generalize g678 = gX at *
 generalize g685 = gV at *
 go_wp2_with fail
 go_loopw [9] (fun n wr => ListInv w wr B gm gX gV (.slice (some ⟨b, o, none⟩) ts.length c) odd ts l #[.int .i64 7, .string ⟨ts[i].name.toArray⟩, .int .i64 ts[i].low, .int .i64 ts[i].high, .int .i64 ts[i].max, .slice C1 ts[i].syms.length m1, .slice C2 ts[i].mems.length m2, .int .i64 ts[i].key, .int .i64 ts[i].elem, .bool ts[i].opn] #[.int .i64 0, .bool false, .int .i64 0, .string ⟨#[]⟩, .int .i64 0, .slice none 0 0, .slice none 0 0, .slice none 0 0] ts[i].elem k n) (fun n _ => (intOf n).toNat)
 case atStart => exact ⟨[], k, l', fun _ => False, none, 0, by simp, rfl, hlk, HV0.out, HX0.out, HR0.out, HTK0.out, OwnVals.nil _ _, fun _ h => h.elim, rfl⟩
 case round =>
  clear HV0 HX0 HR0 HTK0
  obtain ⟨xs, q, lc, S, AV, cv, hq, rfl, hlc, V, X, R, hK, hO, hS, hF⟩ := hrel
  have HF := Lib.hid hF
  clear hF
  replace R := Lib.hid R
  replace X := Lib.hid X
  replace V := Lib.hid V
  have TK := Lib.hid (hK)
  obtain ⟨U0, hU0⟩ : ∃ U, U = wr.heap.size := ⟨_, rfl⟩
  have O := Lib.hid ((show Kept (OVB w B (gV + 1) S (.slice AV xs.length cv) xs) wr (gV + 1) U0 from by rw [hU0]; exact hO.keptB (w0 := w) (B := B) (fun q hq => .inr (hS q hq)) TK.out.lowh))
  have HS := Lib.hid hS
  have hZ1 : ∀ q, (Value.slice AV xs.length cv).ownBlock = some q → gV + 1 ≤ q := fun q h => (hO.lt q h).1
  have hZ2 : ∀ q, (Value.slice AV xs.length cv).ownBlock = some q → q < U0 := fun q h => hU0 ▸ (hO.lt q h).2
  have HZ1 := Lib.hid hZ1
  have HZ2 := Lib.hid hZ2
  clear hK hO hS hU0 hZ1 hZ2
  by_cases hq0 : 0 < q
  ·
   have hq1 : (0 : Int) < (q : Int) := by omega
   have hlt := hlc hq0
   go_upto_region 37 with fail
   have cV_6 : wr.cell? ⟨gV, 6, none⟩ = some (.slice AV xs.length cv) := V.out.cell 6
   have cX_8 : wr.cell? ⟨gX, 8, none⟩ = some (.int .i64 ts[i].elem) := X.out.cell 8
   refine wp_region_T (S := (fun w' => w'.cell? ⟨gV, 6, none⟩ = some (.slice AV xs.length cv) ∧ w'.cell? ⟨gX, 8, none⟩ = some (.int .i64 ts[i].elem))) (fun j => j == 9) (by kernel_rfl) ⟨cV_6, cX_8⟩ (fun hHeld => ?_)
   clear cV_6 cX_8
   have hb692 : Below wr.heap.size wr (wr.drew) := (Below.refl _ _).drew
   replace R := dB R hb692
   replace X := dB X hb692
   replace V := dB V hb692
   replace O := dK O hb692
   replace TK := Lib.hid (TK.out.below hb692)
   clear hb692
   generalize wr.drew = wd693 at *
   refine tkT (i := 0) (v := ?k694) ?_
   simp only [put_laws2]
   refine tkT (i := 1) (v := ?k695) ?_
   simp only [put_laws2]
   refine tkT (i := 2) (v := ?k696) ?_
   simp only [put_laws2]
   refine tkT (i := 3) (v := ?k697) ?_
   simp only [put_laws2]
   refine tkT (i := 4) (v := ?k698) ?_
   simp only [put_laws2]
   refine rdT1 (i := 5) (fun K hK => ?_)
   go_simp
   have hUL := O.out.le
   obtain ⟨L0, hL0⟩ : ∃ L, L = wd693.heap.size := ⟨_, rfl⟩
   rw [← hL0] at hUL
   have hLX0 : gX < L0 := hL0 ▸ X.out.here
   have hLV0 : gV < L0 := hL0 ▸ V.out.here
   have hLR0 : w.heap.size < L0 := hL0 ▸ R.out.here
   have hLg0 : gm < L0 := by have := R.out.here; omega
   ((with_reducible refine (HIH.out lc _ (by omega) TK.out.at_ (HT.out.keep (fun p hp => TK.out.low hp) (Nat.le_refl _))).mono ?_); rintro e wd699 ⟨y0, yk0, yi0, yr0, l20, rfl, hyp0, hyF0, hT⟩)
   rw [← hL0] at hyp0
   have hTL0 := hT.len
   replace R := Lib.hid (R.out.gr hT.gr (show w.heap.size ≠ gm by omega))
   replace X := Lib.hid (X.out.gr hT.gr (show gX ≠ gm by omega))
   replace V := Lib.hid (V.out.gr hT.gr (show gV ≠ gm by omega))
   replace O := Lib.hid (O.out.gr hT.gr (show U0 ≤ gm ∨ gm < gV + 1 by omega))
   replace TK := Lib.hid (TK.out.trans hT)
   clear hT
   obtain ⟨Y10, z10, Y20, z20, Y30, z30, rfl, rfl, rfl, -, -, -⟩ := hyp0.forms
   have hyk0 := hyp0.keptB (w0 := w) (B := B) (L := L0) (fun _ h => .inr h) TK.out.lowh
   have HYF0 := Lib.hid hyF0
   have Y0 := Lib.hid (hyk0)
   clear hyp0 hyk0 hL0 hyF0
   try clear hHeld
   refine hK.out _ _ (⟨V.out.cell 6, X.out.cell 8⟩) (fun hHeld => ?_)
   clear hK K
   refine rdT1 (i := 6) (fun K hK => ?_)
   go_simp
   obtain ⟨wd702, hE703⟩ : ∃ ww, ww = wd699.alloc (.cells #[.int .i64 y0.kind, .bool y0.bool, .int .i64 y0.num, .string ⟨y0.str.toArray⟩, .int .i64 y0.id, .slice Y10 y0.keys.length z10, .slice Y20 y0.items.length z20, .slice Y30 y0.rest.length z30] 34) := ⟨_, rfl⟩
   rw [← hE703]
   have hb701 := aB hE703
   have N := aN hE703
   clear hE703
   have hl705 := R.out.here
   have hl706 := X.out.here
   have hl707 := V.out.here
   have hl708 := O.out.le
   have hl709 := Y0.out.le
   have hl710 := TK.out.gr.size
   replace R := dB R hb701
   replace X := dB X hb701
   replace V := dB V hb701
   replace O := dK O hb701
   replace Y0 := dK Y0 hb701
   replace TK := Lib.hid (TK.out.below hb701)
   clear hb701
   generalize wd699.heap.size = g704 at *
   try clear hHeld
   refine hK.out _ _ (⟨V.out.cell 6, X.out.cell 8⟩) (fun hHeld => ?_)
   clear hK K
   refine rdT1 (i := 7) (fun K hK => ?_)
   refine step_append_vals (by rfl) _ _ (by rfl) (O.out.now TK.out.lowh) (by rfl) N.out (by rfl) (Y0.out.now TK.out.lowh).rd (fun q hq => ⟨by have := N.out.here; omega, fun e => by have := HZ1.out q e; have := HZ2.out q e; omega⟩) (by omega) (by have := N.out.here; omega) ?_
   intro v1 w1 hO1 hat hbB hkk
   obtain ⟨Aq, cq, rfl⟩ := hO1.form
   have hS3 : ∀ q, (S q ∨ (L0 ≤ q ∧ q < g704)) → gV + 1 ≤ q := fun q hq => hq.elim (HS.out q) (fun h => by omega)
   clear O
   clear N
   clear Y0
   replace R := dG R hkk (fun hh => by have := HZ1.out _ hh; omega)
   replace X := dG X hkk (fun hh => by have := HZ1.out _ hh; omega)
   replace V := dG V hkk (fun hh => by have := HZ1.out _ hh; omega)
   replace TK := Lib.hid (TK.out.belowL hbB (show w.heap.size ≤ gV + 1 by omega))
   have O := Lib.hid (hO1.keptB (w0 := w) (B := B) (fun q hq => .inr (hS3 q hq)) TK.out.lowh)
   have HS3 := Lib.hid hS3
   clear hO1 hbB hkk hat hS3
   try clear hHeld
   refine hK.out _ _ (⟨V.out.cell 6, X.out.cell 8⟩) (fun hHeld => ?_)
   clear hK K
   refine tkT (i := 8) (v := ?k711) ?_
   simp only [put_laws2]
   refine rdTL (i := 9) (fun K hK => ?_)
   have cV_6 : w1.cell? ⟨gV, 6, none⟩ = some (.slice AV xs.length cv) := V.out.cell 6
   have fV_6 := V.out.free 6
   go_simp
   clear cV_6 fV_6
   obtain ⟨wd712, hE713⟩ : ∃ ww, ww = w1.setCell ⟨gV, 6, none⟩ (.slice Aq (xs.length + 1) cq) := ⟨_, rfl⟩
   rw [← hE713]
   replace R := dF R hE713 (by omega)
   replace X := dF X hE713 (by omega)
   replace V : Hid (Has wd712 (gV) 34 #[.int .i64 7, .bool false, .int .i64 0, .string ⟨#[]⟩, .int .i64 0, .slice none 0 0, .slice Aq (xs.length + 1) cq, .slice none 0 0]) := Lib.hid (by simpa using dS V hE713)
   replace O := kF O hE713 (by omega)
   replace TK := Lib.hid (TK.out.belowL (hE713 ▸ below_set (Below.refl (gV) w1) (Nat.le_refl _) 6 (.slice Aq (xs.length + 1) cq)) (show w.heap.size ≤ gV by omega))
   clear hE713
   try clear hHeld
   refine hK.out _ _ ?_
   clear hK K
   refine wpAnyT_done (by kernel_rfl) ?_ _
   try clear hHeld
   go_wp2_with fail
   go_roundw
   case rel =>
    refine ⟨xs ++ [y0], q - 1, l20, _, Aq, cq, by simp; omega, by go_num, fun _ => by omega, by simpa using V.out, X.out, R.out, TK.out, O.out.now TK.out.lowh, HS3.out, ?_⟩
    rw [List.all_append, HF.out]
    simp [HYF0.out]
   case measure => simp [intOf]; omega
  obtain rfl : q = 0 := by omega
  have hmx : ts[i].max = (m : Int) := HMX.out
  go_upto_region 44 with fail
  obtain ⟨cV_0, cV_1, cV_2, cV_3, cV_4, cV_5, cV_6, cV_7⟩ := V.out.c8
  go_wp2_with (refine wpList_store_row rfl 34 _ _ rfl (w.heap.size) _ rfl rfl 34 _ R.out (by kernel_rfl) rfl (by simp [Value.oneCell']) ?_)
  clear cV_0 cV_1 cV_2 cV_3 cV_4 cV_5 cV_6 cV_7
  obtain ⟨wd714, hE715⟩ : ∃ ww, ww = wr.setRow (w.heap.size) #[.int .i64 7, .bool false, .int .i64 0, .string ⟨#[]⟩, .int .i64 0, .slice none 0 0, .slice AV xs.length cv, .slice none 0 0] := ⟨_, rfl⟩
  rw [← hE715]
  replace X := dR X hE715 (by omega)
  replace V := dR V hE715 (by omega)
  replace R := dO R hE715
  replace O := kR O hE715 (by omega)
  replace TK := Lib.hid (TK.out.belowL (hE715 ▸ below_rowL (w.heap.size) wr #[.int .i64 7, .bool false, .int .i64 0, .string ⟨#[]⟩, .int .i64 0, .slice none 0 0, .slice AV xs.length cv, .slice none 0 0]) (show w.heap.size ≤ w.heap.size by omega))
  clear hE715
  have ho := O.out.now TK.out.lowh
  have hr := ho.row.keep (S' := fun q => w.heap.size ≤ q ∧ q < wd714.heap.size) (fun _ _ => rfl) (fun q hq => hq.elim (fun hq => by have := HS.out q hq; have := (ho.sep q hq).1; omega) (fun hq => by have := ho.lt q hq; omega))
  obtain ⟨cR_0, cR_1, cR_2, cR_3, cR_4, cR_5, cR_6, cR_7⟩ := R.out.c8
  exact bodyPost_ret (v := .agg #[.int .i64 7, .bool false, .int .i64 0, .string ⟨#[]⟩, .int .i64 0, .slice none 0 0, .slice AV xs.length cv, .slice none 0 0]) (by simp [results, Try.results40, go_sem, cR_0, cR_1, cR_2, cR_3, cR_4, cR_5, cR_6, cR_7]) rfl (⟨.mk 7 false 0 [] 0 [] xs [], .slice none 0 0, .slice AV xs.length cv, .slice none 0 0, lc, rfl, hold9 _ _ _ _ (by simp [I64]) (by simp [I64]) (by omega) hr, (by show fitV ts (!odd) _ _ = true; rw [fitV_eq, typAt_get ts i hi]; simp only [hk, hmx, properB, bodyR, fitL_all, Val.kind, Val.bool, Val.num, Val.str, Val.id, Val.keys, Val.items, Val.rest]; rw [HF.out]; simp; omega), TK.out⟩)
end Go.Proofs.Ytgeapglanckjpaa

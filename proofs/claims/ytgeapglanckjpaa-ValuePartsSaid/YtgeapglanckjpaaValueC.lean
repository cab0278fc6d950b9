/- What the maker's value leaves, kind 8. No condition. -/
import Derived.Test.YtgeapglanckjpaaValueB
set_option maxHeartbeats 3200000
namespace Go.Proofs.Ytgeapglanckjpaa
open Go.ChangeShapes Go.WideShapes Go.ChangeAt Go.RowKit
abbrev mapV (ks is : List Val) : Val := .mk 8 false 0 [] 0 ks is []
theorem putV_map (ks is : List Val) (k t : Val) (hl : is.length = ks.length) : ∃ ks' is', putV (mapV ks is) k t = mapV ks' is' ∧ ks' ≠ [] ∧ is'.length = ks'.length ∧ ks'.length ≤ ks.length + 1 := by
 by_cases h : (match ks[lowI ks k]? with | some x => decide (compareV x k = 0) | none => false) = true
 ·
  refine ⟨ks, is, if_pos h, fun h2 => ?_, hl, by omega⟩
  subst h2
  simp at h
 refine ⟨insL ks k (lowI ks k), insL is t (lowI ks k), if_neg h, fun h2 => ?_, by rw [insL_len, insL_len, hl], by rw [insL_len]; omega⟩
 have := congrArg List.length h2
 rw [insL_len] at this
 simp at this
def MapInv (w wr : World) (B gm gX gV : Nat) (vt : Value) (odd : Bool) (ts : List Typ) (i : Nat) (l : List UInt8) (cx cr : Array Value) (m : Nat) (n : Value) : Prop :=
 ∃ (ks is : List Val) (q : Nat) (lc : List UInt8) (S : Nat → Prop) (K1 : Option Addr) (d1 : Nat) (I1 : Option Addr) (d2 : Nat) (R1 : Option Addr) (d3 : Nat), ks.length + q ≤ m ∧ is.length = ks.length ∧ n = .int .i64 q ∧ (0 < q → lc.length < l.length) ∧
  Has wr gV 34 #[.int .i64 8, .bool false, .int .i64 0, .string ⟨#[]⟩, .int .i64 0, .slice K1 ks.length d1, .slice I1 is.length d2, .slice R1 0 d3] ∧ Has wr gX 64 cx ∧ Has wr w.heap.size 34 cr ∧
  Took w B gm vt odd l lc wr ∧ ValP wr S (mapV ks is) (.slice K1 ks.length d1) (.slice I1 is.length d2) (.slice R1 0 d3) ∧ (∀ b, S b → gV + 1 ≤ b ∧ b < wr.heap.size) ∧ (ks = [] → Value.slice K1 ks.length d1 = .slice none 0 0 ∧ Value.slice I1 is.length d2 = .slice none 0 0) ∧ fitV ts (!odd) (mapV ks is) i = true
set_option maxRecDepth 100000 in
theorem value8_any (B gm : Nat) (A : Option Addr) (c : Nat) (odd : Bool) (l : List UInt8) (ts : List Typ) (i : Nat) (hi : i < ts.length) (w : World) (hk : ts[i].kind = 8) (j : Nat) (hj : j < ts.length) (hel0 : ts[i].elem = (j : Int)) (jk : Nat) (hjk : jk < ts.length) (hkey0 : ts[i].key = (jk : Int)) (h6 : ts.length ≤ 6) (m : Nat) (hm : m ≤ 3) (hmx0 : ts[i].max = (m : Int))
  (ih : MadeIH B gm (.slice A ts.length c) odd ts (7 * l.length + rankT ts i)) (hM : MkAt w B gm (.slice A ts.length c) odd l) (hT : RdTyps w B (.slice A ts.length c) ts) :
  Calls Try.prog 40 #[.pointer (some ⟨gm, 0, none⟩), .int .i64 i] w (MadePost w B gm (.slice A ts.length c) odd l fun x => fitV ts (!odd) x i = true) := by
 have HMX := Lib.hid hmx0
 have HIE := Lib.hid (ih.as j hj _ hel0)
 have HIK := Lib.hid (ih.as jk hjk _ hkey0)
 have hrk := rank_le ts j hj
 have hrk2 := rank_le ts jk hjk
 have hf0 : fitV ts (!odd) (mapV [] []) (i : Nat) = true := by rw [fitV_eq, typAt_get ts i hi]; simp [hk, hmx0, properB, bodyR, fitL, ascB, Val.kind, Val.bool, Val.num, Val.str, Val.id, Val.keys, Val.items, Val.rest]
 have HF0 := Lib.hid hf0
 clear hel0 hkey0 ih hmx0 hf0
 have hgw := hM.here
 have hBg := hM.le
 obtain ⟨b, o, rfl, hb, hcs⟩ := hT.elem (by omega)
 obtain ⟨vs, vm, ⟨y0, y1, y2, y3, y4, y5, y6, y7, y8, y9⟩, hty⟩ := hcs i hi
 obtain ⟨C1, m1, C2, m2, rfl, rfl, -, -⟩ := hty.forms
 have hi1 : (i : Int) < ts.length := by omega
 have hi0 : (0 : Int) ≤ (i : Int) := by omega
 rw [hk] at y0
 have HM := Lib.hid hM
 have HTY := Lib.hid hty
 have HT := Lib.hid hT
 clear hcs hty hT
 obtain ⟨⟨A1, c1, M, _⟩, _, _⟩ := hM
 replace M := Lib.hid M
 have cM_0 : w.cell? ⟨gm, 0, none⟩ = some (.slice (some ⟨b, o, none⟩) ts.length c) := M.out.cell 0
 have cM_1 : w.cell? ⟨gm, 1, none⟩ = some (.slice A1 l.length c1) := M.out.cell 1
 have cM_2 : w.cell? ⟨gm, 2, none⟩ = some (.bool odd) := M.out.cell 2
 go_enter Try.func40, Try.ntmps40
 go_upto_region 1 with fail
 clear cM_0 cM_1 cM_2
 obtain ⟨wd717, hE718⟩ : ∃ ww, ww = w.alloc (.cells #[.int .i64 0, .bool false, .int .i64 0, .string ⟨#[]⟩, .int .i64 0, .slice none 0 0, .slice none 0 0, .slice none 0 0] 34) := ⟨_, rfl⟩
 rw [← hE718]
 have hb716 := aB hE718
 have R := aN hE718
 clear hE718
 replace M := dB M hb716
 have hw719 := hb716
 clear hb716
 have hbl : b < w.heap.size := by omega
 have z0 := ((hw719).cell (p := ⟨b, o + i * 10, none⟩) hbl).trans y0
 have z1 := ((hw719).cell (p := ⟨b, o + i * 10 + 1, none⟩) hbl).trans y1
 have z2 := ((hw719).cell (p := ⟨b, o + i * 10 + 2, none⟩) hbl).trans y2
 have z3 := ((hw719).cell (p := ⟨b, o + i * 10 + 3, none⟩) hbl).trans y3
 have z4 := ((hw719).cell (p := ⟨b, o + i * 10 + 4, none⟩) hbl).trans y4
 have z5 := ((hw719).cell (p := ⟨b, o + i * 10 + 5, none⟩) hbl).trans y5
 have z6 := ((hw719).cell (p := ⟨b, o + i * 10 + 6, none⟩) hbl).trans y6
 have z7 := ((hw719).cell (p := ⟨b, o + i * 10 + 7, none⟩) hbl).trans y7
 have z8 := ((hw719).cell (p := ⟨b, o + i * 10 + 8, none⟩) hbl).trans y8
 have z9 := ((hw719).cell (p := ⟨b, o + i * 10 + 9, none⟩) hbl).trans y9
 have cM_0 : wd717.cell? ⟨gm, 0, none⟩ = some (.slice (some ⟨b, o, none⟩) ts.length c) := M.out.cell 0
 have cM_1 : wd717.cell? ⟨gm, 1, none⟩ = some (.slice A1 l.length c1) := M.out.cell 1
 have cM_2 : wd717.cell? ⟨gm, 2, none⟩ = some (.bool odd) := M.out.cell 2
 go_upto_region 2 with fail
 clear cM_0 cM_1 cM_2
 obtain ⟨wd721, hE722⟩ : ∃ ww, ww = wd717.alloc (.cells #[.int .i64 8, .string ⟨ts[i].name.toArray⟩, .int .i64 ts[i].low, .int .i64 ts[i].high, .int .i64 ts[i].max, .slice C1 ts[i].syms.length m1, .slice C2 ts[i].mems.length m2, .int .i64 ts[i].key, .int .i64 ts[i].elem, .bool ts[i].opn] 64) := ⟨_, rfl⟩
 rw [← hE722]
 have hb720 := aB hE722
 have X := aN hE722
 clear hE722
 have hl724 := M.out.here
 have hl725 := R.out.here
 have hl726 := hw719.size
 replace M := dB M hb720
 replace R := dB R hb720
 replace hw719 := dT hw719 hb720
 clear hb720
 generalize wd717.heap.size = g723 at *
 clear y0 y1 y2 y3 y4 y5 y6 y7 y8 y9 z0 z1 z2 z3 z4 z5 z6 z7 z8 z9
 have cX_0 : wd721.cell? ⟨g723, 0, none⟩ = some (.int .i64 8) := X.out.cell 0
 go_upto_region 3 with fail
 clear cX_0
 obtain ⟨wd728, hE729⟩ : ∃ ww, ww = wd721.alloc (.cells #[.int .i64 8, .bool false, .int .i64 0, .string ⟨#[]⟩, .int .i64 0, .slice none 0 0, .slice none 0 0, .slice none 0 0] 34) := ⟨_, rfl⟩
 rw [← hE729]
 have hb727 := aB hE729
 have V := aN hE729
 clear hE729
 have hl731 := M.out.here
 have hl732 := R.out.here
 have hl733 := X.out.here
 have hl734 := hw719.size
 replace M := dB M hb727
 replace R := dB R hb727
 replace X := dB X hb727
 replace hw719 := dT hw719 hb727
 clear hb727
 generalize wd721.heap.size = g730 at *
 have cX_0 : wd728.cell? ⟨g723, 0, none⟩ = some (.int .i64 8) := X.out.cell 0
 clear M
 have hTK := Took.below (Took.refl HM.out) (hw719)
 have TK := Lib.hid (hTK)
 clear HM hTK
 have cX_4 : wd728.cell? ⟨g723, 4, none⟩ = some (.int .i64 ts[i].max) := X.out.cell 4
 have hmi : (m : Int) ≤ 3 := by omega
 have hmx : ts[i].max = (m : Int) := HMX.out
 go_wp2_with fail
 clear cX_0 cX_4
 ((with_reducible refine (next_any B gm (.slice (some ⟨b, o, none⟩) ts.length c) odd l (m + 1) _ _ (by omega) (by omega) (by omega) TK.out.at_).mono ?_); rintro e wd735 ⟨k, l', hk2, hk0, hkl, rfl, hT⟩)
 replace R := Lib.hid (R.out.gr hT.gr (show w.heap.size ≠ gm by omega))
 replace X := Lib.hid (X.out.gr hT.gr (show g723 ≠ gm by omega))
 replace V := Lib.hid (V.out.gr hT.gr (show g730 ≠ gm by omega))
 replace TK := Lib.hid (TK.out.trans hT)
 clear hT
 have hlk : 0 < k → l'.length < l.length := fun h => hkl (fun h2 => by have := hk0 h2; omega)
 clear hk0 hkl hmx hmi
 have HR0 := Lib.hid R.out
 have HX0 := Lib.hid X.out
 have HV0 := Lib.hid V.out
 have HTK0 := Lib.hid TK.out
 have hXV : g723 < g730 := by omega
 have hRX : w.heap.size < g723 := by omega
 clear R X V TK
 generalize g723 = gX at *
 generalize g730 = gV at *
 go_wp2_with fail
 go_loopw [10] (fun n wr => MapInv w wr B gm gX gV (.slice (some ⟨b, o, none⟩) ts.length c) odd ts i l #[.int .i64 8, .string ⟨ts[i].name.toArray⟩, .int .i64 ts[i].low, .int .i64 ts[i].high, .int .i64 ts[i].max, .slice C1 ts[i].syms.length m1, .slice C2 ts[i].mems.length m2, .int .i64 ts[i].key, .int .i64 ts[i].elem, .bool ts[i].opn] #[.int .i64 0, .bool false, .int .i64 0, .string ⟨#[]⟩, .int .i64 0, .slice none 0 0, .slice none 0 0, .slice none 0 0] k n) (fun n _ => (intOf n).toNat)
 case atStart => exact ⟨[], [], k, l', fun _ => False, none, 0, none, 0, none, 0, by simp, rfl, rfl, hlk, HV0.out, HX0.out, HR0.out, HTK0.out, bareP _ _ _ _ _ _ _ (by simp [I64]) (by simp [I64]) (by simp [I64]) (by simp), fun _ h => h.elim, fun _ => ⟨rfl, rfl⟩, HF0.out⟩
 case round =>
  clear HV0 HX0 HR0 HTK0
  obtain ⟨ks, is, q, lc, S, K1, d1, I1, d2, R1, d3, hq, hil, rfl, hlc, V, X, R, hK, hO, hS, h00, hF⟩ := hrel
  have HF := Lib.hid hF
  have H00 := Lib.hid h00
  have HIL := Lib.hid hil
  clear hF h00 hil
  replace R := Lib.hid R
  replace X := Lib.hid X
  replace V := Lib.hid V
  have TK := Lib.hid (hK)
  obtain ⟨U0, hU0⟩ : ∃ U, U = wr.heap.size := ⟨_, rfl⟩
  rw [← hU0] at hS
  have O := Lib.hid ((show Kept (VPB w B S (mapV ks is) (.slice K1 ks.length d1) (.slice I1 is.length d2) (.slice R1 0 d3)) wr (gV + 1) U0 from by rw [hU0]; exact hO.keptB (w0 := w) (B := B) (fun q hq => by have := hS q hq; omega) TK.out.lowh))
  have HS := Lib.hid hS
  clear hK hO hS hU0
  by_cases hq0 : 0 < q
  ·
   have hq1 : (0 : Int) < (q : Int) := by omega
   have hlt := hlc hq0
   have cX_7 : wr.cell? ⟨gX, 7, none⟩ = some (.int .i64 ts[i].key) := X.out.cell 7
   go_wp2_with fail
   obtain ⟨L0, hL0⟩ : ∃ L, L = wr.heap.size := ⟨_, rfl⟩
   skip
   have hLX0 : gX < L0 := hL0 ▸ X.out.here
   have hLV0 : gV < L0 := hL0 ▸ V.out.here
   have hLR0 : w.heap.size < L0 := hL0 ▸ R.out.here
   have hLg0 : gm < L0 := by have := R.out.here; omega
   clear cX_7
   ((with_reducible refine (HIK.out lc _ (by omega) TK.out.at_ (HT.out.keep (fun p hp => TK.out.low hp) (Nat.le_refl _))).mono ?_); rintro e wd737 ⟨y0, yk0, yi0, yr0, l20, rfl, hyp0, hyF0, hT⟩)
   rw [← hL0] at hyp0
   have hTL0 := hT.len
   replace R := Lib.hid (R.out.gr hT.gr (show w.heap.size ≠ gm by omega))
   replace X := Lib.hid (X.out.gr hT.gr (show gX ≠ gm by omega))
   replace V := Lib.hid (V.out.gr hT.gr (show gV ≠ gm by omega))
   replace O := Lib.hid (O.out.gr hT.gr (show U0 ≤ gm ∨ gm < gV + 1 by omega))
   replace TK := Lib.hid (TK.out.trans hT)
   clear hT
   obtain ⟨Y10, z10, Y20, z20, Y30, z30, rfl, rfl, rfl, -, -, -⟩ := hyp0.forms
   have hyk0 := hyp0.keptB (w0 := w) (B := B) (L := L0) (fun _ h => .inr h) TK.out.lowh
   have HYF0 := Lib.hid hyF0
   have Y0 := Lib.hid (hyk0)
   clear hyp0 hyk0 hL0 hyF0
   go_upto_region 43 with fail
   obtain ⟨wd740, hE741⟩ : ∃ ww, ww = wd737.alloc (.cells #[.int .i64 y0.kind, .bool y0.bool, .int .i64 y0.num, .string ⟨y0.str.toArray⟩, .int .i64 y0.id, .slice Y10 y0.keys.length z10, .slice Y20 y0.items.length z20, .slice Y30 y0.rest.length z30] 34) := ⟨_, rfl⟩
   rw [← hE741]
   have hb739 := aB hE741
   have KB := aN hE741
   clear hE741
   have hl743 := R.out.here
   have hl744 := X.out.here
   have hl745 := V.out.here
   have hl746 := O.out.le
   have hl747 := Y0.out.le
   have hl748 := TK.out.gr.size
   replace R := dB R hb739
   replace X := dB X hb739
   replace V := dB V hb739
   replace O := dK O hb739
   replace Y0 := dK Y0 hb739
   replace TK := Lib.hid (TK.out.below hb739)
   clear hb739
   generalize wd737.heap.size = g742 at *
   obtain ⟨cV_0, cV_1, cV_2, cV_3, cV_4, cV_5, cV_6, cV_7⟩ := V.out.c8
   obtain ⟨cKB_0, cKB_1, cKB_2, cKB_3, cKB_4, cKB_5, cKB_6, cKB_7⟩ := KB.out.c8
   have cX_8 : wd740.cell? ⟨gX, 8, none⟩ = some (.int .i64 ts[i].elem) := X.out.cell 8
   refine wp_region_T (S := (fun w' => w'.cell? ⟨gV, 0, none⟩ = some (.int .i64 8) ∧ w'.cell? ⟨gV, 1, none⟩ = some (.bool false) ∧ w'.cell? ⟨gV, 2, none⟩ = some (.int .i64 0) ∧ w'.cell? ⟨gV, 3, none⟩ = some (.string ⟨#[]⟩) ∧ w'.cell? ⟨gV, 4, none⟩ = some (.int .i64 0) ∧ w'.cell? ⟨gV, 5, none⟩ = some (.slice K1 ks.length d1) ∧ w'.cell? ⟨gV, 6, none⟩ = some (.slice I1 is.length d2) ∧ w'.cell? ⟨gV, 7, none⟩ = some (.slice R1 0 d3) ∧ w'.cell? ⟨g742, 0, none⟩ = some (.int .i64 y0.kind) ∧ w'.cell? ⟨g742, 1, none⟩ = some (.bool y0.bool) ∧ w'.cell? ⟨g742, 2, none⟩ = some (.int .i64 y0.num) ∧ w'.cell? ⟨g742, 3, none⟩ = some (.string ⟨y0.str.toArray⟩) ∧ w'.cell? ⟨g742, 4, none⟩ = some (.int .i64 y0.id) ∧ w'.cell? ⟨g742, 5, none⟩ = some (.slice Y10 y0.keys.length z10) ∧ w'.cell? ⟨g742, 6, none⟩ = some (.slice Y20 y0.items.length z20) ∧ w'.cell? ⟨g742, 7, none⟩ = some (.slice Y30 y0.rest.length z30) ∧ w'.cell? ⟨gX, 8, none⟩ = some (.int .i64 ts[i].elem))) (fun j => j == 7) (by kernel_rfl) ⟨cV_0, cV_1, cV_2, cV_3, cV_4, cV_5, cV_6, cV_7, cKB_0, cKB_1, cKB_2, cKB_3, cKB_4, cKB_5, cKB_6, cKB_7, cX_8⟩ (fun hHeld => ?_)
   clear cV_0 cV_1 cV_2 cV_3 cV_4 cV_5 cV_6 cV_7 cKB_0 cKB_1 cKB_2 cKB_3 cKB_4 cKB_5 cKB_6 cKB_7 cX_8
   have hb749 : Below wd740.heap.size wd740 (wd740.drew) := (Below.refl _ _).drew
   replace R := dB R hb749
   replace X := dB X hb749
   replace V := dB V hb749
   replace KB := dB KB hb749
   replace O := dK O hb749
   replace Y0 := dK Y0 hb749
   replace TK := Lib.hid (TK.out.below hb749)
   clear hb749
   generalize wd740.drew = wd750 at *
   refine tkT (i := 0) (v := ?k751) ?_
   simp only [put_laws2]
   refine tkT (i := 1) (v := ?k752) ?_
   simp only [put_laws2]
   refine tkT (i := 2) (v := ?k753) ?_
   simp only [put_laws2]
   refine tkT (i := 3) (v := ?k754) ?_
   simp only [put_laws2]
   refine tkT (i := 4) (v := ?k755) ?_
   simp only [put_laws2]
   refine rdT1 (i := 5) (fun K hK => ?_)
   go_simp
   have hUL := O.out.le
   have hUK := KB.out.here
   obtain ⟨L1, hL1⟩ : ∃ L, L = wd750.heap.size := ⟨_, rfl⟩
   rw [← hL1] at hUL hUK
   have hLX1 : gX < L1 := hL1 ▸ X.out.here
   have hLV1 : gV < L1 := hL1 ▸ V.out.here
   have hLR1 : w.heap.size < L1 := hL1 ▸ R.out.here
   have hLg1 : gm < L1 := by have := R.out.here; omega
   ((with_reducible refine (HIE.out l20 _ (by omega) TK.out.at_ (HT.out.keep (fun p hp => TK.out.low hp) (Nat.le_refl _))).mono ?_); rintro e wd756 ⟨y1, yk1, yi1, yr1, l21, rfl, hyp1, hyF1, hT⟩)
   rw [← hL1] at hyp1
   have hTL1 := hT.len
   replace R := Lib.hid (R.out.gr hT.gr (show w.heap.size ≠ gm by omega))
   replace X := Lib.hid (X.out.gr hT.gr (show gX ≠ gm by omega))
   replace V := Lib.hid (V.out.gr hT.gr (show gV ≠ gm by omega))
   replace KB := Lib.hid (KB.out.gr hT.gr (show g742 ≠ gm by omega))
   replace O := Lib.hid (O.out.gr hT.gr (show U0 ≤ gm ∨ gm < gV + 1 by omega))
   replace Y0 := Lib.hid (Y0.out.gr hT.gr (show g742 ≤ gm ∨ gm < L0 by omega))
   replace TK := Lib.hid (TK.out.trans hT)
   clear hT
   obtain ⟨Y11, z11, Y21, z21, Y31, z31, rfl, rfl, rfl, -, -, -⟩ := hyp1.forms
   have hyk1 := hyp1.keptB (w0 := w) (B := B) (L := L1) (fun _ h => .inr h) TK.out.lowh
   have HYF1 := Lib.hid hyF1
   have Y1 := Lib.hid (hyk1)
   clear hyp1 hyk1 hL1 hyF1
   try clear hHeld
   refine hK.out _ _ (d8 V (d8 KB (X.out.cell 8))) (fun hHeld => ?_)
   clear hK K
   refine rdT1 (i := 6) (fun K hK => ?_)
   go_simp
   obtain ⟨Z0, hZ0⟩ : ∃ Z, Z = wd756.heap.size := ⟨_, rfl⟩
   have hZK := KB.out.here
   have hZV := V.out.here
   have hZU := O.out.le
   rw [← hZ0] at hZK hZV hZU
   have hSU : ∀ q, (gV + 1 ≤ q ∧ q < Z0) → q < wd756.heap.size := fun q hq => by omega
   have hpo := (O.out.now TK.out.lowh).keep (S' := fun q => gV + 1 ≤ q ∧ q < Z0) (fun _ _ => rfl) (fun q hq => by have := HS.out q hq; omega)
   have hpk := (Y0.out.now TK.out.lowh).keep (S' := fun q => gV + 1 ≤ q ∧ q < Z0) (fun _ _ => rfl) (fun q hq => by omega)
   have hpt := (Y1.out.now TK.out.lowh).keep (S' := fun q => gV + 1 ≤ q ∧ q < Z0) (fun _ _ => rfl) (fun q hq => by omega)
   obtain ⟨ks', is', hpv, hne, hil', hkl'⟩ := putV_map ks is y0 y1 HIL.out
   have hpc : Calls Try.prog 68 #[.agg #[.int .i64 8, .bool false, .int .i64 0, .string ⟨#[]⟩, .int .i64 0, .slice K1 ks.length d1, .slice I1 is.length d2, .slice R1 0 d3], .agg #[.int .i64 y0.kind, .bool y0.bool, .int .i64 y0.num, .string ⟨y0.str.toArray⟩, .int .i64 y0.id, .slice Y10 y0.keys.length z10, .slice Y20 y0.items.length z20, .slice Y30 y0.rest.length z30], valA y1 (.slice Y11 y1.keys.length z11) (.slice Y21 y1.items.length z21) (.slice Y31 y1.rest.length z31)] wd756 (PutPost wd756 (fun q => gV + 1 ≤ q ∧ q < Z0) (putV (mapV ks is) y0 y1)) := put_any (mapV ks is) y0 y1 (fun q => gV + 1 ≤ q ∧ q < Z0) _ _ _ _ _ _ _ _ _ _ hSU hpo hpk hpt H00.out HIL.out (by show ks.length ≤ 100; omega)
   have hfp := fit_put (typAt_get ts i hi) hk HF.out HYF0.out HYF1.out (by rw [HMX.out]; show (ks.length : Int) + 1 ≤ m; omega)
   rw [hpv] at hpc hfp
   have HFP := Lib.hid hfp
   have HPC := Lib.hid hpc
   clear hpo hpk hpt hpc hfp hSU
   clear Y0
   clear Y1
   clear O
   ((with_reducible refine (HPC.out).mono ?_); rintro e wd758 ⟨pk, pi, pr, rfl, hput, hbp⟩)
   have hzs := hbp.size
   rw [← hZ0] at hzs hput
   replace R := dB R hbp
   replace X := dB X hbp
   replace V := dB V hbp
   replace KB := dB KB hbp
   replace TK := Lib.hid (TK.out.below hbp)
   clear HPC hZ0 hbp
   obtain ⟨K1', d1', I1', d2', R1', d3', rfl, rfl, rfl, -, -, -⟩ := hput.forms
   have hS3 : ∀ q, ((gV + 1 ≤ q ∧ q < Z0) ∨ (Z0 ≤ q ∧ q < wd758.heap.size)) → gV + 1 ≤ q ∧ q < wd758.heap.size := fun q hq => by omega
   have hpq := hput.keep (S' := fun q => gV + 1 ≤ q ∧ q < wd758.heap.size) (fun _ _ => rfl) hS3
   have hpp := hpq.keptB (w0 := w) (B := B) (L := gV + 1) (fun _ h => .inr h) TK.out.lowh
   have O := Lib.hid (hpp)
   clear hput hpq hpp hS3
   try clear hHeld
   refine hK.out _ _ (d8 V (d8 KB (X.out.cell 8))) (fun hHeld => ?_)
   clear hK K
   refine rdTL (i := 7) (fun K hK => ?_)
   refine step_store_row (by rfl) 34 _ _ (by rfl) (gV) #[.int .i64 8, .bool false, .int .i64 0, .string ⟨#[]⟩, .int .i64 0, .slice K1' ks'.length d1', .slice I1' is'.length d2', .slice R1' 0 d3'] (by rfl) (by rfl) 34 _ V.out (by kernel_rfl) rfl (by simp [Value.oneCell']) ?_
   obtain ⟨wd760, hE761⟩ : ∃ ww, ww = wd758.setRow (gV) #[.int .i64 8, .bool false, .int .i64 0, .string ⟨#[]⟩, .int .i64 0, .slice K1' ks'.length d1', .slice I1' is'.length d2', .slice R1' 0 d3'] := ⟨_, rfl⟩
   rw [← hE761]
   replace R := dR R hE761 (by omega)
   replace X := dR X hE761 (by omega)
   replace KB := dR KB hE761 (by omega)
   replace V := dO V hE761
   replace O := kR O hE761 (by omega)
   replace TK := Lib.hid (TK.out.belowL (hE761 ▸ below_rowL (gV) wd758 #[.int .i64 8, .bool false, .int .i64 0, .string ⟨#[]⟩, .int .i64 0, .slice K1' ks'.length d1', .slice I1' is'.length d2', .slice R1' 0 d3']) (show w.heap.size ≤ gV by omega))
   clear hE761
   try clear hHeld
   refine hK.out _ _ ?_
   clear hK K
   refine wpAnyT_done (by kernel_rfl) ?_ _
   try clear hHeld
   go_wp2_with fail
   go_roundw
   case rel =>
    exact ⟨ks', is', q - 1, l21, _, K1', d1', I1', d2', R1', d3', by omega, hil', by go_num, fun _ => by omega, V.out, X.out, R.out, TK.out, O.out.now TK.out.lowh, fun q hq => by have := O.out.le; omega, fun h => absurd h hne, HFP.out⟩
   case measure => simp [intOf]; omega
  obtain rfl : q = 0 := by omega
  go_upto_region 44 with fail
  obtain ⟨cV_0, cV_1, cV_2, cV_3, cV_4, cV_5, cV_6, cV_7⟩ := V.out.c8
  go_wp2_with (refine wpList_store_row rfl 34 _ _ rfl (w.heap.size) _ rfl rfl 34 _ R.out (by kernel_rfl) rfl (by simp [Value.oneCell']) ?_)
  clear cV_0 cV_1 cV_2 cV_3 cV_4 cV_5 cV_6 cV_7
  obtain ⟨wd762, hE763⟩ : ∃ ww, ww = wr.setRow (w.heap.size) #[.int .i64 8, .bool false, .int .i64 0, .string ⟨#[]⟩, .int .i64 0, .slice K1 ks.length d1, .slice I1 is.length d2, .slice R1 0 d3] := ⟨_, rfl⟩
  rw [← hE763]
  replace X := dR X hE763 (by omega)
  replace V := dR V hE763 (by omega)
  replace R := dO R hE763
  replace O := kR O hE763 (by omega)
  replace TK := Lib.hid (TK.out.belowL (hE763 ▸ below_rowL (w.heap.size) wr #[.int .i64 8, .bool false, .int .i64 0, .string ⟨#[]⟩, .int .i64 0, .slice K1 ks.length d1, .slice I1 is.length d2, .slice R1 0 d3]) (show w.heap.size ≤ w.heap.size by omega))
  clear hE763
  have ho := O.out.now TK.out.lowh
  have hle := O.out.le
  have hr := ho.keep (S' := fun q => w.heap.size ≤ q ∧ q < wd762.heap.size) (fun _ _ => rfl) (fun q hq => by have := HS.out q hq; omega)
  obtain ⟨cR_0, cR_1, cR_2, cR_3, cR_4, cR_5, cR_6, cR_7⟩ := R.out.c8
  exact bodyPost_ret (v := .agg #[.int .i64 8, .bool false, .int .i64 0, .string ⟨#[]⟩, .int .i64 0, .slice K1 ks.length d1, .slice I1 is.length d2, .slice R1 0 d3]) (by simp [results, Try.results40, go_sem, cR_0, cR_1, cR_2, cR_3, cR_4, cR_5, cR_6, cR_7]) rfl (⟨mapV ks is, _, _, _, lc, rfl, hr, HF.out, TK.out⟩)
end Go.Proofs.Ytgeapglanckjpaa

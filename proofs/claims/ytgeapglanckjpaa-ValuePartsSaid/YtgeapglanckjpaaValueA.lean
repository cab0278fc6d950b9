/- What the maker's value leaves, kinds 1 to 4. No condition. -/
import Derived.Test.YtgeapglanckjpaaMaker
import Derived.Test.YtgeapglanckjpaaMadeP
set_option maxHeartbeats 1600000
namespace Go.Proofs.Ytgeapglanckjpaa
open Go.ChangeShapes Go.WideShapes Go.ChangeAt Go.RowKit
def MadePost (w : World) (B gm : Nat) (vt : Value) (odd : Bool) (l : List UInt8) (F : Val → Prop) (e : Ending) (w' : World) : Prop :=
 ∃ (x : Val) (vk vi vr : Value) (l' : List UInt8), e = .returned (valA x vk vi vr) ∧ ValP w' (fun b => w.heap.size ≤ b ∧ b < w'.heap.size) x vk vi vr ∧ F x ∧ Took w B gm vt odd l l' w'
theorem Took.low {w w1 : World} {B gm : Nat} {vt : Value} {odd : Bool} {l l1 : List UInt8} (h : Took w B gm vt odd l l1 w1) {p : Addr} (hp : p.block < B) (hB : B ≤ gm := by assumption) (hg : gm < w.heap.size := by assumption) : w1.cell? p = w.cell? p :=
 World.cell?_of_block (h.gr.block p.block (by omega) (fun e => by injection e; omega))
theorem bareP (w : World) (S : Nat → Prop) (k n i : Int) (b : Bool) (st : List UInt8) (h1 : I64 k) (h2 : I64 n) (h3 : I64 i) (h4 : st.length ≤ 1000) : ValP w S (.mk k b n st i [] [] []) (.slice none 0 0) (.slice none 0 0) (.slice none 0 0) :=
 ⟨⟨h1, h2, h3⟩, by simp [Val.str]; omega, ⟨by simp [Val.keys], by simp [Val.items], by simp [Val.rest]⟩, by simp [Val.rest],
  ⟨fun _ => [], ⟨none, 0, rfl, Nat.le_refl _, .inl rfl⟩, fun i h => by simp [Val.keys] at h⟩, ⟨fun _ => [], ⟨none, 0, rfl, Nat.le_refl _, .inl rfl⟩, fun i h => by simp [Val.items] at h⟩, ⟨rfl, none, 0, rfl, Nat.le_refl _, .inl rfl⟩⟩
theorem typAt_get (ts : List Typ) (i : Nat) (hi : i < ts.length) : typAt ts (i : Nat) = some ts[i] := by
 unfold typAt
 rw [if_pos (by omega), Int.toNat_natCast, List.getElem?_eq_getElem hi]
set_option maxRecDepth 100000 in
theorem value1_any (B gm : Nat) (A : Option Addr) (c : Nat) (odd : Bool) (l : List UInt8) (ts : List Typ) (i : Nat) (hi : i < ts.length) (w : World) (hk : ts[i].kind = 1) (hM : MkAt w B gm (.slice A ts.length c) odd l) (hT : RdTyps w B (.slice A ts.length c) ts) :
  Calls Try.prog 40 #[.pointer (some ⟨gm, 0, none⟩), .int .i64 i] w (MadePost w B gm (.slice A ts.length c) odd l fun x => fitV ts (!odd) x i = true) := by
 have hgw := hM.here
 have hBg := hM.le
 obtain ⟨b, o, rfl, hb, hcs⟩ := hT.elem (by omega)
 obtain ⟨vs, vm, ⟨y0, y1, y2, y3, y4, y5, y6, y7, y8, y9⟩, hty⟩ := hcs i hi
 obtain ⟨C1, m1, C2, m2, rfl, rfl, -, -⟩ := hty.forms
 have hi1 : (i : Int) < ts.length := by omega
 have hi0 : (0 : Int) ≤ (i : Int) := by omega
 rw [hk] at y0
 have HM := Lib.hid hM
 have HTY := Lib.hid hty
 have HT := Lib.hid hT
 clear hcs hty hT
 obtain ⟨⟨A1, c1, M, _⟩, _, _⟩ := hM
 replace M := Lib.hid M
 have cM_0 : w.cell? ⟨gm, 0, none⟩ = some (.slice (some ⟨b, o, none⟩) ts.length c) := M.out.cell 0
 have cM_1 : w.cell? ⟨gm, 1, none⟩ = some (.slice A1 l.length c1) := M.out.cell 1
 have cM_2 : w.cell? ⟨gm, 2, none⟩ = some (.bool odd) := M.out.cell 2
 go_enter Try.func40, Try.ntmps40
 go_upto_region 1 with fail
 clear cM_0 cM_1 cM_2
 obtain ⟨wd44, hE45⟩ : ∃ ww, ww = w.alloc (.cells #[.int .i64 0, .bool false, .int .i64 0, .string ⟨#[]⟩, .int .i64 0, .slice none 0 0, .slice none 0 0, .slice none 0 0] 34) := ⟨_, rfl⟩
 rw [← hE45]
 have hb43 := aB hE45
 have R := aN hE45
 clear hE45
 replace M := dB M hb43
 have hw46 := hb43
 clear hb43
 have hbl : b < w.heap.size := by omega
 have z0 := ((hw46).cell (p := ⟨b, o + i * 10, none⟩) hbl).trans y0
 have z1 := ((hw46).cell (p := ⟨b, o + i * 10 + 1, none⟩) hbl).trans y1
 have z2 := ((hw46).cell (p := ⟨b, o + i * 10 + 2, none⟩) hbl).trans y2
 have z3 := ((hw46).cell (p := ⟨b, o + i * 10 + 3, none⟩) hbl).trans y3
 have z4 := ((hw46).cell (p := ⟨b, o + i * 10 + 4, none⟩) hbl).trans y4
 have z5 := ((hw46).cell (p := ⟨b, o + i * 10 + 5, none⟩) hbl).trans y5
 have z6 := ((hw46).cell (p := ⟨b, o + i * 10 + 6, none⟩) hbl).trans y6
 have z7 := ((hw46).cell (p := ⟨b, o + i * 10 + 7, none⟩) hbl).trans y7
 have z8 := ((hw46).cell (p := ⟨b, o + i * 10 + 8, none⟩) hbl).trans y8
 have z9 := ((hw46).cell (p := ⟨b, o + i * 10 + 9, none⟩) hbl).trans y9
 have cM_0 : wd44.cell? ⟨gm, 0, none⟩ = some (.slice (some ⟨b, o, none⟩) ts.length c) := M.out.cell 0
 have cM_1 : wd44.cell? ⟨gm, 1, none⟩ = some (.slice A1 l.length c1) := M.out.cell 1
 have cM_2 : wd44.cell? ⟨gm, 2, none⟩ = some (.bool odd) := M.out.cell 2
 go_upto_region 2 with fail
 clear cM_0 cM_1 cM_2
 obtain ⟨wd48, hE49⟩ : ∃ ww, ww = wd44.alloc (.cells #[.int .i64 1, .string ⟨ts[i].name.toArray⟩, .int .i64 ts[i].low, .int .i64 ts[i].high, .int .i64 ts[i].max, .slice C1 ts[i].syms.length m1, .slice C2 ts[i].mems.length m2, .int .i64 ts[i].key, .int .i64 ts[i].elem, .bool ts[i].opn] 64) := ⟨_, rfl⟩
 rw [← hE49]
 have hb47 := aB hE49
 have X := aN hE49
 clear hE49
 have hl51 := M.out.here
 have hl52 := R.out.here
 have hl53 := hw46.size
 replace M := dB M hb47
 replace R := dB R hb47
 replace hw46 := dT hw46 hb47
 clear hb47
 generalize wd44.heap.size = g50 at *
 clear y0 y1 y2 y3 y4 y5 y6 y7 y8 y9 z0 z1 z2 z3 z4 z5 z6 z7 z8 z9
 have cX_0 : wd48.cell? ⟨g50, 0, none⟩ = some (.int .i64 1) := X.out.cell 0
 go_upto_region 3 with fail
 clear cX_0
 obtain ⟨wd55, hE56⟩ : ∃ ww, ww = wd48.alloc (.cells #[.int .i64 1, .bool false, .int .i64 0, .string ⟨#[]⟩, .int .i64 0, .slice none 0 0, .slice none 0 0, .slice none 0 0] 34) := ⟨_, rfl⟩
 rw [← hE56]
 have hb54 := aB hE56
 have V := aN hE56
 clear hE56
 have hl58 := M.out.here
 have hl59 := R.out.here
 have hl60 := X.out.here
 have hl61 := hw46.size
 replace M := dB M hb54
 replace R := dB R hb54
 replace X := dB X hb54
 replace hw46 := dT hw46 hb54
 clear hb54
 generalize wd48.heap.size = g57 at *
 have cX_0 : wd55.cell? ⟨g50, 0, none⟩ = some (.int .i64 1) := X.out.cell 0
 clear M
 have hTK := Took.below (Took.refl HM.out) (hw46)
 have TK := Lib.hid (hTK)
 clear HM hTK
 go_wp2_with fail
 clear cX_0
 ((with_reducible refine (next_any B gm (.slice (some ⟨b, o, none⟩) ts.length c) odd l 2 2 _ rfl (by omega) (by omega) TK.out.at_).mono ?_); rintro e wd62 ⟨k, l', hk2, hk0, hkl, rfl, hT⟩)
 clear hk0 hkl
 replace R := Lib.hid (R.out.gr hT.gr (show w.heap.size ≠ gm by omega))
 replace X := Lib.hid (X.out.gr hT.gr (show g50 ≠ gm by omega))
 replace V := Lib.hid (V.out.gr hT.gr (show g57 ≠ gm by omega))
 replace TK := Lib.hid (TK.out.trans hT)
 clear hT
 obtain ⟨cV_0, cV_1, cV_2, cV_3, cV_4, cV_5, cV_6, cV_7⟩ := V.out.c8
 have fV_1 := V.out.free 1
 go_upto_region 44 with fail
 clear cV_0 cV_1 cV_2 cV_3 cV_4 cV_5 cV_6 cV_7 fV_1
 obtain ⟨wd64, hE65⟩ : ∃ ww, ww = wd62.setCell ⟨g57, 1, none⟩ (.bool ((k : Int) == 1)) := ⟨_, rfl⟩
 rw [← hE65]
 replace R := dF R hE65 (by omega)
 replace X := dF X hE65 (by omega)
 replace V : Hid (Has wd64 (g57) 34 #[.int .i64 1, .bool ((k : Int) == 1), .int .i64 0, .string ⟨#[]⟩, .int .i64 0, .slice none 0 0, .slice none 0 0, .slice none 0 0]) := Lib.hid (by simpa using dS V hE65)
 replace TK := Lib.hid (TK.out.belowL (hE65 ▸ below_set (Below.refl (g57) wd62) (Nat.le_refl _) 1 (.bool ((k : Int) == 1))) (show w.heap.size ≤ g57 by omega))
 clear hE65
 obtain ⟨cV_0, cV_1, cV_2, cV_3, cV_4, cV_5, cV_6, cV_7⟩ := V.out.c8
 go_wp2_with (refine wpList_store_row rfl 34 _ _ rfl (w.heap.size) _ rfl rfl 34 _ R.out (by kernel_rfl) rfl (by simp [Value.oneCell']) ?_)
 clear cV_0 cV_1 cV_2 cV_3 cV_4 cV_5 cV_6 cV_7
 obtain ⟨wd66, hE67⟩ : ∃ ww, ww = wd64.setRow (w.heap.size) #[.int .i64 1, .bool ((k : Int) == 1), .int .i64 0, .string ⟨#[]⟩, .int .i64 0, .slice none 0 0, .slice none 0 0, .slice none 0 0] := ⟨_, rfl⟩
 rw [← hE67]
 replace X := dR X hE67 (by omega)
 replace V := dR V hE67 (by omega)
 replace R := dO R hE67
 replace TK := Lib.hid (TK.out.belowL (hE67 ▸ below_rowL (w.heap.size) wd64 #[.int .i64 1, .bool ((k : Int) == 1), .int .i64 0, .string ⟨#[]⟩, .int .i64 0, .slice none 0 0, .slice none 0 0, .slice none 0 0]) (show w.heap.size ≤ w.heap.size by omega))
 clear hE67
 obtain ⟨cR_0, cR_1, cR_2, cR_3, cR_4, cR_5, cR_6, cR_7⟩ := R.out.c8
 exact bodyPost_ret (v := .agg #[.int .i64 1, .bool ((k : Int) == 1), .int .i64 0, .string ⟨#[]⟩, .int .i64 0, .slice none 0 0, .slice none 0 0, .slice none 0 0]) (by simp [results, Try.results40, go_sem, cR_0, cR_1, cR_2, cR_3, cR_4, cR_5, cR_6, cR_7]) rfl (⟨.mk 1 ((k : Int) == 1) 0 [] 0 [] [] [], .slice none 0 0, .slice none 0 0, .slice none 0 0, l', rfl, bareP _ _ _ _ _ _ _ (by simp [I64]) (by simp [I64]) (by simp [I64]) (by simp), (by show fitV ts (!odd) _ _ = true; rw [fitV_eq, typAt_get ts i hi]; simp [hk, properB, bodyR, Val.kind, Val.num, Val.str, Val.id, Val.keys, Val.items, Val.rest]), TK.out⟩)
set_option maxRecDepth 100000 in
theorem value2_any (B gm : Nat) (A : Option Addr) (c : Nat) (odd : Bool) (l : List UInt8) (ts : List Typ) (i : Nat) (hi : i < ts.length) (w : World) (hk : ts[i].kind = 2) (hlo : -3 ≤ ts[i].low ∧ ts[i].low ≤ ts[i].high ∧ ts[i].high ≤ 8) (hM : MkAt w B gm (.slice A ts.length c) odd l) (hT : RdTyps w B (.slice A ts.length c) ts) :
  Calls Try.prog 40 #[.pointer (some ⟨gm, 0, none⟩), .int .i64 i] w (MadePost w B gm (.slice A ts.length c) odd l fun x => fitV ts (!odd) x i = true) := by
 obtain ⟨d, hd⟩ : ∃ d : Nat, ts[i].high - ts[i].low + 1 = (d : Int) := ⟨(ts[i].high - ts[i].low + 1).toNat, by omega⟩
 have hd1 : 1 ≤ d ∧ d ≤ 12 := by omega
 have HD := Lib.hid hd
 have HLO := Lib.hid hlo
 clear hd hlo
 have hgw := hM.here
 have hBg := hM.le
 obtain ⟨b, o, rfl, hb, hcs⟩ := hT.elem (by omega)
 obtain ⟨vs, vm, ⟨y0, y1, y2, y3, y4, y5, y6, y7, y8, y9⟩, hty⟩ := hcs i hi
 obtain ⟨C1, m1, C2, m2, rfl, rfl, -, -⟩ := hty.forms
 have hi1 : (i : Int) < ts.length := by omega
 have hi0 : (0 : Int) ≤ (i : Int) := by omega
 rw [hk] at y0
 have HM := Lib.hid hM
 have HTY := Lib.hid hty
 have HT := Lib.hid hT
 clear hcs hty hT
 obtain ⟨⟨A1, c1, M, _⟩, _, _⟩ := hM
 replace M := Lib.hid M
 have cM_0 : w.cell? ⟨gm, 0, none⟩ = some (.slice (some ⟨b, o, none⟩) ts.length c) := M.out.cell 0
 have cM_1 : w.cell? ⟨gm, 1, none⟩ = some (.slice A1 l.length c1) := M.out.cell 1
 have cM_2 : w.cell? ⟨gm, 2, none⟩ = some (.bool odd) := M.out.cell 2
 go_enter Try.func40, Try.ntmps40
 go_upto_region 1 with fail
 clear cM_0 cM_1 cM_2
 obtain ⟨wd69, hE70⟩ : ∃ ww, ww = w.alloc (.cells #[.int .i64 0, .bool false, .int .i64 0, .string ⟨#[]⟩, .int .i64 0, .slice none 0 0, .slice none 0 0, .slice none 0 0] 34) := ⟨_, rfl⟩
 rw [← hE70]
 have hb68 := aB hE70
 have R := aN hE70
 clear hE70
 replace M := dB M hb68
 have hw71 := hb68
 clear hb68
 have hbl : b < w.heap.size := by omega
 have z0 := ((hw71).cell (p := ⟨b, o + i * 10, none⟩) hbl).trans y0
 have z1 := ((hw71).cell (p := ⟨b, o + i * 10 + 1, none⟩) hbl).trans y1
 have z2 := ((hw71).cell (p := ⟨b, o + i * 10 + 2, none⟩) hbl).trans y2
 have z3 := ((hw71).cell (p := ⟨b, o + i * 10 + 3, none⟩) hbl).trans y3
 have z4 := ((hw71).cell (p := ⟨b, o + i * 10 + 4, none⟩) hbl).trans y4
 have z5 := ((hw71).cell (p := ⟨b, o + i * 10 + 5, none⟩) hbl).trans y5
 have z6 := ((hw71).cell (p := ⟨b, o + i * 10 + 6, none⟩) hbl).trans y6
 have z7 := ((hw71).cell (p := ⟨b, o + i * 10 + 7, none⟩) hbl).trans y7
 have z8 := ((hw71).cell (p := ⟨b, o + i * 10 + 8, none⟩) hbl).trans y8
 have z9 := ((hw71).cell (p := ⟨b, o + i * 10 + 9, none⟩) hbl).trans y9
 have cM_0 : wd69.cell? ⟨gm, 0, none⟩ = some (.slice (some ⟨b, o, none⟩) ts.length c) := M.out.cell 0
 have cM_1 : wd69.cell? ⟨gm, 1, none⟩ = some (.slice A1 l.length c1) := M.out.cell 1
 have cM_2 : wd69.cell? ⟨gm, 2, none⟩ = some (.bool odd) := M.out.cell 2
 go_upto_region 2 with fail
 clear cM_0 cM_1 cM_2
 obtain ⟨wd73, hE74⟩ : ∃ ww, ww = wd69.alloc (.cells #[.int .i64 2, .string ⟨ts[i].name.toArray⟩, .int .i64 ts[i].low, .int .i64 ts[i].high, .int .i64 ts[i].max, .slice C1 ts[i].syms.length m1, .slice C2 ts[i].mems.length m2, .int .i64 ts[i].key, .int .i64 ts[i].elem, .bool ts[i].opn] 64) := ⟨_, rfl⟩
 rw [← hE74]
 have hb72 := aB hE74
 have X := aN hE74
 clear hE74
 have hl76 := M.out.here
 have hl77 := R.out.here
 have hl78 := hw71.size
 replace M := dB M hb72
 replace R := dB R hb72
 replace hw71 := dT hw71 hb72
 clear hb72
 generalize wd69.heap.size = g75 at *
 clear y0 y1 y2 y3 y4 y5 y6 y7 y8 y9 z0 z1 z2 z3 z4 z5 z6 z7 z8 z9
 have cX_0 : wd73.cell? ⟨g75, 0, none⟩ = some (.int .i64 2) := X.out.cell 0
 go_upto_region 3 with fail
 clear cX_0
 obtain ⟨wd80, hE81⟩ : ∃ ww, ww = wd73.alloc (.cells #[.int .i64 2, .bool false, .int .i64 0, .string ⟨#[]⟩, .int .i64 0, .slice none 0 0, .slice none 0 0, .slice none 0 0] 34) := ⟨_, rfl⟩
 rw [← hE81]
 have hb79 := aB hE81
 have V := aN hE81
 clear hE81
 have hl83 := M.out.here
 have hl84 := R.out.here
 have hl85 := X.out.here
 have hl86 := hw71.size
 replace M := dB M hb79
 replace R := dB R hb79
 replace X := dB X hb79
 replace hw71 := dT hw71 hb79
 clear hb79
 generalize wd73.heap.size = g82 at *
 have cX_0 : wd80.cell? ⟨g75, 0, none⟩ = some (.int .i64 2) := X.out.cell 0
 clear M
 have hTK := Took.below (Took.refl HM.out) (hw71)
 have TK := Lib.hid (hTK)
 clear HM hTK
 go_upto_region 9 with fail
 have e1 : IntKind.i64.wrap (ts[i].high - ts[i].low) = ts[i].high - ts[i].low := IntWalk.i64_in _ (by have := HLO.out; omega)
 have e2 : ts[i].high - ts[i].low + 1 = (d : Int) := HD.out
 have e3 : IntKind.i64.wrap (d : Int) = d := IntWalk.i64_in _ (by omega)
 have e4 : ¬ (d : Int) = 0 := by omega
 have e9 : ¬ d = 0 := by omega
 have cX_2 : wd80.cell? ⟨g75, 2, none⟩ = some (.int .i64 ts[i].low) := X.out.cell 2
 have cX_3 : wd80.cell? ⟨g75, 3, none⟩ = some (.int .i64 ts[i].high) := X.out.cell 3
 refine wp_region_held_drew (S := (fun w' => w'.cell? ⟨g75, 2, none⟩ = some (.int .i64 ts[i].low) ∧ w'.cell? ⟨g75, 3, none⟩ = some (.int .i64 ts[i].high))) (by kernel_rfl) ⟨cX_2, cX_3⟩ (fun hHeld => ?_)
 clear cX_0 cX_2 cX_3
 have hb87 : Below wd80.heap.size wd80 (wd80.drew) := (Below.refl _ _).drew
 replace R := dB R hb87
 replace X := dB X hb87
 replace V := dB V hb87
 replace TK := Lib.hid (TK.out.below hb87)
 clear hb87
 generalize wd80.drew = wd88 at *
 refine tk (i := 0) (v := ?k89) ?_
 simp only [put_laws2]
 refine tk (i := 1) (v := ?k90) ?_
 simp only [put_laws2]
 refine tk (i := 2) (v := ?k91) ?_
 simp only [put_laws2]
 refine tk (i := 4) (v := ?k92) ?_
 simp only [put_laws2]
 refine tk (i := 5) (v := ?k93) ?_
 simp only [put_laws2]
 refine tk (i := 6) (v := ?k94) ?_
 simp only [put_laws2]
 refine tk (i := 7) (v := ?k95) ?_
 simp only [put_laws2]
 refine tk (i := 8) (v := ?k96) ?_
 simp only [put_laws2]
 refine tk (i := 9) (v := ?k97) ?_
 simp only [put_laws2]
 refine rd1 (i := 3) (fun K hK => ?_)
 go_simp
 ((with_reducible refine (next_any B gm (.slice (some ⟨b, o, none⟩) ts.length c) odd l 256 256 _ rfl (by omega) (by omega) TK.out.at_).mono ?_); rintro e wd98 ⟨k, l', hk2, hk0, hkl, rfl, hT⟩)
 clear hk0 hkl
 replace R := Lib.hid (R.out.gr hT.gr (show w.heap.size ≠ gm by omega))
 replace X := Lib.hid (X.out.gr hT.gr (show g75 ≠ gm by omega))
 replace V := Lib.hid (V.out.gr hT.gr (show g82 ≠ gm by omega))
 replace TK := Lib.hid (TK.out.trans hT)
 clear hT
 have e5 : (k : Int).tmod (d : Int) = ((k % d : Nat) : Int) := by rw [Int.tmod_eq_emod_of_nonneg (by omega)]; push_cast; rfl
 have hkd : k % d < d := Nat.mod_lt _ (by omega)
 have e8 : IntKind.i64.wrap (k : Int) = k := IntWalk.i64_in _ (by omega)
 generalize k % d = q at *
 have e6 : IntKind.i64.wrap (q : Int) = q := IntWalk.i64_in _ (by omega)
 have e7 : IntKind.i64.wrap (ts[i].low + (q : Int)) = ts[i].low + (q : Int) := IntWalk.i64_in _ (by have := HLO.out; omega)
 try clear hHeld
 refine hK.out _ _ (⟨X.out.cell 2, X.out.cell 3⟩) (fun hHeld => ?_)
 clear hK K
 refine tk (i := 10) (v := ?k100) ?_
 simp only [put_laws2]
 refine tk (i := 11) (v := ?k101) ?_
 simp only [put_laws2]
 refine tk (i := 12) (v := ?k102) ?_
 simp only [put_laws2]
 refine rd1 (i := 13) (fun K hK => ?_)
 have cV_2 : wd98.cell? ⟨g82, 2, none⟩ = some (.int .i64 0) := V.out.cell 2
 have fV_2 := V.out.free 2
 go_simp
 clear cV_2 fV_2
 obtain ⟨wd103, hE104⟩ : ∃ ww, ww = wd98.setCell ⟨g82, 2, none⟩ (.int .i64 (ts[i].low + (q : Int))) := ⟨_, rfl⟩
 rw [← hE104]
 replace R := dF R hE104 (by omega)
 replace X := dF X hE104 (by omega)
 replace V : Hid (Has wd103 (g82) 34 #[.int .i64 2, .bool false, .int .i64 (ts[i].low + (q : Int)), .string ⟨#[]⟩, .int .i64 0, .slice none 0 0, .slice none 0 0, .slice none 0 0]) := Lib.hid (by simpa using dS V hE104)
 replace TK := Lib.hid (TK.out.belowL (hE104 ▸ below_set (Below.refl (g82) wd98) (Nat.le_refl _) 2 (.int .i64 (ts[i].low + (q : Int)))) (show w.heap.size ≤ g82 by omega))
 clear hE104
 try clear hHeld
 refine hK.out _ _ (⟨X.out.cell 2, X.out.cell 3⟩) (fun hHeld => ?_)
 clear hK K
 refine wpAnyH_done (by kernel_rfl) ?_ _
 try clear hHeld
 clear e1 e2 e3 e4 e5 e6 e7 e8 e9
 go_upto_region 44 with fail
 obtain ⟨cV_0, cV_1, cV_2, cV_3, cV_4, cV_5, cV_6, cV_7⟩ := V.out.c8
 go_wp2_with (refine wpList_store_row rfl 34 _ _ rfl (w.heap.size) _ rfl rfl 34 _ R.out (by kernel_rfl) rfl (by simp [Value.oneCell']) ?_)
 clear cV_0 cV_1 cV_2 cV_3 cV_4 cV_5 cV_6 cV_7
 obtain ⟨wd105, hE106⟩ : ∃ ww, ww = wd103.setRow (w.heap.size) #[.int .i64 2, .bool false, .int .i64 (ts[i].low + (q : Int)), .string ⟨#[]⟩, .int .i64 0, .slice none 0 0, .slice none 0 0, .slice none 0 0] := ⟨_, rfl⟩
 rw [← hE106]
 replace X := dR X hE106 (by omega)
 replace V := dR V hE106 (by omega)
 replace R := dO R hE106
 replace TK := Lib.hid (TK.out.belowL (hE106 ▸ below_rowL (w.heap.size) wd103 #[.int .i64 2, .bool false, .int .i64 (ts[i].low + (q : Int)), .string ⟨#[]⟩, .int .i64 0, .slice none 0 0, .slice none 0 0, .slice none 0 0]) (show w.heap.size ≤ w.heap.size by omega))
 clear hE106
 obtain ⟨cR_0, cR_1, cR_2, cR_3, cR_4, cR_5, cR_6, cR_7⟩ := R.out.c8
 exact bodyPost_ret (v := .agg #[.int .i64 2, .bool false, .int .i64 (ts[i].low + (q : Int)), .string ⟨#[]⟩, .int .i64 0, .slice none 0 0, .slice none 0 0, .slice none 0 0]) (by simp [results, Try.results40, go_sem, cR_0, cR_1, cR_2, cR_3, cR_4, cR_5, cR_6, cR_7]) rfl (⟨.mk 2 false (ts[i].low + (q : Int)) [] 0 [] [] [], .slice none 0 0, .slice none 0 0, .slice none 0 0, l', rfl, bareP _ _ _ _ _ _ _ (by simp [I64]) (by have := HLO.out; unfold I64; omega) (by simp [I64]) (by simp), (by show fitV ts (!odd) _ _ = true; rw [fitV_eq, typAt_get ts i hi]; have h1 := HLO.out; have h2 := HD.out; simp [hk, properB, bodyR, Val.kind, Val.bool, Val.num, Val.str, Val.id, Val.keys, Val.items, Val.rest]; exact decide_eq_true (by omega)), TK.out⟩)
set_option maxRecDepth 100000 in
theorem value3_any (B gm : Nat) (A : Option Addr) (c : Nat) (odd : Bool) (l : List UInt8) (ts : List Typ) (i : Nat) (hi : i < ts.length) (w : World) (hk : ts[i].kind = 3) (m : Nat) (hm : m ≤ 3) (hmx0 : ts[i].max = (m : Int)) (hM : MkAt w B gm (.slice A ts.length c) odd l) (hT : RdTyps w B (.slice A ts.length c) ts) :
  Calls Try.prog 40 #[.pointer (some ⟨gm, 0, none⟩), .int .i64 i] w (MadePost w B gm (.slice A ts.length c) odd l fun x => fitV ts (!odd) x i = true) := by
 have HMX := Lib.hid hmx0
 clear hmx0
 have hgw := hM.here
 have hBg := hM.le
 obtain ⟨b, o, rfl, hb, hcs⟩ := hT.elem (by omega)
 obtain ⟨vs, vm, ⟨y0, y1, y2, y3, y4, y5, y6, y7, y8, y9⟩, hty⟩ := hcs i hi
 obtain ⟨C1, m1, C2, m2, rfl, rfl, -, -⟩ := hty.forms
 have hi1 : (i : Int) < ts.length := by omega
 have hi0 : (0 : Int) ≤ (i : Int) := by omega
 rw [hk] at y0
 have HM := Lib.hid hM
 have HTY := Lib.hid hty
 have HT := Lib.hid hT
 clear hcs hty hT
 obtain ⟨⟨A1, c1, M, _⟩, _, _⟩ := hM
 replace M := Lib.hid M
 have cM_0 : w.cell? ⟨gm, 0, none⟩ = some (.slice (some ⟨b, o, none⟩) ts.length c) := M.out.cell 0
 have cM_1 : w.cell? ⟨gm, 1, none⟩ = some (.slice A1 l.length c1) := M.out.cell 1
 have cM_2 : w.cell? ⟨gm, 2, none⟩ = some (.bool odd) := M.out.cell 2
 go_enter Try.func40, Try.ntmps40
 go_upto_region 1 with fail
 clear cM_0 cM_1 cM_2
 obtain ⟨wd108, hE109⟩ : ∃ ww, ww = w.alloc (.cells #[.int .i64 0, .bool false, .int .i64 0, .string ⟨#[]⟩, .int .i64 0, .slice none 0 0, .slice none 0 0, .slice none 0 0] 34) := ⟨_, rfl⟩
 rw [← hE109]
 have hb107 := aB hE109
 have R := aN hE109
 clear hE109
 replace M := dB M hb107
 have hw110 := hb107
 clear hb107
 have hbl : b < w.heap.size := by omega
 have z0 := ((hw110).cell (p := ⟨b, o + i * 10, none⟩) hbl).trans y0
 have z1 := ((hw110).cell (p := ⟨b, o + i * 10 + 1, none⟩) hbl).trans y1
 have z2 := ((hw110).cell (p := ⟨b, o + i * 10 + 2, none⟩) hbl).trans y2
 have z3 := ((hw110).cell (p := ⟨b, o + i * 10 + 3, none⟩) hbl).trans y3
 have z4 := ((hw110).cell (p := ⟨b, o + i * 10 + 4, none⟩) hbl).trans y4
 have z5 := ((hw110).cell (p := ⟨b, o + i * 10 + 5, none⟩) hbl).trans y5
 have z6 := ((hw110).cell (p := ⟨b, o + i * 10 + 6, none⟩) hbl).trans y6
 have z7 := ((hw110).cell (p := ⟨b, o + i * 10 + 7, none⟩) hbl).trans y7
 have z8 := ((hw110).cell (p := ⟨b, o + i * 10 + 8, none⟩) hbl).trans y8
 have z9 := ((hw110).cell (p := ⟨b, o + i * 10 + 9, none⟩) hbl).trans y9
 have cM_0 : wd108.cell? ⟨gm, 0, none⟩ = some (.slice (some ⟨b, o, none⟩) ts.length c) := M.out.cell 0
 have cM_1 : wd108.cell? ⟨gm, 1, none⟩ = some (.slice A1 l.length c1) := M.out.cell 1
 have cM_2 : wd108.cell? ⟨gm, 2, none⟩ = some (.bool odd) := M.out.cell 2
 go_upto_region 2 with fail
 clear cM_0 cM_1 cM_2
 obtain ⟨wd112, hE113⟩ : ∃ ww, ww = wd108.alloc (.cells #[.int .i64 3, .string ⟨ts[i].name.toArray⟩, .int .i64 ts[i].low, .int .i64 ts[i].high, .int .i64 ts[i].max, .slice C1 ts[i].syms.length m1, .slice C2 ts[i].mems.length m2, .int .i64 ts[i].key, .int .i64 ts[i].elem, .bool ts[i].opn] 64) := ⟨_, rfl⟩
 rw [← hE113]
 have hb111 := aB hE113
 have X := aN hE113
 clear hE113
 have hl115 := M.out.here
 have hl116 := R.out.here
 have hl117 := hw110.size
 replace M := dB M hb111
 replace R := dB R hb111
 replace hw110 := dT hw110 hb111
 clear hb111
 generalize wd108.heap.size = g114 at *
 clear y0 y1 y2 y3 y4 y5 y6 y7 y8 y9 z0 z1 z2 z3 z4 z5 z6 z7 z8 z9
 have cX_0 : wd112.cell? ⟨g114, 0, none⟩ = some (.int .i64 3) := X.out.cell 0
 go_upto_region 3 with fail
 clear cX_0
 obtain ⟨wd119, hE120⟩ : ∃ ww, ww = wd112.alloc (.cells #[.int .i64 3, .bool false, .int .i64 0, .string ⟨#[]⟩, .int .i64 0, .slice none 0 0, .slice none 0 0, .slice none 0 0] 34) := ⟨_, rfl⟩
 rw [← hE120]
 have hb118 := aB hE120
 have V := aN hE120
 clear hE120
 have hl122 := M.out.here
 have hl123 := R.out.here
 have hl124 := X.out.here
 have hl125 := hw110.size
 replace M := dB M hb118
 replace R := dB R hb118
 replace X := dB X hb118
 replace hw110 := dT hw110 hb118
 clear hb118
 generalize wd112.heap.size = g121 at *
 have cX_0 : wd119.cell? ⟨g114, 0, none⟩ = some (.int .i64 3) := X.out.cell 0
 clear M
 have hTK := Took.below (Took.refl HM.out) (hw110)
 have TK := Lib.hid (hTK)
 clear HM hTK
 have hmx : ts[i].max = (m : Int) := HMX.out
 have cX_4 : wd119.cell? ⟨g114, 4, none⟩ = some (.int .i64 ts[i].max) := X.out.cell 4
 go_wp2_with fail
 clear cX_0 cX_4
 ((with_reducible refine (text_any B gm (.slice (some ⟨b, o, none⟩) ts.length c) odd l m _ hm TK.out.at_).mono ?_); rintro e wd126 ⟨s, l', hs3, hsm, rfl, hT⟩)
 replace R := Lib.hid (R.out.gr hT.gr (show w.heap.size ≠ gm by omega))
 replace X := Lib.hid (X.out.gr hT.gr (show g114 ≠ gm by omega))
 replace V := Lib.hid (V.out.gr hT.gr (show g121 ≠ gm by omega))
 replace TK := Lib.hid (TK.out.trans hT)
 clear hT
 obtain ⟨cV_0, cV_1, cV_2, cV_3, cV_4, cV_5, cV_6, cV_7⟩ := V.out.c8
 have fV_3 := V.out.free 3
 go_upto_region 44 with fail
 clear cV_0 cV_1 cV_2 cV_3 cV_4 cV_5 cV_6 cV_7 fV_3
 obtain ⟨wd128, hE129⟩ : ∃ ww, ww = wd126.setCell ⟨g121, 3, none⟩ (.string ⟨s.toArray⟩) := ⟨_, rfl⟩
 rw [← hE129]
 replace R := dF R hE129 (by omega)
 replace X := dF X hE129 (by omega)
 replace V : Hid (Has wd128 (g121) 34 #[.int .i64 3, .bool false, .int .i64 0, .string ⟨s.toArray⟩, .int .i64 0, .slice none 0 0, .slice none 0 0, .slice none 0 0]) := Lib.hid (by simpa using dS V hE129)
 replace TK := Lib.hid (TK.out.belowL (hE129 ▸ below_set (Below.refl (g121) wd126) (Nat.le_refl _) 3 (.string ⟨s.toArray⟩)) (show w.heap.size ≤ g121 by omega))
 clear hE129
 obtain ⟨cV_0, cV_1, cV_2, cV_3, cV_4, cV_5, cV_6, cV_7⟩ := V.out.c8
 go_wp2_with (refine wpList_store_row rfl 34 _ _ rfl (w.heap.size) _ rfl rfl 34 _ R.out (by kernel_rfl) rfl (by simp [Value.oneCell']) ?_)
 clear cV_0 cV_1 cV_2 cV_3 cV_4 cV_5 cV_6 cV_7
 obtain ⟨wd130, hE131⟩ : ∃ ww, ww = wd128.setRow (w.heap.size) #[.int .i64 3, .bool false, .int .i64 0, .string ⟨s.toArray⟩, .int .i64 0, .slice none 0 0, .slice none 0 0, .slice none 0 0] := ⟨_, rfl⟩
 rw [← hE131]
 replace X := dR X hE131 (by omega)
 replace V := dR V hE131 (by omega)
 replace R := dO R hE131
 replace TK := Lib.hid (TK.out.belowL (hE131 ▸ below_rowL (w.heap.size) wd128 #[.int .i64 3, .bool false, .int .i64 0, .string ⟨s.toArray⟩, .int .i64 0, .slice none 0 0, .slice none 0 0, .slice none 0 0]) (show w.heap.size ≤ w.heap.size by omega))
 clear hE131
 obtain ⟨cR_0, cR_1, cR_2, cR_3, cR_4, cR_5, cR_6, cR_7⟩ := R.out.c8
 exact bodyPost_ret (v := .agg #[.int .i64 3, .bool false, .int .i64 0, .string ⟨s.toArray⟩, .int .i64 0, .slice none 0 0, .slice none 0 0, .slice none 0 0]) (by simp [results, Try.results40, go_sem, cR_0, cR_1, cR_2, cR_3, cR_4, cR_5, cR_6, cR_7]) rfl (⟨.mk 3 false 0 s 0 [] [] [], .slice none 0 0, .slice none 0 0, .slice none 0 0, l', rfl, bareP _ _ _ _ _ _ _ (by simp [I64]) (by simp [I64]) (by simp [I64]) (by omega), (by show fitV ts (!odd) _ _ = true; rw [fitV_eq, typAt_get ts i hi]; simp [hk, hmx, properB, bodyR, Val.kind, Val.bool, Val.num, Val.str, Val.id, Val.keys, Val.items, Val.rest]; omega), TK.out⟩)
set_option maxRecDepth 100000 in
theorem value4_any (B gm : Nat) (A : Option Addr) (c : Nat) (odd : Bool) (l : List UInt8) (ts : List Typ) (i : Nat) (hi : i < ts.length) (w : World) (hk : ts[i].kind = 4) (hs : 1 ≤ ts[i].syms.length ∧ ts[i].syms.length ≤ 6) (hid : ∀ a ∈ ts[i].syms, 1 ≤ a.1 ∧ a.1 ≤ 6) (hu : ∀ n : Nat, 15 ≤ n → usedB ts[i] n = false) (hM : MkAt w B gm (.slice A ts.length c) odd l) (hT : RdTyps w B (.slice A ts.length c) ts) :
  Calls Try.prog 40 #[.pointer (some ⟨gm, 0, none⟩), .int .i64 i] w (MadePost w B gm (.slice A ts.length c) odd l fun x => fitV ts (!odd) x i = true) := by
 have HU := Lib.hid hu
 have HID := Lib.hid hid
 clear hu hid
 have hgw := hM.here
 have hBg := hM.le
 obtain ⟨b, o, rfl, hb, hcs⟩ := hT.elem (by omega)
 obtain ⟨vs, vm, ⟨y0, y1, y2, y3, y4, y5, y6, y7, y8, y9⟩, hty⟩ := hcs i hi
 obtain ⟨C1, m1, C2, m2, rfl, rfl, -, -⟩ := hty.forms
 have hi1 : (i : Int) < ts.length := by omega
 have hi0 : (0 : Int) ≤ (i : Int) := by omega
 rw [hk] at y0
 have HM := Lib.hid hM
 have HTY := Lib.hid hty
 have HT := Lib.hid hT
 clear hcs hty hT
 obtain ⟨⟨A1, c1, M, _⟩, _, _⟩ := hM
 replace M := Lib.hid M
 have cM_0 : w.cell? ⟨gm, 0, none⟩ = some (.slice (some ⟨b, o, none⟩) ts.length c) := M.out.cell 0
 have cM_1 : w.cell? ⟨gm, 1, none⟩ = some (.slice A1 l.length c1) := M.out.cell 1
 have cM_2 : w.cell? ⟨gm, 2, none⟩ = some (.bool odd) := M.out.cell 2
 go_enter Try.func40, Try.ntmps40
 go_upto_region 1 with fail
 clear cM_0 cM_1 cM_2
 obtain ⟨wd133, hE134⟩ : ∃ ww, ww = w.alloc (.cells #[.int .i64 0, .bool false, .int .i64 0, .string ⟨#[]⟩, .int .i64 0, .slice none 0 0, .slice none 0 0, .slice none 0 0] 34) := ⟨_, rfl⟩
 rw [← hE134]
 have hb132 := aB hE134
 have R := aN hE134
 clear hE134
 replace M := dB M hb132
 have hw135 := hb132
 clear hb132
 have hbl : b < w.heap.size := by omega
 have z0 := ((hw135).cell (p := ⟨b, o + i * 10, none⟩) hbl).trans y0
 have z1 := ((hw135).cell (p := ⟨b, o + i * 10 + 1, none⟩) hbl).trans y1
 have z2 := ((hw135).cell (p := ⟨b, o + i * 10 + 2, none⟩) hbl).trans y2
 have z3 := ((hw135).cell (p := ⟨b, o + i * 10 + 3, none⟩) hbl).trans y3
 have z4 := ((hw135).cell (p := ⟨b, o + i * 10 + 4, none⟩) hbl).trans y4
 have z5 := ((hw135).cell (p := ⟨b, o + i * 10 + 5, none⟩) hbl).trans y5
 have z6 := ((hw135).cell (p := ⟨b, o + i * 10 + 6, none⟩) hbl).trans y6
 have z7 := ((hw135).cell (p := ⟨b, o + i * 10 + 7, none⟩) hbl).trans y7
 have z8 := ((hw135).cell (p := ⟨b, o + i * 10 + 8, none⟩) hbl).trans y8
 have z9 := ((hw135).cell (p := ⟨b, o + i * 10 + 9, none⟩) hbl).trans y9
 have cM_0 : wd133.cell? ⟨gm, 0, none⟩ = some (.slice (some ⟨b, o, none⟩) ts.length c) := M.out.cell 0
 have cM_1 : wd133.cell? ⟨gm, 1, none⟩ = some (.slice A1 l.length c1) := M.out.cell 1
 have cM_2 : wd133.cell? ⟨gm, 2, none⟩ = some (.bool odd) := M.out.cell 2
 go_upto_region 2 with fail
 clear cM_0 cM_1 cM_2
 obtain ⟨wd137, hE138⟩ : ∃ ww, ww = wd133.alloc (.cells #[.int .i64 4, .string ⟨ts[i].name.toArray⟩, .int .i64 ts[i].low, .int .i64 ts[i].high, .int .i64 ts[i].max, .slice C1 ts[i].syms.length m1, .slice C2 ts[i].mems.length m2, .int .i64 ts[i].key, .int .i64 ts[i].elem, .bool ts[i].opn] 64) := ⟨_, rfl⟩
 rw [← hE138]
 have hb136 := aB hE138
 have X := aN hE138
 clear hE138
 have hl140 := M.out.here
 have hl141 := R.out.here
 have hl142 := hw135.size
 replace M := dB M hb136
 replace R := dB R hb136
 replace hw135 := dT hw135 hb136
 clear hb136
 generalize wd133.heap.size = g139 at *
 clear y0 y1 y2 y3 y4 y5 y6 y7 y8 y9 z0 z1 z2 z3 z4 z5 z6 z7 z8 z9
 have cX_0 : wd137.cell? ⟨g139, 0, none⟩ = some (.int .i64 4) := X.out.cell 0
 go_upto_region 3 with fail
 clear cX_0
 obtain ⟨wd144, hE145⟩ : ∃ ww, ww = wd137.alloc (.cells #[.int .i64 4, .bool false, .int .i64 0, .string ⟨#[]⟩, .int .i64 0, .slice none 0 0, .slice none 0 0, .slice none 0 0] 34) := ⟨_, rfl⟩
 rw [← hE145]
 have hb143 := aB hE145
 have V := aN hE145
 clear hE145
 have hl147 := M.out.here
 have hl148 := R.out.here
 have hl149 := X.out.here
 have hl150 := hw135.size
 replace M := dB M hb143
 replace R := dB R hb143
 replace X := dB X hb143
 replace hw135 := dT hw135 hb143
 clear hb143
 generalize wd137.heap.size = g146 at *
 have cX_0 : wd144.cell? ⟨g139, 0, none⟩ = some (.int .i64 4) := X.out.cell 0
 clear M
 have hTK := Took.below (Took.refl HM.out) (hw135)
 have TK := Lib.hid (hTK)
 clear HM hTK
 obtain ⟨b1, o1, rfl, hb1, hcell⟩ := HTY.out.syms.at_ (by omega)
 have hcl := fun k h => rawV_at hcell k h
 have HCL := Lib.hid hcl
 clear hcl hcell
 go_upto_region 13 with fail
 have cX_5 : wd144.cell? ⟨g139, 5, none⟩ = some (.slice (some ⟨b1, o1, none⟩) ts[i].syms.length m1) := X.out.cell 5
 refine wp_region_held_drew (S := (fun w' => w'.cell? ⟨g139, 5, none⟩ = some (.slice (some ⟨b1, o1, none⟩) ts[i].syms.length m1) ∧ (∀ (b o : Nat), b < B → w'.cell? ⟨b, o, none⟩ = w.cell? ⟨b, o, none⟩))) (by kernel_rfl) ⟨cX_5, (fun b o hlt => TK.out.low (p := ⟨b, o, none⟩) hlt)⟩ (fun hHeld => ?_)
 clear cX_0 cX_5
 have hb151 : Below wd144.heap.size wd144 (wd144.drew) := (Below.refl _ _).drew
 replace R := dB R hb151
 replace X := dB X hb151
 replace V := dB V hb151
 replace TK := Lib.hid (TK.out.below hb151)
 clear hb151
 generalize wd144.drew = wd152 at *
 refine tk (i := 0) (v := ?k153) ?_
 simp only [put_laws2]
 refine tk (i := 1) (v := ?k154) ?_
 simp only [put_laws2]
 refine tk (i := 2) (v := ?k155) ?_
 simp only [put_laws2]
 refine tk (i := 3) (v := ?k156) ?_
 simp only [put_laws2]
 refine tk (i := 4) (v := ?k157) ?_
 simp only [put_laws2]
 refine tk (i := 5) (v := ?k158) ?_
 simp only [put_laws2]
 refine rd1 (i := 6) (fun K hK => ?_)
 go_simp
 ((with_reducible refine (next_any B gm (.slice (some ⟨b, o, none⟩) ts.length c) odd l ts[i].syms.length ts[i].syms.length _ rfl (by omega) (by omega) TK.out.at_).mono ?_); rintro e wd159 ⟨k, l', hk2, hk0, hkl, rfl, hT⟩)
 clear hk0 hkl
 replace R := Lib.hid (R.out.gr hT.gr (show w.heap.size ≠ gm by omega))
 replace X := Lib.hid (X.out.gr hT.gr (show g139 ≠ gm by omega))
 replace V := Lib.hid (V.out.gr hT.gr (show g146 ≠ gm by omega))
 replace TK := Lib.hid (TK.out.trans hT)
 clear hT
 obtain ⟨cs0, cs1⟩ := HCL.out k hk2
 have hk1 : (k : Int) < ts[i].syms.length := by omega
 have hmem := List.getElem_mem hk2
 generalize ts[i].syms[k] = y at *
 have HMEM := Lib.hid hmem
 clear hmem
 try clear hHeld
 refine hK.out _ _ (⟨X.out.cell 5, (fun b o hlt => TK.out.low (p := ⟨b, o, none⟩) hlt)⟩) (fun hHeld => ?_)
 clear hK K
 refine tk (i := 7) (v := ?k161) ?_
 simp only [put_laws2]
 refine tk (i := 8) (v := ?k162) ?_
 simp only [put_laws2]
 refine tk (i := 9) (v := ?k163) ?_
 simp only [put_laws2]
 refine tk (i := 10) (v := ?k164) ?_
 simp only [put_laws2]
 refine rd1 (i := 11) (fun K hK => ?_)
 have cV_4 : wd159.cell? ⟨g146, 4, none⟩ = some (.int .i64 0) := V.out.cell 4
 have fV_4 := V.out.free 4
 go_simp
 clear cV_4 fV_4
 obtain ⟨wd165, hE166⟩ : ∃ ww, ww = wd159.setCell ⟨g146, 4, none⟩ (.int .i64 y.1) := ⟨_, rfl⟩
 rw [← hE166]
 replace R := dF R hE166 (by omega)
 replace X := dF X hE166 (by omega)
 replace V : Hid (Has wd165 (g146) 34 #[.int .i64 4, .bool false, .int .i64 0, .string ⟨#[]⟩, .int .i64 y.1, .slice none 0 0, .slice none 0 0, .slice none 0 0]) := Lib.hid (by simpa using dS V hE166)
 replace TK := Lib.hid (TK.out.belowL (hE166 ▸ below_set (Below.refl (g146) wd159) (Nat.le_refl _) 4 (.int .i64 y.1)) (show w.heap.size ≤ g146 by omega))
 clear hE166
 try clear hHeld
 refine hK.out _ _ (⟨X.out.cell 5, (fun b o hlt => TK.out.low (p := ⟨b, o, none⟩) hlt)⟩) (fun hHeld => ?_)
 clear hK K
 refine wpAnyH_done (by kernel_rfl) ?_ _
 try clear hHeld
 go_upto_region 14 with fail
 have cX_9 : wd165.cell? ⟨g139, 9, none⟩ = some (.bool ts[i].opn) := X.out.cell 9
 have HS4 : Hid ((symIdx ts[i] y.1).isSome = true) := Lib.hid (idxF_mem y.1 _ _ (List.mem_map_of_mem HMEM.out))
 cases hop : ts[i].opn with
 | false =>
  rw [hop] at cX_9
  go_upto_region 44 with fail
  obtain ⟨cV_0, cV_1, cV_2, cV_3, cV_4, cV_5, cV_6, cV_7⟩ := V.out.c8
  go_wp2_with (refine wpList_store_row rfl 34 _ _ rfl (w.heap.size) _ rfl rfl 34 _ R.out (by kernel_rfl) rfl (by simp [Value.oneCell']) ?_)
  clear cX_9 cV_0 cV_1 cV_2 cV_3 cV_4 cV_5 cV_6 cV_7
  obtain ⟨wd167, hE168⟩ : ∃ ww, ww = wd165.setRow (w.heap.size) #[.int .i64 4, .bool false, .int .i64 0, .string ⟨#[]⟩, .int .i64 y.1, .slice none 0 0, .slice none 0 0, .slice none 0 0] := ⟨_, rfl⟩
  rw [← hE168]
  replace X := dR X hE168 (by omega)
  replace V := dR V hE168 (by omega)
  replace R := dO R hE168
  replace TK := Lib.hid (TK.out.belowL (hE168 ▸ below_rowL (w.heap.size) wd165 #[.int .i64 4, .bool false, .int .i64 0, .string ⟨#[]⟩, .int .i64 y.1, .slice none 0 0, .slice none 0 0, .slice none 0 0]) (show w.heap.size ≤ w.heap.size by omega))
  clear hE168
  obtain ⟨cR_0, cR_1, cR_2, cR_3, cR_4, cR_5, cR_6, cR_7⟩ := R.out.c8
  exact bodyPost_ret (v := .agg #[.int .i64 4, .bool false, .int .i64 0, .string ⟨#[]⟩, .int .i64 y.1, .slice none 0 0, .slice none 0 0, .slice none 0 0]) (by simp [results, Try.results40, go_sem, cR_0, cR_1, cR_2, cR_3, cR_4, cR_5, cR_6, cR_7]) rfl (⟨.mk 4 false 0 [] y.1 [] [] [], .slice none 0 0, .slice none 0 0, .slice none 0 0, l', rfl, bareP _ _ _ _ _ _ _ (by simp [I64]) (by simp [I64]) (by have := HID.out y HMEM.out; unfold I64; omega) (by simp), (by show fitV ts (!odd) _ _ = true; rw [fitV_eq, typAt_get ts i hi]; simp [hk, properB, bodyR, Val.kind, Val.bool, Val.num, Val.str, Val.id, Val.keys, Val.items, Val.rest, HS4.out]), TK.out⟩)
 | true =>
  rw [hop] at cX_9
  go_wp2_with fail
  clear cX_9
  ((with_reducible refine (odd_any B gm (.slice (some ⟨b, o, none⟩) ts.length c) odd l' _ TK.out.at_).mono ?_); rintro e wd169 ⟨bo, l2, hbo, rfl, hT⟩)
  replace R := Lib.hid (R.out.gr hT.gr (show w.heap.size ≠ gm by omega))
  replace X := Lib.hid (X.out.gr hT.gr (show g139 ≠ gm by omega))
  replace V := Lib.hid (V.out.gr hT.gr (show g146 ≠ gm by omega))
  replace TK := Lib.hid (TK.out.trans hT)
  clear hT
  cases bo with
  | false =>
   go_upto_region 44 with fail
   obtain ⟨cV_0, cV_1, cV_2, cV_3, cV_4, cV_5, cV_6, cV_7⟩ := V.out.c8
   go_wp2_with (refine wpList_store_row rfl 34 _ _ rfl (w.heap.size) _ rfl rfl 34 _ R.out (by kernel_rfl) rfl (by simp [Value.oneCell']) ?_)
   clear cV_0 cV_1 cV_2 cV_3 cV_4 cV_5 cV_6 cV_7
   obtain ⟨wd171, hE172⟩ : ∃ ww, ww = wd169.setRow (w.heap.size) #[.int .i64 4, .bool false, .int .i64 0, .string ⟨#[]⟩, .int .i64 y.1, .slice none 0 0, .slice none 0 0, .slice none 0 0] := ⟨_, rfl⟩
   rw [← hE172]
   replace X := dR X hE172 (by omega)
   replace V := dR V hE172 (by omega)
   replace R := dO R hE172
   replace TK := Lib.hid (TK.out.belowL (hE172 ▸ below_rowL (w.heap.size) wd169 #[.int .i64 4, .bool false, .int .i64 0, .string ⟨#[]⟩, .int .i64 y.1, .slice none 0 0, .slice none 0 0, .slice none 0 0]) (show w.heap.size ≤ w.heap.size by omega))
   clear hE172
   obtain ⟨cR_0, cR_1, cR_2, cR_3, cR_4, cR_5, cR_6, cR_7⟩ := R.out.c8
   exact bodyPost_ret (v := .agg #[.int .i64 4, .bool false, .int .i64 0, .string ⟨#[]⟩, .int .i64 y.1, .slice none 0 0, .slice none 0 0, .slice none 0 0]) (by simp [results, Try.results40, go_sem, cR_0, cR_1, cR_2, cR_3, cR_4, cR_5, cR_6, cR_7]) rfl (⟨.mk 4 false 0 [] y.1 [] [] [], .slice none 0 0, .slice none 0 0, .slice none 0 0, l2, rfl, bareP _ _ _ _ _ _ _ (by simp [I64]) (by simp [I64]) (by have := HID.out y HMEM.out; unfold I64; omega) (by simp), (by show fitV ts (!odd) _ _ = true; rw [fitV_eq, typAt_get ts i hi]; simp [hk, properB, bodyR, Val.kind, Val.bool, Val.num, Val.str, Val.id, Val.keys, Val.items, Val.rest, HS4.out]), TK.out⟩)
  | true =>
   have ho : odd = true := by cases odd with | true => rfl | false => cases hbo rfl
   subst ho
   have hun := unknown_any B gm (.slice (some ⟨b, o, none⟩) ts.length c) true l2 ts[i] (.slice (some ⟨b1, o1, none⟩) ts[i].syms.length m1) (.slice C2 ts[i].mems.length m2)
   simp only [typA, hk, hop] at hun
   have HUN := Lib.hid hun
   clear hun
   obtain ⟨cX_0, cX_1, cX_2, cX_3, cX_4, cX_5, cX_6, cX_7, cX_8, cX_9⟩ := X.out.c10
   go_wp2_with fail
   clear cX_0 cX_1 cX_2 cX_3 cX_4 cX_5 cX_6 cX_7 cX_8 cX_9
   ((with_reducible refine (HUN.out _ HU.out TK.out.at_ (HTY.out.keep (fun p hp => TK.out.low hp) hBg)).mono ?_); rintro e wd173 ⟨n, l3, hn1, hn2, hnu, rfl, hT⟩)
   replace R := Lib.hid (R.out.gr hT.gr (show w.heap.size ≠ gm by omega))
   replace X := Lib.hid (X.out.gr hT.gr (show g139 ≠ gm by omega))
   replace V := Lib.hid (V.out.gr hT.gr (show g146 ≠ gm by omega))
   replace TK := Lib.hid (TK.out.trans hT)
   clear hT
   have HNU : Hid (usedB ts[i] n = false) := Lib.hid hnu
   clear hnu
   have cV_4 : wd173.cell? ⟨g146, 4, none⟩ = some (.int .i64 y.1) := V.out.cell 4
   have fV_4 := V.out.free 4
   go_upto_region 44 with fail
   clear cV_4 fV_4
   obtain ⟨wd175, hE176⟩ : ∃ ww, ww = wd173.setCell ⟨g146, 4, none⟩ (.int .i64 n) := ⟨_, rfl⟩
   rw [← hE176]
   replace R := dF R hE176 (by omega)
   replace X := dF X hE176 (by omega)
   replace V : Hid (Has wd175 (g146) 34 #[.int .i64 4, .bool false, .int .i64 0, .string ⟨#[]⟩, .int .i64 n, .slice none 0 0, .slice none 0 0, .slice none 0 0]) := Lib.hid (by simpa using dS V hE176)
   replace TK := Lib.hid (TK.out.belowL (hE176 ▸ below_set (Below.refl (g146) wd173) (Nat.le_refl _) 4 (.int .i64 n)) (show w.heap.size ≤ g146 by omega))
   clear hE176
   go_upto_region 44 with fail
   obtain ⟨cV_0, cV_1, cV_2, cV_3, cV_4, cV_5, cV_6, cV_7⟩ := V.out.c8
   go_wp2_with (refine wpList_store_row rfl 34 _ _ rfl (w.heap.size) _ rfl rfl 34 _ R.out (by kernel_rfl) rfl (by simp [Value.oneCell']) ?_)
   clear cV_0 cV_1 cV_2 cV_3 cV_4 cV_5 cV_6 cV_7
   obtain ⟨wd177, hE178⟩ : ∃ ww, ww = wd175.setRow (w.heap.size) #[.int .i64 4, .bool false, .int .i64 0, .string ⟨#[]⟩, .int .i64 (n : Int), .slice none 0 0, .slice none 0 0, .slice none 0 0] := ⟨_, rfl⟩
   rw [← hE178]
   replace X := dR X hE178 (by omega)
   replace V := dR V hE178 (by omega)
   replace R := dO R hE178
   replace TK := Lib.hid (TK.out.belowL (hE178 ▸ below_rowL (w.heap.size) wd175 #[.int .i64 4, .bool false, .int .i64 0, .string ⟨#[]⟩, .int .i64 (n : Int), .slice none 0 0, .slice none 0 0, .slice none 0 0]) (show w.heap.size ≤ w.heap.size by omega))
   clear hE178
   obtain ⟨cR_0, cR_1, cR_2, cR_3, cR_4, cR_5, cR_6, cR_7⟩ := R.out.c8
   exact bodyPost_ret (v := .agg #[.int .i64 4, .bool false, .int .i64 0, .string ⟨#[]⟩, .int .i64 (n : Int), .slice none 0 0, .slice none 0 0, .slice none 0 0]) (by simp [results, Try.results40, go_sem, cR_0, cR_1, cR_2, cR_3, cR_4, cR_5, cR_6, cR_7]) rfl (⟨.mk 4 false 0 [] (n : Int) [] [] [], .slice none 0 0, .slice none 0 0, .slice none 0 0, l3, rfl, bareP _ _ _ _ _ _ _ (by simp [I64]) (by simp [I64]) (by have := hn2; unfold I64; omega) (by simp), (by show fitV ts (!true) _ _ = true; rw [fitV_eq, typAt_get ts i hi]; simp [hk, hop, properB, bodyR, freeB, Val.kind, Val.bool, Val.num, Val.str, Val.id, Val.keys, Val.items, Val.rest]; exact .inr (decide_eq_true (by omega))), TK.out⟩)
end Go.Proofs.Ytgeapglanckjpaa

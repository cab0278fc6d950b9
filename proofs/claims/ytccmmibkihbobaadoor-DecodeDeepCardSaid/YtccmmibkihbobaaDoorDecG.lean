/- payload: optionals. No condition. -/
import Derived.Test.YtccmmibkihbobaaDoorDecF
import Derived.Test.YtccmmibkihbobaaDoorRegT
set_option maxHeartbeats 800000
namespace Go.Proofs.YtccmmibkihbobaaDoor
open Go.ChangeShapes Go.WideShapes Go.ChangeAt Go.RowKit
def PartOn (ts : List Typ) (gr : Nat) (tv : Value) (rec : Int → List UInt8 → List Int → Res) (path : List Int) : Prop :=
 ∀ (W : World) (fp : Value) (fn s t : Int) (q : List UInt8), RdrAt W gr tv fp fn path → RdTyps W gr tv ts → (typAt ts t).isSome = true → q.length ≤ 800000 →
  Calls Tryd.prog 42 #[.pointer (some ⟨gr, 0, none⟩), .int .i64 s, .int .i64 t, .string ⟨q.toArray⟩] W (PayPost gr tv path W (rec t q (path ++ [s])))
def boxR (f : Val → Val) : Res → Res
 | .error e => .error e
 | .ok v => .ok (f v)
set_option maxRecDepth 100000 in
theorem pay9_any
 (ts : List Typ) (A : Option Addr) (c n gr : Nat) (fp : Value) (fn : Int) (path : List Int) (p : List UInt8) (rec : Int → List UInt8 → List Int → Res) (w : World) (hn : n < ts.length) (hk : ts[n].kind = 9) (hp : path.length < 200) (hpl : p.length ≤ 800000)
 (R : RdrAt w gr (.slice A ts.length c) fp fn path) (ht : RdTyps w gr (.slice A ts.length c) ts) (HP : PartOn ts gr (.slice A ts.length c) rec path) (he : (typAt ts ts[n].elem).isSome = true) :
 Calls Tryd.prog 28 #[.pointer (some ⟨gr, 0, none⟩), .int .i64 n, .string ⟨p.toArray⟩] w (PayPost gr (.slice A ts.length c) path w (decB rec ts[n] p path)) := by
 have HP := Lib.hid HP
 rcases p with _ | ⟨b0, p⟩
 ·
  skip
  obtain ⟨b, o, rfl, hbb, hel⟩ := ht.elem (by omega)
  obtain ⟨vs, vm, hcells, hx⟩ := hel n hn
  clear hel
  generalize ts[n] = x at *
  obtain ⟨C1, l1, C2, l2, rfl, rfl, -, -⟩ := hx.forms
  have hlt : (n : Int) < ts.length := by omega
  have hd0 : decide ((n : Int) < 0) = false := by simp
  have hd1 : decide (ts.length ≤ n) = false := by simpa using hn
  have hlp : ¬ (200 : Int) ≤ path.length := by omega
  have HX := Lib.hid hx
  have HT := Lib.hid ht
  have HC := Lib.hid hcells
  have HKx := Lib.hid hk
  have hN : Hid (n < ts.length) := Lib.hid hn
  have hxs := hx.lens
  clear hx ht hcells hn
  have hgr := R.here
  replace R := Lib.hid (RdrX.of R)
  have KP := KeepT.refl w gr
  go_enter Tryd.func28, Tryd.ntmps28
  go_upto_region 1 with fail
  obtain ⟨wd2, hE3⟩ : ∃ ww, ww = w.alloc (.cells #[.int .i64 0, .bool false, .int .i64 0, .string ⟨#[]⟩, .int .i64 0, .slice none 0 0, .slice none 0 0, .slice none 0 0] 45) := ⟨_, rfl⟩
  rw [← hE3]
  have hb1 := aB hE3
  have Z := aN hE3
  clear hE3
  replace R := rB R hb1
  replace KP := kB KP hgr hb1
  clear hb1
  obtain ⟨Ap, cp, hcp, r0, r1, -, -⟩ := R.out.at_.cells
  obtain ⟨c0, c1, c2, c3, c4, c5, c6, c7, c8, c9⟩ := HC.out.below KP.low hbb
  rw [hk] at c0
  go_upto_region 31 with fail
  clear c0 c1 c2 c3 c4 c5 c6 c7 c8 c9 r0 r1 hd0 hd1 hlp hcp
  obtain ⟨wd5, hE6⟩ : ∃ ww, ww = wd2.alloc (.cells #[.int .i64 9, .string ⟨x.name.toArray⟩, .int .i64 x.low, .int .i64 x.high, .int .i64 x.max, .slice C1 x.syms.length l1, .slice C2 x.mems.length l2, .int .i64 x.key, .int .i64 x.elem, .bool x.opn] 33) := ⟨_, rfl⟩
  rw [← hE6]
  have hb4 := aB hE6
  have X := aN hE6
  obtain ⟨wd7, hE8⟩ : ∃ ww, ww = wd5.alloc (.cells #[.int .i64 9, .bool false, .int .i64 0, .string ⟨#[]⟩, .int .i64 0, .slice none 0 0, .slice none 0 0, .slice none 0 0] 45) := ⟨_, rfl⟩
  rw [← hE8]
  replace X := dB X (aB hE8)
  replace hb4 := dT hb4 (aB hE8)
  have V := aM hE8 (aZ hE6 rfl)
  clear hE6 hE8
  have hl10 := Z.out.here
  have hl11 := KP.size
  replace Z := dB Z hb4
  replace R := rB R hb4
  replace KP := kB KP hgr hb4
  clear hb4
  generalize wd2.heap.size = g9 at *
  have HR : Hid (decB rec x [] path = .ok (.mk 9 false 0 [] 0 [] [] [])) := by show _ = _; simp [decB, HKx.out, leafV]
  go_upto_region 32 with fail
  obtain ⟨cV_0, cV_1, cV_2, cV_3, cV_4, cV_5, cV_6, cV_7⟩ := V.out.c8
  go_wp2_with (refine wpList_store_row rfl 45 _ _ rfl (w.heap.size) _ rfl rfl 45 _ Z.out (by kernel_rfl) rfl (by first | assumption | simp [Value.oneCell']) ?_)
  clear cV_0 cV_1 cV_2 cV_3 cV_4 cV_5 cV_6 cV_7
  obtain ⟨wd12, hE13⟩ : ∃ ww, ww = wd7.setRow (w.heap.size) #[.int .i64 9, .bool false, .int .i64 0, .string ⟨#[]⟩, .int .i64 0, .slice none 0 0, .slice none 0 0, .slice none 0 0] := ⟨_, rfl⟩
  rw [← hE13]
  replace X := dR X hE13 (by omega)
  replace V := dR V hE13 (by omega)
  replace R := rR R Z hE13 (by decide) (by omega)
  replace KP := kRw KP hgr hE13 (by omega)
  replace Z := dO Z hE13
  clear hE13
  obtain ⟨cZ_0, cZ_1, cZ_2, cZ_3, cZ_4, cZ_5, cZ_6, cZ_7⟩ := Z.out.c8
  exact bodyPost_ret (v := .tuple #[.agg #[.int .i64 9, .bool false, .int .i64 0, .string ⟨#[]⟩, .int .i64 0, .slice none 0 0, .slice none 0 0, .slice none 0 0], .bool true]) (by simp [results, Tryd.results28, go_sem, cZ_0, cZ_1, cZ_2, cZ_3, cZ_4, cZ_5, cZ_6, cZ_7]) rfl (PayPost.good (v := .mk 9 false 0 [] 0 [] [] []) HR.out R KP (valP_leaf _ _ _ _ _ _ _ (by unfold I64; omega) (by unfold I64; omega) (by unfold I64; omega) (by simp)))
 skip
 obtain ⟨b, o, rfl, hbb, hel⟩ := ht.elem (by omega)
 obtain ⟨vs, vm, hcells, hx⟩ := hel n hn
 clear hel
 generalize ts[n] = x at *
 obtain ⟨C1, l1, C2, l2, rfl, rfl, -, -⟩ := hx.forms
 have hlt : (n : Int) < ts.length := by omega
 have hd0 : decide ((n : Int) < 0) = false := by simp
 have hd1 : decide (ts.length ≤ n) = false := by simpa using hn
 have hlp : ¬ (200 : Int) ≤ path.length := by omega
 have HX := Lib.hid hx
 have HT := Lib.hid ht
 have HC := Lib.hid hcells
 have HKx := Lib.hid hk
 have hN : Hid (n < ts.length) := Lib.hid hn
 have hxs := hx.lens
 clear hx ht hcells hn
 have hgr := R.here
 replace R := Lib.hid (RdrX.of R)
 have KP := KeepT.refl w gr
 go_enter Tryd.func28, Tryd.ntmps28
 go_upto_region 1 with fail
 obtain ⟨wd15, hE16⟩ : ∃ ww, ww = w.alloc (.cells #[.int .i64 0, .bool false, .int .i64 0, .string ⟨#[]⟩, .int .i64 0, .slice none 0 0, .slice none 0 0, .slice none 0 0] 45) := ⟨_, rfl⟩
 rw [← hE16]
 have hb14 := aB hE16
 have Z := aN hE16
 clear hE16
 replace R := rB R hb14
 replace KP := kB KP hgr hb14
 clear hb14
 obtain ⟨Ap, cp, hcp, r0, r1, -, -⟩ := R.out.at_.cells
 obtain ⟨c0, c1, c2, c3, c4, c5, c6, c7, c8, c9⟩ := HC.out.below KP.low hbb
 rw [hk] at c0
 go_upto_region 31 with fail
 clear c0 c1 c2 c3 c4 c5 c6 c7 c8 c9 r0 r1 hd0 hd1 hlp hcp
 obtain ⟨wd18, hE19⟩ : ∃ ww, ww = wd15.alloc (.cells #[.int .i64 9, .string ⟨x.name.toArray⟩, .int .i64 x.low, .int .i64 x.high, .int .i64 x.max, .slice C1 x.syms.length l1, .slice C2 x.mems.length l2, .int .i64 x.key, .int .i64 x.elem, .bool x.opn] 33) := ⟨_, rfl⟩
 rw [← hE19]
 have hb17 := aB hE19
 have X := aN hE19
 obtain ⟨wd20, hE21⟩ : ∃ ww, ww = wd18.alloc (.cells #[.int .i64 9, .bool false, .int .i64 0, .string ⟨#[]⟩, .int .i64 0, .slice none 0 0, .slice none 0 0, .slice none 0 0] 45) := ⟨_, rfl⟩
 rw [← hE21]
 replace X := dB X (aB hE21)
 replace hb17 := dT hb17 (aB hE21)
 have V := aM hE21 (aZ hE19 rfl)
 clear hE19 hE21
 have hl23 := Z.out.here
 have hl24 := KP.size
 replace Z := dB Z hb17
 replace R := rB R hb17
 replace KP := kB KP hgr hb17
 clear hb17
 generalize wd15.heap.size = g22 at *
 have hpe : (b0 :: p).length = p.length + 1 := rfl
 have hi0 : ∀ h, (({ data := (b0 :: p).toArray } : ByteArray)[0]'h) = b0 := fun _ => rfl
 have HE := Lib.hid he
 clear he
 by_cases h1 : b0.toNat = 1
 ·
  obtain rfl : b0 = 1 := UInt8.toNat_inj.1 h1
  have HD : Hid (decB rec x (1 :: p) path = boxR (fun v => .mk 9 false 0 [] 0 [] [v] []) (rec x.elem p (path ++ [0]))) := by show _ = _; cases hq : rec x.elem p (path ++ [0]) <;> simp [decB, HKx.out, h1, boxR, hq]
  clear h1
  go_upto_region 35 with fail
  have h1p : (1 : Int) ≤ (p.length : Int) + 1 := by omega
  have hcut : ({ data := (1 :: p).toArray } : ByteArray).extract 1 (p.length + 1) = { data := p.toArray } := str_from _ _ _ rfl
  obtain ⟨gX, rfl⟩ : ∃ g, g = g22 := ⟨_, rfl⟩
  have HPQ := Lib.hid (fun (W : World) (fp' : Value) (fn' : Int) h1 h2 => HP.out W fp' fn' 0 x.elem p h1 h2 HE.out (by omega))
  generalize rec x.elem p (path ++ [0]) = q at *
  go_cut [16, 17] from 162 to 170 (fun s16 s17 wx => ItemAt wx gr (.slice (some ⟨b, o, none⟩) ts.length c) path q (gX + 1) s16 s17 ∧ KeepT w gr wx ∧ Has wx w.heap.size 45 #[.int .i64 0, .bool false, .int .i64 0, .string ⟨#[]⟩, .int .i64 0, .slice none 0 0, .slice none 0 0, .slice none 0 0] ∧ Has wx (gX + 1) 45 #[.int .i64 9, .bool false, .int .i64 0, .string ⟨#[]⟩, .int .i64 0, .slice none 0 0, .slice none 0 0, .slice none 0 0])
  case first =>
   have cX_8 : wd20.cell? ⟨gX, 8, none⟩ = some (.int .i64 x.elem) := X.out.cell 8
   refine wp_region_held_drew (S := (fun w' => w'.cell? ⟨gX, 8, none⟩ = some (.int .i64 x.elem))) (by kernel_rfl) cX_8 (fun hHeld => ?_)
   clear cX_8
   have hb25 : Below wd20.heap.size wd20 (wd20.drew) := (Below.refl _ _).drew
   replace Z := dB Z hb25
   replace X := dB X hb25
   replace V := dB V hb25
   replace R := rB R hb25
   replace KP := kB KP hgr hb25
   clear hb25
   generalize wd20.drew = wd26 at *
   refine tk (i := 0) (v := ?k27) ?_
   simp only [put_laws2]
   refine tk (i := 1) (v := ?k28) ?_
   simp only [put_laws2]
   refine tk (i := 2) (v := ?k29) ?_
   simp only [put_laws2]
   refine tk (i := 3) (v := ?k30) ?_
   simp only [put_laws2]
   refine tk (i := 4) (v := ?k31) ?_
   simp only [put_laws2]
   refine wpAnyH_ready (rs := [5, 9]) (by kernel_rfl) (by simp) ?_
   refine AllReadyH.cons rfl (fun K hK => ?_) (AllReadyH.cons rfl (fun K hK => ?_) (AllReadyH.nil))
   ·
    skip
    go_simp
    have hl39 := Z.out.here
    have hl40 := X.out.here
    have hl41 := V.out.here
    have hl42 := KP.size
    ((with_reducible refine (HPQ.out _ _ _ R.out.at_ (HT.out.keep (fun _ hp => KP.low.cell hp) (Nat.le_refl _))).mono ?_); rintro e wd32 hp34)
    obtain ⟨fp37, fn38, c0N, c1N, c2N, c3N, c4N, c5N, c6N, c7N, bbN, h1N, rfl, hR36, hK35, N⟩ := hp34.take
    replace Z := dKT Z hK35 (by omega) (by decide)
    replace X := dKT X hK35 (by omega) (by decide)
    replace V := dKT V hK35 (by omega) (by decide)
    replace R := Lib.hid hR36
    replace KP := KP.trans hK35
    replace N := Lib.hid N
    clear hK35
    have h1aN : (#[c0N, c1N, c2N, c3N, c4N, c5N, c6N, c7N] : Array Value).all (·.oneCell') = true := by simpa using h1N
    generalize wd26.heap.size = L33 at *
    try clear hHeld
    refine hK.out _ _ (X.out.cell 8) (fun hHeld => ?_)
    clear hK K
    refine tk (i := 6) (v := ?k43) ?_
    simp only [put_laws2]
    refine tk (i := 7) (v := ?k44) ?_
    simp only [put_laws2]
    refine tk (i := 8) (v := ?k45) ?_
    simp only [put_laws2]
    refine rd1 (i := 9) (fun K hK => ?_)
    go_simp
    obtain ⟨wd47, hE48⟩ : ∃ ww, ww = wd32.alloc (.cells #[.int .i64 0, .bool false, .int .i64 0, .string ⟨#[]⟩, .int .i64 0, .slice none 0 0, .slice none 0 0, .slice none 0 0] 45) := ⟨_, rfl⟩
    rw [← hE48]
    have hb46 := aB hE48
    have I := aN hE48
    clear hE48
    have hl50 := Z.out.here
    have hl51 := X.out.here
    have hl52 := V.out.here
    have hl53 := N.out.le
    have hl54 := KP.size
    replace Z := dB Z hb46
    replace X := dB X hb46
    replace V := dB V hb46
    replace N := nB N hb46
    replace R := rB R hb46
    replace KP := kB KP hgr hb46
    clear hb46
    generalize wd32.heap.size = g49 at *
    try clear hHeld
    refine hK.out _ _ (X.out.cell 8) (fun hHeld => ?_)
    clear hK K
    refine rd1 (i := 10) (fun K hK => ?_)
    refine step_store_row (by rfl) 45 _ _ (by rfl) (g49) #[c0N, c1N, c2N, c3N, c4N, c5N, c6N, c7N] (by rfl) (by rfl) 45 _ I.out (by kernel_rfl) rfl (by first | assumption | simp [Value.oneCell']) ?_
    obtain ⟨wd55, hE56⟩ : ∃ ww, ww = wd47.setRow (g49) #[c0N, c1N, c2N, c3N, c4N, c5N, c6N, c7N] := ⟨_, rfl⟩
    rw [← hE56]
    replace Z := dR Z hE56 (by omega)
    replace X := dR X hE56 (by omega)
    replace V := dR V hE56 (by omega)
    replace R := rR R I hE56 (by decide) (by omega)
    replace KP := kRw KP hgr hE56 (by omega)
    replace I := dO I hE56
    replace N := nR N hE56 (by omega)
    clear hE56
    try clear hHeld
    refine hK.out _ _ (X.out.cell 8) (fun hHeld => ?_)
    clear hK K
    refine tk (i := 11) (v := ?k57) ?_
    simp only [put_laws2]
    refine wpAnyH_done (by kernel_rfl) ?_ _
    try clear hHeld
    go_wp2_with fail
    go_meet
    have hBl := N.out.le
    exact ⟨⟨_, _, _, _, _, _, _, _, _, _, _, _, _, _, rfl, rfl, h1N, I.out, R.out, N.out, by omega, by omega, by omega⟩, KP, Z.out, V.out⟩
   skip
   go_simp
   obtain ⟨wd59, hE60⟩ : ∃ ww, ww = wd26.alloc (.cells #[.int .i64 0, .bool false, .int .i64 0, .string ⟨#[]⟩, .int .i64 0, .slice none 0 0, .slice none 0 0, .slice none 0 0] 45) := ⟨_, rfl⟩
   rw [← hE60]
   have hb58 := aB hE60
   have I := aN hE60
   clear hE60
   have hl62 := Z.out.here
   have hl63 := X.out.here
   have hl64 := V.out.here
   have hl65 := KP.size
   replace Z := dB Z hb58
   replace X := dB X hb58
   replace V := dB V hb58
   replace R := rB R hb58
   replace KP := kB KP hgr hb58
   clear hb58
   generalize wd26.heap.size = g61 at *
   try clear hHeld
   refine hK.out _ _ (X.out.cell 8) (fun hHeld => ?_)
   clear hK K
   refine rd1 (i := 5) (fun K hK => ?_)
   go_simp
   have hl73 := Z.out.here
   have hl74 := X.out.here
   have hl75 := V.out.here
   have hl76 := I.out.here
   have hl77 := KP.size
   ((with_reducible refine (HPQ.out _ _ _ R.out.at_ (HT.out.keep (fun _ hp => KP.low.cell hp) (Nat.le_refl _))).mono ?_); rintro e wd66 hp68)
   obtain ⟨fp71, fn72, c0N, c1N, c2N, c3N, c4N, c5N, c6N, c7N, bbN, h1N, rfl, hR70, hK69, N⟩ := hp68.take
   replace Z := dKT Z hK69 (by omega) (by decide)
   replace X := dKT X hK69 (by omega) (by decide)
   replace V := dKT V hK69 (by omega) (by decide)
   replace I := dKT I hK69 (by omega) (by decide)
   replace R := Lib.hid hR70
   replace KP := KP.trans hK69
   replace N := Lib.hid N
   clear hK69
   have h1aN : (#[c0N, c1N, c2N, c3N, c4N, c5N, c6N, c7N] : Array Value).all (·.oneCell') = true := by simpa using h1N
   generalize wd59.heap.size = L67 at *
   try clear hHeld
   refine hK.out _ _ (X.out.cell 8) (fun hHeld => ?_)
   clear hK K
   refine tk (i := 6) (v := ?k78) ?_
   simp only [put_laws2]
   refine tk (i := 7) (v := ?k79) ?_
   simp only [put_laws2]
   refine tk (i := 8) (v := ?k80) ?_
   simp only [put_laws2]
   refine rd1 (i := 10) (fun K hK => ?_)
   refine step_store_row (by rfl) 45 _ _ (by rfl) (g61) #[c0N, c1N, c2N, c3N, c4N, c5N, c6N, c7N] (by rfl) (by rfl) 45 _ I.out (by kernel_rfl) rfl (by first | assumption | simp [Value.oneCell']) ?_
   obtain ⟨wd81, hE82⟩ : ∃ ww, ww = wd66.setRow (g61) #[c0N, c1N, c2N, c3N, c4N, c5N, c6N, c7N] := ⟨_, rfl⟩
   rw [← hE82]
   replace Z := dR Z hE82 (by omega)
   replace X := dR X hE82 (by omega)
   replace V := dR V hE82 (by omega)
   replace R := rR R I hE82 (by decide) (by omega)
   replace KP := kRw KP hgr hE82 (by omega)
   replace I := dO I hE82
   replace N := nR N hE82 (by omega)
   clear hE82
   try clear hHeld
   refine hK.out _ _ (X.out.cell 8) (fun hHeld => ?_)
   clear hK K
   refine tk (i := 11) (v := ?k83) ?_
   simp only [put_laws2]
   refine wpAnyH_done (by kernel_rfl) ?_ _
   try clear hHeld
   go_wp2_with fail
   go_meet
   have hBl := N.out.le
   exact ⟨⟨_, _, _, _, _, _, _, _, _, _, _, _, _, _, rfl, rfl, h1N, I.out, R.out, N.out, by omega, by omega, by omega⟩, KP, Z.out, V.out⟩
  case rest =>
   obtain ⟨⟨gI, fp', fn', c0, c1, c2, c3, c4, c5, c6, c7, bb, L, B, rfl, rfl, h1', I, R, hN, hL, hgI, hLB⟩, KP, Z, V⟩ := hcut
   replace R := Lib.hid R
   replace Z := Lib.hid Z
   replace V := Lib.hid V
   replace I := Lib.hid I
   have N := Lib.hid (hN)
   clear hN
   obtain ⟨cI_0, cI_1, cI_2, cI_3, cI_4, cI_5, cI_6, cI_7⟩ := I.out.c8
   have fa := free_al V 6
   have ca := cell_alR (V.out.cell 6)
   go_upto_region 37 with fail
   clear fa ca
   clear cI_0 cI_1 cI_2 cI_3 cI_4 cI_5 cI_6 cI_7
   obtain ⟨wd85, hE86⟩ : ∃ ww, ww = wc.alloc (.cells #[c0, c1, c2, c3, c4, c5, c6, c7] 45) := ⟨_, rfl⟩
   rw [← hE86]
   have hb84 := aB hE86
   have G := aN hE86
   clear hE86
   have hl88 := Z.out.here
   have hl89 := V.out.here
   have hl90 := I.out.here
   have hl91 := N.out.le
   have hl92 := KP.size
   replace Z := dB Z hb84
   replace V := dB V hb84
   replace I := dB I hb84
   replace N := nB N hb84
   replace R := rB R hb84
   replace KP := kB KP hgr hb84
   clear hb84
   generalize wc.heap.size = g87 at *
   obtain ⟨wd93, hE94⟩ : ∃ ww, ww = wd85.setCell ⟨gX + 1, 6, none⟩ ((.slice (some ⟨g87, 0, none⟩) 1 1)) := ⟨_, rfl⟩
   rw [← hE94]
   replace Z := dF Z hE94 (by omega)
   replace I := dF I hE94 (by omega)
   replace G := dF G hE94 (by omega)
   replace R := rF R V hE94 (by decide) (by omega)
   replace KP := kS KP hgr hE94 (by omega)
   replace V : Hid (Has wd93 (gX + 1) 45 #[.int .i64 9, .bool false, .int .i64 0, .string ⟨#[]⟩, .int .i64 0, .slice none 0 0, (.slice (some ⟨g87, 0, none⟩) 1 1), .slice none 0 0]) := Lib.hid (by simpa using dS V hE94)
   replace N := nF N hE94 (by omega)
   clear hE94
   obtain ⟨cV_0, cV_1, cV_2, cV_3, cV_4, cV_5, cV_6, cV_7⟩ := V.out.c8
   go_wp2_with (refine wpList_store_row rfl 45 _ _ rfl (w.heap.size) _ rfl rfl 45 _ Z.out (by kernel_rfl) rfl (by first | assumption | simp [Value.oneCell']) ?_)
   clear cV_0 cV_1 cV_2 cV_3 cV_4 cV_5 cV_6 cV_7
   obtain ⟨wd95, hE96⟩ : ∃ ww, ww = wd93.setRow (w.heap.size) #[.int .i64 9, .bool false, .int .i64 0, .string ⟨#[]⟩, .int .i64 0, .slice none 0 0, .slice (some ⟨g87, 0, none⟩) 1 1, .slice none 0 0] := ⟨_, rfl⟩
   rw [← hE96]
   replace V := dR V hE96 (by omega)
   replace I := dR I hE96 (by omega)
   replace G := dR G hE96 (by omega)
   replace R := rR R Z hE96 (by decide) (by omega)
   replace KP := kRw KP hgr hE96 (by omega)
   replace Z := dO Z hE96
   replace N := nR N hE96 (by omega)
   clear hE96
   have hNl := N.out.le
   have HF : Hid (PayPost gr (.slice (some ⟨b, o, none⟩) ts.length c) path w (decB rec x (1 :: p) path) (.returned (.tuple #[.agg #[.int .i64 9, .bool false, .int .i64 0, .string ⟨#[]⟩, .int .i64 0, .slice none 0 0, .slice (some ⟨g87, 0, none⟩) 1 1, .slice none 0 0], .bool bb])) wd95) := by
    show PayPost _ _ _ _ _ _ _
    have hN := N.out.now
    cases q with
    | ok v =>
     obtain ⟨rfl, vk, vi, vr, hc, hv⟩ := hN
     exact PayPost.good (v := .mk 9 false 0 [] 0 [] [v] []) (by rw [HD.out]; rfl) R KP (valP_one hv (by omega) hNl (by rw [← hc]; exact G.out) (by decide) (by omega) (by unfold I64; omega) (by unfold I64; omega))
    | error pn =>
     obtain ⟨p', n'⟩ := pn
     obtain ⟨rfl, hf⟩ := hN
     exact PayPost.bad (by rw [HD.out]; rfl) R KP hf (by simp [Value.oneCell'])
   obtain ⟨cZ_0, cZ_1, cZ_2, cZ_3, cZ_4, cZ_5, cZ_6, cZ_7⟩ := Z.out.c8
   exact bodyPost_ret (v := .tuple #[.agg #[.int .i64 9, .bool false, .int .i64 0, .string ⟨#[]⟩, .int .i64 0, .slice none 0 0, .slice (some ⟨g87, 0, none⟩) 1 1, .slice none 0 0], .bool bb]) (by simp [results, Tryd.results28, go_sem, cZ_0, cZ_1, cZ_2, cZ_3, cZ_4, cZ_5, cZ_6, cZ_7]) rfl (HF.out)
 have HR : Hid (decB rec x (b0 :: p) path = .error (path, 1)) := by show _ = _; simp [decB, HKx.out, h1]
 have h1i : ¬ (b0.toNat : Int) = 1 := by omega
 have h1n : ¬ b0 = 1 := fun e => h1 (by rw [e]; rfl)
 have h1b : (b0 != 1) = true := by simpa using h1n
 have h1c : ((b0.toNat : Int) != 1) = true := by simpa using h1i
 go_upto_region 34 with fail
 have hz := Z.out.here
 go_wp2_with fail
 ((with_reducible refine (fail_post gr _ _ _ path 1 _ (by omega) R.out.at_).mono ?_); rintro e wd97 hp)
 obtain ⟨c0, c1, c2, c3, c4, c5, c6, c7, bb, h1', rfl⟩ := hp.form
 have Z2 := dKT Z hp.keep (by omega) (by decide)
 go_wp2_with (refine wpList_store_row rfl 45 _ _ rfl w.heap.size _ rfl rfl 45 _ Z2.out (by kernel_rfl) rfl (by simpa using h1') ?_)
 obtain ⟨z0, z1, z2, z3, z4, z5, z6, z7⟩ := (row_has Z2.out #[c0, c1, c2, c3, c4, c5, c6, c7]).c8
 exact bodyPost_ret (v := .tuple #[.agg #[c0, c1, c2, c3, c4, c5, c6, c7], .bool bb]) (by simp [results, Tryd.results28, go_sem, z0, z1, z2, z3, z4, z5, z6, z7]) rfl (by rw [HR.out]; exact hp.tail KP hgr (Nat.le_refl _) hz Z2.out (by decide))
end Go.Proofs.YtccmmibkihbobaaDoor

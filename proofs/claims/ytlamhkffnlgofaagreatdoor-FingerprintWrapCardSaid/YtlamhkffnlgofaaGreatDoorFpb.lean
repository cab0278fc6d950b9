/- What fingerprint.Bytes computes: the canonical bytes, or an error. No condition. -/
import Derived.Test.YtlamhkffnlgofaaGreatDoorFpf
import Derived.Test.YtlamhkffnlgofaaGreatDoorHAP
import Derived.Test.YtlamhkffnlgofaaGreatDoorDefs
import Derived.Test.YtlamhkffnlgofaaGreatDoorHAL
import Derived.Test.YtlamhkffnlgofaaGreatDoorCanon
set_option maxHeartbeats 1600000
namespace Go.Proofs.YtlamhkffnlgofaaGreatDoor
open Go.ChangeShapes Go.WideShapes Go.ChangeAt Go.RowKit
theorem formOK_of {x : Typ} (h : TypIn x) : FormOK x := by
 obtain ⟨hf, hi, hm, hs, hms, hk, he⟩ := h
 exact ⟨by omega, by omega, by omega, ⟨by omega, fun s hs1 => by have := hs.2 s hs1; omega⟩, by omega, fun m hm1 => by obtain ⟨h1, h2, h3⟩ := hms.2 m hm1; omega⟩
theorem fpf_any (q : List UInt8) (x : Typ) (vs vm : Value) (hx : TypIn x) (hl : q.length ≤ 10000000000000) (gw : Nat) (w : World) (hw : WrAt w gw q) (ht : TypAt w gw x vs vm) :
  Calls Tryz.prog 47 #[.pointer (some ⟨gw, 0, none⟩), typA x vs vm] w (WPost gw (q ++ singT x) w) := by
 have hk := form_kind hx.form
 have ho := formOK_of hx
 have hcs : x.kind = 1 ∨ x.kind = 2 ∨ x.kind = 3 ∨ x.kind = 4 ∨ x.kind = 5 ∨ x.kind = 6 ∨ x.kind = 7 ∨ x.kind = 8 ∨ x.kind = 9 := by omega
 rcases hcs with h | h | h | h | h | h | h | h | h
 ·
  exact fpf1_any q x vs vm h hl gw w hw ht
 ·
  exact fpf2_any q x vs vm h hl gw w hw ht
 ·
  exact fpf3_any q x vs vm h ho hl gw w hw ht
 ·
  exact fpf4_any q x vs vm h ho hl gw w hw ht
 ·
  exact fpf5_any q x vs vm h ho hl gw w hw ht
 ·
  exact fpf6_any q x vs vm h ho hl gw w hw ht
 ·
  exact fpf7_any q x vs vm h ho hl gw w hw ht
 ·
  exact fpf8_any q x vs vm h ho hl gw w hw ht
 exact fpf9_any q x vs vm h ho hl gw w hw ht
def FullAll (us : List Typ) : Prop := ∀ (W : World) (gw b o c : Nat), RdTyps W gw (.slice (some ⟨b, o, none⟩) us.length c) us → ∀ x ∈ us, ∀ m ∈ x.mems, m.hasDef = true → ∀ vk vi vr, ValAt W gw m.dflt vk vi vr → FullOK us gw b o c W m vk vi vr
theorem typAt_nat0 {ts : List Typ} {t : Int} {x : Typ} (h : typAt ts t = some x) : 0 ≤ t ∧ t.toNat < ts.length ∧ ts[t.toNat]? = some x := by
 unfold typAt at h
 split at h
 ·
  next h0 => exact ⟨h0, (List.getElem?_eq_some_iff.1 h).1, h⟩
 cases h
theorem fullAll_bare {us : List Typ} (hv : validE us = 0) (hI : IntIn us) (hD : DflOK us) (h0 : Dfl0 us) : FullAll us := by
 intro W gw b o c hr x hx m hm hd vk vi vr hval
 have hf := hD x hx m hm hd
 cases hty : typAt us m.ty with
 | none => rw [fitV_eq, hty] at hf; cases hf
 | some y =>
  obtain ⟨h1, h2, h3⟩ := typAt_nat0 hty
  obtain ⟨b', o', e, hb, hel⟩ := hr.elem (by omega)
  injection e with e
  injection e with e1 e2 _
  subst e1 e2
  obtain ⟨vs, vm, hcell, hat⟩ := hel _ h2
  have ey : us[m.ty.toNat] = y := by rw [List.getElem?_eq_getElem h2] at h3; exact Option.some.inj h3
  rw [ey] at hcell hat
  obtain ⟨C1, l1, C2, l2, e1, e2, -, -⟩ := hat.forms
  obtain ⟨D1, d1, D2, d2, D3, d3, f1, f2, f3, -, -, -⟩ := hval.forms
  exact fullOK_bare hv hI hb hty hf (h0 x hx m hm hd) ⟨vs, vm, hcell, ⟨C1, _, l1, e1⟩, C2, _, l2, e2⟩ ⟨D1, d1, f1⟩ ⟨D2, d2, f2⟩ ⟨D3, d3, f3⟩
noncomputable def bytE (ts : List Typ) (t : Int) : List UInt8 × Int :=
 if rootE ts t ≠ 0 then ([], rootE ts t)
 else if (defE (canT ts t.toNat)).2.2 ≠ 0 then ([], (defE (canT ts t.toNat)).2.2)
 else (bytesT (canT ts t.toNat), 0)
theorem defM_of {ts : List Typ} : ∀ {l : List Mem}, (∀ m ∈ l, m.hasDef = true → fitV ts true m.dflt m.ty = true) ↔ defM ts l = none
 | [] => by simp [defM]
 | m :: r => by
  have ih := defM_of (ts := ts) (l := r)
  rw [defM]
  by_cases h : m.hasDef = true ∧ fitV ts true m.dflt m.ty = false
  ·
   rw [if_pos h]
   refine ⟨fun h2 => ?_, fun h2 => by cases h2⟩
   have := h2 m (by simp) h.1
   rw [h.2] at this; cases this
  rw [if_neg h, ← ih]
  refine ⟨fun h2 m' hm => h2 m' (by simp [hm]), fun h2 m' hm hd => ?_⟩
  rcases List.mem_cons.1 hm with rfl | hm
  ·
   cases hf : fitV ts true m'.dflt m'.ty with
   | true => rfl
   | false => exact absurd ⟨hd, hf⟩ h
  exact h2 m' hm hd
theorem defT_of {ts : List Typ} : ∀ {l : List Typ} {i : Nat}, (∀ x ∈ l, ∀ m ∈ x.mems, m.hasDef = true → fitV ts true m.dflt m.ty = true) ↔ (defT ts l i).2.2 = 0
 | [], i => by simp [defT]
 | x :: r, i => by
  have ih := defT_of (ts := ts) (l := r) (i := i + 1)
  have hm := defM_of (ts := ts) (l := x.mems)
  cases hd : defM ts x.mems with
  | some id =>
   rw [defT_some ts r x i id hd]
   refine ⟨fun h => ?_, fun h => by cases h⟩
   have := hm.1 (h x (by simp))
   rw [hd] at this; cases this
  | none =>
   rw [defT_none ts r x i hd, ← ih]
   refine ⟨fun h y hy => h y (by simp [hy]), fun h y hy => ?_⟩
   rcases List.mem_cons.1 hy with rfl | hy
   ·
    exact hm.2 hd
   exact h y hy
theorem defE_ok {ts : List Typ} (hv : validE ts = 0) : DflOK ts ↔ (defE ts).2.2 = 0 := by
 unfold defE DflOK
 rw [if_pos hv]
 exact defT_of
theorem bytE_ok {ts : List Typ} (hv : validE ts = 0) {t : Nat} (ht : t < ts.length) (hD : DflOK ts) : bytE ts t = (bytesT (canT ts t), 0) := by
 have hr : rootE ts t = 0 := by unfold rootE; rw [if_neg (by simpa using hv), if_neg (by omega)]
 unfold bytE
 rw [if_neg (by simpa using hr), Int.toNat_natCast, if_neg (by simpa using (defE_ok (can_valid hv ht)).1 (can_dfl hv ht hD))]
theorem flat_take_le {α : Type} (f : α → List UInt8) : ∀ (l : List α) (k : Nat), ((l.take k).flatMap f).length ≤ (l.flatMap f).length
 | [], k => by simp
 | x :: r, 0 => by simp
 | x :: r, k + 1 => by
  have := flat_take_le f r k
  rw [List.take_succ_cons, List.flatMap_cons, List.flatMap_cons, List.length_append, List.length_append]; omega
theorem flat_take_mem {α : Type} (f : α → List UInt8) (l : List α) (k : Nat) (h : k < l.length) : (l.take (k + 1)).flatMap f = (l.take k).flatMap f ++ f l[k] := by
 rw [List.take_add_one, List.flatMap_append, List.getElem?_eq_getElem h]; simp
set_option maxRecDepth 100000 in
theorem bytes_any (ts : List Typ) (A : Option Addr) (c : Nat) (t : Int) (w : World) (hs : Sizes ts) (ht : RdTyps w w.heap.size (.slice A ts.length c) ts) (hp : PowIs w) (hI : IntIn ts)
  (hlen : rootE ts t = 0 → DflOK (canT ts t.toNat) → (bytesT (canT ts t.toNat)).length ≤ 1000000000000) (hfull : rootE ts t = 0 → DflOK (canT ts t.toNat) → FullAll (canT ts t.toNat)) :
  Calls Tryz.prog 22 #[.agg #[.slice A ts.length c, .int .i64 t]] w fun e w' => e = .returned (.tuple #[.string ⟨(bytE ts t).1.toArray⟩, .int .i64 (bytE ts t).2]) ∧ Below w.heap.size w w' := by
 have HT := Lib.hid ht
 have HP := Lib.hid hp
 have HS := Lib.hid hs
 have HL := Lib.hid hlen
 have HF := Lib.hid hfull
 have HI := Lib.hid hI
 clear ht hp hs hlen hfull hI
 go_enter Tryz.func22, Tryz.ntmps22
 go_upto_region 1 with fail
 refine am1 (fun wd2 hb1 P => ?_)
 have hw3 := hb1
 clear hb1
 obtain ⟨cP_0, cP_1⟩ := P.out.c2
 go_wp2_with fail
 clear cP_0 cP_1
 ((with_reducible refine (canon_any ts A c t _ HS.out (HT.out.on hw3) (HP.out.on hw3)).mono ?_); rintro e wd4 ⟨hb5, hpost⟩)
 replace P := b1 P hb5
 replace hw3 := dT hw3 hb5
 clear hb5
 clear P
 rcases hpost with ⟨hr, rfl⟩ | ⟨hr, A2, c2, rfl, hus⟩
 ·
  have hb : Hid (bytE ts t = ([], rootE ts t)) := by show _ = _; unfold bytE; rw [if_pos hr]
  have t1 : (rootE ts t == 0) = false := by simpa using hr
  clear hr
  generalize rootE ts t = re at *
  go_upto_region 2 with fail
  refine am1 (fun wd7 hb6 Q => ?_)
  have hl9 := hw3.size
  replace hw3 := dT hw3 hb6
  clear hb6
  generalize wd4.heap.size = g8 at *
  go_wp2_with fail
  exact bodyPost_ret (v := .tuple #[.string ⟨#[]⟩, .int .i64 re]) (by simp [results, Tryz.results22, go_sem]) rfl (⟨by rw [hb.out], hw3⟩)
 obtain ⟨hv, ht0, htl⟩ := rootE_ok hr
 have htl2 : t.toNat < ts.length := by omega
 have hvu := can_valid hv htl2
 have hIu := can_int hv htl2 HI.out
 have hpos := (can_root (inside_of hv) htl2).lt.2
 have hlen := HL.out hr
 have hfull := HF.out hr
 have hb0 : (defE (canT ts t.toNat)).2.2 ≠ 0 → bytE ts t = ([], (defE (canT ts t.toNat)).2.2) := fun h => by unfold bytE; rw [if_neg (by simpa using hr), if_pos h]
 have hb1 : (defE (canT ts t.toNat)).2.2 = 0 → bytE ts t = (bytesT (canT ts t.toNat), 0) := fun h => by unfold bytE; rw [if_neg (by simpa using hr), if_neg (by simpa using h)]
 generalize canT ts t.toNat = us at *
 have hD := defE_ok hvu
 have hin := typIn_of hvu hIu
 have h32 := (valid_all hvu).1
 have hsz : Sizes us := fun x hx => by have h := hin x hx; have := h.syms.1; have := h.mems.1; exact ⟨by omega, by omega⟩
 have HIN := Lib.hid hin
 have HLEN := Lib.hid hlen
 have HFULL := Lib.hid hfull
 have HB0 := Lib.hid hb0
 have HB1 := Lib.hid hb1
 have HSZ := Lib.hid hsz
 have HD := Lib.hid hD
 obtain ⟨z, hz⟩ : ∃ z, z = wd4.heap.size := ⟨_, rfl⟩
 rw [← hz] at hus
 have T := Lib.hid (Kept.rd (P := fun w B => RdTyps w B (.slice A2 us.length c2) us) hus (Nat.le_of_eq hz) (fun w' hk => hus.keep hk (Nat.le_refl _)))
 clear hin hlen hfull hb0 hb1 hsz hD hvu hIu hv ht0 htl htl2 hr hus hz
 go_upto_region 2 with fail
 refine am1 (fun wd7 hb6 Q => ?_)
 have hl9 := T.out.le
 have hl10 := hw3.size
 replace T := b1 T hb6
 replace hw3 := dT hw3 hb6
 clear hb6
 generalize wd4.heap.size = g8 at *
 obtain ⟨gQ, rfl⟩ : ∃ g, g = g8 := ⟨_, rfl⟩
 have cQ_0 := Q.out.e0
 go_wp2_with fail
 clear cQ_0
 ((with_reducible refine (vdefs_any us A2 c2 _ HSZ.out (T.out.now.keep (fun _ _ => rfl) T.out.le)).mono ?_); rintro e wd11 ⟨rfl, hb12⟩)
 obtain ⟨Q, T⟩ := b2 Q T hb12
 replace hw3 := dT hw3 hb12
 clear hb12
 generalize defE us = dq at *
 obtain ⟨d1, d2, d3⟩ := dq
 simp only at HB0 HB1 HD
 by_cases h3 : d3 = 0
 ·
  subst h3
  have hbe := HB1.out rfl
  have hd0 := HD.out.2 rfl
  have hlen := HLEN.out hd0
  have hfull := HFULL.out hd0
  have HBE := Lib.hid hbe
  have HLE := Lib.hid hlen
  have HFU := Lib.hid hfull
  clear hbe hd0 hlen hfull HB0 HB1 HD HLEN HFULL
  go_upto_region 8 with fail
  refine am1 (fun wd14 hb13 Wr => ?_)
  have hl16 := Q.out.here
  have hl17 := T.out.le
  have hl18 := hw3.size
  obtain ⟨Q, T⟩ := b2 Q T hb13
  replace hw3 := dT hw3 hb13
  clear hb13
  generalize wd11.heap.size = g15 at *
  obtain ⟨gw, rfl⟩ : ∃ g, g = g15 := ⟨_, rfl⟩
  obtain ⟨WS600, hWS⟩ : ∃ x, x = wd14 := ⟨_, rfl⟩
  subst hWS
  have hS600 := hw3
  clear hw3
  have hW0 := hS600
  have hQ0 := Q.out
  have hT0 := T.out.now
  have hR0 : WrAt WS600 gw [] := ⟨none, 0, Wr.out, World.ownsRow_nil _ _ _ _⟩
  have hgw9 := Wr.out.here
  clear Wr Q
  obtain ⟨b, o, hA2, hbz, hel⟩ := hT0.elem hpos
  subst hA2
  have hT1 : RdTyps WS600 gw (.slice (some ⟨b, o, none⟩) us.length c2) us := hT0.keep (fun _ _ => rfl) (by omega)
  have HTW : Hid (∀ W, WKeep gw WS600 W → RdTyps W gw (.slice (some ⟨b, o, none⟩) us.length c2) us) := fun W h => hT1.keep (fun p hp => h.low.cell hp) (Nat.le_refl _)
  have HEL : Hid (∀ W, WKeep gw WS600 W → ∀ (k : Nat) (hk : k < us.length), ∃ vs vm, Cells10 W b (o + k * 10) us[k] vs vm ∧ TypAt W gw us[k] vs vm) := fun W h k hk => by
   obtain ⟨vs, vm, h1, h2⟩ := hel k hk
   exact ⟨vs, vm, h1.below h.low (by omega), h2.keep (fun p hp => h.low.cell (by omega)) (by omega)⟩
  clear hel hT0 hT1
  clear T
  have Q := hQ0
  have R := hR0
  have KG := WKeep.refl gw WS600
  replace R := Lib.hid R
  replace Q := Lib.hid Q
  clear hQ0 hR0
  have cQ_0 := Q.out.e0
  go_wp2_with fail
  clear cQ_0
  refine amc1 (fun wd602 hb601 G => ?_)
  replace Q := b1 Q hb601
  replace R := wB R hb601
  replace KG := wkB KG hb601 (by have := KG.size; omega)
  clear hb601
  ((with_reducible refine (fnum1 [] us.length (by omega) (by simp) gw WS600.heap.size 1 (by omega) _ R.out G.out).mono ?_); rintro e wd603 ⟨rfl, hR604, hK605⟩)
  replace Q := wH Q hK605 (by omega) (by decide)
  replace G := wH G hK605 (by omega) (by decide)
  replace R := Lib.hid hR604
  replace KG := KG.trans hK605
  clear hR604 hK605
  rw [List.nil_append] at R
  clear G
  have cQ_0 := Q.out.e0
  go_upto_region 10 with fail
  clear cQ_0
  have hpl := putF_len9 us.length
  have hQ0 := Q.out
  have hR0 := R.out
  have HBY : Hid (bytesT us = putF 9 us.length ++ (us.flatMap singT ++ us.flatMap (dfltB us))) := rfl
  have hbl : (bytesT us).length = (putF 9 us.length).length + ((us.flatMap singT).length + (us.flatMap (dfltB us)).length) := by rw [HBY.out, List.length_append, List.length_append]
  go_loopw [47] (fun s47 wr => ∃ k : Nat, k ≤ us.length ∧ s47 = .int .i64 k ∧ WrAt wr gw (putF 9 us.length ++ (us.take k).flatMap singT) ∧ WKeep gw WS600 wr ∧ Has wr gQ 27 #[.slice (some ⟨b, o, none⟩) us.length c2, .int .i64 0]) (fun s47 _ => us.length - (intOf s47).toNat)
  case atStart => exact ⟨0, Nat.zero_le _, rfl, by simpa using hR0, KG, hQ0⟩
  case round =>
   clear Q R KG hQ0 hR0 hgw9
   obtain ⟨k, hkl, rfl, R, KG, Q⟩ := hrel
   by_cases hlt : k < us.length
   ·
    obtain ⟨vs, vm, hct, hat⟩ := HEL.out _ KG k hlt
    have hti := HIN.out _ (List.getElem_mem hlt)
    have hnx := flat_take_mem singT us k hlt
    have hle := flat_take_le singT us k
    have hgr := R.here
    generalize us[k] = x at *
    obtain ⟨C1, l1, C2, l2, rfl, rfl, -, -⟩ := hat.forms
    have HNX := Lib.hid hnx
    have hle0 := HLE.out
    have hql : (putF 9 us.length ++ (us.take k).flatMap singT).length ≤ 10000000000000 := by rw [List.length_append]; omega
    generalize hq : putF 9 us.length ++ (us.take k).flatMap singT = q at *
    have HQ := Lib.hid hq
    have hd1 : decide (us.length ≤ k) = false := by simpa using hlt
    have hlt' : (k : Int) < us.length := by omega
    have KG0 := KG
    clear hnx hle hq KG
    have KG := WKeep.refl gw wr
    replace R := Lib.hid R
    replace Q := Lib.hid Q
    have AT := Lib.hid (Kept.rd (P := fun w B => TypAt w B x (.slice C1 x.syms.length l1) (.slice C2 x.mems.length l2)) hat (Nat.le_of_lt hgr) (fun w' hk => hat.keep hk (Nat.le_refl _)))
    clear hat
    obtain ⟨x0, x1, x2, x3, x4, x5, x6, x7, x8, x9⟩ := hct
    go_upto_region 12 with fail
    refine am1 (fun wd607 hb606 X => ?_)
    obtain ⟨Q, AT⟩ := b2 Q AT hb606
    replace R := wB R hb606
    replace KG := wkB KG hb606 (by have := KG.size; omega)
    clear hb606
    clear x0 x1 x2 x3 x4 x5 x6 x7 x8 x9
    obtain ⟨cX_0, cX_1, cX_2, cX_3, cX_4, cX_5, cX_6, cX_7, cX_8, cX_9⟩ := X.out.c10
    go_wp2_with fail
    clear cX_0 cX_1 cX_2 cX_3 cX_4 cX_5 cX_6 cX_7 cX_8 cX_9
    ((with_reducible refine (fpf_any q x _ _ hti hql gw _ R.out AT.out.now).mono ?_); rintro e wd608 ⟨rfl, hR609, hK610⟩)
    replace Q := wH Q hK610 (by omega) (by decide)
    replace X := wH X hK610 (by omega) (by decide)
    replace AT := wN AT hK610 (by omega)
    replace R := Lib.hid hR609
    replace KG := KG.trans hK610
    clear hR609 hK610
    have hfin : Hid (putF 9 us.length ++ (us.take (k + 1)).flatMap singT = q ++ singT x) := by show _ = _; rw [HNX.out, ← List.append_assoc, HQ.out]
    go_wp2_with fail
    go_roundw
    case rel => exact ⟨k + 1, by omega, by go_num, by rw [hfin.out]; exact R.out, KG0.trans KG, Q.out⟩
    case measure => simp [intOf]; omega
   obtain rfl : k = us.length := by omega
   rw [List.take_of_length_le (Nat.le_refl _)] at R
   have hgr := R.here
   obtain ⟨p1, hp1⟩ : ∃ p, p = putF 9 us.length ++ us.flatMap singT := ⟨_, rfl⟩
   rw [← hp1] at R
   have HP1 := Lib.hid hp1
   have hp1l : p1.length + (us.flatMap (dfltB us)).length = (bytesT us).length := by rw [hp1, List.length_append]; omega
   have KG0 := KG
   clear hp1 KG
   have KG := WKeep.refl gw wr
   replace R := Lib.hid R
   replace Q := Lib.hid Q
   have cQ_0 := Q.out.e0
   go_upto_region 15 with fail
   clear cQ_0
   have hQ0 := Q.out
   have hR0 := R.out
   go_loopw [59] (fun s59 wr => ∃ k : Nat, k ≤ us.length ∧ s59 = .int .i64 k ∧ WrAt wr gw (p1 ++ (us.take k).flatMap (dfltB us)) ∧ WKeep gw WS600 wr ∧ Has wr gQ 27 #[.slice (some ⟨b, o, none⟩) us.length c2, .int .i64 0]) (fun s59 _ => us.length - (intOf s59).toNat)
   case atStart => exact ⟨0, Nat.zero_le _, rfl, by simpa using hR0, KG0, hQ0⟩
   case round =>
    clear Q R KG KG0 hQ0 hR0 hgr
    obtain ⟨k, hkl, rfl, R, KG, Q⟩ := hrel
    obtain ⟨wo, hwo⟩ : ∃ x, x = wr := ⟨_, rfl⟩
    subst hwo
    by_cases hlt : k < us.length
    ·
     obtain ⟨vs, vm, hct, hat⟩ := HEL.out _ KG k hlt
     have hxm := List.getElem_mem hlt
     have hml := (HIN.out _ hxm).mems.1
     have hnx := flat_take_mem (dfltB us) us k hlt
     have hle := flat_take_le (dfltB us) us (k + 1)
     have hgr := R.here
     generalize us[k] = x at *
     obtain ⟨C1, l1, C2, l2, rfl, rfl, -, -⟩ := hat.forms
     rw [hnx, List.length_append] at hle
     have HNX := Lib.hid hnx
     have hle0 := HLE.out
     have hql : (p1 ++ (us.take k).flatMap (dfltB us)).length + (dfltB us x).length ≤ 1000000000000 := by rw [List.length_append]; omega
     generalize hq : p1 ++ (us.take k).flatMap (dfltB us) = q at *
     have HQ := Lib.hid hq
     have hd1 : decide (us.length ≤ k) = false := by simpa using hlt
     have hlt' : (k : Int) < us.length := by omega
     have KG0 := KG
     clear hnx hle hq KG
     have KG := WKeep.refl gw wo
     replace R := Lib.hid R
     replace Q := Lib.hid Q
     have HAT : Hid (∀ W, WKeep gw wo W → TypAt W gw x (.slice C1 x.syms.length l1) (.slice C2 x.mems.length l2)) := fun W h => hat.keep (fun p hp => h.low.cell hp) (Nat.le_refl _)
     clear hat
     obtain ⟨x0, x1, x2, x3, x4, x5, x6, x7, x8, x9⟩ := hct
     go_upto_region 17 with fail
     refine am1 (fun wd607 hb606 X => ?_)
     replace Q := b1 Q hb606
     replace R := wB R hb606
     replace KG := wkB KG hb606 (by have := KG.size; omega)
     clear hb606
     clear x0 x1 x2 x3 x4 x5 x6 x7 x8 x9
     have cX_6 := X.out.e6
     go_upto_region 18 with fail
     clear cX_6
     have hQ0 := Q.out
     have hR0 := R.out
     go_loopw [66] (fun s66 wj => ∃ j : Nat, j ≤ x.mems.length ∧ s66 = .int .i64 j ∧ WrAt wj gw (q ++ (x.mems.take j).flatMap (dfltM us)) ∧ WKeep gw wo wj ∧ Has wj gQ 27 #[.slice (some ⟨b, o, none⟩) us.length c2, .int .i64 0]) (fun s66 _ => x.mems.length - (intOf s66).toNat)
     case atStart => exact ⟨0, Nat.zero_le _, rfl, by simpa using hR0, KG, hQ0⟩
     case round =>
      clear Q R KG X hQ0 hR0
      obtain ⟨j, hjl, rfl, R, KG, Q⟩ := hrel
      by_cases hlj : j < x.mems.length
      ·
       obtain ⟨b3, o3, hC2, hb3, hel3⟩ := (HAT.out _ KG).mems.elem (by omega)
       obtain ⟨dk, di, dr, hcells, hma⟩ := hel3 j hlj
       have hmm := List.getElem_mem hlj
       have hnx := flat_take_mem (dfltM us) x.mems j hlj
       have hle := flat_take_le (dfltM us) x.mems (j + 1)
       have hgt := R.here
       have hfm := fun hd => HFU.out _ gw b o c2 (HTW.out _ (KG0.trans KG)) x hxm _ hmm hd dk di dr hma.dflt
       generalize x.mems[j] = m at *
       rw [hnx, List.length_append, show (x.mems.flatMap (dfltM us)).length = (dfltB us x).length from rfl] at hle
       obtain ⟨D1, e1, D2, e2, D3, e3, rfl, rfl, rfl, -, -, -⟩ := hma.dflt.forms
       have HNX2 := Lib.hid hnx
       have hql2 : (q ++ (x.mems.take j).flatMap (dfltM us)).length + (dfltM us m).length ≤ 1000000000000 := by rw [List.length_append]; omega
       generalize hq2 : q ++ (x.mems.take j).flatMap (dfltM us) = q2 at *
       have HQ2 := Lib.hid hq2
       have HFM := Lib.hid hfm
       have hd2 : decide (x.mems.length ≤ j) = false := by simpa using hlj
       have hlj' : (j : Int) < x.mems.length := by omega
       have KG1 := KG
       subst hC2
       clear hnx hle hq2 KG hma hfm hel3
       have KG := WKeep.refl gw wr
       replace R := Lib.hid R
       replace Q := Lib.hid Q
       obtain ⟨y0, y1, y2, y3, y4, y5, y6, y7, y8, y9, y10, y11, y12⟩ := hcells
       go_upto_region 20 with fail
       refine am1 (fun wd609 hb608 M => ?_)
       replace Q := b1 Q hb608
       replace R := wB R hb608
       replace KG := wkB KG hb608 (by have := KG.size; omega)
       clear hb608
       clear y0 y1 y2 y3 y4 y5 y6 y7 y8 y9 y10 y11 y12
       cases hdd : m.hasDef with
       | false =>
        have hdm : Hid (dfltM us m = []) := by show _ = _; unfold dfltM; rw [hdd]; rfl
        have cM_4 := M.out.e4
        rw [hdd] at cM_4
        clear hdd
        go_wp2_with fail
        go_roundw
        case rel => exact ⟨j + 1, by omega, by go_num, by rw [HNX2.out, hdm.out, List.append_nil, HQ2.out]; exact R.out, KG1.trans KG, Q.out⟩
        case measure => simp [intOf]; omega
       | true =>
        have hdm : dfltM us m = fullV us m.dflt m.ty := by unfold dfltM; rw [hdd]; rfl
        rw [hdm] at hql2
        have hfc : ∀ (W : World) (q : List UInt8), Below gw wr W → q.length + (fullV us m.dflt m.ty).length ≤ 10000000000000 → WrAt W gw q → Calls Tryz.prog 48 #[.pointer (some ⟨gw, 0, none⟩), .agg #[.slice (some ⟨b, o, none⟩) us.length c2], .int .i64 m.ty, .agg #[.int .i64 m.dflt.kind, .bool m.dflt.bool, .int .i64 m.dflt.num, .string ⟨m.dflt.str.toArray⟩, .int .i64 m.dflt.id, .slice D1 m.dflt.keys.length e1, .slice D2 m.dflt.items.length e2, .slice D3 m.dflt.rest.length e3]] W (WPost gw (q ++ fullV us m.dflt m.ty) W) := HFM.out hdd
        have HFC := Lib.hid hfc
        have HDM := Lib.hid hdm
        obtain ⟨cM_0, cM_1, cM_2, cM_3, cM_4, cM_5, cM_6, cM_7, cM_8, cM_9, cM_10, cM_11, cM_12⟩ := M.out.c13
        rw [hdd] at cM_4
        clear hdd hdm hfc
        go_upto_region 21 with fail
        have cQ_0 := Q.out.e0
        go_wp2_with fail
        clear cM_0 cM_1 cM_2 cM_3 cM_4 cM_5 cM_6 cM_7 cM_8 cM_9 cM_10 cM_11 cM_12 cQ_0
        ((with_reducible refine (HFC.out _ q2 KG.low (by omega) R.out).mono ?_); rintro e wd610 ⟨rfl, hR611, hK612⟩)
        replace Q := wH Q hK612 (by omega) (by decide)
        replace M := wH M hK612 (by omega) (by decide)
        replace R := Lib.hid hR611
        replace KG := KG.trans hK612
        clear hR611 hK612
        go_wp2_with fail
        go_roundw
        case rel => exact ⟨j + 1, by omega, by go_num, by rw [HNX2.out, HDM.out, ← List.append_assoc, HQ2.out]; exact R.out, KG1.trans KG, Q.out⟩
        case measure => simp [intOf]; omega
      obtain rfl : j = x.mems.length := by omega
      rw [List.take_of_length_le (Nat.le_refl _)] at R
      have hfin : Hid (p1 ++ (us.take (k + 1)).flatMap (dfltB us) = q ++ x.mems.flatMap (dfltM us)) := by show _ = _; rw [HNX.out, ← List.append_assoc, HQ.out]; rfl
      go_wp2_with fail
      go_roundw
      case rel => exact ⟨k + 1, by omega, by go_num, by rw [hfin.out]; exact R, KG0.trans KG, Q⟩
      case measure => simp [intOf]; omega
    obtain rfl : k = us.length := by omega
    rw [List.take_of_length_le (Nat.le_refl _)] at R
    have hby : p1 ++ us.flatMap (dfltB us) = bytesT us := by rw [HP1.out, HBY.out, List.append_assoc]
    rw [hby] at R
    clear hby hbl hp1l
    obtain ⟨A9, c9, W1, hown⟩ := R
    have cW := W1.e0
    have hcv := conv_owned 87 9 5 Tryz.underlying87 Tryz.underlying5 Tryz.underlying9 hown
    have hfb : Below w.heap.size w wo := hW0.trans (KG.low.mono (by have := hW0.size; omega))
    clear hown
    go_wp2
    exact bodyPost_ret (v := .tuple #[.string ⟨(bytesT us).toArray⟩, .int .i64 0]) (by simp [results, Tryz.results22, go_sem]) rfl (⟨by rw [HBE.out], hfb⟩)
 have hbe := HB0.out h3
 have HBE := Lib.hid hbe
 have t1 : (d3 == 0) = false := by simpa using h3
 clear hbe h3 HB0 HB1 HD
 go_wp2_with fail
 exact bodyPost_ret (v := .tuple #[.string ⟨#[]⟩, .int .i64 d3]) (by simp [results, Tryz.results22, go_sem]) rfl (⟨by rw [HBE.out], hw3⟩)
end Go.Proofs.YtlamhkffnlgofaaGreatDoor

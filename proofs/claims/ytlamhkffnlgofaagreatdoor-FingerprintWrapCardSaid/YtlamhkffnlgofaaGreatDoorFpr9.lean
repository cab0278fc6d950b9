/- What Root restores from canonical bytes: the canonical root. No condition. -/
import Derived.Test.YtlamhkffnlgofaaGreatDoorHAN
import Derived.Test.YtlamhkffnlgofaaGreatDoorFpb
import Derived.Test.YtlamhkffnlgofaaGreatDoorCanon
set_option maxHeartbeats 1600000
namespace Go.Proofs.YtlamhkffnlgofaaGreatDoor
open Go.ChangeShapes Go.WideShapes Go.ChangeAt Go.RowKit
theorem i64s (k : Int) (h : 0 ≤ k ∧ k ≤ 9 := by decide) : I64 k := by unfold I64; omega
structure CanOK (us : List Typ) : Prop where
 valid : validE us = 0
 pos : 0 < us.length
 canon : Canon us
 ints : IntIn us
 dfl : DflOK us
 bare : Dfl0 us
theorem formR_of {us : List Typ} (h : CanOK us) (n : Nat) (hn : n < us.length) : FormR n us[n] := by
 have hm := List.getElem_mem hn
 have hti := typIn_of h.valid h.ints _ hm
 obtain ⟨c1, c2, c3⟩ := h.canon n _ (List.getElem?_eq_getElem hn)
 obtain ⟨hkd, _, hu⟩ := held_of h.valid _ hm
 have h32 := (valid_all h.valid).1
 have hmx := maxB_of h.valid hm
 obtain ⟨_, z2, z3, _, _⟩ := form_zero hti.form
 refine ⟨hti.form, hti.ints, hmx.1, hmx.2, ⟨hti.syms.1, fun q hq => by have := hti.syms.2 q hq; omega⟩, ⟨hti.mems.1, fun q hq => ⟨hti.mems.2 q hq, ?_⟩⟩, ?_, ?_, c1, c2, c3⟩
 ·
  obtain ⟨k, hk1, hk2⟩ := hu q.ty (mem_uses _ q hq); omega
 ·
  by_cases h8 : us[n].kind = 8
  ·
   obtain ⟨k, hk1, hk2⟩ := hu _ (key_uses _ h8); omega
  rw [z2 h8]; omega
 by_cases h7 : 7 ≤ us[n].kind
 ·
  obtain ⟨k, hk1, hk2⟩ := hu _ (elem_uses _ h7); omega
 rw [z3 (by omega)]; omega
theorem dfl_val0 {us : List Typ} (hv : validE us = 0) {x : Typ} (hx : x ∈ us) {m : Mem} (hm : m ∈ x.mems) (hd : m.hasDef = false) : m.dflt = val0 := by
 have hf := ((valid_all hv).2 x hx).1
 obtain ⟨_, _, _, z4, _⟩ := form_zero hf
 by_cases hk : x.kind = 5 ∨ x.kind = 6
 ·
  unfold formB okT at hf
  rw [if_neg (by omega), if_neg (by omega), if_neg (by omega), if_pos hk] at hf
  simp only [Bool.and_eq_true] at hf
  have := hf.2.1.2
  unfold membersB at this
  simp only [Bool.and_eq_true] at this
  have h3 := List.all_eq_true.1 this.1 m hm
  unfold memB at h3
  rw [hd] at h3
  simp only [Bool.false_or, Bool.and_eq_true] at h3
  exact (sameV_iff _ _).1 h3.2.2
 rw [z4 hk] at hm; simp at hm
theorem memX_val0 {m : Mem} (h : MemIn m) (hn : m.name = nmC 102 m.id) (hd : m.dflt = val0) : MemX m := by
 obtain ⟨h1, h2, _⟩ := h
 refine ⟨⟨by unfold I64; omega, by unfold I64; omega⟩, ?_, by rw [hd]; exact ⟨rfl, rfl, rfl⟩, by rw [hd]; exact ⟨i64s 0, i64s 0, i64s 0⟩, by rw [hd]; decide⟩
 have := nmC_len 102 m.id (by unfold I64; omega)
 rw [hn]; omega
theorem typAt_ofC {us : List Typ} {x : Typ} {m : Mem} (hv : validE us = 0) (hx : x ∈ us) (hm : m ∈ x.mems) : ∃ y, typAt us m.ty = some y := by
 obtain ⟨_, _, hu⟩ := held_of hv x hx
 obtain ⟨k, hk1, hk2⟩ := hu m.ty (mem_uses x m hm)
 exact ⟨us[k], by rw [hk1, ctypAt_nat, List.getElem?_eq_getElem hk2]⟩
theorem memX_of {us : List Typ} (h : CanOK us) {n : Nat} (hn : n < us.length) {m : Mem} (hm : m ∈ us[n].mems) : MemX m := by
 have hx := List.getElem_mem hn
 have hti := (typIn_of h.valid h.ints _ hx).mems.2 m hm
 obtain ⟨_, _, c3⟩ := h.canon n _ (List.getElem?_eq_getElem hn)
 cases hd : m.hasDef with
 | false => exact memX_val0 hti (c3 m hm) (dfl_val0 h.valid hx hm hd)
 | true =>
  obtain ⟨h1, h2, _⟩ := hti
  have hf := h.dfl _ hx m hm hd
  obtain ⟨y, hy⟩ := typAt_ofC h.valid hx hm
  have h0 := h.bare _ hx m hm hd
  have hform := form0_of h.valid hy hf h0
  have hyi := h.ints y (btypAt_mem hy)
  have hnl := nmC_len 102 m.id (by unfold I64; omega)
  refine ⟨⟨by unfold I64; omega, by unfold I64; omega⟩, by rw [c3 m hm]; omega, ⟨h0.1, h0.2.1, h0.2.2.1⟩, ?_, ?_⟩
  ·
   cases hform with
   | bool bb hk hd he => rw [hd]; exact ⟨i64s 1, i64s 0, i64s 0⟩
   | int n hk hd he hn => rw [hd]; refine ⟨i64s 2, ?_, i64s 0⟩; show I64 n; unfold I64 at *; omega
   | str s hk hd he hn => rw [hd]; exact ⟨i64s 3, i64s 0, i64s 0⟩
   | enum n hk hd he hn => rw [hd]; refine ⟨i64s 4, i64s 0, ?_⟩; show I64 n; unfold I64; omega
   | list k hk h7 hd he => rw [hd]; refine ⟨?_, i64s 0, i64s 0⟩; show I64 k; unfold I64; omega
  cases hform with
  | bool bb hk hd he => rw [hd]; show (0 : Nat) ≤ _; omega
  | int n hk hd he hn => rw [hd]; show (0 : Nat) ≤ _; omega
  | str s hk hd he hn => rw [hd]; show s.length ≤ _; omega
  | enum n hk hd he hn => rw [hd]; show (0 : Nat) ≤ _; omega
  | list k hk h7 hd he => rw [hd]; show (0 : Nat) ≤ _; omega
theorem memX_un {m : Mem} (h : MemX m) : MemX (unM m) := ⟨h.ints, h.namel, ⟨rfl, rfl, rfl⟩, ⟨i64s 0, i64s 0, i64s 0⟩, by show (0 : Nat) ≤ _; omega⟩
theorem typX_of {us : List Typ} (h : CanOK us) (t i : Nat) : ∀ x ∈ fillS us t i, TypX x := by
 intro x hx
 obtain ⟨j, hj⟩ := List.mem_iff_getElem?.1 hx
 have hjl : j < us.length := by
  have := (List.getElem?_eq_some_iff.1 hj).1
  rwa [fillS_len] at this
 rw [fillS_get us t i j hjl] at hj
 obtain rfl := Option.some.inj hj
 have hti := typIn_of h.valid h.ints _ (List.getElem_mem hjl)
 obtain ⟨c1, c2, c3⟩ := h.canon j _ (List.getElem?_eq_getElem hjl)
 have hk := form_kind hti.form
 have hm := hti.max
 have hke := hti.key
 have hel := hti.elem
 have h32 := (valid_all h.valid).1
 refine ⟨⟨?_, hti.ints.1, hti.ints.2, ?_, ?_, ?_⟩, ?_, ⟨?_, ?_⟩, fun r hr => ?_, fun m hm1 => ?_⟩
 ·
  show I64 us[j].kind; unfold I64; omega
 ·
  show I64 us[j].max; unfold I64; omega
 ·
  show I64 us[j].key; unfold I64; omega
 ·
  show I64 us[j].elem; unfold I64; omega
 ·
  show us[j].name.length ≤ _
  have := nmC_len 84 (j : Int) (by unfold I64; omega)
  rw [c1]; split <;> simp <;> omega
 ·
  show us[j].syms.length ≤ _
  have := hti.syms.1; omega
 ·
  show (fillM us[j].mems _).length ≤ _
  rw [fillM_len]
  have := hti.mems.1; omega
 ·
  have hr2 : r ∈ us[j].syms := hr
  have h1 := hti.syms.2 r hr2
  have := nmC_len 115 r.1 (by unfold I64; omega)
  exact ⟨by unfold I64; omega, by rw [c2 r hr2]; omega⟩
 have hm2 : m ∈ fillM us[j].mems (fillN us[j] t i j) := hm1
 unfold fillM at hm2
 rcases List.mem_append.1 hm2 with h3 | h3
 ·
  exact memX_of h hjl (List.mem_of_mem_take h3)
 obtain ⟨q, hq, rfl⟩ := List.mem_map.1 h3
 exact memX_un (memX_of h hjl (List.mem_of_mem_drop hq))
theorem rfullD {us : List Typ} (h : CanOK us) {n : Nat} (hn : n < us.length) {m : Mem} (hm : m ∈ us[n].mems) (hd : m.hasDef = true) {y : Typ} {ty : Nat} (hty : m.ty = (ty : Int)) (hyl : ty < us.length) (hyk : y.kind = us[ty].kind)
  (b o c k gr : Nat) (r : List UInt8) (w : World) (C1 : Option Addr) (n1 l1 : Nat) (C2 : Option Addr) (n2 l2 : Nat) (hbw : b < w.heap.size) (hx : Cells10 w b (o + ty * 10) y (.slice C1 n1 l1) (.slice C2 n2 l2)) (hrl : r.length ≤ 1000000000000) (hr : RAt w gr (dfltM us m ++ r) k) :
  Calls Tryz.prog 64 #[.pointer (some ⟨gr, 0, none⟩), .agg #[.slice (some ⟨b, o, none⟩) us.length c], .int .i64 (ty : Nat)] w (RPost gr (valA m.dflt (.slice none 0 0) (.slice none 0 0) (.slice none 0 0)) r 0 w) := by
 have hxm := List.getElem_mem hn
 have hf := h.dfl _ hxm m hm hd
 have h0 := h.bare _ hxm m hm hd
 have hy : typAt us m.ty = some us[ty] := by rw [hty, ctypAt_nat, List.getElem?_eq_getElem hyl]
 have hform := form0_of h.valid hy hf h0
 have hyi := h.ints _ (btypAt_mem hy)
 have hdm : dfltM us m = fullV us m.dflt m.ty := by unfold dfltM; rw [hd]; rfl
 rw [hdm] at hr
 cases hform with
 | bool bb hk hd he => rw [he] at hr; rw [hd]; exact rfull1 bb y (hyk.trans hk) b o us.length c ty C1 n1 l1 C2 n2 l2 hyl r k gr w hbw hx hr
 | int q hk hd he hq => rw [he] at hr; rw [hd]; exact rfull2 q (by unfold I64 at *; omega) y (hyk.trans hk) b o us.length c ty C1 n1 l1 C2 n2 l2 hyl r k gr w hbw hx hr
 | str s hk hd he hs => rw [he, List.append_assoc] at hr; rw [hd]; exact rfull3 s (by omega) y (hyk.trans hk) b o us.length c ty C1 n1 l1 C2 n2 l2 hyl r k gr w hbw hx hrl hr
 | enum q hk hd he hq =>
  obtain ⟨u, rfl⟩ : ∃ u : Nat, q = (u : Int) := ⟨q.toNat, by omega⟩
  rw [he, Int.toNat_natCast] at hr; rw [hd]; exact rfull4 u (by omega) y (hyk.trans hk) b o us.length c ty C1 n1 l1 C2 n2 l2 hyl r k gr w hbw hx hr
 | list q hk h7 hd he =>
  rw [he] at hr; rw [hd]
  have hcs : q = 7 ∨ q = 8 ∨ q = 9 := by omega
  rcases hcs with rfl | rfl | rfl
  ·
   exact rfull7 y (hyk.trans hk) b o us.length c ty C1 n1 l1 C2 n2 l2 hyl r k gr w hbw hx hr
  ·
   exact rfull8 y (hyk.trans hk) b o us.length c ty C1 n1 l1 C2 n2 l2 hyl r k gr w hbw hx hr
  exact rfull9 y (hyk.trans hk) b o us.length c ty C1 n1 l1 C2 n2 l2 hyl r k gr w hbw hx hr
def RootPost (us : List Typ) (w : World) (e : Ending) (w' : World) : Prop := ∃ A c, e = .returned (.tuple #[.agg #[.slice A us.length c, .int .i64 0], .int .i64 0]) ∧ RdTyps w' w'.heap.size (.slice A us.length c) us ∧ Below w.heap.size w w'
set_option maxRecDepth 100000 in
theorem root_any (us : List Typ) (hus : CanOK us) (hl : (bytesT us).length ≤ 1000000000000) (w : World) (hp : PowIs w)
  (hb : ∀ W A c, Below w.heap.size w W → RdTyps W W.heap.size (.slice A us.length c) us → Calls Tryz.prog 22 #[.agg #[.slice A us.length c, .int .i64 0]] W fun e w' => e = .returned (.tuple #[.string ⟨(bytesT us).toArray⟩, .int .i64 0]) ∧ Below W.heap.size W w') :
  Calls Tryz.prog 28 #[.string ⟨(bytesT us).toArray⟩] w (RootPost us w) := by
 have HU := Lib.hid hus
 have HBY := Lib.hid hb
 have HP := Lib.hid hp
 have hpos := hus.pos
 have h32 := (valid_all hus.valid).1
 obtain ⟨D, hD⟩ : ∃ D, D = us.flatMap (dfltB us) := ⟨_, rfl⟩
 obtain ⟨q, hq⟩ : ∃ q, q = bytesT us := ⟨_, rfl⟩
 have hq2 : q = putF 9 us.length ++ (us.flatMap singT ++ D) := by rw [hq, hD]; rfl
 have hDl : D.length ≤ 1000000000000 := by
  have e : q.length = (putF 9 us.length).length + ((us.flatMap singT).length + D.length) := by rw [hq2, List.length_append, List.length_append]
  rw [← hq] at hl; omega
 have HQ2 := Lib.hid hq2
 have HD := Lib.hid hD
 rw [← hq] at HBY ⊢
 clear hus hb hp hD hq2 hl hq
 go_enter Tryz.func28, Tryz.ntmps28
 go_upto_region 1 with fail
 refine am1 (fun wd2 hb1 Z => ?_)
 have hw3 := hb1
 clear hb1
 go_upto_region 2 with fail
 refine am1 (fun wd5 hb4 X => ?_)
 have hl7 := Z.out.here
 have hl8 := hw3.size
 replace Z := b1 Z hb4
 replace hw3 := dT hw3 hb4
 clear hb4
 generalize wd2.heap.size = g6 at *
 obtain ⟨gr, rfl⟩ : ∃ g, g = g6 := ⟨_, rfl⟩
 obtain ⟨WS700, hWS⟩ : ∃ x, x = wd5 := ⟨_, rfl⟩
 subst hWS
 have hS700 := hw3
 clear hw3
 have hW0 := hS700
 have hZ0 := Z.out
 have hgr := X.out.here
 have hR0 : RAt WS700 gr (putF 9 us.length ++ (us.flatMap singT ++ D)) 0 := by rw [← HQ2.out]; exact X.out
 clear Z X
 have R := hR0
 have Z := hZ0
 have KG := qR0 WS700 (some gr)
 have HPW : Hid (∀ W, Below gr WS700 W → PowR W) := fun W h => PowIs.on HP.out (hW0.trans (h.mono (by omega)))
 replace R := Lib.hid R
 replace Z := Lib.hid Z
 clear hR0 hZ0
 go_upto_region 3 with fail
 refine am1 (fun wd702 hb701 S => ?_)
 replace Z := b1 Z hb701
 replace R := qB R hb701
 replace KG := qkB KG hb701
 clear hb701
 obtain ⟨gS, hgS⟩ : ∃ g, g = WS700.heap.size := ⟨_, rfl⟩
 have hS9 := S.out
 have hgS1 : WS700.heap.size ≤ gS := by omega
 have hgS2 : gr < gS := by omega
 rw [← hgS] at hS9 ⊢
 clear S
 have S := hS9
 replace S := Lib.hid S
 clear hgS hS9
 have hgS := S.out.here
 go_wp2_with fail
 ((with_reducible refine (rnumber_any 32 (by decide) (us.length : Nat) us.length rfl (by omega) _ 0 gr _ R.out).mono ?_); rintro e wd703 ⟨rfl, hR704, hK705⟩)
 replace Z := qH Z hK705 (by omega)
 replace S := qH S hK705 (by omega)
 replace R := Lib.hid hR704
 replace KG := qT KG hK705
 clear hR704 hK705
 go_upto_region 4 with fail
 have hZ0 := Z.out
 have hS0 := S.out
 have hR0 := R.out
 have hT0 := TypsE.nil wd703 (gS + 1) wd703.heap.size S.out.here
 go_loopw [18] (fun s18 wr => ∃ (k : Nat) (A : Option Addr) (c : Nat), k ≤ us.length ∧ s18 = .int .i64 k ∧ Has wr w.heap.size 27 #[.slice none 0 0, .int .i64 0] ∧ Has wr gS 25 #[.slice A k c] ∧ TypsE wr (gS + 1) wr.heap.size (.slice A k c) ((us.take k).map unT) ∧ RAt wr gr ((us.drop k).flatMap singT ++ D) 0 ∧ WS700.grownBy wr (some gr)) (fun s18 _ => us.length - (intOf s18).toNat)
 case atStart => exact ⟨0, none, 0, Nat.zero_le _, rfl, hZ0, hS0, hT0, hR0, KG⟩
 case round =>
  clear Z S R KG hZ0 hS0 hR0 hT0
  obtain ⟨k, A, c, hkl, rfl, Z, S, hT, R, KG⟩ := hrel
  by_cases hlt : k < us.length
  ·
   have hfr := formR_of HU.out k hlt
   have htk : (us.take (k + 1)).map unT = (us.take k).map unT ++ [unT us[k]] := by
    rw [List.take_add_one, List.map_append, List.getElem?_eq_getElem hlt]; rfl
   have htl : ((us.take k).map unT).length = k := by rw [List.length_map, List.length_take]; omega
   rw [List.drop_eq_getElem_cons hlt, List.flatMap_cons, List.append_assoc] at R
   generalize us[k] = x at *
   have HTK := Lib.hid htk
   have HTL := Lib.hid htl
   have hlt' : (k : Int) < us.length := by omega
   clear htk htl
   replace R := Lib.hid R
   replace Z := Lib.hid Z
   replace S := Lib.hid S
   have T := Lib.hid (hT.kept (Nat.le_refl _))
   clear hT
   go_upto_region 6 with fail
   have cS_0 := S.out.e0
   refine wp_region_T (S := (fun w' => w'.cell? ⟨gS, 0, none⟩ = some (.slice A k c))) (fun j => j == 8) (by kernel_rfl) cS_0 (fun hHeld => ?_)
   clear cS_0
   have hb706 : Below wr.heap.size wr (wr.drew) := (Below.refl _ _).drew
   obtain ⟨Z, S, T⟩ := b3 Z S T hb706
   replace R := qB R hb706
   replace KG := qkB KG hb706
   clear hb706
   generalize wr.drew = wd707 at *
   refine tkT 0 ?_
   refine tkT 1 ?_
   refine tkT 2 ?_
   refine tkT 3 ?_
   refine rdT1 4 fun K hK => ?_
   go_simp
   obtain ⟨z6, h6e⟩ : ∃ z, z = (wd707).heap.size := ⟨_, rfl⟩
   have hz6 := S.out.here
   have hzB := T.out.le
   rw [← h6e] at hz6 hzB
   have MK := Lib.hid (Kept.mark h6e)
   ((with_reducible refine (rform_any k (by omega) x hfr _ 0 gr _ (fun W' h => HPW.out W' ((qLow KG (by omega)).trans h)) R.out).mono ?_); rintro e wd708 ⟨vs, vm, rfl, hte, hR709, hK710⟩)
   replace Z := qH Z hK710 (by omega)
   replace S := qH S hK710 (by omega)
   replace T := qN T hK710 (by omega)
   replace MK := qN MK hK710 (by omega)
   replace R := Lib.hid hR709
   replace KG := qT KG hK710
   clear hR709 hK710
   obtain ⟨A5, c5, rfl⟩ := own_form hte.syms
   obtain ⟨A6, c6, rfl⟩ := own_form hte.mems
   obtain ⟨y, hy⟩ : ∃ y, y = unT x := ⟨_, rfl⟩
   rw [← hy] at hte HTK ⊢
   obtain ⟨z7, h7e⟩ : ∃ z, z = (wd708).heap.size := ⟨_, rfl⟩
   rw [← h6e, ← h7e] at hte
   have HY := Lib.hid (hte.kept (Nat.le_of_eq h7e))
   have hz7 : z6 ≤ z7 := by rw [h7e]; exact MK.out.le
   clear hte h6e h7e hy
   try clear hHeld
   refine hK.out _ _ (S.out.cell 0) (fun hHeld => ?_)
   clear hK K
   refine rdT1 5 fun K hK => ?_
   go_simp
   refine am1 (fun wd712 hb711 N => ?_)
   have hl714 := Z.out.here
   have hl715 := S.out.here
   have hl716 := T.out.le
   have hl717 := MK.out.le
   have hl718 := HY.out.le
   have hl719 := KG.size
   obtain ⟨Z, S, T, MK, HY⟩ := b5 Z S T MK HY hb711
   replace R := qB R hb711
   replace KG := qkB KG hb711
   clear hb711
   generalize wd708.heap.size = g713 at *
   try clear hHeld
   refine hK.out _ _ (S.out.cell 0) (fun hHeld => ?_)
   clear hK K
   refine rdT1 6 fun K hK => ?_
   have hNh := N.out.here
   obtain ⟨cs, hown, hvB, happ⟩ := T.out.now.row
   rw [HTL.out] at hown happ
   obtain ⟨i0, hi, hi0, hi1, hi2⟩ := info_parts info_typC
   refine step_append_lies (P := Tryz.prog) wd712 (by rfl) _ _ _ (by rfl) (gS + 1) 71 i0 _ 10 120 Tryz.underlying23 hi hi0 hi1 hi2 rfl (by decide) (.slice A k c) k _ rfl hown ⟨g713, 0, none⟩ 1 1 (typV y (.slice A5 y.syms.length c5) (.slice A6 y.mems.length c6)) rfl rfl (World.news_of_block N.out) (by simp [typV, Value.oneCell']) (by omega) (by simp only [maxLen]; omega) (by omega) (by omega) wd712.heap.size rfl ?_
   intro g cap w1 hown1 hgrow hat hgl
   have hg1 := hown1.lt g rfl
   have hsz := hgrow.size
   have hyle := HY.out.le
   have hT1 := happ w1 (.slice (some ⟨g, 0, none⟩) (k + 1) cap) y _ _ w1.heap.size z6 z7 hgrow hown1 (fun b hb => by simp only [Value.ownBlock, Option.some.injEq] at hb; omega) hzB hz7 hyle (by omega) HY.out.now
   rw [← HTK.out] at hT1
   have hb4 : Below (gS + 1) wd712 w1 := (Below.refl _ wd712).grown hgrow (by omega) (fun q hq => (hown.lt q hq).1)
   clear hown hvB happ hown1 hgrow hat hgl hg1 hsz hyle hNh hi hi0 hi1 hi2
   clear T
   clear N
   clear HY
   clear MK
   replace Z := Lib.hid (Z.out.below hb4 (show w.heap.size < gS + 1 by omega))
   replace S := Lib.hid (S.out.below hb4 (show gS < gS + 1 by omega))
   replace R := qBL R hb4 (show gr < gS + 1 by omega)
   replace KG := qkBL KG hb4 (show WS700.heap.size ≤ gS + 1 by omega)
   have T := Lib.hid (hT1.kept (Nat.le_refl _))
   clear hT1 hb4
   try clear hHeld
   refine hK.out _ _ (S.out.cell 0) (fun hHeld => ?_)
   clear hK K
   refine tkT 7 ?_
   refine rdTL 8 fun K hK => ?_
   have cS_0 := S.out.e0
   have fS_0 := S.out.free 0
   go_simp
   clear cS_0 fS_0
   generalize hE721 : w1.setCell _ _ = wd720
   obtain ⟨Z, T⟩ := f2 Z T (eF hE721)
   replace R := qS R hE721 (by omega)
   replace KG := qkS KG hE721 (by omega)
   replace S := dS0 S hE721
   clear hE721
   try clear hHeld
   refine hK.out _ _ ?_
   clear hK K
   refine wpAnyT_done (by kernel_rfl) ?_ _
   try clear hHeld
   go_wp2_with fail
   go_roundw
   case rel => exact ⟨k + 1, some ⟨g, 0, none⟩, cap, by omega, by go_num, Z.out, S.out, T.out.now.mono T.out.le, R.out, KG⟩
   case measure => simp [intOf]; omega
  obtain rfl : k = us.length := by omega
  rw [List.drop_eq_nil_of_le (Nat.le_refl _), List.flatMap_nil, List.nil_append] at R
  rw [List.take_of_length_le (Nat.le_refl _), fillS_zero] at hT
  have hvd := un_valid HU.out.valid
  rw [fillS_zero] at hvd
  have HVD := Lib.hid hvd
  clear hvd
  replace R := Lib.hid R
  replace Z := Lib.hid Z
  replace S := Lib.hid S
  have T := Lib.hid (hT.kept (Nat.le_refl _))
  clear hT
  have cR1 := RAt.c1 R.out
  have cS_0 := S.out.e0
  have hn0 : ((us.length : Int) == 0) = false := beq_eq_false_iff_ne.2 (by omega)
  go_wp2_with fail
  have hsz : Sizes (fillS us 0 0) := fun x hx => by have := (typX_of HU.out 0 0 x hx).lens; exact ⟨by omega, by omega⟩
  have hval := fun W (h : TypsE W (gS + 1) wr.heap.size (.slice A us.length c) (fillS us 0 0)) => valid_any (fillS us 0 0) A c W hsz (by rw [fillS_len]; exact h.rd (typX_of HU.out 0 0))
  simp only [fillS_len, HVD.out] at hval
  have HVAL := Lib.hid hval
  clear hsz hval
  clear cS_0
  ((with_reducible refine (HVAL.out _ T.out.now).mono ?_); rintro e wd706 ⟨rfl, hb707⟩)
  obtain ⟨Z, S, T⟩ := b3 Z S T hb707
  replace R := qB R hb707
  replace KG := qkB KG hb707
  clear hb707
  have cS_0 := S.out.e0
  go_upto_region 11 with fail
  clear cS_0
  have hZ0 := Z.out
  have hS0 := S.out
  have hR0 := R.out
  have hT0 := T.out.now.mono T.out.le
  go_loopw [49] (fun s49 wr => ∃ (t kk : Nat), t ≤ us.length ∧ s49 = .int .i64 t ∧ Has wr w.heap.size 27 #[.slice none 0 0, .int .i64 0] ∧ Has wr gS 25 #[.slice A us.length c] ∧ TypsE wr (gS + 1) wr.heap.size (.slice A us.length c) (fillS us t 0) ∧ RAt wr gr ((us.drop t).flatMap (dfltB us)) kk ∧ WS700.grownBy wr (some gr)) (fun s49 _ => us.length - (intOf s49).toNat)
  case atStart => exact ⟨0, 0, Nat.zero_le _, rfl, hZ0, hS0, hT0, by rw [List.drop_zero, ← HD.out]; exact hR0, KG⟩
  case round =>
   clear Z S R KG T hZ0 hS0 hR0 hT0 HVAL
   obtain ⟨t, kk, htl, rfl, Z, S, hT, R, KG⟩ := hrel
   by_cases hlt : t < us.length
   ·
    have hlt' : (t : Int) < us.length := by omega
    have hd0 : decide ((t : Int) < 0) = false := by simp
    have hd1 : decide (us.length ≤ t) = false := by simpa using hlt
    have hml := (HU.out |> fun h => (typIn_of h.valid h.ints _ (List.getElem_mem hlt)).mems.1)
    have hdle := flat_take_le (dfltB us) us (t + 1)
    rw [List.drop_eq_getElem_cons hlt, List.flatMap_cons] at R
    obtain ⟨xm, hxm⟩ : ∃ l, l = us[t].mems := ⟨_, rfl⟩
    rw [show dfltB us us[t] = us[t].mems.flatMap (dfltM us) from rfl, ← hxm] at R
    rw [← hxm] at hml
    obtain ⟨D2, hD2⟩ : ∃ D, D = (us.drop (t + 1)).flatMap (dfltB us) := ⟨_, rfl⟩
    have hD2l : (xm.flatMap (dfltM us)).length + D2.length ≤ 1000000000000 := by
     have e : D = (us.take t).flatMap (dfltB us) ++ (dfltB us us[t] ++ D2) := by
      rw [HD.out, hD2, ← List.flatMap_cons, ← List.drop_eq_getElem_cons hlt, ← List.flatMap_append, List.take_append_drop]
     rw [e, List.length_append, List.length_append, show dfltB us us[t] = us[t].mems.flatMap (dfltM us) from rfl, ← hxm] at hDl
     omega
    rw [← hD2] at R
    have HD2 := Lib.hid hD2
    have HXM := Lib.hid hxm
    clear hdle hD2 hxm
    obtain ⟨g, c9, y, C1, n1, l1, C2, l2, hA, hgL, hgB, hct, -⟩ := fill_cell hT hlt
    injection hA with hA1 hA2 hA3
    subst hA1
    subst hA3
    have x6 := hct.2.2.2.2.2.2.1
    rw [← HXM.out, Nat.zero_add] at x6
    clear hct
    replace R := Lib.hid R
    replace Z := Lib.hid Z
    replace S := Lib.hid S
    have T := Lib.hid (hT.kept (Nat.le_refl _))
    clear hT
    have cS_0 := S.out.e0
    go_upto_region 14 with fail
    clear cS_0
    clear x6
    have hZ0 := Z.out
    have hS0 := S.out
    have hR0 := R.out
    have hT0 := T.out.now
    go_loopw [59] (fun s59 wr => ∃ (i kk : Nat), i ≤ xm.length ∧ s59 = .int .i64 i ∧ Has wr w.heap.size 27 #[.slice none 0 0, .int .i64 0] ∧ Has wr gS 25 #[.slice (some ⟨g, 0, none⟩) us.length c] ∧ TypsE wr (gS + 1) wr.heap.size (.slice (some ⟨g, 0, none⟩) us.length c) (fillS us t i) ∧ RAt wr gr ((xm.drop i).flatMap (dfltM us) ++ D2) kk ∧ WS700.grownBy wr (some gr)) (fun s59 _ => xm.length - (intOf s59).toNat)
    case atStart => exact ⟨0, kk, Nat.zero_le _, rfl, hZ0, hS0, hT0, by rw [List.drop_zero]; exact hR0, KG⟩
    case round =>
     clear Z S R KG T hZ0 hS0 hR0 hT0 kk
     obtain ⟨i, kk, hil, rfl, Z, S, hT, R, KG⟩ := hrel
     by_cases hli : i < xm.length
     ·
      have hli' : (i : Int) < xm.length := by omega
      have hd2 : decide ((i : Int) < 0) = false := by simp
      have hd3 : decide (xm.length ≤ i) = false := by simpa using hli
      have hdle := flat_take_le (dfltM us) xm (i + 1)
      rw [List.drop_eq_getElem_cons hli, List.flatMap_cons, List.append_assoc] at R
      obtain ⟨D3, hD3⟩ : ∃ D, D = (xm.drop (i + 1)).flatMap (dfltM us) ++ D2 := ⟨_, rfl⟩
      have hD3l : D3.length ≤ 1000000000000 := by
       have e : xm.flatMap (dfltM us) = (xm.take (i + 1)).flatMap (dfltM us) ++ (xm.drop (i + 1)).flatMap (dfltM us) := by rw [← List.flatMap_append, List.take_append_drop]
       rw [e, List.length_append] at hD2l
       rw [hD3, List.length_append]; omega
      rw [← hD3] at R
      have HD3 := Lib.hid hD3
      have hiu : i < us[t].mems.length := by rw [← HXM.out]; exact hli
      have hmt := fill_mem hlt hiu
      have hrow := fill_row hlt hiu
      have hskip := fun hu => fillS_skip us t i hlt hiu hu
      obtain ⟨g', c', gm, cm, lo, hA, x6, hown, hlo, hgm, hgs, hset⟩ := fill_at hT hlt hiu
      injection hA with hA1 hA2 hA3
      injection hA1 with hA1
      injection hA1 with hA1 _ _
      subst hA1
      have hmem : us[t].mems[i] = xm[i] := by simp only [HXM.out]
      have hmm : xm[i] ∈ us[t].mems := by rw [← hmem]; exact List.getElem_mem hiu
      have hdv := dfl_val0 HU.out.valid (List.getElem_mem hlt) hmm
      have hty := typAt_ofC HU.out.valid (List.getElem_mem hlt) hmm
      rw [← HXM.out] at x6 hown
      rw [hmem] at hmt hrow hskip
      rw [← HXM.out] at hmt
      generalize xm[i] = m at *
      obtain ⟨y, hy⟩ := hty
      obtain ⟨hty0, htyl, -⟩ := typAt_nat0 hy
      obtain ⟨ty, hty⟩ : ∃ ty : Nat, m.ty = (ty : Int) := ⟨m.ty.toNat, by omega⟩
      rw [hty, Int.toNat_natCast] at htyl
      have hmrow : MRow wr lo gm xm.length cm i ((fillM xm i).flatMap memN) [.int .i64 m.id, .string ⟨m.name.toArray⟩, .int .i64 (ty : Nat), .bool m.crit, .bool m.hasDef, .int .i64 0, .bool false, .int .i64 0, .string ⟨#[]⟩, .int .i64 0, .slice none 0 0, .slice none 0 0, .slice none 0 0] := ⟨hown, hli, rfl, fun j u hu => hmt j u (by rw [← hu, ← hty]; rfl)⟩
      have HMM := Lib.hid hmm
      have HTY := Lib.hid hty
      have HDV := Lib.hid hdv
      have HSK := Lib.hid hskip
      have HRW := Lib.hid hrow
      have HTY2 := Lib.hid htyl
      clear hdle hD3 hmt hrow hskip hA2 hA3 hset hown hmem hmm hdv hy hty0 hty htyl
      replace R := Lib.hid R
      replace Z := Lib.hid Z
      replace S := Lib.hid S
      have T := Lib.hid (hT.kept (Nat.le_refl _))
      have MR := Lib.hid (hmrow.kept)
      have KX := Lib.hid (keptCellC x6)
      clear hT hmrow
      have cS_0 := S.out.e0
      go_upto_region 17 with fail
      clear cS_0
      clear x6
      have x4 := MR.out.now.c 4 rfl
      cases hdd : m.hasDef with
      | false =>
       have hun : unM m = m := by
        have := HDV.out hdd
        obtain ⟨m1, m2, m3, m4, m5, m6⟩ := m
        simp only at this
        subst this; rfl
       have hdm : Hid (dfltM us m = []) := by show _ = _; unfold dfltM; rw [hdd]; rfl
       have hsk := HSK.out hun
       have HS2 := Lib.hid hsk
       rw [hdd] at x4
       clear hdd hun hsk
       go_wp2_with fail
       clear x4
       go_roundw
       case rel => exact ⟨i + 1, kk, by omega, by go_num, Z.out, S.out, by rw [← HS2.out]; exact T.out.now.mono T.out.le, by have h9 := R.out; rw [hdm.out, List.nil_append, HD3.out] at h9; exact h9, KG⟩
       case measure => simp [intOf]; omega
      | true =>
       have HDD := Lib.hid hdd
       rw [hdd] at x4
       clear hdd
       go_upto_region 18 with fail
       clear x4
       have cS_0 := S.out.e0
       refine wp_region_T (S := (fun w' => w'.cell? ⟨gS, 0, none⟩ = some (.slice (some ⟨g, 0, none⟩) us.length c) ∧ (w'.cell? ⟨gm, i * 13 + 2, none⟩ = some (.int .i64 (ty : Nat))))) (fun j => j == 8 || j == 9 || j == 10) (by kernel_rfl) ⟨cS_0, (MR.out.now.c 2 rfl)⟩ (fun hHeld => ?_)
       clear cS_0
       have hb708 : Below wr.heap.size wr (wr.drew) := (Below.refl _ _).drew
       obtain ⟨Z, S, T, MR, KX⟩ := b5 Z S T MR KX hb708
       replace R := qB R hb708
       replace KG := qkB KG hb708
       clear hb708
       generalize wr.drew = wd709 at *
       refine tkT 0 ?_
       refine tkT 1 ?_
       refine tkT 2 ?_
       refine tkT 3 ?_
       refine tkT 4 ?_
       refine tkT 5 ?_
       refine tkT 6 ?_
       refine rdT1 7 fun K hK => ?_
       go_simp
       obtain ⟨g3, c3, y3, C3, n3, l3, C4, l4, hA4, -, hgB4, hct4, hk4⟩ := fill_cell T.out.now HTY2.out
       obtain ⟨hA4, hA5⟩ : g = g3 ∧ c = c3 := by
        injection hA4 with h1 _ h2; injection h1 with h1; injection h1 with h1 _ _
        exact ⟨h1, h2⟩
       subst hA4
       ((with_reducible refine (rfullD HU.out hlt HMM.out HDD.out HTY.out HTY2.out hk4 _ 0 _ kk gr D3 _ C3 n3 l3 C4 _ l4 (Nat.lt_of_lt_of_le hgB4 T.out.le) hct4 hD3l R.out).mono ?_); rintro e wd710 ⟨rfl, hR711, hK712⟩)
       replace Z := qH Z hK712 (by omega)
       replace S := qH S hK712 (by omega)
       replace T := qN T hK712 (by omega)
       replace MR := qN MR hK712 (by omega)
       replace KX := qN KX hK712 (by omega)
       replace R := Lib.hid hR711
       replace KG := qT KG hK712
       clear hR711 hK712
       clear hct4 hk4 hgB4
       try clear hHeld
       refine hK.out _ _ (⟨S.out.cell 0, (MR.out.now.c 2 rfl)⟩) (fun hHeld => ?_)
       clear hK K
       refine rdTL 8 fun K hK => ?_
       go_simp
       try clear hHeld
       refine hK.out _ _ ?_
       clear hK K
       refine rdTL 9 fun K hK => ?_
       go_simp
       try clear hHeld
       refine hK.out _ _ ?_
       clear hK K
       refine rdTL 10 fun K hK => ?_
       obtain ⟨g5, c5, gm5, cm5, lo5, hA5, x65, hown5, hlo5, hgm5, hgs5, hset5⟩ := fill_at T.out.now hlt hiu
       have eg : g = g5 := by injection hA5 with h1 _ _; injection h1 with h1; injection h1 with h1 _ _
       subst eg
       obtain ⟨e6, e7⟩ : gm = gm5 ∧ cm = cm5 := by
        have e6 := (KX.out.now).symm.trans x65
        injection e6 with e6
        injection e6 with e6 _ e7
        injection e6 with e6
        injection e6 with e6 _ _
        exact ⟨e6, e7⟩
       subst e6
       subst e7
       have hxl : xm.length = us[t].mems.length := by rw [HXM.out]
       have hTle := T.out.le
       refine step_store_mid rfl 81 _ _ rfl gm (i * 13 + 5) _ rfl rfl (own_there hown5 (i * 13 + 5) 8 (by omega)) (by kernel_rfl) (by simp [Value.oneCell']) ?_
       have hown8 := own_setCells (valV m.dflt (.slice none 0 0) (.slice none 0 0) (.slice none 0 0)) _ (i * 13 + 5) _ hown5
       rw [HRW.out] at hown8
       change K _ (wd710.setCells gm (i * 13 + 5) (valV m.dflt (.slice none 0 0) (.slice none 0 0) (.slice none 0 0)))
       clear T
       clear MR
       clear KX
       obtain ⟨wd713, HEX⟩ : ∃ ww, ww = wd710.setCells gm (i * 13 + 5) (valV m.dflt (.slice none 0 0) (.slice none 0 0) (.slice none 0 0)) := ⟨_, rfl⟩
       rw [← HEX]
       have hkX : ∀ k, k ≠ gm → wd713.heap[k]? = wd710.heap[k]? := fun k hk => by rw [HEX]; exact heap_setCellsX gm _ _ _ k hk
       have hbX : Below gm wd710 wd713 := by rw [HEX]; exact below_setCells (Nat.le_refl _) _ _ _ (Below.refl _ _)
       replace Z := Lib.hid ((hkX (w.heap.size) (by omega)).trans Z.out)
       replace Z : Hid (Has wd713 (w.heap.size) 27 #[.slice none 0 0, .int .i64 0]) := Z
       replace S := Lib.hid ((hkX (gS) (by omega)).trans S.out)
       replace S : Hid (Has wd713 (gS) 25 #[.slice (some ⟨g, 0, none⟩) us.length c]) := S
       rw [← HEX] at hown8
       have hT9 := hset5 wd713 (fun k hkl hne => hkX k hne) hown8
       replace R := qBL R hbX (by omega)
       replace KG := qkBL KG hbX (by omega)
       have hsz9 := hbX.size
       clear HEX hkX hbX hown8 hown5 hset5 x65 hxl
       have T := Lib.hid ((hT9.mono (show wr.heap.size ≤ wd713.heap.size by omega)).kept (Nat.le_refl _))
       clear hT9 hsz9 hTle
       try clear hHeld
       refine hK.out _ _ ?_
       clear hK K
       refine wpAnyT_done (by kernel_rfl) ?_ _
       try clear hHeld
       go_wp2_with fail
       go_roundw
       case rel => exact ⟨i + 1, 0, by omega, by go_num, Z.out, S.out, T.out.now, by have h9 := R.out; rw [HD3.out] at h9; exact h9, KG⟩
       case measure => simp [intOf]; omega
     obtain rfl : i = xm.length := by omega
     rw [List.drop_eq_nil_of_le (Nat.le_refl _), List.flatMap_nil, List.nil_append] at R
     have hrw := fillS_row us t hlt
     rw [← HXM.out] at hrw
     rw [hrw] at hT
     rw [HD2.out] at R
     go_wp2_with fail
     go_roundw
     case rel => exact ⟨t + 1, kk, by omega, by go_num, Z, S, hT, R, KG⟩
     case measure => simp [intOf]; omega
   obtain rfl : t = us.length := by omega
   rw [List.drop_eq_nil_of_le (Nat.le_refl _), List.flatMap_nil] at R
   rw [← fillS_end] at hT
   replace R := Lib.hid R
   replace Z := Lib.hid Z
   replace S := Lib.hid S
   have T := Lib.hid (hT.kept (Nat.le_refl _))
   clear hT
   have cS_0 := S.out.e0
   go_upto_region 22 with fail
   clear cS_0
   refine am1 (fun wd709 hb708 Y => ?_)
   have hl711 := Z.out.here
   have hl712 := S.out.here
   have hl713 := T.out.le
   have hl714 := KG.size
   obtain ⟨Z, S, T⟩ := b3 Z S T hb708
   replace R := qB R hb708
   replace KG := qkB KG hb708
   clear hb708
   generalize wr.heap.size = g710 at *
   obtain ⟨gY, rfl⟩ : ∃ g, g = g710 := ⟨_, rfl⟩
   have cR0 := RAt.c0 R.out
   have cR1 := RAt.c1 R.out
   obtain ⟨cY_0, cY_1⟩ := Y.out.c2
   go_upto_region 24 with fail
   clear cR0 cR1
   have hxe : ∀ x ∈ us, TypX x := by
    have h := typX_of HU.out us.length 0
    rw [← fillS_end] at h; exact h
   have HXE := Lib.hid hxe
   clear hxe
   go_wp2_with fail
   have hlw : Below w.heap.size w wd709 := hW0.trans ((qLow KG (by omega)).mono (by omega))
   clear cY_0 cY_1
   ((with_reducible refine (HBY.out _ A c hlw (T.out.now.rd HXE.out)).mono ?_); rintro e wd715 ⟨rfl, hb716⟩)
   obtain ⟨Z, S, Y, T⟩ := b4 Z S Y T hb716
   replace R := qB R hb716
   replace KG := qkB KG hb716
   clear hb716
   clear hlw
   obtain ⟨cY_0, cY_1⟩ := Y.out.c2
   go_upto_region 27 with fail
   clear cY_0 cY_1
   obtain ⟨WS800, hWS⟩ : ∃ x, x = wd715 := ⟨_, rfl⟩
   subst hWS
   have hfw : Below w.heap.size w WS800 := hW0.trans ((qLow KG (by omega)).mono (by omega))
   have hZ9 := Z.out
   have hY9 := Y.out
   have hT9 := T.out.now.mono T.out.le
   clear Z Y T S R KG
   have Z := hZ9
   have Y := hY9
   replace Z := Lib.hid Z
   replace Y := Lib.hid Y
   have T := Lib.hid (hT9.kept (Nat.le_refl _))
   clear hZ9 hY9 hT9
   obtain ⟨cY_0, cY_1⟩ := Y.out.c2
   go_wp2_with (refine sR Z.out ?_)
   clear cY_0 cY_1
   generalize hE802 : WS800.setRow _ _ = wd801
   obtain ⟨Y, T⟩ := f2 Y T (eR hE802)
   replace Z := dO' Z hE802
   replace hfw := tr hfw hE802
   clear hE802
   exact bodyPost_ret (v := .tuple #[.agg #[.slice A us.length c, .int .i64 0], .int .i64 0]) (by simp [results, Tryz.results28, go_sem, Z.out.c2]) rfl (⟨A, c, rfl, T.out.now.rd HXE.out, hfw⟩)
end Go.Proofs.YtlamhkffnlgofaaGreatDoor

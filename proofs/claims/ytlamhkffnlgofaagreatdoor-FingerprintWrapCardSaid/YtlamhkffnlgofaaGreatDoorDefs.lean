/- What value.Defaults and its reference compute. No condition. -/
import Derived.Test.YtlamhkffnlgofaaGreatDoorHAP
set_option maxHeartbeats 4000000
namespace Go.Proofs.YtlamhkffnlgofaaGreatDoor
open Go.ChangeShapes Go.WideShapes Go.ChangeAt Go.RowKit
def defM (ts : List Typ) : List Mem → Option Int
 | [] => none
 | m :: r => if m.hasDef = true ∧ fitV ts true m.dflt m.ty = false then some m.id else defM ts r
def defT (ts : List Typ) : List Typ → Nat → Int × Int × Int
 | [], _ => (0, 0, 0)
 | x :: r, i => match defM ts x.mems with
  | some id => ((i : Int), id, 1)
  | none => defT ts r (i + 1)
def defE (ts : List Typ) : Int × Int × Int := if validE ts = 0 then defT ts ts 0 else (0, 0, validE ts)
theorem validK_form (ts : List Typ) : ∀ (l : List Typ) (S : List (List UInt8)), validK ts l S = 0 → ∀ x ∈ l, formB x = true ∧ (usesL x).all (inB ts.length) = true ∧ ¬ (x.kind = 8 ∧ keyOk ts x = false) := by
 intro l
 induction l with
 | nil => intro S _ x hx; simp at hx
 | cons y r ih =>
  intro S h x hx
  by_cases h1 : formB y = false ∨ (y.name ≠ [] ∧ S.contains y.name = true)
  ·
   rw [vk1 ts r y S h1] at h; cases h
  cases h2 : (usesL y).all (inB ts.length) with
  | false => rw [vk4 ts r y S h1 h2] at h; cases h
  | true =>
   by_cases h3 : y.kind = 8 ∧ keyOk ts y = false
   ·
    rw [vk1' ts r y S h1 h2 h3] at h; cases h
   rw [vk0 ts r y S h1 h2 h3] at h
   rcases List.mem_cons.1 hx with rfl | hx
   ·
    refine ⟨?_, h2, h3⟩
    cases hf : formB x with
    | true => rfl
    | false => exact absurd (.inl hf) h1
   exact ih _ h x hx
theorem valid_allV {ts : List Typ} (h : validE ts = 0) : ts.length ≤ 32 ∧ ∀ x ∈ ts, formB x = true ∧ (usesL x).all (inB ts.length) = true ∧ ¬ (x.kind = 8 ∧ keyOk ts x = false) := by
 unfold validE at h
 by_cases h32 : 32 < ts.length
 ·
  rw [if_pos h32] at h; cases h
 rw [if_neg h32] at h
 exact ⟨by omega, validK_form ts ts [] h⟩
theorem valid_kinds {ts : List Typ} (h : validE ts = 0) : Kinds ts := fun x hx => form_kindV ((valid_allV h).2 x hx).1
theorem defM_no (ts _r : List Typ) (m : Mem) (l : List Mem) (h : m.hasDef = false ∨ fitV ts true m.dflt m.ty = true) : defM ts (m :: l) = defM ts l := by
 rw [defM, if_neg]
 rintro ⟨h1, h2⟩
 rcases h with h | h
 ·
  rw [h1] at h; cases h
 rw [h2] at h; cases h
theorem defM_yes (ts : List Typ) (m : Mem) (l : List Mem) (h1 : m.hasDef = true) (h2 : fitV ts true m.dflt m.ty = false) : defM ts (m :: l) = some m.id := by
 rw [defM, if_pos ⟨h1, h2⟩]
theorem defT_some (ts r : List Typ) (x : Typ) (k : Nat) (id : Int) (h : defM ts x.mems = some id) : defT ts (x :: r) k = ((k : Int), id, 1) := by rw [defT, h]
theorem defT_none (ts r : List Typ) (x : Typ) (k : Nat) (h : defM ts x.mems = none) : defT ts (x :: r) k = defT ts r (k + 1) := by rw [defT, h]
def DefPost (ts : List Typ) (w : World) (e : Ending) (w' : World) : Prop := e = .returned (.tuple #[.int .i64 (defE ts).1, .int .i64 (defE ts).2.1, .int .i64 (defE ts).2.2]) ∧ Below w.heap.size w w'
theorem DefPost.mk {ts : List Typ} {w w' : World} {a b c : Int} (h : defE ts = (a, b, c)) (hb : Below w.heap.size w w') : DefPost ts w (.returned (.tuple #[.int .i64 a, .int .i64 b, .int .i64 c])) w' := by
 refine ⟨?_, hb⟩; rw [h]
set_option maxRecDepth 100000 in
theorem vdefs_any (ts : List Typ) (A : Option Addr) (c : Nat) (w : World) (hs : Sizes ts) (ht : RdTyps w w.heap.size (.slice A ts.length c) ts) :
  Calls Tryz.prog 45 #[.agg #[.slice A ts.length c]] w (DefPost ts w) := by
 have HT := Lib.hid ht
 have HS := Lib.hid hs
 obtain ⟨ve, hve⟩ : ∃ ve, validE ts = ve := ⟨_, rfl⟩
 have hV := fun W h => valid_any ts A c W hs h
 simp only [hve] at hV
 have HV := Lib.hid hV
 clear hs ht hV
 by_cases hv0 : ve = 0
 case neg =>
  have t1 : (ve == 0) = false := by simpa using hv0
  have t2 : (ve != 0) = true := by simpa using hv0
  have Hd : Hid (defE ts = (0, 0, ve)) := by show _ = _; unfold defE; rw [hve, if_neg hv0]
  clear hve hv0
  go_enter Tryz.func45, Tryz.ntmps45
  go_upto_region 1 with fail
  refine am1 (fun wd2 hb1 S => ?_)
  have hw3 := hb1
  clear hb1
  have cS_0 := S.out.e0
  go_wp2_with fail
  clear cS_0
  ((with_reducible refine (HV.out _ (HT.out.on hw3)).mono ?_); rintro e wd4 ⟨rfl, hb5⟩)
  replace S := b1 S hb5
  replace hw3 := dT hw3 hb5
  clear hb5
  go_wp2_with fail
  go_ret3
  exact DefPost.mk Hd.out hw3
 subst hv0
 have HK := Lib.hid (valid_kinds hve)
 have h32 := (valid_allV hve).1
 have h32i : (ts.length : Int) ≤ 32 := by omega
 have Hd : Hid (defE ts = defT ts ts 0) := by show _ = _; unfold defE; rw [hve]; rfl
 clear hve
 go_enter Tryz.func45, Tryz.ntmps45
 go_upto_region 1 with fail
 refine am1 (fun wd2 hb1 S => ?_)
 have hw3 := hb1
 clear hb1
 have cS_0 := S.out.e0
 go_wp2_with fail
 clear cS_0
 ((with_reducible refine (HV.out _ (HT.out.on hw3)).mono ?_); rintro e wd4 ⟨rfl, hb5⟩)
 replace S := b1 S hb5
 replace hw3 := dT hw3 hb5
 clear hb5
 have cS_0 := S.out.e0
 have HS0 := Lib.hid S.out
 have hB0 := hw3
 go_upto_region 5 with fail
 clear cS_0
 go_loopw [18] (fun i wr => ∃ k : Nat, k ≤ ts.length ∧ i = .int .i64 k ∧ Has wr w.heap.size 25 #[.slice A ts.length c] ∧ defT ts ts 0 = defT ts (ts.drop k) k ∧ Below w.heap.size w wr) (fun i _ => ts.length - (intOf i).toNat)
 case atStart => exact ⟨0, by omega, rfl, HS0.out, rfl, hB0⟩
 case round =>
  clear S hB0 HS0
  obtain ⟨k, hk, rfl, S, hdt, hw⟩ := hrel
  replace S := Lib.hid S
  by_cases hlt : k < ts.length
  ·
   obtain ⟨b, o, rfl, hbb, hel⟩ := HT.out.elem (by omega)
   obtain ⟨vs, vm, hcells, hxa⟩ := hel k hlt
   rw [List.drop_eq_getElem_cons hlt] at hdt
   generalize ts[k] = x at *
   obtain ⟨C1, m1, C2, m2, rfl, rfl, -, -⟩ := hxa.forms
   have HXA := Lib.hid hxa
   have Hdt := Lib.hid hdt
   have hi1 : (k : Int) < ts.length := by omega
   have hi0 : (0 : Int) ≤ (k : Int) := by omega
   have hls := hxa.lens
   obtain ⟨c0, c1, c2, c3, c4, c5, c6, c7, c8, c9⟩ := hcells.below hw hbb
   clear hxa hdt hcells hel
   have cS_0 := S.out.e0
   go_upto_region 7 with fail
   clear cS_0
   refine am1 (fun wd7 hb6 X => ?_)
   have hl9 := S.out.here
   have hl10 := hw.size
   replace S := b1 S hb6
   replace hw := dT hw hb6
   clear hb6
   generalize wr.heap.size = g8 at *
   clear c0 c1 c2 c3 c4 c5 c6 c7 c8 c9
   have cX_6 := X.out.e6
   go_upto_region 8 with fail
   have HS0 := Lib.hid S.out
   have hB0 := hw
   clear cX_6
   go_loopw [26] (fun j ws => ∃ q : Nat, q ≤ x.mems.length ∧ j = .int .i64 q ∧ Has ws w.heap.size 25 #[.slice (some ⟨b, o, none⟩) ts.length c] ∧ defM ts x.mems = defM ts (x.mems.drop q) ∧ Below w.heap.size w ws) (fun j _ => x.mems.length - (intOf j).toNat)
   case atStart => exact ⟨0, by omega, rfl, HS0.out, rfl, hB0⟩
   case round =>
    clear X S HS0 hB0
    obtain ⟨q, hq, rfl, S, hdm, hb⟩ := hrel
    replace S := Lib.hid S
    by_cases hlq : q < x.mems.length
    ·
     skip
     obtain ⟨bb1, o1, rfl, hb1, hel⟩ := HXA.out.mems.elem (by omega)
     obtain ⟨dk, di, dr, hcells, hma⟩ := hel q hlq
     have hq1 : (q : Int) < x.mems.length := by omega
     have hq0 : (0 : Int) ≤ (q : Int) := by omega
     rw [List.drop_eq_getElem_cons hlq] at hdm
     generalize x.mems[q] = m at *
     obtain ⟨D1, d1, D2, d2, D3, d3, rfl, rfl, rfl, -, -, -⟩ := hma.dflt.forms
     have HDF := Lib.hid hma.dflt
     have Hdm := Lib.hid hdm
     clear hel hma hdm
     obtain ⟨y0, y1, y2, y3, y4, y5, y6, y7, y8, y9, y10, y11, y12⟩ := hcells
     have x0 := ((hb).cell (p := ⟨bb1, _, none⟩) hb1).trans y0
     have x1 := ((hb).cell (p := ⟨bb1, _, none⟩) hb1).trans y1
     have x2 := ((hb).cell (p := ⟨bb1, _, none⟩) hb1).trans y2
     have x3 := ((hb).cell (p := ⟨bb1, _, none⟩) hb1).trans y3
     have x4 := ((hb).cell (p := ⟨bb1, _, none⟩) hb1).trans y4
     have x5 := ((hb).cell (p := ⟨bb1, _, none⟩) hb1).trans y5
     have x6 := ((hb).cell (p := ⟨bb1, _, none⟩) hb1).trans y6
     have x7 := ((hb).cell (p := ⟨bb1, _, none⟩) hb1).trans y7
     have x8 := ((hb).cell (p := ⟨bb1, _, none⟩) hb1).trans y8
     have x9 := ((hb).cell (p := ⟨bb1, _, none⟩) hb1).trans y9
     have x10 := ((hb).cell (p := ⟨bb1, _, none⟩) hb1).trans y10
     have x11 := ((hb).cell (p := ⟨bb1, _, none⟩) hb1).trans y11
     have x12 := ((hb).cell (p := ⟨bb1, _, none⟩) hb1).trans y12
     clear y0 y1 y2 y3 y4 y5 y6 y7 y8 y9 y10 y11 y12
     go_upto_region 10 with fail
     refine am1 (fun wd12 hb11 M => ?_)
     have hl14 := S.out.here
     have hl15 := hb.size
     replace S := b1 S hb11
     replace hb := dT hb hb11
     clear hb11
     generalize wr.heap.size = g13 at *
     clear x0 x1 x2 x3 x4 x5 x6 x7 x8 x9 x10 x11 x12
     cases hhd : m.hasDef with
     | false =>
      have Hdm2 : Hid (defM ts x.mems = defM ts (x.mems.drop (q + 1))) := by show _ = _; rw [Hdm.out, defM_no ts [] m _ (.inl hhd)]
      have cM_4 := M.out.cell 4
      simp only [List.getElem?_toArray, List.getElem?_cons_succ, List.getElem?_cons_zero, hhd] at cM_4
      clear hhd
      go_wp2_with fail
      go_roundw
      case rel => exact ⟨q + 1, by omega, by go_num, S.out, Hdm2.out, hb⟩
      case measure => simp [intOf]; omega
     | true =>
      have cM_4 := M.out.cell 4
      simp only [List.getElem?_toArray, List.getElem?_cons_succ, List.getElem?_cons_zero, hhd] at cM_4
      have hfp := fun W h1 h2 => vplain_any m.dflt ts (some ⟨b, o, none⟩) c m.ty (.slice D1 m.dflt.keys.length d1) (.slice D2 m.dflt.items.length d2) (.slice D3 m.dflt.rest.length d3) W HK.out h1 h2
      obtain ⟨fv, hfv⟩ : ∃ fv, fitV ts true m.dflt m.ty = fv := ⟨_, rfl⟩
      simp only [hfv] at hfp
      have HFP := Lib.hid hfp
      clear hfp
      cases fv with
      | false =>
       have Hr : Hid (defE ts = ((k : Int), m.id, 1)) := by show _ = _; rw [Hd.out, Hdt.out, defT_some ts _ x k m.id (by rw [Hdm.out, defM_yes ts m _ hhd hfv])]
       clear hhd hfv
       have cS_0 := S.out.e0
       obtain ⟨cM_0, -, cM_2, -, -, cM_5, cM_6, cM_7, cM_8, cM_9, cM_10, cM_11, cM_12⟩ := M.out.c13
       go_wp2_with fail
       clear cS_0 cM_0 cM_2 cM_5 cM_6 cM_7 cM_8 cM_9 cM_10 cM_11 cM_12
       ((with_reducible refine (HFP.out _ (HT.out.on hb) (HDF.out.on hb)).mono ?_); rintro e wd16 ⟨rfl, hb17⟩)
       obtain ⟨S, M⟩ := b2 S M hb17
       replace hb := dT hb hb17
       clear hb17
       have cM_0 := M.out.e0
       go_wp2_with fail
       go_quiet (fail)
       go_wp2_with fail
       go_ret3
       exact DefPost.mk Hr.out (below_drewN hb _)
      | true =>
       have Hdm2 : Hid (defM ts x.mems = defM ts (x.mems.drop (q + 1))) := by show _ = _; rw [Hdm.out, defM_no ts [] m _ (.inr hfv)]
       clear hhd hfv
       have cS_0 := S.out.e0
       obtain ⟨-, -, cM_2, -, -, cM_5, cM_6, cM_7, cM_8, cM_9, cM_10, cM_11, cM_12⟩ := M.out.c13
       go_wp2_with fail
       clear cS_0 cM_2 cM_5 cM_6 cM_7 cM_8 cM_9 cM_10 cM_11 cM_12
       ((with_reducible refine (HFP.out _ (HT.out.on hb) (HDF.out.on hb)).mono ?_); rintro e wd16 ⟨rfl, hb17⟩)
       obtain ⟨S, M⟩ := b2 S M hb17
       replace hb := dT hb hb17
       clear hb17
       go_wp2_with fail
       go_roundw
       case rel => exact ⟨q + 1, by omega, by go_num, S.out, Hdm2.out, hb⟩
       case measure => simp [intOf]; omega
    obtain rfl : q = x.mems.length := by omega
    have Hn : Hid (defT ts ts 0 = defT ts (ts.drop (k + 1)) (k + 1)) := by show _ = _; rw [Hdt.out, defT_none ts _ x k (by rw [hdm, List.drop_eq_nil_of_le (Nat.le_refl _), defM])]
    clear hdm
    go_wp2_with fail
    go_roundw
    case rel => exact ⟨k + 1, by omega, by go_num, S.out, Hn.out, hb⟩
    case measure => simp [intOf]; omega
  obtain rfl : k = ts.length := by omega
  have Hr : Hid (defE ts = (0, 0, 0)) := by show _ = _; rw [Hd.out, hdt, List.drop_eq_nil_of_le (Nat.le_refl _), defT]
  clear hdt
  have cS_0 := S.out.e0
  go_wp2_with fail
  go_ret3
  exact DefPost.mk Hr.out hw
end Go.Proofs.YtlamhkffnlgofaaGreatDoor

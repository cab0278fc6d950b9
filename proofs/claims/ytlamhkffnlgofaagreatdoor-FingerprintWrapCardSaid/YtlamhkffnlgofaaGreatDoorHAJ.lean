/- What schema.Valid computes. Plain: the canonical root of a root. No condition. -/
import Derived.Test.YtlamhkffnlgofaaGreatDoorForm
import Derived.Test.YtlamhkffnlgofaaGreatDoorHAI
import Derived.Test.YtlamhkffnlgofaaGreatDoorHAE
import Derived.Lib.ItoaLen
set_option maxHeartbeats 4000000
namespace Go.Proofs.YtlamhkffnlgofaaGreatDoor
open Go.ChangeShapes Go.WideShapes Go.ChangeAt Go.RowKit
def inB (n : Nat) (u : Int) : Bool := decide (0 ≤ u) && decide (u < n)
def keyOk (ts : List Typ) (x : Typ) : Bool := match typAt ts x.key with | some y => decide (1 ≤ y.kind) && decide (y.kind ≤ 4) | none => false
def validK (ts : List Typ) : List Typ → List (List UInt8) → Int
 | [], _ => 0
 | x :: r, S => if formB x = false ∨ (x.name ≠ [] ∧ S.contains x.name = true) then 1
  else if (usesL x).all (inB ts.length) = false then 4
  else if x.kind = 8 ∧ keyOk ts x = false then 1
  else validK ts r (S ++ [x.name])
def validE (ts : List Typ) : Int := if 32 < ts.length then 3 else validK ts ts []
def Sizes (ts : List Typ) : Prop := ∀ x ∈ ts, x.syms.length ≤ 6000000000000 ∧ x.mems.length ≤ 6000000000000
theorem SetAt.kept {w : World} {b n : Nat} {S : List (List UInt8)} (h : SetAt w b n S) : Kept (fun w => SetAt w b n S) w b (b + 1) :=
 ⟨h, fun _ hk => h.keep (hk b (Nat.le_refl _) (Nat.lt_succ_self _)), h.here⟩
theorem tnames_succ (l : List Typ) (k : Nat) (h : k < l.length) : (l.take k).map Typ.name ++ [l[k].name] = (l.take (k+1)).map Typ.name := (take_map Typ.name l k h).symm
theorem vk1 (ts r : List Typ) (x : Typ) (S : List (List UInt8)) (h : formB x = false ∨ (x.name ≠ [] ∧ S.contains x.name = true)) : validK ts (x :: r) S = 1 := by rw [validK, if_pos h]
theorem vk4 (ts r : List Typ) (x : Typ) (S : List (List UInt8)) (h : ¬ (formB x = false ∨ (x.name ≠ [] ∧ S.contains x.name = true))) (h2 : (usesL x).all (inB ts.length) = false) : validK ts (x :: r) S = 4 := by rw [validK, if_neg h, if_pos h2]
theorem vk1' (ts r : List Typ) (x : Typ) (S : List (List UInt8)) (h : ¬ (formB x = false ∨ (x.name ≠ [] ∧ S.contains x.name = true))) (h2 : (usesL x).all (inB ts.length) = true) (h3 : x.kind = 8 ∧ keyOk ts x = false) : validK ts (x :: r) S = 1 := by rw [validK, if_neg h, h2, if_neg (by simp), if_pos h3]
theorem vk0 (ts r : List Typ) (x : Typ) (S : List (List UInt8)) (h : ¬ (formB x = false ∨ (x.name ≠ [] ∧ S.contains x.name = true))) (h2 : (usesL x).all (inB ts.length) = true) (h3 : ¬ (x.kind = 8 ∧ keyOk ts x = false)) : validK ts (x :: r) S = validK ts r (S ++ [x.name]) := by rw [validK, if_neg h, h2, if_neg (by simp), if_neg h3]
theorem bad_use (l : List Int) (n : Nat) (u : Int) (h : u ∈ l) (hb : inB n u = false) : l.all (inB n) = false := by
 rw [List.all_eq_false]; exact ⟨u, h, by simp [hb]⟩
theorem uses_len (x : Typ) (h : x.mems.length ≤ 6000000000000) : (usesL x).length ≤ 6000000000002 := by
 unfold usesL; simp only [List.length_append, List.length_map]
 split <;> split <;> simp <;> omega
theorem key_in (x : Typ) (h8 : x.kind = 8) : x.key ∈ usesL x := by
 unfold usesL; rw [if_pos h8]; simp
theorem inB_nat {n : Nat} {u : Int} (h : inB n u = true) : ∃ k : Nat, u = k ∧ k < n := by
 unfold inB at h
 simp only [Bool.and_eq_true, decide_eq_true_eq] at h
 exact ⟨u.toNat, by omega, by omega⟩
theorem keyOk_at (ts : List Typ) (x : Typ) (kn : Nat) (hk : kn < ts.length) (h : x.key = kn) : keyOk ts x = (decide (1 ≤ ts[kn].kind) && decide (ts[kn].kind ≤ 4)) := by
 unfold keyOk typAt; rw [h]; simp [hk]
set_option maxRecDepth 100000 in
theorem valid_any (ts : List Typ) (A : Option Addr) (c : Nat) (w : World) (hs : Sizes ts) (ht : RdTyps w w.heap.size (.slice A ts.length c) ts) :
  Calls Tryz.prog 63 #[.agg #[.slice A ts.length c]] w fun e w' => e = .returned (.int .i64 (validE ts)) ∧ Below w.heap.size w w' := by
 have HT := Lib.hid ht
 have HS := Lib.hid hs
 by_cases h32 : 32 < ts.length
 ·
  have Hv : Hid (validE ts = 3) := by show _ = _; unfold validE; rw [if_pos h32]
  have hd : (32 : Int) < ts.length := by omega
  have hd2 : decide ((32 : Int) < ts.length) = true := decide_eq_true hd
  clear ht hs
  go_enter Tryz.func63, Tryz.ntmps63
  go_upto_region 1 with fail
  refine am1 (fun wd2 hb1 S => ?_)
  have hw3 := hb1
  clear hb1
  have cS_0 := S.out.e0
  go_wp2_with fail
  go_ret
  exact ⟨ret_int Hv.out.symm, hw3⟩
 have Hv : Hid (validE ts = validK ts ts []) := by show _ = _; unfold validE; rw [if_neg h32]
 have hd : (ts.length : Int) ≤ 32 := by omega
 have hd2 : decide ((32 : Int) < ts.length) = false := decide_eq_false (by omega)
 have hmm := @run_makeMap Tryz.prog
 clear hs
 by_cases hz : ts.length = 0
 ·
  have Hv0 : Hid (validE ts = 0) := by show _ = _; rw [Hv.out, List.eq_nil_of_length_eq_zero hz, validK]
  rw [hz]
  clear ht h32 hd hd2
  go_enter Tryz.func63, Tryz.ntmps63
  go_upto_region 1 with fail
  refine am1 (fun wd2 hb1 S => ?_)
  have hw3 := hb1
  clear hb1
  have hS0 := S.out.alloc (.map #[] 0)
  have cS := hS0.cell 0
  simp only [gl3] at cS
  have cS_0 := S.out.e0
  go_wp2_with fail
  refine wp_loop_rounds 1 ?_
  rw [rounds_succ]
  go_wp2_with fail
  go_ret
  exact ⟨ret_int Hv0.out.symm, below_al hw3 (Nat.le_refl _) _⟩
 obtain ⟨b, o, rfl, hbb, hel⟩ := ht.elem (by omega)
 have HEL := Lib.hid hel
 clear ht hel
 go_enter Tryz.func63, Tryz.ntmps63
 go_upto_region 1 with fail
 refine am1 (fun wd2 hb1 S => ?_)
 have hw3 := hb1
 clear hb1
 have hset0 := SetAt.made wd2
 have hS0 := S.out.alloc (.map #[] 0)
 have hlt0 := S.out.here
 have hb0 := below_al hw3 (Nat.le_refl _) (.map #[] 0)
 have cS := hS0.cell 0
 simp only [gl3] at cS
 have cS_0 := S.out.e0
 go_upto_region 4 with fail
 clear cS_0
 generalize wd2.alloc (.map #[] 0) = wm at *
 generalize wd2.heap.size = gm at *
 have HSet0 := Lib.hid hset0
 have HS0 := Lib.hid hS0
 clear hmm hset0 hS0 S
 go_wp2_with fail
 clear cS
 go_loopw [16] (fun i wr => ∃ k : Nat, k ≤ ts.length ∧ i = .int .i64 k ∧ SetAt wr gm k ((ts.take k).map Typ.name) ∧ Has wr w.heap.size 25 #[.slice (some ⟨b, o, none⟩) ts.length c] ∧ validK ts ts [] = validK ts (ts.drop k) ((ts.take k).map Typ.name) ∧ Below w.heap.size w wr) (fun i _ => ts.length - (intOf i).toNat)
 case atStart => exact ⟨0, by omega, rfl, HSet0.out, HS0.out, rfl, hb0⟩
 case round =>
  clear hb0 HSet0 HS0
  obtain ⟨k, hk, rfl, hset, S, hvk, hw⟩ := hrel
  by_cases hlt : k < ts.length
  ·
   obtain ⟨vs, vm, hcells, hxa⟩ := HEL.out k hlt
   have hsz := HS.out _ (List.getElem_mem hlt)
   have Hxn := Lib.hid (tnames_succ ts k hlt)
   rw [List.drop_eq_getElem_cons hlt] at hvk
   generalize ts[k] = x at *
   obtain ⟨C1, m1, C2, m2, rfl, rfl, -, -⟩ := hxa.forms
   obtain ⟨y0, y1, y2, y3, y4, y5, y6, y7, y8, y9⟩ := hcells
   have c0 := (hw.cell (p := ⟨b, _, none⟩) hbb).trans y0
   have c1 := (hw.cell (p := ⟨b, _, none⟩) hbb).trans y1
   have c2 := (hw.cell (p := ⟨b, _, none⟩) hbb).trans y2
   have c3 := (hw.cell (p := ⟨b, _, none⟩) hbb).trans y3
   have c4 := (hw.cell (p := ⟨b, _, none⟩) hbb).trans y4
   have c5 := (hw.cell (p := ⟨b, _, none⟩) hbb).trans y5
   have c6 := (hw.cell (p := ⟨b, _, none⟩) hbb).trans y6
   have c7 := (hw.cell (p := ⟨b, _, none⟩) hbb).trans y7
   have c8 := (hw.cell (p := ⟨b, _, none⟩) hbb).trans y8
   have c9 := (hw.cell (p := ⟨b, _, none⟩) hbb).trans y9
   clear y0 y1 y2 y3 y4 y5 y6 y7 y8 y9
   have HXA := Lib.hid hxa
   have Hvk := Lib.hid hvk
   have hi1 : (k : Int) < ts.length := by omega
   have hnl := hxa.namel
   clear hxa hvk
   replace S := Lib.hid S
   have M := Lib.hid (SetAt.kept hset)
   clear hset
   go_upto_region 7 with fail
   refine am1 (fun wd5 hb4 X => ?_)
   have hl7 := S.out.here
   have hl8 := M.out.le
   have hl9 := hw.size
   obtain ⟨S, M⟩ := b2 S M hb4
   replace hw := dT hw hb4
   clear hb4
   generalize wr.heap.size = g6 at *
   clear c0 c1 c2 c3 c4 c5 c6 c7 c8 c9
   obtain ⟨cX_0, cX_1, cX_2, cX_3, cX_4, cX_5, cX_6, cX_7, cX_8, cX_9⟩ := X.out.c10
   go_wp2_with fail
   clear cX_0 cX_1 cX_2 cX_3 cX_4 cX_5 cX_6 cX_7 cX_8 cX_9
   ((with_reducible refine (form_any x _ _ _ hsz (HXA.out.on hw)).mono ?_); rintro e wd10 ⟨rfl, hb11⟩)
   obtain ⟨S, X, M⟩ := b3 S X M hb11
   replace hw := dT hw hb11
   clear hb11
   have hlook := M.out.now.look x.name (by unfold maxLen; omega)
   cases hf : formB x with
   | false =>
    have Hr : Hid (validE ts = 1) := by show _ = _; rw [Hv.out, Hvk.out, vk1 ts _ x _ (.inl hf)]
    clear hf hlook
    have cX_1 := X.out.e1
    go_wp2_with fail
    go_ret
    exact ⟨ret_int Hr.out.symm, hw⟩
   | true =>
    by_cases hn : x.name = []
    ·
     have hie : x.name.isEmpty = true := by rw [hn]; rfl
     have HNB : Hid (¬ (formB x = false ∨ (x.name ≠ [] ∧ ((ts.take k).map Typ.name).contains x.name = true))) := fun h => by
      rcases h with h | h
      ·
       rw [hf] at h; cases h
      exact h.1 hn
     clear hf hlook hn
     have cX_1 := X.out.e1
     go_upto_region 9 with fail
     have hgW := M.out.le
     go_upto_region 10 with (at_mapUpdate; refine wpList_put_set rfl _ _ _ rfl gm k _ rfl M.out.now (by unfold maxLen; omega) x.name rfl rfl (by unfold maxLen; omega) ?_; intro w3 hset3 hg3)
     have hbm := hgr_below hg3 (Nat.le_of_lt hgW) (fun j hj => by cases hj; exact Nat.le_refl _)
     have hkk : ∀ q, q < wd10.heap.size → some gm ≠ some q → w3.heap[q]? = wd10.heap[q]? := fun q hq hne => hg3.block q hq (fun e => hne e.symm)
     have hvv : ∀ q, some gm = some q → q = gm := fun q h => by injection h with h; exact h.symm
     clear M
     clear cX_1
     replace S := dG S hkk (fun hh => by have := hvv _ hh; omega)
     replace X := dG X hkk (fun hh => by have := hvv _ hh; omega)
     replace hw := hw.trans (hbm.mono (show w.heap.size ≤ gm by omega))
     have M := Lib.hid (SetAt.kept hset3)
     clear hset3 hg3 hkk hvv hbm hgW
     obtain ⟨cX_0, cX_1, cX_2, cX_3, cX_4, cX_5, cX_6, cX_7, cX_8, cX_9⟩ := X.out.c10
     go_wp2_with fail
     clear cX_0 cX_1 cX_2 cX_3 cX_4 cX_5 cX_6 cX_7 cX_8 cX_9
     ((with_reducible refine (uses_any x _ _ _ hsz.2 (HXA.out.on hw)).mono ?_); rintro e wd12 ⟨vu, rfl, hru, hb13⟩)
     obtain ⟨S, X, M⟩ := b3 S X M hb13
     replace hw := dT hw hb13
     clear hb13
     have hul := uses_len x hsz.2
     have HIN := Lib.hid (key_in x)
     obtain ⟨l, hlq⟩ : ∃ l, usesL x = l := ⟨_, rfl⟩
     rw [hlq] at hru hul HIN
     have Hlq := Lib.hid hlq
     obtain ⟨Au, cu, rfl, _⟩ := hru.form
     clear hlq
     have U := Lib.hid (Kept.rd (P := fun w B => Rd w B 1 (.slice Au l.length cu) l.length (l.map (Value.int .i64))) hru (Nat.le_refl _) (fun _ hk => hru.keep hk))
     clear hru
     have cS_0 := S.out.e0
     have cX_0 := X.out.e0
     have cX_7 := X.out.e7
     go_wp2_with fail
     go_loop [40] (fun j => ∃ q : Nat, q ≤ l.length ∧ j = .int .i64 q ∧ (l.take q).all (inB ts.length) = true) (fun j => l.length - (intOf j).toNat)
     case atStart => exact ⟨0, by omega, rfl, rfl⟩
     case round =>
      obtain ⟨q, hq, rfl, hall⟩ := hrel
      by_cases hql : q < l.length
      ·
       obtain ⟨bu, ou, rfl, hbu, hcu⟩ := U.out.now.at_ (by omega)
       have cu0 := ints_at hcu q hql
       have hmem := List.getElem_mem hql
       have htk : (l.take (q + 1)).all (inB ts.length) = ((l.take q).all (inB ts.length) && inB ts.length l[q]) := by rw [List.take_succ_eq_append_getElem hql, List.all_append]; simp
       have hq1 : (q : Int) < l.length := by omega
       generalize l[q] = u at *
       clear hcu
       cases hin : inB ts.length u with
       | true =>
        obtain ⟨un, rfl, hun⟩ := inB_nat hin
        have Hall : Hid ((l.take (q + 1)).all (inB ts.length) = true) := by show _ = _; rw [htk, hall, hin]; rfl
        have hu0 : decide ((un : Int) < 0) = false := decide_eq_false (by omega)
        have hu1 : decide (ts.length ≤ un) = false := decide_eq_false (by omega)
        clear hall htk hin hmem
        go_wp2_with fail
        go_round
        case rel => exact ⟨q + 1, by omega, by go_num, Hall.out⟩
        case measure => simp [intOf]; omega
       | false =>
        have Hr : Hid (validE ts = 4) := by show _ = _; rw [Hv.out, Hvk.out, vk4 ts _ x _ HNB.out (by rw [Hlq.out]; exact bad_use l _ u hmem hin)]
        by_cases hu0 : u < 0
        ·
         have hu1 : decide (u < 0) = true := decide_eq_true hu0
         clear hall htk hin hmem
         go_wp2_with fail
         go_ret
         exact ⟨ret_int Hr.out.symm, hw⟩
        obtain ⟨un, rfl⟩ : ∃ un : Nat, u = un := ⟨u.toNat, by omega⟩
        have hu2 : ts.length ≤ un := by
         rcases Nat.lt_or_ge un ts.length with h | h
         ·
          exfalso; unfold inB at hin; simp at hin; omega
         exact h
        have hu1 : decide ((un : Int) < 0) = false := decide_eq_false (by omega)
        have hu3 : decide (ts.length ≤ un) = true := decide_eq_true hu2
        clear hall htk hin hmem hu0
        go_wp2_with fail
        go_ret
        exact ⟨ret_int Hr.out.symm, hw⟩
      obtain rfl : q = l.length := by omega
      rw [List.take_of_length_le (Nat.le_refl _)] at hall
      have HALL : Hid ((usesL x).all (inB ts.length) = true) := by show _ = _; rw [Hlq.out]; exact hall
      by_cases h8 : x.kind = 8
      ·
       have t8 : (x.kind == 8) = true := by simp [h8]
       obtain ⟨kn, hkn, hkl⟩ := inB_nat (List.all_eq_true.1 hall x.key (HIN.out h8))
       have hko := keyOk_at ts x kn hkl hkn
       obtain ⟨ys, ym, hyc, -⟩ := HEL.out kn hkl
       have d0 := ((hw).cell (p := ⟨b, _, none⟩) hbb).trans hyc.1
       have hkn0 : (kn : Int) < ts.length := by omega
       have H8 := Lib.hid h8
       have cX7 := X.out.cell 7
       simp only [gl3] at cX7
       rw [hkn] at cX_7 cX7
       generalize ts[kn].kind = yk at *
       clear hall h8 hyc hkn
       by_cases hy1 : yk < 1
       ·
        have ty : decide (yk < 1) = true := decide_eq_true hy1
        have Hr : Hid (validE ts = 1) := by show _ = _; rw [Hv.out, Hvk.out, vk1' ts _ x _ HNB.out HALL.out ⟨H8.out, by rw [hko, decide_eq_false (by omega)]; rfl⟩]
        clear hko
        go_wp2_with fail
        go_ret
        exact ⟨ret_int Hr.out.symm, hw⟩
       have ty : decide (yk < 1) = false := decide_eq_false hy1
       by_cases hy4 : 4 < yk
       ·
        have ty4 : decide (4 < yk) = true := decide_eq_true hy4
        have Hr : Hid (validE ts = 1) := by show _ = _; rw [Hv.out, Hvk.out, vk1' ts _ x _ HNB.out HALL.out ⟨H8.out, by rw [hko, decide_eq_false (show ¬ yk ≤ 4 by omega)]; simp⟩]
        clear hko
        go_wp2_with fail
        go_ret
        exact ⟨ret_int Hr.out.symm, hw⟩
       have ty4 : decide (4 < yk) = false := decide_eq_false hy4
       have HK8 : Hid (¬ (x.kind = 8 ∧ keyOk ts x = false)) := fun h => by
        have h2 := h.2
        rw [hko, decide_eq_true (show 1 ≤ yk by omega), decide_eq_true (show yk ≤ 4 by omega)] at h2
        cases h2
       clear hko
       go_wp2_with fail
       clear cS_0 cX_0 cX_7
       go_wp2_with fail
       go_roundw
       case rel => exact ⟨k + 1, by omega, by go_num, by have h := M.out.now; rw [Hxn.out] at h; exact h, S.out, by rw [Hvk.out, vk0 ts _ x _ HNB.out HALL.out HK8.out, Hxn.out], hw⟩
       case measure => simp [intOf]; omega
      have t8 : (x.kind == 8) = false := by simpa using h8
      have HK8 : Hid (¬ (x.kind = 8 ∧ keyOk ts x = false)) := fun h => h8 h.1
      clear hall h8
      go_wp2_with fail
      clear cS_0 cX_0 cX_7
      go_wp2_with fail
      go_roundw
      case rel => exact ⟨k + 1, by omega, by go_num, by have h := M.out.now; rw [Hxn.out] at h; exact h, S.out, by rw [Hvk.out, vk0 ts _ x _ HNB.out HALL.out HK8.out, Hxn.out], hw⟩
      case measure => simp [intOf]; omega
    have hie : x.name.isEmpty = false := by cases hq : x.name with | nil => exact absurd hq hn | cons _ _ => rfl
    cases hc : ((ts.take k).map Typ.name).contains x.name with
    | true =>
     have Hr : Hid (validE ts = 1) := by show _ = _; rw [Hv.out, Hvk.out, vk1 ts _ x _ (.inr ⟨hn, hc⟩)]
     rw [hc] at hlook
     clear hf hc
     have cX_1 := X.out.e1
     go_wp2_with fail
     go_ret
     exact ⟨ret_int Hr.out.symm, hw⟩
    | false =>
     have HNB : Hid (¬ (formB x = false ∨ (x.name ≠ [] ∧ ((ts.take k).map Typ.name).contains x.name = true))) := fun h => by
      rcases h with h | h
      ·
       rw [hf] at h; cases h
      rw [hc] at h; cases h.2
     rw [hc] at hlook
     clear hf hc
     have cX_1 := X.out.e1
     go_upto_region 9 with fail
     clear hlook
     have hgW := M.out.le
     go_upto_region 10 with (at_mapUpdate; refine wpList_put_set rfl _ _ _ rfl gm k _ rfl M.out.now (by unfold maxLen; omega) x.name rfl rfl (by unfold maxLen; omega) ?_; intro w3 hset3 hg3)
     have hbm := hgr_below hg3 (Nat.le_of_lt hgW) (fun j hj => by cases hj; exact Nat.le_refl _)
     have hkk : ∀ q, q < wd10.heap.size → some gm ≠ some q → w3.heap[q]? = wd10.heap[q]? := fun q hq hne => hg3.block q hq (fun e => hne e.symm)
     have hvv : ∀ q, some gm = some q → q = gm := fun q h => by injection h with h; exact h.symm
     clear M
     clear cX_1
     replace S := dG S hkk (fun hh => by have := hvv _ hh; omega)
     replace X := dG X hkk (fun hh => by have := hvv _ hh; omega)
     replace hw := hw.trans (hbm.mono (show w.heap.size ≤ gm by omega))
     have M := Lib.hid (SetAt.kept hset3)
     clear hset3 hg3 hkk hvv hbm hgW
     obtain ⟨cX_0, cX_1, cX_2, cX_3, cX_4, cX_5, cX_6, cX_7, cX_8, cX_9⟩ := X.out.c10
     go_wp2_with fail
     clear cX_0 cX_1 cX_2 cX_3 cX_4 cX_5 cX_6 cX_7 cX_8 cX_9
     ((with_reducible refine (uses_any x _ _ _ hsz.2 (HXA.out.on hw)).mono ?_); rintro e wd12 ⟨vu, rfl, hru, hb13⟩)
     obtain ⟨S, X, M⟩ := b3 S X M hb13
     replace hw := dT hw hb13
     clear hb13
     have hul := uses_len x hsz.2
     have HIN := Lib.hid (key_in x)
     obtain ⟨l, hlq⟩ : ∃ l, usesL x = l := ⟨_, rfl⟩
     rw [hlq] at hru hul HIN
     have Hlq := Lib.hid hlq
     obtain ⟨Au, cu, rfl, _⟩ := hru.form
     clear hlq
     have U := Lib.hid (Kept.rd (P := fun w B => Rd w B 1 (.slice Au l.length cu) l.length (l.map (Value.int .i64))) hru (Nat.le_refl _) (fun _ hk => hru.keep hk))
     clear hru
     have cS_0 := S.out.e0
     have cX_0 := X.out.e0
     have cX_7 := X.out.e7
     go_wp2_with fail
     go_loop [40] (fun j => ∃ q : Nat, q ≤ l.length ∧ j = .int .i64 q ∧ (l.take q).all (inB ts.length) = true) (fun j => l.length - (intOf j).toNat)
     case atStart => exact ⟨0, by omega, rfl, rfl⟩
     case round =>
      obtain ⟨q, hq, rfl, hall⟩ := hrel
      by_cases hql : q < l.length
      ·
       obtain ⟨bu, ou, rfl, hbu, hcu⟩ := U.out.now.at_ (by omega)
       have cu0 := ints_at hcu q hql
       have hmem := List.getElem_mem hql
       have htk : (l.take (q + 1)).all (inB ts.length) = ((l.take q).all (inB ts.length) && inB ts.length l[q]) := by rw [List.take_succ_eq_append_getElem hql, List.all_append]; simp
       have hq1 : (q : Int) < l.length := by omega
       generalize l[q] = u at *
       clear hcu
       cases hin : inB ts.length u with
       | true =>
        obtain ⟨un, rfl, hun⟩ := inB_nat hin
        have Hall : Hid ((l.take (q + 1)).all (inB ts.length) = true) := by show _ = _; rw [htk, hall, hin]; rfl
        have hu0 : decide ((un : Int) < 0) = false := decide_eq_false (by omega)
        have hu1 : decide (ts.length ≤ un) = false := decide_eq_false (by omega)
        clear hall htk hin hmem
        go_wp2_with fail
        go_round
        case rel => exact ⟨q + 1, by omega, by go_num, Hall.out⟩
        case measure => simp [intOf]; omega
       | false =>
        have Hr : Hid (validE ts = 4) := by show _ = _; rw [Hv.out, Hvk.out, vk4 ts _ x _ HNB.out (by rw [Hlq.out]; exact bad_use l _ u hmem hin)]
        by_cases hu0 : u < 0
        ·
         have hu1 : decide (u < 0) = true := decide_eq_true hu0
         clear hall htk hin hmem
         go_wp2_with fail
         go_ret
         exact ⟨ret_int Hr.out.symm, hw⟩
        obtain ⟨un, rfl⟩ : ∃ un : Nat, u = un := ⟨u.toNat, by omega⟩
        have hu2 : ts.length ≤ un := by
         rcases Nat.lt_or_ge un ts.length with h | h
         ·
          exfalso; unfold inB at hin; simp at hin; omega
         exact h
        have hu1 : decide ((un : Int) < 0) = false := decide_eq_false (by omega)
        have hu3 : decide (ts.length ≤ un) = true := decide_eq_true hu2
        clear hall htk hin hmem hu0
        go_wp2_with fail
        go_ret
        exact ⟨ret_int Hr.out.symm, hw⟩
      obtain rfl : q = l.length := by omega
      rw [List.take_of_length_le (Nat.le_refl _)] at hall
      have HALL : Hid ((usesL x).all (inB ts.length) = true) := by show _ = _; rw [Hlq.out]; exact hall
      by_cases h8 : x.kind = 8
      ·
       have t8 : (x.kind == 8) = true := by simp [h8]
       obtain ⟨kn, hkn, hkl⟩ := inB_nat (List.all_eq_true.1 hall x.key (HIN.out h8))
       have hko := keyOk_at ts x kn hkl hkn
       obtain ⟨ys, ym, hyc, -⟩ := HEL.out kn hkl
       have d0 := ((hw).cell (p := ⟨b, _, none⟩) hbb).trans hyc.1
       have hkn0 : (kn : Int) < ts.length := by omega
       have H8 := Lib.hid h8
       have cX7 := X.out.cell 7
       simp only [gl3] at cX7
       rw [hkn] at cX_7 cX7
       generalize ts[kn].kind = yk at *
       clear hall h8 hyc hkn
       by_cases hy1 : yk < 1
       ·
        have ty : decide (yk < 1) = true := decide_eq_true hy1
        have Hr : Hid (validE ts = 1) := by show _ = _; rw [Hv.out, Hvk.out, vk1' ts _ x _ HNB.out HALL.out ⟨H8.out, by rw [hko, decide_eq_false (by omega)]; rfl⟩]
        clear hko
        go_wp2_with fail
        go_ret
        exact ⟨ret_int Hr.out.symm, hw⟩
       have ty : decide (yk < 1) = false := decide_eq_false hy1
       by_cases hy4 : 4 < yk
       ·
        have ty4 : decide (4 < yk) = true := decide_eq_true hy4
        have Hr : Hid (validE ts = 1) := by show _ = _; rw [Hv.out, Hvk.out, vk1' ts _ x _ HNB.out HALL.out ⟨H8.out, by rw [hko, decide_eq_false (show ¬ yk ≤ 4 by omega)]; simp⟩]
        clear hko
        go_wp2_with fail
        go_ret
        exact ⟨ret_int Hr.out.symm, hw⟩
       have ty4 : decide (4 < yk) = false := decide_eq_false hy4
       have HK8 : Hid (¬ (x.kind = 8 ∧ keyOk ts x = false)) := fun h => by
        have h2 := h.2
        rw [hko, decide_eq_true (show 1 ≤ yk by omega), decide_eq_true (show yk ≤ 4 by omega)] at h2
        cases h2
       clear hko
       go_wp2_with fail
       clear cS_0 cX_0 cX_7
       go_wp2_with fail
       go_roundw
       case rel => exact ⟨k + 1, by omega, by go_num, by have h := M.out.now; rw [Hxn.out] at h; exact h, S.out, by rw [Hvk.out, vk0 ts _ x _ HNB.out HALL.out HK8.out, Hxn.out], hw⟩
       case measure => simp [intOf]; omega
      have t8 : (x.kind == 8) = false := by simpa using h8
      have HK8 : Hid (¬ (x.kind = 8 ∧ keyOk ts x = false)) := fun h => h8 h.1
      clear hall h8
      go_wp2_with fail
      clear cS_0 cX_0 cX_7
      go_wp2_with fail
      go_roundw
      case rel => exact ⟨k + 1, by omega, by go_num, by have h := M.out.now; rw [Hxn.out] at h; exact h, S.out, by rw [Hvk.out, vk0 ts _ x _ HNB.out HALL.out HK8.out, Hxn.out], hw⟩
      case measure => simp [intOf]; omega
  obtain rfl : k = ts.length := by omega
  have Hr : Hid (validE ts = 0) := by show _ = _; rw [Hv.out, hvk, List.drop_eq_nil_of_le (Nat.le_refl _), validK]
  clear hvk
  go_wp2_with fail
  go_ret
  exact ⟨ret_int Hr.out.symm, hw⟩
end Go.Proofs.YtlamhkffnlgofaaGreatDoor
namespace Go.Proofs.YtlamhkffnlgofaaGreatDoor
theorem validK_allC (ts : List Typ) : ∀ (l : List Typ) (S : List (List UInt8)), validK ts l S = 0 → ∀ x ∈ l, formB x = true ∧ (usesL x).all (inB ts.length) = true ∧ ¬ (x.kind = 8 ∧ keyOk ts x = false)
 | [], _, _, x, hx => by simp at hx
 | y :: r, S, h, x, hx => by
  by_cases h1 : formB y = false ∨ (y.name ≠ [] ∧ S.contains y.name = true)
  ·
   rw [vk1 ts r y S h1] at h; cases h
  cases h2 : (usesL y).all (inB ts.length) with
  | false => rw [vk4 ts r y S h1 h2] at h; cases h
  | true =>
   by_cases h3 : y.kind = 8 ∧ keyOk ts y = false
   ·
    rw [vk1' ts r y S h1 h2 h3] at h; cases h
   rw [vk0 ts r y S h1 h2 h3] at h
   rcases List.mem_cons.1 hx with rfl | hx
   ·
    refine ⟨?_, h2, h3⟩
    cases hf : formB x with
    | true => rfl
    | false => exact absurd (.inl hf) h1
   exact validK_allC ts r _ h x hx
theorem validK_ofC (ts : List Typ) : ∀ (l : List Typ) (S : List (List UInt8)), (∀ x ∈ l, formB x = true ∧ (usesL x).all (inB ts.length) = true ∧ ¬ (x.kind = 8 ∧ keyOk ts x = false)) → (∀ x ∈ l, x.name ≠ [] → x.name ∉ S) → l.Pairwise (fun a b => b.name ≠ [] → a.name ≠ b.name) → validK ts l S = 0
 | [], S, _, _, _ => by rw [validK]
 | x :: r, S, h, hS, hp => by
  obtain ⟨h1, h2, h3⟩ := h x (by simp)
  rw [List.pairwise_cons] at hp
  rw [vk0 ts r x S (by
   rintro (h | ⟨h, h'⟩)
   ·
    rw [h1] at h; cases h
   exact hS x (by simp) h (by simpa using h')) h2 h3]
  exact validK_ofC ts r (S ++ [x.name]) (fun y hy => h y (by simp [hy])) (fun y hy hne hm => by
   rcases List.mem_append.1 hm with hm | hm
   ·
    exact hS y (by simp [hy]) hne hm
   rw [List.mem_singleton] at hm
   exact hp.1 y hy hne hm.symm) hp.2
theorem valid_all {ts : List Typ} (h : validE ts = 0) : ts.length ≤ 32 ∧ ∀ x ∈ ts, formB x = true ∧ (usesL x).all (inB ts.length) = true ∧ ¬ (x.kind = 8 ∧ keyOk ts x = false) := by
 unfold validE at h
 by_cases h1 : 32 < ts.length
 ·
  rw [if_pos h1] at h; cases h
 rw [if_neg h1] at h
 exact ⟨by omega, validK_allC ts ts [] h⟩
theorem form_kind {x : Typ} (h : formB x = true) : 1 ≤ x.kind ∧ x.kind ≤ 9 := by
 unfold formB at h; simp only [Bool.and_eq_true, decide_eq_true_eq] at h; exact h.1
theorem outs_eq {x : Typ} (hk : x.kind ≤ 9) : outs x = (usesL x).map Int.toNat := by
 unfold outs usesC usesL
 simp only [List.map_append, List.map_map]
 congr 1
 congr 1
 ·
  split <;> rfl
 by_cases h7 : 7 ≤ x.kind
 ·
  rw [if_pos (by omega), if_pos h7]; rfl
 rw [if_neg (by omega), if_neg h7]; rfl
theorem inside_of {ts : List Typ} (h : validE ts = 0) : Inside ts := by
 intro x hx u hu
 obtain ⟨h1, h2, _⟩ := (valid_all h).2 x hx
 rw [outs_eq (form_kind h1).2] at hu
 obtain ⟨v, hv, rfl⟩ := List.mem_map.1 hu
 rw [List.all_eq_true] at h2
 obtain ⟨k, rfl, hk⟩ := inB_nat (h2 v hv)
 exact hk
/-! names -/
def nmC (c : UInt8) (n : Int) : List UInt8 := c :: Lib.itoa n
def numD (l : List UInt8) : Nat := l.foldl (fun a c => a * 10 + (c.toNat - 48)) 0
theorem numD_dec (u : Nat) : numD (Lib.decDigits u) = u := by
 induction u using Nat.strongRecOn with
 | ind u ih =>
  rw [Lib.decDigits]
  split
  ·
   next h =>
   have : (UInt8.ofNat (48 + u)).toNat = 48 + u := by rw [UInt8.toNat_ofNat_of_lt' (by show _ < 256; omega)]
   simp only [numD, List.foldl_cons, List.foldl_nil, this]; omega
  next h =>
  have h2 : (UInt8.ofNat (48 + u % 10)).toNat = 48 + u % 10 := by rw [UInt8.toNat_ofNat_of_lt' (by show _ < 256; omega)]
  have h3 := ih (u / 10) (by omega)
  unfold numD at h3 ⊢
  rw [List.foldl_append, h3, List.foldl_cons, List.foldl_nil, h2]; omega
theorem nmC_inj {c : UInt8} {a b : Int} (ha : 0 ≤ a) (hb : 0 ≤ b) (h : nmC c a = nmC c b) : a = b := by
 unfold nmC Lib.itoa at h
 rw [if_neg (by omega), if_neg (by omega)] at h
 injection h with _ h
 have h1 := congrArg numD h
 rw [numD_dec, numD_dec] at h1
 omega
theorem dec_dig (u : Nat) : (Lib.decDigits u).all digB = true := by
 induction u using Nat.strongRecOn with
 | ind u ih =>
  have hd : ∀ v, v < 10 → digB (UInt8.ofNat (48 + v)) = true := by
   intro v hv
   unfold digB
   rw [UInt8.toNat_ofNat_of_lt' (by show _ < 256; omega)]
   simp; omega
  rw [Lib.decDigits]
  split
  ·
   next h => rw [List.all_cons, hd u h, List.all_nil]; rfl
  next h => rw [List.all_append, ih (u / 10) (by omega), List.all_cons, hd (u % 10) (by omega), List.all_nil]; rfl
theorem nmC_name {c : UInt8} (hc : letB c = true) {n : Int} (h0 : 0 ≤ n) (h1 : n ≤ 9223372036854775807) : nameB (nmC c n) = true := by
 have hl := Lib.itoa_length_le n (by omega) h1
 unfold nameB nmC
 have hd : (Lib.itoa n).all (fun c => letB c || digB c) = true := by
  unfold Lib.itoa
  rw [if_neg (by omega), List.all_eq_true]
  intro x hx
  have := List.all_eq_true.1 (dec_dig n.toNat) x hx
  simp [this]
 simp only [List.length_cons, List.headD_cons, List.all_cons, hc, hd, Bool.true_or, Bool.and_true]
 simp; omega
theorem nmC_ne (c : UInt8) (n : Int) : nmC c n ≠ [] := by unfold nmC; simp
/-! a type with canonical names and other indices -/
def renM (ix : Nat → Nat) (m : Mem) : Mem := { m with name := nmC 102 m.id, ty := ((ix m.ty.toNat : Nat) : Int) }
def renS (s : Raw) : Raw := (s.1, nmC 115 s.1)
def renT (n : Nat) (ix : Nat → Nat) (x : Typ) : Typ :=
 { x with name := if x.name = [] then [] else nmC 84 n, syms := x.syms.map renS, mems := x.mems.map (renM ix), key := if x.kind = 8 then ((ix x.key.toNat : Nat) : Int) else x.key, elem := if x.kind = 7 ∨ x.kind = 8 ∨ x.kind = 9 then ((ix x.elem.toNat : Nat) : Int) else x.elem }
theorem ren_alike (n : Nat) (ix : Nat → Nat) (x : Typ) : Alike x (renT n ix x) :=
 ⟨rfl, rfl, rfl, rfl, rfl, by simp [renT, renS, List.map_map, Function.comp_def], by simp [renT, renM, memK, List.map_map, Function.comp_def]⟩
theorem ren_outs (n : Nat) (ix : Nat → Nat) (x : Typ) : outs (renT n ix x) = (outs x).map ix := by
 unfold outs usesC renT
 simp only [List.map_append, List.map_map]
 congr 1
 congr 1
 ·
  split <;> simp
 split <;> simp
noncomputable def ixN (ts : List Typ) (t u : Nat) : Nat := (ordN ts t).idxOf (clsN ts u)
noncomputable def canT (ts : List Typ) (t : Nat) : List Typ := (ordN ts t).mapIdx (fun n a => renT n (ixN ts t) (ts.getD a typZ))
theorem can_len (ts : List Typ) (t : Nat) : (canT ts t).length = (ordN ts t).length := by unfold canT; simp
theorem can_get (ts : List Typ) (t n a : Nat) (h : (ordN ts t)[n]? = some a) : (canT ts t)[n]? = some (renT n (ixN ts t) (ts.getD a typZ)) := by
 unfold canT; rw [List.getElem?_mapIdx, h]; rfl
theorem idx_getC {l : List Nat} {a : Nat} (h : a ∈ l) : l[l.idxOf a]? = some a := by
 have h1 := List.idxOf_lt_length_of_mem h
 rw [List.getElem?_eq_getElem h1, List.getElem_idxOf h1]
theorem idx_of {l : List Nat} (hn : l.Nodup) {n a : Nat} (h : l[n]? = some a) : l.idxOf a = n := by
 obtain ⟨h1, h2⟩ := List.getElem?_eq_some_iff.1 h
 have h3 := idx_getC (List.mem_of_getElem? h)
 obtain ⟨h4, h5⟩ := List.getElem?_eq_some_iff.1 h3
 have hp := List.pairwise_iff_getElem.1 hn
 rcases Nat.lt_trichotomy (l.idxOf a) n with h6 | h6 | h6
 ·
  exact absurd (h5.trans h2.symm) (hp _ _ h4 h1 h6)
 ·
  exact h6
 exact absurd (h2.trans h5.symm) (hp _ _ h1 h4 h6)
section
variable {ts : List Typ} (hin : Inside ts) {t : Nat} (ht : t < ts.length)
include hin ht
theorem can_bis {i k : Nat} (hi : i < ts.length) (hk : (ordN ts t)[k]? = some (clsN ts i)) : Bis ts (canT ts t) i k := by
 refine ⟨fun i k => i < ts.length ∧ (ordN ts t)[k]? = some (clsN ts i), ?_, hi, hk⟩
 rintro i k ⟨hi, hk⟩
 obtain ⟨x, z, hx, hz, ha, hj⟩ := bis_closed ts ts _ _ (cls_bis hin hi)
 obtain ⟨hr, _, hcl⟩ := ord_spec hin ht
 have hg : ts.getD (clsN ts i) typZ = z := by rw [List.getD_eq_getElem?_getD, hz]; rfl
 refine ⟨x, _, hx, can_get ts t k _ hk, by rw [hg]; exact ha.trans (ren_alike _ _ _), fun j a b h1 h2 => ?_⟩
 rw [hg, ren_outs, List.getElem?_map] at h2
 cases hb : (outs z)[j]? with
 | none => rw [hb] at h2; cases h2
 | some b0 =>
  rw [hb] at h2
  injection h2 with h2
  subst h2
  have hab := hj j a b0 h1 hb
  refine ⟨hab.lt.1, ?_⟩
  rw [cls_eq hin hab]
  refine idx_getC (hcl _ (List.mem_of_getElem? hk) b0 ?_)
  unfold outsAt; rw [hz]; exact List.mem_of_getElem? hb
theorem can_root : Bis ts (canT ts t) t 0 := can_bis hin ht ht (ord_zero hin ht)
end
theorem typ_ext {x y : Typ} (h1 : x.kind = y.kind) (h2 : x.name = y.name) (h3 : x.low = y.low) (h4 : x.high = y.high) (h5 : x.max = y.max) (h6 : x.syms = y.syms) (h7 : x.mems = y.mems) (h8 : x.key = y.key) (h9 : x.elem = y.elem) (h10 : x.opn = y.opn) : x = y := by
 cases x; cases y; simp only at *; subst h1 h2 h3 h4 h5 h6 h7 h8 h9 h10; rfl
theorem sameZ_iff {x : Typ} (h : sameZ x typZ = true) : x = typZ := by
 unfold sameZ at h
 simp only [Bool.and_eq_true, decide_eq_true_eq] at h
 obtain ⟨⟨h1, h2, h3, h4, h5, h6, h7, h8⟩, h9, h10⟩ := h
 exact typ_ext h1 h2 h3 h4 h5 (List.eq_nil_of_length_eq_zero h9) (List.eq_nil_of_length_eq_zero h10) h6 h7 h8
theorem form_rest {x : Typ} (h : formB x = true) : restT x = typZ := by
 unfold formB at h
 simp only [Bool.and_eq_true] at h
 exact sameZ_iff h.2.2
theorem form_zero {x : Typ} (h : formB x = true) : (x.name = [] ↔ ¬ (x.kind = 4 ∨ x.kind = 5 ∨ x.kind = 6)) ∧ (x.kind ≠ 8 → x.key = 0) ∧ (¬ (x.kind = 7 ∨ x.kind = 8 ∨ x.kind = 9) → x.elem = 0) ∧ (¬ (x.kind = 5 ∨ x.kind = 6) → x.mems = []) ∧ (x.kind ≠ 4 → x.syms = []) := by
 have hr := form_rest h
 have hn : (x.kind = 4 ∨ x.kind = 5 ∨ x.kind = 6) → x.name ≠ [] := by
  intro hk he
  unfold formB at h
  simp only [Bool.and_eq_true] at h
  have ho := h.2.1
  unfold okT at ho
  have hz : nameB x.name = false := by rw [he]; decide
  rw [hz] at ho
  rcases hk with hk | hk | hk <;> simp [hk] at ho
 have hf := fun (f : Typ → List UInt8) => congrArg f hr
 have e1 := congrArg Typ.name hr
 have e2 := congrArg Typ.key hr
 have e3 := congrArg Typ.elem hr
 have e4 := congrArg Typ.mems hr
 have e5 := congrArg Typ.syms hr
 have hkd := form_kind h
 unfold restT at e1 e2 e3 e4 e5
 have hc : x.kind = 1 ∨ x.kind = 2 ∨ x.kind = 3 ∨ x.kind = 4 ∨ x.kind = 5 ∨ x.kind = 6 ∨ x.kind = 7 ∨ x.kind = 8 ∨ x.kind = 9 := by omega
 refine ⟨⟨fun h1 h2 => hn h2 h1, fun h1 => ?_⟩, fun h1 => ?_, fun h1 => ?_, fun h1 => ?_, fun h1 => ?_⟩
 all_goals rcases hc with hk | hk | hk | hk | hk | hk | hk | hk | hk <;> simp [hk, typZ] at h1 e1 e2 e3 e4 e5 ⊢ <;> assumption
theorem mems_ren {ts us : List Typ} {ix iy : Nat → Nat} : ∀ (ms ns : List Mem), ms.map memK = ns.map memK → (∀ (j a b : Nat), (ms.map fun m => m.ty.toNat)[j]? = some a → (ns.map fun m => m.ty.toNat)[j]? = some b → ix a = iy b) → ms.map (renM ix) = ns.map (renM iy)
 | [], [], _, _ => rfl
 | m :: ms, n :: ns, h, hx => by
  simp only [List.map_cons, List.cons.injEq] at h ⊢
  refine ⟨?_, mems_ren (ts := ts) (us := us) ms ns h.2 fun j a b h1 h2 => hx (j + 1) a b (by simpa using h1) (by simpa using h2)⟩
  have h0 := hx 0 m.ty.toNat n.ty.toNat rfl rfl
  obtain ⟨m1, m2, m3, m4, m5, m6⟩ := m
  obtain ⟨n1, n2, n3, n4, n5, n6⟩ := n
  simp only [memK, Prod.mk.injEq] at h
  obtain ⟨⟨rfl, rfl, rfl, rfl⟩, _⟩ := h
  simp only at h0
  simp only [renM, h0]
 | [], _ :: _, h, _ => by simp at h
 | _ :: _, [], h, _ => by simp at h
theorem ren_eq {n : Nat} {ix iy : Nat → Nat} {x y : Typ} (hx : formB x = true) (hy : formB y = true) (ha : Alike x y) (hj : ∀ (j a b : Nat), (outs x)[j]? = some a → (outs y)[j]? = some b → ix a = iy b) : renT n ix x = renT n iy y := by
 obtain ⟨x1, x2, x3, _, _⟩ := form_zero hx
 obtain ⟨y1, y2, y3, _, _⟩ := form_zero hy
 have hl : x.mems.length = y.mems.length := ha.len
 have hm : ∀ (j a b : Nat), (x.mems.map fun m => m.ty.toNat)[j]? = some a → (y.mems.map fun m => m.ty.toNat)[j]? = some b → ix a = iy b := fun j a b h1 h2 => by
  refine hj j a b ?_ ?_
  ·
   unfold outs usesC
   rw [List.map_append, List.getElem?_append_left (by have := (List.getElem?_eq_some_iff.1 h1).1; simpa using this), List.map_map]; exact h1
  unfold outs usesC
  rw [List.map_append, List.getElem?_append_left (by have := (List.getElem?_eq_some_iff.1 h2).1; simpa using this), List.map_map]; exact h2
 have hkey : x.kind = 8 → ix x.key.toNat = iy y.key.toNat := fun h8 => by
  have h8' : y.kind = 8 := ha.kind ▸ h8
  refine hj x.mems.length _ _ ?_ ?_
  ·
   unfold outs usesC
   rw [List.map_append, List.getElem?_append_right (by simp), if_pos h8]; simp
  unfold outs usesC
  rw [List.map_append, hl, List.getElem?_append_right (by simp), if_pos h8']; simp
 have hel : (x.kind = 7 ∨ x.kind = 8 ∨ x.kind = 9) → ix x.elem.toNat = iy y.elem.toNat := fun h7 => by
  have h7' : y.kind = 7 ∨ y.kind = 8 ∨ y.kind = 9 := ha.kind ▸ h7
  refine hj (x.mems.length + (if x.kind = 8 then 1 else 0)) _ _ ?_ ?_
  ·
   unfold outs usesC
   rw [List.map_append, List.getElem?_append_right (by simp), if_pos h7]
   by_cases h8 : x.kind = 8 <;> simp [h8]
  unfold outs usesC
  rw [List.map_append, hl, List.getElem?_append_right (by simp), if_pos h7', ha.kind]
  by_cases h8 : y.kind = 8 <;> simp [h8]
 refine typ_ext ha.kind ?_ ha.low ha.high ha.max ?_ (mems_ren (ts := []) (us := []) _ _ ha.mems hm) ?_ ?_ ha.opn
 ·
  show (if x.name = [] then [] else nmC 84 n) = (if y.name = [] then [] else nmC 84 n)
  have : x.name = [] ↔ y.name = [] := by rw [x1, y1, ha.kind]
  by_cases h : x.name = []
  ·
   rw [if_pos h, if_pos (this.1 h)]
  rw [if_neg h, if_neg (fun e => h (this.2 e))]
 ·
  show x.syms.map renS = y.syms.map renS
  have hs : ∀ l : List Raw, l.map renS = (l.map Prod.fst).map fun i => (i, nmC 115 i) := fun l => by rw [List.map_map]; rfl
  rw [hs, hs, ha.syms]
 ·
  show (if x.kind = 8 then ((ix x.key.toNat : Nat) : Int) else x.key) = (if y.kind = 8 then ((iy y.key.toNat : Nat) : Int) else y.key)
  by_cases h8 : x.kind = 8
  ·
   rw [if_pos h8, if_pos (ha.kind ▸ h8), hkey h8]
  rw [if_neg h8, if_neg (ha.kind ▸ h8), x2 h8, y2 (ha.kind ▸ h8)]
 show (if x.kind = 7 ∨ x.kind = 8 ∨ x.kind = 9 then ((ix x.elem.toNat : Nat) : Int) else x.elem) = (if y.kind = 7 ∨ y.kind = 8 ∨ y.kind = 9 then ((iy y.elem.toNat : Nat) : Int) else y.elem)
 by_cases h7 : x.kind = 7 ∨ x.kind = 8 ∨ x.kind = 9
 ·
  rw [if_pos h7, if_pos (ha.kind ▸ h7), hel h7]
 rw [if_neg h7, if_neg (ha.kind ▸ h7), x3 h7, y3 (ha.kind ▸ h7)]
theorem can_eq {ts us : List Typ} (hts : validE ts = 0) (hus : validE us = 0) {i k : Nat} (h : Bis ts us i k) : canT ts i = canT us k := by
 have it := inside_of hts
 have iu := inside_of hus
 have hc := cor_ord it iu h
 obtain ⟨hr1, _, hd1⟩ := ord_spec it h.lt.1
 obtain ⟨hr2, _, hd2⟩ := ord_spec iu h.lt.2
 refine List.ext_getElem? fun n => ?_
 cases hn : (ordN ts i)[n]? with
 | none =>
  rw [List.getElem?_eq_none (by rw [can_len]; exact List.getElem?_eq_none_iff.1 hn), List.getElem?_eq_none (by rw [can_len, ← hc.1]; exact List.getElem?_eq_none_iff.1 hn)]
 | some a =>
  have hl : n < (ordN us k).length := by rw [← hc.1]; exact (List.getElem?_eq_some_iff.1 hn).1
  have hm := List.getElem?_eq_getElem hl
  generalize (ordN us k)[n] = b at hm
  rw [can_get ts i n a hn, can_get us k n b hm]
  have hab := hc.2 n a b hn hm
  obtain ⟨x, y, hx, hy, ha, hj⟩ := bis_closed ts us a b hab
  have gx : ts.getD a typZ = x := by rw [List.getD_eq_getElem?_getD, hx]; rfl
  have gy : us.getD b typZ = y := by rw [List.getD_eq_getElem?_getD, hy]; rfl
  rw [gx, gy]
  congr 1
  refine ren_eq ((valid_all hts).2 x (List.mem_of_getElem? hx)).1 ((valid_all hus).2 y (List.mem_of_getElem? hy)).1 ha fun j u v hu hv => ?_
  have huv := hj j u v hu hv
  have hmu : clsN ts u ∈ ordN ts i := hd1 a (List.mem_of_getElem? hn) u (by unfold outsAt; rw [hx]; exact List.mem_of_getElem? hu)
  have hiu := idx_getC hmu
  have hl2 : (ordN ts i).idxOf (clsN ts u) < (ordN us k).length := by rw [← hc.1]; exact (List.getElem?_eq_some_iff.1 hiu).1
  have hiv := List.getElem?_eq_getElem hl2
  have h1 := hc.2 _ _ _ hiu hiv
  have h2 : Bis us us v (ordN us k)[(ordN ts i).idxOf (clsN ts u)] := (huv.symm.trans (cls_bis it huv.lt.1)).trans h1
  have h3 := cls_eq iu h2
  rw [(hr2.lt _ (List.getElem_mem hl2)).2] at h3
  rw [← h3] at hiv
  exact (idx_of hr2.nodup hiv).symm
end Go.Proofs.YtlamhkffnlgofaaGreatDoor

/- What schema.Valid computes. No condition. -/
import Derived.Test.YtccmmibkihbobaaDoorForm
import Derived.Test.YtccmmibkihbobaaDoorHAH
import Derived.Test.YtccmmibkihbobaaDoorAt
set_option maxHeartbeats 4000000
namespace Go.Proofs.YtccmmibkihbobaaDoor
open Go.ChangeShapes Go.WideShapes Go.ChangeAt Go.RowKit
def inB (n : Nat) (u : Int) : Bool := decide (0 ≤ u) && decide (u < n)
def keyOk (ts : List Typ) (x : Typ) : Bool := match typAt ts x.key with | some y => decide (1 ≤ y.kind) && decide (y.kind ≤ 4) | none => false
def validK (ts : List Typ) : List Typ → List (List UInt8) → Int
 | [], _ => 0
 | x :: r, S => if formB x = false ∨ (x.name ≠ [] ∧ S.contains x.name = true) then 1
  else if (usesL x).all (inB ts.length) = false then 4
  else if x.kind = 8 ∧ keyOk ts x = false then 1
  else validK ts r (S ++ [x.name])
def validE (ts : List Typ) : Int := if 32 < ts.length then 3 else validK ts ts []
def Sizes (ts : List Typ) : Prop := ∀ x ∈ ts, x.syms.length ≤ 6000000000000 ∧ x.mems.length ≤ 6000000000000
theorem SetAt.kept {w : World} {b n : Nat} {S : List (List UInt8)} (h : SetAt w b n S) : Kept (fun w => SetAt w b n S) w b (b + 1) :=
 ⟨h, fun _ hk => h.keep (hk b (Nat.le_refl _) (Nat.lt_succ_self _)), h.here⟩
theorem tnames_succ (l : List Typ) (k : Nat) (h : k < l.length) : (l.take k).map Typ.name ++ [l[k].name] = (l.take (k+1)).map Typ.name := (take_map Typ.name l k h).symm
theorem vk1 (ts r : List Typ) (x : Typ) (S : List (List UInt8)) (h : formB x = false ∨ (x.name ≠ [] ∧ S.contains x.name = true)) : validK ts (x :: r) S = 1 := by rw [validK, if_pos h]
theorem vk4 (ts r : List Typ) (x : Typ) (S : List (List UInt8)) (h : ¬ (formB x = false ∨ (x.name ≠ [] ∧ S.contains x.name = true))) (h2 : (usesL x).all (inB ts.length) = false) : validK ts (x :: r) S = 4 := by rw [validK, if_neg h, if_pos h2]
theorem vk1' (ts r : List Typ) (x : Typ) (S : List (List UInt8)) (h : ¬ (formB x = false ∨ (x.name ≠ [] ∧ S.contains x.name = true))) (h2 : (usesL x).all (inB ts.length) = true) (h3 : x.kind = 8 ∧ keyOk ts x = false) : validK ts (x :: r) S = 1 := by rw [validK, if_neg h, h2, if_neg (by simp), if_pos h3]
theorem vk0 (ts r : List Typ) (x : Typ) (S : List (List UInt8)) (h : ¬ (formB x = false ∨ (x.name ≠ [] ∧ S.contains x.name = true))) (h2 : (usesL x).all (inB ts.length) = true) (h3 : ¬ (x.kind = 8 ∧ keyOk ts x = false)) : validK ts (x :: r) S = validK ts r (S ++ [x.name]) := by rw [validK, if_neg h, h2, if_neg (by simp), if_neg h3]
theorem bad_use (l : List Int) (n : Nat) (u : Int) (h : u ∈ l) (hb : inB n u = false) : l.all (inB n) = false := by
 rw [List.all_eq_false]; exact ⟨u, h, by simp [hb]⟩
theorem uses_len (x : Typ) (h : x.mems.length ≤ 6000000000000) : (usesL x).length ≤ 6000000000002 := by
 unfold usesL; simp only [List.length_append, List.length_map]
 split <;> split <;> simp <;> omega
theorem key_in (x : Typ) (h8 : x.kind = 8) : x.key ∈ usesL x := by
 unfold usesL; rw [if_pos h8]; simp
theorem inB_nat {n : Nat} {u : Int} (h : inB n u = true) : ∃ k : Nat, u = k ∧ k < n := by
 unfold inB at h
 simp only [Bool.and_eq_true, decide_eq_true_eq] at h
 exact ⟨u.toNat, by omega, by omega⟩
theorem keyOk_at (ts : List Typ) (x : Typ) (kn : Nat) (hk : kn < ts.length) (h : x.key = kn) : keyOk ts x = (decide (1 ≤ ts[kn].kind) && decide (ts[kn].kind ≤ 4)) := by
 unfold keyOk typAt; rw [h]; simp [hk]
set_option maxRecDepth 100000 in
theorem valid_any (ts : List Typ) (A : Option Addr) (c : Nat) (w : World) (hs : Sizes ts) (ht : RdTyps w w.heap.size (.slice A ts.length c) ts) :
  Calls Tryd.prog 27 #[.agg #[.slice A ts.length c]] w fun e w' => e = .returned (.int .i64 (validE ts)) ∧ Below w.heap.size w w' := by
 have HT := Lib.hid ht
 have HS := Lib.hid hs
 by_cases h32 : 32 < ts.length
 ·
  have Hv : Hid (validE ts = 3) := by show _ = _; unfold validE; rw [if_pos h32]
  have hd : (32 : Int) < ts.length := by omega
  have hd2 : decide ((32 : Int) < ts.length) = true := decide_eq_true hd
  clear ht hs
  go_enter Tryd.func27, Tryd.ntmps27
  go_upto_region 1 with fail
  obtain ⟨wd2, hE3⟩ : ∃ ww, ww = w.alloc (.cells #[.slice A ts.length c] 36) := ⟨_, rfl⟩
  rw [← hE3]
  have hb1 := aB hE3
  have S := aN hE3
  clear hE3
  have hw4 := hb1
  clear hb1
  have cS_0 : wd2.cell? ⟨w.heap.size, 0, none⟩ = some (.slice A ts.length c) := S.out.cell 0
  go_wp2_with fail
  go_ret
  exact ⟨ret_int Hv.out.symm, hw4⟩
 have Hv : Hid (validE ts = validK ts ts []) := by show _ = _; unfold validE; rw [if_neg h32]
 have hd : (ts.length : Int) ≤ 32 := by omega
 have hd2 : decide ((32 : Int) < ts.length) = false := decide_eq_false (by omega)
 have hmm := @run_makeMap Tryd.prog
 clear hs
 by_cases hz : ts.length = 0
 ·
  have Hv0 : Hid (validE ts = 0) := by show _ = _; rw [Hv.out, List.eq_nil_of_length_eq_zero hz, validK]
  rw [hz]
  clear ht h32 hd hd2
  go_enter Tryd.func27, Tryd.ntmps27
  go_upto_region 1 with fail
  obtain ⟨wd6, hE7⟩ : ∃ ww, ww = w.alloc (.cells #[.slice A 0 c] 36) := ⟨_, rfl⟩
  rw [← hE7]
  have hb5 := aB hE7
  have S := aN hE7
  clear hE7
  have hw8 := hb5
  clear hb5
  have hS0 := S.out.alloc (.map #[] 0)
  have cS := hS0.cell 0
  simp only [gl3] at cS
  have cS_0 : wd6.cell? ⟨w.heap.size, 0, none⟩ = some (.slice A 0 c) := S.out.cell 0
  go_wp2_with fail
  refine wp_loop_rounds 1 ?_
  rw [rounds_succ]
  go_wp2_with fail
  go_ret
  exact ⟨ret_int Hv0.out.symm, below_al hw8 (Nat.le_refl _) _⟩
 obtain ⟨b, o, rfl, hbb, hel⟩ := ht.elem (by omega)
 have HEL := Lib.hid hel
 clear ht hel
 go_enter Tryd.func27, Tryd.ntmps27
 go_upto_region 1 with fail
 obtain ⟨wd10, hE11⟩ : ∃ ww, ww = w.alloc (.cells #[.slice (some ⟨b, o, none⟩) ts.length c] 36) := ⟨_, rfl⟩
 rw [← hE11]
 have hb9 := aB hE11
 have S := aN hE11
 clear hE11
 have hw12 := hb9
 clear hb9
 have hset0 := SetAt.made wd10
 have hS0 := S.out.alloc (.map #[] 0)
 have hlt0 := S.out.here
 have hb0 := below_al hw12 (Nat.le_refl _) (.map #[] 0)
 have cS := hS0.cell 0
 simp only [gl3] at cS
 have cS_0 : wd10.cell? ⟨w.heap.size, 0, none⟩ = some (.slice (some ⟨b, o, none⟩) ts.length c) := S.out.cell 0
 go_upto_region 4 with fail
 clear cS_0
 generalize wd10.alloc (.map #[] 0) = wm at *
 generalize wd10.heap.size = gm at *
 have HSet0 := Lib.hid hset0
 have HS0 := Lib.hid hS0
 clear hmm hset0 hS0 S
 go_wp2_with fail
 clear cS
 go_loopw [16] (fun i wr => ∃ k : Nat, k ≤ ts.length ∧ i = .int .i64 k ∧ SetAt wr gm k ((ts.take k).map Typ.name) ∧ Has wr w.heap.size 36 #[.slice (some ⟨b, o, none⟩) ts.length c] ∧ validK ts ts [] = validK ts (ts.drop k) ((ts.take k).map Typ.name) ∧ Below w.heap.size w wr) (fun i _ => ts.length - (intOf i).toNat)
 case atStart => exact ⟨0, by omega, rfl, HSet0.out, HS0.out, rfl, hb0⟩
 case round =>
  clear hb0 HSet0 HS0
  obtain ⟨k, hk, rfl, hset, S, hvk, hw⟩ := hrel
  by_cases hlt : k < ts.length
  ·
   obtain ⟨vs, vm, hcells, hxa⟩ := HEL.out k hlt
   have hsz := HS.out _ (List.getElem_mem hlt)
   have Hxn := Lib.hid (tnames_succ ts k hlt)
   rw [List.drop_eq_getElem_cons hlt] at hvk
   generalize ts[k] = x at *
   obtain ⟨C1, m1, C2, m2, rfl, rfl, -, -⟩ := hxa.forms
   obtain ⟨y0, y1, y2, y3, y4, y5, y6, y7, y8, y9⟩ := hcells
   have c0 := (hw.cell (p := ⟨b, _, none⟩) hbb).trans y0
   have c1 := (hw.cell (p := ⟨b, _, none⟩) hbb).trans y1
   have c2 := (hw.cell (p := ⟨b, _, none⟩) hbb).trans y2
   have c3 := (hw.cell (p := ⟨b, _, none⟩) hbb).trans y3
   have c4 := (hw.cell (p := ⟨b, _, none⟩) hbb).trans y4
   have c5 := (hw.cell (p := ⟨b, _, none⟩) hbb).trans y5
   have c6 := (hw.cell (p := ⟨b, _, none⟩) hbb).trans y6
   have c7 := (hw.cell (p := ⟨b, _, none⟩) hbb).trans y7
   have c8 := (hw.cell (p := ⟨b, _, none⟩) hbb).trans y8
   have c9 := (hw.cell (p := ⟨b, _, none⟩) hbb).trans y9
   clear y0 y1 y2 y3 y4 y5 y6 y7 y8 y9
   have HXA := Lib.hid hxa
   have Hvk := Lib.hid hvk
   have hi1 : (k : Int) < ts.length := by omega
   have hnl := hxa.namel
   clear hxa hvk
   replace S := Lib.hid S
   have M := Lib.hid (SetAt.kept hset)
   clear hset
   go_upto_region 7 with fail
   obtain ⟨wd14, hE15⟩ : ∃ ww, ww = wr.alloc (.cells #[.int .i64 x.kind, .string ⟨x.name.toArray⟩, .int .i64 x.low, .int .i64 x.high, .int .i64 x.max, .slice C1 x.syms.length m1, .slice C2 x.mems.length m2, .int .i64 x.key, .int .i64 x.elem, .bool x.opn] 33) := ⟨_, rfl⟩
   rw [← hE15]
   have hb13 := aB hE15
   have X := aN hE15
   clear hE15
   have hl17 := S.out.here
   have hl18 := M.out.le
   have hl19 := hw.size
   replace S := dB S hb13
   replace M := dK M hb13
   replace hw := dT hw hb13
   clear hb13
   generalize wr.heap.size = g16 at *
   clear c0 c1 c2 c3 c4 c5 c6 c7 c8 c9
   obtain ⟨cX_0, cX_1, cX_2, cX_3, cX_4, cX_5, cX_6, cX_7, cX_8, cX_9⟩ := X.out.c10
   go_wp2_with fail
   clear cX_0 cX_1 cX_2 cX_3 cX_4 cX_5 cX_6 cX_7 cX_8 cX_9
   ((with_reducible refine (form_any x _ _ _ hsz (HXA.out.on hw)).mono ?_); rintro e wd20 ⟨rfl, hb21⟩)
   replace S := dB S hb21
   replace X := dB X hb21
   replace M := dK M hb21
   replace hw := dT hw hb21
   clear hb21
   have hlook := M.out.now.look x.name (by unfold maxLen; omega)
   cases hf : formB x with
   | false =>
    have Hr : Hid (validE ts = 1) := by show _ = _; rw [Hv.out, Hvk.out, vk1 ts _ x _ (.inl hf)]
    clear hf hlook
    have cX_1 : wd20.cell? ⟨g16, 1, none⟩ = some (.string ⟨x.name.toArray⟩) := X.out.cell 1
    go_wp2_with fail
    go_ret
    exact ⟨ret_int Hr.out.symm, hw⟩
   | true =>
    by_cases hn : x.name = []
    ·
     have hie : x.name.isEmpty = true := by rw [hn]; rfl
     have HNB : Hid (¬ (formB x = false ∨ (x.name ≠ [] ∧ ((ts.take k).map Typ.name).contains x.name = true))) := fun h => by
      rcases h with h | h
      ·
       rw [hf] at h; cases h
      exact h.1 hn
     clear hf hlook hn
     have cX_1 : wd20.cell? ⟨g16, 1, none⟩ = some (.string ⟨x.name.toArray⟩) := X.out.cell 1
     go_upto_region 9 with fail
     have hgW := M.out.le
     go_upto_region 10 with (at_mapUpdate; refine wpList_put_set rfl _ _ _ rfl gm k _ rfl M.out.now (by unfold maxLen; omega) x.name rfl rfl (by unfold maxLen; omega) ?_; intro w3 hset3 hg3)
     have hbm := hgr_below hg3 (Nat.le_of_lt hgW) (fun j hj => by cases hj; exact Nat.le_refl _)
     have hkk : ∀ q, q < wd20.heap.size → some gm ≠ some q → w3.heap[q]? = wd20.heap[q]? := fun q hq hne => hg3.block q hq (fun e => hne e.symm)
     have hvv : ∀ q, some gm = some q → q = gm := fun q h => by injection h with h; exact h.symm
     clear M
     clear cX_1
     replace S := dG S hkk (fun hh => by have := hvv _ hh; omega)
     replace X := dG X hkk (fun hh => by have := hvv _ hh; omega)
     replace hw := hw.trans (hbm.mono (show w.heap.size ≤ gm by omega))
     have M := Lib.hid (SetAt.kept hset3)
     clear hset3 hg3 hkk hvv hbm hgW
     obtain ⟨cX_0, cX_1, cX_2, cX_3, cX_4, cX_5, cX_6, cX_7, cX_8, cX_9⟩ := X.out.c10
     go_wp2_with fail
     clear cX_0 cX_1 cX_2 cX_3 cX_4 cX_5 cX_6 cX_7 cX_8 cX_9
     ((with_reducible refine (uses_any x _ _ _ hsz.2 (HXA.out.on hw)).mono ?_); rintro e wd22 ⟨vu, rfl, hru, hb23⟩)
     replace S := dB S hb23
     replace X := dB X hb23
     replace M := dK M hb23
     replace hw := dT hw hb23
     clear hb23
     have hul := uses_len x hsz.2
     have HIN := Lib.hid (key_in x)
     obtain ⟨l, hlq⟩ : ∃ l, usesL x = l := ⟨_, rfl⟩
     rw [hlq] at hru hul HIN
     have Hlq := Lib.hid hlq
     obtain ⟨Au, cu, rfl, _⟩ := hru.form
     clear hlq
     have U := Lib.hid (Kept.rd (P := fun w B => Rd w B 1 (.slice Au l.length cu) l.length (l.map (Value.int .i64))) hru (Nat.le_refl _) (fun _ hk => hru.keep hk))
     clear hru
     have cS_0 : wd22.cell? ⟨w.heap.size, 0, none⟩ = some (.slice (some ⟨b, o, none⟩) ts.length c) := S.out.cell 0
     have cX_0 : wd22.cell? ⟨g16, 0, none⟩ = some (.int .i64 x.kind) := X.out.cell 0
     have cX_7 : wd22.cell? ⟨g16, 7, none⟩ = some (.int .i64 x.key) := X.out.cell 7
     go_wp2_with fail
     go_loop [40] (fun j => ∃ q : Nat, q ≤ l.length ∧ j = .int .i64 q ∧ (l.take q).all (inB ts.length) = true) (fun j => l.length - (intOf j).toNat)
     case atStart => exact ⟨0, by omega, rfl, rfl⟩
     case round =>
      obtain ⟨q, hq, rfl, hall⟩ := hrel
      by_cases hql : q < l.length
      ·
       obtain ⟨bu, ou, rfl, hbu, hcu⟩ := U.out.now.at_ (by omega)
       have cu0 := ints_at hcu q hql
       have hmem := List.getElem_mem hql
       have htk : (l.take (q + 1)).all (inB ts.length) = ((l.take q).all (inB ts.length) && inB ts.length l[q]) := by rw [List.take_succ_eq_append_getElem hql, List.all_append]; simp
       have hq1 : (q : Int) < l.length := by omega
       generalize l[q] = u at *
       clear hcu
       cases hin : inB ts.length u with
       | true =>
        obtain ⟨un, rfl, hun⟩ := inB_nat hin
        have Hall : Hid ((l.take (q + 1)).all (inB ts.length) = true) := by show _ = _; rw [htk, hall, hin]; rfl
        have hu0 : decide ((un : Int) < 0) = false := decide_eq_false (by omega)
        have hu1 : decide (ts.length ≤ un) = false := decide_eq_false (by omega)
        clear hall htk hin hmem
        go_wp2_with fail
        go_round
        case rel => exact ⟨q + 1, by omega, by go_num, Hall.out⟩
        case measure => simp [intOf]; omega
       | false =>
        have Hr : Hid (validE ts = 4) := by show _ = _; rw [Hv.out, Hvk.out, vk4 ts _ x _ HNB.out (by rw [Hlq.out]; exact bad_use l _ u hmem hin)]
        by_cases hu0 : u < 0
        ·
         have hu1 : decide (u < 0) = true := decide_eq_true hu0
         clear hall htk hin hmem
         go_wp2_with fail
         go_ret
         exact ⟨ret_int Hr.out.symm, hw⟩
        obtain ⟨un, rfl⟩ : ∃ un : Nat, u = un := ⟨u.toNat, by omega⟩
        have hu2 : ts.length ≤ un := by
         rcases Nat.lt_or_ge un ts.length with h | h
         ·
          exfalso; unfold inB at hin; simp at hin; omega
         exact h
        have hu1 : decide ((un : Int) < 0) = false := decide_eq_false (by omega)
        have hu3 : decide (ts.length ≤ un) = true := decide_eq_true hu2
        clear hall htk hin hmem hu0
        go_wp2_with fail
        go_ret
        exact ⟨ret_int Hr.out.symm, hw⟩
      obtain rfl : q = l.length := by omega
      rw [List.take_of_length_le (Nat.le_refl _)] at hall
      have HALL : Hid ((usesL x).all (inB ts.length) = true) := by show _ = _; rw [Hlq.out]; exact hall
      by_cases h8 : x.kind = 8
      ·
       have t8 : (x.kind == 8) = true := by simp [h8]
       obtain ⟨kn, hkn, hkl⟩ := inB_nat (List.all_eq_true.1 hall x.key (HIN.out h8))
       have hko := keyOk_at ts x kn hkl hkn
       obtain ⟨ys, ym, hyc, -⟩ := HEL.out kn hkl
       have d0 := ((hw).cell (p := ⟨b, _, none⟩) hbb).trans hyc.1
       have hkn0 : (kn : Int) < ts.length := by omega
       have H8 := Lib.hid h8
       have cX7 := X.out.cell 7
       simp only [gl3] at cX7
       rw [hkn] at cX_7 cX7
       generalize ts[kn].kind = yk at *
       clear hall h8 hyc hkn
       by_cases hy1 : yk < 1
       ·
        have ty : decide (yk < 1) = true := decide_eq_true hy1
        have Hr : Hid (validE ts = 1) := by show _ = _; rw [Hv.out, Hvk.out, vk1' ts _ x _ HNB.out HALL.out ⟨H8.out, by rw [hko, decide_eq_false (by omega)]; rfl⟩]
        clear hko
        go_wp2_with fail
        go_ret
        exact ⟨ret_int Hr.out.symm, hw⟩
       have ty : decide (yk < 1) = false := decide_eq_false hy1
       by_cases hy4 : 4 < yk
       ·
        have ty4 : decide (4 < yk) = true := decide_eq_true hy4
        have Hr : Hid (validE ts = 1) := by show _ = _; rw [Hv.out, Hvk.out, vk1' ts _ x _ HNB.out HALL.out ⟨H8.out, by rw [hko, decide_eq_false (show ¬ yk ≤ 4 by omega)]; simp⟩]
        clear hko
        go_wp2_with fail
        go_ret
        exact ⟨ret_int Hr.out.symm, hw⟩
       have ty4 : decide (4 < yk) = false := decide_eq_false hy4
       have HK8 : Hid (¬ (x.kind = 8 ∧ keyOk ts x = false)) := fun h => by
        have h2 := h.2
        rw [hko, decide_eq_true (show 1 ≤ yk by omega), decide_eq_true (show yk ≤ 4 by omega)] at h2
        cases h2
       clear hko
       go_wp2_with fail
       clear cS_0 cX_0 cX_7
       go_wp2_with fail
       go_roundw
       case rel => exact ⟨k + 1, by omega, by go_num, by have h := M.out.now; rw [Hxn.out] at h; exact h, S.out, by rw [Hvk.out, vk0 ts _ x _ HNB.out HALL.out HK8.out, Hxn.out], hw⟩
       case measure => simp [intOf]; omega
      have t8 : (x.kind == 8) = false := by simpa using h8
      have HK8 : Hid (¬ (x.kind = 8 ∧ keyOk ts x = false)) := fun h => h8 h.1
      clear hall h8
      go_wp2_with fail
      clear cS_0 cX_0 cX_7
      go_wp2_with fail
      go_roundw
      case rel => exact ⟨k + 1, by omega, by go_num, by have h := M.out.now; rw [Hxn.out] at h; exact h, S.out, by rw [Hvk.out, vk0 ts _ x _ HNB.out HALL.out HK8.out, Hxn.out], hw⟩
      case measure => simp [intOf]; omega
    have hie : x.name.isEmpty = false := by cases hq : x.name with | nil => exact absurd hq hn | cons _ _ => rfl
    cases hc : ((ts.take k).map Typ.name).contains x.name with
    | true =>
     have Hr : Hid (validE ts = 1) := by show _ = _; rw [Hv.out, Hvk.out, vk1 ts _ x _ (.inr ⟨hn, hc⟩)]
     rw [hc] at hlook
     clear hf hc
     have cX_1 : wd20.cell? ⟨g16, 1, none⟩ = some (.string ⟨x.name.toArray⟩) := X.out.cell 1
     go_wp2_with fail
     go_ret
     exact ⟨ret_int Hr.out.symm, hw⟩
    | false =>
     have HNB : Hid (¬ (formB x = false ∨ (x.name ≠ [] ∧ ((ts.take k).map Typ.name).contains x.name = true))) := fun h => by
      rcases h with h | h
      ·
       rw [hf] at h; cases h
      rw [hc] at h; cases h.2
     rw [hc] at hlook
     clear hf hc
     have cX_1 : wd20.cell? ⟨g16, 1, none⟩ = some (.string ⟨x.name.toArray⟩) := X.out.cell 1
     go_upto_region 9 with fail
     clear hlook
     have hgW := M.out.le
     go_upto_region 10 with (at_mapUpdate; refine wpList_put_set rfl _ _ _ rfl gm k _ rfl M.out.now (by unfold maxLen; omega) x.name rfl rfl (by unfold maxLen; omega) ?_; intro w3 hset3 hg3)
     have hbm := hgr_below hg3 (Nat.le_of_lt hgW) (fun j hj => by cases hj; exact Nat.le_refl _)
     have hkk : ∀ q, q < wd20.heap.size → some gm ≠ some q → w3.heap[q]? = wd20.heap[q]? := fun q hq hne => hg3.block q hq (fun e => hne e.symm)
     have hvv : ∀ q, some gm = some q → q = gm := fun q h => by injection h with h; exact h.symm
     clear M
     clear cX_1
     replace S := dG S hkk (fun hh => by have := hvv _ hh; omega)
     replace X := dG X hkk (fun hh => by have := hvv _ hh; omega)
     replace hw := hw.trans (hbm.mono (show w.heap.size ≤ gm by omega))
     have M := Lib.hid (SetAt.kept hset3)
     clear hset3 hg3 hkk hvv hbm hgW
     obtain ⟨cX_0, cX_1, cX_2, cX_3, cX_4, cX_5, cX_6, cX_7, cX_8, cX_9⟩ := X.out.c10
     go_wp2_with fail
     clear cX_0 cX_1 cX_2 cX_3 cX_4 cX_5 cX_6 cX_7 cX_8 cX_9
     ((with_reducible refine (uses_any x _ _ _ hsz.2 (HXA.out.on hw)).mono ?_); rintro e wd24 ⟨vu, rfl, hru, hb25⟩)
     replace S := dB S hb25
     replace X := dB X hb25
     replace M := dK M hb25
     replace hw := dT hw hb25
     clear hb25
     have hul := uses_len x hsz.2
     have HIN := Lib.hid (key_in x)
     obtain ⟨l, hlq⟩ : ∃ l, usesL x = l := ⟨_, rfl⟩
     rw [hlq] at hru hul HIN
     have Hlq := Lib.hid hlq
     obtain ⟨Au, cu, rfl, _⟩ := hru.form
     clear hlq
     have U := Lib.hid (Kept.rd (P := fun w B => Rd w B 1 (.slice Au l.length cu) l.length (l.map (Value.int .i64))) hru (Nat.le_refl _) (fun _ hk => hru.keep hk))
     clear hru
     have cS_0 : wd24.cell? ⟨w.heap.size, 0, none⟩ = some (.slice (some ⟨b, o, none⟩) ts.length c) := S.out.cell 0
     have cX_0 : wd24.cell? ⟨g16, 0, none⟩ = some (.int .i64 x.kind) := X.out.cell 0
     have cX_7 : wd24.cell? ⟨g16, 7, none⟩ = some (.int .i64 x.key) := X.out.cell 7
     go_wp2_with fail
     go_loop [40] (fun j => ∃ q : Nat, q ≤ l.length ∧ j = .int .i64 q ∧ (l.take q).all (inB ts.length) = true) (fun j => l.length - (intOf j).toNat)
     case atStart => exact ⟨0, by omega, rfl, rfl⟩
     case round =>
      obtain ⟨q, hq, rfl, hall⟩ := hrel
      by_cases hql : q < l.length
      ·
       obtain ⟨bu, ou, rfl, hbu, hcu⟩ := U.out.now.at_ (by omega)
       have cu0 := ints_at hcu q hql
       have hmem := List.getElem_mem hql
       have htk : (l.take (q + 1)).all (inB ts.length) = ((l.take q).all (inB ts.length) && inB ts.length l[q]) := by rw [List.take_succ_eq_append_getElem hql, List.all_append]; simp
       have hq1 : (q : Int) < l.length := by omega
       generalize l[q] = u at *
       clear hcu
       cases hin : inB ts.length u with
       | true =>
        obtain ⟨un, rfl, hun⟩ := inB_nat hin
        have Hall : Hid ((l.take (q + 1)).all (inB ts.length) = true) := by show _ = _; rw [htk, hall, hin]; rfl
        have hu0 : decide ((un : Int) < 0) = false := decide_eq_false (by omega)
        have hu1 : decide (ts.length ≤ un) = false := decide_eq_false (by omega)
        clear hall htk hin hmem
        go_wp2_with fail
        go_round
        case rel => exact ⟨q + 1, by omega, by go_num, Hall.out⟩
        case measure => simp [intOf]; omega
       | false =>
        have Hr : Hid (validE ts = 4) := by show _ = _; rw [Hv.out, Hvk.out, vk4 ts _ x _ HNB.out (by rw [Hlq.out]; exact bad_use l _ u hmem hin)]
        by_cases hu0 : u < 0
        ·
         have hu1 : decide (u < 0) = true := decide_eq_true hu0
         clear hall htk hin hmem
         go_wp2_with fail
         go_ret
         exact ⟨ret_int Hr.out.symm, hw⟩
        obtain ⟨un, rfl⟩ : ∃ un : Nat, u = un := ⟨u.toNat, by omega⟩
        have hu2 : ts.length ≤ un := by
         rcases Nat.lt_or_ge un ts.length with h | h
         ·
          exfalso; unfold inB at hin; simp at hin; omega
         exact h
        have hu1 : decide ((un : Int) < 0) = false := decide_eq_false (by omega)
        have hu3 : decide (ts.length ≤ un) = true := decide_eq_true hu2
        clear hall htk hin hmem hu0
        go_wp2_with fail
        go_ret
        exact ⟨ret_int Hr.out.symm, hw⟩
      obtain rfl : q = l.length := by omega
      rw [List.take_of_length_le (Nat.le_refl _)] at hall
      have HALL : Hid ((usesL x).all (inB ts.length) = true) := by show _ = _; rw [Hlq.out]; exact hall
      by_cases h8 : x.kind = 8
      ·
       have t8 : (x.kind == 8) = true := by simp [h8]
       obtain ⟨kn, hkn, hkl⟩ := inB_nat (List.all_eq_true.1 hall x.key (HIN.out h8))
       have hko := keyOk_at ts x kn hkl hkn
       obtain ⟨ys, ym, hyc, -⟩ := HEL.out kn hkl
       have d0 := ((hw).cell (p := ⟨b, _, none⟩) hbb).trans hyc.1
       have hkn0 : (kn : Int) < ts.length := by omega
       have H8 := Lib.hid h8
       have cX7 := X.out.cell 7
       simp only [gl3] at cX7
       rw [hkn] at cX_7 cX7
       generalize ts[kn].kind = yk at *
       clear hall h8 hyc hkn
       by_cases hy1 : yk < 1
       ·
        have ty : decide (yk < 1) = true := decide_eq_true hy1
        have Hr : Hid (validE ts = 1) := by show _ = _; rw [Hv.out, Hvk.out, vk1' ts _ x _ HNB.out HALL.out ⟨H8.out, by rw [hko, decide_eq_false (by omega)]; rfl⟩]
        clear hko
        go_wp2_with fail
        go_ret
        exact ⟨ret_int Hr.out.symm, hw⟩
       have ty : decide (yk < 1) = false := decide_eq_false hy1
       by_cases hy4 : 4 < yk
       ·
        have ty4 : decide (4 < yk) = true := decide_eq_true hy4
        have Hr : Hid (validE ts = 1) := by show _ = _; rw [Hv.out, Hvk.out, vk1' ts _ x _ HNB.out HALL.out ⟨H8.out, by rw [hko, decide_eq_false (show ¬ yk ≤ 4 by omega)]; simp⟩]
        clear hko
        go_wp2_with fail
        go_ret
        exact ⟨ret_int Hr.out.symm, hw⟩
       have ty4 : decide (4 < yk) = false := decide_eq_false hy4
       have HK8 : Hid (¬ (x.kind = 8 ∧ keyOk ts x = false)) := fun h => by
        have h2 := h.2
        rw [hko, decide_eq_true (show 1 ≤ yk by omega), decide_eq_true (show yk ≤ 4 by omega)] at h2
        cases h2
       clear hko
       go_wp2_with fail
       clear cS_0 cX_0 cX_7
       go_wp2_with fail
       go_roundw
       case rel => exact ⟨k + 1, by omega, by go_num, by have h := M.out.now; rw [Hxn.out] at h; exact h, S.out, by rw [Hvk.out, vk0 ts _ x _ HNB.out HALL.out HK8.out, Hxn.out], hw⟩
       case measure => simp [intOf]; omega
      have t8 : (x.kind == 8) = false := by simpa using h8
      have HK8 : Hid (¬ (x.kind = 8 ∧ keyOk ts x = false)) := fun h => h8 h.1
      clear hall h8
      go_wp2_with fail
      clear cS_0 cX_0 cX_7
      go_wp2_with fail
      go_roundw
      case rel => exact ⟨k + 1, by omega, by go_num, by have h := M.out.now; rw [Hxn.out] at h; exact h, S.out, by rw [Hvk.out, vk0 ts _ x _ HNB.out HALL.out HK8.out, Hxn.out], hw⟩
      case measure => simp [intOf]; omega
  obtain rfl : k = ts.length := by omega
  have Hr : Hid (validE ts = 0) := by show _ = _; rw [Hv.out, hvk, List.drop_eq_nil_of_le (Nat.le_refl _), validK]
  clear hvk
  go_wp2_with fail
  go_ret
  exact ⟨ret_int Hr.out.symm, hw⟩
end Go.Proofs.YtccmmibkihbobaaDoor

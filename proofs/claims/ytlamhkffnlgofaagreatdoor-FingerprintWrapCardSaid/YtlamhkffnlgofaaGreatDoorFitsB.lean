/- What fits of the program computes for unions and maps. No condition. -/
import Derived.Test.YtlamhkffnlgofaaGreatDoorFits
set_option maxHeartbeats 1600000
namespace Go.Proofs.YtlamhkffnlgofaaGreatDoor
open Go.ChangeShapes Go.WideShapes Go.ChangeAt Go.RowKit
theorem fitH_eq (ts : List Typ) (pl : Bool) (l : List Val) (t : Int) (h : 0 < l.length) : fitH ts pl l t = fitV ts pl l[0] t := by
 cases l with
 | nil => simp at h
 | cons a r => rw [fitH]; rfl
set_option maxRecDepth 100000 in
theorem fits6_any
 (ts : List Typ) (A : Option Addr) (c n : Nat) (v : Val) (pl : Bool) (A1 A2 A3 : Option Addr) (n1 n2 n3 : Nat) (w : World) (hn : n < ts.length) (hkx : ts[n].kind = 6) (hkv : v.kind = 6) (hp : properB v = true)
 (ht : RdTyps w w.heap.size (.slice A ts.length c) ts) (hv : ValAt w w.heap.size v (.slice A1 v.keys.length n1) (.slice A2 v.items.length n2) (.slice A3 v.rest.length n3))
 (hf : ∀ t, FitsOn 107 ts (.slice A ts.length c) t pl (fun y => fitV ts pl y t) (v.keys ++ v.items)) :
 Calls Tryz.prog 107 #[.agg #[.slice A ts.length c], .int .i64 n, valA v (.slice A1 v.keys.length n1) (.slice A2 v.items.length n2) (.slice A3 v.rest.length n3), .bool pl] w fun e w' => e = .returned (.bool (bodyV ts pl ts[n] v)) ∧ Below w.heap.size w w' := by
 have h3b := al3 w
 obtain ⟨b, o, rfl, hbb, hel⟩ := ht.elem (by omega)
 obtain ⟨vs, vm, hcells, hx⟩ := hel n hn
 clear hel
 generalize ts[n] = x at *
 obtain ⟨C1, l1, C2, l2, rfl, rfl, -, -⟩ := hx.forms
 obtain ⟨c0, c1, c2, c3, c4, c5, c6, c7, c8, c9⟩ := hcells
 have hlt : (n : Int) < ts.length := by omega
 have hd0 : decide ((n : Int) < 0) = false := by simp
 have hd1 : decide (ts.length ≤ n) = false := by simpa using hn
 simp only [valA, hkv]
 rw [hkx] at c0
 have HP := Lib.hid (fun W => proper6_any v A1 A2 A3 n1 n2 n3 W hkv)
 simp only [valA, hkv, hp] at HP
 have HF := Lib.hid hf
 have HT := Lib.hid ht
 have HV := Lib.hid hv
 have HX := Lib.hid hx
 have Hkx := Lib.hid hkx
 have Hkv := Lib.hid hkv
 have hxs := hx.lens
 have hvl := hv.lens
 clear hf ht hv hx hkx hkv hp hn
 go_enter Tryz.func107, Tryz.ntmps107
 go_wp2_with fail
 refine (HP.out _).mono ?_
 rintro e w2 ⟨rfl, hb2⟩
 have HS := (((Has.made _ _ _).alloc _).alloc _).below hb2 (by simp; omega)
 have HW := ((Has.made _ _ _).alloc _).below hb2 (by simp)
 have HY := (Has.made _ _ _).below hb2 (by simp)
 rw [alloc_hs] at HW
 rw [alloc_hs, alloc_hs] at HY
 have h02 := (h3b _ _ _).trans (hb2.mono (h3b _ _ _).size)
 have hz2 := HY.here
 have HT := Lib.hid (HT.out.on h02)
 have HV := Lib.hid (HV.out.on h02)
 have HX := Lib.hid (HX.out.keep (fun _ hp => h02.cell hp) h02.size)
 obtain ⟨v0, v1, v2, v3, v4, v5, v6, v7⟩ := HW.c8
 obtain ⟨t0, t1, t2, t3, t4, t5, t6, t7, t8, t9⟩ := HY.c10
 have s0 := HS.cell 0
 simp only [gl3] at s0
 clear hb2 h3b c0 c1 c2 c3 c4 c5 c6 c7 c8 c9
 have HS := Lib.hid HS
 have HW := Lib.hid HW
 have HY := Lib.hid HY
 have HM := Lib.hid (fun W h => member_any x (.slice C1 x.syms.length l1) (.slice C2 x.mems.length l2) v.id W h)
 simp only [typA, Hkx.out, pairV] at HM
 cases hsy : memIdx x v.id with
 | some i =>
  have hil := memIdx_lt x v.id i hsy
  simp only [hsy, Option.isSome_some] at HM
  have Hsy := Lib.hid hsy
  clear hsy
  go_wp2_with fail
  refine (HM.out _ HX.out).mono ?_
  rintro e w3 ⟨rfl, hb3⟩
  have h03 := h02.trans (hb3.mono h02.size)
  have HV := Lib.hid (HV.out.on hb3)
  have HT := Lib.hid (HT.out.on hb3)
  have HX := Lib.hid (HX.out.on hb3)
  have HS := HS.out.below hb3 (by omega)
  have HW := HW.out.below hb3 (by omega)
  have HY := HY.out.below hb3 (by omega)
  have hz3 := HY.here
  clear s0 v0 v1 v2 v3 v4 v5 v6 v7 t0 t1 t2 t3 t4 t5 t6 t7 t8 t9
  have s0 := HS.cell 0
  have v4 := HW.cell 4
  have v5 := HW.cell 5
  have v6 := HW.cell 6
  have v7 := HW.cell 7
  have t6 := HY.cell 6
  have t8 := HY.cell 8
  have t9 := HY.cell 9
  simp only [gl3] at s0 v4 v5 v6 v7 t6 t8 t9
  have HS := Lib.hid HS
  have HW := Lib.hid HW
  have HY := Lib.hid HY
  clear hb3 h02
  by_cases e1 : v.items.length = 1
  ·
   have d1 : ((v.items.length : Int) == 1) = true := by simp [e1]
   by_cases e2 : v.rest.length = 0
   ·
    have d2 : ((v.rest.length : Int) == 0) = true := by simp [e2]
    obtain ⟨bm, om, rfl, hbm, hem⟩ := HX.out.mems.elem (by omega)
    obtain ⟨mk, mi, mr, hmc, -⟩ := hem i hil
    have m2 := hmc.2.2.1
    obtain ⟨bv, ov, rfl, hbv, hev⟩ := HV.out.items.elem (by omega)
    obtain ⟨yk, yi, yr, hcy, hya⟩ := hev 0 (by omega)
    have hmem : v.items[0] ∈ v.items := List.getElem_mem _
    have Hr : Hid (bodyV ts pl x v = fitV ts pl v.items[0] x.mems[i].ty) := by
     show _ = _
     simp [bodyR, Hkx.out, Hsy.out, e1, e2, hil, fitH_eq]
    clear hem hev hmc
    generalize x.mems[i].ty = ty at *
    generalize v.items[0] = y at *
    obtain ⟨B1, k1, B2, k2, B3, k3, rfl, rfl, rfl, -, -, -⟩ := hya.forms
    obtain ⟨y0, y1, y2, y3, y4, y5, y6, y7⟩ := hcy
    simp only [Nat.zero_mul, Nat.add_zero] at y0 y1 y2 y3 y4 y5 y6 y7
    have HYA := Lib.hid hya
    have Hmem := Lib.hid hmem
    have hi1 : (i : Int) < x.mems.length := by omega
    have hi2 : (0 : Int) < v.items.length := by omega
    have hi3 : 0 < v.items.length := by omega
    clear hya hmem e1 e2
    go_wp2_with fail
    go_still_tail 23, (by kernel_rfl)
    change wpList _ _ _ _ _ w3.drew
    have HD := Lib.hid (HYA.out.on (w' := w3.drew) (Below.refl _ _).drew)
    have HTD := Lib.hid (HT.out.on (w' := w3.drew) (Below.refl _ _).drew)
    have h0d := h03.drew
    clear h03 HT HV HX HS HW HY HYA s0 v4 v5 v6 v7 t6 t8 t9 m2 y0 y1 y2 y3 y4 y5 y6 y7
    generalize w3.drew = w4 at *
    go_wp2_with fail
    refine (HF.out ty y _ _ _ _ (by simp [Hmem.out]) HD.out HTD.out).mono ?_
    rintro e w5 ⟨rfl, hb5⟩
    go_wp2_with fail
    go_ret
    exact ⟨ret_bool Hr.out.symm, h0d.trans (hb5.mono h0d.size)⟩
   have d2 : ((v.rest.length : Int) == 0) = false := beq_eq_false_iff_ne.2 (by omega)
   have Hr : Hid (bodyV ts pl x v = false) := by
    show _ = _
    simp [bodyR, Hkx.out, Hsy.out, e1, e2]
   clear e1 e2
   go_wp2_with fail
   go_quiet (fail)
   go_wp2_with fail
   go_ret
   exact ⟨ret_bool Hr.out.symm, below_drewN h03 _⟩
  have d1 : ((v.items.length : Int) == 1) = false := beq_eq_false_iff_ne.2 (by omega)
  have Hr : Hid (bodyV ts pl x v = false) := by
   show _ = _
   simp [bodyR, Hkx.out, Hsy.out, e1]
  clear e1
  go_wp2_with fail
  go_quiet (fail)
  go_wp2_with fail
  go_ret
  exact ⟨ret_bool Hr.out.symm, below_drewN h03 _⟩
 | none =>
  simp only [hsy, Option.isSome_none] at HM
  have Hsy := Lib.hid hsy
  clear hsy
  go_wp2_with fail
  refine (HM.out _ HX.out).mono ?_
  rintro e w3 ⟨rfl, hb3⟩
  have h03 := h02.trans (hb3.mono h02.size)
  have HV := Lib.hid (HV.out.on hb3)
  have HT := Lib.hid (HT.out.on hb3)
  have HX := Lib.hid (HX.out.on hb3)
  have HS := HS.out.below hb3 (by omega)
  have HW := HW.out.below hb3 (by omega)
  have HY := HY.out.below hb3 (by omega)
  have hz3 := HY.here
  clear s0 v0 v1 v2 v3 v4 v5 v6 v7 t0 t1 t2 t3 t4 t5 t6 t7 t8 t9
  have s0 := HS.cell 0
  have v4 := HW.cell 4
  have v5 := HW.cell 5
  have v6 := HW.cell 6
  have v7 := HW.cell 7
  have t6 := HY.cell 6
  have t8 := HY.cell 8
  have t9 := HY.cell 9
  simp only [gl3] at s0 v4 v5 v6 v7 t6 t8 t9
  have HS := Lib.hid HS
  have HW := Lib.hid HW
  have HY := Lib.hid HY
  clear hb3 h02
  have HFq := fun (n : Nat) => Calls.quiet_of_same (n := n) ((free_any v.id (w3.drewN n)).mono fun _ _ ⟨h1, h2⟩ => ⟨h1, h2.symm⟩)
  have Hb : Hid (bodyV ts pl x v = (x.opn && (!pl && (freeB v.id && (decide (v.items.length = 0) && (decide (v.rest.length = 1) && oneRaw v.rest v.id)))))) := by
   show _ = _
   simp [bodyR, Hkx.out, Hsy.out]
  cases hop : x.opn
  all_goals
   rw [hop] at t9 Hb
   clear hop
  ·
   have Hr : Hid (bodyV ts pl x v = false) := by show _ = _; rw [Hb.out]; simp
   go_wp2_with fail
   go_quiet (fail)
   go_wp2_with fail
   go_ret
   exact ⟨ret_bool Hr.out.symm, below_drewN h03 _⟩
  cases pl
  ·
   cases hfr : freeB v.id
   all_goals
    rw [hfr] at HFq Hb
    have HFq := Lib.hid HFq
    clear hfr
   ·
    have Hr : Hid (bodyV ts false x v = false) := by show _ = _; rw [Hb.out]; simp
    go_wp2_with fail
    go_quiet ((go_at_call 131; exact HFq.out _))
    go_wp2_with fail
    go_ret
    exact ⟨ret_bool Hr.out.symm, below_drewN h03 _⟩
   by_cases e1 : v.items.length = 0
   ·
    have d1 : ((v.items.length : Int) == 0) = true := by simp [e1]
    by_cases e2 : v.rest.length = 1
    ·
     have d2 : ((v.rest.length : Int) == 1) = true := by simp [e2]
     obtain ⟨br, or, rfl, hbr, her⟩ := HV.out.rest.at_ (by omega)
     obtain ⟨hr0, -⟩ := rawV_at her 0 (by omega)
     have Hb2 : Hid (bodyV ts false x v = decide (v.rest[0].1 = v.id)) := by
      show _ = _
      rw [Hb.out, oneRaw_eq _ _ (by omega)]
      simp [e1, e2]
     clear her
     generalize v.rest[0].1 = q at *
     simp only [Nat.zero_mul, Nat.add_zero] at hr0
     have hi2 : (0 : Int) < v.rest.length := by omega
     have hi3 : 0 < v.rest.length := by omega
     clear e1 e2
     by_cases e3 : q = v.id
     all_goals
      have d3 : (q == v.id) = decide (q = v.id) := by rw [Bool.eq_iff_iff]; simp
      rw [← d3] at Hb2
     ·
      rw [decide_eq_true e3] at d3
      rw [d3] at Hb2
      clear e3
      go_wp2_with fail
      go_quiet ((go_at_call 131; exact HFq.out _))
      go_wp2_with fail
      go_ret
      exact ⟨ret_bool Hb2.out.symm, below_drewN h03 _⟩
     rw [decide_eq_false e3] at d3
     rw [d3] at Hb2
     clear e3
     go_wp2_with fail
     go_quiet ((go_at_call 131; exact HFq.out _))
     go_wp2_with fail
     go_ret
     exact ⟨ret_bool Hb2.out.symm, below_drewN h03 _⟩
    have d2 : ((v.rest.length : Int) == 1) = false := beq_eq_false_iff_ne.2 (by omega)
    have Hr : Hid (bodyV ts false x v = false) := by show _ = _; rw [Hb.out]; simp [e1, e2]
    clear e1 e2
    go_wp2_with fail
    go_quiet ((go_at_call 131; exact HFq.out _))
    go_wp2_with fail
    go_ret
    exact ⟨ret_bool Hr.out.symm, below_drewN h03 _⟩
   have d1 : ((v.items.length : Int) == 0) = false := beq_eq_false_iff_ne.2 (by omega)
   have Hr : Hid (bodyV ts false x v = false) := by show _ = _; rw [Hb.out]; simp [e1]
   clear e1
   go_wp2_with fail
   go_quiet ((go_at_call 131; exact HFq.out _))
   go_wp2_with fail
   go_ret
   exact ⟨ret_bool Hr.out.symm, below_drewN h03 _⟩
  have Hr : Hid (bodyV ts true x v = false) := by show _ = _; rw [Hb.out]; simp
  go_wp2_with fail
  go_quiet (fail)
  go_wp2_with fail
  go_ret
  exact ⟨ret_bool Hr.out.symm, below_drewN h03 _⟩
end Go.Proofs.YtlamhkffnlgofaaGreatDoor

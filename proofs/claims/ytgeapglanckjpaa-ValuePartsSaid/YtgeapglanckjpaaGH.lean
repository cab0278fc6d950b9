/- What fit of the reference computes, kind by kind. What fit of the reference computes for records. No condition. -/
import Derived.Test.YtgeapglanckjpaaZero
import Derived.Test.YtgeapglanckjpaaGG
set_option maxHeartbeats 1600000
namespace Go.Proofs.Ytgeapglanckjpaa
open Go.ChangeShapes Go.WideShapes Go.ChangeAt Go.RowKit
set_option maxRecDepth 100000 in
theorem rfit1false_any
 (ts : List Typ) (A : Option Addr) (c n : Nat) (v : Val) (A1 A2 A3 : Option Addr) (n1 n2 n3 : Nat) (w : World) (hn : n < ts.length) (hkx : ts[n].kind = 1) (hkv : v.kind = 1) (hp : properB v = true)
 (ht : RdTyps w w.heap.size (.slice A ts.length c) ts) (hv : ValAt w w.heap.size v (.slice A1 v.keys.length n1) (.slice A2 v.items.length n2) (.slice A3 v.rest.length n3))
 (hf : ∀ t, FitsOn 27 ts (.slice A ts.length c) t false (fun y => fitV ts false y t) (v.keys ++ v.items)) :
 Calls Try.prog 27 #[.agg #[.slice A ts.length c], .int .i64 n, valA v (.slice A1 v.keys.length n1) (.slice A2 v.items.length n2) (.slice A3 v.rest.length n3), .bool false] w fun e w' => e = .returned (.bool (bodyV ts false ts[n] v)) ∧ Below w.heap.size w w' := by
 have h3b := al3 w
 obtain ⟨b, o, rfl, hbb, hel⟩ := ht.elem (by omega)
 obtain ⟨vs, vm, hcells, hx⟩ := hel n hn
 clear hel
 generalize ts[n] = x at *
 obtain ⟨C1, l1, C2, l2, rfl, rfl, -, -⟩ := hx.forms
 obtain ⟨c0, c1, c2, c3, c4, c5, c6, c7, c8, c9⟩ := hcells
 have hlt : (n : Int) < ts.length := by omega
 have hd0 : decide ((n : Int) < 0) = false := by simp
 have hd1 : decide (ts.length ≤ n) = false := by simpa using hn
 simp only [valA, hkv]
 rw [hkx] at c0
 have HP := Lib.hid (fun W => rzero1_any v A1 A2 A3 n1 n2 n3 W hkv)
 simp only [valA, hkv, hp] at HP
 have HF := Lib.hid hf
 have HT := Lib.hid ht
 have HV := Lib.hid hv
 have HX := Lib.hid hx
 have Hkx := Lib.hid hkx
 have Hkv := Lib.hid hkv
 have hxs := hx.lens
 have hvl := hv.lens
 clear hf ht hv hx hkx hkv hp hn
 go_enter Try.func27, Try.ntmps27
 go_wp2_with fail
 refine (HP.out _).mono ?_
 rintro e w2 ⟨rfl, hb2⟩
 have HS := (((Has.made _ _ _).alloc _).alloc _).below hb2 (by simp; omega)
 have HW := ((Has.made _ _ _).alloc _).below hb2 (by simp)
 have HY := (Has.made _ _ _).below hb2 (by simp)
 rw [alloc_hs] at HW
 rw [alloc_hs, alloc_hs] at HY
 have h02 := (h3b _ _ _).trans (hb2.mono (h3b _ _ _).size)
 have hz2 := HY.here
 have HT := Lib.hid (HT.out.on h02)
 have HV := Lib.hid (HV.out.on h02)
 have HX := Lib.hid (HX.out.keep (fun _ hp => h02.cell hp) h02.size)
 obtain ⟨v0, v1, v2, v3, v4, v5, v6, v7⟩ := HW.c8
 obtain ⟨t0, t1, t2, t3, t4, t5, t6, t7, t8, t9⟩ := HY.c10
 have s0 := HS.cell 0
 simp only [gl3] at s0
 clear hb2 h3b c0 c1 c2 c3 c4 c5 c6 c7 c8 c9
 have HS := Lib.hid HS
 have HW := Lib.hid HW
 have HY := Lib.hid HY
 go_wp2_with fail
 go_ret
 exact ⟨ret_bool (by simp [bodyR, Hkx.out]), h02⟩
set_option maxRecDepth 100000 in
theorem rfit2false_any
 (ts : List Typ) (A : Option Addr) (c n : Nat) (v : Val) (A1 A2 A3 : Option Addr) (n1 n2 n3 : Nat) (w : World) (hn : n < ts.length) (hkx : ts[n].kind = 2) (hkv : v.kind = 2) (hp : properB v = true)
 (ht : RdTyps w w.heap.size (.slice A ts.length c) ts) (hv : ValAt w w.heap.size v (.slice A1 v.keys.length n1) (.slice A2 v.items.length n2) (.slice A3 v.rest.length n3))
 (hf : ∀ t, FitsOn 27 ts (.slice A ts.length c) t false (fun y => fitV ts false y t) (v.keys ++ v.items)) :
 Calls Try.prog 27 #[.agg #[.slice A ts.length c], .int .i64 n, valA v (.slice A1 v.keys.length n1) (.slice A2 v.items.length n2) (.slice A3 v.rest.length n3), .bool false] w fun e w' => e = .returned (.bool (bodyV ts false ts[n] v)) ∧ Below w.heap.size w w' := by
 have h3b := al3 w
 obtain ⟨b, o, rfl, hbb, hel⟩ := ht.elem (by omega)
 obtain ⟨vs, vm, hcells, hx⟩ := hel n hn
 clear hel
 generalize ts[n] = x at *
 obtain ⟨C1, l1, C2, l2, rfl, rfl, -, -⟩ := hx.forms
 obtain ⟨c0, c1, c2, c3, c4, c5, c6, c7, c8, c9⟩ := hcells
 have hlt : (n : Int) < ts.length := by omega
 have hd0 : decide ((n : Int) < 0) = false := by simp
 have hd1 : decide (ts.length ≤ n) = false := by simpa using hn
 simp only [valA, hkv]
 rw [hkx] at c0
 have HP := Lib.hid (fun W => rzero2_any v A1 A2 A3 n1 n2 n3 W hkv)
 simp only [valA, hkv, hp] at HP
 have HF := Lib.hid hf
 have HT := Lib.hid ht
 have HV := Lib.hid hv
 have HX := Lib.hid hx
 have Hkx := Lib.hid hkx
 have Hkv := Lib.hid hkv
 have hxs := hx.lens
 have hvl := hv.lens
 clear hf ht hv hx hkx hkv hp hn
 go_enter Try.func27, Try.ntmps27
 go_wp2_with fail
 refine (HP.out _).mono ?_
 rintro e w2 ⟨rfl, hb2⟩
 have HS := (((Has.made _ _ _).alloc _).alloc _).below hb2 (by simp; omega)
 have HW := ((Has.made _ _ _).alloc _).below hb2 (by simp)
 have HY := (Has.made _ _ _).below hb2 (by simp)
 rw [alloc_hs] at HW
 rw [alloc_hs, alloc_hs] at HY
 have h02 := (h3b _ _ _).trans (hb2.mono (h3b _ _ _).size)
 have hz2 := HY.here
 have HT := Lib.hid (HT.out.on h02)
 have HV := Lib.hid (HV.out.on h02)
 have HX := Lib.hid (HX.out.keep (fun _ hp => h02.cell hp) h02.size)
 obtain ⟨v0, v1, v2, v3, v4, v5, v6, v7⟩ := HW.c8
 obtain ⟨t0, t1, t2, t3, t4, t5, t6, t7, t8, t9⟩ := HY.c10
 have s0 := HS.cell 0
 simp only [gl3] at s0
 clear hb2 h3b c0 c1 c2 c3 c4 c5 c6 c7 c8 c9
 have HS := Lib.hid HS
 have HW := Lib.hid HW
 have HY := Lib.hid HY
 by_cases h1 : x.low ≤ v.num
 ·
  by_cases h2 : v.num ≤ x.high
  all_goals
   go_wp2_with fail
   go_ret
   exact ⟨ret_bool (by simp [bodyR, Hkx.out, h1, h2]), h02⟩
 go_wp2_with fail
 go_ret
 exact ⟨ret_bool (by simp [bodyR, Hkx.out]; intro h; omega), h02⟩
set_option maxRecDepth 100000 in
theorem rfit3false_any
 (ts : List Typ) (A : Option Addr) (c n : Nat) (v : Val) (A1 A2 A3 : Option Addr) (n1 n2 n3 : Nat) (w : World) (hn : n < ts.length) (hkx : ts[n].kind = 3) (hkv : v.kind = 3) (hp : properB v = true)
 (ht : RdTyps w w.heap.size (.slice A ts.length c) ts) (hv : ValAt w w.heap.size v (.slice A1 v.keys.length n1) (.slice A2 v.items.length n2) (.slice A3 v.rest.length n3))
 (hf : ∀ t, FitsOn 27 ts (.slice A ts.length c) t false (fun y => fitV ts false y t) (v.keys ++ v.items)) :
 Calls Try.prog 27 #[.agg #[.slice A ts.length c], .int .i64 n, valA v (.slice A1 v.keys.length n1) (.slice A2 v.items.length n2) (.slice A3 v.rest.length n3), .bool false] w fun e w' => e = .returned (.bool (bodyV ts false ts[n] v)) ∧ Below w.heap.size w w' := by
 have h3b := al3 w
 obtain ⟨b, o, rfl, hbb, hel⟩ := ht.elem (by omega)
 obtain ⟨vs, vm, hcells, hx⟩ := hel n hn
 clear hel
 generalize ts[n] = x at *
 obtain ⟨C1, l1, C2, l2, rfl, rfl, -, -⟩ := hx.forms
 obtain ⟨c0, c1, c2, c3, c4, c5, c6, c7, c8, c9⟩ := hcells
 have hlt : (n : Int) < ts.length := by omega
 have hd0 : decide ((n : Int) < 0) = false := by simp
 have hd1 : decide (ts.length ≤ n) = false := by simpa using hn
 simp only [valA, hkv]
 rw [hkx] at c0
 have HP := Lib.hid (fun W => rzero3_any v A1 A2 A3 n1 n2 n3 W hkv)
 simp only [valA, hkv, hp] at HP
 have HF := Lib.hid hf
 have HT := Lib.hid ht
 have HV := Lib.hid hv
 have HX := Lib.hid hx
 have Hkx := Lib.hid hkx
 have Hkv := Lib.hid hkv
 have hxs := hx.lens
 have hvl := hv.lens
 clear hf ht hv hx hkx hkv hp hn
 go_enter Try.func27, Try.ntmps27
 go_wp2_with fail
 refine (HP.out _).mono ?_
 rintro e w2 ⟨rfl, hb2⟩
 have HS := (((Has.made _ _ _).alloc _).alloc _).below hb2 (by simp; omega)
 have HW := ((Has.made _ _ _).alloc _).below hb2 (by simp)
 have HY := (Has.made _ _ _).below hb2 (by simp)
 rw [alloc_hs] at HW
 rw [alloc_hs, alloc_hs] at HY
 have h02 := (h3b _ _ _).trans (hb2.mono (h3b _ _ _).size)
 have hz2 := HY.here
 have HT := Lib.hid (HT.out.on h02)
 have HV := Lib.hid (HV.out.on h02)
 have HX := Lib.hid (HX.out.keep (fun _ hp => h02.cell hp) h02.size)
 obtain ⟨v0, v1, v2, v3, v4, v5, v6, v7⟩ := HW.c8
 obtain ⟨t0, t1, t2, t3, t4, t5, t6, t7, t8, t9⟩ := HY.c10
 have s0 := HS.cell 0
 simp only [gl3] at s0
 clear hb2 h3b c0 c1 c2 c3 c4 c5 c6 c7 c8 c9
 have HS := Lib.hid HS
 have HW := Lib.hid HW
 have HY := Lib.hid HY
 go_wp2_with fail
 go_ret
 exact ⟨ret_bool (by simp [bodyR, Hkx.out]), h02⟩
set_option maxRecDepth 100000 in
theorem rfit4false_any
 (ts : List Typ) (A : Option Addr) (c n : Nat) (v : Val) (A1 A2 A3 : Option Addr) (n1 n2 n3 : Nat) (w : World) (hn : n < ts.length) (hkx : ts[n].kind = 4) (hkv : v.kind = 4) (hp : properB v = true)
 (ht : RdTyps w w.heap.size (.slice A ts.length c) ts) (hv : ValAt w w.heap.size v (.slice A1 v.keys.length n1) (.slice A2 v.items.length n2) (.slice A3 v.rest.length n3))
 (hf : ∀ t, FitsOn 27 ts (.slice A ts.length c) t false (fun y => fitV ts false y t) (v.keys ++ v.items)) :
 Calls Try.prog 27 #[.agg #[.slice A ts.length c], .int .i64 n, valA v (.slice A1 v.keys.length n1) (.slice A2 v.items.length n2) (.slice A3 v.rest.length n3), .bool false] w fun e w' => e = .returned (.bool (bodyV ts false ts[n] v)) ∧ Below w.heap.size w w' := by
 have h3b := al3 w
 obtain ⟨b, o, rfl, hbb, hel⟩ := ht.elem (by omega)
 obtain ⟨vs, vm, hcells, hx⟩ := hel n hn
 clear hel
 generalize ts[n] = x at *
 obtain ⟨C1, l1, C2, l2, rfl, rfl, -, -⟩ := hx.forms
 obtain ⟨c0, c1, c2, c3, c4, c5, c6, c7, c8, c9⟩ := hcells
 have hlt : (n : Int) < ts.length := by omega
 have hd0 : decide ((n : Int) < 0) = false := by simp
 have hd1 : decide (ts.length ≤ n) = false := by simpa using hn
 simp only [valA, hkv]
 rw [hkx] at c0
 have HP := Lib.hid (fun W => rzero4_any v A1 A2 A3 n1 n2 n3 W hkv)
 simp only [valA, hkv, hp] at HP
 have HF := Lib.hid hf
 have HT := Lib.hid ht
 have HV := Lib.hid hv
 have HX := Lib.hid hx
 have Hkx := Lib.hid hkx
 have Hkv := Lib.hid hkv
 have hxs := hx.lens
 have hvl := hv.lens
 clear hf ht hv hx hkx hkv hp hn
 go_enter Try.func27, Try.ntmps27
 go_wp2_with fail
 refine (HP.out _).mono ?_
 rintro e w2 ⟨rfl, hb2⟩
 have HS := (((Has.made _ _ _).alloc _).alloc _).below hb2 (by simp; omega)
 have HW := ((Has.made _ _ _).alloc _).below hb2 (by simp)
 have HY := (Has.made _ _ _).below hb2 (by simp)
 rw [alloc_hs] at HW
 rw [alloc_hs, alloc_hs] at HY
 have h02 := (h3b _ _ _).trans (hb2.mono (h3b _ _ _).size)
 have hz2 := HY.here
 have HT := Lib.hid (HT.out.on h02)
 have HV := Lib.hid (HV.out.on h02)
 have HX := Lib.hid (HX.out.keep (fun _ hp => h02.cell hp) h02.size)
 obtain ⟨v0, v1, v2, v3, v4, v5, v6, v7⟩ := HW.c8
 obtain ⟨t0, t1, t2, t3, t4, t5, t6, t7, t8, t9⟩ := HY.c10
 have s0 := HS.cell 0
 simp only [gl3] at s0
 clear hb2 h3b c0 c1 c2 c3 c4 c5 c6 c7 c8 c9
 have HS := Lib.hid HS
 have HW := Lib.hid HW
 have HY := Lib.hid HY
 have HM := Lib.hid (fun W h => rsymbol_any x (.slice C1 x.syms.length l1) (.slice C2 x.mems.length l2) v.id W h)
 simp only [typA, Hkx.out, pairV] at HM
 cases hsy : symIdx x v.id with
 | some i =>
  simp only [hsy, Option.isSome_some] at HM
  have Hsy := Lib.hid hsy
  clear hsy
  go_wp2_with fail
  refine (HM.out _ HX.out).mono ?_
  rintro e w3 ⟨rfl, hb3⟩
  have h03 := h02.trans (hb3.mono h02.size)
  have HV := Lib.hid (HV.out.on hb3)
  have HT := Lib.hid (HT.out.on hb3)
  have HX := Lib.hid (HX.out.on hb3)
  have HS := HS.out.below hb3 (by omega)
  have HW := HW.out.below hb3 (by omega)
  have HY := HY.out.below hb3 (by omega)
  have hz3 := HY.here
  clear s0 v0 v1 v2 v3 v4 v5 v6 v7 t0 t1 t2 t3 t4 t5 t6 t7 t8 t9
  have s0 := HS.cell 0
  have v4 := HW.cell 4
  have v5 := HW.cell 5
  have v6 := HW.cell 6
  have v7 := HW.cell 7
  have t6 := HY.cell 6
  have t8 := HY.cell 8
  have t9 := HY.cell 9
  simp only [gl3] at s0 v4 v5 v6 v7 t6 t8 t9
  have HS := Lib.hid HS
  have HW := Lib.hid HW
  have HY := Lib.hid HY
  clear hb3 h02
  go_wp2_with fail
  go_ret
  exact ⟨ret_bool (by simp [bodyR, Hkx.out, Hsy.out]), h03⟩
 | none =>
  simp only [hsy, Option.isSome_none] at HM
  have Hsy := Lib.hid hsy
  clear hsy
  go_wp2_with fail
  refine (HM.out _ HX.out).mono ?_
  rintro e w3 ⟨rfl, hb3⟩
  have h03 := h02.trans (hb3.mono h02.size)
  have HV := Lib.hid (HV.out.on hb3)
  have HT := Lib.hid (HT.out.on hb3)
  have HX := Lib.hid (HX.out.on hb3)
  have HS := HS.out.below hb3 (by omega)
  have HW := HW.out.below hb3 (by omega)
  have HY := HY.out.below hb3 (by omega)
  have hz3 := HY.here
  clear s0 v0 v1 v2 v3 v4 v5 v6 v7 t0 t1 t2 t3 t4 t5 t6 t7 t8 t9
  have s0 := HS.cell 0
  have v4 := HW.cell 4
  have v5 := HW.cell 5
  have v6 := HW.cell 6
  have v7 := HW.cell 7
  have t6 := HY.cell 6
  have t8 := HY.cell 8
  have t9 := HY.cell 9
  simp only [gl3] at s0 v4 v5 v6 v7 t6 t8 t9
  have HS := Lib.hid HS
  have HW := Lib.hid HW
  have HY := Lib.hid HY
  clear hb3 h02
  cases hop : x.opn
  all_goals
   rw [hop] at t9
   have Hop := Lib.hid hop
   clear hop
  ·
   go_wp2_with fail
   go_ret
   exact ⟨ret_bool (by simp [bodyR, Hkx.out, Hsy.out, Hop.out]), h03⟩
  go_wp2_with (go_at_call 52; refine (rid_any _ _ _).mono ?_; rintro e w' ⟨rfl, rfl⟩)
  go_ret
  exact ⟨ret_bool (by simp [bodyR, Hkx.out, Hsy.out, Hop.out]), h03⟩
set_option maxRecDepth 100000 in
theorem rfit7false_any
 (ts : List Typ) (A : Option Addr) (c n : Nat) (v : Val) (A1 A2 A3 : Option Addr) (n1 n2 n3 : Nat) (w : World) (hn : n < ts.length) (hkx : ts[n].kind = 7) (hkv : v.kind = 7) (hp : properB v = true)
 (ht : RdTyps w w.heap.size (.slice A ts.length c) ts) (hv : ValAt w w.heap.size v (.slice A1 v.keys.length n1) (.slice A2 v.items.length n2) (.slice A3 v.rest.length n3))
 (hf : ∀ t, FitsOn 27 ts (.slice A ts.length c) t false (fun y => fitV ts false y t) (v.keys ++ v.items)) :
 Calls Try.prog 27 #[.agg #[.slice A ts.length c], .int .i64 n, valA v (.slice A1 v.keys.length n1) (.slice A2 v.items.length n2) (.slice A3 v.rest.length n3), .bool false] w fun e w' => e = .returned (.bool (bodyV ts false ts[n] v)) ∧ Below w.heap.size w w' := by
 have h3b := al3 w
 obtain ⟨b, o, rfl, hbb, hel⟩ := ht.elem (by omega)
 obtain ⟨vs, vm, hcells, hx⟩ := hel n hn
 clear hel
 generalize ts[n] = x at *
 obtain ⟨C1, l1, C2, l2, rfl, rfl, -, -⟩ := hx.forms
 obtain ⟨c0, c1, c2, c3, c4, c5, c6, c7, c8, c9⟩ := hcells
 have hlt : (n : Int) < ts.length := by omega
 have hd0 : decide ((n : Int) < 0) = false := by simp
 have hd1 : decide (ts.length ≤ n) = false := by simpa using hn
 simp only [valA, hkv]
 rw [hkx] at c0
 have HP := Lib.hid (fun W => rzero7_any v A1 A2 A3 n1 n2 n3 W hkv)
 simp only [valA, hkv, hp] at HP
 have HF := Lib.hid hf
 have HT := Lib.hid ht
 have HV := Lib.hid hv
 have HX := Lib.hid hx
 have Hkx := Lib.hid hkx
 have Hkv := Lib.hid hkv
 have hxs := hx.lens
 have hvl := hv.lens
 clear hf ht hv hx hkx hkv hp hn
 go_enter Try.func27, Try.ntmps27
 go_wp2_with fail
 refine (HP.out _).mono ?_
 rintro e w2 ⟨rfl, hb2⟩
 have HS := (((Has.made _ _ _).alloc _).alloc _).below hb2 (by simp; omega)
 have HW := ((Has.made _ _ _).alloc _).below hb2 (by simp)
 have HY := (Has.made _ _ _).below hb2 (by simp)
 rw [alloc_hs] at HW
 rw [alloc_hs, alloc_hs] at HY
 have h02 := (h3b _ _ _).trans (hb2.mono (h3b _ _ _).size)
 have hz2 := HY.here
 have HT := Lib.hid (HT.out.on h02)
 have HV := Lib.hid (HV.out.on h02)
 have HX := Lib.hid (HX.out.keep (fun _ hp => h02.cell hp) h02.size)
 obtain ⟨v0, v1, v2, v3, v4, v5, v6, v7⟩ := HW.c8
 obtain ⟨t0, t1, t2, t3, t4, t5, t6, t7, t8, t9⟩ := HY.c10
 have s0 := HS.cell 0
 simp only [gl3] at s0
 clear hb2 h3b c0 c1 c2 c3 c4 c5 c6 c7 c8 c9
 have HS := Lib.hid HS
 have HW := Lib.hid HW
 have HY := Lib.hid HY
 have HE := Lib.hid (fun W hi ht => rall_any ts (some ⟨b, o, none⟩) c x.elem false (fun y => fitV ts false y x.elem) v.items (.slice A2 v.items.length n2) W (fun y vk vi vr W' hm => HF.out x.elem y vk vi vr W' (by simp [hm])) hvl.2.1 hi ht)
 rw [← fitL_all] at HE
 by_cases h1 : ((v.items.length : Int) ≤ x.max)
 ·
  have h1' : decide ((v.items.length : Int) ≤ x.max) = true := decide_eq_true h1
  have h1'' : decide ((v.items.length : Int) ≤ x.max) = true := decide_eq_true (by omega)
  have Hr : Hid (bodyV ts false x v = fitL ts false v.items x.elem) := by show _ = _; simp [bodyR, Hkx.out, h1]
  clear h1
  go_wp2_with fail
  refine (HE.out _ HV.out.items HT.out).mono ?_
  rintro e w3 ⟨rfl, hb3⟩
  go_wp2_with fail
  go_ret
  exact ⟨ret_bool (by rw [Hr.out]), h02.trans (hb3.mono h02.size)⟩
 have h1' : decide ((v.items.length : Int) ≤ x.max) = false := decide_eq_false h1
 have h1'' : decide ((v.items.length : Int) ≤ x.max) = false := decide_eq_false (by omega)
 have Hr : Hid (bodyV ts false x v = false) := by show _ = _; simp [bodyR, Hkx.out, h1]
 clear h1
 go_wp2_with fail
 go_ret
 exact ⟨ret_bool (by rw [Hr.out]), h02⟩
set_option maxRecDepth 100000 in
theorem rfit9false_any
 (ts : List Typ) (A : Option Addr) (c n : Nat) (v : Val) (A1 A2 A3 : Option Addr) (n1 n2 n3 : Nat) (w : World) (hn : n < ts.length) (hkx : ts[n].kind = 9) (hkv : v.kind = 9) (hp : properB v = true)
 (ht : RdTyps w w.heap.size (.slice A ts.length c) ts) (hv : ValAt w w.heap.size v (.slice A1 v.keys.length n1) (.slice A2 v.items.length n2) (.slice A3 v.rest.length n3))
 (hf : ∀ t, FitsOn 27 ts (.slice A ts.length c) t false (fun y => fitV ts false y t) (v.keys ++ v.items)) :
 Calls Try.prog 27 #[.agg #[.slice A ts.length c], .int .i64 n, valA v (.slice A1 v.keys.length n1) (.slice A2 v.items.length n2) (.slice A3 v.rest.length n3), .bool false] w fun e w' => e = .returned (.bool (bodyV ts false ts[n] v)) ∧ Below w.heap.size w w' := by
 have h3b := al3 w
 obtain ⟨b, o, rfl, hbb, hel⟩ := ht.elem (by omega)
 obtain ⟨vs, vm, hcells, hx⟩ := hel n hn
 clear hel
 generalize ts[n] = x at *
 obtain ⟨C1, l1, C2, l2, rfl, rfl, -, -⟩ := hx.forms
 obtain ⟨c0, c1, c2, c3, c4, c5, c6, c7, c8, c9⟩ := hcells
 have hlt : (n : Int) < ts.length := by omega
 have hd0 : decide ((n : Int) < 0) = false := by simp
 have hd1 : decide (ts.length ≤ n) = false := by simpa using hn
 simp only [valA, hkv]
 rw [hkx] at c0
 have HP := Lib.hid (fun W => rzero9_any v A1 A2 A3 n1 n2 n3 W hkv)
 simp only [valA, hkv, hp] at HP
 have HF := Lib.hid hf
 have HT := Lib.hid ht
 have HV := Lib.hid hv
 have HX := Lib.hid hx
 have Hkx := Lib.hid hkx
 have Hkv := Lib.hid hkv
 have hxs := hx.lens
 have hvl := hv.lens
 clear hf ht hv hx hkx hkv hp hn
 go_enter Try.func27, Try.ntmps27
 go_wp2_with fail
 refine (HP.out _).mono ?_
 rintro e w2 ⟨rfl, hb2⟩
 have HS := (((Has.made _ _ _).alloc _).alloc _).below hb2 (by simp; omega)
 have HW := ((Has.made _ _ _).alloc _).below hb2 (by simp)
 have HY := (Has.made _ _ _).below hb2 (by simp)
 rw [alloc_hs] at HW
 rw [alloc_hs, alloc_hs] at HY
 have h02 := (h3b _ _ _).trans (hb2.mono (h3b _ _ _).size)
 have hz2 := HY.here
 have HT := Lib.hid (HT.out.on h02)
 have HV := Lib.hid (HV.out.on h02)
 have HX := Lib.hid (HX.out.keep (fun _ hp => h02.cell hp) h02.size)
 obtain ⟨v0, v1, v2, v3, v4, v5, v6, v7⟩ := HW.c8
 obtain ⟨t0, t1, t2, t3, t4, t5, t6, t7, t8, t9⟩ := HY.c10
 have s0 := HS.cell 0
 simp only [gl3] at s0
 clear hb2 h3b c0 c1 c2 c3 c4 c5 c6 c7 c8 c9
 have HS := Lib.hid HS
 have HW := Lib.hid HW
 have HY := Lib.hid HY
 have HE := Lib.hid (fun W hi ht => rall_any ts (some ⟨b, o, none⟩) c x.elem false (fun y => fitV ts false y x.elem) v.items (.slice A2 v.items.length n2) W (fun y vk vi vr W' hm => HF.out x.elem y vk vi vr W' (by simp [hm])) hvl.2.1 hi ht)
 rw [← fitL_all] at HE
 by_cases h1 : (v.items.length ≤ 1)
 ·
  have h1' : decide (v.items.length ≤ 1) = true := decide_eq_true h1
  have h1'' : decide ((v.items.length : Int) ≤ 1) = true := decide_eq_true (by omega)
  have Hr : Hid (bodyV ts false x v = fitL ts false v.items x.elem) := by show _ = _; simp [bodyR, Hkx.out, h1]
  clear h1
  go_wp2_with fail
  refine (HE.out _ HV.out.items HT.out).mono ?_
  rintro e w3 ⟨rfl, hb3⟩
  go_wp2_with fail
  go_ret
  exact ⟨ret_bool (by rw [Hr.out]), h02.trans (hb3.mono h02.size)⟩
 have h1' : decide (v.items.length ≤ 1) = false := decide_eq_false h1
 have h1'' : decide ((v.items.length : Int) ≤ 1) = false := decide_eq_false (by omega)
 have Hr : Hid (bodyV ts false x v = false) := by show _ = _; simp [bodyR, Hkx.out, h1]
 clear h1
 go_wp2_with fail
 go_ret
 exact ⟨ret_bool (by rw [Hr.out]), h02⟩
end Go.Proofs.Ytgeapglanckjpaa
namespace Go.Proofs.Ytgeapglanckjpaa
open Go.ChangeShapes Go.WideShapes Go.ChangeAt Go.RowKit
set_option maxRecDepth 100000 in
theorem rfit5false_any
 (ts : List Typ) (A : Option Addr) (c n : Nat) (v : Val) (A1 A2 A3 : Option Addr) (n1 n2 n3 : Nat) (w : World) (hn : n < ts.length) (hkx : ts[n].kind = 5) (hkv : v.kind = 5) (hp : properB v = true)
 (ht : RdTyps w w.heap.size (.slice A ts.length c) ts) (hv : ValAt w w.heap.size v (.slice A1 v.keys.length n1) (.slice A2 v.items.length n2) (.slice A3 v.rest.length n3))
 (hf : ∀ t, FitsOn 27 ts (.slice A ts.length c) t false (fun y => fitV ts false y t) (v.keys ++ v.items)) :
 Calls Try.prog 27 #[.agg #[.slice A ts.length c], .int .i64 n, valA v (.slice A1 v.keys.length n1) (.slice A2 v.items.length n2) (.slice A3 v.rest.length n3), .bool false] w fun e w' => e = .returned (.bool (bodyV ts false ts[n] v)) ∧ Below w.heap.size w w' := by
 have h3b := al3 w
 obtain ⟨b, o, rfl, hbb, hel⟩ := ht.elem (by omega)
 obtain ⟨vs, vm, hcells, hx⟩ := hel n hn
 clear hel
 generalize ts[n] = x at *
 obtain ⟨C1, l1, C2, l2, rfl, rfl, -, -⟩ := hx.forms
 obtain ⟨c0, c1, c2, c3, c4, c5, c6, c7, c8, c9⟩ := hcells
 have hlt : (n : Int) < ts.length := by omega
 have hd0 : decide ((n : Int) < 0) = false := by simp
 have hd1 : decide (ts.length ≤ n) = false := by simpa using hn
 simp only [valA, hkv]
 rw [hkx] at c0
 have HP := Lib.hid (fun W => rzero5_any v A1 A2 A3 n1 n2 n3 W hkv)
 simp only [valA, hkv, hp] at HP
 have HF := Lib.hid hf
 have HT := Lib.hid ht
 have HV := Lib.hid hv
 have HX := Lib.hid hx
 have Hkx := Lib.hid hkx
 have Hkv := Lib.hid hkv
 have hxs := hx.lens
 have hvl := hv.lens
 clear hf ht hv hx hkx hkv hp hn
 go_enter Try.func27, Try.ntmps27
 go_wp2_with fail
 refine (HP.out _).mono ?_
 rintro e w2 ⟨rfl, hb2⟩
 have HS := (((Has.made _ _ _).alloc _).alloc _).below hb2 (by simp; omega)
 have HW := ((Has.made _ _ _).alloc _).below hb2 (by simp)
 have HY := (Has.made _ _ _).below hb2 (by simp)
 rw [alloc_hs] at HW
 rw [alloc_hs, alloc_hs] at HY
 have h02 := (h3b _ _ _).trans (hb2.mono (h3b _ _ _).size)
 have hz2 := HY.here
 have HT := Lib.hid (HT.out.on h02)
 have HV := Lib.hid (HV.out.on h02)
 have HX := Lib.hid (HX.out.keep (fun _ hp => h02.cell hp) h02.size)
 obtain ⟨v0, v1, v2, v3, v4, v5, v6, v7⟩ := HW.c8
 obtain ⟨t0, t1, t2, t3, t4, t5, t6, t7, t8, t9⟩ := HY.c10
 have s0 := HS.cell 0
 simp only [gl3] at s0
 clear hb2 h3b c0 c1 c2 c3 c4 c5 c6 c7 c8 c9
 have HS := Lib.hid HS
 have HW := Lib.hid HW
 have HY := Lib.hid HY
 have HRt := Lib.hid (fun W h1 h2 => rrest_any x (.slice C1 x.syms.length l1) (.slice C2 x.mems.length l2) v.rest (.slice A3 v.rest.length n3) W hvl.2.2 h1 h2)
 simp only [typA, Hkx.out] at HRt
 have Hb : Hid (bodyV ts false x v = (decide (v.items.length = x.mems.length) && (restB x v.rest none && fitZ ts false v.items x.mems))) := by
  show _ = _
  rw [show bodyV ts false x v = (decide (v.items.length = x.mems.length) && (!(false && decide (0 < v.rest.length)) && (restB x v.rest none && fitZ ts false v.items x.mems))) by simp [bodyR, Hkx.out]]
  rfl
 by_cases h1 : v.items.length = x.mems.length
 ·
  have h1' : ((v.items.length : Int) != (x.mems.length : Int)) = false := by simp [h1]
  have H1 := Lib.hid h1
  rw [decide_eq_true h1, Bool.true_and] at Hb
  clear h1
  go_wp2_with fail
  refine (HRt.out _ HX.out HV.out.rest).mono ?_
  rintro e w3 ⟨rfl, hb3⟩
  have h03 := h02.trans (hb3.mono h02.size)
  have HV := Lib.hid (HV.out.on hb3)
  have HT := Lib.hid (HT.out.on hb3)
  have HX := Lib.hid (HX.out.on hb3)
  have HS := HS.out.below hb3 (by omega)
  have HW := HW.out.below hb3 (by omega)
  have HY := HY.out.below hb3 (by omega)
  have hz3 := HY.here
  clear s0 v0 v1 v2 v3 v4 v5 v6 v7 t0 t1 t2 t3 t4 t5 t6 t7 t8 t9
  have s0 := HS.cell 0
  have v4 := HW.cell 4
  have v5 := HW.cell 5
  have v6 := HW.cell 6
  have v7 := HW.cell 7
  have t6 := HY.cell 6
  have t8 := HY.cell 8
  have t9 := HY.cell 9
  simp only [gl3] at s0 v4 v5 v6 v7 t6 t8 t9
  have HS := Lib.hid HS
  have HW := Lib.hid HW
  have HY := Lib.hid HY
  clear hb3 h02
  cases hrb : restB x v.rest none
  ·
   rw [hrb] at Hb
   clear hrb
   go_wp2_with fail
   go_ret
   exact ⟨ret_bool (by rw [Hb.out]; rfl), h03⟩
  rw [hrb, Bool.true_and] at Hb
  clear hrb
  go_wp2_with fail
  have HHS := HS
  have HHW := HW
  have HHY := HY
  clear HS HW HY HP HRt
  go_loopw [12] (fun i wr => ∃ j : Nat, i = .int .i64 j ∧ j ≤ v.items.length ∧ fitZ ts false v.items x.mems = fitZ ts false (v.items.drop j) (x.mems.drop j) ∧ Below w3.heap.size w3 wr) (fun i _ => v.items.length - (intOf i).toNat)
  case atStart => exact ⟨0, rfl, by omega, rfl, Below.refl _ _⟩
  case round =>
   obtain ⟨j, rfl, hj, hjx, hc⟩ := hrel
   have g0 := (HHS.out.below hc (by omega)).cell 0
   have g6 := (HHW.out.below hc (by omega)).cell 6
   have g7 := (HHY.out.below hc (by omega)).cell 6
   simp only [gl3] at g0 g6 g7
   have h0s := h03.trans (hc.mono h03.size)
   by_cases hlj : j < v.items.length
   ·
    have hlj2 : j < x.mems.length := by have := H1.out; omega
    obtain ⟨bm, om, rfl, hbm, hem⟩ := ((HX.out.on hc).mems).elem (by omega)
    obtain ⟨mk, mi, mr, hmc, -⟩ := hem j hlj2
    have m2 := hmc.2.2.1
    obtain ⟨bv, ov, rfl, hbv, hev⟩ := ((HV.out.on hc).items).elem (by omega)
    obtain ⟨yk, yi, yr, hcy, hya⟩ := hev j hlj
    have hmem : v.items[j] ∈ v.items := List.getElem_mem _
    rw [fitZ_at ts false v.items x.mems j hlj hlj2] at hjx
    have hi1 : (j : Int) < x.mems.length := by omega
    have hi2 : (j : Int) < v.items.length := by omega
    generalize x.mems[j].ty = ty at *
    generalize v.items[j] = y at *
    obtain ⟨B1, k1, B2, k2, B3, k3, rfl, rfl, rfl, -, -, -⟩ := hya.forms
    obtain ⟨y0, y1, y2, y3, y4, y5, y6, y7⟩ := hcy
    have HYA := Lib.hid hya
    have Hmem := Lib.hid hmem
    have Hjx := Lib.hid hjx
    have HTs := Lib.hid (HT.out.on hc)
    have HFm := Lib.hid (HF.out ty y)
    clear hem hev hmc hya hmem hjx
    go_wp2_with fail
    go_still_tail 13, (by kernel_rfl)
    change wpList _ _ _ _ _ wr.drew
    have HYA := Lib.hid (HYA.out.on (w' := wr.drew) (Below.refl _ _).drew)
    have HTs := Lib.hid (HTs.out.on (w' := wr.drew) (Below.refl _ _).drew)
    have hcd := hc.drew
    have h0d := h0s.drew
    clear g0 g6 g7 m2 y0 y1 y2 y3 y4 y5 y6 y7 hc h0s
    generalize wr.drew = w8 at *
    go_wp2_with fail
    refine (HFm.out _ _ _ _ (by simp [Hmem.out]) HYA.out HTs.out).mono ?_
    rintro e w7 ⟨rfl, hb7⟩
    have hc7 := hcd.trans (hb7.mono hcd.size)
    have h07 := h0d.trans (hb7.mono h0d.size)
    clear hb7 hcd h0d
    cases hfy : fitV ts false y ty
    ·
     rw [hfy, Bool.false_and] at Hjx
     rw [Hjx.out] at Hb
     clear hfy
     go_wp2_with fail
     go_ret
     exact ⟨ret_bool (by rw [Hb.out]), h07⟩
    rw [hfy, Bool.true_and] at Hjx
    clear hfy
    go_wp2_with fail
    go_roundw
    case rel => exact ⟨j + 1, by go_num, by omega, Hjx.out, hc7⟩
    case measure => simp [intOf]; omega
   rw [fitZ_end ts false v.items x.mems j (by omega) (by have := H1.out; omega)] at hjx
   rw [hjx] at Hb
   clear hjx
   go_wp2_with fail
   go_ret
   exact ⟨ret_bool (by rw [Hb.out]), h0s⟩
 have h1' : ((v.items.length : Int) != (x.mems.length : Int)) = true := by rw [bne_iff_ne]; omega
 rw [decide_eq_false h1] at Hb
 clear h1
 go_wp2_with fail
 go_ret
 exact ⟨ret_bool (by rw [Hb.out]; rfl), h02⟩
end Go.Proofs.Ytgeapglanckjpaa

/- What fits of the program computes, kind by kind. What fits of the program computes for maps. No condition. -/
import Derived.Test.YtgeapglanckjpaaGE
import Derived.IntWalk
set_option maxHeartbeats 1600000
namespace Go.Proofs.Ytgeapglanckjpaa
open Go.ChangeShapes Go.WideShapes Go.ChangeAt Go.RowKit
theorem alloc_hs (w : World) (o : Obj) : (w.alloc o).heap.size = w.heap.size + 1 := by simp
set_option maxRecDepth 100000 in
theorem fits1_any
 (ts : List Typ) (A : Option Addr) (c n : Nat) (v : Val) (pl : Bool) (A1 A2 A3 : Option Addr) (n1 n2 n3 : Nat) (w : World) (hn : n < ts.length) (hkx : ts[n].kind = 1) (hkv : v.kind = 1) (hp : properB v = true)
 (ht : RdTyps w w.heap.size (.slice A ts.length c) ts) (hv : ValAt w w.heap.size v (.slice A1 v.keys.length n1) (.slice A2 v.items.length n2) (.slice A3 v.rest.length n3))
 (hf : ∀ t, FitsOn 26 ts (.slice A ts.length c) t pl (fun y => fitV ts pl y t) (v.keys ++ v.items)) :
 Calls Try.prog 26 #[.agg #[.slice A ts.length c], .int .i64 n, valA v (.slice A1 v.keys.length n1) (.slice A2 v.items.length n2) (.slice A3 v.rest.length n3), .bool pl] w fun e w' => e = .returned (.bool (bodyV ts pl ts[n] v)) ∧ Below w.heap.size w w' := by
 have h3b := al3 w
 obtain ⟨b, o, rfl, hbb, hel⟩ := ht.elem (by omega)
 obtain ⟨vs, vm, hcells, hx⟩ := hel n hn
 clear hel
 generalize ts[n] = x at *
 obtain ⟨C1, l1, C2, l2, rfl, rfl, -, -⟩ := hx.forms
 obtain ⟨c0, c1, c2, c3, c4, c5, c6, c7, c8, c9⟩ := hcells
 have hlt : (n : Int) < ts.length := by omega
 have hd0 : decide ((n : Int) < 0) = false := by simp
 have hd1 : decide (ts.length ≤ n) = false := by simpa using hn
 simp only [valA, hkv]
 rw [hkx] at c0
 have HP := Lib.hid (fun W => proper1_any v A1 A2 A3 n1 n2 n3 W hkv)
 simp only [valA, hkv, hp] at HP
 have HF := Lib.hid hf
 have HT := Lib.hid ht
 have HV := Lib.hid hv
 have HX := Lib.hid hx
 have Hkx := Lib.hid hkx
 have Hkv := Lib.hid hkv
 have hxs := hx.lens
 have hvl := hv.lens
 clear hf ht hv hx hkx hkv hp hn
 go_enter Try.func26, Try.ntmps26
 go_wp2_with fail
 refine (HP.out _).mono ?_
 rintro e w2 ⟨rfl, hb2⟩
 have HS := (((Has.made _ _ _).alloc _).alloc _).below hb2 (by simp; omega)
 have HW := ((Has.made _ _ _).alloc _).below hb2 (by simp)
 have HY := (Has.made _ _ _).below hb2 (by simp)
 rw [alloc_hs] at HW
 rw [alloc_hs, alloc_hs] at HY
 have h02 := (h3b _ _ _).trans (hb2.mono (h3b _ _ _).size)
 have hz2 := HY.here
 have HT := Lib.hid (HT.out.on h02)
 have HV := Lib.hid (HV.out.on h02)
 have HX := Lib.hid (HX.out.keep (fun _ hp => h02.cell hp) h02.size)
 obtain ⟨v0, v1, v2, v3, v4, v5, v6, v7⟩ := HW.c8
 obtain ⟨t0, t1, t2, t3, t4, t5, t6, t7, t8, t9⟩ := HY.c10
 have s0 := HS.cell 0
 simp only [gl3] at s0
 clear hb2 h3b c0 c1 c2 c3 c4 c5 c6 c7 c8 c9
 have HS := Lib.hid HS
 have HW := Lib.hid HW
 have HY := Lib.hid HY
 go_wp2_with fail
 go_ret
 exact ⟨ret_bool (by simp [bodyR, Hkx.out]), h02⟩
set_option maxRecDepth 100000 in
theorem fits2_any
 (ts : List Typ) (A : Option Addr) (c n : Nat) (v : Val) (pl : Bool) (A1 A2 A3 : Option Addr) (n1 n2 n3 : Nat) (w : World) (hn : n < ts.length) (hkx : ts[n].kind = 2) (hkv : v.kind = 2) (hp : properB v = true)
 (ht : RdTyps w w.heap.size (.slice A ts.length c) ts) (hv : ValAt w w.heap.size v (.slice A1 v.keys.length n1) (.slice A2 v.items.length n2) (.slice A3 v.rest.length n3))
 (hf : ∀ t, FitsOn 26 ts (.slice A ts.length c) t pl (fun y => fitV ts pl y t) (v.keys ++ v.items)) :
 Calls Try.prog 26 #[.agg #[.slice A ts.length c], .int .i64 n, valA v (.slice A1 v.keys.length n1) (.slice A2 v.items.length n2) (.slice A3 v.rest.length n3), .bool pl] w fun e w' => e = .returned (.bool (bodyV ts pl ts[n] v)) ∧ Below w.heap.size w w' := by
 have h3b := al3 w
 obtain ⟨b, o, rfl, hbb, hel⟩ := ht.elem (by omega)
 obtain ⟨vs, vm, hcells, hx⟩ := hel n hn
 clear hel
 generalize ts[n] = x at *
 obtain ⟨C1, l1, C2, l2, rfl, rfl, -, -⟩ := hx.forms
 obtain ⟨c0, c1, c2, c3, c4, c5, c6, c7, c8, c9⟩ := hcells
 have hlt : (n : Int) < ts.length := by omega
 have hd0 : decide ((n : Int) < 0) = false := by simp
 have hd1 : decide (ts.length ≤ n) = false := by simpa using hn
 simp only [valA, hkv]
 rw [hkx] at c0
 have HP := Lib.hid (fun W => proper2_any v A1 A2 A3 n1 n2 n3 W hkv)
 simp only [valA, hkv, hp] at HP
 have HF := Lib.hid hf
 have HT := Lib.hid ht
 have HV := Lib.hid hv
 have HX := Lib.hid hx
 have Hkx := Lib.hid hkx
 have Hkv := Lib.hid hkv
 have hxs := hx.lens
 have hvl := hv.lens
 clear hf ht hv hx hkx hkv hp hn
 go_enter Try.func26, Try.ntmps26
 go_wp2_with fail
 refine (HP.out _).mono ?_
 rintro e w2 ⟨rfl, hb2⟩
 have HS := (((Has.made _ _ _).alloc _).alloc _).below hb2 (by simp; omega)
 have HW := ((Has.made _ _ _).alloc _).below hb2 (by simp)
 have HY := (Has.made _ _ _).below hb2 (by simp)
 rw [alloc_hs] at HW
 rw [alloc_hs, alloc_hs] at HY
 have h02 := (h3b _ _ _).trans (hb2.mono (h3b _ _ _).size)
 have hz2 := HY.here
 have HT := Lib.hid (HT.out.on h02)
 have HV := Lib.hid (HV.out.on h02)
 have HX := Lib.hid (HX.out.keep (fun _ hp => h02.cell hp) h02.size)
 obtain ⟨v0, v1, v2, v3, v4, v5, v6, v7⟩ := HW.c8
 obtain ⟨t0, t1, t2, t3, t4, t5, t6, t7, t8, t9⟩ := HY.c10
 have s0 := HS.cell 0
 simp only [gl3] at s0
 clear hb2 h3b c0 c1 c2 c3 c4 c5 c6 c7 c8 c9
 have HS := Lib.hid HS
 have HW := Lib.hid HW
 have HY := Lib.hid HY
 by_cases h1 : x.low ≤ v.num
 ·
  by_cases h2 : v.num ≤ x.high
  all_goals
   go_wp2_with fail
   go_ret
   exact ⟨ret_bool (by simp [bodyR, Hkx.out, h1, h2]), h02⟩
 go_wp2_with fail
 go_ret
 exact ⟨ret_bool (by simp [bodyR, Hkx.out]; intro h; omega), h02⟩
set_option maxRecDepth 100000 in
theorem fits3_any
 (ts : List Typ) (A : Option Addr) (c n : Nat) (v : Val) (pl : Bool) (A1 A2 A3 : Option Addr) (n1 n2 n3 : Nat) (w : World) (hn : n < ts.length) (hkx : ts[n].kind = 3) (hkv : v.kind = 3) (hp : properB v = true)
 (ht : RdTyps w w.heap.size (.slice A ts.length c) ts) (hv : ValAt w w.heap.size v (.slice A1 v.keys.length n1) (.slice A2 v.items.length n2) (.slice A3 v.rest.length n3))
 (hf : ∀ t, FitsOn 26 ts (.slice A ts.length c) t pl (fun y => fitV ts pl y t) (v.keys ++ v.items)) :
 Calls Try.prog 26 #[.agg #[.slice A ts.length c], .int .i64 n, valA v (.slice A1 v.keys.length n1) (.slice A2 v.items.length n2) (.slice A3 v.rest.length n3), .bool pl] w fun e w' => e = .returned (.bool (bodyV ts pl ts[n] v)) ∧ Below w.heap.size w w' := by
 have h3b := al3 w
 obtain ⟨b, o, rfl, hbb, hel⟩ := ht.elem (by omega)
 obtain ⟨vs, vm, hcells, hx⟩ := hel n hn
 clear hel
 generalize ts[n] = x at *
 obtain ⟨C1, l1, C2, l2, rfl, rfl, -, -⟩ := hx.forms
 obtain ⟨c0, c1, c2, c3, c4, c5, c6, c7, c8, c9⟩ := hcells
 have hlt : (n : Int) < ts.length := by omega
 have hd0 : decide ((n : Int) < 0) = false := by simp
 have hd1 : decide (ts.length ≤ n) = false := by simpa using hn
 simp only [valA, hkv]
 rw [hkx] at c0
 have HP := Lib.hid (fun W => proper3_any v A1 A2 A3 n1 n2 n3 W hkv)
 simp only [valA, hkv, hp] at HP
 have HF := Lib.hid hf
 have HT := Lib.hid ht
 have HV := Lib.hid hv
 have HX := Lib.hid hx
 have Hkx := Lib.hid hkx
 have Hkv := Lib.hid hkv
 have hxs := hx.lens
 have hvl := hv.lens
 clear hf ht hv hx hkx hkv hp hn
 go_enter Try.func26, Try.ntmps26
 go_wp2_with fail
 refine (HP.out _).mono ?_
 rintro e w2 ⟨rfl, hb2⟩
 have HS := (((Has.made _ _ _).alloc _).alloc _).below hb2 (by simp; omega)
 have HW := ((Has.made _ _ _).alloc _).below hb2 (by simp)
 have HY := (Has.made _ _ _).below hb2 (by simp)
 rw [alloc_hs] at HW
 rw [alloc_hs, alloc_hs] at HY
 have h02 := (h3b _ _ _).trans (hb2.mono (h3b _ _ _).size)
 have hz2 := HY.here
 have HT := Lib.hid (HT.out.on h02)
 have HV := Lib.hid (HV.out.on h02)
 have HX := Lib.hid (HX.out.keep (fun _ hp => h02.cell hp) h02.size)
 obtain ⟨v0, v1, v2, v3, v4, v5, v6, v7⟩ := HW.c8
 obtain ⟨t0, t1, t2, t3, t4, t5, t6, t7, t8, t9⟩ := HY.c10
 have s0 := HS.cell 0
 simp only [gl3] at s0
 clear hb2 h3b c0 c1 c2 c3 c4 c5 c6 c7 c8 c9
 have HS := Lib.hid HS
 have HW := Lib.hid HW
 have HY := Lib.hid HY
 go_wp2_with fail
 go_ret
 exact ⟨ret_bool (by simp [bodyR, Hkx.out]), h02⟩
set_option maxRecDepth 100000 in
theorem fits4_any
 (ts : List Typ) (A : Option Addr) (c n : Nat) (v : Val) (pl : Bool) (A1 A2 A3 : Option Addr) (n1 n2 n3 : Nat) (w : World) (hn : n < ts.length) (hkx : ts[n].kind = 4) (hkv : v.kind = 4) (hp : properB v = true)
 (ht : RdTyps w w.heap.size (.slice A ts.length c) ts) (hv : ValAt w w.heap.size v (.slice A1 v.keys.length n1) (.slice A2 v.items.length n2) (.slice A3 v.rest.length n3))
 (hf : ∀ t, FitsOn 26 ts (.slice A ts.length c) t pl (fun y => fitV ts pl y t) (v.keys ++ v.items)) :
 Calls Try.prog 26 #[.agg #[.slice A ts.length c], .int .i64 n, valA v (.slice A1 v.keys.length n1) (.slice A2 v.items.length n2) (.slice A3 v.rest.length n3), .bool pl] w fun e w' => e = .returned (.bool (bodyV ts pl ts[n] v)) ∧ Below w.heap.size w w' := by
 have h3b := al3 w
 obtain ⟨b, o, rfl, hbb, hel⟩ := ht.elem (by omega)
 obtain ⟨vs, vm, hcells, hx⟩ := hel n hn
 clear hel
 generalize ts[n] = x at *
 obtain ⟨C1, l1, C2, l2, rfl, rfl, -, -⟩ := hx.forms
 obtain ⟨c0, c1, c2, c3, c4, c5, c6, c7, c8, c9⟩ := hcells
 have hlt : (n : Int) < ts.length := by omega
 have hd0 : decide ((n : Int) < 0) = false := by simp
 have hd1 : decide (ts.length ≤ n) = false := by simpa using hn
 simp only [valA, hkv]
 rw [hkx] at c0
 have HP := Lib.hid (fun W => proper4_any v A1 A2 A3 n1 n2 n3 W hkv)
 simp only [valA, hkv, hp] at HP
 have HF := Lib.hid hf
 have HT := Lib.hid ht
 have HV := Lib.hid hv
 have HX := Lib.hid hx
 have Hkx := Lib.hid hkx
 have Hkv := Lib.hid hkv
 have hxs := hx.lens
 have hvl := hv.lens
 clear hf ht hv hx hkx hkv hp hn
 go_enter Try.func26, Try.ntmps26
 go_wp2_with fail
 refine (HP.out _).mono ?_
 rintro e w2 ⟨rfl, hb2⟩
 have HS := (((Has.made _ _ _).alloc _).alloc _).below hb2 (by simp; omega)
 have HW := ((Has.made _ _ _).alloc _).below hb2 (by simp)
 have HY := (Has.made _ _ _).below hb2 (by simp)
 rw [alloc_hs] at HW
 rw [alloc_hs, alloc_hs] at HY
 have h02 := (h3b _ _ _).trans (hb2.mono (h3b _ _ _).size)
 have hz2 := HY.here
 have HT := Lib.hid (HT.out.on h02)
 have HV := Lib.hid (HV.out.on h02)
 have HX := Lib.hid (HX.out.keep (fun _ hp => h02.cell hp) h02.size)
 obtain ⟨v0, v1, v2, v3, v4, v5, v6, v7⟩ := HW.c8
 obtain ⟨t0, t1, t2, t3, t4, t5, t6, t7, t8, t9⟩ := HY.c10
 have s0 := HS.cell 0
 simp only [gl3] at s0
 clear hb2 h3b c0 c1 c2 c3 c4 c5 c6 c7 c8 c9
 have HS := Lib.hid HS
 have HW := Lib.hid HW
 have HY := Lib.hid HY
 have HM := Lib.hid (fun W h => symbol_any x (.slice C1 x.syms.length l1) (.slice C2 x.mems.length l2) v.id W h)
 simp only [typA, Hkx.out, pairV] at HM
 cases hsy : symIdx x v.id with
 | some i =>
  simp only [hsy, Option.isSome_some] at HM
  have Hsy := Lib.hid hsy
  clear hsy
  go_wp2_with fail
  refine (HM.out _ HX.out).mono ?_
  rintro e w3 ⟨rfl, hb3⟩
  have h03 := h02.trans (hb3.mono h02.size)
  have HV := Lib.hid (HV.out.on hb3)
  have HT := Lib.hid (HT.out.on hb3)
  have HX := Lib.hid (HX.out.on hb3)
  have HS := HS.out.below hb3 (by omega)
  have HW := HW.out.below hb3 (by omega)
  have HY := HY.out.below hb3 (by omega)
  have hz3 := HY.here
  clear s0 v0 v1 v2 v3 v4 v5 v6 v7 t0 t1 t2 t3 t4 t5 t6 t7 t8 t9
  have s0 := HS.cell 0
  have v4 := HW.cell 4
  have v5 := HW.cell 5
  have v6 := HW.cell 6
  have v7 := HW.cell 7
  have t6 := HY.cell 6
  have t8 := HY.cell 8
  have t9 := HY.cell 9
  simp only [gl3] at s0 v4 v5 v6 v7 t6 t8 t9
  have HS := Lib.hid HS
  have HW := Lib.hid HW
  have HY := Lib.hid HY
  clear hb3 h02
  go_wp2_with fail
  go_ret
  exact ⟨ret_bool (by simp [bodyR, Hkx.out, Hsy.out]), h03⟩
 | none =>
  simp only [hsy, Option.isSome_none] at HM
  have Hsy := Lib.hid hsy
  clear hsy
  go_wp2_with fail
  refine (HM.out _ HX.out).mono ?_
  rintro e w3 ⟨rfl, hb3⟩
  have h03 := h02.trans (hb3.mono h02.size)
  have HV := Lib.hid (HV.out.on hb3)
  have HT := Lib.hid (HT.out.on hb3)
  have HX := Lib.hid (HX.out.on hb3)
  have HS := HS.out.below hb3 (by omega)
  have HW := HW.out.below hb3 (by omega)
  have HY := HY.out.below hb3 (by omega)
  have hz3 := HY.here
  clear s0 v0 v1 v2 v3 v4 v5 v6 v7 t0 t1 t2 t3 t4 t5 t6 t7 t8 t9
  have s0 := HS.cell 0
  have v4 := HW.cell 4
  have v5 := HW.cell 5
  have v6 := HW.cell 6
  have v7 := HW.cell 7
  have t6 := HY.cell 6
  have t8 := HY.cell 8
  have t9 := HY.cell 9
  simp only [gl3] at s0 v4 v5 v6 v7 t6 t8 t9
  have HS := Lib.hid HS
  have HW := Lib.hid HW
  have HY := Lib.hid HY
  clear hb3 h02
  cases hop : x.opn
  all_goals
   rw [hop] at t9
   have Hop := Lib.hid hop
   clear hop
  ·
   go_wp2_with fail
   go_ret
   exact ⟨ret_bool (by simp [bodyR, Hkx.out, Hsy.out, Hop.out]), h03⟩
  cases pl
  ·
   go_wp2_with (go_at_call 48; refine (free_any _ _).mono ?_; rintro e w' ⟨rfl, rfl⟩)
   go_ret
   exact ⟨ret_bool (by simp [bodyR, Hkx.out, Hsy.out, Hop.out]), h03⟩
  go_wp2_with fail
  go_ret
  exact ⟨ret_bool (by simp [bodyR, Hkx.out, Hsy.out, Hop.out]), h03⟩
set_option maxRecDepth 100000 in
theorem fits7_any
 (ts : List Typ) (A : Option Addr) (c n : Nat) (v : Val) (pl : Bool) (A1 A2 A3 : Option Addr) (n1 n2 n3 : Nat) (w : World) (hn : n < ts.length) (hkx : ts[n].kind = 7) (hkv : v.kind = 7) (hp : properB v = true)
 (ht : RdTyps w w.heap.size (.slice A ts.length c) ts) (hv : ValAt w w.heap.size v (.slice A1 v.keys.length n1) (.slice A2 v.items.length n2) (.slice A3 v.rest.length n3))
 (hf : ∀ t, FitsOn 26 ts (.slice A ts.length c) t pl (fun y => fitV ts pl y t) (v.keys ++ v.items)) :
 Calls Try.prog 26 #[.agg #[.slice A ts.length c], .int .i64 n, valA v (.slice A1 v.keys.length n1) (.slice A2 v.items.length n2) (.slice A3 v.rest.length n3), .bool pl] w fun e w' => e = .returned (.bool (bodyV ts pl ts[n] v)) ∧ Below w.heap.size w w' := by
 have h3b := al3 w
 obtain ⟨b, o, rfl, hbb, hel⟩ := ht.elem (by omega)
 obtain ⟨vs, vm, hcells, hx⟩ := hel n hn
 clear hel
 generalize ts[n] = x at *
 obtain ⟨C1, l1, C2, l2, rfl, rfl, -, -⟩ := hx.forms
 obtain ⟨c0, c1, c2, c3, c4, c5, c6, c7, c8, c9⟩ := hcells
 have hlt : (n : Int) < ts.length := by omega
 have hd0 : decide ((n : Int) < 0) = false := by simp
 have hd1 : decide (ts.length ≤ n) = false := by simpa using hn
 simp only [valA, hkv]
 rw [hkx] at c0
 have HP := Lib.hid (fun W => proper7_any v A1 A2 A3 n1 n2 n3 W hkv)
 simp only [valA, hkv, hp] at HP
 have HF := Lib.hid hf
 have HT := Lib.hid ht
 have HV := Lib.hid hv
 have HX := Lib.hid hx
 have Hkx := Lib.hid hkx
 have Hkv := Lib.hid hkv
 have hxs := hx.lens
 have hvl := hv.lens
 clear hf ht hv hx hkx hkv hp hn
 go_enter Try.func26, Try.ntmps26
 go_wp2_with fail
 refine (HP.out _).mono ?_
 rintro e w2 ⟨rfl, hb2⟩
 have HS := (((Has.made _ _ _).alloc _).alloc _).below hb2 (by simp; omega)
 have HW := ((Has.made _ _ _).alloc _).below hb2 (by simp)
 have HY := (Has.made _ _ _).below hb2 (by simp)
 rw [alloc_hs] at HW
 rw [alloc_hs, alloc_hs] at HY
 have h02 := (h3b _ _ _).trans (hb2.mono (h3b _ _ _).size)
 have hz2 := HY.here
 have HT := Lib.hid (HT.out.on h02)
 have HV := Lib.hid (HV.out.on h02)
 have HX := Lib.hid (HX.out.keep (fun _ hp => h02.cell hp) h02.size)
 obtain ⟨v0, v1, v2, v3, v4, v5, v6, v7⟩ := HW.c8
 obtain ⟨t0, t1, t2, t3, t4, t5, t6, t7, t8, t9⟩ := HY.c10
 have s0 := HS.cell 0
 simp only [gl3] at s0
 clear hb2 h3b c0 c1 c2 c3 c4 c5 c6 c7 c8 c9
 have HS := Lib.hid HS
 have HW := Lib.hid HW
 have HY := Lib.hid HY
 have HE := Lib.hid (fun W hi ht => each_any ts (some ⟨b, o, none⟩) c x.elem pl (fun y => fitV ts pl y x.elem) v.items (.slice A2 v.items.length n2) W (fun y vk vi vr W' hm => HF.out x.elem y vk vi vr W' (by simp [hm])) hvl.2.1 hi ht)
 rw [← fitL_all] at HE
 by_cases h1 : ((v.items.length : Int) ≤ x.max)
 ·
  have h1' : decide ((v.items.length : Int) ≤ x.max) = true := decide_eq_true h1
  have h1'' : decide ((v.items.length : Int) ≤ x.max) = true := decide_eq_true (by omega)
  have Hr : Hid (bodyV ts pl x v = fitL ts pl v.items x.elem) := by show _ = _; simp [bodyR, Hkx.out, h1]
  clear h1
  go_wp2_with fail
  refine (HE.out _ HV.out.items HT.out).mono ?_
  rintro e w3 ⟨rfl, hb3⟩
  go_wp2_with fail
  go_ret
  exact ⟨ret_bool (by rw [Hr.out]), h02.trans (hb3.mono h02.size)⟩
 have h1' : decide ((v.items.length : Int) ≤ x.max) = false := decide_eq_false h1
 have h1'' : decide ((v.items.length : Int) ≤ x.max) = false := decide_eq_false (by omega)
 have Hr : Hid (bodyV ts pl x v = false) := by show _ = _; simp [bodyR, Hkx.out, h1]
 clear h1
 go_wp2_with fail
 go_ret
 exact ⟨ret_bool (by rw [Hr.out]), h02⟩
set_option maxRecDepth 100000 in
theorem fits9_any
 (ts : List Typ) (A : Option Addr) (c n : Nat) (v : Val) (pl : Bool) (A1 A2 A3 : Option Addr) (n1 n2 n3 : Nat) (w : World) (hn : n < ts.length) (hkx : ts[n].kind = 9) (hkv : v.kind = 9) (hp : properB v = true)
 (ht : RdTyps w w.heap.size (.slice A ts.length c) ts) (hv : ValAt w w.heap.size v (.slice A1 v.keys.length n1) (.slice A2 v.items.length n2) (.slice A3 v.rest.length n3))
 (hf : ∀ t, FitsOn 26 ts (.slice A ts.length c) t pl (fun y => fitV ts pl y t) (v.keys ++ v.items)) :
 Calls Try.prog 26 #[.agg #[.slice A ts.length c], .int .i64 n, valA v (.slice A1 v.keys.length n1) (.slice A2 v.items.length n2) (.slice A3 v.rest.length n3), .bool pl] w fun e w' => e = .returned (.bool (bodyV ts pl ts[n] v)) ∧ Below w.heap.size w w' := by
 have h3b := al3 w
 obtain ⟨b, o, rfl, hbb, hel⟩ := ht.elem (by omega)
 obtain ⟨vs, vm, hcells, hx⟩ := hel n hn
 clear hel
 generalize ts[n] = x at *
 obtain ⟨C1, l1, C2, l2, rfl, rfl, -, -⟩ := hx.forms
 obtain ⟨c0, c1, c2, c3, c4, c5, c6, c7, c8, c9⟩ := hcells
 have hlt : (n : Int) < ts.length := by omega
 have hd0 : decide ((n : Int) < 0) = false := by simp
 have hd1 : decide (ts.length ≤ n) = false := by simpa using hn
 simp only [valA, hkv]
 rw [hkx] at c0
 have HP := Lib.hid (fun W => proper9_any v A1 A2 A3 n1 n2 n3 W hkv)
 simp only [valA, hkv, hp] at HP
 have HF := Lib.hid hf
 have HT := Lib.hid ht
 have HV := Lib.hid hv
 have HX := Lib.hid hx
 have Hkx := Lib.hid hkx
 have Hkv := Lib.hid hkv
 have hxs := hx.lens
 have hvl := hv.lens
 clear hf ht hv hx hkx hkv hp hn
 go_enter Try.func26, Try.ntmps26
 go_wp2_with fail
 refine (HP.out _).mono ?_
 rintro e w2 ⟨rfl, hb2⟩
 have HS := (((Has.made _ _ _).alloc _).alloc _).below hb2 (by simp; omega)
 have HW := ((Has.made _ _ _).alloc _).below hb2 (by simp)
 have HY := (Has.made _ _ _).below hb2 (by simp)
 rw [alloc_hs] at HW
 rw [alloc_hs, alloc_hs] at HY
 have h02 := (h3b _ _ _).trans (hb2.mono (h3b _ _ _).size)
 have hz2 := HY.here
 have HT := Lib.hid (HT.out.on h02)
 have HV := Lib.hid (HV.out.on h02)
 have HX := Lib.hid (HX.out.keep (fun _ hp => h02.cell hp) h02.size)
 obtain ⟨v0, v1, v2, v3, v4, v5, v6, v7⟩ := HW.c8
 obtain ⟨t0, t1, t2, t3, t4, t5, t6, t7, t8, t9⟩ := HY.c10
 have s0 := HS.cell 0
 simp only [gl3] at s0
 clear hb2 h3b c0 c1 c2 c3 c4 c5 c6 c7 c8 c9
 have HS := Lib.hid HS
 have HW := Lib.hid HW
 have HY := Lib.hid HY
 have HE := Lib.hid (fun W hi ht => each_any ts (some ⟨b, o, none⟩) c x.elem pl (fun y => fitV ts pl y x.elem) v.items (.slice A2 v.items.length n2) W (fun y vk vi vr W' hm => HF.out x.elem y vk vi vr W' (by simp [hm])) hvl.2.1 hi ht)
 rw [← fitL_all] at HE
 by_cases h1 : (v.items.length ≤ 1)
 ·
  have h1' : decide (v.items.length ≤ 1) = true := decide_eq_true h1
  have h1'' : decide ((v.items.length : Int) ≤ 1) = true := decide_eq_true (by omega)
  have Hr : Hid (bodyV ts pl x v = fitL ts pl v.items x.elem) := by show _ = _; simp [bodyR, Hkx.out, h1]
  clear h1
  go_wp2_with fail
  refine (HE.out _ HV.out.items HT.out).mono ?_
  rintro e w3 ⟨rfl, hb3⟩
  go_wp2_with fail
  go_ret
  exact ⟨ret_bool (by rw [Hr.out]), h02.trans (hb3.mono h02.size)⟩
 have h1' : decide (v.items.length ≤ 1) = false := decide_eq_false h1
 have h1'' : decide ((v.items.length : Int) ≤ 1) = false := decide_eq_false (by omega)
 have Hr : Hid (bodyV ts pl x v = false) := by show _ = _; simp [bodyR, Hkx.out, h1]
 clear h1
 go_wp2_with fail
 go_ret
 exact ⟨ret_bool (by rw [Hr.out]), h02⟩
end Go.Proofs.Ytgeapglanckjpaa
namespace Go.Proofs.Ytgeapglanckjpaa
open Go.ChangeShapes Go.WideShapes Go.ChangeAt Go.RowKit
theorem ascB_at (l : List Val) (k : Nat) (h : k + 1 < l.length) : ascB (l.drop k) = (decide (compareV l[k] l[k+1] < 0) && ascB (l.drop (k+1))) := by
 rw [List.drop_eq_getElem_cons (show k < l.length by omega), List.drop_eq_getElem_cons h, ascB]
theorem ascB_end (l : List Val) (k : Nat) (h : l.length ≤ k + 1) : ascB (l.drop k) = true := by
 have h2 : (l.drop k).length ≤ 1 := by rw [List.length_drop]; omega
 match l.drop k, h2 with
 | [], _ => rfl
 | [_], _ => rfl
 | _ :: _ :: _, h2 => simp at h2
set_option maxRecDepth 100000 in
theorem fits8_any
 (ts : List Typ) (A : Option Addr) (c n : Nat) (v : Val) (pl : Bool) (A1 A2 A3 : Option Addr) (n1 n2 n3 : Nat) (w : World) (hn : n < ts.length) (hkx : ts[n].kind = 8) (hkv : v.kind = 8) (hp : properB v = true)
 (ht : RdTyps w w.heap.size (.slice A ts.length c) ts) (hv : ValAt w w.heap.size v (.slice A1 v.keys.length n1) (.slice A2 v.items.length n2) (.slice A3 v.rest.length n3))
 (hf : ∀ t, FitsOn 26 ts (.slice A ts.length c) t pl (fun y => fitV ts pl y t) (v.keys ++ v.items)) :
 Calls Try.prog 26 #[.agg #[.slice A ts.length c], .int .i64 n, valA v (.slice A1 v.keys.length n1) (.slice A2 v.items.length n2) (.slice A3 v.rest.length n3), .bool pl] w fun e w' => e = .returned (.bool (bodyV ts pl ts[n] v)) ∧ Below w.heap.size w w' := by
 have h3b := al3 w
 obtain ⟨b, o, rfl, hbb, hel⟩ := ht.elem (by omega)
 obtain ⟨vs, vm, hcells, hx⟩ := hel n hn
 clear hel
 generalize ts[n] = x at *
 obtain ⟨C1, l1, C2, l2, rfl, rfl, -, -⟩ := hx.forms
 obtain ⟨c0, c1, c2, c3, c4, c5, c6, c7, c8, c9⟩ := hcells
 have hlt : (n : Int) < ts.length := by omega
 have hd0 : decide ((n : Int) < 0) = false := by simp
 have hd1 : decide (ts.length ≤ n) = false := by simpa using hn
 simp only [valA, hkv]
 rw [hkx] at c0
 have HP := Lib.hid (fun W => proper8_any v A1 A2 A3 n1 n2 n3 W hkv)
 simp only [valA, hkv, hp] at HP
 have HF := Lib.hid hf
 have HT := Lib.hid ht
 have HV := Lib.hid hv
 have HX := Lib.hid hx
 have Hkx := Lib.hid hkx
 have Hkv := Lib.hid hkv
 have hxs := hx.lens
 have hvl := hv.lens
 clear hf ht hv hx hkx hkv hp hn
 go_enter Try.func26, Try.ntmps26
 go_wp2_with fail
 refine (HP.out _).mono ?_
 rintro e w2 ⟨rfl, hb2⟩
 have HS := (((Has.made _ _ _).alloc _).alloc _).below hb2 (by simp; omega)
 have HW := ((Has.made _ _ _).alloc _).below hb2 (by simp)
 have HY := (Has.made _ _ _).below hb2 (by simp)
 rw [alloc_hs] at HW
 rw [alloc_hs, alloc_hs] at HY
 have h02 := (h3b _ _ _).trans (hb2.mono (h3b _ _ _).size)
 have hz2 := HY.here
 have HT := Lib.hid (HT.out.on h02)
 have HV := Lib.hid (HV.out.on h02)
 have HX := Lib.hid (HX.out.keep (fun _ hp => h02.cell hp) h02.size)
 obtain ⟨v0, v1, v2, v3, v4, v5, v6, v7⟩ := HW.c8
 obtain ⟨t0, t1, t2, t3, t4, t5, t6, t7, t8, t9⟩ := HY.c10
 have s0 := HS.cell 0
 simp only [gl3] at s0
 clear hb2 h3b c0 c1 c2 c3 c4 c5 c6 c7 c8 c9
 have HS := Lib.hid HS
 have HW := Lib.hid HW
 have HY := Lib.hid HY
 have HK := Lib.hid (fun W hi ht => each_any ts (some ⟨b, o, none⟩) c x.key pl (fun y => fitV ts pl y x.key) v.keys (.slice A1 v.keys.length n1) W (fun y vk vi vr W' hm => HF.out x.key y vk vi vr W' (by simp [hm])) hvl.1 hi ht)
 have HE := Lib.hid (fun W hi ht => each_any ts (some ⟨b, o, none⟩) c x.elem pl (fun y => fitV ts pl y x.elem) v.items (.slice A2 v.items.length n2) W (fun y vk vi vr W' hm => HF.out x.elem y vk vi vr W' (by simp [hm])) hvl.2.1 hi ht)
 rw [← fitL_all] at HE HK
 have Hb : Hid (bodyV ts pl x v = (decide ((v.keys.length : Int) ≤ x.max) && (decide (v.items.length = v.keys.length) && (fitL ts pl v.keys x.key && (ascB v.keys && fitL ts pl v.items x.elem))))) := by
  show _ = _
  simp [bodyR, Hkx.out]
 by_cases h1 : ((v.keys.length : Int) ≤ x.max)
 ·
  have h1' : decide (x.max < (v.keys.length : Int)) = false := decide_eq_false (by omega)
  by_cases h2 : v.items.length = v.keys.length
  ·
   have h2' : ((v.items.length : Int) != (v.keys.length : Int)) = false := by simp [h2]
   rw [decide_eq_true h1, decide_eq_true h2] at Hb
   clear h1 h2
   cases hfk : fitL ts pl v.keys x.key
   ·
    rw [hfk] at HK Hb
    clear hfk
    go_wp2_with fail
    refine (HK.out _ HV.out.keys HT.out).mono ?_
    rintro e w3 ⟨rfl, hb3⟩
    go_wp2_with fail
    go_ret
    exact ⟨ret_bool (by rw [Hb.out]; simp), h02.trans (hb3.mono h02.size)⟩
   rw [hfk] at HK Hb
   clear hfk
   go_wp2_with fail
   refine (HK.out _ HV.out.keys HT.out).mono ?_
   rintro e w3 ⟨rfl, hb3⟩
   have h03 := h02.trans (hb3.mono h02.size)
   have HV := Lib.hid (HV.out.on hb3)
   have HT := Lib.hid (HT.out.on hb3)
   have HX := Lib.hid (HX.out.on hb3)
   have HS := HS.out.below hb3 (by omega)
   have HW := HW.out.below hb3 (by omega)
   have HY := HY.out.below hb3 (by omega)
   have hz3 := HY.here
   clear s0 v0 v1 v2 v3 v4 v5 v6 v7 t0 t1 t2 t3 t4 t5 t6 t7 t8 t9
   have s0 := HS.cell 0
   have v4 := HW.cell 4
   have v5 := HW.cell 5
   have v6 := HW.cell 6
   have v7 := HW.cell 7
   have t6 := HY.cell 6
   have t8 := HY.cell 8
   have t9 := HY.cell 9
   simp only [gl3] at s0 v4 v5 v6 v7 t6 t8 t9
   have HS := Lib.hid HS
   have HW := Lib.hid HW
   have HY := Lib.hid HY
   clear hb3 h02
   go_wp2_with fail
   have HHS := HS
   have HHW := HW
   have HHY := HY
   clear HS HW HY HP HK
   go_loopw [20] (fun i wr => ∃ k : Nat, i = .int .i64 ((k : Int) + 1) ∧ k ≤ v.keys.length ∧ ascB v.keys = ascB (v.keys.drop k) ∧ Below w3.heap.size w3 wr) (fun i _ => v.keys.length + 1 - (intOf i).toNat)
   case atStart => exact ⟨0, rfl, by omega, rfl, Below.refl _ _⟩
   case round =>
    obtain ⟨k, rfl, hk, hix, hb⟩ := hrel
    have q0 := (HHS.out.below hb (by omega)).cell 0
    have q5 := (HHW.out.below hb (by omega)).cell 5
    have q6 := (HHW.out.below hb (by omega)).cell 6
    have q8 := (HHY.out.below hb (by omega)).cell 8
    simp only [gl3] at q0 q5 q6 q8
    by_cases hlt : k + 1 < v.keys.length
    ·
     obtain ⟨bk, ok, rfl, hbk, hek⟩ := (HV.out.on hb).keys.elem (by omega)
     obtain ⟨xk, xi, xr, hcx, hxa⟩ := hek k (by omega)
     obtain ⟨yk, yi, yr, hcy, hya⟩ := hek (k+1) hlt
     rw [ascB_at _ _ hlt] at hix
     generalize v.keys[k] = a at *
     generalize v.keys[k+1] = d at *
     obtain ⟨E1, k1, E2, k2, E3, k3, rfl, rfl, rfl, -, -, -⟩ := hxa.forms
     obtain ⟨F1, m1, F2, m2, F3, m3, rfl, rfl, rfl, -, -, -⟩ := hya.forms
     obtain ⟨a0, a1, a2, a3, a4, a5, a6, a7⟩ := hcx
     obtain ⟨d0, d1, d2, d3, d4, d5, d6, d7⟩ := hcy
     have HA := Lib.hid hxa
     have HD := Lib.hid hya
     have Hix := Lib.hid hix
     have hi1 : (k : Int) + 1 < v.keys.length := by omega
     have hi2 : (k : Int) < v.keys.length := by omega
     have h0r := h03.trans (hb.mono h03.size)
     clear hek hxa hya hix
     go_wp2_with fail
     have hw0 : IntKind.i64.wrap (k : Int) = k := IntWalk.i64_in _ (by omega)
     have hw1 : IntKind.i64.wrap ((k : Int) + 1 - 1) = k := by rw [Int.add_sub_cancel]; exact hw0
     have hw2 : ((k : Int) + 1).toNat = k + 1 := by omega
     have hw3 : 0 ≤ (k : Int) + 1 := by omega
     go_still_tail 11, (by kernel_rfl)
     change wpList _ _ _ _ _ wr.drew
     have HA := Lib.hid (HA.out.on (w' := wr.drew) (Below.refl _ _).drew)
     have HD := Lib.hid (HD.out.on (w' := wr.drew) (Below.refl _ _).drew)
     have hbd := hb.drew
     have h0d := h0r.drew
     obtain ⟨cv, hcv⟩ : ∃ cv, Hid (compareV a d = cv) := ⟨_, rfl⟩
     clear hb h0r a0 a1 a2 a3 a4 a5 a6 a7 d0 d1 d2 d3 d4 d5 d6 d7 q0 q5 q6 q8
     generalize wr.drew = w4 at *
     go_wp2_with fail
     refine (vcompare_any a d _ _ _ _ _ _ _ HA.out HD.out).mono ?_
     rintro e w5 ⟨rfl, hb5⟩
     have hb05 := hbd.trans (hb5.mono hbd.size)
     have h05 := h0d.trans (hb5.mono h0d.size)
     rw [hcv.out] at Hix ⊢
     clear hw0 hw1 hw2 hw3 hb5 hbd h0d hcv
     by_cases hneg : cv < 0
     ·
      have hd : decide (0 ≤ cv) = false := decide_eq_false (by omega)
      rw [decide_eq_true hneg, Bool.true_and] at Hix
      go_wp2_with fail
      go_roundw
      case rel => exact ⟨k + 1, by go_num, by omega, Hix.out, hb05⟩
      case measure => simp [intOf]; omega
     have hd : decide (0 ≤ cv) = true := decide_eq_true (by omega)
     rw [decide_eq_false hneg, Bool.false_and] at Hix
     rw [Hix.out] at Hb
     go_wp2_with fail
     go_ret
     exact ⟨ret_bool (by rw [Hb.out]; simp), h05⟩
    rw [ascB_end _ _ (by omega)] at hix
    rw [hix] at Hb
    have HIr := Lib.hid ((HV.out.on hb).items)
    have HTr := Lib.hid (HT.out.on hb)
    have h0r := h03.trans (hb.mono h03.size)
    clear hix hb h03
    go_wp2_with fail
    refine (HE.out _ HIr.out HTr.out).mono ?_
    rintro e w5 ⟨rfl, hb5⟩
    go_wp2_with fail
    go_ret
    exact ⟨ret_bool (by rw [Hb.out]; simp), h0r.trans (hb5.mono h0r.size)⟩
  have h2' : ((v.items.length : Int) != (v.keys.length : Int)) = true := by rw [bne_iff_ne]; omega
  rw [decide_eq_true h1, decide_eq_false h2] at Hb
  clear h1 h2
  go_wp2_with fail
  go_ret
  exact ⟨ret_bool (by rw [Hb.out]; simp), h02⟩
 have h1' : decide (x.max < (v.keys.length : Int)) = true := decide_eq_true (by omega)
 rw [decide_eq_false h1] at Hb
 clear h1
 go_wp2_with fail
 go_ret
 exact ⟨ret_bool (by rw [Hb.out]; simp), h02⟩
end Go.Proofs.Ytgeapglanckjpaa

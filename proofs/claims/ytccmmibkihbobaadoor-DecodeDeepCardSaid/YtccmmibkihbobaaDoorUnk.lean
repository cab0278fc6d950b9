/- unknown. No condition. -/
import Derived.Test.YtccmmibkihbobaaDoorHAD
import Derived.Test.YtccmmibkihbobaaDoorDecG
set_option maxHeartbeats 1600000
namespace Go.Proofs.YtccmmibkihbobaaDoor
open Go.ChangeShapes Go.WideShapes Go.ChangeAt Go.RowKit
theorem w64_add (a b : Int) : wrap64 (a + wrap64 b) = wrap64 (a + b) := by unfold wrap64; omega
theorem w64_step (a b c : Int) : wrap64 (IntKind.i64.wrap (a + wrap64 b) + c) = wrap64 (a + (b + c)) := by rw [IntKind.wrap_i64]; unfold wrap64; omega
theorem w64_in (a : Int) : IntKind.i64.wrap a = wrap64 (IntKind.i64.wrap a) := by rw [IntKind.wrap_i64]; unfold wrap64; omega
def UnkOn (ts : List Typ) (tv : Value) (l : List Val) : Prop := ∀ y ∈ l, ∀ (t : Int) (yk yi yr : Value) (W : World), fitV ts false y t = true → ValAt W W.heap.size y yk yi yr → RdTyps W W.heap.size tv ts →
 Calls Tryd.prog 25 #[.agg #[tv], .int .i64 t, valA y yk yi yr] W fun e w' => e = .returned (.int .i64 (wrap64 (partsV ts y t))) ∧ Below W.heap.size W w'
set_option maxRecDepth 100000 in
theorem unk1_any
 (ts : List Typ) (A : Option Addr) (c n : Nat) (v : Val) (A1 A2 A3 : Option Addr) (n1 n2 n3 : Nat) (w : World) (hn : n < ts.length) (hk : ts[n].kind = 1) (hkv : v.kind = 1)
 (ht : RdTyps w w.heap.size (.slice A ts.length c) ts) (hv : ValAt w w.heap.size v (.slice A1 v.keys.length n1) (.slice A2 v.items.length n2) (.slice A3 v.rest.length n3)) :
 Calls Tryd.prog 25 #[.agg #[.slice A ts.length c], .int .i64 n, valA v (.slice A1 v.keys.length n1) (.slice A2 v.items.length n2) (.slice A3 v.rest.length n3)] w fun e w' => e = .returned (.int .i64 (wrap64 (partsV ts v n))) ∧ Below w.heap.size w w' := by
 obtain ⟨b, o, rfl, hbb, hel⟩ := ht.elem (by omega)
 obtain ⟨vs, vm, hcells, hx⟩ := hel n hn
 clear hel
 have hxt : typAt ts n = some ts[n] := by unfold typAt; rw [if_pos (by omega)]; simp [hn]
 have HE := Lib.hid (partsV_eq ts v n ts[n] hxt)
 skip
 generalize ts[n] = x at *
 obtain ⟨C1, l1, C2, l2, rfl, rfl, -, -⟩ := hx.forms
 have hlt : (n : Int) < ts.length := by omega
 have hd0 : decide ((n : Int) < 0) = false := by simp
 have hd1 : decide (ts.length ≤ n) = false := by simpa using hn
 have HX := Lib.hid hx
 have HT := Lib.hid ht
 have HV := Lib.hid hv
 have HC := Lib.hid hcells
 have HKx := Lib.hid hk
 have hxs := hx.lens
 have hvl := hv.lens
 simp only [valA, hkv]
 clear hx ht hcells hn hv hxt hkv
 go_enter Tryd.func25, Tryd.ntmps25
 go_upto_region 1 with fail
 obtain ⟨wd2, hE3⟩ : ∃ ww, ww = w.alloc (.cells #[.slice (some ⟨b, o, none⟩) ts.length c] 36) := ⟨_, rfl⟩
 rw [← hE3]
 have hb1 := aB hE3
 have S := aN hE3
 obtain ⟨wd4, hE5⟩ : ∃ ww, ww = wd2.alloc (.cells #[.int .i64 1, .bool v.bool, .int .i64 v.num, .string ⟨v.str.toArray⟩, .int .i64 v.id, .slice A1 v.keys.length n1, .slice A2 v.items.length n2, .slice A3 v.rest.length n3] 45) := ⟨_, rfl⟩
 rw [← hE5]
 replace S := dB S (aB hE5)
 replace hb1 := dT hb1 (aB hE5)
 have I := aM hE5 (aZ hE3 rfl)
 clear hE3 hE5
 have hw6 := hb1
 clear hb1
 obtain ⟨c0, c1, c2, c3, c4, c5, c6, c7, c8, c9⟩ := HC.out.below (hw6) (by omega)
 rw [hk] at c0
 have cS_0 : wd4.cell? ⟨w.heap.size, 0, none⟩ = some (.slice (some ⟨b, o, none⟩) ts.length c) := S.out.cell 0
 obtain ⟨cI_0, cI_1, cI_2, cI_3, cI_4, cI_5, cI_6, cI_7⟩ := I.out.c8
 go_upto_region 2 with fail
 clear c0 c1 c2 c3 c4 c5 c6 c7 c8 c9 hd0 hd1
 clear cS_0 cI_0 cI_1 cI_2 cI_3 cI_4 cI_5 cI_6 cI_7
 obtain ⟨wd8, hE9⟩ : ∃ ww, ww = wd4.alloc (.cells #[.int .i64 1, .string ⟨x.name.toArray⟩, .int .i64 x.low, .int .i64 x.high, .int .i64 x.max, .slice C1 x.syms.length l1, .slice C2 x.mems.length l2, .int .i64 x.key, .int .i64 x.elem, .bool x.opn] 33) := ⟨_, rfl⟩
 rw [← hE9]
 have hb7 := aB hE9
 have X := aN hE9
 clear hE9
 have hl11 := S.out.here
 have hl12 := I.out.here
 have hl13 := hw6.size
 replace S := dB S hb7
 replace I := dB I hb7
 replace hw6 := dT hw6 hb7
 clear hb7
 generalize wd4.heap.size = g10 at *
 obtain ⟨gX, rfl⟩ : ∃ g, g = g10 := ⟨_, rfl⟩
 have hgX : w.heap.size + 1 < gX := by omega
 obtain ⟨cI_0, cI_1, cI_2, cI_3, cI_4, cI_5, cI_6, cI_7⟩ := I.out.c8
 obtain ⟨cX_0, cX_1, cX_2, cX_3, cX_4, cX_5, cX_6, cX_7, cX_8, cX_9⟩ := X.out.c10
 have HR : Hid (wrap64 (partsV ts v n) = (v.rest.length : Int)) := by show _ = _; rw [HE.out]; simp [partB, HKx.out]; unfold wrap64; omega
 go_wp2_with fail
 go_ret
 exact ⟨ret_int (by rw [HR.out]), hw6⟩
set_option maxRecDepth 100000 in
theorem unk2_any
 (ts : List Typ) (A : Option Addr) (c n : Nat) (v : Val) (A1 A2 A3 : Option Addr) (n1 n2 n3 : Nat) (w : World) (hn : n < ts.length) (hk : ts[n].kind = 2) (hkv : v.kind = 2)
 (ht : RdTyps w w.heap.size (.slice A ts.length c) ts) (hv : ValAt w w.heap.size v (.slice A1 v.keys.length n1) (.slice A2 v.items.length n2) (.slice A3 v.rest.length n3)) :
 Calls Tryd.prog 25 #[.agg #[.slice A ts.length c], .int .i64 n, valA v (.slice A1 v.keys.length n1) (.slice A2 v.items.length n2) (.slice A3 v.rest.length n3)] w fun e w' => e = .returned (.int .i64 (wrap64 (partsV ts v n))) ∧ Below w.heap.size w w' := by
 obtain ⟨b, o, rfl, hbb, hel⟩ := ht.elem (by omega)
 obtain ⟨vs, vm, hcells, hx⟩ := hel n hn
 clear hel
 have hxt : typAt ts n = some ts[n] := by unfold typAt; rw [if_pos (by omega)]; simp [hn]
 have HE := Lib.hid (partsV_eq ts v n ts[n] hxt)
 skip
 generalize ts[n] = x at *
 obtain ⟨C1, l1, C2, l2, rfl, rfl, -, -⟩ := hx.forms
 have hlt : (n : Int) < ts.length := by omega
 have hd0 : decide ((n : Int) < 0) = false := by simp
 have hd1 : decide (ts.length ≤ n) = false := by simpa using hn
 have HX := Lib.hid hx
 have HT := Lib.hid ht
 have HV := Lib.hid hv
 have HC := Lib.hid hcells
 have HKx := Lib.hid hk
 have hxs := hx.lens
 have hvl := hv.lens
 simp only [valA, hkv]
 clear hx ht hcells hn hv hxt hkv
 go_enter Tryd.func25, Tryd.ntmps25
 go_upto_region 1 with fail
 obtain ⟨wd15, hE16⟩ : ∃ ww, ww = w.alloc (.cells #[.slice (some ⟨b, o, none⟩) ts.length c] 36) := ⟨_, rfl⟩
 rw [← hE16]
 have hb14 := aB hE16
 have S := aN hE16
 obtain ⟨wd17, hE18⟩ : ∃ ww, ww = wd15.alloc (.cells #[.int .i64 2, .bool v.bool, .int .i64 v.num, .string ⟨v.str.toArray⟩, .int .i64 v.id, .slice A1 v.keys.length n1, .slice A2 v.items.length n2, .slice A3 v.rest.length n3] 45) := ⟨_, rfl⟩
 rw [← hE18]
 replace S := dB S (aB hE18)
 replace hb14 := dT hb14 (aB hE18)
 have I := aM hE18 (aZ hE16 rfl)
 clear hE16 hE18
 have hw19 := hb14
 clear hb14
 obtain ⟨c0, c1, c2, c3, c4, c5, c6, c7, c8, c9⟩ := HC.out.below (hw19) (by omega)
 rw [hk] at c0
 have cS_0 : wd17.cell? ⟨w.heap.size, 0, none⟩ = some (.slice (some ⟨b, o, none⟩) ts.length c) := S.out.cell 0
 obtain ⟨cI_0, cI_1, cI_2, cI_3, cI_4, cI_5, cI_6, cI_7⟩ := I.out.c8
 go_upto_region 2 with fail
 clear c0 c1 c2 c3 c4 c5 c6 c7 c8 c9 hd0 hd1
 clear cS_0 cI_0 cI_1 cI_2 cI_3 cI_4 cI_5 cI_6 cI_7
 obtain ⟨wd21, hE22⟩ : ∃ ww, ww = wd17.alloc (.cells #[.int .i64 2, .string ⟨x.name.toArray⟩, .int .i64 x.low, .int .i64 x.high, .int .i64 x.max, .slice C1 x.syms.length l1, .slice C2 x.mems.length l2, .int .i64 x.key, .int .i64 x.elem, .bool x.opn] 33) := ⟨_, rfl⟩
 rw [← hE22]
 have hb20 := aB hE22
 have X := aN hE22
 clear hE22
 have hl24 := S.out.here
 have hl25 := I.out.here
 have hl26 := hw19.size
 replace S := dB S hb20
 replace I := dB I hb20
 replace hw19 := dT hw19 hb20
 clear hb20
 generalize wd17.heap.size = g23 at *
 obtain ⟨gX, rfl⟩ : ∃ g, g = g23 := ⟨_, rfl⟩
 have hgX : w.heap.size + 1 < gX := by omega
 obtain ⟨cI_0, cI_1, cI_2, cI_3, cI_4, cI_5, cI_6, cI_7⟩ := I.out.c8
 obtain ⟨cX_0, cX_1, cX_2, cX_3, cX_4, cX_5, cX_6, cX_7, cX_8, cX_9⟩ := X.out.c10
 have HR : Hid (wrap64 (partsV ts v n) = (v.rest.length : Int)) := by show _ = _; rw [HE.out]; simp [partB, HKx.out]; unfold wrap64; omega
 go_wp2_with fail
 go_ret
 exact ⟨ret_int (by rw [HR.out]), hw19⟩
set_option maxRecDepth 100000 in
theorem unk3_any
 (ts : List Typ) (A : Option Addr) (c n : Nat) (v : Val) (A1 A2 A3 : Option Addr) (n1 n2 n3 : Nat) (w : World) (hn : n < ts.length) (hk : ts[n].kind = 3) (hkv : v.kind = 3)
 (ht : RdTyps w w.heap.size (.slice A ts.length c) ts) (hv : ValAt w w.heap.size v (.slice A1 v.keys.length n1) (.slice A2 v.items.length n2) (.slice A3 v.rest.length n3)) :
 Calls Tryd.prog 25 #[.agg #[.slice A ts.length c], .int .i64 n, valA v (.slice A1 v.keys.length n1) (.slice A2 v.items.length n2) (.slice A3 v.rest.length n3)] w fun e w' => e = .returned (.int .i64 (wrap64 (partsV ts v n))) ∧ Below w.heap.size w w' := by
 obtain ⟨b, o, rfl, hbb, hel⟩ := ht.elem (by omega)
 obtain ⟨vs, vm, hcells, hx⟩ := hel n hn
 clear hel
 have hxt : typAt ts n = some ts[n] := by unfold typAt; rw [if_pos (by omega)]; simp [hn]
 have HE := Lib.hid (partsV_eq ts v n ts[n] hxt)
 skip
 generalize ts[n] = x at *
 obtain ⟨C1, l1, C2, l2, rfl, rfl, -, -⟩ := hx.forms
 have hlt : (n : Int) < ts.length := by omega
 have hd0 : decide ((n : Int) < 0) = false := by simp
 have hd1 : decide (ts.length ≤ n) = false := by simpa using hn
 have HX := Lib.hid hx
 have HT := Lib.hid ht
 have HV := Lib.hid hv
 have HC := Lib.hid hcells
 have HKx := Lib.hid hk
 have hxs := hx.lens
 have hvl := hv.lens
 simp only [valA, hkv]
 clear hx ht hcells hn hv hxt hkv
 go_enter Tryd.func25, Tryd.ntmps25
 go_upto_region 1 with fail
 obtain ⟨wd28, hE29⟩ : ∃ ww, ww = w.alloc (.cells #[.slice (some ⟨b, o, none⟩) ts.length c] 36) := ⟨_, rfl⟩
 rw [← hE29]
 have hb27 := aB hE29
 have S := aN hE29
 obtain ⟨wd30, hE31⟩ : ∃ ww, ww = wd28.alloc (.cells #[.int .i64 3, .bool v.bool, .int .i64 v.num, .string ⟨v.str.toArray⟩, .int .i64 v.id, .slice A1 v.keys.length n1, .slice A2 v.items.length n2, .slice A3 v.rest.length n3] 45) := ⟨_, rfl⟩
 rw [← hE31]
 replace S := dB S (aB hE31)
 replace hb27 := dT hb27 (aB hE31)
 have I := aM hE31 (aZ hE29 rfl)
 clear hE29 hE31
 have hw32 := hb27
 clear hb27
 obtain ⟨c0, c1, c2, c3, c4, c5, c6, c7, c8, c9⟩ := HC.out.below (hw32) (by omega)
 rw [hk] at c0
 have cS_0 : wd30.cell? ⟨w.heap.size, 0, none⟩ = some (.slice (some ⟨b, o, none⟩) ts.length c) := S.out.cell 0
 obtain ⟨cI_0, cI_1, cI_2, cI_3, cI_4, cI_5, cI_6, cI_7⟩ := I.out.c8
 go_upto_region 2 with fail
 clear c0 c1 c2 c3 c4 c5 c6 c7 c8 c9 hd0 hd1
 clear cS_0 cI_0 cI_1 cI_2 cI_3 cI_4 cI_5 cI_6 cI_7
 obtain ⟨wd34, hE35⟩ : ∃ ww, ww = wd30.alloc (.cells #[.int .i64 3, .string ⟨x.name.toArray⟩, .int .i64 x.low, .int .i64 x.high, .int .i64 x.max, .slice C1 x.syms.length l1, .slice C2 x.mems.length l2, .int .i64 x.key, .int .i64 x.elem, .bool x.opn] 33) := ⟨_, rfl⟩
 rw [← hE35]
 have hb33 := aB hE35
 have X := aN hE35
 clear hE35
 have hl37 := S.out.here
 have hl38 := I.out.here
 have hl39 := hw32.size
 replace S := dB S hb33
 replace I := dB I hb33
 replace hw32 := dT hw32 hb33
 clear hb33
 generalize wd30.heap.size = g36 at *
 obtain ⟨gX, rfl⟩ : ∃ g, g = g36 := ⟨_, rfl⟩
 have hgX : w.heap.size + 1 < gX := by omega
 obtain ⟨cI_0, cI_1, cI_2, cI_3, cI_4, cI_5, cI_6, cI_7⟩ := I.out.c8
 obtain ⟨cX_0, cX_1, cX_2, cX_3, cX_4, cX_5, cX_6, cX_7, cX_8, cX_9⟩ := X.out.c10
 have HR : Hid (wrap64 (partsV ts v n) = (v.rest.length : Int)) := by show _ = _; rw [HE.out]; simp [partB, HKx.out]; unfold wrap64; omega
 go_wp2_with fail
 go_ret
 exact ⟨ret_int (by rw [HR.out]), hw32⟩
set_option maxRecDepth 100000 in
theorem unk4_any
 (ts : List Typ) (A : Option Addr) (c n : Nat) (v : Val) (A1 A2 A3 : Option Addr) (n1 n2 n3 : Nat) (w : World) (hn : n < ts.length) (hk : ts[n].kind = 4) (hkv : v.kind = 4)
 (ht : RdTyps w w.heap.size (.slice A ts.length c) ts) (hv : ValAt w w.heap.size v (.slice A1 v.keys.length n1) (.slice A2 v.items.length n2) (.slice A3 v.rest.length n3)) :
 Calls Tryd.prog 25 #[.agg #[.slice A ts.length c], .int .i64 n, valA v (.slice A1 v.keys.length n1) (.slice A2 v.items.length n2) (.slice A3 v.rest.length n3)] w fun e w' => e = .returned (.int .i64 (wrap64 (partsV ts v n))) ∧ Below w.heap.size w w' := by
 obtain ⟨b, o, rfl, hbb, hel⟩ := ht.elem (by omega)
 obtain ⟨vs, vm, hcells, hx⟩ := hel n hn
 clear hel
 have hxt : typAt ts n = some ts[n] := by unfold typAt; rw [if_pos (by omega)]; simp [hn]
 have HE := Lib.hid (partsV_eq ts v n ts[n] hxt)
 skip
 generalize ts[n] = x at *
 obtain ⟨C1, l1, C2, l2, rfl, rfl, -, -⟩ := hx.forms
 have hlt : (n : Int) < ts.length := by omega
 have hd0 : decide ((n : Int) < 0) = false := by simp
 have hd1 : decide (ts.length ≤ n) = false := by simpa using hn
 have HX := Lib.hid hx
 have HT := Lib.hid ht
 have HV := Lib.hid hv
 have HC := Lib.hid hcells
 have HKx := Lib.hid hk
 have hxs := hx.lens
 have hvl := hv.lens
 simp only [valA, hkv]
 clear hx ht hcells hn hv hxt hkv
 go_enter Tryd.func25, Tryd.ntmps25
 go_upto_region 1 with fail
 obtain ⟨wd41, hE42⟩ : ∃ ww, ww = w.alloc (.cells #[.slice (some ⟨b, o, none⟩) ts.length c] 36) := ⟨_, rfl⟩
 rw [← hE42]
 have hb40 := aB hE42
 have S := aN hE42
 obtain ⟨wd43, hE44⟩ : ∃ ww, ww = wd41.alloc (.cells #[.int .i64 4, .bool v.bool, .int .i64 v.num, .string ⟨v.str.toArray⟩, .int .i64 v.id, .slice A1 v.keys.length n1, .slice A2 v.items.length n2, .slice A3 v.rest.length n3] 45) := ⟨_, rfl⟩
 rw [← hE44]
 replace S := dB S (aB hE44)
 replace hb40 := dT hb40 (aB hE44)
 have I := aM hE44 (aZ hE42 rfl)
 clear hE42 hE44
 have hw45 := hb40
 clear hb40
 obtain ⟨c0, c1, c2, c3, c4, c5, c6, c7, c8, c9⟩ := HC.out.below (hw45) (by omega)
 rw [hk] at c0
 have cS_0 : wd43.cell? ⟨w.heap.size, 0, none⟩ = some (.slice (some ⟨b, o, none⟩) ts.length c) := S.out.cell 0
 obtain ⟨cI_0, cI_1, cI_2, cI_3, cI_4, cI_5, cI_6, cI_7⟩ := I.out.c8
 go_upto_region 2 with fail
 clear c0 c1 c2 c3 c4 c5 c6 c7 c8 c9 hd0 hd1
 clear cS_0 cI_0 cI_1 cI_2 cI_3 cI_4 cI_5 cI_6 cI_7
 obtain ⟨wd47, hE48⟩ : ∃ ww, ww = wd43.alloc (.cells #[.int .i64 4, .string ⟨x.name.toArray⟩, .int .i64 x.low, .int .i64 x.high, .int .i64 x.max, .slice C1 x.syms.length l1, .slice C2 x.mems.length l2, .int .i64 x.key, .int .i64 x.elem, .bool x.opn] 33) := ⟨_, rfl⟩
 rw [← hE48]
 have hb46 := aB hE48
 have X := aN hE48
 clear hE48
 have hl50 := S.out.here
 have hl51 := I.out.here
 have hl52 := hw45.size
 replace S := dB S hb46
 replace I := dB I hb46
 replace hw45 := dT hw45 hb46
 clear hb46
 generalize wd43.heap.size = g49 at *
 obtain ⟨gX, rfl⟩ : ∃ g, g = g49 := ⟨_, rfl⟩
 have hgX : w.heap.size + 1 < gX := by omega
 obtain ⟨cI_0, cI_1, cI_2, cI_3, cI_4, cI_5, cI_6, cI_7⟩ := I.out.c8
 obtain ⟨cX_0, cX_1, cX_2, cX_3, cX_4, cX_5, cX_6, cX_7, cX_8, cX_9⟩ := X.out.c10
 have HS := Lib.hid (fun W h => symbol_any x (.slice C1 x.syms.length l1) (.slice C2 x.mems.length l2) v.id W h)
 simp only [typA, HKx.out] at HS
 have HR : Hid (wrap64 (partsV ts v n) = (v.rest.length : Int) + if (symIdx x v.id).isSome then 0 else 1) := by show _ = _; rw [HE.out]; simp only [partB, HKx.out]; rw [if_pos trivial]; split <;> (unfold wrap64; omega)
 go_wp2_with fail
 clear cI_0 cI_1 cI_2 cI_3 cI_4 cI_5 cI_6 cI_7 cX_0 cX_1 cX_2 cX_3 cX_4 cX_5 cX_6 cX_7 cX_8 cX_9
 ((with_reducible refine (HS.out _ (HX.out.on hw45)).mono ?_); rintro e wd53 ⟨rfl, hb54⟩)
 replace S := dB S hb54
 replace I := dB I hb54
 replace X := dB X hb54
 replace hw45 := dT hw45 hb54
 clear hb54
 cases hsy : symIdx x v.id with
 | some i =>
  simp only [hsy, pairV, Option.isSome_some, if_true] at HR ⊢
  clear hsy HS
  have cX_0 : wd53.cell? ⟨gX, 0, none⟩ = some (.int .i64 4) := X.out.cell 0
  go_wp2_with fail
  go_ret
  exact ⟨ret_int (by rw [HR.out]; simp), hw45⟩
 | none =>
  simp only [hsy, pairV, Option.isSome_none] at HR ⊢
  clear hsy HS
  have hw : IntKind.i64.wrap ((v.rest.length : Int) + 1) = (v.rest.length : Int) + 1 := IntWalk.i64_in _ (by omega)
  have cX_0 : wd53.cell? ⟨gX, 0, none⟩ = some (.int .i64 4) := X.out.cell 0
  go_wp2_with fail
  go_ret
  exact ⟨ret_int (by rw [HR.out]; simp), hw45⟩
set_option maxRecDepth 100000 in
theorem unk5_any
 (ts : List Typ) (A : Option Addr) (c n : Nat) (v : Val) (A1 A2 A3 : Option Addr) (n1 n2 n3 : Nat) (w : World) (hn : n < ts.length) (hk : ts[n].kind = 5) (hkv : v.kind = 5)
 (ht : RdTyps w w.heap.size (.slice A ts.length c) ts) (hv : ValAt w w.heap.size v (.slice A1 v.keys.length n1) (.slice A2 v.items.length n2) (.slice A3 v.rest.length n3)) (hf : fitV ts false v n = true) (hU : UnkOn ts (.slice A ts.length c) (v.keys ++ v.items)) :
 Calls Tryd.prog 25 #[.agg #[.slice A ts.length c], .int .i64 n, valA v (.slice A1 v.keys.length n1) (.slice A2 v.items.length n2) (.slice A3 v.rest.length n3)] w fun e w' => e = .returned (.int .i64 (wrap64 (partsV ts v n))) ∧ Below w.heap.size w w' := by
 obtain ⟨b, o, rfl, hbb, hel⟩ := ht.elem (by omega)
 obtain ⟨vs, vm, hcells, hx⟩ := hel n hn
 clear hel
 have hxt : typAt ts n = some ts[n] := by unfold typAt; rw [if_pos (by omega)]; simp [hn]
 have HE := Lib.hid (partsV_eq ts v n ts[n] hxt)
 have hfit := fit5 hxt hf hk; have HF:= Lib.hid hfit.2; have hil := Lib.hid hfit.1; have HUn := Lib.hid hU; clear hf hU hfit
 generalize ts[n] = x at *
 obtain ⟨C1, l1, C2, l2, rfl, rfl, -, -⟩ := hx.forms
 have hlt : (n : Int) < ts.length := by omega
 have hd0 : decide ((n : Int) < 0) = false := by simp
 have hd1 : decide (ts.length ≤ n) = false := by simpa using hn
 have HX := Lib.hid hx
 have HT := Lib.hid ht
 have HV := Lib.hid hv
 have HC := Lib.hid hcells
 have HKx := Lib.hid hk
 have hxs := hx.lens
 have hvl := hv.lens
 simp only [valA, hkv]
 clear hx ht hcells hn hv hxt hkv
 go_enter Tryd.func25, Tryd.ntmps25
 go_upto_region 1 with fail
 obtain ⟨wd56, hE57⟩ : ∃ ww, ww = w.alloc (.cells #[.slice (some ⟨b, o, none⟩) ts.length c] 36) := ⟨_, rfl⟩
 rw [← hE57]
 have hb55 := aB hE57
 have S := aN hE57
 obtain ⟨wd58, hE59⟩ : ∃ ww, ww = wd56.alloc (.cells #[.int .i64 5, .bool v.bool, .int .i64 v.num, .string ⟨v.str.toArray⟩, .int .i64 v.id, .slice A1 v.keys.length n1, .slice A2 v.items.length n2, .slice A3 v.rest.length n3] 45) := ⟨_, rfl⟩
 rw [← hE59]
 replace S := dB S (aB hE59)
 replace hb55 := dT hb55 (aB hE59)
 have I := aM hE59 (aZ hE57 rfl)
 clear hE57 hE59
 have hw60 := hb55
 clear hb55
 obtain ⟨c0, c1, c2, c3, c4, c5, c6, c7, c8, c9⟩ := HC.out.below (hw60) (by omega)
 rw [hk] at c0
 have cS_0 : wd58.cell? ⟨w.heap.size, 0, none⟩ = some (.slice (some ⟨b, o, none⟩) ts.length c) := S.out.cell 0
 obtain ⟨cI_0, cI_1, cI_2, cI_3, cI_4, cI_5, cI_6, cI_7⟩ := I.out.c8
 go_upto_region 2 with fail
 clear c0 c1 c2 c3 c4 c5 c6 c7 c8 c9 hd0 hd1
 clear cS_0 cI_0 cI_1 cI_2 cI_3 cI_4 cI_5 cI_6 cI_7
 obtain ⟨wd62, hE63⟩ : ∃ ww, ww = wd58.alloc (.cells #[.int .i64 5, .string ⟨x.name.toArray⟩, .int .i64 x.low, .int .i64 x.high, .int .i64 x.max, .slice C1 x.syms.length l1, .slice C2 x.mems.length l2, .int .i64 x.key, .int .i64 x.elem, .bool x.opn] 33) := ⟨_, rfl⟩
 rw [← hE63]
 have hb61 := aB hE63
 have X := aN hE63
 clear hE63
 have hl65 := S.out.here
 have hl66 := I.out.here
 have hl67 := hw60.size
 replace S := dB S hb61
 replace I := dB I hb61
 replace hw60 := dT hw60 hb61
 clear hb61
 generalize wd58.heap.size = g64 at *
 obtain ⟨gX, rfl⟩ : ∃ g, g = g64 := ⟨_, rfl⟩
 have hgX : w.heap.size + 1 < gX := by omega
 obtain ⟨cI_0, cI_1, cI_2, cI_3, cI_4, cI_5, cI_6, cI_7⟩ := I.out.c8
 obtain ⟨cX_0, cX_1, cX_2, cX_3, cX_4, cX_5, cX_6, cX_7, cX_8, cX_9⟩ := X.out.c10
 have HR : Hid (wrap64 (partsV ts v n) = wrap64 ((v.rest.length : Int) + partsZ ts v.items x.mems)) := by show _ = _; rw [HE.out]; simp [partB, HKx.out]
 have hl0 : Hid (Has wd62 w.heap.size _ _ ∧ Has wd62 (w.heap.size + 1) _ _ ∧ Has wd62 gX _ _ ∧ Below w.heap.size w wd62) := Lib.hid ⟨S.out, I.out, X.out, hw60⟩
 go_upto_region 10 with fail
 clear S I X
 go_loopw [47, 8] (fun i s wr => ∃ (k : Nat) (a : Int), i = .int .i64 (k : Int) ∧ s = .int .i64 a ∧ k ≤ v.items.length ∧ wrap64 a = a ∧ wrap64 (a + partsZ ts (v.items.drop k) (x.mems.drop k)) = wrap64 (partsV ts v n) ∧ Has wr w.heap.size 36 #[.slice (some ⟨b, o, none⟩) ts.length c] ∧ Has wr (w.heap.size + 1) 45 #[.int .i64 5, .bool v.bool, .int .i64 v.num, .string ⟨v.str.toArray⟩, .int .i64 v.id, .slice A1 v.keys.length n1, .slice A2 v.items.length n2, .slice A3 v.rest.length n3] ∧ Has wr gX 33 #[.int .i64 5, .string ⟨x.name.toArray⟩, .int .i64 x.low, .int .i64 x.high, .int .i64 x.max, .slice C1 x.syms.length l1, .slice C2 x.mems.length l2, .int .i64 x.key, .int .i64 x.elem, .bool x.opn] ∧ Below w.heap.size w wr) (fun i _ _ => v.items.length - (intOf i).toNat)
 case atStart => exact ⟨0, _, rfl, rfl, by omega, by unfold wrap64; omega, HR.out.symm, hl0.out⟩
 case round =>
  clear hl0
  obtain ⟨k, a, rfl, rfl, hk1, ha, hp, S, I, X, hbr⟩ := hrel
  replace S := Lib.hid S
  replace I := Lib.hid I
  replace X := Lib.hid X
  by_cases hlt : k < v.items.length
  ·
   have hlt2 : k < x.mems.length := by have := hil.out; omega
   have hfk := HF.out k hlt hlt2
   have hmem : v.items[k] ∈ v.keys ++ v.items := List.mem_append.2 (.inr (List.getElem_mem hlt))
   obtain ⟨b1, o1, rfl, hbb1, hel1⟩ := HV.out.items.elem (by omega)
   obtain ⟨yk, yi, yr, hc1, hya⟩ := hel1 k hlt
   obtain ⟨b2, o2, rfl, hbb2, hel2⟩ := HX.out.mems.elem (by omega)
   obtain ⟨mk, mi, mr, hc2, hma⟩ := hel2 k hlt2
   rw [partsZ_at ts v.items x.mems k hlt hlt2] at hp
   have HU1 := Lib.hid (fun W yk yi yr h1 h2 => HUn.out _ hmem x.mems[k].ty yk yi yr W hfk h1 h2)
   have hm2 : w.cell? ⟨b2, o2 + k * 13 + 2, none⟩ = some (.int .i64 x.mems[k].ty) := hc2.2.2.1
   generalize v.items[k] = y at *
   generalize x.mems[k].ty = mt at *
   have HYA := Lib.hid hya
   have Hp := Lib.hid hp
   have hlti : (k : Int) < v.items.length := by omega
   have hlti2 : (k : Int) < x.mems.length := by omega
   have hd0 : decide ((k : Int) < 0) = false := by simp
   have hd1 : decide (x.mems.length ≤ k) = false := by simpa using hlt2
   obtain ⟨E1, k1, E2, k2, E3, k3, rfl, rfl, rfl, -, -, -⟩ := hya.forms
   obtain ⟨y0, y1, y2, y3, y4, y5, y6, y7⟩ := hc1.below hbr hbb1
   clear hel1 hel2 hma hya hc1 hc2 hp hfk hmem
   have cI_6 : wr.cell? ⟨w.heap.size + 1, 6, none⟩ = some (.slice (some ⟨b1, o1, none⟩) v.items.length n2) := I.out.cell 6
   go_upto_region 12 with fail
   clear y0 y1 y2 y3 y4 y5 y6 y7
   clear cI_6
   obtain ⟨wd69, hE70⟩ : ∃ ww, ww = wr.alloc (.cells #[.int .i64 y.kind, .bool y.bool, .int .i64 y.num, .string ⟨y.str.toArray⟩, .int .i64 y.id, .slice E1 y.keys.length k1, .slice E2 y.items.length k2, .slice E3 y.rest.length k3] 45) := ⟨_, rfl⟩
   rw [← hE70]
   have hb68 := aB hE70
   have Y := aN hE70
   clear hE70
   have hl72 := S.out.here
   have hl73 := I.out.here
   have hl74 := X.out.here
   have hl75 := hbr.size
   replace S := dB S hb68
   replace I := dB I hb68
   replace X := dB X hb68
   replace hbr := dT hbr hb68
   clear hb68
   generalize wr.heap.size = g71 at *
   have cS_0 : wd69.cell? ⟨w.heap.size, 0, none⟩ = some (.slice (some ⟨b, o, none⟩) ts.length c) := S.out.cell 0
   have cX_6 : wd69.cell? ⟨gX, 6, none⟩ = some (.slice (some ⟨b2, o2, none⟩) x.mems.length l2) := X.out.cell 6
   obtain ⟨cY_0, cY_1, cY_2, cY_3, cY_4, cY_5, cY_6, cY_7⟩ := Y.out.c8
   refine wp_region_held_drew (S := (fun w' => w'.cell? ⟨w.heap.size, 0, none⟩ = some (.slice (some ⟨b, o, none⟩) ts.length c) ∧ w'.cell? ⟨gX, 6, none⟩ = some (.slice (some ⟨b2, o2, none⟩) x.mems.length l2) ∧ w'.cell? ⟨g71, 0, none⟩ = some (.int .i64 y.kind) ∧ w'.cell? ⟨g71, 1, none⟩ = some (.bool y.bool) ∧ w'.cell? ⟨g71, 2, none⟩ = some (.int .i64 y.num) ∧ w'.cell? ⟨g71, 3, none⟩ = some (.string ⟨y.str.toArray⟩) ∧ w'.cell? ⟨g71, 4, none⟩ = some (.int .i64 y.id) ∧ w'.cell? ⟨g71, 5, none⟩ = some (.slice E1 y.keys.length k1) ∧ w'.cell? ⟨g71, 6, none⟩ = some (.slice E2 y.items.length k2) ∧ w'.cell? ⟨g71, 7, none⟩ = some (.slice E3 y.rest.length k3) ∧ (w'.cell? ⟨b2, o2 + k * 13 + 2, none⟩ = some (.int .i64 mt)))) (by kernel_rfl) ⟨cS_0, cX_6, cY_0, cY_1, cY_2, cY_3, cY_4, cY_5, cY_6, cY_7, (((hbr).cell (p := ⟨b2, o2 + k * 13 + 2, none⟩) (show b2 < w.heap.size by omega)).trans hm2)⟩ (fun hHeld => ?_)
   clear cS_0 cX_6 cY_0 cY_1 cY_2 cY_3 cY_4 cY_5 cY_6 cY_7
   have hb76 : Below wd69.heap.size wd69 (wd69.drew) := (Below.refl _ _).drew
   replace S := dB S hb76
   replace I := dB I hb76
   replace X := dB X hb76
   replace Y := dB Y hb76
   replace hbr := dT hbr hb76
   clear hb76
   generalize wd69.drew = wd77 at *
   refine tk (i := 0) (v := ?k78) ?_
   simp only [put_laws2]
   refine tk (i := 1) (v := ?k79) ?_
   simp only [put_laws2]
   refine tk (i := 2) (v := ?k80) ?_
   simp only [put_laws2]
   refine tk (i := 3) (v := ?k81) ?_
   simp only [put_laws2]
   refine tk (i := 4) (v := ?k82) ?_
   simp only [put_laws2]
   refine tk (i := 5) (v := ?k83) ?_
   simp only [put_laws2]
   refine tk (i := 6) (v := ?k84) ?_
   simp only [put_laws2]
   refine tk (i := 7) (v := ?k85) ?_
   simp only [put_laws2]
   refine tk (i := 8) (v := ?k86) ?_
   simp only [put_laws2]
   refine rd1 (i := 9) (fun K hK => ?_)
   go_simp
   ((with_reducible refine (HU1.out _ _ _ _ (HYA.out.on hbr) (HT.out.on hbr)).mono ?_); rintro e wd87 ⟨rfl, hb88⟩)
   replace S := dB S hb88
   replace I := dB I hb88
   replace X := dB X hb88
   replace Y := dB Y hb88
   replace hbr := dT hbr hb88
   clear hb88
   try clear hHeld
   refine hK.out _ _ (⟨S.out.cell 0, ⟨X.out.cell 6, d8 Y ((((hbr).cell (p := ⟨b2, o2 + k * 13 + 2, none⟩) (show b2 < w.heap.size by omega)).trans hm2))⟩⟩) (fun hHeld => ?_)
   clear hK K
   refine tk (i := 10) (v := ?k89) ?_
   simp only [put_laws2]
   refine tk (i := 11) (v := ?k90) ?_
   simp only [put_laws2]
   refine wpAnyH_done (by kernel_rfl) ?_ _
   try clear hHeld
   go_wp2_with fail
   go_roundw
   case rel => exact ⟨k + 1, _, by go_num, rfl, by omega, (w64_in _).symm, by rw [w64_step]; exact Hp.out, S.out, I.out, X.out, hbr⟩
   case measure => simp [intOf]; omega
  rw [partsZ_end _ _ _ _ (by omega), Int.add_zero, ha] at hp
  have hn1 : ¬ (k : Int) < v.items.length := by omega
  have Hp := Lib.hid hp
  clear hp
  have cI_6 : wr.cell? ⟨w.heap.size + 1, 6, none⟩ = some (.slice A2 v.items.length n2) := I.out.cell 6
  go_wp2_with fail
  go_ret
  exact ⟨ret_int Hp.out, hbr⟩
set_option maxRecDepth 100000 in
theorem unk6_any
 (ts : List Typ) (A : Option Addr) (c n : Nat) (v : Val) (A1 A2 A3 : Option Addr) (n1 n2 n3 : Nat) (w : World) (hn : n < ts.length) (hk : ts[n].kind = 6) (hkv : v.kind = 6)
 (ht : RdTyps w w.heap.size (.slice A ts.length c) ts) (hv : ValAt w w.heap.size v (.slice A1 v.keys.length n1) (.slice A2 v.items.length n2) (.slice A3 v.rest.length n3)) (hf : fitV ts false v n = true) (hU : UnkOn ts (.slice A ts.length c) (v.keys ++ v.items)) :
 Calls Tryd.prog 25 #[.agg #[.slice A ts.length c], .int .i64 n, valA v (.slice A1 v.keys.length n1) (.slice A2 v.items.length n2) (.slice A3 v.rest.length n3)] w fun e w' => e = .returned (.int .i64 (wrap64 (partsV ts v n))) ∧ Below w.heap.size w w' := by
 obtain ⟨b, o, rfl, hbb, hel⟩ := ht.elem (by omega)
 obtain ⟨vs, vm, hcells, hx⟩ := hel n hn
 clear hel
 have hxt : typAt ts n = some ts[n] := by unfold typAt; rw [if_pos (by omega)]; simp [hn]
 have HE := Lib.hid (partsV_eq ts v n ts[n] hxt)
 have hfit := fun i h => fit6 (i := i) hxt hf hk h; have HUn := Lib.hid hU; clear hf hU
 generalize ts[n] = x at *
 obtain ⟨C1, l1, C2, l2, rfl, rfl, -, -⟩ := hx.forms
 have hlt : (n : Int) < ts.length := by omega
 have hd0 : decide ((n : Int) < 0) = false := by simp
 have hd1 : decide (ts.length ≤ n) = false := by simpa using hn
 have HX := Lib.hid hx
 have HT := Lib.hid ht
 have HV := Lib.hid hv
 have HC := Lib.hid hcells
 have HKx := Lib.hid hk
 have hxs := hx.lens
 have hvl := hv.lens
 simp only [valA, hkv]
 clear hx ht hcells hn hv hxt hkv
 go_enter Tryd.func25, Tryd.ntmps25
 go_upto_region 1 with fail
 obtain ⟨wd92, hE93⟩ : ∃ ww, ww = w.alloc (.cells #[.slice (some ⟨b, o, none⟩) ts.length c] 36) := ⟨_, rfl⟩
 rw [← hE93]
 have hb91 := aB hE93
 have S := aN hE93
 obtain ⟨wd94, hE95⟩ : ∃ ww, ww = wd92.alloc (.cells #[.int .i64 6, .bool v.bool, .int .i64 v.num, .string ⟨v.str.toArray⟩, .int .i64 v.id, .slice A1 v.keys.length n1, .slice A2 v.items.length n2, .slice A3 v.rest.length n3] 45) := ⟨_, rfl⟩
 rw [← hE95]
 replace S := dB S (aB hE95)
 replace hb91 := dT hb91 (aB hE95)
 have I := aM hE95 (aZ hE93 rfl)
 clear hE93 hE95
 have hw96 := hb91
 clear hb91
 obtain ⟨c0, c1, c2, c3, c4, c5, c6, c7, c8, c9⟩ := HC.out.below (hw96) (by omega)
 rw [hk] at c0
 have cS_0 : wd94.cell? ⟨w.heap.size, 0, none⟩ = some (.slice (some ⟨b, o, none⟩) ts.length c) := S.out.cell 0
 obtain ⟨cI_0, cI_1, cI_2, cI_3, cI_4, cI_5, cI_6, cI_7⟩ := I.out.c8
 go_upto_region 2 with fail
 clear c0 c1 c2 c3 c4 c5 c6 c7 c8 c9 hd0 hd1
 clear cS_0 cI_0 cI_1 cI_2 cI_3 cI_4 cI_5 cI_6 cI_7
 obtain ⟨wd98, hE99⟩ : ∃ ww, ww = wd94.alloc (.cells #[.int .i64 6, .string ⟨x.name.toArray⟩, .int .i64 x.low, .int .i64 x.high, .int .i64 x.max, .slice C1 x.syms.length l1, .slice C2 x.mems.length l2, .int .i64 x.key, .int .i64 x.elem, .bool x.opn] 33) := ⟨_, rfl⟩
 rw [← hE99]
 have hb97 := aB hE99
 have X := aN hE99
 clear hE99
 have hl101 := S.out.here
 have hl102 := I.out.here
 have hl103 := hw96.size
 replace S := dB S hb97
 replace I := dB I hb97
 replace hw96 := dT hw96 hb97
 clear hb97
 generalize wd94.heap.size = g100 at *
 obtain ⟨gX, rfl⟩ : ∃ g, g = g100 := ⟨_, rfl⟩
 have hgX : w.heap.size + 1 < gX := by omega
 obtain ⟨cI_0, cI_1, cI_2, cI_3, cI_4, cI_5, cI_6, cI_7⟩ := I.out.c8
 obtain ⟨cX_0, cX_1, cX_2, cX_3, cX_4, cX_5, cX_6, cX_7, cX_8, cX_9⟩ := X.out.c10
 have HM := Lib.hid (fun W h => member_any x (.slice C1 x.syms.length l1) (.slice C2 x.mems.length l2) v.id W h)
 simp only [typA, HKx.out] at HM
 have HF := Lib.hid hfit
 clear hfit
 go_wp2_with fail
 clear cI_0 cI_1 cI_2 cI_3 cI_4 cI_5 cI_6 cI_7 cX_0 cX_1 cX_2 cX_3 cX_4 cX_5 cX_6 cX_7 cX_8 cX_9
 ((with_reducible refine (HM.out _ (HX.out.on hw96)).mono ?_); rintro e wd104 ⟨rfl, hb105⟩)
 replace S := dB S hb105
 replace I := dB I hb105
 replace X := dB X hb105
 replace hw96 := dT hw96 hb105
 clear hb105
 clear HM
 cases hmi : memIdx x v.id with
 | none =>
  have HR : Hid (wrap64 (partsV ts v n) = (v.rest.length : Int)) := by show _ = _; rw [HE.out]; simp [partB, HKx.out, hmi]; unfold wrap64; omega
  simp only [pairV, Option.isSome_none]
  clear hmi
  go_wp2_with fail
  go_ret
  exact ⟨ret_int (by rw [HR.out]), hw96⟩
 | some i =>
  obtain ⟨hlt, hlt2, hfk⟩ := HF.out i hmi
  have HR : Hid (wrap64 (partsV ts v n) = wrap64 ((v.rest.length : Int) + partsV ts v.items[0] x.mems[i].ty)) := by show _ = _; rw [HE.out]; simp [partB, HKx.out, hmi, List.getElem?_eq_getElem hlt2, partsH_at ts v.items _ hlt]
  simp only [pairV, Option.isSome_some]
  have hmem : v.items[0] ∈ v.keys ++ v.items := List.mem_append.2 (.inr (List.getElem_mem hlt))
  obtain ⟨b1, o1, rfl, hbb1, hel1⟩ := HV.out.items.elem (by omega)
  obtain ⟨yk, yi, yr, hc1, hya⟩ := hel1 0 hlt
  obtain ⟨b2, o2, rfl, hbb2, hel2⟩ := HX.out.mems.elem (by omega)
  obtain ⟨mk, mi, mr, hc2, hma⟩ := hel2 i hlt2
  have HU1 := Lib.hid (fun W yk yi yr h1 h2 => HUn.out _ hmem x.mems[i].ty yk yi yr W hfk h1 h2)
  have hm2 : w.cell? ⟨b2, o2 + i * 13 + 2, none⟩ = some (.int .i64 x.mems[i].ty) := hc2.2.2.1
  generalize v.items[0] = y at *
  generalize x.mems[i].ty = mt at *
  have HYA := Lib.hid hya
  have hlti : (0 : Int) < v.items.length := by omega
  have hlti2 : (i : Int) < x.mems.length := by omega
  have hd0 : decide ((i : Int) < 0) = false := by simp
  have hd1 : decide (x.mems.length ≤ i) = false := by simpa using hlt2
  have hd2 : decide (v.items.length ≤ 0) = false := decide_eq_false (by omega)
  obtain ⟨E1, k1, E2, k2, E3, k3, rfl, rfl, rfl, -, -, -⟩ := hya.forms
  obtain ⟨y0, y1, y2, y3, y4, y5, y6, y7⟩ := hc1
  have Y0 := Lib.hid y0; have Y1 := Lib.hid y1; have Y2 := Lib.hid y2; have Y3 := Lib.hid y3; have Y4 := Lib.hid y4; have Y5 := Lib.hid y5; have Y6 := Lib.hid y6; have Y7 := Lib.hid y7
  clear hel1 hel2 hma hya hc2 hfk hmem hmi y0 y1 y2 y3 y4 y5 y6 y7
  have hb1 := fun (p : Addr) (hp : p.block < w.heap.size) => (hw96).cell hp
  simp only [Nat.zero_mul, Nat.add_zero] at Y0 Y1 Y2 Y3 Y4 Y5 Y6 Y7
  go_upto_region 17 with fail
  have cS_0 : wd104.cell? ⟨w.heap.size, 0, none⟩ = some (.slice (some ⟨b, o, none⟩) ts.length c) := S.out.cell 0
  have cX_6 : wd104.cell? ⟨gX, 6, none⟩ = some (.slice (some ⟨b2, o2, none⟩) x.mems.length l2) := X.out.cell 6
  have cI_6 : wd104.cell? ⟨w.heap.size + 1, 6, none⟩ = some (.slice (some ⟨b1, o1, none⟩) v.items.length n2) := I.out.cell 6
  refine wp_region_held_drew (S := (fun w' => w'.cell? ⟨w.heap.size, 0, none⟩ = some (.slice (some ⟨b, o, none⟩) ts.length c) ∧ w'.cell? ⟨gX, 6, none⟩ = some (.slice (some ⟨b2, o2, none⟩) x.mems.length l2) ∧ w'.cell? ⟨w.heap.size + 1, 6, none⟩ = some (.slice (some ⟨b1, o1, none⟩) v.items.length n2) ∧ (w'.cell? ⟨b2, o2 + i * 13 + 2, none⟩ = some (.int .i64 mt)) ∧ (w'.cell? ⟨b1, o1, none⟩ = some (.int .i64 y.kind)) ∧ (w'.cell? ⟨b1, o1 + 1, none⟩ = some (.bool y.bool)) ∧ (w'.cell? ⟨b1, o1 + 2, none⟩ = some (.int .i64 y.num)) ∧ (w'.cell? ⟨b1, o1 + 3, none⟩ = some (.string ⟨y.str.toArray⟩)) ∧ (w'.cell? ⟨b1, o1 + 4, none⟩ = some (.int .i64 y.id)) ∧ (w'.cell? ⟨b1, o1 + 5, none⟩ = some (.slice E1 y.keys.length k1)) ∧ (w'.cell? ⟨b1, o1 + 6, none⟩ = some (.slice E2 y.items.length k2)) ∧ (w'.cell? ⟨b1, o1 + 7, none⟩ = some (.slice E3 y.rest.length k3)))) (by kernel_rfl) ⟨cS_0, cX_6, cI_6, (((hw96).cell (p := ⟨b2, o2 + i * 13 + 2, none⟩) (show b2 < w.heap.size by omega)).trans hm2), (((hw96).cell (p := ⟨b1, o1, none⟩) (show b1 < w.heap.size by omega)).trans Y0.out), (((hw96).cell (p := ⟨b1, o1 + 1, none⟩) (show b1 < w.heap.size by omega)).trans Y1.out), (((hw96).cell (p := ⟨b1, o1 + 2, none⟩) (show b1 < w.heap.size by omega)).trans Y2.out), (((hw96).cell (p := ⟨b1, o1 + 3, none⟩) (show b1 < w.heap.size by omega)).trans Y3.out), (((hw96).cell (p := ⟨b1, o1 + 4, none⟩) (show b1 < w.heap.size by omega)).trans Y4.out), (((hw96).cell (p := ⟨b1, o1 + 5, none⟩) (show b1 < w.heap.size by omega)).trans Y5.out), (((hw96).cell (p := ⟨b1, o1 + 6, none⟩) (show b1 < w.heap.size by omega)).trans Y6.out), (((hw96).cell (p := ⟨b1, o1 + 7, none⟩) (show b1 < w.heap.size by omega)).trans Y7.out)⟩ (fun hHeld => ?_)
  clear cS_0 cX_6 cI_6
  have hb106 : Below wd104.heap.size wd104 (wd104.drew) := (Below.refl _ _).drew
  replace S := dB S hb106
  replace I := dB I hb106
  replace X := dB X hb106
  replace hw96 := dT hw96 hb106
  clear hb106
  generalize wd104.drew = wd107 at *
  refine tk (i := 0) (v := ?k108) ?_
  simp only [put_laws2]
  refine tk (i := 1) (v := ?k109) ?_
  simp only [put_laws2]
  refine tk (i := 2) (v := ?k110) ?_
  simp only [put_laws2]
  refine tk (i := 3) (v := ?k111) ?_
  simp only [put_laws2]
  refine tk (i := 4) (v := ?k112) ?_
  simp only [put_laws2]
  refine tk (i := 5) (v := ?k113) ?_
  simp only [put_laws2]
  refine tk (i := 6) (v := ?k114) ?_
  simp only [put_laws2]
  refine tk (i := 7) (v := ?k115) ?_
  simp only [put_laws2]
  refine tk (i := 8) (v := ?k116) ?_
  simp only [put_laws2]
  refine tk (i := 9) (v := ?k117) ?_
  simp only [put_laws2]
  refine tk (i := 10) (v := ?k118) ?_
  simp only [put_laws2]
  refine tk (i := 11) (v := ?k119) ?_
  simp only [put_laws2]
  refine rd1 (i := 12) (fun K hK => ?_)
  go_simp
  ((with_reducible refine (HU1.out _ _ _ _ (HYA.out.on hw96) (HT.out.on hw96)).mono ?_); rintro e wd120 ⟨rfl, hb121⟩)
  replace S := dB S hb121
  replace I := dB I hb121
  replace X := dB X hb121
  replace hw96 := dT hw96 hb121
  clear hb121
  try clear hHeld
  refine hK.out _ _ (⟨S.out.cell 0, ⟨X.out.cell 6, ⟨I.out.cell 6, ⟨(((hw96).cell (p := ⟨b2, o2 + i * 13 + 2, none⟩) (show b2 < w.heap.size by omega)).trans hm2), ⟨(((hw96).cell (p := ⟨b1, o1, none⟩) (show b1 < w.heap.size by omega)).trans Y0.out), ⟨(((hw96).cell (p := ⟨b1, o1 + 1, none⟩) (show b1 < w.heap.size by omega)).trans Y1.out), ⟨(((hw96).cell (p := ⟨b1, o1 + 2, none⟩) (show b1 < w.heap.size by omega)).trans Y2.out), ⟨(((hw96).cell (p := ⟨b1, o1 + 3, none⟩) (show b1 < w.heap.size by omega)).trans Y3.out), ⟨(((hw96).cell (p := ⟨b1, o1 + 4, none⟩) (show b1 < w.heap.size by omega)).trans Y4.out), ⟨(((hw96).cell (p := ⟨b1, o1 + 5, none⟩) (show b1 < w.heap.size by omega)).trans Y5.out), ⟨(((hw96).cell (p := ⟨b1, o1 + 6, none⟩) (show b1 < w.heap.size by omega)).trans Y6.out), (((hw96).cell (p := ⟨b1, o1 + 7, none⟩) (show b1 < w.heap.size by omega)).trans Y7.out)⟩⟩⟩⟩⟩⟩⟩⟩⟩⟩⟩) (fun hHeld => ?_)
  clear hK K
  refine tk (i := 13) (v := ?k122) ?_
  simp only [put_laws2]
  refine tk (i := 14) (v := ?k123) ?_
  simp only [put_laws2]
  refine wpAnyH_done (by kernel_rfl) ?_ _
  try clear hHeld
  go_wp2_with fail
  go_ret
  exact ⟨ret_int (by rw [HR.out, IntKind.wrap_i64]; unfold wrap64; omega), hw96⟩
/- a loop over keys or items -/
set_option maxRecDepth 100000 in
theorem unk7_any
 (ts : List Typ) (A : Option Addr) (c n : Nat) (v : Val) (A1 A2 A3 : Option Addr) (n1 n2 n3 : Nat) (w : World) (hn : n < ts.length) (hk : ts[n].kind = 7) (hkv : v.kind = 7)
 (ht : RdTyps w w.heap.size (.slice A ts.length c) ts) (hv : ValAt w w.heap.size v (.slice A1 v.keys.length n1) (.slice A2 v.items.length n2) (.slice A3 v.rest.length n3)) (hf : fitV ts false v n = true) (hU : UnkOn ts (.slice A ts.length c) (v.keys ++ v.items)) :
 Calls Tryd.prog 25 #[.agg #[.slice A ts.length c], .int .i64 n, valA v (.slice A1 v.keys.length n1) (.slice A2 v.items.length n2) (.slice A3 v.rest.length n3)] w fun e w' => e = .returned (.int .i64 (wrap64 (partsV ts v n))) ∧ Below w.heap.size w w' := by
 obtain ⟨b, o, rfl, hbb, hel⟩ := ht.elem (by omega)
 obtain ⟨vs, vm, hcells, hx⟩ := hel n hn
 clear hel
 have hxt : typAt ts n = some ts[n] := by unfold typAt; rw [if_pos (by omega)]; simp [hn]
 have HE := Lib.hid (partsV_eq ts v n ts[n] hxt)
 have HF:= Lib.hid (fit789 hxt hf (by omega)); have HUn := Lib.hid hU; clear hf hU
 generalize ts[n] = x at *
 obtain ⟨C1, l1, C2, l2, rfl, rfl, -, -⟩ := hx.forms
 have hlt : (n : Int) < ts.length := by omega
 have hd0 : decide ((n : Int) < 0) = false := by simp
 have hd1 : decide (ts.length ≤ n) = false := by simpa using hn
 have HX := Lib.hid hx
 have HT := Lib.hid ht
 have HV := Lib.hid hv
 have HC := Lib.hid hcells
 have HKx := Lib.hid hk
 have hxs := hx.lens
 have hvl := hv.lens
 simp only [valA, hkv]
 clear hx ht hcells hn hv hxt hkv
 go_enter Tryd.func25, Tryd.ntmps25
 go_upto_region 1 with fail
 obtain ⟨wd125, hE126⟩ : ∃ ww, ww = w.alloc (.cells #[.slice (some ⟨b, o, none⟩) ts.length c] 36) := ⟨_, rfl⟩
 rw [← hE126]
 have hb124 := aB hE126
 have S := aN hE126
 obtain ⟨wd127, hE128⟩ : ∃ ww, ww = wd125.alloc (.cells #[.int .i64 7, .bool v.bool, .int .i64 v.num, .string ⟨v.str.toArray⟩, .int .i64 v.id, .slice A1 v.keys.length n1, .slice A2 v.items.length n2, .slice A3 v.rest.length n3] 45) := ⟨_, rfl⟩
 rw [← hE128]
 replace S := dB S (aB hE128)
 replace hb124 := dT hb124 (aB hE128)
 have I := aM hE128 (aZ hE126 rfl)
 clear hE126 hE128
 have hw129 := hb124
 clear hb124
 obtain ⟨c0, c1, c2, c3, c4, c5, c6, c7, c8, c9⟩ := HC.out.below (hw129) (by omega)
 rw [hk] at c0
 have cS_0 : wd127.cell? ⟨w.heap.size, 0, none⟩ = some (.slice (some ⟨b, o, none⟩) ts.length c) := S.out.cell 0
 obtain ⟨cI_0, cI_1, cI_2, cI_3, cI_4, cI_5, cI_6, cI_7⟩ := I.out.c8
 go_upto_region 2 with fail
 clear c0 c1 c2 c3 c4 c5 c6 c7 c8 c9 hd0 hd1
 clear cS_0 cI_0 cI_1 cI_2 cI_3 cI_4 cI_5 cI_6 cI_7
 obtain ⟨wd131, hE132⟩ : ∃ ww, ww = wd127.alloc (.cells #[.int .i64 7, .string ⟨x.name.toArray⟩, .int .i64 x.low, .int .i64 x.high, .int .i64 x.max, .slice C1 x.syms.length l1, .slice C2 x.mems.length l2, .int .i64 x.key, .int .i64 x.elem, .bool x.opn] 33) := ⟨_, rfl⟩
 rw [← hE132]
 have hb130 := aB hE132
 have X := aN hE132
 clear hE132
 have hl134 := S.out.here
 have hl135 := I.out.here
 have hl136 := hw129.size
 replace S := dB S hb130
 replace I := dB I hb130
 replace hw129 := dT hw129 hb130
 clear hb130
 generalize wd127.heap.size = g133 at *
 obtain ⟨gX, rfl⟩ : ∃ g, g = g133 := ⟨_, rfl⟩
 have hgX : w.heap.size + 1 < gX := by omega
 obtain ⟨cI_0, cI_1, cI_2, cI_3, cI_4, cI_5, cI_6, cI_7⟩ := I.out.c8
 obtain ⟨cX_0, cX_1, cX_2, cX_3, cX_4, cX_5, cX_6, cX_7, cX_8, cX_9⟩ := X.out.c10
 have HR : Hid (wrap64 (partsV ts v n) = wrap64 ((v.rest.length : Int) + (partsL ts v.keys x.key + partsL ts v.items x.elem))) := by show _ = _; rw [HE.out]; simp [partB, HKx.out]
 have hl0 : Hid (Has wd131 w.heap.size _ _ ∧ Has wd131 (w.heap.size + 1) _ _ ∧ Has wd131 gX _ _ ∧ Below w.heap.size w wd131) := Lib.hid ⟨S.out, I.out, X.out, hw129⟩
 go_upto_region 22 with fail
 clear S I X
 go_loopw [95, 8] (fun i s wr => ∃ (k : Nat) (a : Int), i = .int .i64 (k : Int) ∧ s = .int .i64 a ∧ k ≤ v.keys.length ∧ wrap64 a = a ∧ wrap64 (a + (partsL ts (v.keys.drop k) x.key + partsL ts v.items x.elem)) = wrap64 (partsV ts v n) ∧ Has wr w.heap.size 36 #[.slice (some ⟨b, o, none⟩) ts.length c] ∧ Has wr (w.heap.size + 1) 45 #[.int .i64 7, .bool v.bool, .int .i64 v.num, .string ⟨v.str.toArray⟩, .int .i64 v.id, .slice A1 v.keys.length n1, .slice A2 v.items.length n2, .slice A3 v.rest.length n3] ∧ Has wr gX 33 #[.int .i64 7, .string ⟨x.name.toArray⟩, .int .i64 x.low, .int .i64 x.high, .int .i64 x.max, .slice C1 x.syms.length l1, .slice C2 x.mems.length l2, .int .i64 x.key, .int .i64 x.elem, .bool x.opn] ∧ Below w.heap.size w wr) (fun i _ _ => v.keys.length - (intOf i).toNat)
 case atStart => exact ⟨0, _, rfl, rfl, by omega, (by unfold wrap64; omega), HR.out.symm, hl0.out⟩
 case round =>
  clear hl0
  obtain ⟨k, a, rfl, rfl, hk1, ha, hp, S, I, X, hbr⟩ := hrel
  replace S := Lib.hid S
  replace I := Lib.hid I
  replace X := Lib.hid X
  by_cases hlt : k < v.keys.length
  ·
   have hfk := HF.out.1 _ (List.getElem_mem hlt)
   have hmem : v.keys[k] ∈ v.keys ++ v.items := List.mem_append.2 (.inl (List.getElem_mem hlt))
   obtain ⟨b1, o1, rfl, hbb1, hel1⟩ := HV.out.keys.elem (by omega)
   obtain ⟨yk, yi, yr, hc1, hya⟩ := hel1 k hlt
   rw [partsL_at ts v.keys _ k hlt] at hp
   have HU1 := Lib.hid (fun W yk yi yr h1 h2 => HUn.out _ hmem x.key yk yi yr W hfk h1 h2)
   generalize v.keys[k] = y at *
   have HYA := Lib.hid hya
   have Hp := Lib.hid hp
   have hlti : (k : Int) < v.keys.length := by omega
   have hd0 : decide ((k : Int) < 0) = false := by simp
   have hd1 : decide (v.keys.length ≤ k) = false := by simpa using hlt
   obtain ⟨E1, k1, E2, k2, E3, k3, rfl, rfl, rfl, -, -, -⟩ := hya.forms
   obtain ⟨y0, y1, y2, y3, y4, y5, y6, y7⟩ := hc1.below hbr hbb1
   clear hel1 hya hc1 hp hfk hmem
   go_upto_region 24 with fail
   clear y0 y1 y2 y3 y4 y5 y6 y7
   obtain ⟨wd138, hE139⟩ : ∃ ww, ww = wr.alloc (.cells #[.int .i64 y.kind, .bool y.bool, .int .i64 y.num, .string ⟨y.str.toArray⟩, .int .i64 y.id, .slice E1 y.keys.length k1, .slice E2 y.items.length k2, .slice E3 y.rest.length k3] 45) := ⟨_, rfl⟩
   rw [← hE139]
   have hb137 := aB hE139
   have Y := aN hE139
   clear hE139
   have hl141 := S.out.here
   have hl142 := I.out.here
   have hl143 := X.out.here
   have hl144 := hbr.size
   replace S := dB S hb137
   replace I := dB I hb137
   replace X := dB X hb137
   replace hbr := dT hbr hb137
   clear hb137
   generalize wr.heap.size = g140 at *
   have cS_0 : wd138.cell? ⟨w.heap.size, 0, none⟩ = some (.slice (some ⟨b, o, none⟩) ts.length c) := S.out.cell 0
   have cX_7 : wd138.cell? ⟨gX, 7, none⟩ = some (.int .i64 x.key) := X.out.cell 7
   obtain ⟨cY_0, cY_1, cY_2, cY_3, cY_4, cY_5, cY_6, cY_7⟩ := Y.out.c8
   go_wp2_with fail
   clear cS_0 cX_7 cY_0 cY_1 cY_2 cY_3 cY_4 cY_5 cY_6 cY_7
   ((with_reducible refine (HU1.out _ _ _ _ (HYA.out.on hbr) (HT.out.on hbr)).mono ?_); rintro e wd145 ⟨rfl, hb146⟩)
   replace S := dB S hb146
   replace I := dB I hb146
   replace X := dB X hb146
   replace Y := dB Y hb146
   replace hbr := dT hbr hb146
   clear hb146
   go_wp2_with fail
   go_roundw
   case rel => exact ⟨k + 1, _, by go_num, rfl, by omega, (by unfold wrap64; omega), by rw [← Hp.out]; unfold wrap64; omega, S.out, I.out, X.out, hbr⟩
   case measure => simp [intOf]; omega
  rw [partsL_end _ _ _ _ (by omega)] at hp
  have hn1 : ¬ (k : Int) < v.keys.length := by omega
  skip
  rw [Int.zero_add] at hp
  have hl0 : Hid (Has wr w.heap.size _ _ ∧ Has wr (w.heap.size + 1) _ _ ∧ Has wr gX _ _ ∧ Below w.heap.size w wr) := Lib.hid ⟨S.out, I.out, X.out, hbr⟩
  have Hp := Lib.hid hp
  have Ha := Lib.hid ha
  clear hp ha
  have cI_6 : wr.cell? ⟨w.heap.size + 1, 6, none⟩ = some (.slice A2 v.items.length n2) := I.out.cell 6
  go_upto_region 27 with fail
  clear S I X hbr
  go_loopw [110, 8] (fun i s wr => ∃ (k : Nat) (a : Int), i = .int .i64 (k : Int) ∧ s = .int .i64 a ∧ k ≤ v.items.length ∧ wrap64 a = a ∧ wrap64 (a + (partsL ts (v.items.drop k) x.elem)) = wrap64 (partsV ts v n) ∧ Has wr w.heap.size 36 #[.slice (some ⟨b, o, none⟩) ts.length c] ∧ Has wr (w.heap.size + 1) 45 #[.int .i64 7, .bool v.bool, .int .i64 v.num, .string ⟨v.str.toArray⟩, .int .i64 v.id, .slice A1 v.keys.length n1, .slice A2 v.items.length n2, .slice A3 v.rest.length n3] ∧ Has wr gX 33 #[.int .i64 7, .string ⟨x.name.toArray⟩, .int .i64 x.low, .int .i64 x.high, .int .i64 x.max, .slice C1 x.syms.length l1, .slice C2 x.mems.length l2, .int .i64 x.key, .int .i64 x.elem, .bool x.opn] ∧ Below w.heap.size w wr) (fun i _ _ => v.items.length - (intOf i).toNat)
  case atStart => exact ⟨0, _, rfl, rfl, by omega, Ha.out, Hp.out, hl0.out⟩
  case round =>
   clear hl0
   obtain ⟨k, a, rfl, rfl, hk1, ha, hp, S, I, X, hbr⟩ := hrel
   replace S := Lib.hid S
   replace I := Lib.hid I
   replace X := Lib.hid X
   by_cases hlt : k < v.items.length
   ·
    have hfk := HF.out.2 _ (List.getElem_mem hlt)
    have hmem : v.items[k] ∈ v.keys ++ v.items := List.mem_append.2 (.inr (List.getElem_mem hlt))
    obtain ⟨b1, o1, rfl, hbb1, hel1⟩ := HV.out.items.elem (by omega)
    obtain ⟨yk, yi, yr, hc1, hya⟩ := hel1 k hlt
    rw [partsL_at ts v.items _ k hlt] at hp
    have HU1 := Lib.hid (fun W yk yi yr h1 h2 => HUn.out _ hmem x.elem yk yi yr W hfk h1 h2)
    generalize v.items[k] = y at *
    have HYA := Lib.hid hya
    have Hp := Lib.hid hp
    have hlti : (k : Int) < v.items.length := by omega
    have hd0 : decide ((k : Int) < 0) = false := by simp
    have hd1 : decide (v.items.length ≤ k) = false := by simpa using hlt
    obtain ⟨E1, k1, E2, k2, E3, k3, rfl, rfl, rfl, -, -, -⟩ := hya.forms
    obtain ⟨y0, y1, y2, y3, y4, y5, y6, y7⟩ := hc1.below hbr hbb1
    clear hel1 hya hc1 hp hfk hmem
    go_upto_region 29 with fail
    clear y0 y1 y2 y3 y4 y5 y6 y7
    obtain ⟨wd148, hE149⟩ : ∃ ww, ww = wr.alloc (.cells #[.int .i64 y.kind, .bool y.bool, .int .i64 y.num, .string ⟨y.str.toArray⟩, .int .i64 y.id, .slice E1 y.keys.length k1, .slice E2 y.items.length k2, .slice E3 y.rest.length k3] 45) := ⟨_, rfl⟩
    rw [← hE149]
    have hb147 := aB hE149
    have Y := aN hE149
    clear hE149
    have hl151 := S.out.here
    have hl152 := I.out.here
    have hl153 := X.out.here
    have hl154 := hbr.size
    replace S := dB S hb147
    replace I := dB I hb147
    replace X := dB X hb147
    replace hbr := dT hbr hb147
    clear hb147
    generalize wr.heap.size = g150 at *
    have cS_0 : wd148.cell? ⟨w.heap.size, 0, none⟩ = some (.slice (some ⟨b, o, none⟩) ts.length c) := S.out.cell 0
    have cX_8 : wd148.cell? ⟨gX, 8, none⟩ = some (.int .i64 x.elem) := X.out.cell 8
    obtain ⟨cY_0, cY_1, cY_2, cY_3, cY_4, cY_5, cY_6, cY_7⟩ := Y.out.c8
    go_wp2_with fail
    clear cS_0 cX_8 cY_0 cY_1 cY_2 cY_3 cY_4 cY_5 cY_6 cY_7
    ((with_reducible refine (HU1.out _ _ _ _ (HYA.out.on hbr) (HT.out.on hbr)).mono ?_); rintro e wd155 ⟨rfl, hb156⟩)
    replace S := dB S hb156
    replace I := dB I hb156
    replace X := dB X hb156
    replace Y := dB Y hb156
    replace hbr := dT hbr hb156
    clear hb156
    go_wp2_with fail
    go_roundw
    case rel => exact ⟨k + 1, _, by go_num, rfl, by omega, (by unfold wrap64; omega), by rw [← Hp.out]; unfold wrap64; omega, S.out, I.out, X.out, hbr⟩
    case measure => simp [intOf]; omega
   rw [partsL_end _ _ _ _ (by omega)] at hp
   have hn1 : ¬ (k : Int) < v.items.length := by omega
   skip
   rw [Int.add_zero, ha] at hp
   have Hp := Lib.hid hp
   clear hp
   go_wp2_with fail
   go_ret
   exact ⟨ret_int Hp.out, hbr⟩
set_option maxRecDepth 100000 in
theorem unk8_any
 (ts : List Typ) (A : Option Addr) (c n : Nat) (v : Val) (A1 A2 A3 : Option Addr) (n1 n2 n3 : Nat) (w : World) (hn : n < ts.length) (hk : ts[n].kind = 8) (hkv : v.kind = 8)
 (ht : RdTyps w w.heap.size (.slice A ts.length c) ts) (hv : ValAt w w.heap.size v (.slice A1 v.keys.length n1) (.slice A2 v.items.length n2) (.slice A3 v.rest.length n3)) (hf : fitV ts false v n = true) (hU : UnkOn ts (.slice A ts.length c) (v.keys ++ v.items)) :
 Calls Tryd.prog 25 #[.agg #[.slice A ts.length c], .int .i64 n, valA v (.slice A1 v.keys.length n1) (.slice A2 v.items.length n2) (.slice A3 v.rest.length n3)] w fun e w' => e = .returned (.int .i64 (wrap64 (partsV ts v n))) ∧ Below w.heap.size w w' := by
 obtain ⟨b, o, rfl, hbb, hel⟩ := ht.elem (by omega)
 obtain ⟨vs, vm, hcells, hx⟩ := hel n hn
 clear hel
 have hxt : typAt ts n = some ts[n] := by unfold typAt; rw [if_pos (by omega)]; simp [hn]
 have HE := Lib.hid (partsV_eq ts v n ts[n] hxt)
 have HF:= Lib.hid (fit789 hxt hf (by omega)); have HUn := Lib.hid hU; clear hf hU
 generalize ts[n] = x at *
 obtain ⟨C1, l1, C2, l2, rfl, rfl, -, -⟩ := hx.forms
 have hlt : (n : Int) < ts.length := by omega
 have hd0 : decide ((n : Int) < 0) = false := by simp
 have hd1 : decide (ts.length ≤ n) = false := by simpa using hn
 have HX := Lib.hid hx
 have HT := Lib.hid ht
 have HV := Lib.hid hv
 have HC := Lib.hid hcells
 have HKx := Lib.hid hk
 have hxs := hx.lens
 have hvl := hv.lens
 simp only [valA, hkv]
 clear hx ht hcells hn hv hxt hkv
 go_enter Tryd.func25, Tryd.ntmps25
 go_upto_region 1 with fail
 obtain ⟨wd158, hE159⟩ : ∃ ww, ww = w.alloc (.cells #[.slice (some ⟨b, o, none⟩) ts.length c] 36) := ⟨_, rfl⟩
 rw [← hE159]
 have hb157 := aB hE159
 have S := aN hE159
 obtain ⟨wd160, hE161⟩ : ∃ ww, ww = wd158.alloc (.cells #[.int .i64 8, .bool v.bool, .int .i64 v.num, .string ⟨v.str.toArray⟩, .int .i64 v.id, .slice A1 v.keys.length n1, .slice A2 v.items.length n2, .slice A3 v.rest.length n3] 45) := ⟨_, rfl⟩
 rw [← hE161]
 replace S := dB S (aB hE161)
 replace hb157 := dT hb157 (aB hE161)
 have I := aM hE161 (aZ hE159 rfl)
 clear hE159 hE161
 have hw162 := hb157
 clear hb157
 obtain ⟨c0, c1, c2, c3, c4, c5, c6, c7, c8, c9⟩ := HC.out.below (hw162) (by omega)
 rw [hk] at c0
 have cS_0 : wd160.cell? ⟨w.heap.size, 0, none⟩ = some (.slice (some ⟨b, o, none⟩) ts.length c) := S.out.cell 0
 obtain ⟨cI_0, cI_1, cI_2, cI_3, cI_4, cI_5, cI_6, cI_7⟩ := I.out.c8
 go_upto_region 2 with fail
 clear c0 c1 c2 c3 c4 c5 c6 c7 c8 c9 hd0 hd1
 clear cS_0 cI_0 cI_1 cI_2 cI_3 cI_4 cI_5 cI_6 cI_7
 obtain ⟨wd164, hE165⟩ : ∃ ww, ww = wd160.alloc (.cells #[.int .i64 8, .string ⟨x.name.toArray⟩, .int .i64 x.low, .int .i64 x.high, .int .i64 x.max, .slice C1 x.syms.length l1, .slice C2 x.mems.length l2, .int .i64 x.key, .int .i64 x.elem, .bool x.opn] 33) := ⟨_, rfl⟩
 rw [← hE165]
 have hb163 := aB hE165
 have X := aN hE165
 clear hE165
 have hl167 := S.out.here
 have hl168 := I.out.here
 have hl169 := hw162.size
 replace S := dB S hb163
 replace I := dB I hb163
 replace hw162 := dT hw162 hb163
 clear hb163
 generalize wd160.heap.size = g166 at *
 obtain ⟨gX, rfl⟩ : ∃ g, g = g166 := ⟨_, rfl⟩
 have hgX : w.heap.size + 1 < gX := by omega
 obtain ⟨cI_0, cI_1, cI_2, cI_3, cI_4, cI_5, cI_6, cI_7⟩ := I.out.c8
 obtain ⟨cX_0, cX_1, cX_2, cX_3, cX_4, cX_5, cX_6, cX_7, cX_8, cX_9⟩ := X.out.c10
 have HR : Hid (wrap64 (partsV ts v n) = wrap64 ((v.rest.length : Int) + (partsL ts v.keys x.key + partsL ts v.items x.elem))) := by show _ = _; rw [HE.out]; simp [partB, HKx.out]
 have hl0 : Hid (Has wd164 w.heap.size _ _ ∧ Has wd164 (w.heap.size + 1) _ _ ∧ Has wd164 gX _ _ ∧ Below w.heap.size w wd164) := Lib.hid ⟨S.out, I.out, X.out, hw162⟩
 go_upto_region 22 with fail
 clear S I X
 go_loopw [95, 8] (fun i s wr => ∃ (k : Nat) (a : Int), i = .int .i64 (k : Int) ∧ s = .int .i64 a ∧ k ≤ v.keys.length ∧ wrap64 a = a ∧ wrap64 (a + (partsL ts (v.keys.drop k) x.key + partsL ts v.items x.elem)) = wrap64 (partsV ts v n) ∧ Has wr w.heap.size 36 #[.slice (some ⟨b, o, none⟩) ts.length c] ∧ Has wr (w.heap.size + 1) 45 #[.int .i64 8, .bool v.bool, .int .i64 v.num, .string ⟨v.str.toArray⟩, .int .i64 v.id, .slice A1 v.keys.length n1, .slice A2 v.items.length n2, .slice A3 v.rest.length n3] ∧ Has wr gX 33 #[.int .i64 8, .string ⟨x.name.toArray⟩, .int .i64 x.low, .int .i64 x.high, .int .i64 x.max, .slice C1 x.syms.length l1, .slice C2 x.mems.length l2, .int .i64 x.key, .int .i64 x.elem, .bool x.opn] ∧ Below w.heap.size w wr) (fun i _ _ => v.keys.length - (intOf i).toNat)
 case atStart => exact ⟨0, _, rfl, rfl, by omega, (by unfold wrap64; omega), HR.out.symm, hl0.out⟩
 case round =>
  clear hl0
  obtain ⟨k, a, rfl, rfl, hk1, ha, hp, S, I, X, hbr⟩ := hrel
  replace S := Lib.hid S
  replace I := Lib.hid I
  replace X := Lib.hid X
  by_cases hlt : k < v.keys.length
  ·
   have hfk := HF.out.1 _ (List.getElem_mem hlt)
   have hmem : v.keys[k] ∈ v.keys ++ v.items := List.mem_append.2 (.inl (List.getElem_mem hlt))
   obtain ⟨b1, o1, rfl, hbb1, hel1⟩ := HV.out.keys.elem (by omega)
   obtain ⟨yk, yi, yr, hc1, hya⟩ := hel1 k hlt
   rw [partsL_at ts v.keys _ k hlt] at hp
   have HU1 := Lib.hid (fun W yk yi yr h1 h2 => HUn.out _ hmem x.key yk yi yr W hfk h1 h2)
   generalize v.keys[k] = y at *
   have HYA := Lib.hid hya
   have Hp := Lib.hid hp
   have hlti : (k : Int) < v.keys.length := by omega
   have hd0 : decide ((k : Int) < 0) = false := by simp
   have hd1 : decide (v.keys.length ≤ k) = false := by simpa using hlt
   obtain ⟨E1, k1, E2, k2, E3, k3, rfl, rfl, rfl, -, -, -⟩ := hya.forms
   obtain ⟨y0, y1, y2, y3, y4, y5, y6, y7⟩ := hc1.below hbr hbb1
   clear hel1 hya hc1 hp hfk hmem
   go_upto_region 24 with fail
   clear y0 y1 y2 y3 y4 y5 y6 y7
   obtain ⟨wd171, hE172⟩ : ∃ ww, ww = wr.alloc (.cells #[.int .i64 y.kind, .bool y.bool, .int .i64 y.num, .string ⟨y.str.toArray⟩, .int .i64 y.id, .slice E1 y.keys.length k1, .slice E2 y.items.length k2, .slice E3 y.rest.length k3] 45) := ⟨_, rfl⟩
   rw [← hE172]
   have hb170 := aB hE172
   have Y := aN hE172
   clear hE172
   have hl174 := S.out.here
   have hl175 := I.out.here
   have hl176 := X.out.here
   have hl177 := hbr.size
   replace S := dB S hb170
   replace I := dB I hb170
   replace X := dB X hb170
   replace hbr := dT hbr hb170
   clear hb170
   generalize wr.heap.size = g173 at *
   have cS_0 : wd171.cell? ⟨w.heap.size, 0, none⟩ = some (.slice (some ⟨b, o, none⟩) ts.length c) := S.out.cell 0
   have cX_7 : wd171.cell? ⟨gX, 7, none⟩ = some (.int .i64 x.key) := X.out.cell 7
   obtain ⟨cY_0, cY_1, cY_2, cY_3, cY_4, cY_5, cY_6, cY_7⟩ := Y.out.c8
   go_wp2_with fail
   clear cS_0 cX_7 cY_0 cY_1 cY_2 cY_3 cY_4 cY_5 cY_6 cY_7
   ((with_reducible refine (HU1.out _ _ _ _ (HYA.out.on hbr) (HT.out.on hbr)).mono ?_); rintro e wd178 ⟨rfl, hb179⟩)
   replace S := dB S hb179
   replace I := dB I hb179
   replace X := dB X hb179
   replace Y := dB Y hb179
   replace hbr := dT hbr hb179
   clear hb179
   go_wp2_with fail
   go_roundw
   case rel => exact ⟨k + 1, _, by go_num, rfl, by omega, (by unfold wrap64; omega), by rw [← Hp.out]; unfold wrap64; omega, S.out, I.out, X.out, hbr⟩
   case measure => simp [intOf]; omega
  rw [partsL_end _ _ _ _ (by omega)] at hp
  have hn1 : ¬ (k : Int) < v.keys.length := by omega
  skip
  rw [Int.zero_add] at hp
  have hl0 : Hid (Has wr w.heap.size _ _ ∧ Has wr (w.heap.size + 1) _ _ ∧ Has wr gX _ _ ∧ Below w.heap.size w wr) := Lib.hid ⟨S.out, I.out, X.out, hbr⟩
  have Hp := Lib.hid hp
  have Ha := Lib.hid ha
  clear hp ha
  have cI_6 : wr.cell? ⟨w.heap.size + 1, 6, none⟩ = some (.slice A2 v.items.length n2) := I.out.cell 6
  go_upto_region 27 with fail
  clear S I X hbr
  go_loopw [110, 8] (fun i s wr => ∃ (k : Nat) (a : Int), i = .int .i64 (k : Int) ∧ s = .int .i64 a ∧ k ≤ v.items.length ∧ wrap64 a = a ∧ wrap64 (a + (partsL ts (v.items.drop k) x.elem)) = wrap64 (partsV ts v n) ∧ Has wr w.heap.size 36 #[.slice (some ⟨b, o, none⟩) ts.length c] ∧ Has wr (w.heap.size + 1) 45 #[.int .i64 8, .bool v.bool, .int .i64 v.num, .string ⟨v.str.toArray⟩, .int .i64 v.id, .slice A1 v.keys.length n1, .slice A2 v.items.length n2, .slice A3 v.rest.length n3] ∧ Has wr gX 33 #[.int .i64 8, .string ⟨x.name.toArray⟩, .int .i64 x.low, .int .i64 x.high, .int .i64 x.max, .slice C1 x.syms.length l1, .slice C2 x.mems.length l2, .int .i64 x.key, .int .i64 x.elem, .bool x.opn] ∧ Below w.heap.size w wr) (fun i _ _ => v.items.length - (intOf i).toNat)
  case atStart => exact ⟨0, _, rfl, rfl, by omega, Ha.out, Hp.out, hl0.out⟩
  case round =>
   clear hl0
   obtain ⟨k, a, rfl, rfl, hk1, ha, hp, S, I, X, hbr⟩ := hrel
   replace S := Lib.hid S
   replace I := Lib.hid I
   replace X := Lib.hid X
   by_cases hlt : k < v.items.length
   ·
    have hfk := HF.out.2 _ (List.getElem_mem hlt)
    have hmem : v.items[k] ∈ v.keys ++ v.items := List.mem_append.2 (.inr (List.getElem_mem hlt))
    obtain ⟨b1, o1, rfl, hbb1, hel1⟩ := HV.out.items.elem (by omega)
    obtain ⟨yk, yi, yr, hc1, hya⟩ := hel1 k hlt
    rw [partsL_at ts v.items _ k hlt] at hp
    have HU1 := Lib.hid (fun W yk yi yr h1 h2 => HUn.out _ hmem x.elem yk yi yr W hfk h1 h2)
    generalize v.items[k] = y at *
    have HYA := Lib.hid hya
    have Hp := Lib.hid hp
    have hlti : (k : Int) < v.items.length := by omega
    have hd0 : decide ((k : Int) < 0) = false := by simp
    have hd1 : decide (v.items.length ≤ k) = false := by simpa using hlt
    obtain ⟨E1, k1, E2, k2, E3, k3, rfl, rfl, rfl, -, -, -⟩ := hya.forms
    obtain ⟨y0, y1, y2, y3, y4, y5, y6, y7⟩ := hc1.below hbr hbb1
    clear hel1 hya hc1 hp hfk hmem
    go_upto_region 29 with fail
    clear y0 y1 y2 y3 y4 y5 y6 y7
    obtain ⟨wd181, hE182⟩ : ∃ ww, ww = wr.alloc (.cells #[.int .i64 y.kind, .bool y.bool, .int .i64 y.num, .string ⟨y.str.toArray⟩, .int .i64 y.id, .slice E1 y.keys.length k1, .slice E2 y.items.length k2, .slice E3 y.rest.length k3] 45) := ⟨_, rfl⟩
    rw [← hE182]
    have hb180 := aB hE182
    have Y := aN hE182
    clear hE182
    have hl184 := S.out.here
    have hl185 := I.out.here
    have hl186 := X.out.here
    have hl187 := hbr.size
    replace S := dB S hb180
    replace I := dB I hb180
    replace X := dB X hb180
    replace hbr := dT hbr hb180
    clear hb180
    generalize wr.heap.size = g183 at *
    have cS_0 : wd181.cell? ⟨w.heap.size, 0, none⟩ = some (.slice (some ⟨b, o, none⟩) ts.length c) := S.out.cell 0
    have cX_8 : wd181.cell? ⟨gX, 8, none⟩ = some (.int .i64 x.elem) := X.out.cell 8
    obtain ⟨cY_0, cY_1, cY_2, cY_3, cY_4, cY_5, cY_6, cY_7⟩ := Y.out.c8
    go_wp2_with fail
    clear cS_0 cX_8 cY_0 cY_1 cY_2 cY_3 cY_4 cY_5 cY_6 cY_7
    ((with_reducible refine (HU1.out _ _ _ _ (HYA.out.on hbr) (HT.out.on hbr)).mono ?_); rintro e wd188 ⟨rfl, hb189⟩)
    replace S := dB S hb189
    replace I := dB I hb189
    replace X := dB X hb189
    replace Y := dB Y hb189
    replace hbr := dT hbr hb189
    clear hb189
    go_wp2_with fail
    go_roundw
    case rel => exact ⟨k + 1, _, by go_num, rfl, by omega, (by unfold wrap64; omega), by rw [← Hp.out]; unfold wrap64; omega, S.out, I.out, X.out, hbr⟩
    case measure => simp [intOf]; omega
   rw [partsL_end _ _ _ _ (by omega)] at hp
   have hn1 : ¬ (k : Int) < v.items.length := by omega
   skip
   rw [Int.add_zero, ha] at hp
   have Hp := Lib.hid hp
   clear hp
   go_wp2_with fail
   go_ret
   exact ⟨ret_int Hp.out, hbr⟩
set_option maxRecDepth 100000 in
theorem unk9_any
 (ts : List Typ) (A : Option Addr) (c n : Nat) (v : Val) (A1 A2 A3 : Option Addr) (n1 n2 n3 : Nat) (w : World) (hn : n < ts.length) (hk : ts[n].kind = 9) (hkv : v.kind = 9)
 (ht : RdTyps w w.heap.size (.slice A ts.length c) ts) (hv : ValAt w w.heap.size v (.slice A1 v.keys.length n1) (.slice A2 v.items.length n2) (.slice A3 v.rest.length n3)) (hf : fitV ts false v n = true) (hU : UnkOn ts (.slice A ts.length c) (v.keys ++ v.items)) :
 Calls Tryd.prog 25 #[.agg #[.slice A ts.length c], .int .i64 n, valA v (.slice A1 v.keys.length n1) (.slice A2 v.items.length n2) (.slice A3 v.rest.length n3)] w fun e w' => e = .returned (.int .i64 (wrap64 (partsV ts v n))) ∧ Below w.heap.size w w' := by
 obtain ⟨b, o, rfl, hbb, hel⟩ := ht.elem (by omega)
 obtain ⟨vs, vm, hcells, hx⟩ := hel n hn
 clear hel
 have hxt : typAt ts n = some ts[n] := by unfold typAt; rw [if_pos (by omega)]; simp [hn]
 have HE := Lib.hid (partsV_eq ts v n ts[n] hxt)
 have HF:= Lib.hid (fit789 hxt hf (by omega)); have HUn := Lib.hid hU; clear hf hU
 generalize ts[n] = x at *
 obtain ⟨C1, l1, C2, l2, rfl, rfl, -, -⟩ := hx.forms
 have hlt : (n : Int) < ts.length := by omega
 have hd0 : decide ((n : Int) < 0) = false := by simp
 have hd1 : decide (ts.length ≤ n) = false := by simpa using hn
 have HX := Lib.hid hx
 have HT := Lib.hid ht
 have HV := Lib.hid hv
 have HC := Lib.hid hcells
 have HKx := Lib.hid hk
 have hxs := hx.lens
 have hvl := hv.lens
 simp only [valA, hkv]
 clear hx ht hcells hn hv hxt hkv
 go_enter Tryd.func25, Tryd.ntmps25
 go_upto_region 1 with fail
 obtain ⟨wd191, hE192⟩ : ∃ ww, ww = w.alloc (.cells #[.slice (some ⟨b, o, none⟩) ts.length c] 36) := ⟨_, rfl⟩
 rw [← hE192]
 have hb190 := aB hE192
 have S := aN hE192
 obtain ⟨wd193, hE194⟩ : ∃ ww, ww = wd191.alloc (.cells #[.int .i64 9, .bool v.bool, .int .i64 v.num, .string ⟨v.str.toArray⟩, .int .i64 v.id, .slice A1 v.keys.length n1, .slice A2 v.items.length n2, .slice A3 v.rest.length n3] 45) := ⟨_, rfl⟩
 rw [← hE194]
 replace S := dB S (aB hE194)
 replace hb190 := dT hb190 (aB hE194)
 have I := aM hE194 (aZ hE192 rfl)
 clear hE192 hE194
 have hw195 := hb190
 clear hb190
 obtain ⟨c0, c1, c2, c3, c4, c5, c6, c7, c8, c9⟩ := HC.out.below (hw195) (by omega)
 rw [hk] at c0
 have cS_0 : wd193.cell? ⟨w.heap.size, 0, none⟩ = some (.slice (some ⟨b, o, none⟩) ts.length c) := S.out.cell 0
 obtain ⟨cI_0, cI_1, cI_2, cI_3, cI_4, cI_5, cI_6, cI_7⟩ := I.out.c8
 go_upto_region 2 with fail
 clear c0 c1 c2 c3 c4 c5 c6 c7 c8 c9 hd0 hd1
 clear cS_0 cI_0 cI_1 cI_2 cI_3 cI_4 cI_5 cI_6 cI_7
 obtain ⟨wd197, hE198⟩ : ∃ ww, ww = wd193.alloc (.cells #[.int .i64 9, .string ⟨x.name.toArray⟩, .int .i64 x.low, .int .i64 x.high, .int .i64 x.max, .slice C1 x.syms.length l1, .slice C2 x.mems.length l2, .int .i64 x.key, .int .i64 x.elem, .bool x.opn] 33) := ⟨_, rfl⟩
 rw [← hE198]
 have hb196 := aB hE198
 have X := aN hE198
 clear hE198
 have hl200 := S.out.here
 have hl201 := I.out.here
 have hl202 := hw195.size
 replace S := dB S hb196
 replace I := dB I hb196
 replace hw195 := dT hw195 hb196
 clear hb196
 generalize wd193.heap.size = g199 at *
 obtain ⟨gX, rfl⟩ : ∃ g, g = g199 := ⟨_, rfl⟩
 have hgX : w.heap.size + 1 < gX := by omega
 obtain ⟨cI_0, cI_1, cI_2, cI_3, cI_4, cI_5, cI_6, cI_7⟩ := I.out.c8
 obtain ⟨cX_0, cX_1, cX_2, cX_3, cX_4, cX_5, cX_6, cX_7, cX_8, cX_9⟩ := X.out.c10
 have HR : Hid (wrap64 (partsV ts v n) = wrap64 ((v.rest.length : Int) + (partsL ts v.keys x.key + partsL ts v.items x.elem))) := by show _ = _; rw [HE.out]; simp [partB, HKx.out]
 have hl0 : Hid (Has wd197 w.heap.size _ _ ∧ Has wd197 (w.heap.size + 1) _ _ ∧ Has wd197 gX _ _ ∧ Below w.heap.size w wd197) := Lib.hid ⟨S.out, I.out, X.out, hw195⟩
 go_upto_region 22 with fail
 clear S I X
 go_loopw [95, 8] (fun i s wr => ∃ (k : Nat) (a : Int), i = .int .i64 (k : Int) ∧ s = .int .i64 a ∧ k ≤ v.keys.length ∧ wrap64 a = a ∧ wrap64 (a + (partsL ts (v.keys.drop k) x.key + partsL ts v.items x.elem)) = wrap64 (partsV ts v n) ∧ Has wr w.heap.size 36 #[.slice (some ⟨b, o, none⟩) ts.length c] ∧ Has wr (w.heap.size + 1) 45 #[.int .i64 9, .bool v.bool, .int .i64 v.num, .string ⟨v.str.toArray⟩, .int .i64 v.id, .slice A1 v.keys.length n1, .slice A2 v.items.length n2, .slice A3 v.rest.length n3] ∧ Has wr gX 33 #[.int .i64 9, .string ⟨x.name.toArray⟩, .int .i64 x.low, .int .i64 x.high, .int .i64 x.max, .slice C1 x.syms.length l1, .slice C2 x.mems.length l2, .int .i64 x.key, .int .i64 x.elem, .bool x.opn] ∧ Below w.heap.size w wr) (fun i _ _ => v.keys.length - (intOf i).toNat)
 case atStart => exact ⟨0, _, rfl, rfl, by omega, (by unfold wrap64; omega), HR.out.symm, hl0.out⟩
 case round =>
  clear hl0
  obtain ⟨k, a, rfl, rfl, hk1, ha, hp, S, I, X, hbr⟩ := hrel
  replace S := Lib.hid S
  replace I := Lib.hid I
  replace X := Lib.hid X
  by_cases hlt : k < v.keys.length
  ·
   have hfk := HF.out.1 _ (List.getElem_mem hlt)
   have hmem : v.keys[k] ∈ v.keys ++ v.items := List.mem_append.2 (.inl (List.getElem_mem hlt))
   obtain ⟨b1, o1, rfl, hbb1, hel1⟩ := HV.out.keys.elem (by omega)
   obtain ⟨yk, yi, yr, hc1, hya⟩ := hel1 k hlt
   rw [partsL_at ts v.keys _ k hlt] at hp
   have HU1 := Lib.hid (fun W yk yi yr h1 h2 => HUn.out _ hmem x.key yk yi yr W hfk h1 h2)
   generalize v.keys[k] = y at *
   have HYA := Lib.hid hya
   have Hp := Lib.hid hp
   have hlti : (k : Int) < v.keys.length := by omega
   have hd0 : decide ((k : Int) < 0) = false := by simp
   have hd1 : decide (v.keys.length ≤ k) = false := by simpa using hlt
   obtain ⟨E1, k1, E2, k2, E3, k3, rfl, rfl, rfl, -, -, -⟩ := hya.forms
   obtain ⟨y0, y1, y2, y3, y4, y5, y6, y7⟩ := hc1.below hbr hbb1
   clear hel1 hya hc1 hp hfk hmem
   go_upto_region 24 with fail
   clear y0 y1 y2 y3 y4 y5 y6 y7
   obtain ⟨wd204, hE205⟩ : ∃ ww, ww = wr.alloc (.cells #[.int .i64 y.kind, .bool y.bool, .int .i64 y.num, .string ⟨y.str.toArray⟩, .int .i64 y.id, .slice E1 y.keys.length k1, .slice E2 y.items.length k2, .slice E3 y.rest.length k3] 45) := ⟨_, rfl⟩
   rw [← hE205]
   have hb203 := aB hE205
   have Y := aN hE205
   clear hE205
   have hl207 := S.out.here
   have hl208 := I.out.here
   have hl209 := X.out.here
   have hl210 := hbr.size
   replace S := dB S hb203
   replace I := dB I hb203
   replace X := dB X hb203
   replace hbr := dT hbr hb203
   clear hb203
   generalize wr.heap.size = g206 at *
   have cS_0 : wd204.cell? ⟨w.heap.size, 0, none⟩ = some (.slice (some ⟨b, o, none⟩) ts.length c) := S.out.cell 0
   have cX_7 : wd204.cell? ⟨gX, 7, none⟩ = some (.int .i64 x.key) := X.out.cell 7
   obtain ⟨cY_0, cY_1, cY_2, cY_3, cY_4, cY_5, cY_6, cY_7⟩ := Y.out.c8
   go_wp2_with fail
   clear cS_0 cX_7 cY_0 cY_1 cY_2 cY_3 cY_4 cY_5 cY_6 cY_7
   ((with_reducible refine (HU1.out _ _ _ _ (HYA.out.on hbr) (HT.out.on hbr)).mono ?_); rintro e wd211 ⟨rfl, hb212⟩)
   replace S := dB S hb212
   replace I := dB I hb212
   replace X := dB X hb212
   replace Y := dB Y hb212
   replace hbr := dT hbr hb212
   clear hb212
   go_wp2_with fail
   go_roundw
   case rel => exact ⟨k + 1, _, by go_num, rfl, by omega, (by unfold wrap64; omega), by rw [← Hp.out]; unfold wrap64; omega, S.out, I.out, X.out, hbr⟩
   case measure => simp [intOf]; omega
  rw [partsL_end _ _ _ _ (by omega)] at hp
  have hn1 : ¬ (k : Int) < v.keys.length := by omega
  skip
  rw [Int.zero_add] at hp
  have hl0 : Hid (Has wr w.heap.size _ _ ∧ Has wr (w.heap.size + 1) _ _ ∧ Has wr gX _ _ ∧ Below w.heap.size w wr) := Lib.hid ⟨S.out, I.out, X.out, hbr⟩
  have Hp := Lib.hid hp
  have Ha := Lib.hid ha
  clear hp ha
  have cI_6 : wr.cell? ⟨w.heap.size + 1, 6, none⟩ = some (.slice A2 v.items.length n2) := I.out.cell 6
  go_upto_region 27 with fail
  clear S I X hbr
  go_loopw [110, 8] (fun i s wr => ∃ (k : Nat) (a : Int), i = .int .i64 (k : Int) ∧ s = .int .i64 a ∧ k ≤ v.items.length ∧ wrap64 a = a ∧ wrap64 (a + (partsL ts (v.items.drop k) x.elem)) = wrap64 (partsV ts v n) ∧ Has wr w.heap.size 36 #[.slice (some ⟨b, o, none⟩) ts.length c] ∧ Has wr (w.heap.size + 1) 45 #[.int .i64 9, .bool v.bool, .int .i64 v.num, .string ⟨v.str.toArray⟩, .int .i64 v.id, .slice A1 v.keys.length n1, .slice A2 v.items.length n2, .slice A3 v.rest.length n3] ∧ Has wr gX 33 #[.int .i64 9, .string ⟨x.name.toArray⟩, .int .i64 x.low, .int .i64 x.high, .int .i64 x.max, .slice C1 x.syms.length l1, .slice C2 x.mems.length l2, .int .i64 x.key, .int .i64 x.elem, .bool x.opn] ∧ Below w.heap.size w wr) (fun i _ _ => v.items.length - (intOf i).toNat)
  case atStart => exact ⟨0, _, rfl, rfl, by omega, Ha.out, Hp.out, hl0.out⟩
  case round =>
   clear hl0
   obtain ⟨k, a, rfl, rfl, hk1, ha, hp, S, I, X, hbr⟩ := hrel
   replace S := Lib.hid S
   replace I := Lib.hid I
   replace X := Lib.hid X
   by_cases hlt : k < v.items.length
   ·
    have hfk := HF.out.2 _ (List.getElem_mem hlt)
    have hmem : v.items[k] ∈ v.keys ++ v.items := List.mem_append.2 (.inr (List.getElem_mem hlt))
    obtain ⟨b1, o1, rfl, hbb1, hel1⟩ := HV.out.items.elem (by omega)
    obtain ⟨yk, yi, yr, hc1, hya⟩ := hel1 k hlt
    rw [partsL_at ts v.items _ k hlt] at hp
    have HU1 := Lib.hid (fun W yk yi yr h1 h2 => HUn.out _ hmem x.elem yk yi yr W hfk h1 h2)
    generalize v.items[k] = y at *
    have HYA := Lib.hid hya
    have Hp := Lib.hid hp
    have hlti : (k : Int) < v.items.length := by omega
    have hd0 : decide ((k : Int) < 0) = false := by simp
    have hd1 : decide (v.items.length ≤ k) = false := by simpa using hlt
    obtain ⟨E1, k1, E2, k2, E3, k3, rfl, rfl, rfl, -, -, -⟩ := hya.forms
    obtain ⟨y0, y1, y2, y3, y4, y5, y6, y7⟩ := hc1.below hbr hbb1
    clear hel1 hya hc1 hp hfk hmem
    go_upto_region 29 with fail
    clear y0 y1 y2 y3 y4 y5 y6 y7
    obtain ⟨wd214, hE215⟩ : ∃ ww, ww = wr.alloc (.cells #[.int .i64 y.kind, .bool y.bool, .int .i64 y.num, .string ⟨y.str.toArray⟩, .int .i64 y.id, .slice E1 y.keys.length k1, .slice E2 y.items.length k2, .slice E3 y.rest.length k3] 45) := ⟨_, rfl⟩
    rw [← hE215]
    have hb213 := aB hE215
    have Y := aN hE215
    clear hE215
    have hl217 := S.out.here
    have hl218 := I.out.here
    have hl219 := X.out.here
    have hl220 := hbr.size
    replace S := dB S hb213
    replace I := dB I hb213
    replace X := dB X hb213
    replace hbr := dT hbr hb213
    clear hb213
    generalize wr.heap.size = g216 at *
    have cS_0 : wd214.cell? ⟨w.heap.size, 0, none⟩ = some (.slice (some ⟨b, o, none⟩) ts.length c) := S.out.cell 0
    have cX_8 : wd214.cell? ⟨gX, 8, none⟩ = some (.int .i64 x.elem) := X.out.cell 8
    obtain ⟨cY_0, cY_1, cY_2, cY_3, cY_4, cY_5, cY_6, cY_7⟩ := Y.out.c8
    go_wp2_with fail
    clear cS_0 cX_8 cY_0 cY_1 cY_2 cY_3 cY_4 cY_5 cY_6 cY_7
    ((with_reducible refine (HU1.out _ _ _ _ (HYA.out.on hbr) (HT.out.on hbr)).mono ?_); rintro e wd221 ⟨rfl, hb222⟩)
    replace S := dB S hb222
    replace I := dB I hb222
    replace X := dB X hb222
    replace Y := dB Y hb222
    replace hbr := dT hbr hb222
    clear hb222
    go_wp2_with fail
    go_roundw
    case rel => exact ⟨k + 1, _, by go_num, rfl, by omega, (by unfold wrap64; omega), by rw [← Hp.out]; unfold wrap64; omega, S.out, I.out, X.out, hbr⟩
    case measure => simp [intOf]; omega
   rw [partsL_end _ _ _ _ (by omega)] at hp
   have hn1 : ¬ (k : Int) < v.items.length := by omega
   skip
   rw [Int.add_zero, ha] at hp
   have Hp := Lib.hid hp
   clear hp
   go_wp2_with fail
   go_ret
   exact ⟨ret_int Hp.out, hbr⟩
theorem unk_all (ts : List Typ) (A : Option Addr) (c : Nat) (hs : ∀ x ∈ ts, 1 ≤ x.kind ∧ x.kind ≤ 9) : ∀ (N : Nat) (v : Val) (t : Int) (vk vi vr : Value) (w : World), nodes v < N → fitV ts false v t = true → ValAt w w.heap.size v vk vi vr → RdTyps w w.heap.size (.slice A ts.length c) ts →
  Calls Tryd.prog 25 #[.agg #[.slice A ts.length c], .int .i64 t, valA v vk vi vr] w fun e w' => e = .returned (.int .i64 (wrap64 (partsV ts v t))) ∧ Below w.heap.size w w' := by
 intro N
 induction N with
 | zero => intro v t vk vi vr w h; omega
 | succ N ih =>
  intro v t vk vi vr w hN hf hv hT
  have hU : UnkOn ts (.slice A ts.length c) (v.keys ++ v.items) := fun y hy t yk yi yr W h1 h2 h3 => ih y t yk yi yr W (by
   have hy2 : nodes y ≤ nodesL (v.keys ++ v.items) := nodesL_mem _ _ hy
   rw [nodesL_app] at hy2
   cases v; rw [nodes] at hN; simp only [Val.keys, Val.items] at hy2; omega) h1 h2 h3
  have hx : ∃ n : Nat, t = n ∧ ∃ hn : n < ts.length, v.kind = ts[n].kind := by
   have h := hf
   rw [fitV_eq] at h
   cases hq : typAt ts t with
   | none => rw [hq] at h; cases h
   | some x =>
    rw [hq] at h
    simp only [Bool.and_eq_true, decide_eq_true_eq] at h
    unfold typAt at hq
    by_cases h0 : 0 ≤ t
    ·
     rw [if_pos h0] at hq
     obtain ⟨h1, h2⟩ := List.getElem?_eq_some_iff.1 hq
     exact ⟨t.toNat, by omega, h1, by rw [h2]; exact h.1⟩
    rw [if_neg h0] at hq; cases hq
  obtain ⟨n, rfl, hn, hkv⟩ := hx
  obtain ⟨A1, n1, A2, n2, A3, n3, rfl, rfl, rfl, -, -, -⟩ := hv.forms
  have hk := hs ts[n] (List.getElem_mem hn)
  rcases (show ts[n].kind = 1 ∨ ts[n].kind = 2 ∨ ts[n].kind = 3 ∨ ts[n].kind = 4 ∨ ts[n].kind = 5 ∨ ts[n].kind = 6 ∨ ts[n].kind = 7 ∨ ts[n].kind = 8 ∨ ts[n].kind = 9 by omega) with h | h | h | h | h | h | h | h | h
  ·
   exact unk1_any ts A c n v A1 A2 A3 n1 n2 n3 w hn h (hkv.trans h) hT hv
  ·
   exact unk2_any ts A c n v A1 A2 A3 n1 n2 n3 w hn h (hkv.trans h) hT hv
  ·
   exact unk3_any ts A c n v A1 A2 A3 n1 n2 n3 w hn h (hkv.trans h) hT hv
  ·
   exact unk4_any ts A c n v A1 A2 A3 n1 n2 n3 w hn h (hkv.trans h) hT hv
  ·
   exact unk5_any ts A c n v A1 A2 A3 n1 n2 n3 w hn h (hkv.trans h) hT hv hf hU
  ·
   exact unk6_any ts A c n v A1 A2 A3 n1 n2 n3 w hn h (hkv.trans h) hT hv hf hU
  ·
   exact unk7_any ts A c n v A1 A2 A3 n1 n2 n3 w hn h (hkv.trans h) hT hv hf hU
  ·
   exact unk8_any ts A c n v A1 A2 A3 n1 n2 n3 w hn h (hkv.trans h) hT hv hf hU
  exact unk9_any ts A c n v A1 A2 A3 n1 n2 n3 w hn h (hkv.trans h) hT hv hf hU
end Go.Proofs.YtccmmibkihbobaaDoor

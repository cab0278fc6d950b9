/- payload. No condition. -/
import Derived.Test.YtccmmibkihbobaaDoorDecR
set_option maxHeartbeats 800000
namespace Go.Proofs.YtccmmibkihbobaaDoor
open Go.ChangeShapes Go.WideShapes Go.ChangeAt Go.RowKit
set_option maxRecDepth 100000 in
theorem pay5_any
 (ts : List Typ) (A : Option Addr) (c n gr : Nat) (fp : Value) (fn : Int) (path : List Int) (p : List UInt8) (rec : Int → List UInt8 → List Int → Res) (w : World) (hn : n < ts.length) (hk : ts[n].kind = 5) (hp : path.length < 200) (hpl : p.length ≤ 800000)
 (R : RdrAt w gr (.slice A ts.length c) fp fn path) (ht : RdTyps w gr (.slice A ts.length c) ts) (HCall : p.length ≤ 800000 → ∀ (W : World) (fp : Value) (fn : Int) (vs vm : Value), RdrAt W gr (.slice A ts.length c) fp fn path → RdTyps W gr (.slice A ts.length c) ts → TypAt W gr ts[n] vs vm → Calls Tryd.prog 46 #[.pointer (some ⟨gr, 0, none⟩), typA ts[n] vs vm, .string ⟨p.toArray⟩] W (PayPost gr (.slice A ts.length c) path W (decB rec ts[n] p path))) :
 Calls Tryd.prog 28 #[.pointer (some ⟨gr, 0, none⟩), .int .i64 n, .string ⟨p.toArray⟩] w (PayPost gr (.slice A ts.length c) path w (decB rec ts[n] p path)) := by
 replace HCall := HCall hpl
 obtain ⟨b, o, rfl, hbb, hel⟩ := ht.elem (by omega)
 obtain ⟨vs, vm, hcells, hx⟩ := hel n hn
 clear hel
 generalize ts[n] = x at *
 obtain ⟨C1, l1, C2, l2, rfl, rfl, -, -⟩ := hx.forms
 have hlt : (n : Int) < ts.length := by omega
 have hd0 : decide ((n : Int) < 0) = false := by simp
 have hd1 : decide (ts.length ≤ n) = false := by simpa using hn
 have hlp : ¬ (200 : Int) ≤ path.length := by omega
 have HX := Lib.hid hx
 have HT := Lib.hid ht
 have HC := Lib.hid hcells
 have HKx := Lib.hid hk
 have hN : Hid (n < ts.length) := Lib.hid hn
 have hxs := hx.lens
 clear hx ht hcells hn
 have hgr := R.here
 replace R := Lib.hid (RdrX.of R)
 have KP := KeepT.refl w gr
 go_enter Tryd.func28, Tryd.ntmps28
 go_upto_region 1 with fail
 obtain ⟨wd2, hE3⟩ : ∃ ww, ww = w.alloc (.cells #[.int .i64 0, .bool false, .int .i64 0, .string ⟨#[]⟩, .int .i64 0, .slice none 0 0, .slice none 0 0, .slice none 0 0] 45) := ⟨_, rfl⟩
 rw [← hE3]
 have hb1 := aB hE3
 have Z := aN hE3
 clear hE3
 replace R := rB R hb1
 replace KP := kB KP hgr hb1
 clear hb1
 obtain ⟨Ap, cp, hcp, r0, r1, -, -⟩ := R.out.at_.cells
 obtain ⟨c0, c1, c2, c3, c4, c5, c6, c7, c8, c9⟩ := HC.out.below KP.low hbb
 rw [hk] at c0
 go_upto_region 6 with fail
 clear c0 c1 c2 c3 c4 c5 c6 c7 c8 c9 r0 r1 hd0 hd1 hlp hcp
 obtain ⟨wd5, hE6⟩ : ∃ ww, ww = wd2.alloc (.cells #[.int .i64 5, .string ⟨x.name.toArray⟩, .int .i64 x.low, .int .i64 x.high, .int .i64 x.max, .slice C1 x.syms.length l1, .slice C2 x.mems.length l2, .int .i64 x.key, .int .i64 x.elem, .bool x.opn] 33) := ⟨_, rfl⟩
 rw [← hE6]
 have hb4 := aB hE6
 have X := aN hE6
 obtain ⟨wd7, hE8⟩ : ∃ ww, ww = wd5.alloc (.cells #[.int .i64 5, .bool false, .int .i64 0, .string ⟨#[]⟩, .int .i64 0, .slice none 0 0, .slice none 0 0, .slice none 0 0] 45) := ⟨_, rfl⟩
 rw [← hE8]
 replace X := dB X (aB hE8)
 replace hb4 := dT hb4 (aB hE8)
 have V := aM hE8 (aZ hE6 rfl)
 clear hE6 hE8
 have hl10 := Z.out.here
 have hl11 := KP.size
 replace Z := dB Z hb4
 replace R := rB R hb4
 replace KP := kB KP hgr hb4
 clear hb4
 generalize wd2.heap.size = g9 at *
 have HCx := Lib.hid (fun W fp fn h1 h2 h3 => HCall W fp fn (.slice C1 x.syms.length l1) (.slice C2 x.mems.length l2) h1 h2 h3)
 simp only [typA, hk] at HCx
 clear HCall
 have hz := Z.out.here
 obtain ⟨cX_0, cX_1, cX_2, cX_3, cX_4, cX_5, cX_6, cX_7, cX_8, cX_9⟩ := X.out.c10
 go_wp2_with fail
 clear cX_0 cX_1 cX_2 cX_3 cX_4 cX_5 cX_6 cX_7 cX_8 cX_9
 ((with_reducible refine (HCx.out _ _ _ R.out.at_ (HT.out.keep (fun _ hp => KP.low.cell hp) (Nat.le_refl _)) (HX.out.keep (fun _ hp => KP.low.cell hp) (Nat.le_refl _))).mono ?_); rintro e wd12 hp)
 obtain ⟨c0, c1, c2, c3, c4, c5, c6, c7, bb, h1', rfl⟩ := hp.form
 have Z2 := dKT Z hp.keep (by omega) (by decide)
 go_wp2_with (refine wpList_store_row rfl 45 _ _ rfl w.heap.size _ rfl rfl 45 _ Z2.out (by kernel_rfl) rfl (by simpa using h1') ?_)
 obtain ⟨z0, z1, z2, z3, z4, z5, z6, z7⟩ := (row_has Z2.out #[c0, c1, c2, c3, c4, c5, c6, c7]).c8
 exact bodyPost_ret (v := .tuple #[.agg #[c0, c1, c2, c3, c4, c5, c6, c7], .bool bb]) (by simp [results, Tryd.results28, go_sem, z0, z1, z2, z3, z4, z5, z6, z7]) rfl (hp.tail KP hgr (Nat.le_refl _) hz Z2.out (by decide))
set_option maxRecDepth 100000 in
theorem pay6_any
 (ts : List Typ) (A : Option Addr) (c n gr : Nat) (fp : Value) (fn : Int) (path : List Int) (p : List UInt8) (rec : Int → List UInt8 → List Int → Res) (w : World) (hn : n < ts.length) (hk : ts[n].kind = 6) (hp : path.length < 200) (hpl : p.length ≤ 800000)
 (R : RdrAt w gr (.slice A ts.length c) fp fn path) (ht : RdTyps w gr (.slice A ts.length c) ts) (HCall : p.length ≤ 800000 → ∀ (W : World) (fp : Value) (fn : Int) (vs vm : Value), RdrAt W gr (.slice A ts.length c) fp fn path → RdTyps W gr (.slice A ts.length c) ts → TypAt W gr ts[n] vs vm → Calls Tryd.prog 43 #[.pointer (some ⟨gr, 0, none⟩), typA ts[n] vs vm, .string ⟨p.toArray⟩] W (PayPost gr (.slice A ts.length c) path W (decB rec ts[n] p path))) :
 Calls Tryd.prog 28 #[.pointer (some ⟨gr, 0, none⟩), .int .i64 n, .string ⟨p.toArray⟩] w (PayPost gr (.slice A ts.length c) path w (decB rec ts[n] p path)) := by
 replace HCall := HCall hpl
 obtain ⟨b, o, rfl, hbb, hel⟩ := ht.elem (by omega)
 obtain ⟨vs, vm, hcells, hx⟩ := hel n hn
 clear hel
 generalize ts[n] = x at *
 obtain ⟨C1, l1, C2, l2, rfl, rfl, -, -⟩ := hx.forms
 have hlt : (n : Int) < ts.length := by omega
 have hd0 : decide ((n : Int) < 0) = false := by simp
 have hd1 : decide (ts.length ≤ n) = false := by simpa using hn
 have hlp : ¬ (200 : Int) ≤ path.length := by omega
 have HX := Lib.hid hx
 have HT := Lib.hid ht
 have HC := Lib.hid hcells
 have HKx := Lib.hid hk
 have hN : Hid (n < ts.length) := Lib.hid hn
 have hxs := hx.lens
 clear hx ht hcells hn
 have hgr := R.here
 replace R := Lib.hid (RdrX.of R)
 have KP := KeepT.refl w gr
 go_enter Tryd.func28, Tryd.ntmps28
 go_upto_region 1 with fail
 obtain ⟨wd15, hE16⟩ : ∃ ww, ww = w.alloc (.cells #[.int .i64 0, .bool false, .int .i64 0, .string ⟨#[]⟩, .int .i64 0, .slice none 0 0, .slice none 0 0, .slice none 0 0] 45) := ⟨_, rfl⟩
 rw [← hE16]
 have hb14 := aB hE16
 have Z := aN hE16
 clear hE16
 replace R := rB R hb14
 replace KP := kB KP hgr hb14
 clear hb14
 obtain ⟨Ap, cp, hcp, r0, r1, -, -⟩ := R.out.at_.cells
 obtain ⟨c0, c1, c2, c3, c4, c5, c6, c7, c8, c9⟩ := HC.out.below KP.low hbb
 rw [hk] at c0
 go_upto_region 39 with fail
 clear c0 c1 c2 c3 c4 c5 c6 c7 c8 c9 r0 r1 hd0 hd1 hlp hcp
 obtain ⟨wd18, hE19⟩ : ∃ ww, ww = wd15.alloc (.cells #[.int .i64 6, .string ⟨x.name.toArray⟩, .int .i64 x.low, .int .i64 x.high, .int .i64 x.max, .slice C1 x.syms.length l1, .slice C2 x.mems.length l2, .int .i64 x.key, .int .i64 x.elem, .bool x.opn] 33) := ⟨_, rfl⟩
 rw [← hE19]
 have hb17 := aB hE19
 have X := aN hE19
 obtain ⟨wd20, hE21⟩ : ∃ ww, ww = wd18.alloc (.cells #[.int .i64 6, .bool false, .int .i64 0, .string ⟨#[]⟩, .int .i64 0, .slice none 0 0, .slice none 0 0, .slice none 0 0] 45) := ⟨_, rfl⟩
 rw [← hE21]
 replace X := dB X (aB hE21)
 replace hb17 := dT hb17 (aB hE21)
 have V := aM hE21 (aZ hE19 rfl)
 clear hE19 hE21
 have hl23 := Z.out.here
 have hl24 := KP.size
 replace Z := dB Z hb17
 replace R := rB R hb17
 replace KP := kB KP hgr hb17
 clear hb17
 generalize wd15.heap.size = g22 at *
 have HCx := Lib.hid (fun W fp fn h1 h2 h3 => HCall W fp fn (.slice C1 x.syms.length l1) (.slice C2 x.mems.length l2) h1 h2 h3)
 simp only [typA, hk] at HCx
 clear HCall
 have hz := Z.out.here
 obtain ⟨cX_0, cX_1, cX_2, cX_3, cX_4, cX_5, cX_6, cX_7, cX_8, cX_9⟩ := X.out.c10
 go_wp2_with fail
 clear cX_0 cX_1 cX_2 cX_3 cX_4 cX_5 cX_6 cX_7 cX_8 cX_9
 ((with_reducible refine (HCx.out _ _ _ R.out.at_ (HT.out.keep (fun _ hp => KP.low.cell hp) (Nat.le_refl _)) (HX.out.keep (fun _ hp => KP.low.cell hp) (Nat.le_refl _))).mono ?_); rintro e wd25 hp)
 obtain ⟨c0, c1, c2, c3, c4, c5, c6, c7, bb, h1', rfl⟩ := hp.form
 have Z2 := dKT Z hp.keep (by omega) (by decide)
 go_wp2_with (refine wpList_store_row rfl 45 _ _ rfl w.heap.size _ rfl rfl 45 _ Z2.out (by kernel_rfl) rfl (by simpa using h1') ?_)
 obtain ⟨z0, z1, z2, z3, z4, z5, z6, z7⟩ := (row_has Z2.out #[c0, c1, c2, c3, c4, c5, c6, c7]).c8
 exact bodyPost_ret (v := .tuple #[.agg #[c0, c1, c2, c3, c4, c5, c6, c7], .bool bb]) (by simp [results, Tryd.results28, go_sem, z0, z1, z2, z3, z4, z5, z6, z7]) rfl (hp.tail KP hgr (Nat.le_refl _) hz Z2.out (by decide))
set_option maxRecDepth 100000 in
theorem pay7_any
 (ts : List Typ) (A : Option Addr) (c n gr : Nat) (fp : Value) (fn : Int) (path : List Int) (p : List UInt8) (rec : Int → List UInt8 → List Int → Res) (w : World) (hn : n < ts.length) (hk : ts[n].kind = 7) (hp : path.length < 200) (hpl : p.length ≤ 800000)
 (R : RdrAt w gr (.slice A ts.length c) fp fn path) (ht : RdTyps w gr (.slice A ts.length c) ts) (HCall : p.length ≤ 800000 → ∀ (W : World) (fp : Value) (fn : Int) (vs vm : Value), RdrAt W gr (.slice A ts.length c) fp fn path → RdTyps W gr (.slice A ts.length c) ts → TypAt W gr ts[n] vs vm → Calls Tryd.prog 44 #[.pointer (some ⟨gr, 0, none⟩), typA ts[n] vs vm, .string ⟨p.toArray⟩] W (PayPost gr (.slice A ts.length c) path W (decB rec ts[n] p path))) :
 Calls Tryd.prog 28 #[.pointer (some ⟨gr, 0, none⟩), .int .i64 n, .string ⟨p.toArray⟩] w (PayPost gr (.slice A ts.length c) path w (decB rec ts[n] p path)) := by
 replace HCall := HCall hpl
 obtain ⟨b, o, rfl, hbb, hel⟩ := ht.elem (by omega)
 obtain ⟨vs, vm, hcells, hx⟩ := hel n hn
 clear hel
 generalize ts[n] = x at *
 obtain ⟨C1, l1, C2, l2, rfl, rfl, -, -⟩ := hx.forms
 have hlt : (n : Int) < ts.length := by omega
 have hd0 : decide ((n : Int) < 0) = false := by simp
 have hd1 : decide (ts.length ≤ n) = false := by simpa using hn
 have hlp : ¬ (200 : Int) ≤ path.length := by omega
 have HX := Lib.hid hx
 have HT := Lib.hid ht
 have HC := Lib.hid hcells
 have HKx := Lib.hid hk
 have hN : Hid (n < ts.length) := Lib.hid hn
 have hxs := hx.lens
 clear hx ht hcells hn
 have hgr := R.here
 replace R := Lib.hid (RdrX.of R)
 have KP := KeepT.refl w gr
 go_enter Tryd.func28, Tryd.ntmps28
 go_upto_region 1 with fail
 obtain ⟨wd28, hE29⟩ : ∃ ww, ww = w.alloc (.cells #[.int .i64 0, .bool false, .int .i64 0, .string ⟨#[]⟩, .int .i64 0, .slice none 0 0, .slice none 0 0, .slice none 0 0] 45) := ⟨_, rfl⟩
 rw [← hE29]
 have hb27 := aB hE29
 have Z := aN hE29
 clear hE29
 replace R := rB R hb27
 replace KP := kB KP hgr hb27
 clear hb27
 obtain ⟨Ap, cp, hcp, r0, r1, -, -⟩ := R.out.at_.cells
 obtain ⟨c0, c1, c2, c3, c4, c5, c6, c7, c8, c9⟩ := HC.out.below KP.low hbb
 rw [hk] at c0
 go_upto_region 41 with fail
 clear c0 c1 c2 c3 c4 c5 c6 c7 c8 c9 r0 r1 hd0 hd1 hlp hcp
 obtain ⟨wd31, hE32⟩ : ∃ ww, ww = wd28.alloc (.cells #[.int .i64 7, .string ⟨x.name.toArray⟩, .int .i64 x.low, .int .i64 x.high, .int .i64 x.max, .slice C1 x.syms.length l1, .slice C2 x.mems.length l2, .int .i64 x.key, .int .i64 x.elem, .bool x.opn] 33) := ⟨_, rfl⟩
 rw [← hE32]
 have hb30 := aB hE32
 have X := aN hE32
 obtain ⟨wd33, hE34⟩ : ∃ ww, ww = wd31.alloc (.cells #[.int .i64 7, .bool false, .int .i64 0, .string ⟨#[]⟩, .int .i64 0, .slice none 0 0, .slice none 0 0, .slice none 0 0] 45) := ⟨_, rfl⟩
 rw [← hE34]
 replace X := dB X (aB hE34)
 replace hb30 := dT hb30 (aB hE34)
 have V := aM hE34 (aZ hE32 rfl)
 clear hE32 hE34
 have hl36 := Z.out.here
 have hl37 := KP.size
 replace Z := dB Z hb30
 replace R := rB R hb30
 replace KP := kB KP hgr hb30
 clear hb30
 generalize wd28.heap.size = g35 at *
 have HCx := Lib.hid (fun W fp fn h1 h2 h3 => HCall W fp fn (.slice C1 x.syms.length l1) (.slice C2 x.mems.length l2) h1 h2 h3)
 simp only [typA, hk] at HCx
 clear HCall
 have hz := Z.out.here
 obtain ⟨cX_0, cX_1, cX_2, cX_3, cX_4, cX_5, cX_6, cX_7, cX_8, cX_9⟩ := X.out.c10
 go_wp2_with fail
 clear cX_0 cX_1 cX_2 cX_3 cX_4 cX_5 cX_6 cX_7 cX_8 cX_9
 ((with_reducible refine (HCx.out _ _ _ R.out.at_ (HT.out.keep (fun _ hp => KP.low.cell hp) (Nat.le_refl _)) (HX.out.keep (fun _ hp => KP.low.cell hp) (Nat.le_refl _))).mono ?_); rintro e wd38 hp)
 obtain ⟨c0, c1, c2, c3, c4, c5, c6, c7, bb, h1', rfl⟩ := hp.form
 have Z2 := dKT Z hp.keep (by omega) (by decide)
 go_wp2_with (refine wpList_store_row rfl 45 _ _ rfl w.heap.size _ rfl rfl 45 _ Z2.out (by kernel_rfl) rfl (by simpa using h1') ?_)
 obtain ⟨z0, z1, z2, z3, z4, z5, z6, z7⟩ := (row_has Z2.out #[c0, c1, c2, c3, c4, c5, c6, c7]).c8
 exact bodyPost_ret (v := .tuple #[.agg #[c0, c1, c2, c3, c4, c5, c6, c7], .bool bb]) (by simp [results, Tryd.results28, go_sem, z0, z1, z2, z3, z4, z5, z6, z7]) rfl (hp.tail KP hgr (Nat.le_refl _) hz Z2.out (by decide))
set_option maxRecDepth 100000 in
theorem pay8_any
 (ts : List Typ) (A : Option Addr) (c n gr : Nat) (fp : Value) (fn : Int) (path : List Int) (p : List UInt8) (rec : Int → List UInt8 → List Int → Res) (w : World) (hn : n < ts.length) (hk : ts[n].kind = 8) (hp : path.length < 200) (hpl : p.length ≤ 800000)
 (R : RdrAt w gr (.slice A ts.length c) fp fn path) (ht : RdTyps w gr (.slice A ts.length c) ts) (HCall : p.length ≤ 800000 → ∀ (W : World) (fp : Value) (fn : Int) (vs vm : Value), RdrAt W gr (.slice A ts.length c) fp fn path → RdTyps W gr (.slice A ts.length c) ts → TypAt W gr ts[n] vs vm → Calls Tryd.prog 45 #[.pointer (some ⟨gr, 0, none⟩), typA ts[n] vs vm, .string ⟨p.toArray⟩] W (PayPost gr (.slice A ts.length c) path W (decB rec ts[n] p path))) :
 Calls Tryd.prog 28 #[.pointer (some ⟨gr, 0, none⟩), .int .i64 n, .string ⟨p.toArray⟩] w (PayPost gr (.slice A ts.length c) path w (decB rec ts[n] p path)) := by
 replace HCall := HCall hpl
 obtain ⟨b, o, rfl, hbb, hel⟩ := ht.elem (by omega)
 obtain ⟨vs, vm, hcells, hx⟩ := hel n hn
 clear hel
 generalize ts[n] = x at *
 obtain ⟨C1, l1, C2, l2, rfl, rfl, -, -⟩ := hx.forms
 have hlt : (n : Int) < ts.length := by omega
 have hd0 : decide ((n : Int) < 0) = false := by simp
 have hd1 : decide (ts.length ≤ n) = false := by simpa using hn
 have hlp : ¬ (200 : Int) ≤ path.length := by omega
 have HX := Lib.hid hx
 have HT := Lib.hid ht
 have HC := Lib.hid hcells
 have HKx := Lib.hid hk
 have hN : Hid (n < ts.length) := Lib.hid hn
 have hxs := hx.lens
 clear hx ht hcells hn
 have hgr := R.here
 replace R := Lib.hid (RdrX.of R)
 have KP := KeepT.refl w gr
 go_enter Tryd.func28, Tryd.ntmps28
 go_upto_region 1 with fail
 obtain ⟨wd41, hE42⟩ : ∃ ww, ww = w.alloc (.cells #[.int .i64 0, .bool false, .int .i64 0, .string ⟨#[]⟩, .int .i64 0, .slice none 0 0, .slice none 0 0, .slice none 0 0] 45) := ⟨_, rfl⟩
 rw [← hE42]
 have hb40 := aB hE42
 have Z := aN hE42
 clear hE42
 replace R := rB R hb40
 replace KP := kB KP hgr hb40
 clear hb40
 obtain ⟨Ap, cp, hcp, r0, r1, -, -⟩ := R.out.at_.cells
 obtain ⟨c0, c1, c2, c3, c4, c5, c6, c7, c8, c9⟩ := HC.out.below KP.low hbb
 rw [hk] at c0
 go_upto_region 43 with fail
 clear c0 c1 c2 c3 c4 c5 c6 c7 c8 c9 r0 r1 hd0 hd1 hlp hcp
 obtain ⟨wd44, hE45⟩ : ∃ ww, ww = wd41.alloc (.cells #[.int .i64 8, .string ⟨x.name.toArray⟩, .int .i64 x.low, .int .i64 x.high, .int .i64 x.max, .slice C1 x.syms.length l1, .slice C2 x.mems.length l2, .int .i64 x.key, .int .i64 x.elem, .bool x.opn] 33) := ⟨_, rfl⟩
 rw [← hE45]
 have hb43 := aB hE45
 have X := aN hE45
 obtain ⟨wd46, hE47⟩ : ∃ ww, ww = wd44.alloc (.cells #[.int .i64 8, .bool false, .int .i64 0, .string ⟨#[]⟩, .int .i64 0, .slice none 0 0, .slice none 0 0, .slice none 0 0] 45) := ⟨_, rfl⟩
 rw [← hE47]
 replace X := dB X (aB hE47)
 replace hb43 := dT hb43 (aB hE47)
 have V := aM hE47 (aZ hE45 rfl)
 clear hE45 hE47
 have hl49 := Z.out.here
 have hl50 := KP.size
 replace Z := dB Z hb43
 replace R := rB R hb43
 replace KP := kB KP hgr hb43
 clear hb43
 generalize wd41.heap.size = g48 at *
 have HCx := Lib.hid (fun W fp fn h1 h2 h3 => HCall W fp fn (.slice C1 x.syms.length l1) (.slice C2 x.mems.length l2) h1 h2 h3)
 simp only [typA, hk] at HCx
 clear HCall
 have hz := Z.out.here
 obtain ⟨cX_0, cX_1, cX_2, cX_3, cX_4, cX_5, cX_6, cX_7, cX_8, cX_9⟩ := X.out.c10
 go_wp2_with fail
 clear cX_0 cX_1 cX_2 cX_3 cX_4 cX_5 cX_6 cX_7 cX_8 cX_9
 ((with_reducible refine (HCx.out _ _ _ R.out.at_ (HT.out.keep (fun _ hp => KP.low.cell hp) (Nat.le_refl _)) (HX.out.keep (fun _ hp => KP.low.cell hp) (Nat.le_refl _))).mono ?_); rintro e wd51 hp)
 obtain ⟨c0, c1, c2, c3, c4, c5, c6, c7, bb, h1', rfl⟩ := hp.form
 have Z2 := dKT Z hp.keep (by omega) (by decide)
 go_wp2_with (refine wpList_store_row rfl 45 _ _ rfl w.heap.size _ rfl rfl 45 _ Z2.out (by kernel_rfl) rfl (by simpa using h1') ?_)
 obtain ⟨z0, z1, z2, z3, z4, z5, z6, z7⟩ := (row_has Z2.out #[c0, c1, c2, c3, c4, c5, c6, c7]).c8
 exact bodyPost_ret (v := .tuple #[.agg #[c0, c1, c2, c3, c4, c5, c6, c7], .bool bb]) (by simp [results, Tryd.results28, go_sem, z0, z1, z2, z3, z4, z5, z6, z7]) rfl (hp.tail KP hgr (Nat.le_refl _) hz Z2.out (by decide))
set_option maxRecDepth 100000 in
theorem pay_deep (t : Int) (gr : Nat) (tv fp : Value) (fn : Int) (path : List Int) (p : List UInt8) (w : World) (hp : path.length = 200) (R : RdrAt w gr tv fp fn path) :
  Calls Tryd.prog 28 #[.pointer (some ⟨gr, 0, none⟩), .int .i64 t, .string ⟨p.toArray⟩] w (PayPost gr tv path w (.error (path, 8))) := by
 have hlp : (200 : Int) ≤ path.length := by omega
 have hgr := R.here
 replace R := Lib.hid (RdrX.of R)
 have KP := KeepT.refl w gr
 go_enter Tryd.func28, Tryd.ntmps28
 go_upto_region 1 with fail
 obtain ⟨wd54, hE55⟩ : ∃ ww, ww = w.alloc (.cells #[.int .i64 0, .bool false, .int .i64 0, .string ⟨#[]⟩, .int .i64 0, .slice none 0 0, .slice none 0 0, .slice none 0 0] 45) := ⟨_, rfl⟩
 rw [← hE55]
 have hb53 := aB hE55
 have Z := aN hE55
 clear hE55
 replace R := rB R hb53
 replace KP := kB KP hgr hb53
 clear hb53
 obtain ⟨Ap, cp, hcp, r0, r1, -, -⟩ := R.out.at_.cells
 go_upto_region 2 with fail
 clear r0 r1 hlp hcp
 have hz := Z.out.here
 go_wp2_with fail
 ((with_reducible refine (fail_post gr _ _ _ path 8 _ (by omega) R.out.at_).mono ?_); rintro e wd56 hp)
 obtain ⟨c0, c1, c2, c3, c4, c5, c6, c7, bb, h1', rfl⟩ := hp.form
 have Z2 := dKT Z hp.keep (by omega) (by decide)
 go_wp2_with (refine wpList_store_row rfl 45 _ _ rfl w.heap.size _ rfl rfl 45 _ Z2.out (by kernel_rfl) rfl (by simpa using h1') ?_)
 obtain ⟨z0, z1, z2, z3, z4, z5, z6, z7⟩ := (row_has Z2.out #[c0, c1, c2, c3, c4, c5, c6, c7]).c8
 exact bodyPost_ret (v := .tuple #[.agg #[c0, c1, c2, c3, c4, c5, c6, c7], .bool bb]) (by simp [results, Tryd.results28, go_sem, z0, z1, z2, z3, z4, z5, z6, z7]) rfl (hp.tail KP hgr (Nat.le_refl _) hz Z2.out (by decide))
def SchOK (ts : List Typ) : Prop := ∀ x ∈ ts, (1 ≤ x.kind ∧ x.kind ≤ 9) ∧ (x.kind = 5 → x.mems.length ≤ 1000) ∧ (∀ m ∈ x.mems, (typAt ts m.ty).isSome = true) ∧ (x.kind = 7 ∨ x.kind = 9 ∨ x.kind = 8 → (typAt ts x.elem).isSome = true) ∧ (x.kind = 8 → (typAt ts x.key).isSome = true)
theorem typAt_get {ts : List Typ} {t : Int} (h : (typAt ts t).isSome = true) : ∃ n : Nat, t = n ∧ ∃ hn : n < ts.length, typAt ts t = some ts[n] := by
 unfold typAt at h ⊢
 split at h
 ·
  rename_i h0
  have h1 : t.toNat < ts.length := by simpa using h
  exact ⟨t.toNat, by omega, h1, by rw [if_pos h0, List.getElem?_eq_getElem h1]⟩
 cases h
theorem pay_all (ts : List Typ) (A : Option Addr) (c gr : Nat) (hs : SchOK ts) : ∀ (lv : Nat) (path : List Int) (t : Int) (p : List UInt8) (w : World) (fp : Value) (fn : Int), path.length + lv = 200 → (typAt ts t).isSome = true → p.length ≤ 800000 →
  RdrAt w gr (.slice A ts.length c) fp fn path → RdTyps w gr (.slice A ts.length c) ts →
  Calls Tryd.prog 28 #[.pointer (some ⟨gr, 0, none⟩), .int .i64 t, .string ⟨p.toArray⟩] w (PayPost gr (.slice A ts.length c) path w (decP ts lv t p path)) := by
 intro lv
 induction lv with
 | zero =>
  intro path t p w fp fn hl ht hp R hT
  exact pay_deep t gr _ fp fn path p w (by omega) R
 | succ lv ih =>
  intro path t p w fp fn hl ht hp R hT
  obtain ⟨n, rfl, hn, hx⟩ := typAt_get ht
  have hP : PartOn ts gr (.slice A ts.length c) (decP ts lv) path := fun W fp fn s t q R hT ht hq =>
   part_post gr _ fp fn path s t q _ W (by omega) R fun W' fp' fn' K R' => ih (path ++ [s]) t q W' fp' fn' (by simp; omega) ht hq R' (hT.keep (fun _ hp => K.low.cell hp) (Nat.le_refl _))
  obtain ⟨hk, hml, hmm, hel, hky⟩ := hs ts[n] (List.getElem_mem hn)
  rw [decP, hx]
  simp only []
  have hlt : path.length < 200 := by omega
  rcases (show ts[n].kind = 1 ∨ ts[n].kind = 2 ∨ ts[n].kind = 3 ∨ ts[n].kind = 4 ∨ ts[n].kind = 5 ∨ ts[n].kind = 6 ∨ ts[n].kind = 7 ∨ ts[n].kind = 8 ∨ ts[n].kind = 9 by omega) with h | h | h | h | h | h | h | h | h
  ·
   exact pay1_any ts A c n gr fp fn path p _ w hn h hlt hp R hT
  ·
   exact pay2_any ts A c n gr fp fn path p _ w hn h hlt hp R hT
  ·
   exact pay3_any ts A c n gr fp fn path p _ w hn h hlt hp R hT
  ·
   exact pay4_any ts A c n gr fp fn path p _ w hn h hlt hp R hT
  ·
   exact pay5_any ts A c n gr fp fn path p _ w hn h hlt hp R hT (fun _ W fp fn vs vm R hT hx => record_any ts _ gr fp fn path p _ _ vs vm W h hlt hp R hT hx hP ⟨hml h, hmm⟩)
  ·
   exact pay6_any ts A c n gr fp fn path p _ w hn h hlt hp R hT (fun _ W fp fn vs vm R hT hx => union_any ts _ gr fp fn path p _ _ vs vm W h hlt hp R hT hx hP hmm)
  ·
   exact pay7_any ts A c n gr fp fn path p _ w hn h hlt hp R hT (fun _ W fp fn vs vm R hT hx => list_any ts _ gr fp fn path p _ _ vs vm W h hlt hp R hT hx hP (hel (.inl h)))
  ·
   exact pay8_any ts A c n gr fp fn path p _ w hn h hlt hp R hT (fun _ W fp fn vs vm R hT hx => entries_any ts _ gr fp fn path p _ _ vs vm W h hlt hp R hT hx hP ⟨hky h, hel (.inr (.inr h))⟩)
  exact pay9_any ts A c n gr fp fn path p _ w hn h hlt hp R hT hP (hel (.inr (.inl h)))
end Go.Proofs.YtccmmibkihbobaaDoor

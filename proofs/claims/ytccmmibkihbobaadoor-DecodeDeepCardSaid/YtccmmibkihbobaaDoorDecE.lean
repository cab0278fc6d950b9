/- payload: kinds without parts. No condition. -/
import Derived.Test.YtccmmibkihbobaaDoorDecD
set_option maxHeartbeats 800000
namespace Go.Proofs.YtccmmibkihbobaaDoor
open Go.ChangeShapes Go.WideShapes Go.ChangeAt Go.RowKit
theorem str1_ne {p : List UInt8} {q : List UInt8} (h : ¬ p = q) : ¬ ({ data := p.toArray } : ByteArray) = { data := q.toArray } := fun e => h (by injection e with e; simpa using congrArg Array.toList e)
set_option maxRecDepth 100000 in
theorem pay1_any
 (ts : List Typ) (A : Option Addr) (c n gr : Nat) (fp : Value) (fn : Int) (path : List Int) (p : List UInt8) (rec : Int → List UInt8 → List Int → Res) (w : World) (hn : n < ts.length) (hk : ts[n].kind = 1) (hp : path.length < 200) (hpl : p.length ≤ 800000)
 (R : RdrAt w gr (.slice A ts.length c) fp fn path) (ht : RdTyps w gr (.slice A ts.length c) ts) :
 Calls Tryd.prog 28 #[.pointer (some ⟨gr, 0, none⟩), .int .i64 n, .string ⟨p.toArray⟩] w (PayPost gr (.slice A ts.length c) path w (decB rec ts[n] p path)) := by
 obtain ⟨b, o, rfl, hbb, hel⟩ := ht.elem (by omega)
 obtain ⟨vs, vm, hcells, hx⟩ := hel n hn
 clear hel
 generalize ts[n] = x at *
 obtain ⟨C1, l1, C2, l2, rfl, rfl, -, -⟩ := hx.forms
 have hlt : (n : Int) < ts.length := by omega
 have hd0 : decide ((n : Int) < 0) = false := by simp
 have hd1 : decide (ts.length ≤ n) = false := by simpa using hn
 have hlp : ¬ (200 : Int) ≤ path.length := by omega
 have HX := Lib.hid hx
 have HT := Lib.hid ht
 have HC := Lib.hid hcells
 have HKx := Lib.hid hk
 have hN : Hid (n < ts.length) := Lib.hid hn
 have hxs := hx.lens
 clear hx ht hcells hn
 have hgr := R.here
 replace R := Lib.hid (RdrX.of R)
 have KP := KeepT.refl w gr
 go_enter Tryd.func28, Tryd.ntmps28
 go_upto_region 1 with fail
 obtain ⟨wd2, hE3⟩ : ∃ ww, ww = w.alloc (.cells #[.int .i64 0, .bool false, .int .i64 0, .string ⟨#[]⟩, .int .i64 0, .slice none 0 0, .slice none 0 0, .slice none 0 0] 45) := ⟨_, rfl⟩
 rw [← hE3]
 have hb1 := aB hE3
 have Z := aN hE3
 clear hE3
 replace R := rB R hb1
 replace KP := kB KP hgr hb1
 clear hb1
 obtain ⟨Ap, cp, hcp, r0, r1, -, -⟩ := R.out.at_.cells
 obtain ⟨c0, c1, c2, c3, c4, c5, c6, c7, c8, c9⟩ := HC.out.below KP.low hbb
 rw [hk] at c0
 go_upto_region 8 with fail
 clear c0 c1 c2 c3 c4 c5 c6 c7 c8 c9 r0 r1 hd0 hd1 hlp hcp
 obtain ⟨wd5, hE6⟩ : ∃ ww, ww = wd2.alloc (.cells #[.int .i64 1, .string ⟨x.name.toArray⟩, .int .i64 x.low, .int .i64 x.high, .int .i64 x.max, .slice C1 x.syms.length l1, .slice C2 x.mems.length l2, .int .i64 x.key, .int .i64 x.elem, .bool x.opn] 33) := ⟨_, rfl⟩
 rw [← hE6]
 have hb4 := aB hE6
 have X := aN hE6
 obtain ⟨wd7, hE8⟩ : ∃ ww, ww = wd5.alloc (.cells #[.int .i64 1, .bool false, .int .i64 0, .string ⟨#[]⟩, .int .i64 0, .slice none 0 0, .slice none 0 0, .slice none 0 0] 45) := ⟨_, rfl⟩
 rw [← hE8]
 replace X := dB X (aB hE8)
 replace hb4 := dT hb4 (aB hE8)
 have V := aM hE8 (aZ hE6 rfl)
 clear hE6 hE8
 have hl10 := Z.out.here
 have hl11 := KP.size
 replace Z := dB Z hb4
 replace R := rB R hb4
 replace KP := kB KP hgr hb4
 clear hb4
 generalize wd2.heap.size = g9 at *
 by_cases h1 : p = [1]
 ·
  subst h1
  have cV_1 : wd7.cell? ⟨g9 + 1, 1, none⟩ = some (.bool false) := V.out.cell 1
  have fV_1 := V.out.free 1
  go_upto_region 9 with fail
  clear cV_1 fV_1
  obtain ⟨wd12, hE13⟩ : ∃ ww, ww = wd7.setCell ⟨g9 + 1, 1, none⟩ (.bool true) := ⟨_, rfl⟩
  rw [← hE13]
  replace Z := dF Z hE13 (by omega)
  replace X := dF X hE13 (by omega)
  replace R := rF R V hE13 (by decide) (by omega)
  replace KP := kS KP hgr hE13 (by omega)
  replace V : Hid (Has wd12 (g9 + 1) 45 #[.int .i64 1, .bool true, .int .i64 0, .string ⟨#[]⟩, .int .i64 0, .slice none 0 0, .slice none 0 0, .slice none 0 0]) := Lib.hid (by simpa using dS V hE13)
  clear hE13
  have cV_1 : wd12.cell? ⟨g9 + 1, 1, none⟩ = some (.bool true) := V.out.cell 1
  go_upto_region 44 with fail
  obtain ⟨cV_0, -, cV_2, cV_3, cV_4, cV_5, cV_6, cV_7⟩ := V.out.c8
  go_wp2_with (refine wpList_store_row rfl 45 _ _ rfl (w.heap.size) _ rfl rfl 45 _ Z.out (by kernel_rfl) rfl (by first | assumption | simp [Value.oneCell']) ?_)
  clear cV_1 cV_0 cV_2 cV_3 cV_4 cV_5 cV_6 cV_7
  obtain ⟨wd14, hE15⟩ : ∃ ww, ww = wd12.setRow (w.heap.size) #[.int .i64 1, .bool true, .int .i64 0, .string ⟨#[]⟩, .int .i64 0, .slice none 0 0, .slice none 0 0, .slice none 0 0] := ⟨_, rfl⟩
  rw [← hE15]
  replace X := dR X hE15 (by omega)
  replace V := dR V hE15 (by omega)
  replace R := rR R Z hE15 (by decide) (by omega)
  replace KP := kRw KP hgr hE15 (by omega)
  replace Z := dO Z hE15
  clear hE15
  obtain ⟨cZ_0, cZ_1, cZ_2, cZ_3, cZ_4, cZ_5, cZ_6, cZ_7⟩ := Z.out.c8
  exact bodyPost_ret (v := .tuple #[.agg #[.int .i64 1, .bool true, .int .i64 0, .string ⟨#[]⟩, .int .i64 0, .slice none 0 0, .slice none 0 0, .slice none 0 0], .bool true]) (by simp [results, Tryd.results28, go_sem, cZ_0, cZ_1, cZ_2, cZ_3, cZ_4, cZ_5, cZ_6, cZ_7]) rfl (PayPost.good (v := .mk 1 true 0 [] 0 [] [] []) (by simp [decB, HKx.out]) R KP (valP_leaf _ _ _ _ _ _ _ (by unfold I64; omega) (by unfold I64; omega) (by unfold I64; omega) (by simp)))
 have h2 := str1_ne h1
 by_cases h0 : p = []
 ·
  subst h0
  have cV_1 : wd7.cell? ⟨g9 + 1, 1, none⟩ = some (.bool false) := V.out.cell 1
  have fV_1 := V.out.free 1
  go_upto_region 9 with fail
  clear cV_1 fV_1
  obtain ⟨wd16, hE17⟩ : ∃ ww, ww = wd7.setCell ⟨g9 + 1, 1, none⟩ (.bool false) := ⟨_, rfl⟩
  rw [← hE17]
  replace Z := dF Z hE17 (by omega)
  replace X := dF X hE17 (by omega)
  replace R := rF R V hE17 (by decide) (by omega)
  replace KP := kS KP hgr hE17 (by omega)
  replace V : Hid (Has wd16 (g9 + 1) 45 #[.int .i64 1, .bool false, .int .i64 0, .string ⟨#[]⟩, .int .i64 0, .slice none 0 0, .slice none 0 0, .slice none 0 0]) := Lib.hid (by simpa using dS V hE17)
  clear hE17
  have cV_1 : wd16.cell? ⟨g9 + 1, 1, none⟩ = some (.bool false) := V.out.cell 1
  go_upto_region 44 with fail
  obtain ⟨cV_0, -, cV_2, cV_3, cV_4, cV_5, cV_6, cV_7⟩ := V.out.c8
  go_wp2_with (refine wpList_store_row rfl 45 _ _ rfl (w.heap.size) _ rfl rfl 45 _ Z.out (by kernel_rfl) rfl (by first | assumption | simp [Value.oneCell']) ?_)
  clear cV_1 cV_0 cV_2 cV_3 cV_4 cV_5 cV_6 cV_7
  obtain ⟨wd18, hE19⟩ : ∃ ww, ww = wd16.setRow (w.heap.size) #[.int .i64 1, .bool false, .int .i64 0, .string ⟨#[]⟩, .int .i64 0, .slice none 0 0, .slice none 0 0, .slice none 0 0] := ⟨_, rfl⟩
  rw [← hE19]
  replace X := dR X hE19 (by omega)
  replace V := dR V hE19 (by omega)
  replace R := rR R Z hE19 (by decide) (by omega)
  replace KP := kRw KP hgr hE19 (by omega)
  replace Z := dO Z hE19
  clear hE19
  obtain ⟨cZ_0, cZ_1, cZ_2, cZ_3, cZ_4, cZ_5, cZ_6, cZ_7⟩ := Z.out.c8
  exact bodyPost_ret (v := .tuple #[.agg #[.int .i64 1, .bool false, .int .i64 0, .string ⟨#[]⟩, .int .i64 0, .slice none 0 0, .slice none 0 0, .slice none 0 0], .bool true]) (by simp [results, Tryd.results28, go_sem, cZ_0, cZ_1, cZ_2, cZ_3, cZ_4, cZ_5, cZ_6, cZ_7]) rfl (PayPost.good (v := .mk 1 false 0 [] 0 [] [] []) (by simp [decB, HKx.out]) R KP (valP_leaf _ _ _ _ _ _ _ (by unfold I64; omega) (by unfold I64; omega) (by unfold I64; omega) (by simp)))
 have h3 := str1_ne h0
 have h2b : (p == [1]) = false := by simpa using h1
 have h3b : (!p.isEmpty) = true := by cases p with | nil => exact absurd rfl h0 | cons => rfl
 have HR : Hid (decB rec x p path = .error (path, 1)) := by show _ = _; simp [decB, HKx.out, h0, h1]
 have cV_1 : wd7.cell? ⟨g9 + 1, 1, none⟩ = some (.bool false) := V.out.cell 1
 have fV_1 := V.out.free 1
 go_upto_region 9 with fail
 clear cV_1 fV_1
 obtain ⟨wd20, hE21⟩ : ∃ ww, ww = wd7.setCell ⟨g9 + 1, 1, none⟩ (.bool false) := ⟨_, rfl⟩
 rw [← hE21]
 replace Z := dF Z hE21 (by omega)
 replace X := dF X hE21 (by omega)
 replace R := rF R V hE21 (by decide) (by omega)
 replace KP := kS KP hgr hE21 (by omega)
 replace V : Hid (Has wd20 (g9 + 1) 45 #[.int .i64 1, .bool false, .int .i64 0, .string ⟨#[]⟩, .int .i64 0, .slice none 0 0, .slice none 0 0, .slice none 0 0]) := Lib.hid (by simpa using dS V hE21)
 clear hE21
 have cV_1 : wd20.cell? ⟨g9 + 1, 1, none⟩ = some (.bool false) := V.out.cell 1
 go_upto_region 10 with fail
 have hz := Z.out.here
 go_wp2_with fail
 clear cV_1
 ((with_reducible refine (fail_post gr _ _ _ path 1 _ (by omega) R.out.at_).mono ?_); rintro e wd22 hp)
 obtain ⟨c0, c1, c2, c3, c4, c5, c6, c7, bb, h1', rfl⟩ := hp.form
 have Z2 := dKT Z hp.keep (by omega) (by decide)
 go_wp2_with (refine wpList_store_row rfl 45 _ _ rfl w.heap.size _ rfl rfl 45 _ Z2.out (by kernel_rfl) rfl (by simpa using h1') ?_)
 obtain ⟨z0, z1, z2, z3, z4, z5, z6, z7⟩ := (row_has Z2.out #[c0, c1, c2, c3, c4, c5, c6, c7]).c8
 exact bodyPost_ret (v := .tuple #[.agg #[c0, c1, c2, c3, c4, c5, c6, c7], .bool bb]) (by simp [results, Tryd.results28, go_sem, z0, z1, z2, z3, z4, z5, z6, z7]) rfl (by rw [HR.out]; exact hp.tail KP hgr (Nat.le_refl _) hz Z2.out (by decide))
theorem fromF_lt8 : ∀ (l : List UInt8) (n k : Nat), n < 256 ^ k → fromF l n < 256 ^ (k + l.length)
 | [], n, k, h => h
 | b :: r, n, k, h => by
  have hb := b.toNat_lt
  have h1 : n * 256 + b.toNat < 256 ^ (k + 1) := by rw [Nat.pow_succ]; omega
  have := fromF_lt8 r _ _ h1
  rw [fromF, List.length_cons, show k + (r.length + 1) = k + 1 + r.length by omega]; exact this
theorem fb_u64 (l : List UInt8) : U64 (fromBig l).1 := by
 unfold fromBig U64
 split
 ·
  decide
 split
 ·
  decide
 have h := fromF_lt8 l 0 0 (by decide)
 have h8 : 256 ^ (0 + l.length) ≤ 256 ^ 8 := Nat.pow_le_pow_right (by omega) (by omega)
 have e : (256 : Nat) ^ 8 = 18446744073709551616 := by decide
 show fromF l 0 < _
 omega
set_option maxRecDepth 100000 in
theorem pay2_any
 (ts : List Typ) (A : Option Addr) (c n gr : Nat) (fp : Value) (fn : Int) (path : List Int) (p : List UInt8) (rec : Int → List UInt8 → List Int → Res) (w : World) (hn : n < ts.length) (hk : ts[n].kind = 2) (hp : path.length < 200) (hpl : p.length ≤ 800000)
 (R : RdrAt w gr (.slice A ts.length c) fp fn path) (ht : RdTyps w gr (.slice A ts.length c) ts) :
 Calls Tryd.prog 28 #[.pointer (some ⟨gr, 0, none⟩), .int .i64 n, .string ⟨p.toArray⟩] w (PayPost gr (.slice A ts.length c) path w (decB rec ts[n] p path)) := by
 have HB := Lib.hid (fun W => frombig_any p W (by omega))
 have hu := fb_u64 p
 have HD : Hid (∀ (x : Typ), x.kind = 2 → decB rec x p path = (if (fromBig p).2 ≠ 0 then .error (path, 1) else if unzig (fromBig p).1 < x.low ∨ x.high < unzig (fromBig p).1 then .error (path, 2) else .ok (.mk 2 false (unzig (fromBig p).1) [] 0 [] [] []))) := Lib.hid fun x h => by simp [decB, h]
 generalize fromBig p = g at *
 obtain ⟨q, er⟩ := g
 obtain ⟨b, o, rfl, hbb, hel⟩ := ht.elem (by omega)
 obtain ⟨vs, vm, hcells, hx⟩ := hel n hn
 clear hel
 generalize ts[n] = x at *
 obtain ⟨C1, l1, C2, l2, rfl, rfl, -, -⟩ := hx.forms
 have hlt : (n : Int) < ts.length := by omega
 have hd0 : decide ((n : Int) < 0) = false := by simp
 have hd1 : decide (ts.length ≤ n) = false := by simpa using hn
 have hlp : ¬ (200 : Int) ≤ path.length := by omega
 have HX := Lib.hid hx
 have HT := Lib.hid ht
 have HC := Lib.hid hcells
 have HKx := Lib.hid hk
 have hN : Hid (n < ts.length) := Lib.hid hn
 have hxs := hx.lens
 clear hx ht hcells hn
 have hgr := R.here
 replace R := Lib.hid (RdrX.of R)
 have KP := KeepT.refl w gr
 go_enter Tryd.func28, Tryd.ntmps28
 go_upto_region 1 with fail
 obtain ⟨wd25, hE26⟩ : ∃ ww, ww = w.alloc (.cells #[.int .i64 0, .bool false, .int .i64 0, .string ⟨#[]⟩, .int .i64 0, .slice none 0 0, .slice none 0 0, .slice none 0 0] 45) := ⟨_, rfl⟩
 rw [← hE26]
 have hb24 := aB hE26
 have Z := aN hE26
 clear hE26
 replace R := rB R hb24
 replace KP := kB KP hgr hb24
 clear hb24
 obtain ⟨Ap, cp, hcp, r0, r1, -, -⟩ := R.out.at_.cells
 obtain ⟨c0, c1, c2, c3, c4, c5, c6, c7, c8, c9⟩ := HC.out.below KP.low hbb
 rw [hk] at c0
 go_upto_region 12 with fail
 clear c0 c1 c2 c3 c4 c5 c6 c7 c8 c9 r0 r1 hd0 hd1 hlp hcp
 obtain ⟨wd28, hE29⟩ : ∃ ww, ww = wd25.alloc (.cells #[.int .i64 2, .string ⟨x.name.toArray⟩, .int .i64 x.low, .int .i64 x.high, .int .i64 x.max, .slice C1 x.syms.length l1, .slice C2 x.mems.length l2, .int .i64 x.key, .int .i64 x.elem, .bool x.opn] 33) := ⟨_, rfl⟩
 rw [← hE29]
 have hb27 := aB hE29
 have X := aN hE29
 obtain ⟨wd30, hE31⟩ : ∃ ww, ww = wd28.alloc (.cells #[.int .i64 2, .bool false, .int .i64 0, .string ⟨#[]⟩, .int .i64 0, .slice none 0 0, .slice none 0 0, .slice none 0 0] 45) := ⟨_, rfl⟩
 rw [← hE31]
 replace X := dB X (aB hE31)
 replace hb27 := dT hb27 (aB hE31)
 have V := aM hE31 (aZ hE29 rfl)
 clear hE29 hE31
 have hl33 := Z.out.here
 have hl34 := KP.size
 replace Z := dB Z hb27
 replace R := rB R hb27
 replace KP := kB KP hgr hb27
 clear hb27
 generalize wd25.heap.size = g32 at *
 have HD := HD.out x hk
 by_cases h0 : er = 0
 ·
  subst h0
  have hui := unzig_range q hu
  have HZ := Lib.hid (fun W => unzig_any q hu W)
  simp only [ne_eq, not_true_eq_false, if_false] at HD
  generalize unzig (q : Int) = i at *
  replace HD := Lib.hid HD
  have Hui := Lib.hid hui
  clear hui hu
  go_upto_region 15 with (go_at_call 40; refine (HB.out _).mono ?_; rintro e w' ⟨rfl, rfl⟩)
  have cV_2 : wd30.cell? ⟨g32 + 1, 2, none⟩ = some (.int .i64 0) := V.out.cell 2
  have fV_2 := V.out.free 2
  go_upto_region 16 with (go_at_call 41; refine (HZ.out _).mono ?_; rintro e w' ⟨rfl, rfl⟩)
  clear cV_2 fV_2
  obtain ⟨wd35, hE36⟩ : ∃ ww, ww = wd30.setCell ⟨g32 + 1, 2, none⟩ (.int .i64 i) := ⟨_, rfl⟩
  rw [← hE36]
  replace Z := dF Z hE36 (by omega)
  replace X := dF X hE36 (by omega)
  replace R := rF R V hE36 (by decide) (by omega)
  replace KP := kS KP hgr hE36 (by omega)
  replace V : Hid (Has wd35 (g32 + 1) 45 #[.int .i64 2, .bool false, .int .i64 i, .string ⟨#[]⟩, .int .i64 0, .slice none 0 0, .slice none 0 0, .slice none 0 0]) := Lib.hid (by simpa using dS V hE36)
  clear hE36
  have cV_2 : wd35.cell? ⟨g32 + 1, 2, none⟩ = some (.int .i64 i) := V.out.cell 2
  have cX_2 : wd35.cell? ⟨g32, 2, none⟩ = some (.int .i64 x.low) := X.out.cell 2
  have cX_3 : wd35.cell? ⟨g32, 3, none⟩ = some (.int .i64 x.high) := X.out.cell 3
  by_cases h1 : i < x.low
  ·
   have HR : Hid (decB rec x p path = .error (path, 2)) := by show _ = _; rw [HD.out, if_pos (.inl h1)]
   go_upto_region 17 with fail
   have hz := Z.out.here
   go_wp2_with fail
   clear cV_2 cX_2 cX_3
   ((with_reducible refine (fail_post gr _ _ _ path 2 _ (by omega) R.out.at_).mono ?_); rintro e wd37 hp)
   obtain ⟨c0, c1, c2, c3, c4, c5, c6, c7, bb, h1', rfl⟩ := hp.form
   have Z2 := dKT Z hp.keep (by omega) (by decide)
   go_wp2_with (refine wpList_store_row rfl 45 _ _ rfl w.heap.size _ rfl rfl 45 _ Z2.out (by kernel_rfl) rfl (by simpa using h1') ?_)
   obtain ⟨z0, z1, z2, z3, z4, z5, z6, z7⟩ := (row_has Z2.out #[c0, c1, c2, c3, c4, c5, c6, c7]).c8
   exact bodyPost_ret (v := .tuple #[.agg #[c0, c1, c2, c3, c4, c5, c6, c7], .bool bb]) (by simp [results, Tryd.results28, go_sem, z0, z1, z2, z3, z4, z5, z6, z7]) rfl (by rw [HR.out]; exact hp.tail KP hgr (Nat.le_refl _) hz Z2.out (by decide))
  by_cases h2 : x.high < i
  ·
   have HR : Hid (decB rec x p path = .error (path, 2)) := by show _ = _; rw [HD.out, if_pos (.inr h2)]
   go_upto_region 17 with fail
   have hz := Z.out.here
   go_wp2_with fail
   clear cV_2 cX_2 cX_3
   ((with_reducible refine (fail_post gr _ _ _ path 2 _ (by omega) R.out.at_).mono ?_); rintro e wd39 hp)
   obtain ⟨c0, c1, c2, c3, c4, c5, c6, c7, bb, h1', rfl⟩ := hp.form
   have Z2 := dKT Z hp.keep (by omega) (by decide)
   go_wp2_with (refine wpList_store_row rfl 45 _ _ rfl w.heap.size _ rfl rfl 45 _ Z2.out (by kernel_rfl) rfl (by simpa using h1') ?_)
   obtain ⟨z0, z1, z2, z3, z4, z5, z6, z7⟩ := (row_has Z2.out #[c0, c1, c2, c3, c4, c5, c6, c7]).c8
   exact bodyPost_ret (v := .tuple #[.agg #[c0, c1, c2, c3, c4, c5, c6, c7], .bool bb]) (by simp [results, Tryd.results28, go_sem, z0, z1, z2, z3, z4, z5, z6, z7]) rfl (by rw [HR.out]; exact hp.tail KP hgr (Nat.le_refl _) hz Z2.out (by decide))
  have HR : Hid (decB rec x p path = .ok (.mk 2 false i [] 0 [] [] [])) := by show _ = _; rw [HD.out, if_neg (by omega)]
  go_upto_region 44 with fail
  obtain ⟨cV_0, cV_1, -, cV_3, cV_4, cV_5, cV_6, cV_7⟩ := V.out.c8
  go_wp2_with (refine wpList_store_row rfl 45 _ _ rfl (w.heap.size) _ rfl rfl 45 _ Z.out (by kernel_rfl) rfl (by first | assumption | simp [Value.oneCell']) ?_)
  clear cV_2 cX_2 cX_3 cV_0 cV_1 cV_3 cV_4 cV_5 cV_6 cV_7
  obtain ⟨wd41, hE42⟩ : ∃ ww, ww = wd35.setRow (w.heap.size) #[.int .i64 2, .bool false, .int .i64 i, .string ⟨#[]⟩, .int .i64 0, .slice none 0 0, .slice none 0 0, .slice none 0 0] := ⟨_, rfl⟩
  rw [← hE42]
  replace X := dR X hE42 (by omega)
  replace V := dR V hE42 (by omega)
  replace R := rR R Z hE42 (by decide) (by omega)
  replace KP := kRw KP hgr hE42 (by omega)
  replace Z := dO Z hE42
  clear hE42
  obtain ⟨cZ_0, cZ_1, cZ_2, cZ_3, cZ_4, cZ_5, cZ_6, cZ_7⟩ := Z.out.c8
  exact bodyPost_ret (v := .tuple #[.agg #[.int .i64 2, .bool false, .int .i64 i, .string ⟨#[]⟩, .int .i64 0, .slice none 0 0, .slice none 0 0, .slice none 0 0], .bool true]) (by simp [results, Tryd.results28, go_sem, cZ_0, cZ_1, cZ_2, cZ_3, cZ_4, cZ_5, cZ_6, cZ_7]) rfl (PayPost.good (v := .mk 2 false i [] 0 [] [] []) HR.out R KP (valP_leaf _ _ _ _ _ _ _ (by unfold I64; omega) Hui.out (by unfold I64; omega) (by simp)))
 have HR : Hid (decB rec x p path = .error (path, 1)) := by show _ = _; rw [HD, if_pos h0]
 have h0i : ¬ (er : Int) = 0 := by omega
 clear HD
 go_upto_region 14 with (go_at_call 40; refine (HB.out _).mono ?_; rintro e w' ⟨rfl, rfl⟩)
 go_upto_region 14 with fail
 have hz := Z.out.here
 go_wp2_with fail
 ((with_reducible refine (fail_post gr _ _ _ path 1 _ (by omega) R.out.at_).mono ?_); rintro e wd43 hp)
 obtain ⟨c0, c1, c2, c3, c4, c5, c6, c7, bb, h1', rfl⟩ := hp.form
 have Z2 := dKT Z hp.keep (by omega) (by decide)
 go_wp2_with (refine wpList_store_row rfl 45 _ _ rfl w.heap.size _ rfl rfl 45 _ Z2.out (by kernel_rfl) rfl (by simpa using h1') ?_)
 obtain ⟨z0, z1, z2, z3, z4, z5, z6, z7⟩ := (row_has Z2.out #[c0, c1, c2, c3, c4, c5, c6, c7]).c8
 exact bodyPost_ret (v := .tuple #[.agg #[c0, c1, c2, c3, c4, c5, c6, c7], .bool bb]) (by simp [results, Tryd.results28, go_sem, z0, z1, z2, z3, z4, z5, z6, z7]) rfl (by rw [HR.out]; exact hp.tail KP hgr (Nat.le_refl _) hz Z2.out (by decide))
set_option maxRecDepth 100000 in
theorem pay3_any
 (ts : List Typ) (A : Option Addr) (c n gr : Nat) (fp : Value) (fn : Int) (path : List Int) (p : List UInt8) (rec : Int → List UInt8 → List Int → Res) (w : World) (hn : n < ts.length) (hk : ts[n].kind = 3) (hp : path.length < 200) (hpl : p.length ≤ 800000)
 (R : RdrAt w gr (.slice A ts.length c) fp fn path) (ht : RdTyps w gr (.slice A ts.length c) ts) :
 Calls Tryd.prog 28 #[.pointer (some ⟨gr, 0, none⟩), .int .i64 n, .string ⟨p.toArray⟩] w (PayPost gr (.slice A ts.length c) path w (decB rec ts[n] p path)) := by
 obtain ⟨b, o, rfl, hbb, hel⟩ := ht.elem (by omega)
 obtain ⟨vs, vm, hcells, hx⟩ := hel n hn
 clear hel
 generalize ts[n] = x at *
 obtain ⟨C1, l1, C2, l2, rfl, rfl, -, -⟩ := hx.forms
 have hlt : (n : Int) < ts.length := by omega
 have hd0 : decide ((n : Int) < 0) = false := by simp
 have hd1 : decide (ts.length ≤ n) = false := by simpa using hn
 have hlp : ¬ (200 : Int) ≤ path.length := by omega
 have HX := Lib.hid hx
 have HT := Lib.hid ht
 have HC := Lib.hid hcells
 have HKx := Lib.hid hk
 have hN : Hid (n < ts.length) := Lib.hid hn
 have hxs := hx.lens
 clear hx ht hcells hn
 have hgr := R.here
 replace R := Lib.hid (RdrX.of R)
 have KP := KeepT.refl w gr
 go_enter Tryd.func28, Tryd.ntmps28
 go_upto_region 1 with fail
 obtain ⟨wd46, hE47⟩ : ∃ ww, ww = w.alloc (.cells #[.int .i64 0, .bool false, .int .i64 0, .string ⟨#[]⟩, .int .i64 0, .slice none 0 0, .slice none 0 0, .slice none 0 0] 45) := ⟨_, rfl⟩
 rw [← hE47]
 have hb45 := aB hE47
 have Z := aN hE47
 clear hE47
 replace R := rB R hb45
 replace KP := kB KP hgr hb45
 clear hb45
 obtain ⟨Ap, cp, hcp, r0, r1, -, -⟩ := R.out.at_.cells
 obtain ⟨c0, c1, c2, c3, c4, c5, c6, c7, c8, c9⟩ := HC.out.below KP.low hbb
 rw [hk] at c0
 go_upto_region 19 with fail
 clear c0 c1 c2 c3 c4 c5 c6 c7 c8 c9 r0 r1 hd0 hd1 hlp hcp
 obtain ⟨wd49, hE50⟩ : ∃ ww, ww = wd46.alloc (.cells #[.int .i64 3, .string ⟨x.name.toArray⟩, .int .i64 x.low, .int .i64 x.high, .int .i64 x.max, .slice C1 x.syms.length l1, .slice C2 x.mems.length l2, .int .i64 x.key, .int .i64 x.elem, .bool x.opn] 33) := ⟨_, rfl⟩
 rw [← hE50]
 have hb48 := aB hE50
 have X := aN hE50
 obtain ⟨wd51, hE52⟩ : ∃ ww, ww = wd49.alloc (.cells #[.int .i64 3, .bool false, .int .i64 0, .string ⟨#[]⟩, .int .i64 0, .slice none 0 0, .slice none 0 0, .slice none 0 0] 45) := ⟨_, rfl⟩
 rw [← hE52]
 replace X := dB X (aB hE52)
 replace hb48 := dT hb48 (aB hE52)
 have V := aM hE52 (aZ hE50 rfl)
 clear hE50 hE52
 have hl54 := Z.out.here
 have hl55 := KP.size
 replace Z := dB Z hb48
 replace R := rB R hb48
 replace KP := kB KP hgr hb48
 clear hb48
 generalize wd46.heap.size = g53 at *
 have cX_4 : wd51.cell? ⟨g53, 4, none⟩ = some (.int .i64 x.max) := X.out.cell 4
 by_cases h1 : x.max < p.length
 ·
  have HR : Hid (decB rec x p path = .error (path, 3)) := by show _ = _; simp [decB, HKx.out, h1]
  go_upto_region 20 with fail
  have hz := Z.out.here
  go_wp2_with fail
  clear cX_4
  ((with_reducible refine (fail_post gr _ _ _ path 3 _ (by omega) R.out.at_).mono ?_); rintro e wd56 hp)
  obtain ⟨c0, c1, c2, c3, c4, c5, c6, c7, bb, h1', rfl⟩ := hp.form
  have Z2 := dKT Z hp.keep (by omega) (by decide)
  go_wp2_with (refine wpList_store_row rfl 45 _ _ rfl w.heap.size _ rfl rfl 45 _ Z2.out (by kernel_rfl) rfl (by simpa using h1') ?_)
  obtain ⟨z0, z1, z2, z3, z4, z5, z6, z7⟩ := (row_has Z2.out #[c0, c1, c2, c3, c4, c5, c6, c7]).c8
  exact bodyPost_ret (v := .tuple #[.agg #[c0, c1, c2, c3, c4, c5, c6, c7], .bool bb]) (by simp [results, Tryd.results28, go_sem, z0, z1, z2, z3, z4, z5, z6, z7]) rfl (by rw [HR.out]; exact hp.tail KP hgr (Nat.le_refl _) hz Z2.out (by decide))
 have HR : Hid (decB rec x p path = .ok (.mk 3 false 0 p 0 [] [] [])) := by show _ = _; simp [decB, HKx.out, h1]
 go_upto_region 21 with fail
 have cV_3 : wd51.cell? ⟨g53 + 1, 3, none⟩ = some (.string ⟨#[]⟩) := V.out.cell 3
 have fV_3 := V.out.free 3
 go_upto_region 44 with fail
 clear cX_4 cV_3 fV_3
 obtain ⟨wd58, hE59⟩ : ∃ ww, ww = wd51.setCell ⟨g53 + 1, 3, none⟩ (.string ⟨p.toArray⟩) := ⟨_, rfl⟩
 rw [← hE59]
 replace Z := dF Z hE59 (by omega)
 replace X := dF X hE59 (by omega)
 replace R := rF R V hE59 (by decide) (by omega)
 replace KP := kS KP hgr hE59 (by omega)
 replace V : Hid (Has wd58 (g53 + 1) 45 #[.int .i64 3, .bool false, .int .i64 0, .string ⟨p.toArray⟩, .int .i64 0, .slice none 0 0, .slice none 0 0, .slice none 0 0]) := Lib.hid (by simpa using dS V hE59)
 clear hE59
 go_upto_region 44 with fail
 obtain ⟨cV_0, cV_1, cV_2, cV_3, cV_4, cV_5, cV_6, cV_7⟩ := V.out.c8
 go_wp2_with (refine wpList_store_row rfl 45 _ _ rfl (w.heap.size) _ rfl rfl 45 _ Z.out (by kernel_rfl) rfl (by first | assumption | simp [Value.oneCell']) ?_)
 clear cV_0 cV_1 cV_2 cV_3 cV_4 cV_5 cV_6 cV_7
 obtain ⟨wd60, hE61⟩ : ∃ ww, ww = wd58.setRow (w.heap.size) #[.int .i64 3, .bool false, .int .i64 0, .string ⟨p.toArray⟩, .int .i64 0, .slice none 0 0, .slice none 0 0, .slice none 0 0] := ⟨_, rfl⟩
 rw [← hE61]
 replace X := dR X hE61 (by omega)
 replace V := dR V hE61 (by omega)
 replace R := rR R Z hE61 (by decide) (by omega)
 replace KP := kRw KP hgr hE61 (by omega)
 replace Z := dO Z hE61
 clear hE61
 obtain ⟨cZ_0, cZ_1, cZ_2, cZ_3, cZ_4, cZ_5, cZ_6, cZ_7⟩ := Z.out.c8
 exact bodyPost_ret (v := .tuple #[.agg #[.int .i64 3, .bool false, .int .i64 0, .string ⟨p.toArray⟩, .int .i64 0, .slice none 0 0, .slice none 0 0, .slice none 0 0], .bool true]) (by simp [results, Tryd.results28, go_sem, cZ_0, cZ_1, cZ_2, cZ_3, cZ_4, cZ_5, cZ_6, cZ_7]) rfl (PayPost.good (v := .mk 3 false 0 p 0 [] [] []) HR.out R KP (valP_leaf _ _ _ _ _ _ _ (by unfold I64; omega) (by unfold I64; omega) (by unfold I64; omega) (by omega)))
end Go.Proofs.YtccmmibkihbobaaDoor

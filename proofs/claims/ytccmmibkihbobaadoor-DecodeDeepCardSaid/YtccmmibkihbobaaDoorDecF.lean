/- payload: enums. No condition. -/
import Derived.Test.YtccmmibkihbobaaDoorDecE
set_option maxHeartbeats 800000
namespace Go.Proofs.YtccmmibkihbobaaDoor
open Go.ChangeShapes Go.WideShapes Go.ChangeAt Go.RowKit
set_option maxRecDepth 100000 in
theorem pay4_any
 (ts : List Typ) (A : Option Addr) (c n gr : Nat) (fp : Value) (fn : Int) (path : List Int) (p : List UInt8) (rec : Int → List UInt8 → List Int → Res) (w : World) (hn : n < ts.length) (hk : ts[n].kind = 4) (hp : path.length < 200) (hpl : p.length ≤ 800000)
 (R : RdrAt w gr (.slice A ts.length c) fp fn path) (ht : RdTyps w gr (.slice A ts.length c) ts) :
 Calls Tryd.prog 28 #[.pointer (some ⟨gr, 0, none⟩), .int .i64 n, .string ⟨p.toArray⟩] w (PayPost gr (.slice A ts.length c) path w (decB rec ts[n] p path)) := by
 have HB := Lib.hid (fun W => frombig_any p W (by omega))
 have hu := fb_u64 p
 have HD : Hid (∀ (x : Typ), x.kind = 4 → decB rec x p path = (if (fromBig p).2 ≠ 0 ∨ (fromBig p).1 < 1 ∨ 1000 < (fromBig p).1 then .error (path, 1) else if (symIdx x (fromBig p).1).isSome = false ∧ x.opn = false then .error (path, 4) else .ok (.mk 4 false 0 [] (fromBig p).1 [] [] []))) := Lib.hid fun x h => by simp [decB, h]
 generalize fromBig p = g at *
 obtain ⟨q, er⟩ := g
 obtain ⟨b, o, rfl, hbb, hel⟩ := ht.elem (by omega)
 obtain ⟨vs, vm, hcells, hx⟩ := hel n hn
 clear hel
 generalize ts[n] = x at *
 obtain ⟨C1, l1, C2, l2, rfl, rfl, -, -⟩ := hx.forms
 have hlt : (n : Int) < ts.length := by omega
 have hd0 : decide ((n : Int) < 0) = false := by simp
 have hd1 : decide (ts.length ≤ n) = false := by simpa using hn
 have hlp : ¬ (200 : Int) ≤ path.length := by omega
 have HX := Lib.hid hx
 have HT := Lib.hid ht
 have HC := Lib.hid hcells
 have HKx := Lib.hid hk
 have hN : Hid (n < ts.length) := Lib.hid hn
 have hxs := hx.lens
 clear hx ht hcells hn
 have hgr := R.here
 replace R := Lib.hid (RdrX.of R)
 have KP := KeepT.refl w gr
 go_enter Tryd.func28, Tryd.ntmps28
 go_upto_region 1 with fail
 obtain ⟨wd2, hE3⟩ : ∃ ww, ww = w.alloc (.cells #[.int .i64 0, .bool false, .int .i64 0, .string ⟨#[]⟩, .int .i64 0, .slice none 0 0, .slice none 0 0, .slice none 0 0] 45) := ⟨_, rfl⟩
 rw [← hE3]
 have hb1 := aB hE3
 have Z := aN hE3
 clear hE3
 replace R := rB R hb1
 replace KP := kB KP hgr hb1
 clear hb1
 obtain ⟨Ap, cp, hcp, r0, r1, -, -⟩ := R.out.at_.cells
 obtain ⟨c0, c1, c2, c3, c4, c5, c6, c7, c8, c9⟩ := HC.out.below KP.low hbb
 rw [hk] at c0
 go_upto_region 23 with fail
 clear c0 c1 c2 c3 c4 c5 c6 c7 c8 c9 r0 r1 hd0 hd1 hlp hcp
 obtain ⟨wd5, hE6⟩ : ∃ ww, ww = wd2.alloc (.cells #[.int .i64 4, .string ⟨x.name.toArray⟩, .int .i64 x.low, .int .i64 x.high, .int .i64 x.max, .slice C1 x.syms.length l1, .slice C2 x.mems.length l2, .int .i64 x.key, .int .i64 x.elem, .bool x.opn] 33) := ⟨_, rfl⟩
 rw [← hE6]
 have hb4 := aB hE6
 have X := aN hE6
 obtain ⟨wd7, hE8⟩ : ∃ ww, ww = wd5.alloc (.cells #[.int .i64 4, .bool false, .int .i64 0, .string ⟨#[]⟩, .int .i64 0, .slice none 0 0, .slice none 0 0, .slice none 0 0] 45) := ⟨_, rfl⟩
 rw [← hE8]
 replace X := dB X (aB hE8)
 replace hb4 := dT hb4 (aB hE8)
 have V := aM hE8 (aZ hE6 rfl)
 clear hE6 hE8
 have hl10 := Z.out.here
 have hl11 := KP.size
 replace Z := dB Z hb4
 replace R := rB R hb4
 replace KP := kB KP hgr hb4
 clear hb4
 generalize wd2.heap.size = g9 at *
 have HD := HD.out x hk
 unfold U64 at hu
 by_cases h0 : er = 0
 ·
  subst h0
  by_cases h1 : q < 1
  ·
   have HR : Hid (decB rec x p path = .error (path, 1)) := by show _ = _; rw [HD, if_pos (.inr (.inl h1))]
   have h1i : (q : Int) < 1 := by omega
   clear HD
   go_upto_region 25 with (go_at_call 40; refine (HB.out _).mono ?_; rintro e w' ⟨rfl, rfl⟩)
   go_upto_region 25 with fail
   have hz := Z.out.here
   go_wp2_with fail
   ((with_reducible refine (fail_post gr _ _ _ path 1 _ (by omega) R.out.at_).mono ?_); rintro e wd12 hp)
   obtain ⟨c0, c1, c2, c3, c4, c5, c6, c7, bb, h1', rfl⟩ := hp.form
   have Z2 := dKT Z hp.keep (by omega) (by decide)
   go_wp2_with (refine wpList_store_row rfl 45 _ _ rfl w.heap.size _ rfl rfl 45 _ Z2.out (by kernel_rfl) rfl (by simpa using h1') ?_)
   obtain ⟨z0, z1, z2, z3, z4, z5, z6, z7⟩ := (row_has Z2.out #[c0, c1, c2, c3, c4, c5, c6, c7]).c8
   exact bodyPost_ret (v := .tuple #[.agg #[c0, c1, c2, c3, c4, c5, c6, c7], .bool bb]) (by simp [results, Tryd.results28, go_sem, z0, z1, z2, z3, z4, z5, z6, z7]) rfl (by rw [HR.out]; exact hp.tail KP hgr (Nat.le_refl _) hz Z2.out (by decide))
  by_cases h2 : 1000 < q
  ·
   have HR : Hid (decB rec x p path = .error (path, 1)) := by show _ = _; rw [HD, if_pos (.inr (.inr h2))]
   have h1i : ¬ (q : Int) < 1 := by omega
   have h2i : (1000 : Int) < q := by omega
   clear HD
   go_upto_region 25 with (go_at_call 40; refine (HB.out _).mono ?_; rintro e w' ⟨rfl, rfl⟩)
   go_upto_region 25 with fail
   have hz := Z.out.here
   go_wp2_with fail
   ((with_reducible refine (fail_post gr _ _ _ path 1 _ (by omega) R.out.at_).mono ?_); rintro e wd14 hp)
   obtain ⟨c0, c1, c2, c3, c4, c5, c6, c7, bb, h1', rfl⟩ := hp.form
   have Z2 := dKT Z hp.keep (by omega) (by decide)
   go_wp2_with (refine wpList_store_row rfl 45 _ _ rfl w.heap.size _ rfl rfl 45 _ Z2.out (by kernel_rfl) rfl (by simpa using h1') ?_)
   obtain ⟨z0, z1, z2, z3, z4, z5, z6, z7⟩ := (row_has Z2.out #[c0, c1, c2, c3, c4, c5, c6, c7]).c8
   exact bodyPost_ret (v := .tuple #[.agg #[c0, c1, c2, c3, c4, c5, c6, c7], .bool bb]) (by simp [results, Tryd.results28, go_sem, z0, z1, z2, z3, z4, z5, z6, z7]) rfl (by rw [HR.out]; exact hp.tail KP hgr (Nat.le_refl _) hz Z2.out (by decide))
  rw [if_neg (by simp; omega)] at HD
  replace HD := Lib.hid HD
  have h1i : ¬ (q : Int) < 1 := by omega
  have h2i : ¬ (1000 : Int) < q := by omega
  have hwr : IntKind.i64.wrap (q : Int) = q := by rw [IntKind.wrap_i64]; omega
  have HS := Lib.hid (fun W h => symbol_any x (.slice C1 x.syms.length l1) (.slice C2 x.mems.length l2) q W h)
  go_upto_region 26 with (go_at_call 40; refine (HB.out _).mono ?_; rintro e w' ⟨rfl, rfl⟩)
  have cV_4 : wd7.cell? ⟨g9 + 1, 4, none⟩ = some (.int .i64 0) := V.out.cell 4
  have fV_4 := V.out.free 4
  go_upto_region 27 with fail
  clear cV_4 fV_4
  obtain ⟨wd16, hE17⟩ : ∃ ww, ww = wd7.setCell ⟨g9 + 1, 4, none⟩ (.int .i64 q) := ⟨_, rfl⟩
  rw [← hE17]
  replace Z := dF Z hE17 (by omega)
  replace X := dF X hE17 (by omega)
  replace R := rF R V hE17 (by decide) (by omega)
  replace KP := kS KP hgr hE17 (by omega)
  replace V : Hid (Has wd16 (g9 + 1) 45 #[.int .i64 4, .bool false, .int .i64 0, .string ⟨#[]⟩, .int .i64 q, .slice none 0 0, .slice none 0 0, .slice none 0 0]) := Lib.hid (by simpa using dS V hE17)
  clear hE17
  have cV_4 : wd16.cell? ⟨g9 + 1, 4, none⟩ = some (.int .i64 q) := V.out.cell 4
  obtain ⟨cX_0, cX_1, cX_2, cX_3, cX_4, cX_5, cX_6, cX_7, cX_8, cX_9⟩ := X.out.c10
  cases hsy : symIdx x q with
  | some i =>
   have HR : Hid (decB rec x p path = .ok (.mk 4 false 0 [] q [] [] [])) := by show _ = _; rw [HD.out, hsy]; simp
   simp only [typA, hk, hsy, pairV, Option.isSome_some] at HS
   clear hsy
   go_wp2_with fail
   clear cV_4 cX_0 cX_1 cX_2 cX_3 cX_4 cX_5 cX_6 cX_7 cX_8 cX_9
   ((with_reducible refine (HS.out _ (HX.out.keep (fun _ hp => KP.low.cell hp) (Nat.le_of_lt (Nat.lt_of_lt_of_le hgr KP.size)))).mono ?_); rintro e wd18 ⟨rfl, hb19⟩)
   replace Z := dB Z hb19
   replace X := dB X hb19
   replace V := dB V hb19
   replace R := rB R hb19
   replace KP := kB KP hgr hb19
   clear hb19
   go_upto_region 44 with fail
   obtain ⟨cV_0, cV_1, cV_2, cV_3, cV_4, cV_5, cV_6, cV_7⟩ := V.out.c8
   go_wp2_with (refine wpList_store_row rfl 45 _ _ rfl (w.heap.size) _ rfl rfl 45 _ Z.out (by kernel_rfl) rfl (by first | assumption | simp [Value.oneCell']) ?_)
   clear cV_0 cV_1 cV_2 cV_3 cV_4 cV_5 cV_6 cV_7
   obtain ⟨wd20, hE21⟩ : ∃ ww, ww = wd18.setRow (w.heap.size) #[.int .i64 4, .bool false, .int .i64 0, .string ⟨#[]⟩, .int .i64 q, .slice none 0 0, .slice none 0 0, .slice none 0 0] := ⟨_, rfl⟩
   rw [← hE21]
   replace X := dR X hE21 (by omega)
   replace V := dR V hE21 (by omega)
   replace R := rR R Z hE21 (by decide) (by omega)
   replace KP := kRw KP hgr hE21 (by omega)
   replace Z := dO Z hE21
   clear hE21
   obtain ⟨cZ_0, cZ_1, cZ_2, cZ_3, cZ_4, cZ_5, cZ_6, cZ_7⟩ := Z.out.c8
   exact bodyPost_ret (v := .tuple #[.agg #[.int .i64 4, .bool false, .int .i64 0, .string ⟨#[]⟩, .int .i64 q, .slice none 0 0, .slice none 0 0, .slice none 0 0], .bool true]) (by simp [results, Tryd.results28, go_sem, cZ_0, cZ_1, cZ_2, cZ_3, cZ_4, cZ_5, cZ_6, cZ_7]) rfl (PayPost.good (v := .mk 4 false 0 [] q [] [] []) HR.out R KP (valP_leaf _ _ _ _ _ _ _ (by unfold I64; omega) (by unfold I64; omega) (by unfold I64; omega) (by simp)))
  | none =>
   simp only [typA, hk, hsy, pairV, Option.isSome_none] at HS
   cases hop : x.opn with
   | true =>
    have HR : Hid (decB rec x p path = .ok (.mk 4 false 0 [] q [] [] [])) := by show _ = _; rw [HD.out, hsy, hop]; simp
    have Hop := Lib.hid hop
    clear hsy hop
    go_wp2_with fail
    clear cV_4 cX_0 cX_1 cX_2 cX_3 cX_4 cX_5 cX_6 cX_7 cX_8 cX_9
    ((with_reducible refine (HS.out _ (HX.out.keep (fun _ hp => KP.low.cell hp) (Nat.le_of_lt (Nat.lt_of_lt_of_le hgr KP.size)))).mono ?_); rintro e wd22 ⟨rfl, hb23⟩)
    replace Z := dB Z hb23
    replace X := dB X hb23
    replace V := dB V hb23
    replace R := rB R hb23
    replace KP := kB KP hgr hb23
    clear hb23
    have cX_9 : wd22.cell? ⟨g9, 9, none⟩ = some (.bool x.opn) := X.out.cell 9
    rw [Hop.out] at cX_9
    go_upto_region 44 with fail
    obtain ⟨cV_0, cV_1, cV_2, cV_3, cV_4, cV_5, cV_6, cV_7⟩ := V.out.c8
    go_wp2_with (refine wpList_store_row rfl 45 _ _ rfl (w.heap.size) _ rfl rfl 45 _ Z.out (by kernel_rfl) rfl (by first | assumption | simp [Value.oneCell']) ?_)
    clear cX_9 cV_0 cV_1 cV_2 cV_3 cV_4 cV_5 cV_6 cV_7
    obtain ⟨wd24, hE25⟩ : ∃ ww, ww = wd22.setRow (w.heap.size) #[.int .i64 4, .bool false, .int .i64 0, .string ⟨#[]⟩, .int .i64 q, .slice none 0 0, .slice none 0 0, .slice none 0 0] := ⟨_, rfl⟩
    rw [← hE25]
    replace X := dR X hE25 (by omega)
    replace V := dR V hE25 (by omega)
    replace R := rR R Z hE25 (by decide) (by omega)
    replace KP := kRw KP hgr hE25 (by omega)
    replace Z := dO Z hE25
    clear hE25
    obtain ⟨cZ_0, cZ_1, cZ_2, cZ_3, cZ_4, cZ_5, cZ_6, cZ_7⟩ := Z.out.c8
    exact bodyPost_ret (v := .tuple #[.agg #[.int .i64 4, .bool false, .int .i64 0, .string ⟨#[]⟩, .int .i64 q, .slice none 0 0, .slice none 0 0, .slice none 0 0], .bool true]) (by simp [results, Tryd.results28, go_sem, cZ_0, cZ_1, cZ_2, cZ_3, cZ_4, cZ_5, cZ_6, cZ_7]) rfl (PayPost.good (v := .mk 4 false 0 [] q [] [] []) HR.out R KP (valP_leaf _ _ _ _ _ _ _ (by unfold I64; omega) (by unfold I64; omega) (by unfold I64; omega) (by simp)))
   | false =>
    have HR : Hid (decB rec x p path = .error (path, 4)) := by show _ = _; rw [HD.out, hsy, hop]; simp
    have Hop := Lib.hid hop
    clear hsy hop
    go_wp2_with fail
    clear cV_4 cX_0 cX_1 cX_2 cX_3 cX_4 cX_5 cX_6 cX_7 cX_8 cX_9
    ((with_reducible refine (HS.out _ (HX.out.keep (fun _ hp => KP.low.cell hp) (Nat.le_of_lt (Nat.lt_of_lt_of_le hgr KP.size)))).mono ?_); rintro e wd26 ⟨rfl, hb27⟩)
    replace Z := dB Z hb27
    replace X := dB X hb27
    replace V := dB V hb27
    replace R := rB R hb27
    replace KP := kB KP hgr hb27
    clear hb27
    have cX_9 : wd26.cell? ⟨g9, 9, none⟩ = some (.bool x.opn) := X.out.cell 9
    rw [Hop.out] at cX_9
    go_upto_region 29 with fail
    have hz := Z.out.here
    go_wp2_with fail
    clear cX_9
    ((with_reducible refine (fail_post gr _ _ _ path 4 _ (by omega) R.out.at_).mono ?_); rintro e wd28 hp)
    obtain ⟨c0, c1, c2, c3, c4, c5, c6, c7, bb, h1', rfl⟩ := hp.form
    have Z2 := dKT Z hp.keep (by omega) (by decide)
    go_wp2_with (refine wpList_store_row rfl 45 _ _ rfl w.heap.size _ rfl rfl 45 _ Z2.out (by kernel_rfl) rfl (by simpa using h1') ?_)
    obtain ⟨z0, z1, z2, z3, z4, z5, z6, z7⟩ := (row_has Z2.out #[c0, c1, c2, c3, c4, c5, c6, c7]).c8
    exact bodyPost_ret (v := .tuple #[.agg #[c0, c1, c2, c3, c4, c5, c6, c7], .bool bb]) (by simp [results, Tryd.results28, go_sem, z0, z1, z2, z3, z4, z5, z6, z7]) rfl (by rw [HR.out]; exact hp.tail KP hgr (Nat.le_refl _) hz Z2.out (by decide))
 have HR : Hid (decB rec x p path = .error (path, 1)) := by show _ = _; rw [HD, if_pos (.inl h0)]
 have h0i : ¬ (er : Int) = 0 := by omega
 clear HD
 go_upto_region 25 with (go_at_call 40; refine (HB.out _).mono ?_; rintro e w' ⟨rfl, rfl⟩)
 go_upto_region 25 with fail
 have hz := Z.out.here
 go_wp2_with fail
 ((with_reducible refine (fail_post gr _ _ _ path 1 _ (by omega) R.out.at_).mono ?_); rintro e wd30 hp)
 obtain ⟨c0, c1, c2, c3, c4, c5, c6, c7, bb, h1', rfl⟩ := hp.form
 have Z2 := dKT Z hp.keep (by omega) (by decide)
 go_wp2_with (refine wpList_store_row rfl 45 _ _ rfl w.heap.size _ rfl rfl 45 _ Z2.out (by kernel_rfl) rfl (by simpa using h1') ?_)
 obtain ⟨z0, z1, z2, z3, z4, z5, z6, z7⟩ := (row_has Z2.out #[c0, c1, c2, c3, c4, c5, c6, c7]).c8
 exact bodyPost_ret (v := .tuple #[.agg #[c0, c1, c2, c3, c4, c5, c6, c7], .bool bb]) (by simp [results, Tryd.results28, go_sem, z0, z1, z2, z3, z4, z5, z6, z7]) rfl (by rw [HR.out]; exact hp.tail KP hgr (Nat.le_refl _) hz Z2.out (by decide))
end Go.Proofs.YtccmmibkihbobaaDoor

/- union. No condition. -/
import Derived.Test.YtccmmibkihbobaaDoorDecG
set_option maxHeartbeats 800000
namespace Go.Proofs.YtccmmibkihbobaaDoor
open Go.ChangeShapes Go.WideShapes Go.ChangeAt Go.RowKit
theorem armP_some {l r : List UInt8} {n : Nat} (h : armP l = some (n, r)) : 1 ≤ n ∧ n ≤ 1000 ∧ r.length ≤ l.length := by
 unfold armP at h
 split at h
 ·
  cases h
 rename_i m q hq
 split at h
 ·
  cases h
 injection h with h; injection h with h1 h2; subst h1; subst h2
 obtain ⟨k, _, _, h3, _⟩ := nextP_some hq
 subst h3
 refine ⟨by omega, by omega, by simp⟩
/- the end by a failure -/
/- a part's answer is laid into a new block -/
set_option maxRecDepth 100000 in
theorem union_any
 (ts : List Typ) (tv : Value) (gr : Nat) (fp : Value) (fn : Int) (path : List Int) (p : List UInt8) (rec : Int → List UInt8 → List Int → Res) (x : Typ) (vs vm : Value) (w : World) (hk : x.kind = 6) (hp : path.length < 200) (hpl : p.length ≤ 800000)
 (R : RdrAt w gr tv fp fn path) (ht : RdTyps w gr tv ts) (hx : TypAt w gr x vs vm) (HP : PartOn ts gr tv rec path) (hm : ∀ m ∈ x.mems, (typAt ts m.ty).isSome = true) :
 Calls Tryd.prog 43 #[.pointer (some ⟨gr, 0, none⟩), typA x vs vm, .string ⟨p.toArray⟩] w (PayPost gr tv path w (decB rec x p path)) := by
 have HA := Lib.hid (fun W => arm_any p W)
 obtain ⟨C1, l1, C2, l2, rfl, rfl, -, -⟩ := hx.forms
 have HX := Lib.hid hx
 have HT := Lib.hid ht
 have HPo := Lib.hid HP
 have HM := Lib.hid hm
 have HKx := Lib.hid hk
 have hxs := hx.lens
 clear hx ht HP hm
 have hgr := R.here
 replace R := Lib.hid (RdrX.of R)
 have KP := KeepT.refl w gr
 go_enter Tryd.func43, Tryd.ntmps43
 go_upto_region 1 with fail
 obtain ⟨wd2, hE3⟩ : ∃ ww, ww = w.alloc (.cells #[.int .i64 6, .string ⟨x.name.toArray⟩, .int .i64 x.low, .int .i64 x.high, .int .i64 x.max, .slice C1 x.syms.length l1, .slice C2 x.mems.length l2, .int .i64 x.key, .int .i64 x.elem, .bool x.opn] 33) := ⟨_, rfl⟩
 rw [← hE3]
 have hb1 := aB hE3
 have X := aN hE3
 obtain ⟨wd4, hE5⟩ : ∃ ww, ww = wd2.alloc (.cells #[.int .i64 0, .bool false, .int .i64 0, .string ⟨#[]⟩, .int .i64 0, .slice none 0 0, .slice none 0 0, .slice none 0 0] 45) := ⟨_, rfl⟩
 rw [← hE5]
 replace X := dB X (aB hE5)
 replace hb1 := dT hb1 (aB hE5)
 have Z := aM hE5 (aZ hE3 rfl)
 clear hE3 hE5
 replace R := rB R hb1
 replace KP := kB KP hgr hb1
 clear hb1
 cases ha : armP p with
 | none =>
  have HR : Hid (decB rec x p path = .error (path, 1)) := by show _ = _; simp [decB, HKx.out, ha]
  simp only [ha] at HA
  clear ha
  go_wp2_with fail
  ((with_reducible refine (HA.out _).mono ?_); rintro e wd6 ⟨rfl, hb7⟩)
  replace X := dB X hb7
  replace Z := dB Z hb7
  replace R := rB R hb7
  replace KP := kB KP hgr hb7
  clear hb7
  go_upto_region 3 with fail
  have hz := Z.out.here
  go_wp2_with fail
  ((with_reducible refine (fail_post gr _ _ _ path 1 _ (by omega) R.out.at_).mono ?_); rintro e wd8 hp)
  obtain ⟨c0, c1, c2, c3, c4, c5, c6, c7, bb, h1', rfl⟩ := hp.form
  have Z2 := dKT Z hp.keep (by omega) (by decide)
  go_wp2_with (refine wpList_store_row rfl 45 _ _ rfl (w.heap.size + 1) _ rfl rfl 45 _ Z2.out (by kernel_rfl) rfl (by simpa using h1') ?_)
  obtain ⟨z0, z1, z2, z3, z4, z5, z6, z7⟩ := (row_has Z2.out #[c0, c1, c2, c3, c4, c5, c6, c7]).c8
  exact bodyPost_ret (v := .tuple #[.agg #[c0, c1, c2, c3, c4, c5, c6, c7], .bool bb]) (by simp [results, Tryd.results43, go_sem, z0, z1, z2, z3, z4, z5, z6, z7]) rfl (by rw [HR.out]; exact hp.tail KP hgr (by omega) hz Z2.out (by decide))
 | some g =>
  obtain ⟨id, r⟩ := g
  obtain ⟨hi1, hi2, hrl⟩ := armP_some ha
  simp only [ha] at HA
  have HD : Hid (decB rec x p path = match memIdx x id with
   | none => if x.opn then .ok (.mk 6 false 0 [] id [] [] [((id : Int), r)]) else .error (path, 5)
   | some i => boxR (fun v => .mk 6 false 0 [] id [] [v] []) (rec ((x.mems[i]?.map Mem.ty).getD 0) r (path ++ [(id : Int)]))) := by
   show _ = _
   simp only [decB, HKx.out, ha]
   rw [if_neg (by decide), if_neg (by decide), if_neg (by decide), if_neg (by decide), if_neg (by decide), if_pos trivial]
   cases memIdx x id with
   | none => rfl
   | some i => simp only []; cases rec ((x.mems[i]?.map Mem.ty).getD 0) r (path ++ [(id : Int)]) <;> rfl
  clear ha
  go_wp2_with fail
  ((with_reducible refine (HA.out _).mono ?_); rintro e wd10 ⟨rfl, hb11⟩)
  replace X := dB X hb11
  replace Z := dB Z hb11
  replace R := rB R hb11
  replace KP := kB KP hgr hb11
  clear hb11
  obtain ⟨cX_0, cX_1, cX_2, cX_3, cX_4, cX_5, cX_6, cX_7, cX_8, cX_9⟩ := X.out.c10
  go_upto_region 5 with fail
  clear cX_0 cX_1 cX_2 cX_3 cX_4 cX_5 cX_6 cX_7 cX_8 cX_9
  obtain ⟨wd13, hE14⟩ : ∃ ww, ww = wd10.alloc (.cells #[.int .i64 6, .bool false, .int .i64 0, .string ⟨#[]⟩, .int .i64 id, .slice none 0 0, .slice none 0 0, .slice none 0 0] 45) := ⟨_, rfl⟩
  rw [← hE14]
  have hb12 := aB hE14
  have V := aN hE14
  clear hE14
  have hl16 := X.out.here
  have hl17 := Z.out.here
  have hl18 := KP.size
  replace X := dB X hb12
  replace Z := dB Z hb12
  replace R := rB R hb12
  replace KP := kB KP hgr hb12
  clear hb12
  generalize wd10.heap.size = g15 at *
  have HS := Lib.hid (fun W h => member_any x (.slice C1 x.syms.length l1) (.slice C2 x.mems.length l2) id W h)
  simp only [typA, hk] at HS
  obtain ⟨cX_0, cX_1, cX_2, cX_3, cX_4, cX_5, cX_6, cX_7, cX_8, cX_9⟩ := X.out.c10
  go_wp2_with fail
  clear cX_0 cX_1 cX_2 cX_3 cX_4 cX_5 cX_6 cX_7 cX_8 cX_9
  ((with_reducible refine (HS.out _ (HX.out.keep (fun _ hp => KP.low.cell hp) (Nat.le_of_lt (Nat.lt_of_lt_of_le hgr KP.size)))).mono ?_); rintro e wd19 ⟨rfl, hb20⟩)
  replace X := dB X hb20
  replace Z := dB Z hb20
  replace V := dB V hb20
  replace R := rB R hb20
  replace KP := kB KP hgr hb20
  clear hb20
  clear HS
  cases hmi : memIdx x id with
  | none =>
   simp only [hmi] at HD
   simp only [pairV, Option.isSome_none]
   clear hmi
   cases hop : x.opn with
   | false =>
    simp only [hop] at HD
    have cX_9 : wd19.cell? ⟨w.heap.size, 9, none⟩ = some (.bool x.opn) := X.out.cell 9
    rw [hop] at cX_9
    have Hop := Lib.hid hop
    clear hop
    go_upto_region 11 with fail
    have hz := Z.out.here
    go_wp2_with fail
    clear cX_9
    ((with_reducible refine (fail_post gr _ _ _ path 5 _ (by omega) R.out.at_).mono ?_); rintro e wd21 hp)
    obtain ⟨c0, c1, c2, c3, c4, c5, c6, c7, bb, h1', rfl⟩ := hp.form
    have Z2 := dKT Z hp.keep (by omega) (by decide)
    go_wp2_with (refine wpList_store_row rfl 45 _ _ rfl (w.heap.size + 1) _ rfl rfl 45 _ Z2.out (by kernel_rfl) rfl (by simpa using h1') ?_)
    obtain ⟨z0, z1, z2, z3, z4, z5, z6, z7⟩ := (row_has Z2.out #[c0, c1, c2, c3, c4, c5, c6, c7]).c8
    exact bodyPost_ret (v := .tuple #[.agg #[c0, c1, c2, c3, c4, c5, c6, c7], .bool bb]) (by simp [results, Tryd.results43, go_sem, z0, z1, z2, z3, z4, z5, z6, z7]) rfl (by rw [HD.out]; exact hp.tail KP hgr (by omega) hz Z2.out (by decide))
   | true =>
    simp only [hop] at HD
    have cX_9 : wd19.cell? ⟨w.heap.size, 9, none⟩ = some (.bool x.opn) := X.out.cell 9
    rw [hop] at cX_9
    have Hop := Lib.hid hop
    clear hop
    have fa := free_al V 7
    have ca := cell_alR (V.out.cell 7)
    go_upto_region 13 with fail
    clear fa ca
    clear cX_9
    obtain ⟨wd24, hE25⟩ : ∃ ww, ww = wd19.alloc (.cells #[.int .i64 id, .string ⟨r.toArray⟩] 120) := ⟨_, rfl⟩
    rw [← hE25]
    have hb23 := aB hE25
    have G := aN hE25
    clear hE25
    have hl27 := X.out.here
    have hl28 := Z.out.here
    have hl29 := V.out.here
    have hl30 := KP.size
    replace X := dB X hb23
    replace Z := dB Z hb23
    replace V := dB V hb23
    replace R := rB R hb23
    replace KP := kB KP hgr hb23
    clear hb23
    generalize wd19.heap.size = g26 at *
    obtain ⟨wd31, hE32⟩ : ∃ ww, ww = wd24.setCell ⟨g15, 7, none⟩ ((.slice (some ⟨g26, 0, none⟩) 1 1)) := ⟨_, rfl⟩
    rw [← hE32]
    replace X := dF X hE32 (by omega)
    replace Z := dF Z hE32 (by omega)
    replace G := dF G hE32 (by omega)
    replace R := rF R V hE32 (by decide) (by omega)
    replace KP := kS KP hgr hE32 (by omega)
    replace V : Hid (Has wd31 (g15) 45 #[.int .i64 6, .bool false, .int .i64 0, .string ⟨#[]⟩, .int .i64 id, .slice none 0 0, .slice none 0 0, (.slice (some ⟨g26, 0, none⟩) 1 1)]) := Lib.hid (by simpa using dS V hE32)
    clear hE32
    obtain ⟨cV_0, cV_1, cV_2, cV_3, cV_4, cV_5, cV_6, cV_7⟩ := V.out.c8
    go_wp2_with (refine wpList_store_row rfl 45 _ _ rfl (w.heap.size + 1) _ rfl rfl 45 _ Z.out (by kernel_rfl) rfl (by first | assumption | simp [Value.oneCell']) ?_)
    clear cV_0 cV_1 cV_2 cV_3 cV_4 cV_5 cV_6 cV_7
    obtain ⟨wd33, hE34⟩ : ∃ ww, ww = wd31.setRow (w.heap.size + 1) #[.int .i64 6, .bool false, .int .i64 0, .string ⟨#[]⟩, .int .i64 id, .slice none 0 0, .slice none 0 0, .slice (some ⟨g26, 0, none⟩) 1 1] := ⟨_, rfl⟩
    rw [← hE34]
    replace X := dR X hE34 (by omega)
    replace V := dR V hE34 (by omega)
    replace G := dR G hE34 (by omega)
    replace R := rR R Z hE34 (by decide) (by omega)
    replace KP := kRw KP hgr hE34 (by omega)
    replace Z := dO Z hE34
    clear hE34
    obtain ⟨cZ_0, cZ_1, cZ_2, cZ_3, cZ_4, cZ_5, cZ_6, cZ_7⟩ := Z.out.c8
    exact bodyPost_ret (v := .tuple #[.agg #[.int .i64 6, .bool false, .int .i64 0, .string ⟨#[]⟩, .int .i64 id, .slice none 0 0, .slice none 0 0, .slice (some ⟨g26, 0, none⟩) 1 1], .bool true]) (by simp [results, Tryd.results43, go_sem, cZ_0, cZ_1, cZ_2, cZ_3, cZ_4, cZ_5, cZ_6, cZ_7]) rfl (PayPost.good (v := .mk 6 false 0 [] id [] [] [((id : Int), r)]) HD.out R KP (valP_raw G.out (by decide) (by omega) (by unfold I64; omega) (by unfold I64; omega) (by omega)))
  | some i =>
   have hlt := memIdx_lt x id i hmi
   have HM1 := Lib.hid (HM.out x.mems[i] (List.getElem_mem hlt))
   simp only [hmi, List.getElem?_eq_getElem hlt, Option.map_some, Option.getD_some] at HD
   simp only [pairV, Option.isSome_some]
   clear hmi
   obtain ⟨b2, o2, rfl, hbb2, hel⟩ := HX.out.mems.elem (by omega)
   obtain ⟨vk, vi, vr, hcells, _⟩ := hel i hlt
   have hm2 := (KP.low.cell (p := ⟨b2, o2 + i * 13 + 2, none⟩) hbb2).trans hcells.2.2.1
   clear hel hcells
   have HPQ := Lib.hid (fun (W : World) (fp' : Value) (fn' : Int) h1 h2 => HPo.out W fp' fn' id x.mems[i].ty r h1 h2 HM1.out (by omega))
   generalize rec x.mems[i].ty r (path ++ [(id : Int)]) = q at *
   generalize x.mems[i].ty = mt at *
   have cX_6 : wd19.cell? ⟨w.heap.size, 6, none⟩ = some (.slice (some ⟨b2, o2, none⟩) x.mems.length l2) := X.out.cell 6
   have hlti : (i : Int) < x.mems.length := by omega
   have hd0 : decide ((i : Int) < 0) = false := by simp
   have hd1 : decide (x.mems.length ≤ i) = false := by simpa using hlt
   go_wp2_with fail
   clear cX_6
   have hl42 := X.out.here
   have hl43 := Z.out.here
   have hl44 := V.out.here
   have hl45 := KP.size
   ((with_reducible refine (HPQ.out _ _ _ R.out.at_ (HT.out.keep (fun _ hp => KP.low.cell hp) (Nat.le_refl _))).mono ?_); rintro e wd35 hp37)
   obtain ⟨fp40, fn41, c0N, c1N, c2N, c3N, c4N, c5N, c6N, c7N, bbN, h1N, rfl, hR39, hK38, N⟩ := hp37.take
   replace X := dKT X hK38 (by omega) (by decide)
   replace Z := dKT Z hK38 (by omega) (by decide)
   replace V := dKT V hK38 (by omega) (by decide)
   replace R := Lib.hid hR39
   replace KP := KP.trans hK38
   replace N := Lib.hid N
   clear hK38
   have h1aN : (#[c0N, c1N, c2N, c3N, c4N, c5N, c6N, c7N] : Array Value).all (·.oneCell') = true := by simpa using h1N
   generalize wd19.heap.size = L36 at *
   have M5 := Has.made wd35 45 #[.int .i64 0, .bool false, .int .i64 0, .string ⟨#[]⟩, .int .i64 0, .slice none 0 0, .slice none 0 0, .slice none 0 0]
   go_upto_region 8 with (refine wpList_store_row rfl 45 _ _ rfl wd35.heap.size _ rfl rfl 45 _ M5 (by kernel_rfl) rfl h1aN ?_)
   clear M5
   obtain ⟨wd47, hE48⟩ : ∃ ww, ww = wd35.alloc (.cells #[.int .i64 0, .bool false, .int .i64 0, .string ⟨#[]⟩, .int .i64 0, .slice none 0 0, .slice none 0 0, .slice none 0 0] 45) := ⟨_, rfl⟩
   rw [← hE48]
   have hb46 := aB hE48
   have I := aN hE48
   clear hE48
   have hl50 := X.out.here
   have hl51 := Z.out.here
   have hl52 := V.out.here
   have hl53 := N.out.le
   have hl54 := KP.size
   replace X := dB X hb46
   replace Z := dB Z hb46
   replace V := dB V hb46
   replace N := nB N hb46
   replace R := rB R hb46
   replace KP := kB KP hgr hb46
   clear hb46
   generalize wd35.heap.size = g49 at *
   obtain ⟨wd55, hE56⟩ : ∃ ww, ww = wd47.setRow (g49) #[c0N, c1N, c2N, c3N, c4N, c5N, c6N, c7N] := ⟨_, rfl⟩
   rw [← hE56]
   replace X := dR X hE56 (by omega)
   replace Z := dR Z hE56 (by omega)
   replace V := dR V hE56 (by omega)
   replace R := rR R I hE56 (by decide) (by omega)
   replace KP := kRw KP hgr hE56 (by omega)
   replace I := dO I hE56
   replace N := nR N hE56 (by omega)
   clear hE56
   obtain ⟨cI_0, cI_1, cI_2, cI_3, cI_4, cI_5, cI_6, cI_7⟩ := I.out.c8
   have fa := free_al V 6
   have ca := cell_alR (V.out.cell 6)
   go_upto_region 9 with fail
   clear fa ca
   clear cI_0 cI_1 cI_2 cI_3 cI_4 cI_5 cI_6 cI_7
   obtain ⟨wd58, hE59⟩ : ∃ ww, ww = wd55.alloc (.cells #[c0N, c1N, c2N, c3N, c4N, c5N, c6N, c7N] 45) := ⟨_, rfl⟩
   rw [← hE59]
   have hb57 := aB hE59
   have G := aN hE59
   clear hE59
   have hl61 := X.out.here
   have hl62 := Z.out.here
   have hl63 := V.out.here
   have hl64 := I.out.here
   have hl65 := N.out.le
   have hl66 := KP.size
   replace X := dB X hb57
   replace Z := dB Z hb57
   replace V := dB V hb57
   replace I := dB I hb57
   replace N := nB N hb57
   replace R := rB R hb57
   replace KP := kB KP hgr hb57
   clear hb57
   generalize wd55.heap.size = g60 at *
   obtain ⟨wd67, hE68⟩ : ∃ ww, ww = wd58.setCell ⟨g15, 6, none⟩ ((.slice (some ⟨g60, 0, none⟩) 1 1)) := ⟨_, rfl⟩
   rw [← hE68]
   replace X := dF X hE68 (by omega)
   replace Z := dF Z hE68 (by omega)
   replace I := dF I hE68 (by omega)
   replace G := dF G hE68 (by omega)
   replace R := rF R V hE68 (by decide) (by omega)
   replace KP := kS KP hgr hE68 (by omega)
   replace V : Hid (Has wd67 (g15) 45 #[.int .i64 6, .bool false, .int .i64 0, .string ⟨#[]⟩, .int .i64 id, .slice none 0 0, (.slice (some ⟨g60, 0, none⟩) 1 1), .slice none 0 0]) := Lib.hid (by simpa using dS V hE68)
   replace N := nF N hE68 (by omega)
   clear hE68
   obtain ⟨cV_0, cV_1, cV_2, cV_3, cV_4, cV_5, cV_6, cV_7⟩ := V.out.c8
   go_wp2_with (refine wpList_store_row rfl 45 _ _ rfl (w.heap.size + 1) _ rfl rfl 45 _ Z.out (by kernel_rfl) rfl (by first | assumption | simp [Value.oneCell']) ?_)
   clear cV_0 cV_1 cV_2 cV_3 cV_4 cV_5 cV_6 cV_7
   obtain ⟨wd69, hE70⟩ : ∃ ww, ww = wd67.setRow (w.heap.size + 1) #[.int .i64 6, .bool false, .int .i64 0, .string ⟨#[]⟩, .int .i64 id, .slice none 0 0, .slice (some ⟨g60, 0, none⟩) 1 1, .slice none 0 0] := ⟨_, rfl⟩
   rw [← hE70]
   replace X := dR X hE70 (by omega)
   replace V := dR V hE70 (by omega)
   replace I := dR I hE70 (by omega)
   replace G := dR G hE70 (by omega)
   replace R := rR R Z hE70 (by decide) (by omega)
   replace KP := kRw KP hgr hE70 (by omega)
   replace Z := dO Z hE70
   replace N := nR N hE70 (by omega)
   clear hE70
   have hNl := N.out.le
   have HF : Hid (PayPost gr tv path w (decB rec x p path) (.returned (.tuple #[.agg #[.int .i64 6, .bool false, .int .i64 0, .string ⟨#[]⟩, .int .i64 id, .slice none 0 0, .slice (some ⟨g60, 0, none⟩) 1 1, .slice none 0 0], .bool bbN])) wd69) := by
    show PayPost _ _ _ _ _ _ _
    have hN := N.out.now
    cases q with
    | ok v =>
     obtain ⟨rfl, vk, vi, vr, hc, hv⟩ := hN
     exact PayPost.good (v := .mk 6 false 0 [] id [] [v] []) (by rw [HD.out]; rfl) R KP (valP_one hv (by omega) hNl (by rw [← hc]; exact G.out) (by decide) (by omega) (by unfold I64; omega) (by unfold I64; omega))
    | error pn =>
     obtain ⟨p', n'⟩ := pn
     obtain ⟨rfl, hf⟩ := hN
     exact PayPost.bad (by rw [HD.out]; rfl) R KP hf (by simp [Value.oneCell'])
   obtain ⟨cZ_0, cZ_1, cZ_2, cZ_3, cZ_4, cZ_5, cZ_6, cZ_7⟩ := Z.out.c8
   exact bodyPost_ret (v := .tuple #[.agg #[.int .i64 6, .bool false, .int .i64 0, .string ⟨#[]⟩, .int .i64 id, .slice none 0 0, .slice (some ⟨g60, 0, none⟩) 1 1, .slice none 0 0], .bool bbN]) (by simp [results, Tryd.results43, go_sem, cZ_0, cZ_1, cZ_2, cZ_3, cZ_4, cZ_5, cZ_6, cZ_7]) rfl (HF.out)
end Go.Proofs.YtccmmibkihbobaaDoor

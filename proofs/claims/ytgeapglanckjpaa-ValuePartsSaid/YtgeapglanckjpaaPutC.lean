/- What sheaveref08.put computes: a map that has keys. No condition. -/
import Derived.Test.YtgeapglanckjpaaPut
set_option maxHeartbeats 8000000
namespace Go.Proofs.Ytgeapglanckjpaa
open Go.ChangeShapes Go.WideShapes Go.ChangeAt Go.RowKit
theorem RdValP.inv {w : World} {S : Nat → Prop} {x : Val} {cs : List Value} (h : RdValP w S x cs) : ∃ vk vi vr, cs = valV x vk vi vr ∧ ValP w S x vk vi vr := by
 cases h with
 | mk k b n s id ks is rs vk vi vr ck ci hn hs hl hri h1 h2 h3 h4 h5 => exact ⟨vk, vi, vr, rfl, hn, hs, hl, hri, ⟨ck, h1, h2⟩, ⟨ci, h3, h4⟩, h5⟩
theorem part1 {w : World} {S : Nat → Prop} {b o : Nat} {xs : List Val} {c : Nat → List Value} (hb : b < w.heap.size) (hS : ∀ k, S k → k < w.heap.size) (hc : ∀ i, i < xs.length → ∀ j u, (c i)[j]? = some u → w.cell? ⟨b, o + i * 8 + j, none⟩ = some u) (hr : ∀ (i : Nat) (h : i < xs.length), RdValP w S xs[i] (c i)) (m : Nat) (W : World) (hB : Below w.heap.size w W) :
  (∀ i, i < (xs.take m).length → ∀ j u, (c i)[j]? = some u → W.cell? ⟨b, o + i * 8 + j, none⟩ = some u) ∧ ∀ (i : Nat) (h : i < (xs.take m).length), RdValP W S (xs.take m)[i] (c i) := by
 have hl : (xs.take m).length ≤ xs.length := by rw [List.length_take]; omega
 refine ⟨fun i hi j u hu => (hB.cell (p := ⟨b, _, none⟩) hb).trans (hc i (by omega) j u hu), fun i hi => ?_⟩
 rw [List.getElem_take]
 exact (hr i (by omega)).keep (fun p hp => hB.cell (hS _ hp)) (fun _ h => h)
theorem part2 {w : World} {S : Nat → Prop} {b o : Nat} {xs : List Val} {c : Nat → List Value} (hb : b < w.heap.size) (hS : ∀ k, S k → k < w.heap.size) (hc : ∀ i, i < xs.length → ∀ j u, (c i)[j]? = some u → w.cell? ⟨b, o + i * 8 + j, none⟩ = some u) (hr : ∀ (i : Nat) (h : i < xs.length), RdValP w S xs[i] (c i)) (m : Nat) (o2 : Nat) (ho : o2 = o + m * 8 ∨ xs.length ≤ m) (W : World) (hB : Below w.heap.size w W) :
  (∀ i, i < (xs.drop m).length → ∀ j u, (c (m + i))[j]? = some u → W.cell? ⟨b, o2 + i * 8 + j, none⟩ = some u) ∧ ∀ (i : Nat) (h : i < (xs.drop m).length), RdValP W S (xs.drop m)[i] (c (m + i)) := by
 refine ⟨fun i hi j u hu => ?_, fun i hi => ?_⟩
 ·
  rw [List.length_drop] at hi
  rcases ho with rfl | ho
  ·
   have := hc (m + i) (by omega) j u hu
   rw [show o + m * 8 + i * 8 + j = o + (m + i) * 8 + j by omega]
   exact (hB.cell (p := ⟨b, _, none⟩) hb).trans this
  omega
 rw [List.length_drop] at hi
 rw [List.getElem_drop]
 exact (hr (m + i) (by omega)).keep (fun p hp => hB.cell (hS _ hp)) (fun _ h => h)
set_option maxRecDepth 100000 in
theorem put_cons (v k t : Val) (S : Nat → Prop) (vk vi vr kk ki kr tk' ti tr : Value) (w : World) (hS : ∀ b, S b → b < w.heap.size) (hv : ValP w S v vk vi vr) (hk : ValP w S k kk ki kr) (ht : ValP w S t tk' ti tr) (hn0 : 0 < v.keys.length) (hn1 : v.items.length = v.keys.length) (hn2 : v.keys.length ≤ 100) :
  Calls Try.prog 68 #[valA v vk vi vr, valA k kk ki kr, valA t tk' ti tr] w (PutPost w S (putV v k t)) := by
 obtain ⟨A1, c1, A2, c2, A3, c3, rfl, rfl, rfl, hc1, hc2, -⟩ := hv.forms
 obtain ⟨K1, d1, K2, d2, K3, d3, rfl, rfl, rfl, -, -, -⟩ := hk.forms
 obtain ⟨T1, e1, T2, e2, T3, e3, rfl, rfl, rfl, -, -, -⟩ := ht.forms
 obtain ⟨bk, ok, ck, rfl, hbk, hck, hrk⟩ := hv.keys.at_ hn0
 obtain ⟨bi, oi, ci, rfl, hbi, hci, hri⟩ := hv.items.at_ (by omega)
 have hbkl := hS bk hbk
 have hbil := hS bi hbi
 have HV := Lib.hid hv
 have HY := Lib.hid hk
 have HZ := Lib.hid ht
 have HS := Lib.hid hS
 have HCK := Lib.hid hck
 have HRK := Lib.hid hrk
 have HCI := Lib.hid hci
 have HRI := Lib.hid hri
 have HN1 := Lib.hid hn1
 clear hv hk ht hS hck hrk hci hri hbk hbi hn1
 go_enter Try.func68, Try.ntmps68
 go_upto_region 1 with fail
 obtain ⟨wd322, hE323⟩ : ∃ ww, ww = w.alloc (.cells #[.int .i64 v.kind, .bool v.bool, .int .i64 v.num, .string ⟨v.str.toArray⟩, .int .i64 v.id, .slice (some ⟨bk, ok, none⟩) v.keys.length c1, .slice (some ⟨bi, oi, none⟩) v.items.length c2, .slice A3 v.rest.length c3] 34) := ⟨_, rfl⟩
 rw [← hE323]
 have hb321 := aB hE323
 have V := aN hE323
 obtain ⟨wd324, hE325⟩ : ∃ ww, ww = wd322.alloc (.cells #[.int .i64 k.kind, .bool k.bool, .int .i64 k.num, .string ⟨k.str.toArray⟩, .int .i64 k.id, .slice K1 k.keys.length d1, .slice K2 k.items.length d2, .slice K3 k.rest.length d3] 34) := ⟨_, rfl⟩
 rw [← hE325]
 replace V := dB V (aB hE325)
 replace hb321 := dT hb321 (aB hE325)
 have Y := aM hE325 (aZ hE323 rfl)
 obtain ⟨wd326, hE327⟩ : ∃ ww, ww = wd324.alloc (.cells #[.int .i64 t.kind, .bool t.bool, .int .i64 t.num, .string ⟨t.str.toArray⟩, .int .i64 t.id, .slice T1 t.keys.length e1, .slice T2 t.items.length e2, .slice T3 t.rest.length e3] 34) := ⟨_, rfl⟩
 rw [← hE327]
 replace V := dB V (aB hE327)
 replace Y := dB Y (aB hE327)
 replace hb321 := dT hb321 (aB hE327)
 have Z := aM hE327 (aZ hE325 (aZ hE323 rfl))
 obtain ⟨wd328, hE329⟩ : ∃ ww, ww = wd326.alloc (.cells #[.int .i64 0, .bool false, .int .i64 0, .string ⟨#[]⟩, .int .i64 0, .slice none 0 0, .slice none 0 0, .slice none 0 0] 34) := ⟨_, rfl⟩
 rw [← hE329]
 replace V := dB V (aB hE329)
 replace Y := dB Y (aB hE329)
 replace Z := dB Z (aB hE329)
 replace hb321 := dT hb321 (aB hE329)
 have R := aM hE329 (aZ hE327 (aZ hE325 (aZ hE323 rfl)))
 clear hE323 hE325 hE327 hE329
 have hw330 := hb321
 clear hb321
 have HV0 := Lib.hid V.out
 have HY0 := Lib.hid Y.out
 have HZ0 := Lib.hid Z.out
 have HR0 := Lib.hid R.out
 have hB0 := hw330
 clear V Y Z R
 go_wp2_with fail
 go_loopw [7] (fun i wr => ∃ j : Nat, j ≤ v.keys.length ∧ i = .int .i64 j ∧ j ≤ lowI v.keys k ∧ Has wr w.heap.size 34 #[.int .i64 v.kind, .bool v.bool, .int .i64 v.num, .string ⟨v.str.toArray⟩, .int .i64 v.id, .slice (some ⟨bk, ok, none⟩) v.keys.length c1, .slice (some ⟨bi, oi, none⟩) v.items.length c2, .slice A3 v.rest.length c3] ∧ Has wr (w.heap.size + 1) 34 #[.int .i64 k.kind, .bool k.bool, .int .i64 k.num, .string ⟨k.str.toArray⟩, .int .i64 k.id, .slice K1 k.keys.length d1, .slice K2 k.items.length d2, .slice K3 k.rest.length d3] ∧ Has wr (w.heap.size + 1 + 1) 34 #[.int .i64 t.kind, .bool t.bool, .int .i64 t.num, .string ⟨t.str.toArray⟩, .int .i64 t.id, .slice T1 t.keys.length e1, .slice T2 t.items.length e2, .slice T3 t.rest.length e3] ∧ Has wr (w.heap.size + 1 + 1 + 1) 34 #[.int .i64 0, .bool false, .int .i64 0, .string ⟨#[]⟩, .int .i64 0, .slice none 0 0, .slice none 0 0, .slice none 0 0] ∧ Below w.heap.size w wr) (fun i _ => v.keys.length - (intOf i).toNat)
 case atStart => exact ⟨0, by omega, rfl, by omega, HV0.out, HY0.out, HZ0.out, HR0.out, hB0⟩
 case round =>
  clear HV0 HY0 HZ0 HR0 hB0
  obtain ⟨j, hj, rfl, hjl, V, Y, Z, R, hb⟩ := hrel
  replace V := Lib.hid V
  replace Y := Lib.hid Y
  replace Z := Lib.hid Z
  replace R := Lib.hid R
  by_cases hjn : j < v.keys.length
  ·
   have hstep := lowI_step k v.keys j hjn hjl
   have hget : v.keys[j]? = some v.keys[j] := List.getElem?_eq_getElem hjn
   obtain ⟨kk, ki, kr, hcq, hyp⟩ := (HRK.out j hjn).inv
   have hcc := HCK.out j hjn
   rw [hcq] at hcc
   generalize v.keys[j] = y at *
   obtain ⟨M1, f1, M2, f2, M3, f3, rfl, rfl, rfl, -, -, -⟩ := hyp.forms
   have y0 := hcc 0 _ rfl
   have y1 := hcc 1 _ rfl
   have y2 := hcc 2 _ rfl
   have y3 := hcc 3 _ rfl
   have y4 := hcc 4 _ rfl
   have y5 := hcc 5 _ rfl
   have y6 := hcc 6 _ rfl
   have y7 := hcc 7 _ rfl
   simp only [Nat.add_zero] at y0
   have HYP := Lib.hid hyp
   have hj1 : (j : Int) < v.keys.length := by omega
   have hj0 : (0 : Int) ≤ (j : Int) := by omega
   clear hcc hcq hyp
   have hcm := fun W h1 h2 => rcompare_any y k (.slice M1 y.keys.length f1) (.slice M2 y.items.length f2) (.slice M3 y.rest.length f3) (.slice K1 k.keys.length d1) (.slice K2 k.items.length d2) (.slice K3 k.rest.length d3) W h1 h2
   obtain ⟨cv, hcv⟩ : ∃ c : Int, compareV y k = c := ⟨_, rfl⟩
   simp only [hcv] at hcm hstep
   have HCM := Lib.hid hcm
   clear hcm
   by_cases hlt : cv < 0
   ·
    have hd : decide (cv < 0) = true := decide_eq_true hlt
    have hj2 := hstep.1 hlt
    clear hstep hget hcv
    go_upto_region 2 with fail
    have cV_5 : wr.cell? ⟨w.heap.size, 5, none⟩ = some (.slice (some ⟨bk, ok, none⟩) v.keys.length c1) := V.out.cell 5
    obtain ⟨cY_0, cY_1, cY_2, cY_3, cY_4, cY_5, cY_6, cY_7⟩ := Y.out.c8
    refine wp_region_held_drew (S := (fun w' => w'.cell? ⟨w.heap.size, 5, none⟩ = some (.slice (some ⟨bk, ok, none⟩) v.keys.length c1) ∧ w'.cell? ⟨w.heap.size + 1, 0, none⟩ = some (.int .i64 k.kind) ∧ w'.cell? ⟨w.heap.size + 1, 1, none⟩ = some (.bool k.bool) ∧ w'.cell? ⟨w.heap.size + 1, 2, none⟩ = some (.int .i64 k.num) ∧ w'.cell? ⟨w.heap.size + 1, 3, none⟩ = some (.string ⟨k.str.toArray⟩) ∧ w'.cell? ⟨w.heap.size + 1, 4, none⟩ = some (.int .i64 k.id) ∧ w'.cell? ⟨w.heap.size + 1, 5, none⟩ = some (.slice K1 k.keys.length d1) ∧ w'.cell? ⟨w.heap.size + 1, 6, none⟩ = some (.slice K2 k.items.length d2) ∧ w'.cell? ⟨w.heap.size + 1, 7, none⟩ = some (.slice K3 k.rest.length d3) ∧ (∀ (b o : Nat), b < w.heap.size → w'.cell? ⟨b, o, none⟩ = w.cell? ⟨b, o, none⟩))) (by kernel_rfl) ⟨cV_5, cY_0, cY_1, cY_2, cY_3, cY_4, cY_5, cY_6, cY_7, (fun b o hlt => hb.cell (p := ⟨b, o, none⟩) hlt)⟩ (fun hHeld => ?_)
    clear cV_5 cY_0 cY_1 cY_2 cY_3 cY_4 cY_5 cY_6 cY_7
    have hb331 : Below wr.heap.size wr (wr.drew) := (Below.refl _ _).drew
    replace V := dB V hb331
    replace Y := dB Y hb331
    replace Z := dB Z hb331
    replace R := dB R hb331
    replace hb := dT hb hb331
    clear hb331
    generalize wr.drew = wd332 at *
    refine tk (i := 0) (v := ?k333) ?_
    simp only [put_laws2]
    refine tk (i := 1) (v := ?k334) ?_
    simp only [put_laws2]
    refine tk (i := 2) (v := ?k335) ?_
    simp only [put_laws2]
    refine tk (i := 3) (v := ?k336) ?_
    simp only [put_laws2]
    refine tk (i := 4) (v := ?k337) ?_
    simp only [put_laws2]
    refine tk (i := 5) (v := ?k338) ?_
    simp only [put_laws2]
    refine tk (i := 6) (v := ?k339) ?_
    simp only [put_laws2]
    refine tk (i := 7) (v := ?k340) ?_
    simp only [put_laws2]
    refine tk (i := 8) (v := ?k341) ?_
    simp only [put_laws2]
    refine tk (i := 9) (v := ?k342) ?_
    simp only [put_laws2]
    refine tk (i := 10) (v := ?k343) ?_
    simp only [put_laws2]
    refine tk (i := 11) (v := ?k344) ?_
    simp only [put_laws2]
    refine rd1 (i := 12) (fun K hK => ?_)
    go_simp
    ((with_reducible refine (HCM.out _ ((HYP.out.on0 HS.out hb).at_ (fun q hq => Nat.lt_of_lt_of_le (HS.out q hq) (hb).size)) ((HY.out.on0 HS.out hb).at_ (fun q hq => Nat.lt_of_lt_of_le (HS.out q hq) (hb).size))).mono ?_); rintro e wd345 ⟨rfl, hb346⟩)
    replace V := dB V hb346
    replace Y := dB Y hb346
    replace Z := dB Z hb346
    replace R := dB R hb346
    replace hb := dT hb hb346
    clear hb346
    try clear hHeld
    refine hK.out _ _ (⟨V.out.cell 5, d8 Y ((fun b o hlt => hb.cell (p := ⟨b, o, none⟩) hlt))⟩) (fun hHeld => ?_)
    clear hK K
    refine tk (i := 13) (v := ?k347) ?_
    simp only [put_laws2]
    refine tk (i := 14) (v := ?k348) ?_
    simp only [put_laws2]
    refine wpAnyH_done (by kernel_rfl) ?_ _
    try clear hHeld
    go_wp2_with fail
    go_roundw
    case rel => exact ⟨j + 1, by omega, by go_num, hj2, V.out, Y.out, Z.out, R.out, hb⟩
    case measure => simp [intOf]; omega
   have hd : decide (cv < 0) = false := decide_eq_false hlt
   have hlo := hstep.2 hlt
   clear hstep
   go_upto_region 2 with fail
   have cV_5 : wr.cell? ⟨w.heap.size, 5, none⟩ = some (.slice (some ⟨bk, ok, none⟩) v.keys.length c1) := V.out.cell 5
   obtain ⟨cY_0, cY_1, cY_2, cY_3, cY_4, cY_5, cY_6, cY_7⟩ := Y.out.c8
   refine wp_region_held_drew (S := (fun w' => w'.cell? ⟨w.heap.size, 5, none⟩ = some (.slice (some ⟨bk, ok, none⟩) v.keys.length c1) ∧ w'.cell? ⟨w.heap.size + 1, 0, none⟩ = some (.int .i64 k.kind) ∧ w'.cell? ⟨w.heap.size + 1, 1, none⟩ = some (.bool k.bool) ∧ w'.cell? ⟨w.heap.size + 1, 2, none⟩ = some (.int .i64 k.num) ∧ w'.cell? ⟨w.heap.size + 1, 3, none⟩ = some (.string ⟨k.str.toArray⟩) ∧ w'.cell? ⟨w.heap.size + 1, 4, none⟩ = some (.int .i64 k.id) ∧ w'.cell? ⟨w.heap.size + 1, 5, none⟩ = some (.slice K1 k.keys.length d1) ∧ w'.cell? ⟨w.heap.size + 1, 6, none⟩ = some (.slice K2 k.items.length d2) ∧ w'.cell? ⟨w.heap.size + 1, 7, none⟩ = some (.slice K3 k.rest.length d3) ∧ (∀ (b o : Nat), b < w.heap.size → w'.cell? ⟨b, o, none⟩ = w.cell? ⟨b, o, none⟩))) (by kernel_rfl) ⟨cV_5, cY_0, cY_1, cY_2, cY_3, cY_4, cY_5, cY_6, cY_7, (fun b o hlt => hb.cell (p := ⟨b, o, none⟩) hlt)⟩ (fun hHeld => ?_)
   clear cV_5 cY_0 cY_1 cY_2 cY_3 cY_4 cY_5 cY_6 cY_7
   have hb349 : Below wr.heap.size wr (wr.drew) := (Below.refl _ _).drew
   replace V := dB V hb349
   replace Y := dB Y hb349
   replace Z := dB Z hb349
   replace R := dB R hb349
   replace hb := dT hb hb349
   clear hb349
   generalize wr.drew = wd350 at *
   refine tk (i := 0) (v := ?k351) ?_
   simp only [put_laws2]
   refine tk (i := 1) (v := ?k352) ?_
   simp only [put_laws2]
   refine tk (i := 2) (v := ?k353) ?_
   simp only [put_laws2]
   refine tk (i := 3) (v := ?k354) ?_
   simp only [put_laws2]
   refine tk (i := 4) (v := ?k355) ?_
   simp only [put_laws2]
   refine tk (i := 5) (v := ?k356) ?_
   simp only [put_laws2]
   refine tk (i := 6) (v := ?k357) ?_
   simp only [put_laws2]
   refine tk (i := 7) (v := ?k358) ?_
   simp only [put_laws2]
   refine tk (i := 8) (v := ?k359) ?_
   simp only [put_laws2]
   refine tk (i := 9) (v := ?k360) ?_
   simp only [put_laws2]
   refine tk (i := 10) (v := ?k361) ?_
   simp only [put_laws2]
   refine tk (i := 11) (v := ?k362) ?_
   simp only [put_laws2]
   refine rd1 (i := 12) (fun K hK => ?_)
   go_simp
   ((with_reducible refine (HCM.out _ ((HYP.out.on0 HS.out hb).at_ (fun q hq => Nat.lt_of_lt_of_le (HS.out q hq) (hb).size)) ((HY.out.on0 HS.out hb).at_ (fun q hq => Nat.lt_of_lt_of_le (HS.out q hq) (hb).size))).mono ?_); rintro e wd363 ⟨rfl, hb364⟩)
   replace V := dB V hb364
   replace Y := dB Y hb364
   replace Z := dB Z hb364
   replace R := dB R hb364
   replace hb := dT hb hb364
   clear hb364
   try clear hHeld
   refine hK.out _ _ (⟨V.out.cell 5, d8 Y ((fun b o hlt => hb.cell (p := ⟨b, o, none⟩) hlt))⟩) (fun hHeld => ?_)
   clear hK K
   refine tk (i := 13) (v := ?k365) ?_
   simp only [put_laws2]
   refine tk (i := 14) (v := ?k366) ?_
   simp only [put_laws2]
   refine wpAnyH_done (by kernel_rfl) ?_ _
   try clear hHeld
   go_upto_region 4 with fail
   have cV_5 : wd363.cell? ⟨w.heap.size, 5, none⟩ = some (.slice (some ⟨bk, ok, none⟩) v.keys.length c1) := V.out.cell 5
   obtain ⟨cY_0, cY_1, cY_2, cY_3, cY_4, cY_5, cY_6, cY_7⟩ := Y.out.c8
   refine wp_region_held_drew (S := (fun w' => w'.cell? ⟨w.heap.size, 5, none⟩ = some (.slice (some ⟨bk, ok, none⟩) v.keys.length c1) ∧ w'.cell? ⟨w.heap.size + 1, 0, none⟩ = some (.int .i64 k.kind) ∧ w'.cell? ⟨w.heap.size + 1, 1, none⟩ = some (.bool k.bool) ∧ w'.cell? ⟨w.heap.size + 1, 2, none⟩ = some (.int .i64 k.num) ∧ w'.cell? ⟨w.heap.size + 1, 3, none⟩ = some (.string ⟨k.str.toArray⟩) ∧ w'.cell? ⟨w.heap.size + 1, 4, none⟩ = some (.int .i64 k.id) ∧ w'.cell? ⟨w.heap.size + 1, 5, none⟩ = some (.slice K1 k.keys.length d1) ∧ w'.cell? ⟨w.heap.size + 1, 6, none⟩ = some (.slice K2 k.items.length d2) ∧ w'.cell? ⟨w.heap.size + 1, 7, none⟩ = some (.slice K3 k.rest.length d3) ∧ (∀ (b o : Nat), b < w.heap.size → w'.cell? ⟨b, o, none⟩ = w.cell? ⟨b, o, none⟩))) (by kernel_rfl) ⟨cV_5, cY_0, cY_1, cY_2, cY_3, cY_4, cY_5, cY_6, cY_7, (fun b o hlt => hb.cell (p := ⟨b, o, none⟩) hlt)⟩ (fun hHeld => ?_)
   clear cV_5 cY_0 cY_1 cY_2 cY_3 cY_4 cY_5 cY_6 cY_7
   have hb367 : Below wd363.heap.size wd363 (wd363.drew) := (Below.refl _ _).drew
   replace V := dB V hb367
   replace Y := dB Y hb367
   replace Z := dB Z hb367
   replace R := dB R hb367
   replace hb := dT hb hb367
   clear hb367
   generalize wd363.drew = wd368 at *
   refine tk (i := 0) (v := ?k369) ?_
   simp only [put_laws2]
   refine tk (i := 1) (v := ?k370) ?_
   simp only [put_laws2]
   refine tk (i := 2) (v := ?k371) ?_
   simp only [put_laws2]
   refine tk (i := 3) (v := ?k372) ?_
   simp only [put_laws2]
   refine tk (i := 4) (v := ?k373) ?_
   simp only [put_laws2]
   refine tk (i := 5) (v := ?k374) ?_
   simp only [put_laws2]
   refine tk (i := 6) (v := ?k375) ?_
   simp only [put_laws2]
   refine tk (i := 7) (v := ?k376) ?_
   simp only [put_laws2]
   refine tk (i := 8) (v := ?k377) ?_
   simp only [put_laws2]
   refine tk (i := 9) (v := ?k378) ?_
   simp only [put_laws2]
   refine tk (i := 10) (v := ?k379) ?_
   simp only [put_laws2]
   refine tk (i := 11) (v := ?k380) ?_
   simp only [put_laws2]
   refine rd1 (i := 12) (fun K hK => ?_)
   go_simp
   ((with_reducible refine (HCM.out _ ((HYP.out.on0 HS.out hb).at_ (fun q hq => Nat.lt_of_lt_of_le (HS.out q hq) (hb).size)) ((HY.out.on0 HS.out hb).at_ (fun q hq => Nat.lt_of_lt_of_le (HS.out q hq) (hb).size))).mono ?_); rintro e wd381 ⟨rfl, hb382⟩)
   replace V := dB V hb382
   replace Y := dB Y hb382
   replace Z := dB Z hb382
   replace R := dB R hb382
   replace hb := dT hb hb382
   clear hb382
   try clear hHeld
   refine hK.out _ _ (⟨V.out.cell 5, d8 Y ((fun b o hlt => hb.cell (p := ⟨b, o, none⟩) hlt))⟩) (fun hHeld => ?_)
   clear hK K
   refine tk (i := 13) (v := ?k383) ?_
   simp only [put_laws2]
   refine tk (i := 14) (v := ?k384) ?_
   simp only [put_laws2]
   refine wpAnyH_done (by kernel_rfl) ?_ _
   try clear hHeld
   clear y0 y1 y2 y3 y4 y5 y6 y7
   by_cases hz : cv = 0
   ·
    have tz : (cv == 0) = true := by simp [hz]
    have Hp : Hid (putV v k t = v) := by show _ = _; unfold putV; rw [hlo, hget]; simp [hcv, hz]
    clear hz hlt hd hget hcv hlo
    obtain ⟨cV_0, cV_1, cV_2, cV_3, cV_4, cV_5, cV_6, cV_7⟩ := V.out.c8
    go_upto_region 5 with fail
    go_wp2_with (refine wpList_store_row rfl 34 _ _ rfl (w.heap.size + 1 + 1 + 1) _ rfl rfl 34 _ R.out (by kernel_rfl) rfl (by simp [Value.oneCell']) ?_)
    clear cV_0 cV_1 cV_2 cV_3 cV_4 cV_5 cV_6 cV_7
    obtain ⟨wd385, hE386⟩ : ∃ ww, ww = wd381.setRow (w.heap.size + 1 + 1 + 1) #[.int .i64 v.kind, .bool v.bool, .int .i64 v.num, .string ⟨v.str.toArray⟩, .int .i64 v.id, .slice (some ⟨bk, ok, none⟩) v.keys.length c1, .slice (some ⟨bi, oi, none⟩) v.items.length c2, .slice A3 v.rest.length c3] := ⟨_, rfl⟩
    rw [← hE386]
    replace V := dR V hE386 (by omega)
    replace Y := dR Y hE386 (by omega)
    replace Z := dR Z hE386 (by omega)
    replace R := dO R hE386
    replace hb := tR hb hE386 (by omega)
    clear hE386
    obtain ⟨cR_0, cR_1, cR_2, cR_3, cR_4, cR_5, cR_6, cR_7⟩ := R.out.c8
    exact bodyPost_ret (v := .agg #[.int .i64 v.kind, .bool v.bool, .int .i64 v.num, .string ⟨v.str.toArray⟩, .int .i64 v.id, .slice (some ⟨bk, ok, none⟩) v.keys.length c1, .slice (some ⟨bi, oi, none⟩) v.items.length c2, .slice A3 v.rest.length c3]) (by simp [results, Try.results68, go_sem, cR_0, cR_1, cR_2, cR_3, cR_4, cR_5, cR_6, cR_7]) rfl (⟨_, _, _, by rw [Hp.out]; try rfl, by rw [Hp.out]; exact (HV.out.on0 HS.out hb).keep (fun _ _ => rfl) (fun _ h => .inl h), hb⟩)
   have tz : (cv == 0) = false := by simpa using hz
   have Hp : Hid (putV v k t = .mk v.kind v.bool v.num v.str v.id (v.keys.take j ++ [k] ++ v.keys.drop j) (v.items.take j ++ [t] ++ v.items.drop j) v.rest) := by show _ = _; unfold putV; rw [hlo, hget]; simp [hcv, hz]
   clear hz hlt hd hget hcv hlo
   have HLK : Hid ((v.keys.take j).length = j) := by show _ = _; rw [List.length_take]; omega
   have HLK2 : Hid ((v.keys.take j ++ [k]).length = j + 1) := by show _ = _; rw [List.length_append, HLK.out]; rfl
   have HLKD : Hid ((v.keys.drop j).length = v.keys.length - j) := by show _ = _; rw [List.length_drop]
   have HLK3 : Hid ((v.keys.take j ++ [k] ++ v.keys.drop j).length = v.keys.length + 1) := by show _ = _; rw [List.length_append, HLK2.out, HLKD.out]; omega
   have HLI : Hid ((v.items.take j).length = j) := by show _ = _; have := HN1.out; rw [List.length_take]; omega
   have HLI2 : Hid ((v.items.take j ++ [t]).length = j + 1) := by show _ = _; rw [List.length_append, HLI.out]; rfl
   have HLID : Hid ((v.items.drop j).length = v.items.length - j) := by show _ = _; rw [List.length_drop]
   have HLI3 : Hid ((v.items.take j ++ [t] ++ v.items.drop j).length = v.keys.length + 1) := by show _ = _; have := HN1.out; rw [List.length_append, HLI2.out, HLID.out]; omega
   have HK1 := Lib.hid (fun W h => part1 hbkl HS.out HCK.out HRK.out j W h)
   have HI1 := Lib.hid (fun W h => part1 hbil HS.out HCI.out HRI.out j W h)
   obtain ⟨ok2, hok, hok2⟩ : ∃ q : Nat, (if c1 = j then some (⟨bk, ok, none⟩ : Addr) else some ⟨bk, ok + j * 8, none⟩) = some ⟨bk, q, none⟩ ∧ (q = ok + j * 8 ∨ v.keys.length ≤ j) := by
    split
    ·
     exact ⟨_, rfl, .inr (by omega)⟩
    exact ⟨_, rfl, .inl rfl⟩
   obtain ⟨oi2, hoi, hoi2⟩ : ∃ q : Nat, (if c2 = j then some (⟨bi, oi, none⟩ : Addr) else some ⟨bi, oi + j * 8, none⟩) = some ⟨bi, q, none⟩ ∧ (q = oi + j * 8 ∨ v.items.length ≤ j) := by
    split
    ·
     exact ⟨_, rfl, .inr (by have := HN1.out; omega)⟩
    exact ⟨_, rfl, .inl rfl⟩
   have HOK := Lib.hid hok
   have HOI := Lib.hid hoi
   have HK2 := Lib.hid (fun W h => part2 hbkl HS.out HCK.out HRK.out j ok2 hok2 W h)
   have HI2 := Lib.hid (fun W h => part2 hbil HS.out HCI.out HRI.out j oi2 hoi2 W h)
   clear hok hoi hok2 hoi2
   have hjc1 : (j : Int) ≤ c1 := by omega
   have hjc2 : (j : Int) ≤ c2 := by have := HN1.out; omega
   have hjx : (j : Int) ≤ v.keys.length := by omega
   have hji : (j : Int) ≤ v.items.length := by have := HN1.out; omega
   go_upto_region 6 with fail
   try simp only [tz]
   try simp only [hd1]
   go_cut [] from 41 to 55 (fun wx => ∃ (A : Option Addr) (c : Nat), Has wx w.heap.size 34 #[.int .i64 v.kind, .bool v.bool, .int .i64 v.num, .string ⟨v.str.toArray⟩, .int .i64 v.id, .slice A (v.keys.length + 1) c, .slice (some ⟨bi, oi, none⟩) v.items.length c2, .slice A3 v.rest.length c3] ∧ Has wx (w.heap.size + 1) 34 #[.int .i64 k.kind, .bool k.bool, .int .i64 k.num, .string ⟨k.str.toArray⟩, .int .i64 k.id, .slice K1 k.keys.length d1, .slice K2 k.items.length d2, .slice K3 k.rest.length d3] ∧ Has wx (w.heap.size + 1 + 1) 34 #[.int .i64 t.kind, .bool t.bool, .int .i64 t.num, .string ⟨t.str.toArray⟩, .int .i64 t.id, .slice T1 t.keys.length e1, .slice T2 t.items.length e2, .slice T3 t.rest.length e3] ∧ Has wx (w.heap.size + 1 + 1 + 1) 34 #[.int .i64 0, .bool false, .int .i64 0, .string ⟨#[]⟩, .int .i64 0, .slice none 0 0, .slice none 0 0, .slice none 0 0] ∧ Kept (OVs w (w.heap.size + 4) (fun b => ((False ∨ S b) ∨ S b) ∨ S b) (.slice A (v.keys.length + 1) c) (v.keys.take j ++ [k] ++ v.keys.drop j)) wx (w.heap.size + 4) wx.heap.size ∧ Below w.heap.size w wx)
   case first =>
    have cV_5 : wd381.cell? ⟨w.heap.size, 5, none⟩ = some (.slice (some ⟨bk, ok, none⟩) v.keys.length c1) := V.out.cell 5
    obtain ⟨cY_0, cY_1, cY_2, cY_3, cY_4, cY_5, cY_6, cY_7⟩ := Y.out.c8
    refine wp_region_T (S := (fun w' => w'.cell? ⟨w.heap.size, 5, none⟩ = some (.slice (some ⟨bk, ok, none⟩) v.keys.length c1) ∧ w'.cell? ⟨w.heap.size + 1, 0, none⟩ = some (.int .i64 k.kind) ∧ w'.cell? ⟨w.heap.size + 1, 1, none⟩ = some (.bool k.bool) ∧ w'.cell? ⟨w.heap.size + 1, 2, none⟩ = some (.int .i64 k.num) ∧ w'.cell? ⟨w.heap.size + 1, 3, none⟩ = some (.string ⟨k.str.toArray⟩) ∧ w'.cell? ⟨w.heap.size + 1, 4, none⟩ = some (.int .i64 k.id) ∧ w'.cell? ⟨w.heap.size + 1, 5, none⟩ = some (.slice K1 k.keys.length d1) ∧ w'.cell? ⟨w.heap.size + 1, 6, none⟩ = some (.slice K2 k.items.length d2) ∧ w'.cell? ⟨w.heap.size + 1, 7, none⟩ = some (.slice K3 k.rest.length d3) ∧ (∀ (b o : Nat), b < w.heap.size → w'.cell? ⟨b, o, none⟩ = w.cell? ⟨b, o, none⟩))) (fun j => j == 15) (by kernel_rfl) ⟨cV_5, cY_0, cY_1, cY_2, cY_3, cY_4, cY_5, cY_6, cY_7, (fun b o hlt => hb.cell (p := ⟨b, o, none⟩) hlt)⟩ (fun hHeld => ?_)
    clear cV_5 cY_0 cY_1 cY_2 cY_3 cY_4 cY_5 cY_6 cY_7
    have hb387 : Below wd381.heap.size wd381 (wd381.drew) := (Below.refl _ _).drew
    replace V := dB V hb387
    replace Y := dB Y hb387
    replace Z := dB Z hb387
    replace R := dB R hb387
    replace hb := dT hb hb387
    clear hb387
    generalize wd381.drew = wd388 at *
    refine tkT (i := 1) (v := ?k389) ?_
    simp only [put_laws2]
    refine tkT (i := 2) (v := ?k390) ?_
    simp only [put_laws2]
    refine tkT (i := 3) (v := ?k391) ?_
    simp only [put_laws2]
    refine tkT (i := 4) (v := ?k392) ?_
    simp only [put_laws2]
    refine tkT (i := 6) (v := ?k393) ?_
    simp only [put_laws2]
    refine tkT (i := 9) (v := ?k394) ?_
    simp only [put_laws2]
    refine tkT (i := 10) (v := ?k395) ?_
    simp only [put_laws2]
    refine tkT (i := 11) (v := ?k396) ?_
    simp only [put_laws2]
    refine tkT (i := 12) (v := ?k397) ?_
    simp only [put_laws2]
    refine wpAnyT_ready (rs := [0, 7]) (by kernel_rfl) (by simp) ?_
    refine AllReadyT.cons rfl (fun K hK => ?_) (AllReadyT.cons rfl (fun K hK => ?_) (AllReadyT.nil))
    ·
     skip
     go_simp
     have hO0 := OwnVals.empty wd388 (w.heap.size + 4) (by have := R.out.here; omega)
     skip
     obtain ⟨gE, hgE⟩ : ∃ g, g = wd388.heap.size := ⟨_, rfl⟩
     rw [← hgE] at hO0
     have hb398 : Below wd388.heap.size wd388 (wd388.alloc (.cells #[] 34)) := (below_al (Below.refl _ _) (Nat.le_refl _) _)
     replace V := dB V hb398
     replace Y := dB Y hb398
     replace Z := dB Z hb398
     replace R := dB R hb398
     replace hb := dT hb hb398
     clear hb398
     generalize wd388.alloc (.cells #[] 34) = wd399 at *
     have hZE : ∀ q, (Value.slice (some ⟨gE, 0, none⟩) 0 0).ownBlock = some q → q = gE := fun q h => by injection h with h; exact h.symm
     have hgL := (hO0.lt gE rfl).1
     have hgU := (hO0.lt gE rfl).2
     have O := Lib.hid (OwnVals.kept0 hO0 (fun _ hq => hq.elim) hb)
     clear hO0
     simp only [← hgE]
     clear hgE
     try clear hHeld
     refine hK.out _ _ (⟨V.out.cell 5, d8 Y ((fun b o hlt => hb.cell (p := ⟨b, o, none⟩) hlt))⟩) (fun hHeld => ?_)
     clear hK K
     refine wpAnyT_ready (rs := [5, 7]) (by kernel_rfl) (by simp) ?_
     refine AllReadyT.cons rfl (fun K hK => ?_) (AllReadyT.cons rfl (fun K hK => ?_) (AllReadyT.nil))
     ·
      skip
      refine step_append_many (b := bk) (o := ok) (cp := c1) (ys := v.keys.take j) (c := ck) (by rfl) _ _ (by rfl) (O.out.now (fun q hq => (hb).block q hq)) (by rfl) (by rw [HLK.out]; rfl) (HK1.out _ hb).1 (HK1.out _ hb).2 (fun q hq => ⟨Nat.lt_of_lt_of_le (HS.out q hq) (hb).size, fun e => by have := HS.out q hq; have := (O.out.now (fun q hq => (hb).block q hq)).lt q e; omega⟩) (by rw [HLK.out]; simp; omega) (by have := R.out.here; omega) ?_
      intro v1 w1O1 hO1 hat hbB hkk
      obtain ⟨AqO1, cqO1, rfl⟩ := hO1.form
      try simp only [List.nil_append] at hO1 hat ⊢
      simp only [HLK.out] at hO1 hat ⊢
      have hR1 := R.out.here
      obtain ⟨H1, hH⟩ : ∃ H, H = wd399.heap.size := ⟨_, rfl⟩
      rw [← hH] at hat hR1
      clear hH
      have hZ1 : ∀ q, (Value.slice AqO1 (j) cqO1).ownBlock = some q → q = gE ∨ q = H1 ∨ q = H1 := fun q h => by
       rcases hat with h2 | h2
       ·
        rw [h2] at h; have := hZE q h; omega
       rw [h2] at h; injection h with h; omega
      clear hat
      clear O
      replace V := dG V hkk (fun hh => by have := hZE _ hh; omega)
      replace Y := dG Y hkk (fun hh => by have := hZE _ hh; omega)
      replace Z := dG Z hkk (fun hh => by have := hZE _ hh; omega)
      replace R := dG R hkk (fun hh => by have := hZE _ hh; omega)
      replace hb := hb.trans (hbB.mono (show w.heap.size ≤ w.heap.size + 4 by omega))
      have O := Lib.hid (OwnVals.kept0 hO1 (fun q hq => .inl (hq.elim False.elim (HS.out q))) hb)
      clear hO1 hbB hkk hZE
      try clear hHeld
      refine hK.out _ _ (⟨V.out.cell 5, d8 Y ((fun b o hlt => hb.cell (p := ⟨b, o, none⟩) hlt))⟩) (fun hHeld => ?_)
      clear hK K
      refine rdT1 (i := 7) (fun K hK => ?_)
      go_simp
      obtain ⟨wd401, hE402⟩ : ∃ ww, ww = w1O1.alloc (.cells #[.int .i64 k.kind, .bool k.bool, .int .i64 k.num, .string ⟨k.str.toArray⟩, .int .i64 k.id, .slice K1 k.keys.length d1, .slice K2 k.items.length d2, .slice K3 k.rest.length d3] 34) := ⟨_, rfl⟩
      rw [← hE402]
      have hb400 := aB hE402
      have N := aN hE402
      clear hE402
      have hl404 := V.out.here
      have hl405 := Y.out.here
      have hl406 := Z.out.here
      have hl407 := R.out.here
      have hl408 := O.out.le
      have hl409 := hb.size
      replace V := dB V hb400
      replace Y := dB Y hb400
      replace Z := dB Z hb400
      replace R := dB R hb400
      replace O := dK O hb400
      replace hb := dT hb hb400
      clear hb400
      generalize w1O1.heap.size = g403 at *
      try clear hHeld
      refine hK.out _ _ (⟨V.out.cell 5, d8 Y ((fun b o hlt => hb.cell (p := ⟨b, o, none⟩) hlt))⟩) (fun hHeld => ?_)
      clear hK K
      refine rdT1 (i := 8) (fun K hK => ?_)
      refine step_append_vals (by rfl) _ _ (by rfl) (O.out.now (fun q hq => (hb).block q hq)) (by rfl) N.out (by rfl) (HY.out.on0 HS.out hb).rd (fun q hq => ⟨Nat.lt_of_lt_of_le (HS.out q hq) (hb).size, fun e => by have := HS.out q hq; have := (O.out.now (fun q hq => (hb).block q hq)).lt q e; omega⟩) (by rw [HLK.out]; omega) (by have := R.out.here; omega) ?_
      intro v1 w1O2 hO1 hat hbB hkk
      obtain ⟨AqO2, cqO2, rfl⟩ := hO1.form
      try simp only [List.nil_append] at hO1 hat ⊢
      simp only [HLK2.out] at hO1 hat ⊢
      have hR2 := R.out.here
      obtain ⟨H2, hH⟩ : ∃ H, H = wd401.heap.size := ⟨_, rfl⟩
      rw [← hH] at hat hR2
      clear hH
      have hZ2 : ∀ q, (Value.slice AqO2 (j + 1) cqO2).ownBlock = some q → q = gE ∨ q = H1 ∨ q = H2 := fun q h => by
       rcases hat with h2 | h2
       ·
        rw [h2] at h; have := hZ1 q h; omega
       rw [h2] at h; injection h with h; omega
      clear hat
      clear O
      clear N
      replace V := dG V hkk (fun hh => by have := hZ1 _ hh; omega)
      replace Y := dG Y hkk (fun hh => by have := hZ1 _ hh; omega)
      replace Z := dG Z hkk (fun hh => by have := hZ1 _ hh; omega)
      replace R := dG R hkk (fun hh => by have := hZ1 _ hh; omega)
      replace hb := hb.trans (hbB.mono (show w.heap.size ≤ w.heap.size + 4 by omega))
      have O := Lib.hid (OwnVals.kept0 hO1 (fun q hq => .inl (hq.elim (fun hq => hq.elim False.elim (HS.out q)) (HS.out q))) hb)
      clear hO1 hbB hkk hZ1
      try clear hHeld
      refine hK.out _ _ (⟨V.out.cell 5, d8 Y ((fun b o hlt => hb.cell (p := ⟨b, o, none⟩) hlt))⟩) (fun hHeld => ?_)
      clear hK K
      refine rdT1 (i := 13) (fun K hK => ?_)
      simp only [HOK.out]
      refine step_append_many (b := bk) (o := _) (cp := (c1 - j)) (ys := v.keys.drop j) (c := fun i => ck (j + i)) (by rfl) _ _ (by rfl) (O.out.now (fun q hq => (hb).block q hq)) (by rfl) (by rw [HLKD.out]; rfl) (HK2.out _ hb).1 (HK2.out _ hb).2 (fun q hq => ⟨Nat.lt_of_lt_of_le (HS.out q hq) (hb).size, fun e => by have := HS.out q hq; have := (O.out.now (fun q hq => (hb).block q hq)).lt q e; omega⟩) (by rw [HLK2.out, HLKD.out]; have := HN1.out; omega) (by have := R.out.here; omega) ?_
      intro v1 w1O3 hO1 hat hbB hkk
      obtain ⟨AqO, cqO, rfl⟩ := hO1.form
      simp only [HLK3.out] at hO1 ⊢
      clear hat
      clear O
      replace V := dG V hkk (fun hh => by have := hZ2 _ hh; omega)
      replace Y := dG Y hkk (fun hh => by have := hZ2 _ hh; omega)
      replace Z := dG Z hkk (fun hh => by have := hZ2 _ hh; omega)
      replace R := dG R hkk (fun hh => by have := hZ2 _ hh; omega)
      replace hb := hb.trans (hbB.mono (show w.heap.size ≤ w.heap.size + 4 by omega))
      have O := Lib.hid (OwnVals.kept0 hO1 (fun q hq => .inl (hq.elim (fun hq => hq.elim (fun hq => hq.elim False.elim (HS.out q)) (HS.out q)) (HS.out q))) hb)
      clear hO1 hbB hkk hZ2
      try clear hHeld
      refine hK.out _ _ (⟨V.out.cell 5, d8 Y ((fun b o hlt => hb.cell (p := ⟨b, o, none⟩) hlt))⟩) (fun hHeld => ?_)
      clear hK K
      refine tkT (i := 14) (v := ?k410) ?_
      simp only [put_laws2]
      refine rdTL (i := 15) (fun K hK => ?_)
      have cV_5 : w1O3.cell? ⟨w.heap.size, 5, none⟩ = some (.slice (some ⟨bk, ok, none⟩) v.keys.length c1) := V.out.cell 5
      have fV_5 := V.out.free 5
      go_simp
      clear cV_5 fV_5
      obtain ⟨wd411, hE412⟩ : ∃ ww, ww = w1O3.setCell ⟨w.heap.size, 5, none⟩ (.slice AqO (v.keys.length + 1) cqO) := ⟨_, rfl⟩
      rw [← hE412]
      replace Y := dF Y hE412 (by omega)
      replace Z := dF Z hE412 (by omega)
      replace R := dF R hE412 (by omega)
      replace V : Hid (Has wd411 (w.heap.size) 34 #[.int .i64 v.kind, .bool v.bool, .int .i64 v.num, .string ⟨v.str.toArray⟩, .int .i64 v.id, .slice AqO (v.keys.length + 1) cqO, .slice (some ⟨bi, oi, none⟩) v.items.length c2, .slice A3 v.rest.length c3]) := Lib.hid (by simpa using dS V hE412)
      replace O := kF O hE412 (by omega)
      replace hb := tF hb hE412 (by omega)
      clear hE412
      try clear hHeld
      refine hK.out _ _ ?_
      clear hK K
      refine wpAnyT_done (by kernel_rfl) ?_ _
      try clear hHeld
      go_wp2_with fail
      go_meet
      exact ⟨AqO, cqO, V.out, Y.out, Z.out, R.out, OwnVals.kept0 (O.out.now (fun q hq => (hb).block q hq)) (fun q hq => .inl (hq.elim (fun hq => hq.elim (fun hq => hq.elim False.elim (HS.out q)) (HS.out q)) (HS.out q))) hb, hb⟩
     skip
     go_simp
     obtain ⟨wd414, hE415⟩ : ∃ ww, ww = wd399.alloc (.cells #[.int .i64 k.kind, .bool k.bool, .int .i64 k.num, .string ⟨k.str.toArray⟩, .int .i64 k.id, .slice K1 k.keys.length d1, .slice K2 k.items.length d2, .slice K3 k.rest.length d3] 34) := ⟨_, rfl⟩
     rw [← hE415]
     have hb413 := aB hE415
     have N := aN hE415
     clear hE415
     have hl417 := V.out.here
     have hl418 := Y.out.here
     have hl419 := Z.out.here
     have hl420 := R.out.here
     have hl421 := O.out.le
     have hl422 := hb.size
     replace V := dB V hb413
     replace Y := dB Y hb413
     replace Z := dB Z hb413
     replace R := dB R hb413
     replace O := dK O hb413
     replace hb := dT hb hb413
     clear hb413
     generalize wd399.heap.size = g416 at *
     try clear hHeld
     refine hK.out _ _ (⟨V.out.cell 5, d8 Y ((fun b o hlt => hb.cell (p := ⟨b, o, none⟩) hlt))⟩) (fun hHeld => ?_)
     clear hK K
     refine rdT1 (i := 5) (fun K hK => ?_)
     refine step_append_many (b := bk) (o := ok) (cp := c1) (ys := v.keys.take j) (c := ck) (by rfl) _ _ (by rfl) (O.out.now (fun q hq => (hb).block q hq)) (by rfl) (by rw [HLK.out]; rfl) (HK1.out _ hb).1 (HK1.out _ hb).2 (fun q hq => ⟨Nat.lt_of_lt_of_le (HS.out q hq) (hb).size, fun e => by have := HS.out q hq; have := (O.out.now (fun q hq => (hb).block q hq)).lt q e; omega⟩) (by rw [HLK.out]; simp; omega) (by have := R.out.here; omega) ?_
     intro v1 w1O1 hO1 hat hbB hkk
     obtain ⟨AqO1, cqO1, rfl⟩ := hO1.form
     try simp only [List.nil_append] at hO1 hat ⊢
     simp only [HLK.out] at hO1 hat ⊢
     have hR1 := R.out.here
     obtain ⟨H1, hH⟩ : ∃ H, H = wd414.heap.size := ⟨_, rfl⟩
     rw [← hH] at hat hR1
     clear hH
     have hZ1 : ∀ q, (Value.slice AqO1 (j) cqO1).ownBlock = some q → q = gE ∨ q = H1 ∨ q = H1 := fun q h => by
      rcases hat with h2 | h2
      ·
       rw [h2] at h; have := hZE q h; omega
      rw [h2] at h; injection h with h; omega
     clear hat
     clear O
     replace V := dG V hkk (fun hh => by have := hZE _ hh; omega)
     replace Y := dG Y hkk (fun hh => by have := hZE _ hh; omega)
     replace Z := dG Z hkk (fun hh => by have := hZE _ hh; omega)
     replace R := dG R hkk (fun hh => by have := hZE _ hh; omega)
     replace N := dG N hkk (fun hh => by have := hZE _ hh; omega)
     replace hb := hb.trans (hbB.mono (show w.heap.size ≤ w.heap.size + 4 by omega))
     have O := Lib.hid (OwnVals.kept0 hO1 (fun q hq => .inl (hq.elim False.elim (HS.out q))) hb)
     clear hO1 hbB hkk hZE
     try clear hHeld
     refine hK.out _ _ (⟨V.out.cell 5, d8 Y ((fun b o hlt => hb.cell (p := ⟨b, o, none⟩) hlt))⟩) (fun hHeld => ?_)
     clear hK K
     refine rdT1 (i := 8) (fun K hK => ?_)
     refine step_append_vals (by rfl) _ _ (by rfl) (O.out.now (fun q hq => (hb).block q hq)) (by rfl) N.out (by rfl) (HY.out.on0 HS.out hb).rd (fun q hq => ⟨Nat.lt_of_lt_of_le (HS.out q hq) (hb).size, fun e => by have := HS.out q hq; have := (O.out.now (fun q hq => (hb).block q hq)).lt q e; omega⟩) (by rw [HLK.out]; omega) (by have := R.out.here; omega) ?_
     intro v1 w1O2 hO1 hat hbB hkk
     obtain ⟨AqO2, cqO2, rfl⟩ := hO1.form
     try simp only [List.nil_append] at hO1 hat ⊢
     simp only [HLK2.out] at hO1 hat ⊢
     have hR2 := R.out.here
     obtain ⟨H2, hH⟩ : ∃ H, H = w1O1.heap.size := ⟨_, rfl⟩
     rw [← hH] at hat hR2
     clear hH
     have hZ2 : ∀ q, (Value.slice AqO2 (j + 1) cqO2).ownBlock = some q → q = gE ∨ q = H1 ∨ q = H2 := fun q h => by
      rcases hat with h2 | h2
      ·
       rw [h2] at h; have := hZ1 q h; omega
      rw [h2] at h; injection h with h; omega
     clear hat
     clear O
     clear N
     replace V := dG V hkk (fun hh => by have := hZ1 _ hh; omega)
     replace Y := dG Y hkk (fun hh => by have := hZ1 _ hh; omega)
     replace Z := dG Z hkk (fun hh => by have := hZ1 _ hh; omega)
     replace R := dG R hkk (fun hh => by have := hZ1 _ hh; omega)
     replace hb := hb.trans (hbB.mono (show w.heap.size ≤ w.heap.size + 4 by omega))
     have O := Lib.hid (OwnVals.kept0 hO1 (fun q hq => .inl (hq.elim (fun hq => hq.elim False.elim (HS.out q)) (HS.out q))) hb)
     clear hO1 hbB hkk hZ1
     try clear hHeld
     refine hK.out _ _ (⟨V.out.cell 5, d8 Y ((fun b o hlt => hb.cell (p := ⟨b, o, none⟩) hlt))⟩) (fun hHeld => ?_)
     clear hK K
     refine rdT1 (i := 13) (fun K hK => ?_)
     simp only [HOK.out]
     refine step_append_many (b := bk) (o := _) (cp := (c1 - j)) (ys := v.keys.drop j) (c := fun i => ck (j + i)) (by rfl) _ _ (by rfl) (O.out.now (fun q hq => (hb).block q hq)) (by rfl) (by rw [HLKD.out]; rfl) (HK2.out _ hb).1 (HK2.out _ hb).2 (fun q hq => ⟨Nat.lt_of_lt_of_le (HS.out q hq) (hb).size, fun e => by have := HS.out q hq; have := (O.out.now (fun q hq => (hb).block q hq)).lt q e; omega⟩) (by rw [HLK2.out, HLKD.out]; have := HN1.out; omega) (by have := R.out.here; omega) ?_
     intro v1 w1O3 hO1 hat hbB hkk
     obtain ⟨AqO, cqO, rfl⟩ := hO1.form
     simp only [HLK3.out] at hO1 ⊢
     clear hat
     clear O
     replace V := dG V hkk (fun hh => by have := hZ2 _ hh; omega)
     replace Y := dG Y hkk (fun hh => by have := hZ2 _ hh; omega)
     replace Z := dG Z hkk (fun hh => by have := hZ2 _ hh; omega)
     replace R := dG R hkk (fun hh => by have := hZ2 _ hh; omega)
     replace hb := hb.trans (hbB.mono (show w.heap.size ≤ w.heap.size + 4 by omega))
     have O := Lib.hid (OwnVals.kept0 hO1 (fun q hq => .inl (hq.elim (fun hq => hq.elim (fun hq => hq.elim False.elim (HS.out q)) (HS.out q)) (HS.out q))) hb)
     clear hO1 hbB hkk hZ2
     try clear hHeld
     refine hK.out _ _ (⟨V.out.cell 5, d8 Y ((fun b o hlt => hb.cell (p := ⟨b, o, none⟩) hlt))⟩) (fun hHeld => ?_)
     clear hK K
     refine tkT (i := 14) (v := ?k423) ?_
     simp only [put_laws2]
     refine rdTL (i := 15) (fun K hK => ?_)
     have cV_5 : w1O3.cell? ⟨w.heap.size, 5, none⟩ = some (.slice (some ⟨bk, ok, none⟩) v.keys.length c1) := V.out.cell 5
     have fV_5 := V.out.free 5
     go_simp
     clear cV_5 fV_5
     obtain ⟨wd424, hE425⟩ : ∃ ww, ww = w1O3.setCell ⟨w.heap.size, 5, none⟩ (.slice AqO (v.keys.length + 1) cqO) := ⟨_, rfl⟩
     rw [← hE425]
     replace Y := dF Y hE425 (by omega)
     replace Z := dF Z hE425 (by omega)
     replace R := dF R hE425 (by omega)
     replace V : Hid (Has wd424 (w.heap.size) 34 #[.int .i64 v.kind, .bool v.bool, .int .i64 v.num, .string ⟨v.str.toArray⟩, .int .i64 v.id, .slice AqO (v.keys.length + 1) cqO, .slice (some ⟨bi, oi, none⟩) v.items.length c2, .slice A3 v.rest.length c3]) := Lib.hid (by simpa using dS V hE425)
     replace O := kF O hE425 (by omega)
     replace hb := tF hb hE425 (by omega)
     clear hE425
     try clear hHeld
     refine hK.out _ _ ?_
     clear hK K
     refine wpAnyT_done (by kernel_rfl) ?_ _
     try clear hHeld
     go_wp2_with fail
     go_meet
     exact ⟨AqO, cqO, V.out, Y.out, Z.out, R.out, OwnVals.kept0 (O.out.now (fun q hq => (hb).block q hq)) (fun q hq => .inl (hq.elim (fun hq => hq.elim (fun hq => hq.elim False.elim (HS.out q)) (HS.out q)) (HS.out q))) hb, hb⟩
    skip
    go_simp
    obtain ⟨wd427, hE428⟩ : ∃ ww, ww = wd388.alloc (.cells #[.int .i64 k.kind, .bool k.bool, .int .i64 k.num, .string ⟨k.str.toArray⟩, .int .i64 k.id, .slice K1 k.keys.length d1, .slice K2 k.items.length d2, .slice K3 k.rest.length d3] 34) := ⟨_, rfl⟩
    rw [← hE428]
    have hb426 := aB hE428
    have N := aN hE428
    clear hE428
    have hl430 := V.out.here
    have hl431 := Y.out.here
    have hl432 := Z.out.here
    have hl433 := R.out.here
    have hl434 := hb.size
    replace V := dB V hb426
    replace Y := dB Y hb426
    replace Z := dB Z hb426
    replace R := dB R hb426
    replace hb := dT hb hb426
    clear hb426
    generalize wd388.heap.size = g429 at *
    try clear hHeld
    refine hK.out _ _ (⟨V.out.cell 5, d8 Y ((fun b o hlt => hb.cell (p := ⟨b, o, none⟩) hlt))⟩) (fun hHeld => ?_)
    clear hK K
    refine rdT1 (i := 0) (fun K hK => ?_)
    go_simp
    have hO0 := OwnVals.empty wd427 (w.heap.size + 4) (by have := R.out.here; omega)
    have hNE := N.out.here
    obtain ⟨gE, hgE⟩ : ∃ g, g = wd427.heap.size := ⟨_, rfl⟩
    rw [← hgE] at hO0 hNE
    have hb435 : Below wd427.heap.size wd427 (wd427.alloc (.cells #[] 34)) := (below_al (Below.refl _ _) (Nat.le_refl _) _)
    replace V := dB V hb435
    replace Y := dB Y hb435
    replace Z := dB Z hb435
    replace R := dB R hb435
    replace N := dB N hb435
    replace hb := dT hb hb435
    clear hb435
    generalize wd427.alloc (.cells #[] 34) = wd436 at *
    have hZE : ∀ q, (Value.slice (some ⟨gE, 0, none⟩) 0 0).ownBlock = some q → q = gE := fun q h => by injection h with h; exact h.symm
    have hgL := (hO0.lt gE rfl).1
    have hgU := (hO0.lt gE rfl).2
    have O := Lib.hid (OwnVals.kept0 hO0 (fun _ hq => hq.elim) hb)
    clear hO0
    simp only [← hgE]
    clear hgE
    try clear hHeld
    refine hK.out _ _ (⟨V.out.cell 5, d8 Y ((fun b o hlt => hb.cell (p := ⟨b, o, none⟩) hlt))⟩) (fun hHeld => ?_)
    clear hK K
    refine rdT1 (i := 5) (fun K hK => ?_)
    refine step_append_many (b := bk) (o := ok) (cp := c1) (ys := v.keys.take j) (c := ck) (by rfl) _ _ (by rfl) (O.out.now (fun q hq => (hb).block q hq)) (by rfl) (by rw [HLK.out]; rfl) (HK1.out _ hb).1 (HK1.out _ hb).2 (fun q hq => ⟨Nat.lt_of_lt_of_le (HS.out q hq) (hb).size, fun e => by have := HS.out q hq; have := (O.out.now (fun q hq => (hb).block q hq)).lt q e; omega⟩) (by rw [HLK.out]; simp; omega) (by have := R.out.here; omega) ?_
    intro v1 w1O1 hO1 hat hbB hkk
    obtain ⟨AqO1, cqO1, rfl⟩ := hO1.form
    try simp only [List.nil_append] at hO1 hat ⊢
    simp only [HLK.out] at hO1 hat ⊢
    have hR1 := R.out.here
    obtain ⟨H1, hH⟩ : ∃ H, H = wd436.heap.size := ⟨_, rfl⟩
    rw [← hH] at hat hR1
    clear hH
    have hZ1 : ∀ q, (Value.slice AqO1 (j) cqO1).ownBlock = some q → q = gE ∨ q = H1 ∨ q = H1 := fun q h => by
     rcases hat with h2 | h2
     ·
      rw [h2] at h; have := hZE q h; omega
     rw [h2] at h; injection h with h; omega
    clear hat
    clear O
    replace V := dG V hkk (fun hh => by have := hZE _ hh; omega)
    replace Y := dG Y hkk (fun hh => by have := hZE _ hh; omega)
    replace Z := dG Z hkk (fun hh => by have := hZE _ hh; omega)
    replace R := dG R hkk (fun hh => by have := hZE _ hh; omega)
    replace N := dG N hkk (fun hh => by have := hZE _ hh; omega)
    replace hb := hb.trans (hbB.mono (show w.heap.size ≤ w.heap.size + 4 by omega))
    have O := Lib.hid (OwnVals.kept0 hO1 (fun q hq => .inl (hq.elim False.elim (HS.out q))) hb)
    clear hO1 hbB hkk hZE
    try clear hHeld
    refine hK.out _ _ (⟨V.out.cell 5, d8 Y ((fun b o hlt => hb.cell (p := ⟨b, o, none⟩) hlt))⟩) (fun hHeld => ?_)
    clear hK K
    refine rdT1 (i := 8) (fun K hK => ?_)
    refine step_append_vals (by rfl) _ _ (by rfl) (O.out.now (fun q hq => (hb).block q hq)) (by rfl) N.out (by rfl) (HY.out.on0 HS.out hb).rd (fun q hq => ⟨Nat.lt_of_lt_of_le (HS.out q hq) (hb).size, fun e => by have := HS.out q hq; have := (O.out.now (fun q hq => (hb).block q hq)).lt q e; omega⟩) (by rw [HLK.out]; omega) (by have := R.out.here; omega) ?_
    intro v1 w1O2 hO1 hat hbB hkk
    obtain ⟨AqO2, cqO2, rfl⟩ := hO1.form
    try simp only [List.nil_append] at hO1 hat ⊢
    simp only [HLK2.out] at hO1 hat ⊢
    have hR2 := R.out.here
    obtain ⟨H2, hH⟩ : ∃ H, H = w1O1.heap.size := ⟨_, rfl⟩
    rw [← hH] at hat hR2
    clear hH
    have hZ2 : ∀ q, (Value.slice AqO2 (j + 1) cqO2).ownBlock = some q → q = gE ∨ q = H1 ∨ q = H2 := fun q h => by
     rcases hat with h2 | h2
     ·
      rw [h2] at h; have := hZ1 q h; omega
     rw [h2] at h; injection h with h; omega
    clear hat
    clear O
    clear N
    replace V := dG V hkk (fun hh => by have := hZ1 _ hh; omega)
    replace Y := dG Y hkk (fun hh => by have := hZ1 _ hh; omega)
    replace Z := dG Z hkk (fun hh => by have := hZ1 _ hh; omega)
    replace R := dG R hkk (fun hh => by have := hZ1 _ hh; omega)
    replace hb := hb.trans (hbB.mono (show w.heap.size ≤ w.heap.size + 4 by omega))
    have O := Lib.hid (OwnVals.kept0 hO1 (fun q hq => .inl (hq.elim (fun hq => hq.elim False.elim (HS.out q)) (HS.out q))) hb)
    clear hO1 hbB hkk hZ1
    try clear hHeld
    refine hK.out _ _ (⟨V.out.cell 5, d8 Y ((fun b o hlt => hb.cell (p := ⟨b, o, none⟩) hlt))⟩) (fun hHeld => ?_)
    clear hK K
    refine rdT1 (i := 13) (fun K hK => ?_)
    simp only [HOK.out]
    refine step_append_many (b := bk) (o := _) (cp := (c1 - j)) (ys := v.keys.drop j) (c := fun i => ck (j + i)) (by rfl) _ _ (by rfl) (O.out.now (fun q hq => (hb).block q hq)) (by rfl) (by rw [HLKD.out]; rfl) (HK2.out _ hb).1 (HK2.out _ hb).2 (fun q hq => ⟨Nat.lt_of_lt_of_le (HS.out q hq) (hb).size, fun e => by have := HS.out q hq; have := (O.out.now (fun q hq => (hb).block q hq)).lt q e; omega⟩) (by rw [HLK2.out, HLKD.out]; have := HN1.out; omega) (by have := R.out.here; omega) ?_
    intro v1 w1O3 hO1 hat hbB hkk
    obtain ⟨AqO, cqO, rfl⟩ := hO1.form
    simp only [HLK3.out] at hO1 ⊢
    clear hat
    clear O
    replace V := dG V hkk (fun hh => by have := hZ2 _ hh; omega)
    replace Y := dG Y hkk (fun hh => by have := hZ2 _ hh; omega)
    replace Z := dG Z hkk (fun hh => by have := hZ2 _ hh; omega)
    replace R := dG R hkk (fun hh => by have := hZ2 _ hh; omega)
    replace hb := hb.trans (hbB.mono (show w.heap.size ≤ w.heap.size + 4 by omega))
    have O := Lib.hid (OwnVals.kept0 hO1 (fun q hq => .inl (hq.elim (fun hq => hq.elim (fun hq => hq.elim False.elim (HS.out q)) (HS.out q)) (HS.out q))) hb)
    clear hO1 hbB hkk hZ2
    try clear hHeld
    refine hK.out _ _ (⟨V.out.cell 5, d8 Y ((fun b o hlt => hb.cell (p := ⟨b, o, none⟩) hlt))⟩) (fun hHeld => ?_)
    clear hK K
    refine tkT (i := 14) (v := ?k437) ?_
    simp only [put_laws2]
    refine rdTL (i := 15) (fun K hK => ?_)
    have cV_5 : w1O3.cell? ⟨w.heap.size, 5, none⟩ = some (.slice (some ⟨bk, ok, none⟩) v.keys.length c1) := V.out.cell 5
    have fV_5 := V.out.free 5
    go_simp
    clear cV_5 fV_5
    obtain ⟨wd438, hE439⟩ : ∃ ww, ww = w1O3.setCell ⟨w.heap.size, 5, none⟩ (.slice AqO (v.keys.length + 1) cqO) := ⟨_, rfl⟩
    rw [← hE439]
    replace Y := dF Y hE439 (by omega)
    replace Z := dF Z hE439 (by omega)
    replace R := dF R hE439 (by omega)
    replace V : Hid (Has wd438 (w.heap.size) 34 #[.int .i64 v.kind, .bool v.bool, .int .i64 v.num, .string ⟨v.str.toArray⟩, .int .i64 v.id, .slice AqO (v.keys.length + 1) cqO, .slice (some ⟨bi, oi, none⟩) v.items.length c2, .slice A3 v.rest.length c3]) := Lib.hid (by simpa using dS V hE439)
    replace O := kF O hE439 (by omega)
    replace hb := tF hb hE439 (by omega)
    clear hE439
    try clear hHeld
    refine hK.out _ _ ?_
    clear hK K
    refine wpAnyT_done (by kernel_rfl) ?_ _
    try clear hHeld
    go_wp2_with fail
    go_meet
    exact ⟨AqO, cqO, V.out, Y.out, Z.out, R.out, OwnVals.kept0 (O.out.now (fun q hq => (hb).block q hq)) (fun q hq => .inl (hq.elim (fun hq => hq.elim (fun hq => hq.elim False.elim (HS.out q)) (HS.out q)) (HS.out q))) hb, hb⟩
   case rest =>
    clear V Y Z R
    obtain ⟨AqO, cqO, V, Y, Z, R, hO, hb⟩ := hcut
    replace V := Lib.hid V
    replace Y := Lib.hid Y
    replace Z := Lib.hid Z
    replace R := Lib.hid R
    have O := Lib.hid (hO)
    clear hO
    obtain ⟨L7, hL1, hL2, hL3⟩ : ∃ L, wc.heap.size ≤ L ∧ w.heap.size + 4 ≤ L ∧ L ≤ wc.heap.size := ⟨wc.heap.size, Nat.le_refl _, by have := R.out.here; omega, Nat.le_refl _⟩
    have LL := Lib.hid ((show Kept (fun _ => True) wc L7 L7 from ⟨trivial, fun _ _ => trivial, hL3⟩))
    clear hL3
    go_upto_region 7 with fail
    go_cut [] from 56 to 70 (fun wx => ∃ (A : Option Addr) (c : Nat), Has wx w.heap.size 34 #[.int .i64 v.kind, .bool v.bool, .int .i64 v.num, .string ⟨v.str.toArray⟩, .int .i64 v.id, .slice AqO (v.keys.length + 1) cqO, .slice A (v.keys.length + 1) c, .slice A3 v.rest.length c3] ∧ Has wx (w.heap.size + 1) 34 #[.int .i64 k.kind, .bool k.bool, .int .i64 k.num, .string ⟨k.str.toArray⟩, .int .i64 k.id, .slice K1 k.keys.length d1, .slice K2 k.items.length d2, .slice K3 k.rest.length d3] ∧ Has wx (w.heap.size + 1 + 1) 34 #[.int .i64 t.kind, .bool t.bool, .int .i64 t.num, .string ⟨t.str.toArray⟩, .int .i64 t.id, .slice T1 t.keys.length e1, .slice T2 t.items.length e2, .slice T3 t.rest.length e3] ∧ Has wx (w.heap.size + 1 + 1 + 1) 34 #[.int .i64 0, .bool false, .int .i64 0, .string ⟨#[]⟩, .int .i64 0, .slice none 0 0, .slice none 0 0, .slice none 0 0] ∧ (OVs w (w.heap.size + 4) (fun b => ((False ∨ S b) ∨ S b) ∨ S b) (.slice AqO (v.keys.length + 1) cqO) (v.keys.take j ++ [k] ++ v.keys.drop j) wx ∧ OVs w L7 (fun b => ((False ∨ S b) ∨ S b) ∨ S b) (.slice A (v.keys.length + 1) c) (v.items.take j ++ [t] ++ v.items.drop j) wx) ∧ Below w.heap.size w wx)
    case first =>
     have cV_6 : wc.cell? ⟨w.heap.size, 6, none⟩ = some (.slice (some ⟨bi, oi, none⟩) v.items.length c2) := V.out.cell 6
     obtain ⟨cZ_0, cZ_1, cZ_2, cZ_3, cZ_4, cZ_5, cZ_6, cZ_7⟩ := Z.out.c8
     refine wp_region_T (S := (fun w' => w'.cell? ⟨w.heap.size, 6, none⟩ = some (.slice (some ⟨bi, oi, none⟩) v.items.length c2) ∧ w'.cell? ⟨w.heap.size + 1 + 1, 0, none⟩ = some (.int .i64 t.kind) ∧ w'.cell? ⟨w.heap.size + 1 + 1, 1, none⟩ = some (.bool t.bool) ∧ w'.cell? ⟨w.heap.size + 1 + 1, 2, none⟩ = some (.int .i64 t.num) ∧ w'.cell? ⟨w.heap.size + 1 + 1, 3, none⟩ = some (.string ⟨t.str.toArray⟩) ∧ w'.cell? ⟨w.heap.size + 1 + 1, 4, none⟩ = some (.int .i64 t.id) ∧ w'.cell? ⟨w.heap.size + 1 + 1, 5, none⟩ = some (.slice T1 t.keys.length e1) ∧ w'.cell? ⟨w.heap.size + 1 + 1, 6, none⟩ = some (.slice T2 t.items.length e2) ∧ w'.cell? ⟨w.heap.size + 1 + 1, 7, none⟩ = some (.slice T3 t.rest.length e3) ∧ (∀ (b o : Nat), b < w.heap.size → w'.cell? ⟨b, o, none⟩ = w.cell? ⟨b, o, none⟩))) (fun j => j == 15) (by kernel_rfl) ⟨cV_6, cZ_0, cZ_1, cZ_2, cZ_3, cZ_4, cZ_5, cZ_6, cZ_7, (fun b o hlt => hb.cell (p := ⟨b, o, none⟩) hlt)⟩ (fun hHeld => ?_)
     clear cV_6 cZ_0 cZ_1 cZ_2 cZ_3 cZ_4 cZ_5 cZ_6 cZ_7
     have hb440 : Below wc.heap.size wc (wc.drew) := (Below.refl _ _).drew
     replace V := dB V hb440
     replace Y := dB Y hb440
     replace Z := dB Z hb440
     replace R := dB R hb440
     replace O := dK O hb440
     replace LL := dK LL hb440
     replace hb := dT hb hb440
     clear hb440
     generalize wc.drew = wd441 at *
     refine tkT (i := 1) (v := ?k442) ?_
     simp only [put_laws2]
     refine tkT (i := 2) (v := ?k443) ?_
     simp only [put_laws2]
     refine tkT (i := 3) (v := ?k444) ?_
     simp only [put_laws2]
     refine tkT (i := 4) (v := ?k445) ?_
     simp only [put_laws2]
     refine tkT (i := 6) (v := ?k446) ?_
     simp only [put_laws2]
     refine tkT (i := 9) (v := ?k447) ?_
     simp only [put_laws2]
     refine tkT (i := 10) (v := ?k448) ?_
     simp only [put_laws2]
     refine tkT (i := 11) (v := ?k449) ?_
     simp only [put_laws2]
     refine tkT (i := 12) (v := ?k450) ?_
     simp only [put_laws2]
     refine wpAnyT_ready (rs := [0, 7]) (by kernel_rfl) (by simp) ?_
     refine AllReadyT.cons rfl (fun K hK => ?_) (AllReadyT.cons rfl (fun K hK => ?_) (AllReadyT.nil))
     ·
      skip
      go_simp
      have hO0 := OwnVals.empty wd441 (L7) (LL.out.le)
      skip
      obtain ⟨gE, hgE⟩ : ∃ g, g = wd441.heap.size := ⟨_, rfl⟩
      rw [← hgE] at hO0
      have hb451 : Below wd441.heap.size wd441 (wd441.alloc (.cells #[] 34)) := (below_al (Below.refl _ _) (Nat.le_refl _) _)
      replace V := dB V hb451
      replace Y := dB Y hb451
      replace Z := dB Z hb451
      replace R := dB R hb451
      replace O := dK O hb451
      replace LL := dK LL hb451
      replace hb := dT hb hb451
      clear hb451
      generalize wd441.alloc (.cells #[] 34) = wd452 at *
      have hZE : ∀ q, (Value.slice (some ⟨gE, 0, none⟩) 0 0).ownBlock = some q → q = gE := fun q h => by injection h with h; exact h.symm
      have hgL := (hO0.lt gE rfl).1
      have hgU := (hO0.lt gE rfl).2
      have P := Lib.hid (OwnVals.kept0 hO0 (fun _ hq => hq.elim) hb)
      clear hO0
      simp only [← hgE]
      clear hgE
      try clear hHeld
      refine hK.out _ _ (⟨V.out.cell 6, d8 Z ((fun b o hlt => hb.cell (p := ⟨b, o, none⟩) hlt))⟩) (fun hHeld => ?_)
      clear hK K
      refine wpAnyT_ready (rs := [5, 7]) (by kernel_rfl) (by simp) ?_
      refine AllReadyT.cons rfl (fun K hK => ?_) (AllReadyT.cons rfl (fun K hK => ?_) (AllReadyT.nil))
      ·
       skip
       refine step_append_many (b := bi) (o := oi) (cp := c2) (ys := v.items.take j) (c := ci) (by rfl) _ _ (by rfl) (P.out.now (fun q hq => (hb).block q hq)) (by rfl) (by rw [HLI.out]; rfl) (HI1.out _ hb).1 (HI1.out _ hb).2 (fun q hq => ⟨Nat.lt_of_lt_of_le (HS.out q hq) (hb).size, fun e => by have := HS.out q hq; have := (P.out.now (fun q hq => (hb).block q hq)).lt q e; omega⟩) (by rw [HLI.out]; simp; omega) (LL.out.le) ?_
       intro v1 w1P1 hO1 hat hbB hkk
       obtain ⟨AqP1, cqP1, rfl⟩ := hO1.form
       try simp only [List.nil_append] at hO1 hat ⊢
       simp only [HLI.out] at hO1 hat ⊢
       have hR1 := R.out.here
       obtain ⟨H1, hH⟩ : ∃ H, H = wd452.heap.size := ⟨_, rfl⟩
       rw [← hH] at hat hR1
       clear hH
       have hZ1 : ∀ q, (Value.slice AqP1 (j) cqP1).ownBlock = some q → q = gE ∨ q = H1 ∨ q = H1 := fun q h => by
        rcases hat with h2 | h2
        ·
         rw [h2] at h; have := hZE q h; omega
        rw [h2] at h; injection h with h; omega
       clear hat
       clear P
       replace V := dG V hkk (fun hh => by have := hZE _ hh; omega)
       replace Y := dG Y hkk (fun hh => by have := hZE _ hh; omega)
       replace Z := dG Z hkk (fun hh => by have := hZE _ hh; omega)
       replace R := dG R hkk (fun hh => by have := hZE _ hh; omega)
       replace O := Lib.hid (O.out.from0 hbB (show wc.heap.size ≤ L7 by omega))
       replace LL := Lib.hid (LL.out.from0 hbB (show L7 ≤ L7 by omega))
       replace hb := hb.trans (hbB.mono (show w.heap.size ≤ L7 by omega))
       have P := Lib.hid (OwnVals.kept0 hO1 (fun q hq => .inl (hq.elim False.elim (HS.out q))) hb)
       clear hO1 hbB hkk hZE
       try clear hHeld
       refine hK.out _ _ (⟨V.out.cell 6, d8 Z ((fun b o hlt => hb.cell (p := ⟨b, o, none⟩) hlt))⟩) (fun hHeld => ?_)
       clear hK K
       refine rdT1 (i := 7) (fun K hK => ?_)
       go_simp
       obtain ⟨wd454, hE455⟩ : ∃ ww, ww = w1P1.alloc (.cells #[.int .i64 t.kind, .bool t.bool, .int .i64 t.num, .string ⟨t.str.toArray⟩, .int .i64 t.id, .slice T1 t.keys.length e1, .slice T2 t.items.length e2, .slice T3 t.rest.length e3] 34) := ⟨_, rfl⟩
       rw [← hE455]
       have hb453 := aB hE455
       have N := aN hE455
       clear hE455
       have hl457 := V.out.here
       have hl458 := Y.out.here
       have hl459 := Z.out.here
       have hl460 := R.out.here
       have hl461 := O.out.le
       have hl462 := LL.out.le
       have hl463 := P.out.le
       have hl464 := hb.size
       replace V := dB V hb453
       replace Y := dB Y hb453
       replace Z := dB Z hb453
       replace R := dB R hb453
       replace O := dK O hb453
       replace LL := dK LL hb453
       replace P := dK P hb453
       replace hb := dT hb hb453
       clear hb453
       generalize w1P1.heap.size = g456 at *
       try clear hHeld
       refine hK.out _ _ (⟨V.out.cell 6, d8 Z ((fun b o hlt => hb.cell (p := ⟨b, o, none⟩) hlt))⟩) (fun hHeld => ?_)
       clear hK K
       refine rdT1 (i := 8) (fun K hK => ?_)
       refine step_append_vals (by rfl) _ _ (by rfl) (P.out.now (fun q hq => (hb).block q hq)) (by rfl) N.out (by rfl) (HZ.out.on0 HS.out hb).rd (fun q hq => ⟨Nat.lt_of_lt_of_le (HS.out q hq) (hb).size, fun e => by have := HS.out q hq; have := (P.out.now (fun q hq => (hb).block q hq)).lt q e; omega⟩) (by rw [HLI.out]; omega) (LL.out.le) ?_
       intro v1 w1P2 hO1 hat hbB hkk
       obtain ⟨AqP2, cqP2, rfl⟩ := hO1.form
       try simp only [List.nil_append] at hO1 hat ⊢
       simp only [HLI2.out] at hO1 hat ⊢
       have hR2 := R.out.here
       obtain ⟨H2, hH⟩ : ∃ H, H = wd454.heap.size := ⟨_, rfl⟩
       rw [← hH] at hat hR2
       clear hH
       have hZ2 : ∀ q, (Value.slice AqP2 (j + 1) cqP2).ownBlock = some q → q = gE ∨ q = H1 ∨ q = H2 := fun q h => by
        rcases hat with h2 | h2
        ·
         rw [h2] at h; have := hZ1 q h; omega
        rw [h2] at h; injection h with h; omega
       clear hat
       clear P
       clear N
       replace V := dG V hkk (fun hh => by have := hZ1 _ hh; omega)
       replace Y := dG Y hkk (fun hh => by have := hZ1 _ hh; omega)
       replace Z := dG Z hkk (fun hh => by have := hZ1 _ hh; omega)
       replace R := dG R hkk (fun hh => by have := hZ1 _ hh; omega)
       replace O := Lib.hid (O.out.from0 hbB (show wc.heap.size ≤ L7 by omega))
       replace LL := Lib.hid (LL.out.from0 hbB (show L7 ≤ L7 by omega))
       replace hb := hb.trans (hbB.mono (show w.heap.size ≤ L7 by omega))
       have P := Lib.hid (OwnVals.kept0 hO1 (fun q hq => .inl (hq.elim (fun hq => hq.elim False.elim (HS.out q)) (HS.out q))) hb)
       clear hO1 hbB hkk hZ1
       try clear hHeld
       refine hK.out _ _ (⟨V.out.cell 6, d8 Z ((fun b o hlt => hb.cell (p := ⟨b, o, none⟩) hlt))⟩) (fun hHeld => ?_)
       clear hK K
       refine rdT1 (i := 13) (fun K hK => ?_)
       simp only [HOI.out]
       refine step_append_many (b := bi) (o := _) (cp := (c2 - j)) (ys := v.items.drop j) (c := fun i => ci (j + i)) (by rfl) _ _ (by rfl) (P.out.now (fun q hq => (hb).block q hq)) (by rfl) (by rw [HLID.out]; rfl) (HI2.out _ hb).1 (HI2.out _ hb).2 (fun q hq => ⟨Nat.lt_of_lt_of_le (HS.out q hq) (hb).size, fun e => by have := HS.out q hq; have := (P.out.now (fun q hq => (hb).block q hq)).lt q e; omega⟩) (by rw [HLI2.out, HLID.out]; have := HN1.out; omega) (LL.out.le) ?_
       intro v1 w1P3 hO1 hat hbB hkk
       obtain ⟨AqP, cqP, rfl⟩ := hO1.form
       simp only [HLI3.out] at hO1 ⊢
       clear hat
       clear P
       replace V := dG V hkk (fun hh => by have := hZ2 _ hh; omega)
       replace Y := dG Y hkk (fun hh => by have := hZ2 _ hh; omega)
       replace Z := dG Z hkk (fun hh => by have := hZ2 _ hh; omega)
       replace R := dG R hkk (fun hh => by have := hZ2 _ hh; omega)
       replace O := Lib.hid (O.out.from0 hbB (show wc.heap.size ≤ L7 by omega))
       replace LL := Lib.hid (LL.out.from0 hbB (show L7 ≤ L7 by omega))
       replace hb := hb.trans (hbB.mono (show w.heap.size ≤ L7 by omega))
       have P := Lib.hid (OwnVals.kept0 hO1 (fun q hq => .inl (hq.elim (fun hq => hq.elim (fun hq => hq.elim False.elim (HS.out q)) (HS.out q)) (HS.out q))) hb)
       clear hO1 hbB hkk hZ2
       try clear hHeld
       refine hK.out _ _ (⟨V.out.cell 6, d8 Z ((fun b o hlt => hb.cell (p := ⟨b, o, none⟩) hlt))⟩) (fun hHeld => ?_)
       clear hK K
       refine tkT (i := 14) (v := ?k465) ?_
       simp only [put_laws2]
       refine rdTL (i := 15) (fun K hK => ?_)
       have cV_6 : w1P3.cell? ⟨w.heap.size, 6, none⟩ = some (.slice (some ⟨bi, oi, none⟩) v.items.length c2) := V.out.cell 6
       have fV_6 := V.out.free 6
       go_simp
       clear cV_6 fV_6
       obtain ⟨wd466, hE467⟩ : ∃ ww, ww = w1P3.setCell ⟨w.heap.size, 6, none⟩ (.slice AqP (v.keys.length + 1) cqP) := ⟨_, rfl⟩
       rw [← hE467]
       replace Y := dF Y hE467 (by omega)
       replace Z := dF Z hE467 (by omega)
       replace R := dF R hE467 (by omega)
       replace V : Hid (Has wd466 (w.heap.size) 34 #[.int .i64 v.kind, .bool v.bool, .int .i64 v.num, .string ⟨v.str.toArray⟩, .int .i64 v.id, .slice AqO (v.keys.length + 1) cqO, .slice AqP (v.keys.length + 1) cqP, .slice A3 v.rest.length c3]) := Lib.hid (by simpa using dS V hE467)
       replace O := kF O hE467 (by omega)
       replace LL := kF LL hE467 (by omega)
       replace P := kF P hE467 (by omega)
       replace hb := tF hb hE467 (by omega)
       clear hE467
       try clear hHeld
       refine hK.out _ _ ?_
       clear hK K
       refine wpAnyT_done (by kernel_rfl) ?_ _
       try clear hHeld
       go_wp2_with fail
       go_meet
       exact ⟨AqP, cqP, V.out, Y.out, Z.out, R.out, ⟨O.out.now, P.out.now⟩, hb⟩
      skip
      go_simp
      obtain ⟨wd469, hE470⟩ : ∃ ww, ww = wd452.alloc (.cells #[.int .i64 t.kind, .bool t.bool, .int .i64 t.num, .string ⟨t.str.toArray⟩, .int .i64 t.id, .slice T1 t.keys.length e1, .slice T2 t.items.length e2, .slice T3 t.rest.length e3] 34) := ⟨_, rfl⟩
      rw [← hE470]
      have hb468 := aB hE470
      have N := aN hE470
      clear hE470
      have hl472 := V.out.here
      have hl473 := Y.out.here
      have hl474 := Z.out.here
      have hl475 := R.out.here
      have hl476 := O.out.le
      have hl477 := LL.out.le
      have hl478 := P.out.le
      have hl479 := hb.size
      replace V := dB V hb468
      replace Y := dB Y hb468
      replace Z := dB Z hb468
      replace R := dB R hb468
      replace O := dK O hb468
      replace LL := dK LL hb468
      replace P := dK P hb468
      replace hb := dT hb hb468
      clear hb468
      generalize wd452.heap.size = g471 at *
      try clear hHeld
      refine hK.out _ _ (⟨V.out.cell 6, d8 Z ((fun b o hlt => hb.cell (p := ⟨b, o, none⟩) hlt))⟩) (fun hHeld => ?_)
      clear hK K
      refine rdT1 (i := 5) (fun K hK => ?_)
      refine step_append_many (b := bi) (o := oi) (cp := c2) (ys := v.items.take j) (c := ci) (by rfl) _ _ (by rfl) (P.out.now (fun q hq => (hb).block q hq)) (by rfl) (by rw [HLI.out]; rfl) (HI1.out _ hb).1 (HI1.out _ hb).2 (fun q hq => ⟨Nat.lt_of_lt_of_le (HS.out q hq) (hb).size, fun e => by have := HS.out q hq; have := (P.out.now (fun q hq => (hb).block q hq)).lt q e; omega⟩) (by rw [HLI.out]; simp; omega) (LL.out.le) ?_
      intro v1 w1P1 hO1 hat hbB hkk
      obtain ⟨AqP1, cqP1, rfl⟩ := hO1.form
      try simp only [List.nil_append] at hO1 hat ⊢
      simp only [HLI.out] at hO1 hat ⊢
      have hR1 := R.out.here
      obtain ⟨H1, hH⟩ : ∃ H, H = wd469.heap.size := ⟨_, rfl⟩
      rw [← hH] at hat hR1
      clear hH
      have hZ1 : ∀ q, (Value.slice AqP1 (j) cqP1).ownBlock = some q → q = gE ∨ q = H1 ∨ q = H1 := fun q h => by
       rcases hat with h2 | h2
       ·
        rw [h2] at h; have := hZE q h; omega
       rw [h2] at h; injection h with h; omega
      clear hat
      clear P
      replace V := dG V hkk (fun hh => by have := hZE _ hh; omega)
      replace Y := dG Y hkk (fun hh => by have := hZE _ hh; omega)
      replace Z := dG Z hkk (fun hh => by have := hZE _ hh; omega)
      replace R := dG R hkk (fun hh => by have := hZE _ hh; omega)
      replace N := dG N hkk (fun hh => by have := hZE _ hh; omega)
      replace O := Lib.hid (O.out.from0 hbB (show wc.heap.size ≤ L7 by omega))
      replace LL := Lib.hid (LL.out.from0 hbB (show L7 ≤ L7 by omega))
      replace hb := hb.trans (hbB.mono (show w.heap.size ≤ L7 by omega))
      have P := Lib.hid (OwnVals.kept0 hO1 (fun q hq => .inl (hq.elim False.elim (HS.out q))) hb)
      clear hO1 hbB hkk hZE
      try clear hHeld
      refine hK.out _ _ (⟨V.out.cell 6, d8 Z ((fun b o hlt => hb.cell (p := ⟨b, o, none⟩) hlt))⟩) (fun hHeld => ?_)
      clear hK K
      refine rdT1 (i := 8) (fun K hK => ?_)
      refine step_append_vals (by rfl) _ _ (by rfl) (P.out.now (fun q hq => (hb).block q hq)) (by rfl) N.out (by rfl) (HZ.out.on0 HS.out hb).rd (fun q hq => ⟨Nat.lt_of_lt_of_le (HS.out q hq) (hb).size, fun e => by have := HS.out q hq; have := (P.out.now (fun q hq => (hb).block q hq)).lt q e; omega⟩) (by rw [HLI.out]; omega) (LL.out.le) ?_
      intro v1 w1P2 hO1 hat hbB hkk
      obtain ⟨AqP2, cqP2, rfl⟩ := hO1.form
      try simp only [List.nil_append] at hO1 hat ⊢
      simp only [HLI2.out] at hO1 hat ⊢
      have hR2 := R.out.here
      obtain ⟨H2, hH⟩ : ∃ H, H = w1P1.heap.size := ⟨_, rfl⟩
      rw [← hH] at hat hR2
      clear hH
      have hZ2 : ∀ q, (Value.slice AqP2 (j + 1) cqP2).ownBlock = some q → q = gE ∨ q = H1 ∨ q = H2 := fun q h => by
       rcases hat with h2 | h2
       ·
        rw [h2] at h; have := hZ1 q h; omega
       rw [h2] at h; injection h with h; omega
      clear hat
      clear P
      clear N
      replace V := dG V hkk (fun hh => by have := hZ1 _ hh; omega)
      replace Y := dG Y hkk (fun hh => by have := hZ1 _ hh; omega)
      replace Z := dG Z hkk (fun hh => by have := hZ1 _ hh; omega)
      replace R := dG R hkk (fun hh => by have := hZ1 _ hh; omega)
      replace O := Lib.hid (O.out.from0 hbB (show wc.heap.size ≤ L7 by omega))
      replace LL := Lib.hid (LL.out.from0 hbB (show L7 ≤ L7 by omega))
      replace hb := hb.trans (hbB.mono (show w.heap.size ≤ L7 by omega))
      have P := Lib.hid (OwnVals.kept0 hO1 (fun q hq => .inl (hq.elim (fun hq => hq.elim False.elim (HS.out q)) (HS.out q))) hb)
      clear hO1 hbB hkk hZ1
      try clear hHeld
      refine hK.out _ _ (⟨V.out.cell 6, d8 Z ((fun b o hlt => hb.cell (p := ⟨b, o, none⟩) hlt))⟩) (fun hHeld => ?_)
      clear hK K
      refine rdT1 (i := 13) (fun K hK => ?_)
      simp only [HOI.out]
      refine step_append_many (b := bi) (o := _) (cp := (c2 - j)) (ys := v.items.drop j) (c := fun i => ci (j + i)) (by rfl) _ _ (by rfl) (P.out.now (fun q hq => (hb).block q hq)) (by rfl) (by rw [HLID.out]; rfl) (HI2.out _ hb).1 (HI2.out _ hb).2 (fun q hq => ⟨Nat.lt_of_lt_of_le (HS.out q hq) (hb).size, fun e => by have := HS.out q hq; have := (P.out.now (fun q hq => (hb).block q hq)).lt q e; omega⟩) (by rw [HLI2.out, HLID.out]; have := HN1.out; omega) (LL.out.le) ?_
      intro v1 w1P3 hO1 hat hbB hkk
      obtain ⟨AqP, cqP, rfl⟩ := hO1.form
      simp only [HLI3.out] at hO1 ⊢
      clear hat
      clear P
      replace V := dG V hkk (fun hh => by have := hZ2 _ hh; omega)
      replace Y := dG Y hkk (fun hh => by have := hZ2 _ hh; omega)
      replace Z := dG Z hkk (fun hh => by have := hZ2 _ hh; omega)
      replace R := dG R hkk (fun hh => by have := hZ2 _ hh; omega)
      replace O := Lib.hid (O.out.from0 hbB (show wc.heap.size ≤ L7 by omega))
      replace LL := Lib.hid (LL.out.from0 hbB (show L7 ≤ L7 by omega))
      replace hb := hb.trans (hbB.mono (show w.heap.size ≤ L7 by omega))
      have P := Lib.hid (OwnVals.kept0 hO1 (fun q hq => .inl (hq.elim (fun hq => hq.elim (fun hq => hq.elim False.elim (HS.out q)) (HS.out q)) (HS.out q))) hb)
      clear hO1 hbB hkk hZ2
      try clear hHeld
      refine hK.out _ _ (⟨V.out.cell 6, d8 Z ((fun b o hlt => hb.cell (p := ⟨b, o, none⟩) hlt))⟩) (fun hHeld => ?_)
      clear hK K
      refine tkT (i := 14) (v := ?k480) ?_
      simp only [put_laws2]
      refine rdTL (i := 15) (fun K hK => ?_)
      have cV_6 : w1P3.cell? ⟨w.heap.size, 6, none⟩ = some (.slice (some ⟨bi, oi, none⟩) v.items.length c2) := V.out.cell 6
      have fV_6 := V.out.free 6
      go_simp
      clear cV_6 fV_6
      obtain ⟨wd481, hE482⟩ : ∃ ww, ww = w1P3.setCell ⟨w.heap.size, 6, none⟩ (.slice AqP (v.keys.length + 1) cqP) := ⟨_, rfl⟩
      rw [← hE482]
      replace Y := dF Y hE482 (by omega)
      replace Z := dF Z hE482 (by omega)
      replace R := dF R hE482 (by omega)
      replace V : Hid (Has wd481 (w.heap.size) 34 #[.int .i64 v.kind, .bool v.bool, .int .i64 v.num, .string ⟨v.str.toArray⟩, .int .i64 v.id, .slice AqO (v.keys.length + 1) cqO, .slice AqP (v.keys.length + 1) cqP, .slice A3 v.rest.length c3]) := Lib.hid (by simpa using dS V hE482)
      replace O := kF O hE482 (by omega)
      replace LL := kF LL hE482 (by omega)
      replace P := kF P hE482 (by omega)
      replace hb := tF hb hE482 (by omega)
      clear hE482
      try clear hHeld
      refine hK.out _ _ ?_
      clear hK K
      refine wpAnyT_done (by kernel_rfl) ?_ _
      try clear hHeld
      go_wp2_with fail
      go_meet
      exact ⟨AqP, cqP, V.out, Y.out, Z.out, R.out, ⟨O.out.now, P.out.now⟩, hb⟩
     skip
     go_simp
     obtain ⟨wd484, hE485⟩ : ∃ ww, ww = wd441.alloc (.cells #[.int .i64 t.kind, .bool t.bool, .int .i64 t.num, .string ⟨t.str.toArray⟩, .int .i64 t.id, .slice T1 t.keys.length e1, .slice T2 t.items.length e2, .slice T3 t.rest.length e3] 34) := ⟨_, rfl⟩
     rw [← hE485]
     have hb483 := aB hE485
     have N := aN hE485
     clear hE485
     have hl487 := V.out.here
     have hl488 := Y.out.here
     have hl489 := Z.out.here
     have hl490 := R.out.here
     have hl491 := O.out.le
     have hl492 := LL.out.le
     have hl493 := hb.size
     replace V := dB V hb483
     replace Y := dB Y hb483
     replace Z := dB Z hb483
     replace R := dB R hb483
     replace O := dK O hb483
     replace LL := dK LL hb483
     replace hb := dT hb hb483
     clear hb483
     generalize wd441.heap.size = g486 at *
     try clear hHeld
     refine hK.out _ _ (⟨V.out.cell 6, d8 Z ((fun b o hlt => hb.cell (p := ⟨b, o, none⟩) hlt))⟩) (fun hHeld => ?_)
     clear hK K
     refine rdT1 (i := 0) (fun K hK => ?_)
     go_simp
     have hO0 := OwnVals.empty wd484 (L7) (LL.out.le)
     have hNE := N.out.here
     obtain ⟨gE, hgE⟩ : ∃ g, g = wd484.heap.size := ⟨_, rfl⟩
     rw [← hgE] at hO0 hNE
     have hb494 : Below wd484.heap.size wd484 (wd484.alloc (.cells #[] 34)) := (below_al (Below.refl _ _) (Nat.le_refl _) _)
     replace V := dB V hb494
     replace Y := dB Y hb494
     replace Z := dB Z hb494
     replace R := dB R hb494
     replace N := dB N hb494
     replace O := dK O hb494
     replace LL := dK LL hb494
     replace hb := dT hb hb494
     clear hb494
     generalize wd484.alloc (.cells #[] 34) = wd495 at *
     have hZE : ∀ q, (Value.slice (some ⟨gE, 0, none⟩) 0 0).ownBlock = some q → q = gE := fun q h => by injection h with h; exact h.symm
     have hgL := (hO0.lt gE rfl).1
     have hgU := (hO0.lt gE rfl).2
     have P := Lib.hid (OwnVals.kept0 hO0 (fun _ hq => hq.elim) hb)
     clear hO0
     simp only [← hgE]
     clear hgE
     try clear hHeld
     refine hK.out _ _ (⟨V.out.cell 6, d8 Z ((fun b o hlt => hb.cell (p := ⟨b, o, none⟩) hlt))⟩) (fun hHeld => ?_)
     clear hK K
     refine rdT1 (i := 5) (fun K hK => ?_)
     refine step_append_many (b := bi) (o := oi) (cp := c2) (ys := v.items.take j) (c := ci) (by rfl) _ _ (by rfl) (P.out.now (fun q hq => (hb).block q hq)) (by rfl) (by rw [HLI.out]; rfl) (HI1.out _ hb).1 (HI1.out _ hb).2 (fun q hq => ⟨Nat.lt_of_lt_of_le (HS.out q hq) (hb).size, fun e => by have := HS.out q hq; have := (P.out.now (fun q hq => (hb).block q hq)).lt q e; omega⟩) (by rw [HLI.out]; simp; omega) (LL.out.le) ?_
     intro v1 w1P1 hO1 hat hbB hkk
     obtain ⟨AqP1, cqP1, rfl⟩ := hO1.form
     try simp only [List.nil_append] at hO1 hat ⊢
     simp only [HLI.out] at hO1 hat ⊢
     have hR1 := R.out.here
     obtain ⟨H1, hH⟩ : ∃ H, H = wd495.heap.size := ⟨_, rfl⟩
     rw [← hH] at hat hR1
     clear hH
     have hZ1 : ∀ q, (Value.slice AqP1 (j) cqP1).ownBlock = some q → q = gE ∨ q = H1 ∨ q = H1 := fun q h => by
      rcases hat with h2 | h2
      ·
       rw [h2] at h; have := hZE q h; omega
      rw [h2] at h; injection h with h; omega
     clear hat
     clear P
     replace V := dG V hkk (fun hh => by have := hZE _ hh; omega)
     replace Y := dG Y hkk (fun hh => by have := hZE _ hh; omega)
     replace Z := dG Z hkk (fun hh => by have := hZE _ hh; omega)
     replace R := dG R hkk (fun hh => by have := hZE _ hh; omega)
     replace N := dG N hkk (fun hh => by have := hZE _ hh; omega)
     replace O := Lib.hid (O.out.from0 hbB (show wc.heap.size ≤ L7 by omega))
     replace LL := Lib.hid (LL.out.from0 hbB (show L7 ≤ L7 by omega))
     replace hb := hb.trans (hbB.mono (show w.heap.size ≤ L7 by omega))
     have P := Lib.hid (OwnVals.kept0 hO1 (fun q hq => .inl (hq.elim False.elim (HS.out q))) hb)
     clear hO1 hbB hkk hZE
     try clear hHeld
     refine hK.out _ _ (⟨V.out.cell 6, d8 Z ((fun b o hlt => hb.cell (p := ⟨b, o, none⟩) hlt))⟩) (fun hHeld => ?_)
     clear hK K
     refine rdT1 (i := 8) (fun K hK => ?_)
     refine step_append_vals (by rfl) _ _ (by rfl) (P.out.now (fun q hq => (hb).block q hq)) (by rfl) N.out (by rfl) (HZ.out.on0 HS.out hb).rd (fun q hq => ⟨Nat.lt_of_lt_of_le (HS.out q hq) (hb).size, fun e => by have := HS.out q hq; have := (P.out.now (fun q hq => (hb).block q hq)).lt q e; omega⟩) (by rw [HLI.out]; omega) (LL.out.le) ?_
     intro v1 w1P2 hO1 hat hbB hkk
     obtain ⟨AqP2, cqP2, rfl⟩ := hO1.form
     try simp only [List.nil_append] at hO1 hat ⊢
     simp only [HLI2.out] at hO1 hat ⊢
     have hR2 := R.out.here
     obtain ⟨H2, hH⟩ : ∃ H, H = w1P1.heap.size := ⟨_, rfl⟩
     rw [← hH] at hat hR2
     clear hH
     have hZ2 : ∀ q, (Value.slice AqP2 (j + 1) cqP2).ownBlock = some q → q = gE ∨ q = H1 ∨ q = H2 := fun q h => by
      rcases hat with h2 | h2
      ·
       rw [h2] at h; have := hZ1 q h; omega
      rw [h2] at h; injection h with h; omega
     clear hat
     clear P
     clear N
     replace V := dG V hkk (fun hh => by have := hZ1 _ hh; omega)
     replace Y := dG Y hkk (fun hh => by have := hZ1 _ hh; omega)
     replace Z := dG Z hkk (fun hh => by have := hZ1 _ hh; omega)
     replace R := dG R hkk (fun hh => by have := hZ1 _ hh; omega)
     replace O := Lib.hid (O.out.from0 hbB (show wc.heap.size ≤ L7 by omega))
     replace LL := Lib.hid (LL.out.from0 hbB (show L7 ≤ L7 by omega))
     replace hb := hb.trans (hbB.mono (show w.heap.size ≤ L7 by omega))
     have P := Lib.hid (OwnVals.kept0 hO1 (fun q hq => .inl (hq.elim (fun hq => hq.elim False.elim (HS.out q)) (HS.out q))) hb)
     clear hO1 hbB hkk hZ1
     try clear hHeld
     refine hK.out _ _ (⟨V.out.cell 6, d8 Z ((fun b o hlt => hb.cell (p := ⟨b, o, none⟩) hlt))⟩) (fun hHeld => ?_)
     clear hK K
     refine rdT1 (i := 13) (fun K hK => ?_)
     simp only [HOI.out]
     refine step_append_many (b := bi) (o := _) (cp := (c2 - j)) (ys := v.items.drop j) (c := fun i => ci (j + i)) (by rfl) _ _ (by rfl) (P.out.now (fun q hq => (hb).block q hq)) (by rfl) (by rw [HLID.out]; rfl) (HI2.out _ hb).1 (HI2.out _ hb).2 (fun q hq => ⟨Nat.lt_of_lt_of_le (HS.out q hq) (hb).size, fun e => by have := HS.out q hq; have := (P.out.now (fun q hq => (hb).block q hq)).lt q e; omega⟩) (by rw [HLI2.out, HLID.out]; have := HN1.out; omega) (LL.out.le) ?_
     intro v1 w1P3 hO1 hat hbB hkk
     obtain ⟨AqP, cqP, rfl⟩ := hO1.form
     simp only [HLI3.out] at hO1 ⊢
     clear hat
     clear P
     replace V := dG V hkk (fun hh => by have := hZ2 _ hh; omega)
     replace Y := dG Y hkk (fun hh => by have := hZ2 _ hh; omega)
     replace Z := dG Z hkk (fun hh => by have := hZ2 _ hh; omega)
     replace R := dG R hkk (fun hh => by have := hZ2 _ hh; omega)
     replace O := Lib.hid (O.out.from0 hbB (show wc.heap.size ≤ L7 by omega))
     replace LL := Lib.hid (LL.out.from0 hbB (show L7 ≤ L7 by omega))
     replace hb := hb.trans (hbB.mono (show w.heap.size ≤ L7 by omega))
     have P := Lib.hid (OwnVals.kept0 hO1 (fun q hq => .inl (hq.elim (fun hq => hq.elim (fun hq => hq.elim False.elim (HS.out q)) (HS.out q)) (HS.out q))) hb)
     clear hO1 hbB hkk hZ2
     try clear hHeld
     refine hK.out _ _ (⟨V.out.cell 6, d8 Z ((fun b o hlt => hb.cell (p := ⟨b, o, none⟩) hlt))⟩) (fun hHeld => ?_)
     clear hK K
     refine tkT (i := 14) (v := ?k496) ?_
     simp only [put_laws2]
     refine rdTL (i := 15) (fun K hK => ?_)
     have cV_6 : w1P3.cell? ⟨w.heap.size, 6, none⟩ = some (.slice (some ⟨bi, oi, none⟩) v.items.length c2) := V.out.cell 6
     have fV_6 := V.out.free 6
     go_simp
     clear cV_6 fV_6
     obtain ⟨wd497, hE498⟩ : ∃ ww, ww = w1P3.setCell ⟨w.heap.size, 6, none⟩ (.slice AqP (v.keys.length + 1) cqP) := ⟨_, rfl⟩
     rw [← hE498]
     replace Y := dF Y hE498 (by omega)
     replace Z := dF Z hE498 (by omega)
     replace R := dF R hE498 (by omega)
     replace V : Hid (Has wd497 (w.heap.size) 34 #[.int .i64 v.kind, .bool v.bool, .int .i64 v.num, .string ⟨v.str.toArray⟩, .int .i64 v.id, .slice AqO (v.keys.length + 1) cqO, .slice AqP (v.keys.length + 1) cqP, .slice A3 v.rest.length c3]) := Lib.hid (by simpa using dS V hE498)
     replace O := kF O hE498 (by omega)
     replace LL := kF LL hE498 (by omega)
     replace P := kF P hE498 (by omega)
     replace hb := tF hb hE498 (by omega)
     clear hE498
     try clear hHeld
     refine hK.out _ _ ?_
     clear hK K
     refine wpAnyT_done (by kernel_rfl) ?_ _
     try clear hHeld
     go_wp2_with fail
     go_meet
     exact ⟨AqP, cqP, V.out, Y.out, Z.out, R.out, ⟨O.out.now, P.out.now⟩, hb⟩
    case rest =>
     clear V Y Z R O LL
     obtain ⟨AqP, cqP, V, Y, Z, R, ⟨hO, hP⟩, hb⟩ := hcut
     replace V := Lib.hid V
     replace R := Lib.hid R
     have O := Lib.hid (OwnVals.kept0 (hO (fun q hq => (hb).block q hq)) (fun q hq => .inl (hq.elim (fun hq => hq.elim (fun hq => hq.elim False.elim (HS.out q)) (HS.out q)) (HS.out q))) hb)
     have P := Lib.hid (OwnVals.kept0 (OwnVals.low (hP (fun q hq => (hb).block q hq)) hL2) (fun q hq => .inl (hq.elim (fun hq => hq.elim (fun hq => hq.elim False.elim (HS.out q)) (HS.out q)) (HS.out q))) hb)
     clear hO hP hL1 hL2
     obtain ⟨cV_0, cV_1, cV_2, cV_3, cV_4, cV_5, cV_6, cV_7⟩ := V.out.c8
     go_upto_region 8 with fail
     go_wp2_with (refine wpList_store_row rfl 34 _ _ rfl (w.heap.size + 1 + 1 + 1) _ rfl rfl 34 _ R.out (by kernel_rfl) rfl (by simp [Value.oneCell']) ?_)
     clear cV_0 cV_1 cV_2 cV_3 cV_4 cV_5 cV_6 cV_7
     obtain ⟨wd499, hE500⟩ : ∃ ww, ww = wc.setRow (w.heap.size + 1 + 1 + 1) #[.int .i64 v.kind, .bool v.bool, .int .i64 v.num, .string ⟨v.str.toArray⟩, .int .i64 v.id, .slice AqO (v.keys.length + 1) cqO, .slice AqP (v.keys.length + 1) cqP, .slice A3 v.rest.length c3] := ⟨_, rfl⟩
     rw [← hE500]
     replace V := dR V hE500 (by omega)
     replace R := dO R hE500
     replace O := kR O hE500 (by omega)
     replace P := kR P hE500 (by omega)
     replace hb := tR hb hE500 (by omega)
     clear hE500
     obtain ⟨cR_0, cR_1, cR_2, cR_3, cR_4, cR_5, cR_6, cR_7⟩ := R.out.c8
     exact bodyPost_ret (v := .agg #[.int .i64 v.kind, .bool v.bool, .int .i64 v.num, .string ⟨v.str.toArray⟩, .int .i64 v.id, .slice AqO (v.keys.length + 1) cqO, .slice AqP (v.keys.length + 1) cqP, .slice A3 v.rest.length c3]) (by simp [results, Try.results68, go_sem, cR_0, cR_1, cR_2, cR_3, cR_4, cR_5, cR_6, cR_7]) rfl (⟨_, _, _, by rw [Hp.out]; rfl, by rw [Hp.out]; exact putP (HV.out.on0 HS.out hb) (O.out.now (fun q hq => (hb).block q hq)) (P.out.now (fun q hq => (hb).block q hq)) (by omega) (by omega) (fun q hq => hq.elim (fun hq => hq.elim (fun hq => hq.elim False.elim id) id) id) (fun q hq => hq.elim (fun hq => hq.elim (fun hq => hq.elim False.elim id) id) id) (by simp only [List.length_append, List.length_take, List.length_drop, List.length_singleton]; have := HN1.out; omega), hb⟩)
  have hjE : j = v.keys.length := by omega
  have hd1 : decide ((j : Int) < v.keys.length) = false := decide_eq_false (by omega)
  have hd2 : ¬ (j : Int) < v.keys.length := by omega
  have hl0 : lowI v.keys k = j := by have := lowI_end k v.keys (by omega); omega
  have Hp : Hid (putV v k t = .mk v.kind v.bool v.num v.str v.id (v.keys.take j ++ [k] ++ v.keys.drop j) (v.items.take j ++ [t] ++ v.items.drop j) v.rest) := by show _ = _; unfold putV; rw [hl0, hjE, List.getElem?_eq_none (Nat.le_refl _)]; simp
  have hj0 : (0 : Int) ≤ (j : Int) := by omega
  clear hl0
  have HLK : Hid ((v.keys.take j).length = j) := by show _ = _; rw [List.length_take]; omega
  have HLK2 : Hid ((v.keys.take j ++ [k]).length = j + 1) := by show _ = _; rw [List.length_append, HLK.out]; rfl
  have HLKD : Hid ((v.keys.drop j).length = v.keys.length - j) := by show _ = _; rw [List.length_drop]
  have HLK3 : Hid ((v.keys.take j ++ [k] ++ v.keys.drop j).length = v.keys.length + 1) := by show _ = _; rw [List.length_append, HLK2.out, HLKD.out]; omega
  have HLI : Hid ((v.items.take j).length = j) := by show _ = _; have := HN1.out; rw [List.length_take]; omega
  have HLI2 : Hid ((v.items.take j ++ [t]).length = j + 1) := by show _ = _; rw [List.length_append, HLI.out]; rfl
  have HLID : Hid ((v.items.drop j).length = v.items.length - j) := by show _ = _; rw [List.length_drop]
  have HLI3 : Hid ((v.items.take j ++ [t] ++ v.items.drop j).length = v.keys.length + 1) := by show _ = _; have := HN1.out; rw [List.length_append, HLI2.out, HLID.out]; omega
  have HK1 := Lib.hid (fun W h => part1 hbkl HS.out HCK.out HRK.out j W h)
  have HI1 := Lib.hid (fun W h => part1 hbil HS.out HCI.out HRI.out j W h)
  obtain ⟨ok2, hok, hok2⟩ : ∃ q : Nat, (if c1 = j then some (⟨bk, ok, none⟩ : Addr) else some ⟨bk, ok + j * 8, none⟩) = some ⟨bk, q, none⟩ ∧ (q = ok + j * 8 ∨ v.keys.length ≤ j) := by
   split
   ·
    exact ⟨_, rfl, .inr (by omega)⟩
   exact ⟨_, rfl, .inl rfl⟩
  obtain ⟨oi2, hoi, hoi2⟩ : ∃ q : Nat, (if c2 = j then some (⟨bi, oi, none⟩ : Addr) else some ⟨bi, oi + j * 8, none⟩) = some ⟨bi, q, none⟩ ∧ (q = oi + j * 8 ∨ v.items.length ≤ j) := by
   split
   ·
    exact ⟨_, rfl, .inr (by have := HN1.out; omega)⟩
   exact ⟨_, rfl, .inl rfl⟩
  have HOK := Lib.hid hok
  have HOI := Lib.hid hoi
  have HK2 := Lib.hid (fun W h => part2 hbkl HS.out HCK.out HRK.out j ok2 hok2 W h)
  have HI2 := Lib.hid (fun W h => part2 hbil HS.out HCI.out HRI.out j oi2 hoi2 W h)
  clear hok hoi hok2 hoi2
  have hjc1 : (j : Int) ≤ c1 := by omega
  have hjc2 : (j : Int) ≤ c2 := by have := HN1.out; omega
  have hjx : (j : Int) ≤ v.keys.length := by omega
  have hji : (j : Int) ≤ v.items.length := by have := HN1.out; omega
  clear hjE
  go_upto_region 2 with fail
  have cV_5 : wr.cell? ⟨w.heap.size, 5, none⟩ = some (.slice (some ⟨bk, ok, none⟩) v.keys.length c1) := V.out.cell 5
  refine wp_region_held_drew (S := (fun w' => w'.cell? ⟨w.heap.size, 5, none⟩ = some (.slice (some ⟨bk, ok, none⟩) v.keys.length c1))) (by kernel_rfl) cV_5 (fun hHeld => ?_)
  clear cV_5
  have hb501 : Below wr.heap.size wr (wr.drew) := (Below.refl _ _).drew
  replace V := dB V hb501
  replace Y := dB Y hb501
  replace Z := dB Z hb501
  replace R := dB R hb501
  replace hb := dT hb hb501
  clear hb501
  generalize wr.drew = wd502 at *
  refine tk (i := 0) (v := ?k503) ?_
  simp only [put_laws2]
  refine tk (i := 1) (v := ?k504) ?_
  simp only [put_laws2]
  refine tk (i := 2) (v := ?k505) ?_
  simp only [put_laws2]
  refine tk (i := 3) (v := ?k506) ?_
  simp only [put_laws2]
  refine tk (i := 4) (v := ?k507) ?_
  simp only [put_laws2]
  refine tk (i := 5) (v := ?k508) ?_
  simp only [put_laws2]
  refine tks (i := 6) ?_
  simp only [put_laws2]
  refine tks (i := 7) ?_
  simp only [put_laws2]
  refine tks (i := 8) ?_
  simp only [put_laws2]
  refine tks (i := 9) ?_
  simp only [put_laws2]
  refine tks (i := 10) ?_
  simp only [put_laws2]
  refine tks (i := 11) ?_
  simp only [put_laws2]
  refine tks (i := 12) ?_
  simp only [put_laws2]
  refine tks (i := 13) ?_
  simp only [put_laws2]
  refine tk (i := 14) (v := ?k509) ?_
  simp only [put_laws2]
  refine wpAnyH_done (by kernel_rfl) ?_ _
  try clear hHeld
  go_upto_region 4 with fail
  have cV_5 : wd502.cell? ⟨w.heap.size, 5, none⟩ = some (.slice (some ⟨bk, ok, none⟩) v.keys.length c1) := V.out.cell 5
  refine wp_region_held_drew (S := (fun w' => w'.cell? ⟨w.heap.size, 5, none⟩ = some (.slice (some ⟨bk, ok, none⟩) v.keys.length c1))) (by kernel_rfl) cV_5 (fun hHeld => ?_)
  clear cV_5
  have hb510 : Below wd502.heap.size wd502 (wd502.drew) := (Below.refl _ _).drew
  replace V := dB V hb510
  replace Y := dB Y hb510
  replace Z := dB Z hb510
  replace R := dB R hb510
  replace hb := dT hb hb510
  clear hb510
  generalize wd502.drew = wd511 at *
  refine tk (i := 0) (v := ?k512) ?_
  simp only [put_laws2]
  refine tk (i := 1) (v := ?k513) ?_
  simp only [put_laws2]
  refine tk (i := 2) (v := ?k514) ?_
  simp only [put_laws2]
  refine tk (i := 3) (v := ?k515) ?_
  simp only [put_laws2]
  refine tk (i := 4) (v := ?k516) ?_
  simp only [put_laws2]
  refine tk (i := 5) (v := ?k517) ?_
  simp only [put_laws2]
  refine tks (i := 6) ?_
  simp only [put_laws2]
  refine tks (i := 7) ?_
  simp only [put_laws2]
  refine tks (i := 8) ?_
  simp only [put_laws2]
  refine tks (i := 9) ?_
  simp only [put_laws2]
  refine tks (i := 10) ?_
  simp only [put_laws2]
  refine tks (i := 11) ?_
  simp only [put_laws2]
  refine tks (i := 12) ?_
  simp only [put_laws2]
  refine tks (i := 13) ?_
  simp only [put_laws2]
  refine tk (i := 14) (v := ?k518) ?_
  simp only [put_laws2]
  refine wpAnyH_done (by kernel_rfl) ?_ _
  try clear hHeld
  go_upto_region 6 with fail
  try simp only [tz]
  try simp only [hd1]
  go_cut [] from 41 to 55 (fun wx => ∃ (A : Option Addr) (c : Nat), Has wx w.heap.size 34 #[.int .i64 v.kind, .bool v.bool, .int .i64 v.num, .string ⟨v.str.toArray⟩, .int .i64 v.id, .slice A (v.keys.length + 1) c, .slice (some ⟨bi, oi, none⟩) v.items.length c2, .slice A3 v.rest.length c3] ∧ Has wx (w.heap.size + 1) 34 #[.int .i64 k.kind, .bool k.bool, .int .i64 k.num, .string ⟨k.str.toArray⟩, .int .i64 k.id, .slice K1 k.keys.length d1, .slice K2 k.items.length d2, .slice K3 k.rest.length d3] ∧ Has wx (w.heap.size + 1 + 1) 34 #[.int .i64 t.kind, .bool t.bool, .int .i64 t.num, .string ⟨t.str.toArray⟩, .int .i64 t.id, .slice T1 t.keys.length e1, .slice T2 t.items.length e2, .slice T3 t.rest.length e3] ∧ Has wx (w.heap.size + 1 + 1 + 1) 34 #[.int .i64 0, .bool false, .int .i64 0, .string ⟨#[]⟩, .int .i64 0, .slice none 0 0, .slice none 0 0, .slice none 0 0] ∧ Kept (OVs w (w.heap.size + 4) (fun b => ((False ∨ S b) ∨ S b) ∨ S b) (.slice A (v.keys.length + 1) c) (v.keys.take j ++ [k] ++ v.keys.drop j)) wx (w.heap.size + 4) wx.heap.size ∧ Below w.heap.size w wx)
  case first =>
   have cV_5 : wd511.cell? ⟨w.heap.size, 5, none⟩ = some (.slice (some ⟨bk, ok, none⟩) v.keys.length c1) := V.out.cell 5
   obtain ⟨cY_0, cY_1, cY_2, cY_3, cY_4, cY_5, cY_6, cY_7⟩ := Y.out.c8
   refine wp_region_T (S := (fun w' => w'.cell? ⟨w.heap.size, 5, none⟩ = some (.slice (some ⟨bk, ok, none⟩) v.keys.length c1) ∧ w'.cell? ⟨w.heap.size + 1, 0, none⟩ = some (.int .i64 k.kind) ∧ w'.cell? ⟨w.heap.size + 1, 1, none⟩ = some (.bool k.bool) ∧ w'.cell? ⟨w.heap.size + 1, 2, none⟩ = some (.int .i64 k.num) ∧ w'.cell? ⟨w.heap.size + 1, 3, none⟩ = some (.string ⟨k.str.toArray⟩) ∧ w'.cell? ⟨w.heap.size + 1, 4, none⟩ = some (.int .i64 k.id) ∧ w'.cell? ⟨w.heap.size + 1, 5, none⟩ = some (.slice K1 k.keys.length d1) ∧ w'.cell? ⟨w.heap.size + 1, 6, none⟩ = some (.slice K2 k.items.length d2) ∧ w'.cell? ⟨w.heap.size + 1, 7, none⟩ = some (.slice K3 k.rest.length d3) ∧ (∀ (b o : Nat), b < w.heap.size → w'.cell? ⟨b, o, none⟩ = w.cell? ⟨b, o, none⟩))) (fun j => j == 15) (by kernel_rfl) ⟨cV_5, cY_0, cY_1, cY_2, cY_3, cY_4, cY_5, cY_6, cY_7, (fun b o hlt => hb.cell (p := ⟨b, o, none⟩) hlt)⟩ (fun hHeld => ?_)
   clear cV_5 cY_0 cY_1 cY_2 cY_3 cY_4 cY_5 cY_6 cY_7
   have hb519 : Below wd511.heap.size wd511 (wd511.drew) := (Below.refl _ _).drew
   replace V := dB V hb519
   replace Y := dB Y hb519
   replace Z := dB Z hb519
   replace R := dB R hb519
   replace hb := dT hb hb519
   clear hb519
   generalize wd511.drew = wd520 at *
   refine tkT (i := 1) (v := ?k521) ?_
   simp only [put_laws2]
   refine tkT (i := 2) (v := ?k522) ?_
   simp only [put_laws2]
   refine tkT (i := 3) (v := ?k523) ?_
   simp only [put_laws2]
   refine tkT (i := 4) (v := ?k524) ?_
   simp only [put_laws2]
   refine tkT (i := 6) (v := ?k525) ?_
   simp only [put_laws2]
   refine tkT (i := 9) (v := ?k526) ?_
   simp only [put_laws2]
   refine tkT (i := 10) (v := ?k527) ?_
   simp only [put_laws2]
   refine tkT (i := 11) (v := ?k528) ?_
   simp only [put_laws2]
   refine tkT (i := 12) (v := ?k529) ?_
   simp only [put_laws2]
   refine wpAnyT_ready (rs := [0, 7]) (by kernel_rfl) (by simp) ?_
   refine AllReadyT.cons rfl (fun K hK => ?_) (AllReadyT.cons rfl (fun K hK => ?_) (AllReadyT.nil))
   ·
    skip
    go_simp
    have hO0 := OwnVals.empty wd520 (w.heap.size + 4) (by have := R.out.here; omega)
    skip
    obtain ⟨gE, hgE⟩ : ∃ g, g = wd520.heap.size := ⟨_, rfl⟩
    rw [← hgE] at hO0
    have hb530 : Below wd520.heap.size wd520 (wd520.alloc (.cells #[] 34)) := (below_al (Below.refl _ _) (Nat.le_refl _) _)
    replace V := dB V hb530
    replace Y := dB Y hb530
    replace Z := dB Z hb530
    replace R := dB R hb530
    replace hb := dT hb hb530
    clear hb530
    generalize wd520.alloc (.cells #[] 34) = wd531 at *
    have hZE : ∀ q, (Value.slice (some ⟨gE, 0, none⟩) 0 0).ownBlock = some q → q = gE := fun q h => by injection h with h; exact h.symm
    have hgL := (hO0.lt gE rfl).1
    have hgU := (hO0.lt gE rfl).2
    have O := Lib.hid (OwnVals.kept0 hO0 (fun _ hq => hq.elim) hb)
    clear hO0
    simp only [← hgE]
    clear hgE
    try clear hHeld
    refine hK.out _ _ (⟨V.out.cell 5, d8 Y ((fun b o hlt => hb.cell (p := ⟨b, o, none⟩) hlt))⟩) (fun hHeld => ?_)
    clear hK K
    refine wpAnyT_ready (rs := [5, 7]) (by kernel_rfl) (by simp) ?_
    refine AllReadyT.cons rfl (fun K hK => ?_) (AllReadyT.cons rfl (fun K hK => ?_) (AllReadyT.nil))
    ·
     skip
     refine step_append_many (b := bk) (o := ok) (cp := c1) (ys := v.keys.take j) (c := ck) (by rfl) _ _ (by rfl) (O.out.now (fun q hq => (hb).block q hq)) (by rfl) (by rw [HLK.out]; rfl) (HK1.out _ hb).1 (HK1.out _ hb).2 (fun q hq => ⟨Nat.lt_of_lt_of_le (HS.out q hq) (hb).size, fun e => by have := HS.out q hq; have := (O.out.now (fun q hq => (hb).block q hq)).lt q e; omega⟩) (by rw [HLK.out]; simp; omega) (by have := R.out.here; omega) ?_
     intro v1 w1O1 hO1 hat hbB hkk
     obtain ⟨AqO1, cqO1, rfl⟩ := hO1.form
     try simp only [List.nil_append] at hO1 hat ⊢
     simp only [HLK.out] at hO1 hat ⊢
     have hR1 := R.out.here
     obtain ⟨H1, hH⟩ : ∃ H, H = wd531.heap.size := ⟨_, rfl⟩
     rw [← hH] at hat hR1
     clear hH
     have hZ1 : ∀ q, (Value.slice AqO1 (j) cqO1).ownBlock = some q → q = gE ∨ q = H1 ∨ q = H1 := fun q h => by
      rcases hat with h2 | h2
      ·
       rw [h2] at h; have := hZE q h; omega
      rw [h2] at h; injection h with h; omega
     clear hat
     clear O
     replace V := dG V hkk (fun hh => by have := hZE _ hh; omega)
     replace Y := dG Y hkk (fun hh => by have := hZE _ hh; omega)
     replace Z := dG Z hkk (fun hh => by have := hZE _ hh; omega)
     replace R := dG R hkk (fun hh => by have := hZE _ hh; omega)
     replace hb := hb.trans (hbB.mono (show w.heap.size ≤ w.heap.size + 4 by omega))
     have O := Lib.hid (OwnVals.kept0 hO1 (fun q hq => .inl (hq.elim False.elim (HS.out q))) hb)
     clear hO1 hbB hkk hZE
     try clear hHeld
     refine hK.out _ _ (⟨V.out.cell 5, d8 Y ((fun b o hlt => hb.cell (p := ⟨b, o, none⟩) hlt))⟩) (fun hHeld => ?_)
     clear hK K
     refine rdT1 (i := 7) (fun K hK => ?_)
     go_simp
     obtain ⟨wd533, hE534⟩ : ∃ ww, ww = w1O1.alloc (.cells #[.int .i64 k.kind, .bool k.bool, .int .i64 k.num, .string ⟨k.str.toArray⟩, .int .i64 k.id, .slice K1 k.keys.length d1, .slice K2 k.items.length d2, .slice K3 k.rest.length d3] 34) := ⟨_, rfl⟩
     rw [← hE534]
     have hb532 := aB hE534
     have N := aN hE534
     clear hE534
     have hl536 := V.out.here
     have hl537 := Y.out.here
     have hl538 := Z.out.here
     have hl539 := R.out.here
     have hl540 := O.out.le
     have hl541 := hb.size
     replace V := dB V hb532
     replace Y := dB Y hb532
     replace Z := dB Z hb532
     replace R := dB R hb532
     replace O := dK O hb532
     replace hb := dT hb hb532
     clear hb532
     generalize w1O1.heap.size = g535 at *
     try clear hHeld
     refine hK.out _ _ (⟨V.out.cell 5, d8 Y ((fun b o hlt => hb.cell (p := ⟨b, o, none⟩) hlt))⟩) (fun hHeld => ?_)
     clear hK K
     refine rdT1 (i := 8) (fun K hK => ?_)
     refine step_append_vals (by rfl) _ _ (by rfl) (O.out.now (fun q hq => (hb).block q hq)) (by rfl) N.out (by rfl) (HY.out.on0 HS.out hb).rd (fun q hq => ⟨Nat.lt_of_lt_of_le (HS.out q hq) (hb).size, fun e => by have := HS.out q hq; have := (O.out.now (fun q hq => (hb).block q hq)).lt q e; omega⟩) (by rw [HLK.out]; omega) (by have := R.out.here; omega) ?_
     intro v1 w1O2 hO1 hat hbB hkk
     obtain ⟨AqO2, cqO2, rfl⟩ := hO1.form
     try simp only [List.nil_append] at hO1 hat ⊢
     simp only [HLK2.out] at hO1 hat ⊢
     have hR2 := R.out.here
     obtain ⟨H2, hH⟩ : ∃ H, H = wd533.heap.size := ⟨_, rfl⟩
     rw [← hH] at hat hR2
     clear hH
     have hZ2 : ∀ q, (Value.slice AqO2 (j + 1) cqO2).ownBlock = some q → q = gE ∨ q = H1 ∨ q = H2 := fun q h => by
      rcases hat with h2 | h2
      ·
       rw [h2] at h; have := hZ1 q h; omega
      rw [h2] at h; injection h with h; omega
     clear hat
     clear O
     clear N
     replace V := dG V hkk (fun hh => by have := hZ1 _ hh; omega)
     replace Y := dG Y hkk (fun hh => by have := hZ1 _ hh; omega)
     replace Z := dG Z hkk (fun hh => by have := hZ1 _ hh; omega)
     replace R := dG R hkk (fun hh => by have := hZ1 _ hh; omega)
     replace hb := hb.trans (hbB.mono (show w.heap.size ≤ w.heap.size + 4 by omega))
     have O := Lib.hid (OwnVals.kept0 hO1 (fun q hq => .inl (hq.elim (fun hq => hq.elim False.elim (HS.out q)) (HS.out q))) hb)
     clear hO1 hbB hkk hZ1
     try clear hHeld
     refine hK.out _ _ (⟨V.out.cell 5, d8 Y ((fun b o hlt => hb.cell (p := ⟨b, o, none⟩) hlt))⟩) (fun hHeld => ?_)
     clear hK K
     refine rdT1 (i := 13) (fun K hK => ?_)
     simp only [HOK.out]
     refine step_append_many (b := bk) (o := _) (cp := (c1 - j)) (ys := v.keys.drop j) (c := fun i => ck (j + i)) (by rfl) _ _ (by rfl) (O.out.now (fun q hq => (hb).block q hq)) (by rfl) (by rw [HLKD.out]; rfl) (HK2.out _ hb).1 (HK2.out _ hb).2 (fun q hq => ⟨Nat.lt_of_lt_of_le (HS.out q hq) (hb).size, fun e => by have := HS.out q hq; have := (O.out.now (fun q hq => (hb).block q hq)).lt q e; omega⟩) (by rw [HLK2.out, HLKD.out]; have := HN1.out; omega) (by have := R.out.here; omega) ?_
     intro v1 w1O3 hO1 hat hbB hkk
     obtain ⟨AqO, cqO, rfl⟩ := hO1.form
     simp only [HLK3.out] at hO1 ⊢
     clear hat
     clear O
     replace V := dG V hkk (fun hh => by have := hZ2 _ hh; omega)
     replace Y := dG Y hkk (fun hh => by have := hZ2 _ hh; omega)
     replace Z := dG Z hkk (fun hh => by have := hZ2 _ hh; omega)
     replace R := dG R hkk (fun hh => by have := hZ2 _ hh; omega)
     replace hb := hb.trans (hbB.mono (show w.heap.size ≤ w.heap.size + 4 by omega))
     have O := Lib.hid (OwnVals.kept0 hO1 (fun q hq => .inl (hq.elim (fun hq => hq.elim (fun hq => hq.elim False.elim (HS.out q)) (HS.out q)) (HS.out q))) hb)
     clear hO1 hbB hkk hZ2
     try clear hHeld
     refine hK.out _ _ (⟨V.out.cell 5, d8 Y ((fun b o hlt => hb.cell (p := ⟨b, o, none⟩) hlt))⟩) (fun hHeld => ?_)
     clear hK K
     refine tkT (i := 14) (v := ?k542) ?_
     simp only [put_laws2]
     refine rdTL (i := 15) (fun K hK => ?_)
     have cV_5 : w1O3.cell? ⟨w.heap.size, 5, none⟩ = some (.slice (some ⟨bk, ok, none⟩) v.keys.length c1) := V.out.cell 5
     have fV_5 := V.out.free 5
     go_simp
     clear cV_5 fV_5
     obtain ⟨wd543, hE544⟩ : ∃ ww, ww = w1O3.setCell ⟨w.heap.size, 5, none⟩ (.slice AqO (v.keys.length + 1) cqO) := ⟨_, rfl⟩
     rw [← hE544]
     replace Y := dF Y hE544 (by omega)
     replace Z := dF Z hE544 (by omega)
     replace R := dF R hE544 (by omega)
     replace V : Hid (Has wd543 (w.heap.size) 34 #[.int .i64 v.kind, .bool v.bool, .int .i64 v.num, .string ⟨v.str.toArray⟩, .int .i64 v.id, .slice AqO (v.keys.length + 1) cqO, .slice (some ⟨bi, oi, none⟩) v.items.length c2, .slice A3 v.rest.length c3]) := Lib.hid (by simpa using dS V hE544)
     replace O := kF O hE544 (by omega)
     replace hb := tF hb hE544 (by omega)
     clear hE544
     try clear hHeld
     refine hK.out _ _ ?_
     clear hK K
     refine wpAnyT_done (by kernel_rfl) ?_ _
     try clear hHeld
     go_wp2_with fail
     go_meet
     exact ⟨AqO, cqO, V.out, Y.out, Z.out, R.out, OwnVals.kept0 (O.out.now (fun q hq => (hb).block q hq)) (fun q hq => .inl (hq.elim (fun hq => hq.elim (fun hq => hq.elim False.elim (HS.out q)) (HS.out q)) (HS.out q))) hb, hb⟩
    skip
    go_simp
    obtain ⟨wd546, hE547⟩ : ∃ ww, ww = wd531.alloc (.cells #[.int .i64 k.kind, .bool k.bool, .int .i64 k.num, .string ⟨k.str.toArray⟩, .int .i64 k.id, .slice K1 k.keys.length d1, .slice K2 k.items.length d2, .slice K3 k.rest.length d3] 34) := ⟨_, rfl⟩
    rw [← hE547]
    have hb545 := aB hE547
    have N := aN hE547
    clear hE547
    have hl549 := V.out.here
    have hl550 := Y.out.here
    have hl551 := Z.out.here
    have hl552 := R.out.here
    have hl553 := O.out.le
    have hl554 := hb.size
    replace V := dB V hb545
    replace Y := dB Y hb545
    replace Z := dB Z hb545
    replace R := dB R hb545
    replace O := dK O hb545
    replace hb := dT hb hb545
    clear hb545
    generalize wd531.heap.size = g548 at *
    try clear hHeld
    refine hK.out _ _ (⟨V.out.cell 5, d8 Y ((fun b o hlt => hb.cell (p := ⟨b, o, none⟩) hlt))⟩) (fun hHeld => ?_)
    clear hK K
    refine rdT1 (i := 5) (fun K hK => ?_)
    refine step_append_many (b := bk) (o := ok) (cp := c1) (ys := v.keys.take j) (c := ck) (by rfl) _ _ (by rfl) (O.out.now (fun q hq => (hb).block q hq)) (by rfl) (by rw [HLK.out]; rfl) (HK1.out _ hb).1 (HK1.out _ hb).2 (fun q hq => ⟨Nat.lt_of_lt_of_le (HS.out q hq) (hb).size, fun e => by have := HS.out q hq; have := (O.out.now (fun q hq => (hb).block q hq)).lt q e; omega⟩) (by rw [HLK.out]; simp; omega) (by have := R.out.here; omega) ?_
    intro v1 w1O1 hO1 hat hbB hkk
    obtain ⟨AqO1, cqO1, rfl⟩ := hO1.form
    try simp only [List.nil_append] at hO1 hat ⊢
    simp only [HLK.out] at hO1 hat ⊢
    have hR1 := R.out.here
    obtain ⟨H1, hH⟩ : ∃ H, H = wd546.heap.size := ⟨_, rfl⟩
    rw [← hH] at hat hR1
    clear hH
    have hZ1 : ∀ q, (Value.slice AqO1 (j) cqO1).ownBlock = some q → q = gE ∨ q = H1 ∨ q = H1 := fun q h => by
     rcases hat with h2 | h2
     ·
      rw [h2] at h; have := hZE q h; omega
     rw [h2] at h; injection h with h; omega
    clear hat
    clear O
    replace V := dG V hkk (fun hh => by have := hZE _ hh; omega)
    replace Y := dG Y hkk (fun hh => by have := hZE _ hh; omega)
    replace Z := dG Z hkk (fun hh => by have := hZE _ hh; omega)
    replace R := dG R hkk (fun hh => by have := hZE _ hh; omega)
    replace N := dG N hkk (fun hh => by have := hZE _ hh; omega)
    replace hb := hb.trans (hbB.mono (show w.heap.size ≤ w.heap.size + 4 by omega))
    have O := Lib.hid (OwnVals.kept0 hO1 (fun q hq => .inl (hq.elim False.elim (HS.out q))) hb)
    clear hO1 hbB hkk hZE
    try clear hHeld
    refine hK.out _ _ (⟨V.out.cell 5, d8 Y ((fun b o hlt => hb.cell (p := ⟨b, o, none⟩) hlt))⟩) (fun hHeld => ?_)
    clear hK K
    refine rdT1 (i := 8) (fun K hK => ?_)
    refine step_append_vals (by rfl) _ _ (by rfl) (O.out.now (fun q hq => (hb).block q hq)) (by rfl) N.out (by rfl) (HY.out.on0 HS.out hb).rd (fun q hq => ⟨Nat.lt_of_lt_of_le (HS.out q hq) (hb).size, fun e => by have := HS.out q hq; have := (O.out.now (fun q hq => (hb).block q hq)).lt q e; omega⟩) (by rw [HLK.out]; omega) (by have := R.out.here; omega) ?_
    intro v1 w1O2 hO1 hat hbB hkk
    obtain ⟨AqO2, cqO2, rfl⟩ := hO1.form
    try simp only [List.nil_append] at hO1 hat ⊢
    simp only [HLK2.out] at hO1 hat ⊢
    have hR2 := R.out.here
    obtain ⟨H2, hH⟩ : ∃ H, H = w1O1.heap.size := ⟨_, rfl⟩
    rw [← hH] at hat hR2
    clear hH
    have hZ2 : ∀ q, (Value.slice AqO2 (j + 1) cqO2).ownBlock = some q → q = gE ∨ q = H1 ∨ q = H2 := fun q h => by
     rcases hat with h2 | h2
     ·
      rw [h2] at h; have := hZ1 q h; omega
     rw [h2] at h; injection h with h; omega
    clear hat
    clear O
    clear N
    replace V := dG V hkk (fun hh => by have := hZ1 _ hh; omega)
    replace Y := dG Y hkk (fun hh => by have := hZ1 _ hh; omega)
    replace Z := dG Z hkk (fun hh => by have := hZ1 _ hh; omega)
    replace R := dG R hkk (fun hh => by have := hZ1 _ hh; omega)
    replace hb := hb.trans (hbB.mono (show w.heap.size ≤ w.heap.size + 4 by omega))
    have O := Lib.hid (OwnVals.kept0 hO1 (fun q hq => .inl (hq.elim (fun hq => hq.elim False.elim (HS.out q)) (HS.out q))) hb)
    clear hO1 hbB hkk hZ1
    try clear hHeld
    refine hK.out _ _ (⟨V.out.cell 5, d8 Y ((fun b o hlt => hb.cell (p := ⟨b, o, none⟩) hlt))⟩) (fun hHeld => ?_)
    clear hK K
    refine rdT1 (i := 13) (fun K hK => ?_)
    simp only [HOK.out]
    refine step_append_many (b := bk) (o := _) (cp := (c1 - j)) (ys := v.keys.drop j) (c := fun i => ck (j + i)) (by rfl) _ _ (by rfl) (O.out.now (fun q hq => (hb).block q hq)) (by rfl) (by rw [HLKD.out]; rfl) (HK2.out _ hb).1 (HK2.out _ hb).2 (fun q hq => ⟨Nat.lt_of_lt_of_le (HS.out q hq) (hb).size, fun e => by have := HS.out q hq; have := (O.out.now (fun q hq => (hb).block q hq)).lt q e; omega⟩) (by rw [HLK2.out, HLKD.out]; have := HN1.out; omega) (by have := R.out.here; omega) ?_
    intro v1 w1O3 hO1 hat hbB hkk
    obtain ⟨AqO, cqO, rfl⟩ := hO1.form
    simp only [HLK3.out] at hO1 ⊢
    clear hat
    clear O
    replace V := dG V hkk (fun hh => by have := hZ2 _ hh; omega)
    replace Y := dG Y hkk (fun hh => by have := hZ2 _ hh; omega)
    replace Z := dG Z hkk (fun hh => by have := hZ2 _ hh; omega)
    replace R := dG R hkk (fun hh => by have := hZ2 _ hh; omega)
    replace hb := hb.trans (hbB.mono (show w.heap.size ≤ w.heap.size + 4 by omega))
    have O := Lib.hid (OwnVals.kept0 hO1 (fun q hq => .inl (hq.elim (fun hq => hq.elim (fun hq => hq.elim False.elim (HS.out q)) (HS.out q)) (HS.out q))) hb)
    clear hO1 hbB hkk hZ2
    try clear hHeld
    refine hK.out _ _ (⟨V.out.cell 5, d8 Y ((fun b o hlt => hb.cell (p := ⟨b, o, none⟩) hlt))⟩) (fun hHeld => ?_)
    clear hK K
    refine tkT (i := 14) (v := ?k555) ?_
    simp only [put_laws2]
    refine rdTL (i := 15) (fun K hK => ?_)
    have cV_5 : w1O3.cell? ⟨w.heap.size, 5, none⟩ = some (.slice (some ⟨bk, ok, none⟩) v.keys.length c1) := V.out.cell 5
    have fV_5 := V.out.free 5
    go_simp
    clear cV_5 fV_5
    obtain ⟨wd556, hE557⟩ : ∃ ww, ww = w1O3.setCell ⟨w.heap.size, 5, none⟩ (.slice AqO (v.keys.length + 1) cqO) := ⟨_, rfl⟩
    rw [← hE557]
    replace Y := dF Y hE557 (by omega)
    replace Z := dF Z hE557 (by omega)
    replace R := dF R hE557 (by omega)
    replace V : Hid (Has wd556 (w.heap.size) 34 #[.int .i64 v.kind, .bool v.bool, .int .i64 v.num, .string ⟨v.str.toArray⟩, .int .i64 v.id, .slice AqO (v.keys.length + 1) cqO, .slice (some ⟨bi, oi, none⟩) v.items.length c2, .slice A3 v.rest.length c3]) := Lib.hid (by simpa using dS V hE557)
    replace O := kF O hE557 (by omega)
    replace hb := tF hb hE557 (by omega)
    clear hE557
    try clear hHeld
    refine hK.out _ _ ?_
    clear hK K
    refine wpAnyT_done (by kernel_rfl) ?_ _
    try clear hHeld
    go_wp2_with fail
    go_meet
    exact ⟨AqO, cqO, V.out, Y.out, Z.out, R.out, OwnVals.kept0 (O.out.now (fun q hq => (hb).block q hq)) (fun q hq => .inl (hq.elim (fun hq => hq.elim (fun hq => hq.elim False.elim (HS.out q)) (HS.out q)) (HS.out q))) hb, hb⟩
   skip
   go_simp
   obtain ⟨wd559, hE560⟩ : ∃ ww, ww = wd520.alloc (.cells #[.int .i64 k.kind, .bool k.bool, .int .i64 k.num, .string ⟨k.str.toArray⟩, .int .i64 k.id, .slice K1 k.keys.length d1, .slice K2 k.items.length d2, .slice K3 k.rest.length d3] 34) := ⟨_, rfl⟩
   rw [← hE560]
   have hb558 := aB hE560
   have N := aN hE560
   clear hE560
   have hl562 := V.out.here
   have hl563 := Y.out.here
   have hl564 := Z.out.here
   have hl565 := R.out.here
   have hl566 := hb.size
   replace V := dB V hb558
   replace Y := dB Y hb558
   replace Z := dB Z hb558
   replace R := dB R hb558
   replace hb := dT hb hb558
   clear hb558
   generalize wd520.heap.size = g561 at *
   try clear hHeld
   refine hK.out _ _ (⟨V.out.cell 5, d8 Y ((fun b o hlt => hb.cell (p := ⟨b, o, none⟩) hlt))⟩) (fun hHeld => ?_)
   clear hK K
   refine rdT1 (i := 0) (fun K hK => ?_)
   go_simp
   have hO0 := OwnVals.empty wd559 (w.heap.size + 4) (by have := R.out.here; omega)
   have hNE := N.out.here
   obtain ⟨gE, hgE⟩ : ∃ g, g = wd559.heap.size := ⟨_, rfl⟩
   rw [← hgE] at hO0 hNE
   have hb567 : Below wd559.heap.size wd559 (wd559.alloc (.cells #[] 34)) := (below_al (Below.refl _ _) (Nat.le_refl _) _)
   replace V := dB V hb567
   replace Y := dB Y hb567
   replace Z := dB Z hb567
   replace R := dB R hb567
   replace N := dB N hb567
   replace hb := dT hb hb567
   clear hb567
   generalize wd559.alloc (.cells #[] 34) = wd568 at *
   have hZE : ∀ q, (Value.slice (some ⟨gE, 0, none⟩) 0 0).ownBlock = some q → q = gE := fun q h => by injection h with h; exact h.symm
   have hgL := (hO0.lt gE rfl).1
   have hgU := (hO0.lt gE rfl).2
   have O := Lib.hid (OwnVals.kept0 hO0 (fun _ hq => hq.elim) hb)
   clear hO0
   simp only [← hgE]
   clear hgE
   try clear hHeld
   refine hK.out _ _ (⟨V.out.cell 5, d8 Y ((fun b o hlt => hb.cell (p := ⟨b, o, none⟩) hlt))⟩) (fun hHeld => ?_)
   clear hK K
   refine rdT1 (i := 5) (fun K hK => ?_)
   refine step_append_many (b := bk) (o := ok) (cp := c1) (ys := v.keys.take j) (c := ck) (by rfl) _ _ (by rfl) (O.out.now (fun q hq => (hb).block q hq)) (by rfl) (by rw [HLK.out]; rfl) (HK1.out _ hb).1 (HK1.out _ hb).2 (fun q hq => ⟨Nat.lt_of_lt_of_le (HS.out q hq) (hb).size, fun e => by have := HS.out q hq; have := (O.out.now (fun q hq => (hb).block q hq)).lt q e; omega⟩) (by rw [HLK.out]; simp; omega) (by have := R.out.here; omega) ?_
   intro v1 w1O1 hO1 hat hbB hkk
   obtain ⟨AqO1, cqO1, rfl⟩ := hO1.form
   try simp only [List.nil_append] at hO1 hat ⊢
   simp only [HLK.out] at hO1 hat ⊢
   have hR1 := R.out.here
   obtain ⟨H1, hH⟩ : ∃ H, H = wd568.heap.size := ⟨_, rfl⟩
   rw [← hH] at hat hR1
   clear hH
   have hZ1 : ∀ q, (Value.slice AqO1 (j) cqO1).ownBlock = some q → q = gE ∨ q = H1 ∨ q = H1 := fun q h => by
    rcases hat with h2 | h2
    ·
     rw [h2] at h; have := hZE q h; omega
    rw [h2] at h; injection h with h; omega
   clear hat
   clear O
   replace V := dG V hkk (fun hh => by have := hZE _ hh; omega)
   replace Y := dG Y hkk (fun hh => by have := hZE _ hh; omega)
   replace Z := dG Z hkk (fun hh => by have := hZE _ hh; omega)
   replace R := dG R hkk (fun hh => by have := hZE _ hh; omega)
   replace N := dG N hkk (fun hh => by have := hZE _ hh; omega)
   replace hb := hb.trans (hbB.mono (show w.heap.size ≤ w.heap.size + 4 by omega))
   have O := Lib.hid (OwnVals.kept0 hO1 (fun q hq => .inl (hq.elim False.elim (HS.out q))) hb)
   clear hO1 hbB hkk hZE
   try clear hHeld
   refine hK.out _ _ (⟨V.out.cell 5, d8 Y ((fun b o hlt => hb.cell (p := ⟨b, o, none⟩) hlt))⟩) (fun hHeld => ?_)
   clear hK K
   refine rdT1 (i := 8) (fun K hK => ?_)
   refine step_append_vals (by rfl) _ _ (by rfl) (O.out.now (fun q hq => (hb).block q hq)) (by rfl) N.out (by rfl) (HY.out.on0 HS.out hb).rd (fun q hq => ⟨Nat.lt_of_lt_of_le (HS.out q hq) (hb).size, fun e => by have := HS.out q hq; have := (O.out.now (fun q hq => (hb).block q hq)).lt q e; omega⟩) (by rw [HLK.out]; omega) (by have := R.out.here; omega) ?_
   intro v1 w1O2 hO1 hat hbB hkk
   obtain ⟨AqO2, cqO2, rfl⟩ := hO1.form
   try simp only [List.nil_append] at hO1 hat ⊢
   simp only [HLK2.out] at hO1 hat ⊢
   have hR2 := R.out.here
   obtain ⟨H2, hH⟩ : ∃ H, H = w1O1.heap.size := ⟨_, rfl⟩
   rw [← hH] at hat hR2
   clear hH
   have hZ2 : ∀ q, (Value.slice AqO2 (j + 1) cqO2).ownBlock = some q → q = gE ∨ q = H1 ∨ q = H2 := fun q h => by
    rcases hat with h2 | h2
    ·
     rw [h2] at h; have := hZ1 q h; omega
    rw [h2] at h; injection h with h; omega
   clear hat
   clear O
   clear N
   replace V := dG V hkk (fun hh => by have := hZ1 _ hh; omega)
   replace Y := dG Y hkk (fun hh => by have := hZ1 _ hh; omega)
   replace Z := dG Z hkk (fun hh => by have := hZ1 _ hh; omega)
   replace R := dG R hkk (fun hh => by have := hZ1 _ hh; omega)
   replace hb := hb.trans (hbB.mono (show w.heap.size ≤ w.heap.size + 4 by omega))
   have O := Lib.hid (OwnVals.kept0 hO1 (fun q hq => .inl (hq.elim (fun hq => hq.elim False.elim (HS.out q)) (HS.out q))) hb)
   clear hO1 hbB hkk hZ1
   try clear hHeld
   refine hK.out _ _ (⟨V.out.cell 5, d8 Y ((fun b o hlt => hb.cell (p := ⟨b, o, none⟩) hlt))⟩) (fun hHeld => ?_)
   clear hK K
   refine rdT1 (i := 13) (fun K hK => ?_)
   simp only [HOK.out]
   refine step_append_many (b := bk) (o := _) (cp := (c1 - j)) (ys := v.keys.drop j) (c := fun i => ck (j + i)) (by rfl) _ _ (by rfl) (O.out.now (fun q hq => (hb).block q hq)) (by rfl) (by rw [HLKD.out]; rfl) (HK2.out _ hb).1 (HK2.out _ hb).2 (fun q hq => ⟨Nat.lt_of_lt_of_le (HS.out q hq) (hb).size, fun e => by have := HS.out q hq; have := (O.out.now (fun q hq => (hb).block q hq)).lt q e; omega⟩) (by rw [HLK2.out, HLKD.out]; have := HN1.out; omega) (by have := R.out.here; omega) ?_
   intro v1 w1O3 hO1 hat hbB hkk
   obtain ⟨AqO, cqO, rfl⟩ := hO1.form
   simp only [HLK3.out] at hO1 ⊢
   clear hat
   clear O
   replace V := dG V hkk (fun hh => by have := hZ2 _ hh; omega)
   replace Y := dG Y hkk (fun hh => by have := hZ2 _ hh; omega)
   replace Z := dG Z hkk (fun hh => by have := hZ2 _ hh; omega)
   replace R := dG R hkk (fun hh => by have := hZ2 _ hh; omega)
   replace hb := hb.trans (hbB.mono (show w.heap.size ≤ w.heap.size + 4 by omega))
   have O := Lib.hid (OwnVals.kept0 hO1 (fun q hq => .inl (hq.elim (fun hq => hq.elim (fun hq => hq.elim False.elim (HS.out q)) (HS.out q)) (HS.out q))) hb)
   clear hO1 hbB hkk hZ2
   try clear hHeld
   refine hK.out _ _ (⟨V.out.cell 5, d8 Y ((fun b o hlt => hb.cell (p := ⟨b, o, none⟩) hlt))⟩) (fun hHeld => ?_)
   clear hK K
   refine tkT (i := 14) (v := ?k569) ?_
   simp only [put_laws2]
   refine rdTL (i := 15) (fun K hK => ?_)
   have cV_5 : w1O3.cell? ⟨w.heap.size, 5, none⟩ = some (.slice (some ⟨bk, ok, none⟩) v.keys.length c1) := V.out.cell 5
   have fV_5 := V.out.free 5
   go_simp
   clear cV_5 fV_5
   obtain ⟨wd570, hE571⟩ : ∃ ww, ww = w1O3.setCell ⟨w.heap.size, 5, none⟩ (.slice AqO (v.keys.length + 1) cqO) := ⟨_, rfl⟩
   rw [← hE571]
   replace Y := dF Y hE571 (by omega)
   replace Z := dF Z hE571 (by omega)
   replace R := dF R hE571 (by omega)
   replace V : Hid (Has wd570 (w.heap.size) 34 #[.int .i64 v.kind, .bool v.bool, .int .i64 v.num, .string ⟨v.str.toArray⟩, .int .i64 v.id, .slice AqO (v.keys.length + 1) cqO, .slice (some ⟨bi, oi, none⟩) v.items.length c2, .slice A3 v.rest.length c3]) := Lib.hid (by simpa using dS V hE571)
   replace O := kF O hE571 (by omega)
   replace hb := tF hb hE571 (by omega)
   clear hE571
   try clear hHeld
   refine hK.out _ _ ?_
   clear hK K
   refine wpAnyT_done (by kernel_rfl) ?_ _
   try clear hHeld
   go_wp2_with fail
   go_meet
   exact ⟨AqO, cqO, V.out, Y.out, Z.out, R.out, OwnVals.kept0 (O.out.now (fun q hq => (hb).block q hq)) (fun q hq => .inl (hq.elim (fun hq => hq.elim (fun hq => hq.elim False.elim (HS.out q)) (HS.out q)) (HS.out q))) hb, hb⟩
  case rest =>
   clear V Y Z R
   obtain ⟨AqO, cqO, V, Y, Z, R, hO, hb⟩ := hcut
   replace V := Lib.hid V
   replace Y := Lib.hid Y
   replace Z := Lib.hid Z
   replace R := Lib.hid R
   have O := Lib.hid (hO)
   clear hO
   obtain ⟨L7, hL1, hL2, hL3⟩ : ∃ L, wc.heap.size ≤ L ∧ w.heap.size + 4 ≤ L ∧ L ≤ wc.heap.size := ⟨wc.heap.size, Nat.le_refl _, by have := R.out.here; omega, Nat.le_refl _⟩
   have LL := Lib.hid ((show Kept (fun _ => True) wc L7 L7 from ⟨trivial, fun _ _ => trivial, hL3⟩))
   clear hL3
   go_upto_region 7 with fail
   go_cut [] from 56 to 70 (fun wx => ∃ (A : Option Addr) (c : Nat), Has wx w.heap.size 34 #[.int .i64 v.kind, .bool v.bool, .int .i64 v.num, .string ⟨v.str.toArray⟩, .int .i64 v.id, .slice AqO (v.keys.length + 1) cqO, .slice A (v.keys.length + 1) c, .slice A3 v.rest.length c3] ∧ Has wx (w.heap.size + 1) 34 #[.int .i64 k.kind, .bool k.bool, .int .i64 k.num, .string ⟨k.str.toArray⟩, .int .i64 k.id, .slice K1 k.keys.length d1, .slice K2 k.items.length d2, .slice K3 k.rest.length d3] ∧ Has wx (w.heap.size + 1 + 1) 34 #[.int .i64 t.kind, .bool t.bool, .int .i64 t.num, .string ⟨t.str.toArray⟩, .int .i64 t.id, .slice T1 t.keys.length e1, .slice T2 t.items.length e2, .slice T3 t.rest.length e3] ∧ Has wx (w.heap.size + 1 + 1 + 1) 34 #[.int .i64 0, .bool false, .int .i64 0, .string ⟨#[]⟩, .int .i64 0, .slice none 0 0, .slice none 0 0, .slice none 0 0] ∧ (OVs w (w.heap.size + 4) (fun b => ((False ∨ S b) ∨ S b) ∨ S b) (.slice AqO (v.keys.length + 1) cqO) (v.keys.take j ++ [k] ++ v.keys.drop j) wx ∧ OVs w L7 (fun b => ((False ∨ S b) ∨ S b) ∨ S b) (.slice A (v.keys.length + 1) c) (v.items.take j ++ [t] ++ v.items.drop j) wx) ∧ Below w.heap.size w wx)
   case first =>
    have cV_6 : wc.cell? ⟨w.heap.size, 6, none⟩ = some (.slice (some ⟨bi, oi, none⟩) v.items.length c2) := V.out.cell 6
    obtain ⟨cZ_0, cZ_1, cZ_2, cZ_3, cZ_4, cZ_5, cZ_6, cZ_7⟩ := Z.out.c8
    refine wp_region_T (S := (fun w' => w'.cell? ⟨w.heap.size, 6, none⟩ = some (.slice (some ⟨bi, oi, none⟩) v.items.length c2) ∧ w'.cell? ⟨w.heap.size + 1 + 1, 0, none⟩ = some (.int .i64 t.kind) ∧ w'.cell? ⟨w.heap.size + 1 + 1, 1, none⟩ = some (.bool t.bool) ∧ w'.cell? ⟨w.heap.size + 1 + 1, 2, none⟩ = some (.int .i64 t.num) ∧ w'.cell? ⟨w.heap.size + 1 + 1, 3, none⟩ = some (.string ⟨t.str.toArray⟩) ∧ w'.cell? ⟨w.heap.size + 1 + 1, 4, none⟩ = some (.int .i64 t.id) ∧ w'.cell? ⟨w.heap.size + 1 + 1, 5, none⟩ = some (.slice T1 t.keys.length e1) ∧ w'.cell? ⟨w.heap.size + 1 + 1, 6, none⟩ = some (.slice T2 t.items.length e2) ∧ w'.cell? ⟨w.heap.size + 1 + 1, 7, none⟩ = some (.slice T3 t.rest.length e3) ∧ (∀ (b o : Nat), b < w.heap.size → w'.cell? ⟨b, o, none⟩ = w.cell? ⟨b, o, none⟩))) (fun j => j == 15) (by kernel_rfl) ⟨cV_6, cZ_0, cZ_1, cZ_2, cZ_3, cZ_4, cZ_5, cZ_6, cZ_7, (fun b o hlt => hb.cell (p := ⟨b, o, none⟩) hlt)⟩ (fun hHeld => ?_)
    clear cV_6 cZ_0 cZ_1 cZ_2 cZ_3 cZ_4 cZ_5 cZ_6 cZ_7
    have hb572 : Below wc.heap.size wc (wc.drew) := (Below.refl _ _).drew
    replace V := dB V hb572
    replace Y := dB Y hb572
    replace Z := dB Z hb572
    replace R := dB R hb572
    replace O := dK O hb572
    replace LL := dK LL hb572
    replace hb := dT hb hb572
    clear hb572
    generalize wc.drew = wd573 at *
    refine tkT (i := 1) (v := ?k574) ?_
    simp only [put_laws2]
    refine tkT (i := 2) (v := ?k575) ?_
    simp only [put_laws2]
    refine tkT (i := 3) (v := ?k576) ?_
    simp only [put_laws2]
    refine tkT (i := 4) (v := ?k577) ?_
    simp only [put_laws2]
    refine tkT (i := 6) (v := ?k578) ?_
    simp only [put_laws2]
    refine tkT (i := 9) (v := ?k579) ?_
    simp only [put_laws2]
    refine tkT (i := 10) (v := ?k580) ?_
    simp only [put_laws2]
    refine tkT (i := 11) (v := ?k581) ?_
    simp only [put_laws2]
    refine tkT (i := 12) (v := ?k582) ?_
    simp only [put_laws2]
    refine wpAnyT_ready (rs := [0, 7]) (by kernel_rfl) (by simp) ?_
    refine AllReadyT.cons rfl (fun K hK => ?_) (AllReadyT.cons rfl (fun K hK => ?_) (AllReadyT.nil))
    ·
     skip
     go_simp
     have hO0 := OwnVals.empty wd573 (L7) (LL.out.le)
     skip
     obtain ⟨gE, hgE⟩ : ∃ g, g = wd573.heap.size := ⟨_, rfl⟩
     rw [← hgE] at hO0
     have hb583 : Below wd573.heap.size wd573 (wd573.alloc (.cells #[] 34)) := (below_al (Below.refl _ _) (Nat.le_refl _) _)
     replace V := dB V hb583
     replace Y := dB Y hb583
     replace Z := dB Z hb583
     replace R := dB R hb583
     replace O := dK O hb583
     replace LL := dK LL hb583
     replace hb := dT hb hb583
     clear hb583
     generalize wd573.alloc (.cells #[] 34) = wd584 at *
     have hZE : ∀ q, (Value.slice (some ⟨gE, 0, none⟩) 0 0).ownBlock = some q → q = gE := fun q h => by injection h with h; exact h.symm
     have hgL := (hO0.lt gE rfl).1
     have hgU := (hO0.lt gE rfl).2
     have P := Lib.hid (OwnVals.kept0 hO0 (fun _ hq => hq.elim) hb)
     clear hO0
     simp only [← hgE]
     clear hgE
     try clear hHeld
     refine hK.out _ _ (⟨V.out.cell 6, d8 Z ((fun b o hlt => hb.cell (p := ⟨b, o, none⟩) hlt))⟩) (fun hHeld => ?_)
     clear hK K
     refine wpAnyT_ready (rs := [5, 7]) (by kernel_rfl) (by simp) ?_
     refine AllReadyT.cons rfl (fun K hK => ?_) (AllReadyT.cons rfl (fun K hK => ?_) (AllReadyT.nil))
     ·
      skip
      refine step_append_many (b := bi) (o := oi) (cp := c2) (ys := v.items.take j) (c := ci) (by rfl) _ _ (by rfl) (P.out.now (fun q hq => (hb).block q hq)) (by rfl) (by rw [HLI.out]; rfl) (HI1.out _ hb).1 (HI1.out _ hb).2 (fun q hq => ⟨Nat.lt_of_lt_of_le (HS.out q hq) (hb).size, fun e => by have := HS.out q hq; have := (P.out.now (fun q hq => (hb).block q hq)).lt q e; omega⟩) (by rw [HLI.out]; simp; omega) (LL.out.le) ?_
      intro v1 w1P1 hO1 hat hbB hkk
      obtain ⟨AqP1, cqP1, rfl⟩ := hO1.form
      try simp only [List.nil_append] at hO1 hat ⊢
      simp only [HLI.out] at hO1 hat ⊢
      have hR1 := R.out.here
      obtain ⟨H1, hH⟩ : ∃ H, H = wd584.heap.size := ⟨_, rfl⟩
      rw [← hH] at hat hR1
      clear hH
      have hZ1 : ∀ q, (Value.slice AqP1 (j) cqP1).ownBlock = some q → q = gE ∨ q = H1 ∨ q = H1 := fun q h => by
       rcases hat with h2 | h2
       ·
        rw [h2] at h; have := hZE q h; omega
       rw [h2] at h; injection h with h; omega
      clear hat
      clear P
      replace V := dG V hkk (fun hh => by have := hZE _ hh; omega)
      replace Y := dG Y hkk (fun hh => by have := hZE _ hh; omega)
      replace Z := dG Z hkk (fun hh => by have := hZE _ hh; omega)
      replace R := dG R hkk (fun hh => by have := hZE _ hh; omega)
      replace O := Lib.hid (O.out.from0 hbB (show wc.heap.size ≤ L7 by omega))
      replace LL := Lib.hid (LL.out.from0 hbB (show L7 ≤ L7 by omega))
      replace hb := hb.trans (hbB.mono (show w.heap.size ≤ L7 by omega))
      have P := Lib.hid (OwnVals.kept0 hO1 (fun q hq => .inl (hq.elim False.elim (HS.out q))) hb)
      clear hO1 hbB hkk hZE
      try clear hHeld
      refine hK.out _ _ (⟨V.out.cell 6, d8 Z ((fun b o hlt => hb.cell (p := ⟨b, o, none⟩) hlt))⟩) (fun hHeld => ?_)
      clear hK K
      refine rdT1 (i := 7) (fun K hK => ?_)
      go_simp
      obtain ⟨wd586, hE587⟩ : ∃ ww, ww = w1P1.alloc (.cells #[.int .i64 t.kind, .bool t.bool, .int .i64 t.num, .string ⟨t.str.toArray⟩, .int .i64 t.id, .slice T1 t.keys.length e1, .slice T2 t.items.length e2, .slice T3 t.rest.length e3] 34) := ⟨_, rfl⟩
      rw [← hE587]
      have hb585 := aB hE587
      have N := aN hE587
      clear hE587
      have hl589 := V.out.here
      have hl590 := Y.out.here
      have hl591 := Z.out.here
      have hl592 := R.out.here
      have hl593 := O.out.le
      have hl594 := LL.out.le
      have hl595 := P.out.le
      have hl596 := hb.size
      replace V := dB V hb585
      replace Y := dB Y hb585
      replace Z := dB Z hb585
      replace R := dB R hb585
      replace O := dK O hb585
      replace LL := dK LL hb585
      replace P := dK P hb585
      replace hb := dT hb hb585
      clear hb585
      generalize w1P1.heap.size = g588 at *
      try clear hHeld
      refine hK.out _ _ (⟨V.out.cell 6, d8 Z ((fun b o hlt => hb.cell (p := ⟨b, o, none⟩) hlt))⟩) (fun hHeld => ?_)
      clear hK K
      refine rdT1 (i := 8) (fun K hK => ?_)
      refine step_append_vals (by rfl) _ _ (by rfl) (P.out.now (fun q hq => (hb).block q hq)) (by rfl) N.out (by rfl) (HZ.out.on0 HS.out hb).rd (fun q hq => ⟨Nat.lt_of_lt_of_le (HS.out q hq) (hb).size, fun e => by have := HS.out q hq; have := (P.out.now (fun q hq => (hb).block q hq)).lt q e; omega⟩) (by rw [HLI.out]; omega) (LL.out.le) ?_
      intro v1 w1P2 hO1 hat hbB hkk
      obtain ⟨AqP2, cqP2, rfl⟩ := hO1.form
      try simp only [List.nil_append] at hO1 hat ⊢
      simp only [HLI2.out] at hO1 hat ⊢
      have hR2 := R.out.here
      obtain ⟨H2, hH⟩ : ∃ H, H = wd586.heap.size := ⟨_, rfl⟩
      rw [← hH] at hat hR2
      clear hH
      have hZ2 : ∀ q, (Value.slice AqP2 (j + 1) cqP2).ownBlock = some q → q = gE ∨ q = H1 ∨ q = H2 := fun q h => by
       rcases hat with h2 | h2
       ·
        rw [h2] at h; have := hZ1 q h; omega
       rw [h2] at h; injection h with h; omega
      clear hat
      clear P
      clear N
      replace V := dG V hkk (fun hh => by have := hZ1 _ hh; omega)
      replace Y := dG Y hkk (fun hh => by have := hZ1 _ hh; omega)
      replace Z := dG Z hkk (fun hh => by have := hZ1 _ hh; omega)
      replace R := dG R hkk (fun hh => by have := hZ1 _ hh; omega)
      replace O := Lib.hid (O.out.from0 hbB (show wc.heap.size ≤ L7 by omega))
      replace LL := Lib.hid (LL.out.from0 hbB (show L7 ≤ L7 by omega))
      replace hb := hb.trans (hbB.mono (show w.heap.size ≤ L7 by omega))
      have P := Lib.hid (OwnVals.kept0 hO1 (fun q hq => .inl (hq.elim (fun hq => hq.elim False.elim (HS.out q)) (HS.out q))) hb)
      clear hO1 hbB hkk hZ1
      try clear hHeld
      refine hK.out _ _ (⟨V.out.cell 6, d8 Z ((fun b o hlt => hb.cell (p := ⟨b, o, none⟩) hlt))⟩) (fun hHeld => ?_)
      clear hK K
      refine rdT1 (i := 13) (fun K hK => ?_)
      simp only [HOI.out]
      refine step_append_many (b := bi) (o := _) (cp := (c2 - j)) (ys := v.items.drop j) (c := fun i => ci (j + i)) (by rfl) _ _ (by rfl) (P.out.now (fun q hq => (hb).block q hq)) (by rfl) (by rw [HLID.out]; rfl) (HI2.out _ hb).1 (HI2.out _ hb).2 (fun q hq => ⟨Nat.lt_of_lt_of_le (HS.out q hq) (hb).size, fun e => by have := HS.out q hq; have := (P.out.now (fun q hq => (hb).block q hq)).lt q e; omega⟩) (by rw [HLI2.out, HLID.out]; have := HN1.out; omega) (LL.out.le) ?_
      intro v1 w1P3 hO1 hat hbB hkk
      obtain ⟨AqP, cqP, rfl⟩ := hO1.form
      simp only [HLI3.out] at hO1 ⊢
      clear hat
      clear P
      replace V := dG V hkk (fun hh => by have := hZ2 _ hh; omega)
      replace Y := dG Y hkk (fun hh => by have := hZ2 _ hh; omega)
      replace Z := dG Z hkk (fun hh => by have := hZ2 _ hh; omega)
      replace R := dG R hkk (fun hh => by have := hZ2 _ hh; omega)
      replace O := Lib.hid (O.out.from0 hbB (show wc.heap.size ≤ L7 by omega))
      replace LL := Lib.hid (LL.out.from0 hbB (show L7 ≤ L7 by omega))
      replace hb := hb.trans (hbB.mono (show w.heap.size ≤ L7 by omega))
      have P := Lib.hid (OwnVals.kept0 hO1 (fun q hq => .inl (hq.elim (fun hq => hq.elim (fun hq => hq.elim False.elim (HS.out q)) (HS.out q)) (HS.out q))) hb)
      clear hO1 hbB hkk hZ2
      try clear hHeld
      refine hK.out _ _ (⟨V.out.cell 6, d8 Z ((fun b o hlt => hb.cell (p := ⟨b, o, none⟩) hlt))⟩) (fun hHeld => ?_)
      clear hK K
      refine tkT (i := 14) (v := ?k597) ?_
      simp only [put_laws2]
      refine rdTL (i := 15) (fun K hK => ?_)
      have cV_6 : w1P3.cell? ⟨w.heap.size, 6, none⟩ = some (.slice (some ⟨bi, oi, none⟩) v.items.length c2) := V.out.cell 6
      have fV_6 := V.out.free 6
      go_simp
      clear cV_6 fV_6
      obtain ⟨wd598, hE599⟩ : ∃ ww, ww = w1P3.setCell ⟨w.heap.size, 6, none⟩ (.slice AqP (v.keys.length + 1) cqP) := ⟨_, rfl⟩
      rw [← hE599]
      replace Y := dF Y hE599 (by omega)
      replace Z := dF Z hE599 (by omega)
      replace R := dF R hE599 (by omega)
      replace V : Hid (Has wd598 (w.heap.size) 34 #[.int .i64 v.kind, .bool v.bool, .int .i64 v.num, .string ⟨v.str.toArray⟩, .int .i64 v.id, .slice AqO (v.keys.length + 1) cqO, .slice AqP (v.keys.length + 1) cqP, .slice A3 v.rest.length c3]) := Lib.hid (by simpa using dS V hE599)
      replace O := kF O hE599 (by omega)
      replace LL := kF LL hE599 (by omega)
      replace P := kF P hE599 (by omega)
      replace hb := tF hb hE599 (by omega)
      clear hE599
      try clear hHeld
      refine hK.out _ _ ?_
      clear hK K
      refine wpAnyT_done (by kernel_rfl) ?_ _
      try clear hHeld
      go_wp2_with fail
      go_meet
      exact ⟨AqP, cqP, V.out, Y.out, Z.out, R.out, ⟨O.out.now, P.out.now⟩, hb⟩
     skip
     go_simp
     obtain ⟨wd601, hE602⟩ : ∃ ww, ww = wd584.alloc (.cells #[.int .i64 t.kind, .bool t.bool, .int .i64 t.num, .string ⟨t.str.toArray⟩, .int .i64 t.id, .slice T1 t.keys.length e1, .slice T2 t.items.length e2, .slice T3 t.rest.length e3] 34) := ⟨_, rfl⟩
     rw [← hE602]
     have hb600 := aB hE602
     have N := aN hE602
     clear hE602
     have hl604 := V.out.here
     have hl605 := Y.out.here
     have hl606 := Z.out.here
     have hl607 := R.out.here
     have hl608 := O.out.le
     have hl609 := LL.out.le
     have hl610 := P.out.le
     have hl611 := hb.size
     replace V := dB V hb600
     replace Y := dB Y hb600
     replace Z := dB Z hb600
     replace R := dB R hb600
     replace O := dK O hb600
     replace LL := dK LL hb600
     replace P := dK P hb600
     replace hb := dT hb hb600
     clear hb600
     generalize wd584.heap.size = g603 at *
     try clear hHeld
     refine hK.out _ _ (⟨V.out.cell 6, d8 Z ((fun b o hlt => hb.cell (p := ⟨b, o, none⟩) hlt))⟩) (fun hHeld => ?_)
     clear hK K
     refine rdT1 (i := 5) (fun K hK => ?_)
     refine step_append_many (b := bi) (o := oi) (cp := c2) (ys := v.items.take j) (c := ci) (by rfl) _ _ (by rfl) (P.out.now (fun q hq => (hb).block q hq)) (by rfl) (by rw [HLI.out]; rfl) (HI1.out _ hb).1 (HI1.out _ hb).2 (fun q hq => ⟨Nat.lt_of_lt_of_le (HS.out q hq) (hb).size, fun e => by have := HS.out q hq; have := (P.out.now (fun q hq => (hb).block q hq)).lt q e; omega⟩) (by rw [HLI.out]; simp; omega) (LL.out.le) ?_
     intro v1 w1P1 hO1 hat hbB hkk
     obtain ⟨AqP1, cqP1, rfl⟩ := hO1.form
     try simp only [List.nil_append] at hO1 hat ⊢
     simp only [HLI.out] at hO1 hat ⊢
     have hR1 := R.out.here
     obtain ⟨H1, hH⟩ : ∃ H, H = wd601.heap.size := ⟨_, rfl⟩
     rw [← hH] at hat hR1
     clear hH
     have hZ1 : ∀ q, (Value.slice AqP1 (j) cqP1).ownBlock = some q → q = gE ∨ q = H1 ∨ q = H1 := fun q h => by
      rcases hat with h2 | h2
      ·
       rw [h2] at h; have := hZE q h; omega
      rw [h2] at h; injection h with h; omega
     clear hat
     clear P
     replace V := dG V hkk (fun hh => by have := hZE _ hh; omega)
     replace Y := dG Y hkk (fun hh => by have := hZE _ hh; omega)
     replace Z := dG Z hkk (fun hh => by have := hZE _ hh; omega)
     replace R := dG R hkk (fun hh => by have := hZE _ hh; omega)
     replace N := dG N hkk (fun hh => by have := hZE _ hh; omega)
     replace O := Lib.hid (O.out.from0 hbB (show wc.heap.size ≤ L7 by omega))
     replace LL := Lib.hid (LL.out.from0 hbB (show L7 ≤ L7 by omega))
     replace hb := hb.trans (hbB.mono (show w.heap.size ≤ L7 by omega))
     have P := Lib.hid (OwnVals.kept0 hO1 (fun q hq => .inl (hq.elim False.elim (HS.out q))) hb)
     clear hO1 hbB hkk hZE
     try clear hHeld
     refine hK.out _ _ (⟨V.out.cell 6, d8 Z ((fun b o hlt => hb.cell (p := ⟨b, o, none⟩) hlt))⟩) (fun hHeld => ?_)
     clear hK K
     refine rdT1 (i := 8) (fun K hK => ?_)
     refine step_append_vals (by rfl) _ _ (by rfl) (P.out.now (fun q hq => (hb).block q hq)) (by rfl) N.out (by rfl) (HZ.out.on0 HS.out hb).rd (fun q hq => ⟨Nat.lt_of_lt_of_le (HS.out q hq) (hb).size, fun e => by have := HS.out q hq; have := (P.out.now (fun q hq => (hb).block q hq)).lt q e; omega⟩) (by rw [HLI.out]; omega) (LL.out.le) ?_
     intro v1 w1P2 hO1 hat hbB hkk
     obtain ⟨AqP2, cqP2, rfl⟩ := hO1.form
     try simp only [List.nil_append] at hO1 hat ⊢
     simp only [HLI2.out] at hO1 hat ⊢
     have hR2 := R.out.here
     obtain ⟨H2, hH⟩ : ∃ H, H = w1P1.heap.size := ⟨_, rfl⟩
     rw [← hH] at hat hR2
     clear hH
     have hZ2 : ∀ q, (Value.slice AqP2 (j + 1) cqP2).ownBlock = some q → q = gE ∨ q = H1 ∨ q = H2 := fun q h => by
      rcases hat with h2 | h2
      ·
       rw [h2] at h; have := hZ1 q h; omega
      rw [h2] at h; injection h with h; omega
     clear hat
     clear P
     clear N
     replace V := dG V hkk (fun hh => by have := hZ1 _ hh; omega)
     replace Y := dG Y hkk (fun hh => by have := hZ1 _ hh; omega)
     replace Z := dG Z hkk (fun hh => by have := hZ1 _ hh; omega)
     replace R := dG R hkk (fun hh => by have := hZ1 _ hh; omega)
     replace O := Lib.hid (O.out.from0 hbB (show wc.heap.size ≤ L7 by omega))
     replace LL := Lib.hid (LL.out.from0 hbB (show L7 ≤ L7 by omega))
     replace hb := hb.trans (hbB.mono (show w.heap.size ≤ L7 by omega))
     have P := Lib.hid (OwnVals.kept0 hO1 (fun q hq => .inl (hq.elim (fun hq => hq.elim False.elim (HS.out q)) (HS.out q))) hb)
     clear hO1 hbB hkk hZ1
     try clear hHeld
     refine hK.out _ _ (⟨V.out.cell 6, d8 Z ((fun b o hlt => hb.cell (p := ⟨b, o, none⟩) hlt))⟩) (fun hHeld => ?_)
     clear hK K
     refine rdT1 (i := 13) (fun K hK => ?_)
     simp only [HOI.out]
     refine step_append_many (b := bi) (o := _) (cp := (c2 - j)) (ys := v.items.drop j) (c := fun i => ci (j + i)) (by rfl) _ _ (by rfl) (P.out.now (fun q hq => (hb).block q hq)) (by rfl) (by rw [HLID.out]; rfl) (HI2.out _ hb).1 (HI2.out _ hb).2 (fun q hq => ⟨Nat.lt_of_lt_of_le (HS.out q hq) (hb).size, fun e => by have := HS.out q hq; have := (P.out.now (fun q hq => (hb).block q hq)).lt q e; omega⟩) (by rw [HLI2.out, HLID.out]; have := HN1.out; omega) (LL.out.le) ?_
     intro v1 w1P3 hO1 hat hbB hkk
     obtain ⟨AqP, cqP, rfl⟩ := hO1.form
     simp only [HLI3.out] at hO1 ⊢
     clear hat
     clear P
     replace V := dG V hkk (fun hh => by have := hZ2 _ hh; omega)
     replace Y := dG Y hkk (fun hh => by have := hZ2 _ hh; omega)
     replace Z := dG Z hkk (fun hh => by have := hZ2 _ hh; omega)
     replace R := dG R hkk (fun hh => by have := hZ2 _ hh; omega)
     replace O := Lib.hid (O.out.from0 hbB (show wc.heap.size ≤ L7 by omega))
     replace LL := Lib.hid (LL.out.from0 hbB (show L7 ≤ L7 by omega))
     replace hb := hb.trans (hbB.mono (show w.heap.size ≤ L7 by omega))
     have P := Lib.hid (OwnVals.kept0 hO1 (fun q hq => .inl (hq.elim (fun hq => hq.elim (fun hq => hq.elim False.elim (HS.out q)) (HS.out q)) (HS.out q))) hb)
     clear hO1 hbB hkk hZ2
     try clear hHeld
     refine hK.out _ _ (⟨V.out.cell 6, d8 Z ((fun b o hlt => hb.cell (p := ⟨b, o, none⟩) hlt))⟩) (fun hHeld => ?_)
     clear hK K
     refine tkT (i := 14) (v := ?k612) ?_
     simp only [put_laws2]
     refine rdTL (i := 15) (fun K hK => ?_)
     have cV_6 : w1P3.cell? ⟨w.heap.size, 6, none⟩ = some (.slice (some ⟨bi, oi, none⟩) v.items.length c2) := V.out.cell 6
     have fV_6 := V.out.free 6
     go_simp
     clear cV_6 fV_6
     obtain ⟨wd613, hE614⟩ : ∃ ww, ww = w1P3.setCell ⟨w.heap.size, 6, none⟩ (.slice AqP (v.keys.length + 1) cqP) := ⟨_, rfl⟩
     rw [← hE614]
     replace Y := dF Y hE614 (by omega)
     replace Z := dF Z hE614 (by omega)
     replace R := dF R hE614 (by omega)
     replace V : Hid (Has wd613 (w.heap.size) 34 #[.int .i64 v.kind, .bool v.bool, .int .i64 v.num, .string ⟨v.str.toArray⟩, .int .i64 v.id, .slice AqO (v.keys.length + 1) cqO, .slice AqP (v.keys.length + 1) cqP, .slice A3 v.rest.length c3]) := Lib.hid (by simpa using dS V hE614)
     replace O := kF O hE614 (by omega)
     replace LL := kF LL hE614 (by omega)
     replace P := kF P hE614 (by omega)
     replace hb := tF hb hE614 (by omega)
     clear hE614
     try clear hHeld
     refine hK.out _ _ ?_
     clear hK K
     refine wpAnyT_done (by kernel_rfl) ?_ _
     try clear hHeld
     go_wp2_with fail
     go_meet
     exact ⟨AqP, cqP, V.out, Y.out, Z.out, R.out, ⟨O.out.now, P.out.now⟩, hb⟩
    skip
    go_simp
    obtain ⟨wd616, hE617⟩ : ∃ ww, ww = wd573.alloc (.cells #[.int .i64 t.kind, .bool t.bool, .int .i64 t.num, .string ⟨t.str.toArray⟩, .int .i64 t.id, .slice T1 t.keys.length e1, .slice T2 t.items.length e2, .slice T3 t.rest.length e3] 34) := ⟨_, rfl⟩
    rw [← hE617]
    have hb615 := aB hE617
    have N := aN hE617
    clear hE617
    have hl619 := V.out.here
    have hl620 := Y.out.here
    have hl621 := Z.out.here
    have hl622 := R.out.here
    have hl623 := O.out.le
    have hl624 := LL.out.le
    have hl625 := hb.size
    replace V := dB V hb615
    replace Y := dB Y hb615
    replace Z := dB Z hb615
    replace R := dB R hb615
    replace O := dK O hb615
    replace LL := dK LL hb615
    replace hb := dT hb hb615
    clear hb615
    generalize wd573.heap.size = g618 at *
    try clear hHeld
    refine hK.out _ _ (⟨V.out.cell 6, d8 Z ((fun b o hlt => hb.cell (p := ⟨b, o, none⟩) hlt))⟩) (fun hHeld => ?_)
    clear hK K
    refine rdT1 (i := 0) (fun K hK => ?_)
    go_simp
    have hO0 := OwnVals.empty wd616 (L7) (LL.out.le)
    have hNE := N.out.here
    obtain ⟨gE, hgE⟩ : ∃ g, g = wd616.heap.size := ⟨_, rfl⟩
    rw [← hgE] at hO0 hNE
    have hb626 : Below wd616.heap.size wd616 (wd616.alloc (.cells #[] 34)) := (below_al (Below.refl _ _) (Nat.le_refl _) _)
    replace V := dB V hb626
    replace Y := dB Y hb626
    replace Z := dB Z hb626
    replace R := dB R hb626
    replace N := dB N hb626
    replace O := dK O hb626
    replace LL := dK LL hb626
    replace hb := dT hb hb626
    clear hb626
    generalize wd616.alloc (.cells #[] 34) = wd627 at *
    have hZE : ∀ q, (Value.slice (some ⟨gE, 0, none⟩) 0 0).ownBlock = some q → q = gE := fun q h => by injection h with h; exact h.symm
    have hgL := (hO0.lt gE rfl).1
    have hgU := (hO0.lt gE rfl).2
    have P := Lib.hid (OwnVals.kept0 hO0 (fun _ hq => hq.elim) hb)
    clear hO0
    simp only [← hgE]
    clear hgE
    try clear hHeld
    refine hK.out _ _ (⟨V.out.cell 6, d8 Z ((fun b o hlt => hb.cell (p := ⟨b, o, none⟩) hlt))⟩) (fun hHeld => ?_)
    clear hK K
    refine rdT1 (i := 5) (fun K hK => ?_)
    refine step_append_many (b := bi) (o := oi) (cp := c2) (ys := v.items.take j) (c := ci) (by rfl) _ _ (by rfl) (P.out.now (fun q hq => (hb).block q hq)) (by rfl) (by rw [HLI.out]; rfl) (HI1.out _ hb).1 (HI1.out _ hb).2 (fun q hq => ⟨Nat.lt_of_lt_of_le (HS.out q hq) (hb).size, fun e => by have := HS.out q hq; have := (P.out.now (fun q hq => (hb).block q hq)).lt q e; omega⟩) (by rw [HLI.out]; simp; omega) (LL.out.le) ?_
    intro v1 w1P1 hO1 hat hbB hkk
    obtain ⟨AqP1, cqP1, rfl⟩ := hO1.form
    try simp only [List.nil_append] at hO1 hat ⊢
    simp only [HLI.out] at hO1 hat ⊢
    have hR1 := R.out.here
    obtain ⟨H1, hH⟩ : ∃ H, H = wd627.heap.size := ⟨_, rfl⟩
    rw [← hH] at hat hR1
    clear hH
    have hZ1 : ∀ q, (Value.slice AqP1 (j) cqP1).ownBlock = some q → q = gE ∨ q = H1 ∨ q = H1 := fun q h => by
     rcases hat with h2 | h2
     ·
      rw [h2] at h; have := hZE q h; omega
     rw [h2] at h; injection h with h; omega
    clear hat
    clear P
    replace V := dG V hkk (fun hh => by have := hZE _ hh; omega)
    replace Y := dG Y hkk (fun hh => by have := hZE _ hh; omega)
    replace Z := dG Z hkk (fun hh => by have := hZE _ hh; omega)
    replace R := dG R hkk (fun hh => by have := hZE _ hh; omega)
    replace N := dG N hkk (fun hh => by have := hZE _ hh; omega)
    replace O := Lib.hid (O.out.from0 hbB (show wc.heap.size ≤ L7 by omega))
    replace LL := Lib.hid (LL.out.from0 hbB (show L7 ≤ L7 by omega))
    replace hb := hb.trans (hbB.mono (show w.heap.size ≤ L7 by omega))
    have P := Lib.hid (OwnVals.kept0 hO1 (fun q hq => .inl (hq.elim False.elim (HS.out q))) hb)
    clear hO1 hbB hkk hZE
    try clear hHeld
    refine hK.out _ _ (⟨V.out.cell 6, d8 Z ((fun b o hlt => hb.cell (p := ⟨b, o, none⟩) hlt))⟩) (fun hHeld => ?_)
    clear hK K
    refine rdT1 (i := 8) (fun K hK => ?_)
    refine step_append_vals (by rfl) _ _ (by rfl) (P.out.now (fun q hq => (hb).block q hq)) (by rfl) N.out (by rfl) (HZ.out.on0 HS.out hb).rd (fun q hq => ⟨Nat.lt_of_lt_of_le (HS.out q hq) (hb).size, fun e => by have := HS.out q hq; have := (P.out.now (fun q hq => (hb).block q hq)).lt q e; omega⟩) (by rw [HLI.out]; omega) (LL.out.le) ?_
    intro v1 w1P2 hO1 hat hbB hkk
    obtain ⟨AqP2, cqP2, rfl⟩ := hO1.form
    try simp only [List.nil_append] at hO1 hat ⊢
    simp only [HLI2.out] at hO1 hat ⊢
    have hR2 := R.out.here
    obtain ⟨H2, hH⟩ : ∃ H, H = w1P1.heap.size := ⟨_, rfl⟩
    rw [← hH] at hat hR2
    clear hH
    have hZ2 : ∀ q, (Value.slice AqP2 (j + 1) cqP2).ownBlock = some q → q = gE ∨ q = H1 ∨ q = H2 := fun q h => by
     rcases hat with h2 | h2
     ·
      rw [h2] at h; have := hZ1 q h; omega
     rw [h2] at h; injection h with h; omega
    clear hat
    clear P
    clear N
    replace V := dG V hkk (fun hh => by have := hZ1 _ hh; omega)
    replace Y := dG Y hkk (fun hh => by have := hZ1 _ hh; omega)
    replace Z := dG Z hkk (fun hh => by have := hZ1 _ hh; omega)
    replace R := dG R hkk (fun hh => by have := hZ1 _ hh; omega)
    replace O := Lib.hid (O.out.from0 hbB (show wc.heap.size ≤ L7 by omega))
    replace LL := Lib.hid (LL.out.from0 hbB (show L7 ≤ L7 by omega))
    replace hb := hb.trans (hbB.mono (show w.heap.size ≤ L7 by omega))
    have P := Lib.hid (OwnVals.kept0 hO1 (fun q hq => .inl (hq.elim (fun hq => hq.elim False.elim (HS.out q)) (HS.out q))) hb)
    clear hO1 hbB hkk hZ1
    try clear hHeld
    refine hK.out _ _ (⟨V.out.cell 6, d8 Z ((fun b o hlt => hb.cell (p := ⟨b, o, none⟩) hlt))⟩) (fun hHeld => ?_)
    clear hK K
    refine rdT1 (i := 13) (fun K hK => ?_)
    simp only [HOI.out]
    refine step_append_many (b := bi) (o := _) (cp := (c2 - j)) (ys := v.items.drop j) (c := fun i => ci (j + i)) (by rfl) _ _ (by rfl) (P.out.now (fun q hq => (hb).block q hq)) (by rfl) (by rw [HLID.out]; rfl) (HI2.out _ hb).1 (HI2.out _ hb).2 (fun q hq => ⟨Nat.lt_of_lt_of_le (HS.out q hq) (hb).size, fun e => by have := HS.out q hq; have := (P.out.now (fun q hq => (hb).block q hq)).lt q e; omega⟩) (by rw [HLI2.out, HLID.out]; have := HN1.out; omega) (LL.out.le) ?_
    intro v1 w1P3 hO1 hat hbB hkk
    obtain ⟨AqP, cqP, rfl⟩ := hO1.form
    simp only [HLI3.out] at hO1 ⊢
    clear hat
    clear P
    replace V := dG V hkk (fun hh => by have := hZ2 _ hh; omega)
    replace Y := dG Y hkk (fun hh => by have := hZ2 _ hh; omega)
    replace Z := dG Z hkk (fun hh => by have := hZ2 _ hh; omega)
    replace R := dG R hkk (fun hh => by have := hZ2 _ hh; omega)
    replace O := Lib.hid (O.out.from0 hbB (show wc.heap.size ≤ L7 by omega))
    replace LL := Lib.hid (LL.out.from0 hbB (show L7 ≤ L7 by omega))
    replace hb := hb.trans (hbB.mono (show w.heap.size ≤ L7 by omega))
    have P := Lib.hid (OwnVals.kept0 hO1 (fun q hq => .inl (hq.elim (fun hq => hq.elim (fun hq => hq.elim False.elim (HS.out q)) (HS.out q)) (HS.out q))) hb)
    clear hO1 hbB hkk hZ2
    try clear hHeld
    refine hK.out _ _ (⟨V.out.cell 6, d8 Z ((fun b o hlt => hb.cell (p := ⟨b, o, none⟩) hlt))⟩) (fun hHeld => ?_)
    clear hK K
    refine tkT (i := 14) (v := ?k628) ?_
    simp only [put_laws2]
    refine rdTL (i := 15) (fun K hK => ?_)
    have cV_6 : w1P3.cell? ⟨w.heap.size, 6, none⟩ = some (.slice (some ⟨bi, oi, none⟩) v.items.length c2) := V.out.cell 6
    have fV_6 := V.out.free 6
    go_simp
    clear cV_6 fV_6
    obtain ⟨wd629, hE630⟩ : ∃ ww, ww = w1P3.setCell ⟨w.heap.size, 6, none⟩ (.slice AqP (v.keys.length + 1) cqP) := ⟨_, rfl⟩
    rw [← hE630]
    replace Y := dF Y hE630 (by omega)
    replace Z := dF Z hE630 (by omega)
    replace R := dF R hE630 (by omega)
    replace V : Hid (Has wd629 (w.heap.size) 34 #[.int .i64 v.kind, .bool v.bool, .int .i64 v.num, .string ⟨v.str.toArray⟩, .int .i64 v.id, .slice AqO (v.keys.length + 1) cqO, .slice AqP (v.keys.length + 1) cqP, .slice A3 v.rest.length c3]) := Lib.hid (by simpa using dS V hE630)
    replace O := kF O hE630 (by omega)
    replace LL := kF LL hE630 (by omega)
    replace P := kF P hE630 (by omega)
    replace hb := tF hb hE630 (by omega)
    clear hE630
    try clear hHeld
    refine hK.out _ _ ?_
    clear hK K
    refine wpAnyT_done (by kernel_rfl) ?_ _
    try clear hHeld
    go_wp2_with fail
    go_meet
    exact ⟨AqP, cqP, V.out, Y.out, Z.out, R.out, ⟨O.out.now, P.out.now⟩, hb⟩
   case rest =>
    clear V Y Z R O LL
    obtain ⟨AqP, cqP, V, Y, Z, R, ⟨hO, hP⟩, hb⟩ := hcut
    replace V := Lib.hid V
    replace R := Lib.hid R
    have O := Lib.hid (OwnVals.kept0 (hO (fun q hq => (hb).block q hq)) (fun q hq => .inl (hq.elim (fun hq => hq.elim (fun hq => hq.elim False.elim (HS.out q)) (HS.out q)) (HS.out q))) hb)
    have P := Lib.hid (OwnVals.kept0 (OwnVals.low (hP (fun q hq => (hb).block q hq)) hL2) (fun q hq => .inl (hq.elim (fun hq => hq.elim (fun hq => hq.elim False.elim (HS.out q)) (HS.out q)) (HS.out q))) hb)
    clear hO hP hL1 hL2
    obtain ⟨cV_0, cV_1, cV_2, cV_3, cV_4, cV_5, cV_6, cV_7⟩ := V.out.c8
    go_upto_region 8 with fail
    go_wp2_with (refine wpList_store_row rfl 34 _ _ rfl (w.heap.size + 1 + 1 + 1) _ rfl rfl 34 _ R.out (by kernel_rfl) rfl (by simp [Value.oneCell']) ?_)
    clear cV_0 cV_1 cV_2 cV_3 cV_4 cV_5 cV_6 cV_7
    obtain ⟨wd631, hE632⟩ : ∃ ww, ww = wc.setRow (w.heap.size + 1 + 1 + 1) #[.int .i64 v.kind, .bool v.bool, .int .i64 v.num, .string ⟨v.str.toArray⟩, .int .i64 v.id, .slice AqO (v.keys.length + 1) cqO, .slice AqP (v.keys.length + 1) cqP, .slice A3 v.rest.length c3] := ⟨_, rfl⟩
    rw [← hE632]
    replace V := dR V hE632 (by omega)
    replace R := dO R hE632
    replace O := kR O hE632 (by omega)
    replace P := kR P hE632 (by omega)
    replace hb := tR hb hE632 (by omega)
    clear hE632
    obtain ⟨cR_0, cR_1, cR_2, cR_3, cR_4, cR_5, cR_6, cR_7⟩ := R.out.c8
    exact bodyPost_ret (v := .agg #[.int .i64 v.kind, .bool v.bool, .int .i64 v.num, .string ⟨v.str.toArray⟩, .int .i64 v.id, .slice AqO (v.keys.length + 1) cqO, .slice AqP (v.keys.length + 1) cqP, .slice A3 v.rest.length c3]) (by simp [results, Try.results68, go_sem, cR_0, cR_1, cR_2, cR_3, cR_4, cR_5, cR_6, cR_7]) rfl (⟨_, _, _, by rw [Hp.out]; rfl, by rw [Hp.out]; exact putP (HV.out.on0 HS.out hb) (O.out.now (fun q hq => (hb).block q hq)) (P.out.now (fun q hq => (hb).block q hq)) (by omega) (by omega) (fun q hq => hq.elim (fun hq => hq.elim (fun hq => hq.elim False.elim id) id) id) (fun q hq => hq.elim (fun hq => hq.elim (fun hq => hq.elim False.elim id) id) id) (by simp only [List.length_append, List.length_take, List.length_drop, List.length_singleton]; have := HN1.out; omega), hb⟩)
theorem put_any (v k t : Val) (S : Nat → Prop) (vk vi vr kk ki kr tk ti tr : Value) (w : World) (hS : ∀ b, S b → b < w.heap.size) (hv : ValP w S v vk vi vr) (hk : ValP w S k kk ki kr) (ht : ValP w S t tk ti tr) (h0 : v.keys = [] → vk = .slice none 0 0 ∧ vi = .slice none 0 0) (hn1 : v.items.length = v.keys.length) (hn2 : v.keys.length ≤ 100) :
  Calls Try.prog 68 #[valA v vk vi vr, valA k kk ki kr, valA t tk ti tr] w (PutPost w S (putV v k t)) := by
 by_cases h : v.keys = []
 ·
  exact put_nil v k t S vk vi vr kk ki kr tk ti tr w hS hv hk ht h (by rw [h] at hn1; exact List.eq_nil_of_length_eq_zero hn1) (h0 h).1 (h0 h).2
 exact put_cons v k t S vk vi vr kk ki kr tk ti tr w hS hv hk ht (Nat.pos_of_ne_zero fun e => h (List.eq_nil_of_length_eq_zero e)) hn1 hn2
end Go.Proofs.Ytgeapglanckjpaa

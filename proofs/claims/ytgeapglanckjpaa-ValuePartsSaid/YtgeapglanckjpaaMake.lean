/- What Make, Foreign and Of of sheaveref08 leave. No condition. -/
import Derived.Test.YtgeapglanckjpaaMadeQ
import Derived.Test.YtgeapglanckjpaaOpen8
set_option maxHeartbeats 800000
namespace Go.Proofs.Ytgeapglanckjpaa
open Go.ChangeShapes Go.WideShapes Go.ChangeAt Go.RowKit
theorem bytes_take {w : World} {B n c : Nat} {A : Option Addr} {l : List UInt8} (h : Rd w B 1 (.slice A n c) n (l.map B8)) (m : Nat) (hm : m ≤ n) (hn : l.length = n) : Rd w B 1 (.slice A m c) m ((l.take m).map B8) := by
 obtain ⟨h1, A', c', hv, hc, h2⟩ := h
 injection hv with h3 h4 h5
 subst h3 h5
 refine ⟨by simp; omega, _, _, rfl, by omega, ?_⟩
 rcases h2 with h2 | ⟨b, o, hA, hb, hcell⟩
 ·
  exact .inl (by omega)
 refine .inr ⟨b, o, hA, hb, fun j u hu => hcell j u ?_⟩
 have hj : j < m := by
  have := (List.getElem?_eq_some_iff.1 hu).1
  simp at this; omega
 rw [List.map_take, List.getElem?_take_of_lt hj] at hu
 exact hu
def MakePost (w : World) (ts : List Typ) (pl : Bool) (t : Int) (e : Ending) (w' : World) : Prop :=
 ∃ (x : Val) (vk vi vr : Value), e = .returned (valA x vk vi vr) ∧ ValP w' (fun b => w.heap.size ≤ b ∧ b < w'.heap.size) x vk vi vr ∧ fitV ts pl x t = true ∧ Below w.heap.size w w'
set_option maxRecDepth 100000 in
theorem make_any (xs : List Nod) (h5 : xs.length ≤ 5) (A : Option Addr) (c : Nat) (t : Nat) (ht : t < (ofN xs).length) (l : List UInt8) (va : Value) (w : World) (hl : l.length ≤ 140737488351232) (hr : Rd w w.heap.size 1 va l.length (l.map B8)) (hT : RdTyps w w.heap.size (.slice A (ofN xs).length c) (ofN xs)) :
  Calls Try.prog 17 #[.agg #[.slice A (ofN xs).length c], .int .i64 t, va] w (MakePost w (ofN xs) true t) := by
 obtain ⟨A2, c2, rfl, hc2⟩ := hr.form
 have hgt := made_all xs h5
 generalize ofN xs = ts at *
 obtain ⟨m, hm, hmin, hm60⟩ : ∃ m : Nat, m ≤ l.length ∧ (if (l.length : Int) < 60 then (l.length : Int) else 60) = (m : Int) ∧ m ≤ 60 := ⟨min 60 l.length, by omega, by split <;> omega, by omega⟩
 have hmc : (m : Int) ≤ c2 := by omega
 have hm0 : (0 : Int) ≤ (m : Int) := by omega
 have HR := Lib.hid (bytes_take hr m hm rfl)
 have HT := Lib.hid hT
 have HG := Lib.hid hgt
 clear hr hT hgt
 go_enter Try.func17, Try.ntmps17
 go_upto_region 1 with fail
 obtain ⟨wd1385, hE1386⟩ : ∃ ww, ww = w.alloc (.cells #[.slice A ts.length c] 30) := ⟨_, rfl⟩
 rw [← hE1386]
 have hb1384 := aB hE1386
 have S := aN hE1386
 obtain ⟨wd1387, hE1388⟩ : ∃ ww, ww = wd1385.alloc (.cells #[.int .i64 0, .bool false, .int .i64 0, .string ⟨#[]⟩, .int .i64 0, .slice none 0 0, .slice none 0 0, .slice none 0 0] 34) := ⟨_, rfl⟩
 rw [← hE1388]
 replace S := dB S (aB hE1388)
 replace hb1384 := dT hb1384 (aB hE1388)
 have R := aM hE1388 (aZ hE1386 rfl)
 clear hE1386 hE1388
 have hw1389 := hb1384
 clear hb1384
 have cS_0 : wd1387.cell? ⟨w.heap.size, 0, none⟩ = some (.slice A ts.length c) := S.out.cell 0
 refine wp_region_held_drew (S := (fun w' => w'.cell? ⟨w.heap.size, 0, none⟩ = some (.slice A ts.length c))) (by kernel_rfl) cS_0 (fun hHeld => ?_)
 clear cS_0
 have hb1390 : Below wd1387.heap.size wd1387 (wd1387.drew) := (Below.refl _ _).drew
 replace S := dB S hb1390
 replace R := dB R hb1390
 replace hw1389 := dT hw1389 hb1390
 clear hb1390
 generalize wd1387.drew = wd1391 at *
 refine tk (i := 0) (v := ?k1392) ?_
 simp only [put_laws2]
 refine tk (i := 1) (v := ?k1393) ?_
 simp only [put_laws2]
 refine tk (i := 2) (v := ?k1394) ?_
 simp only [put_laws2]
 refine tk (i := 3) (v := ?k1395) ?_
 simp only [put_laws2]
 refine rd1 (i := 4) (fun K hK => ?_)
 go_simp
 try clear hHeld
 refine hK.out _ _ (S.out.cell 0) (fun hHeld => ?_)
 clear hK K
 refine tk (i := 5) (v := ?k1396) ?_
 simp only [put_laws2]
 refine tk (i := 6) (v := ?k1397) ?_
 simp only [put_laws2]
 refine rd1 (i := 7) (fun K hK => ?_)
 go_simp
 obtain ⟨wd1399, hE1400⟩ : ∃ ww, ww = wd1391.alloc (.cells #[.slice A ts.length c, .slice A2 m c2, .bool false] 85) := ⟨_, rfl⟩
 rw [← hE1400]
 have hb1398 := aB hE1400
 have M := aN hE1400
 clear hE1400
 have hl1402 := S.out.here
 have hl1403 := R.out.here
 have hl1404 := hw1389.size
 replace S := dB S hb1398
 replace R := dB R hb1398
 replace hw1389 := dT hw1389 hb1398
 clear hb1398
 generalize wd1391.heap.size = g1401 at *
 try clear hHeld
 refine hK.out _ _ (S.out.cell 0) (fun hHeld => ?_)
 clear hK K
 refine tk (i := 8) (v := ?k1405) ?_
 simp only [put_laws2]
 refine wpAnyH_done (by kernel_rfl) ?_ _
 try clear hHeld
 obtain ⟨L0, hL0⟩ : ∃ L, L = wd1399.heap.size := ⟨_, rfl⟩
 have hLR : w.heap.size + 1 < L0 := hL0 ▸ R.out.here
 have hgm := M.out.here
 have hle := (hw1389).size
 have hgw : w.heap.size ≤ g1401 := by omega
 have hM : MkAt wd1399 w.heap.size g1401 (.slice A ts.length c) false (l.take m) := ⟨⟨A2, c2, by rw [List.length_take, Nat.min_eq_left hm]; exact M.out, by rw [List.length_take, Nat.min_eq_left hm]; exact HR.out.below (hw1389)⟩, hgw, by rw [List.length_take]; omega⟩
 have hcl := (HG.out w.heap.size g1401 A c false (7 * (l.take m).length + rankT ts t + 1)).at_ (l.take m) t wd1399 (by omega) ht hM (HT.out.keep (fun p hp => (hw1389).cell hp) (Nat.le_refl _))
 have HCL := Lib.hid hcl
 have HGM := Lib.hid hgm
 clear hcl hM
 go_wp2_with fail
 ((with_reducible refine (HCL.out).mono ?_); rintro e wd1406 ⟨x, xk, xi, xr, l', rfl, hx, hf, hT⟩)
 have hb := below_gr hT.gr (Nat.le_of_lt HGM.out)
 rw [← hL0] at hx
 clear M
 replace S := Lib.hid (S.out.below hb (show w.heap.size < g1401 by omega))
 replace R := Lib.hid (R.out.below hb (show w.heap.size + 1 < g1401 by omega))
 replace hw1389 := hw1389.trans (hb.mono (show w.heap.size ≤ g1401 by omega))
 clear hb hL0
 have HF := Lib.hid hf
 obtain ⟨X1, d1, X2, d2, X3, d3, rfl, rfl, rfl, -, -, -⟩ := hx.forms
 have hxk := hx.keptB (w0 := w) (B := w.heap.size) (L := L0) (fun _ h => .inr h) (fun k hk => (hw1389).block k hk)
 have X := Lib.hid (hxk)
 clear hx hxk hf
 go_wp2_with (refine wpList_store_row rfl 34 _ _ rfl (w.heap.size + 1) _ rfl rfl 34 _ R.out (by kernel_rfl) rfl (by simp [Value.oneCell']) ?_)
 obtain ⟨wd1408, hE1409⟩ : ∃ ww, ww = wd1406.setRow (w.heap.size + 1) #[.int .i64 x.kind, .bool x.bool, .int .i64 x.num, .string ⟨x.str.toArray⟩, .int .i64 x.id, .slice X1 x.keys.length d1, .slice X2 x.items.length d2, .slice X3 x.rest.length d3] := ⟨_, rfl⟩
 rw [← hE1409]
 replace S := dR S hE1409 (by omega)
 replace R := dO R hE1409
 replace X := kR X hE1409 (by omega)
 replace hw1389 := tR hw1389 hE1409 (by omega)
 clear hE1409
 have hxn := X.out.now (fun k hk => (hw1389).block k hk)
 have hxl := X.out.le
 have hxz := (hw1389).size
 obtain ⟨cR_0, cR_1, cR_2, cR_3, cR_4, cR_5, cR_6, cR_7⟩ := R.out.c8
 exact bodyPost_ret (v := valA x (.slice X1 x.keys.length d1) (.slice X2 x.items.length d2) (.slice X3 x.rest.length d3)) (by simp [results, Try.results17, go_sem, cR_0, cR_1, cR_2, cR_3, cR_4, cR_5, cR_6, cR_7]) rfl (⟨x, _, _, _, rfl, hxn.keep (fun _ _ => rfl) (fun q hq => by omega), HF.out, hw1389⟩)
set_option maxRecDepth 100000 in
theorem foreign_any (xs : List Nod) (h5 : xs.length ≤ 5) (A : Option Addr) (c : Nat) (t : Nat) (ht : t < (ofN xs).length) (l : List UInt8) (va : Value) (w : World) (hl : l.length ≤ 140737488351232) (hr : Rd w w.heap.size 1 va l.length (l.map B8)) (hT : RdTyps w w.heap.size (.slice A (ofN xs).length c) (ofN xs)) :
  Calls Try.prog 18 #[.agg #[.slice A (ofN xs).length c], .int .i64 t, va] w (MakePost w (ofN xs) false t) := by
 obtain ⟨A2, c2, rfl, hc2⟩ := hr.form
 have hgt := made_all xs h5
 generalize ofN xs = ts at *
 obtain ⟨m, hm, hmin, hm60⟩ : ∃ m : Nat, m ≤ l.length ∧ (if (l.length : Int) < 60 then (l.length : Int) else 60) = (m : Int) ∧ m ≤ 60 := ⟨min 60 l.length, by omega, by split <;> omega, by omega⟩
 have hmc : (m : Int) ≤ c2 := by omega
 have hm0 : (0 : Int) ≤ (m : Int) := by omega
 have HR := Lib.hid (bytes_take hr m hm rfl)
 have HT := Lib.hid hT
 have HG := Lib.hid hgt
 clear hr hT hgt
 go_enter Try.func18, Try.ntmps18
 go_upto_region 1 with fail
 obtain ⟨wd1411, hE1412⟩ : ∃ ww, ww = w.alloc (.cells #[.slice A ts.length c] 30) := ⟨_, rfl⟩
 rw [← hE1412]
 have hb1410 := aB hE1412
 have S := aN hE1412
 obtain ⟨wd1413, hE1414⟩ : ∃ ww, ww = wd1411.alloc (.cells #[.int .i64 0, .bool false, .int .i64 0, .string ⟨#[]⟩, .int .i64 0, .slice none 0 0, .slice none 0 0, .slice none 0 0] 34) := ⟨_, rfl⟩
 rw [← hE1414]
 replace S := dB S (aB hE1414)
 replace hb1410 := dT hb1410 (aB hE1414)
 have R := aM hE1414 (aZ hE1412 rfl)
 clear hE1412 hE1414
 have hw1415 := hb1410
 clear hb1410
 have cS_0 : wd1413.cell? ⟨w.heap.size, 0, none⟩ = some (.slice A ts.length c) := S.out.cell 0
 refine wp_region_held_drew (S := (fun w' => w'.cell? ⟨w.heap.size, 0, none⟩ = some (.slice A ts.length c))) (by kernel_rfl) cS_0 (fun hHeld => ?_)
 clear cS_0
 have hb1416 : Below wd1413.heap.size wd1413 (wd1413.drew) := (Below.refl _ _).drew
 replace S := dB S hb1416
 replace R := dB R hb1416
 replace hw1415 := dT hw1415 hb1416
 clear hb1416
 generalize wd1413.drew = wd1417 at *
 refine tk (i := 0) (v := ?k1418) ?_
 simp only [put_laws2]
 refine tk (i := 1) (v := ?k1419) ?_
 simp only [put_laws2]
 refine tk (i := 2) (v := ?k1420) ?_
 simp only [put_laws2]
 refine tk (i := 3) (v := ?k1421) ?_
 simp only [put_laws2]
 refine rd1 (i := 4) (fun K hK => ?_)
 go_simp
 try clear hHeld
 refine hK.out _ _ (S.out.cell 0) (fun hHeld => ?_)
 clear hK K
 refine tk (i := 5) (v := ?k1422) ?_
 simp only [put_laws2]
 refine tk (i := 6) (v := ?k1423) ?_
 simp only [put_laws2]
 refine rd1 (i := 7) (fun K hK => ?_)
 go_simp
 obtain ⟨wd1425, hE1426⟩ : ∃ ww, ww = wd1417.alloc (.cells #[.slice A ts.length c, .slice A2 m c2, .bool true] 85) := ⟨_, rfl⟩
 rw [← hE1426]
 have hb1424 := aB hE1426
 have M := aN hE1426
 clear hE1426
 have hl1428 := S.out.here
 have hl1429 := R.out.here
 have hl1430 := hw1415.size
 replace S := dB S hb1424
 replace R := dB R hb1424
 replace hw1415 := dT hw1415 hb1424
 clear hb1424
 generalize wd1417.heap.size = g1427 at *
 try clear hHeld
 refine hK.out _ _ (S.out.cell 0) (fun hHeld => ?_)
 clear hK K
 refine tk (i := 8) (v := ?k1431) ?_
 simp only [put_laws2]
 refine wpAnyH_done (by kernel_rfl) ?_ _
 try clear hHeld
 obtain ⟨L0, hL0⟩ : ∃ L, L = wd1425.heap.size := ⟨_, rfl⟩
 have hLR : w.heap.size + 1 < L0 := hL0 ▸ R.out.here
 have hgm := M.out.here
 have hle := (hw1415).size
 have hgw : w.heap.size ≤ g1427 := by omega
 have hM : MkAt wd1425 w.heap.size g1427 (.slice A ts.length c) true (l.take m) := ⟨⟨A2, c2, by rw [List.length_take, Nat.min_eq_left hm]; exact M.out, by rw [List.length_take, Nat.min_eq_left hm]; exact HR.out.below (hw1415)⟩, hgw, by rw [List.length_take]; omega⟩
 have hcl := (HG.out w.heap.size g1427 A c true (7 * (l.take m).length + rankT ts t + 1)).at_ (l.take m) t wd1425 (by omega) ht hM (HT.out.keep (fun p hp => (hw1415).cell hp) (Nat.le_refl _))
 have HCL := Lib.hid hcl
 have HGM := Lib.hid hgm
 clear hcl hM
 go_wp2_with fail
 ((with_reducible refine (HCL.out).mono ?_); rintro e wd1432 ⟨x, xk, xi, xr, l', rfl, hx, hf, hT⟩)
 have hb := below_gr hT.gr (Nat.le_of_lt HGM.out)
 rw [← hL0] at hx
 clear M
 replace S := Lib.hid (S.out.below hb (show w.heap.size < g1427 by omega))
 replace R := Lib.hid (R.out.below hb (show w.heap.size + 1 < g1427 by omega))
 replace hw1415 := hw1415.trans (hb.mono (show w.heap.size ≤ g1427 by omega))
 clear hb hL0
 have HF := Lib.hid hf
 obtain ⟨X1, d1, X2, d2, X3, d3, rfl, rfl, rfl, -, -, -⟩ := hx.forms
 have hxk := hx.keptB (w0 := w) (B := w.heap.size) (L := L0) (fun _ h => .inr h) (fun k hk => (hw1415).block k hk)
 have X := Lib.hid (hxk)
 clear hx hxk hf
 go_wp2_with (refine wpList_store_row rfl 34 _ _ rfl (w.heap.size + 1) _ rfl rfl 34 _ R.out (by kernel_rfl) rfl (by simp [Value.oneCell']) ?_)
 obtain ⟨wd1434, hE1435⟩ : ∃ ww, ww = wd1432.setRow (w.heap.size + 1) #[.int .i64 x.kind, .bool x.bool, .int .i64 x.num, .string ⟨x.str.toArray⟩, .int .i64 x.id, .slice X1 x.keys.length d1, .slice X2 x.items.length d2, .slice X3 x.rest.length d3] := ⟨_, rfl⟩
 rw [← hE1435]
 replace S := dR S hE1435 (by omega)
 replace R := dO R hE1435
 replace X := kR X hE1435 (by omega)
 replace hw1415 := tR hw1415 hE1435 (by omega)
 clear hE1435
 have hxn := X.out.now (fun k hk => (hw1415).block k hk)
 have hxl := X.out.le
 have hxz := (hw1415).size
 obtain ⟨cR_0, cR_1, cR_2, cR_3, cR_4, cR_5, cR_6, cR_7⟩ := R.out.c8
 exact bodyPost_ret (v := valA x (.slice X1 x.keys.length d1) (.slice X2 x.items.length d2) (.slice X3 x.rest.length d3)) (by simp [results, Try.results18, go_sem, cR_0, cR_1, cR_2, cR_3, cR_4, cR_5, cR_6, cR_7]) rfl (⟨x, _, _, _, rfl, hxn.keep (fun _ _ => rfl) (fun q hq => by omega), HF.out, hw1415⟩)
end Go.Proofs.Ytgeapglanckjpaa

/- awake of layer 10. No condition. -/
import Derived.Test.YtccmmibkihbobaaDoorExA
set_option maxHeartbeats 1600000
namespace Go.Proofs.YtccmmibkihbobaaDoor
open Go.ChangeShapes Go.WideShapes Go.ChangeAt Go.RowKit
theorem exDec {g : Nat} {W : World} (h : RdTyps W W.heap.size (.slice (some ⟨g, 0, none⟩) 4 4) exT) :
  Calls Tryd.prog 11 #[.agg #[.slice (some ⟨g, 0, none⟩) 4 4], .int .i64 0, .string ⟨#[2, 1, 3, 7, 2, 97, 98]⟩] W fun e w' => Below W.heap.size W w' ∧ ∃ vk vi vr, e = .returned (.tuple #[.agg #[.int .i64 5, .bool false, .int .i64 0, .string ⟨#[]⟩, .int .i64 0, vk, vi, vr], .int .i64 0]) ∧ ValP w' (NewB W w') exV vk vi vr := by
 have := decode_any exT _ 4 0 [2, 1, 3, 7, 2, 97, 98] W exSizes h
 rw [exR1] at this; exact this
theorem exExp {g : Nat} {W : World} (h : RdTyps W W.heap.size (.slice (some ⟨g, 0, none⟩) 4 4) exT) :
  Calls Tryd.prog 9 #[.agg #[.slice (some ⟨g, 0, none⟩) 4 4], .int .i64 0, .string ⟨#[2, 1, 99, 7, 0]⟩] W fun e w' => Below W.heap.size W w' ∧ ∃ fp, e = .returned (.tuple #[.agg #[fp, .int .i64 2], .int .i64 0]) ∧ w'.ownsRow W.heap.size 3 1 fp 1 [V64i 1] := by
 have := explain_any exT _ 4 0 [2, 1, 99, 7, 0] W exSizes h
 rw [exR2] at this; exact this
theorem exUnk {g : Nat} {W : World} (h : RdTyps W W.heap.size (.slice (some ⟨g, 0, none⟩) 4 4) exT) :
  Calls Tryd.prog 13 #[.agg #[.slice (some ⟨g, 0, none⟩) 4 4], .int .i64 0, .string ⟨#[2, 1, 3, 7, 2, 97, 98, 8, 1, 5]⟩] W fun e w' => e = .returned (.tuple #[.int .i64 1, .int .i64 0]) ∧ Below W.heap.size W w' := by
 have := unknown_any exT _ 4 0 [2, 1, 3, 7, 2, 97, 98, 8, 1, 5] W exSizes (fun v hv => by
  rw [exR3] at hv; injection hv with hv; injection hv with hv; subst hv; exact exR5) h
 rw [exR6] at this; exact this
theorem exAcc {g : Nat} {W : World} (h : RdTyps W W.heap.size (.slice (some ⟨g, 0, none⟩) 4 4) exT) :
  Calls Tryd.prog 14 #[.agg #[.slice (some ⟨g, 0, none⟩) 4 4], .int .i64 0, .string ⟨#[2, 1, 3, 7, 2, 97, 98, 9, 1, 5]⟩] W fun e w' => e = .returned (.bool false) ∧ Below W.heap.size W w' := by
 have := accepts_any exT _ 4 0 [2, 1, 3, 7, 2, 97, 98, 9, 1, 5] W exSizes h
 rw [exR4] at this; exact this
theorem exRea {fp : Value} {W : World} (hT : TabsR W) (h : Rd W W.heap.size 1 fp 1 [V64i 1]) :
  Calls Tryd.prog 7 #[.agg #[fp, .int .i64 2]] W fun e w' => e = .returned (.string ⟨#[49, 32, 114, 97, 110, 103, 101]⟩) ∧ Below W.heap.size W w' := by
 have := reason_any [1] fp 2 W (by simp) (by simp [I64]) h hT
 rw [exR7] at this; exact this
set_option maxRecDepth 100000 in
theorem awake_any (w : World) (hT : TabsR w) : Calls Tryd.prog 5 #[] w fun e w' => e = .returned (.bool true) ∧ Below w.heap.size w w' := by
 have HT := Lib.hid hT
 clear hT
 go_enter Tryd.func5, Tryd.ntmps5
 go_wp2_with fail
 ((with_reducible refine (example_any _).mono ?_); rintro e wd1 ⟨g1, rfl, hT1, hb2⟩)
 have hw3 := hb2
 clear hb2
 go_wp2_with fail
 obtain ⟨LX, hLX⟩ : ∃ n, n = (wd1).heap.size := ⟨_, rfl⟩
 have hzl := (hw3).size
 rw [← hLX] at hzl
 ((with_reducible refine (exDec hT1).mono ?_); rintro e wd4 ⟨hb5, vk, vi, vr, rfl, hv⟩)
 replace hw3 := dT hw3 hb5
 clear hb5
 clear hT1
 obtain ⟨A1, n1, A2, n2, A3, n3, rfl, rfl, rfl⟩ : ∃ A1 n1 A2 n2 A3 n3, vk = .slice A1 0 n1 ∧ vi = .slice A2 3 n2 ∧ vr = .slice A3 0 n3 := by
  obtain ⟨_, ⟨A1, n1, h1, _⟩, _⟩ := hv.keys
  obtain ⟨_, ⟨A2, n2, h2, _⟩, _⟩ := hv.items
  obtain ⟨_, A3, n3, h3, _⟩ := hv.rest
  exact ⟨A1, n1, A2, n2, A3, n3, h1, h2, h3⟩
 obtain ⟨BX, hBX⟩ : ∃ n, n = (wd4).heap.size := ⟨_, rfl⟩
 have N := Lib.hid (Kept.valB hv hLX hBX)
 clear hv hLX hBX
 have MV := Has.made wd4 45 #[.int .i64 0, .bool false, .int .i64 0, .string ⟨#[]⟩, .int .i64 0, .slice none 0 0, .slice none 0 0, .slice none 0 0]
 go_upto_region 2 with (refine wpList_store_row rfl 45 _ _ rfl wd4.heap.size _ rfl rfl 45 _ MV (by kernel_rfl) rfl (by simp [Value.oneCell']) ?_)
 clear MV
 obtain ⟨wd7, hE8⟩ : ∃ ww, ww = wd4.alloc (.cells #[.int .i64 0, .bool false, .int .i64 0, .string ⟨#[]⟩, .int .i64 0, .slice none 0 0, .slice none 0 0, .slice none 0 0] 45) := ⟨_, rfl⟩
 rw [← hE8]
 have hb6 := aB hE8
 have V := aN hE8
 clear hE8
 have hl10 := N.out.le
 have hl11 := hw3.size
 replace N := dK N hb6
 replace hw3 := dT hw3 hb6
 clear hb6
 generalize wd4.heap.size = g9 at *
 obtain ⟨wd12, hE13⟩ : ∃ ww, ww = wd7.setRow (g9) #[.int .i64 5, .bool false, .int .i64 0, .string ⟨#[]⟩, .int .i64 0, .slice A1 0 n1, .slice A2 3 n2, .slice A3 0 n3] := ⟨_, rfl⟩
 rw [← hE13]
 replace V := dO V hE13
 replace N := kR N hE13 (by omega)
 replace hw3 := tR hw3 hE13 (by omega)
 clear hE13
 obtain ⟨gV, rfl⟩ : ∃ g, g = g9 := ⟨_, rfl⟩
 go_wp2_with fail
 ((with_reducible refine (example_any _).mono ?_); rintro e wd14 ⟨g2, rfl, hT2, hb15⟩)
 replace V := dB V hb15
 replace N := dK N hb15
 replace hw3 := dT hw3 hb15
 clear hb15
 go_wp2_with fail
 obtain ⟨LY, hLY⟩ : ∃ n, n = (wd14).heap.size := ⟨_, rfl⟩
 have hvl := V.out.here
 have hwl := (hw3).size
 rw [← hLY] at hvl hwl
 ((with_reducible refine (exExp hT2).mono ?_); rintro e wd16 ⟨hb17, fp, rfl, hown⟩)
 replace V := dB V hb17
 replace N := dK N hb17
 replace hw3 := dT hw3 hb17
 clear hb17
 clear hT2
 obtain ⟨Af, cf, rfl⟩ := own_form hown
 rw [← hLY] at hown
 clear hLY
 obtain ⟨BY, hBY⟩ : ∃ n, n = (wd16).heap.size := ⟨_, rfl⟩
 have FP := Lib.hid (Kept.own_at hown hBY)
 clear hown hBY
 have MV := Has.made wd16 26 #[.slice none 0 0, .int .i64 0]
 go_upto_region 3 with (refine wpList_store_row rfl 26 _ _ rfl wd16.heap.size _ rfl rfl 26 _ MV (by kernel_rfl) rfl (by simp [Value.oneCell']) ?_)
 clear MV
 obtain ⟨wd19, hE20⟩ : ∃ ww, ww = wd16.alloc (.cells #[.slice none 0 0, .int .i64 0] 26) := ⟨_, rfl⟩
 rw [← hE20]
 have hb18 := aB hE20
 have F := aN hE20
 clear hE20
 have hl22 := V.out.here
 have hl23 := N.out.le
 have hl24 := FP.out.le
 have hl25 := hw3.size
 replace V := dB V hb18
 replace N := dK N hb18
 replace FP := dK FP hb18
 replace hw3 := dT hw3 hb18
 clear hb18
 generalize wd16.heap.size = g21 at *
 obtain ⟨wd26, hE27⟩ : ∃ ww, ww = wd19.setRow (g21) #[.slice Af 1 cf, .int .i64 2] := ⟨_, rfl⟩
 rw [← hE27]
 replace V := dR V hE27 (by omega)
 replace F := dO F hE27
 replace N := kR N hE27 (by omega)
 replace FP := kR FP hE27 (by omega)
 replace hw3 := tR hw3 hE27 (by omega)
 clear hE27
 obtain ⟨gF, rfl⟩ : ∃ g, g = g21 := ⟨_, rfl⟩
 go_wp2_with fail
 ((with_reducible refine (example_any _).mono ?_); rintro e wd28 ⟨g3, rfl, hT3, hb29⟩)
 replace V := dB V hb29
 replace F := dB F hb29
 replace N := dK N hb29
 replace FP := dK FP hb29
 replace hw3 := dT hw3 hb29
 clear hb29
 go_wp2_with fail
 ((with_reducible refine (exUnk hT3).mono ?_); rintro e wd30 ⟨rfl, hb31⟩)
 replace V := dB V hb31
 replace F := dB F hb31
 replace N := dK N hb31
 replace FP := dK FP hb31
 replace hw3 := dT hw3 hb31
 clear hb31
 clear hT3
 obtain ⟨cV_0, cV_1, cV_2, cV_3, cV_4, cV_5, cV_6, cV_7⟩ := V.out.c8
 go_upto_region 5 with fail
 have hv1 := ((N.out.now.newB (w := w) (by omega) N.out.le).at_ (fun b hb => by unfold NewB at hb; omega) : ValAt wd30 wd30.heap.size exV _ (.slice A2 3 n2) _)
 obtain ⟨b1, o1, rfl, hb1, hel⟩ := hv1.items.elem (by decide)
 obtain ⟨_, _, _, h1, _⟩ := hel 0 (by decide)
 obtain ⟨_, _, _, h2, _⟩ := hel 1 (by decide)
 obtain ⟨_, _, _, h3, _⟩ := hel 2 (by decide)
 have i1 : wd30.cell? ⟨b1, o1 + 2, none⟩ = some (.int .i64 (-2)) := h1.2.2.1
 have i2 : wd30.cell? ⟨b1, o1 + 8 + 2, none⟩ = some (.int .i64 3) := h2.2.2.1
 have i3 : wd30.cell? ⟨b1, o1 + 16 + 3, none⟩ = some (.string ⟨#[97, 98]⟩) := h3.2.2.2.1
 clear hv1 hel h1 h2 h3
 have cF_0 : wd30.cell? ⟨gF, 0, none⟩ = some (.slice Af 1 cf) := F.out.cell 0
 have cF_1 : wd30.cell? ⟨gF, 1, none⟩ = some (.int .i64 2) := F.out.cell 1
 go_wp2_with fail
 clear cV_0 cV_1 cV_2 cV_3 cV_4 cV_5 cV_6 cV_7 cF_0 cF_1
 ((with_reducible refine (exRea (HT.out.on hw3) (Rd.of_own FP.out.now)).mono ?_); rintro e wd32 ⟨rfl, hb33⟩)
 replace V := dB V hb33
 replace F := dB F hb33
 replace N := dK N hb33
 replace FP := dK FP hb33
 replace hw3 := dT hw3 hb33
 clear hb33
 clear i1 i2 i3
 go_wp2_with fail
 ((with_reducible refine (example_any _).mono ?_); rintro e wd34 ⟨g4, rfl, hT4, hb35⟩)
 replace V := dB V hb35
 replace F := dB F hb35
 replace N := dK N hb35
 replace FP := dK FP hb35
 replace hw3 := dT hw3 hb35
 clear hb35
 go_wp2_with fail
 ((with_reducible refine (exAcc hT4).mono ?_); rintro e wd36 ⟨rfl, hb37⟩)
 replace V := dB V hb37
 replace F := dB F hb37
 replace N := dK N hb37
 replace FP := dK FP hb37
 replace hw3 := dT hw3 hb37
 clear hb37
 clear hT4
 go_wp2_with fail
 go_ret
 exact ⟨rfl, hw3⟩
end Go.Proofs.YtccmmibkihbobaaDoor

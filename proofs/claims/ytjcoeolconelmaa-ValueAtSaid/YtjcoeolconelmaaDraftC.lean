/- What initial computes for a draft. No condition. -/
import Derived.Test.YtjcoeolconelmaaDraftB
import Derived.Test.YtjcoeolconelmaaDsl
namespace Go.Proofs.Ytjcoeolconelmaa
open Go.ChangeShapes Go.WideShapes Go.ChangeAt Go.RowKit

abbrev valN (x : Val) : Value := .agg #[.int .i64 x.kind, .bool x.bool, .int .i64 x.num, .string ⟨x.str.toArray⟩, .int .i64 x.id, .slice none 0 0, .slice none 0 0, .slice none 0 0]
set_option maxRecDepth 100000 in
set_option maxHeartbeats 1000000 in
theorem initial1 (xs : List Nod) (vn : Value) (t code : Nat) (w : World) (h5 : 0 < xs.length ∧ xs.length ≤ 5) (ht : t < xs.length) (hk : kindN xs[t] = 1) (hr : RdNods w w.heap.size vn xs) :
    Calls Try.prog 66 #[.agg #[vn], .int .i64 t, .int .u8 code] w fun e w' => e = .returned (.tuple #[valN (initialN xs t code).1, .bool (initialN xs t code).2]) ∧ Below w.heap.size w w' := by
  have hin : initialN xs t code = (.mk 1 (decide (code % 2 = 1)) 0 [] 0 [] [] [], true) := by
    unfold initialN
    rw [List.getElem?_eq_getElem ht]
    simp [hk]
  obtain ⟨A, c, rfl, hcap⟩ := hr.form
  have HR := Lib.hid hr
  have hki := fun W h => kind_any xs (.slice A xs.length c) t W ht h
  rw [hk] at hki
  have HI := Lib.hid hki
  have HN := Lib.hid hin
  obtain ⟨b, o, rfl, hb, hel⟩ := hr.elem h5.1
  obtain ⟨vp, hcs, hn⟩ := hel t ht
  obtain ⟨P, cp, rfl, hcp⟩ := hn.parts.form
  obtain ⟨n0, n1, n2, n3, n4⟩ := hcs
  have ht1 : (t : Int) < xs.length := by omega
  clear hel hr hki hin hk
  generalize xs[t] = x at *
  go_enter Try.func66, Try.ntmps66
  go_upto_region 2 with fail
  have hb1 := below_al (below_al (below_al (Below.refl w.heap.size w) (Nat.le_refl _) (.cells #[.slice (some ⟨b, o, none⟩) xs.length c] 24)) (Nat.le_refl _) (.cells #[.int .i64 0, .bool false, .int .i64 0, .string ⟨#[]⟩, .int .i64 0, .slice none 0 0, .slice none 0 0, .slice none 0 0] 28)) (Nat.le_refl _) (.cells #[.int .u8 x.kind, .int .u8 x.a, .int .u8 x.b, .int .u8 x.c, .slice P x.parts.length cp] 62)
  have D := ((Has.made w 24 #[.slice (some ⟨b, o, none⟩) xs.length c]).alloc (.cells #[.int .i64 0, .bool false, .int .i64 0, .string ⟨#[]⟩, .int .i64 0, .slice none 0 0, .slice none 0 0, .slice none 0 0] 28)).alloc (.cells #[.int .u8 x.kind, .int .u8 x.a, .int .u8 x.b, .int .u8 x.c, .slice P x.parts.length cp] 62)
  have R := (Has.made (w.alloc (.cells #[.slice (some ⟨b, o, none⟩) xs.length c] 24)) 28 #[.int .i64 0, .bool false, .int .i64 0, .string ⟨#[]⟩, .int .i64 0, .slice none 0 0, .slice none 0 0, .slice none 0 0]).alloc (.cells #[.int .u8 x.kind, .int .u8 x.a, .int .u8 x.b, .int .u8 x.c, .slice P x.parts.length cp] 62)
  have N := Has.made ((w.alloc (.cells #[.slice (some ⟨b, o, none⟩) xs.length c] 24)).alloc (.cells #[.int .i64 0, .bool false, .int .i64 0, .string ⟨#[]⟩, .int .i64 0, .slice none 0 0, .slice none 0 0, .slice none 0 0] 28)) 62 #[.int .u8 x.kind, .int .u8 x.a, .int .u8 x.b, .int .u8 x.c, .slice P x.parts.length cp]
  simp only [alloc_hz] at R N
  have hw2 := hb1
  replace D := Lib.hid D
  replace R := Lib.hid R
  replace N := Lib.hid N
  clear hb1
  generalize (((w.alloc (.cells #[.slice (some ⟨b, o, none⟩) xs.length c] 24)).alloc (.cells #[.int .i64 0, .bool false, .int .i64 0, .string ⟨#[]⟩, .int .i64 0, .slice none 0 0, .slice none 0 0, .slice none 0 0] 28)).alloc (.cells #[.int .u8 x.kind, .int .u8 x.a, .int .u8 x.b, .int .u8 x.c, .slice P x.parts.length cp] 62)) = wd3 at *
  clear n0 n1 n2 n3 n4
  have cD_0 : wd3.cell? ⟨w.heap.size, 0, none⟩ = some (.slice (some ⟨b, o, none⟩) xs.length c) := D.out.cell 0
  go_wp2_with fail
  clear cD_0
  ((with_reducible refine (HI.out _ (HR.out.on hw2)).mono ?_); rintro e wd4 ⟨rfl, hb5⟩)
  replace D := Lib.hid (D.out.below hb5 D.out.here)
  replace R := Lib.hid (R.out.below hb5 R.out.here)
  replace N := Lib.hid (N.out.below hb5 N.out.here)
  replace hw2 := hw2.trans (hb5.mono hw2.size)
  clear hb5
  go_upto_region 3 with fail
  have hb6 := below_al (Below.refl wd4.heap.size wd4) (Nat.le_refl _) (.cells #[.int .i64 1, .bool false, .int .i64 0, .string ⟨#[]⟩, .int .i64 0, .slice none 0 0, .slice none 0 0, .slice none 0 0] 28)
  have V := Has.made wd4 28 #[.int .i64 1, .bool false, .int .i64 0, .string ⟨#[]⟩, .int .i64 0, .slice none 0 0, .slice none 0 0, .slice none 0 0]
  have hl8 := D.out.here
  have hl9 := R.out.here
  have hl10 := N.out.here
  have hl11 := hw2.size
  replace D := Lib.hid (D.out.below hb6 D.out.here)
  replace R := Lib.hid (R.out.below hb6 R.out.here)
  replace N := Lib.hid (N.out.below hb6 N.out.here)
  replace hw2 := hw2.trans (hb6.mono hw2.size)
  replace V := Lib.hid V
  clear hb6
  generalize (wd4.alloc (.cells #[.int .i64 1, .bool false, .int .i64 0, .string ⟨#[]⟩, .int .i64 0, .slice none 0 0, .slice none 0 0, .slice none 0 0] 28)) = wd12 at *
  generalize wd4.heap.size = g7 at *
  have tc : (((code : Int) % 2) == 1) = decide (code % 2 = 1) := by rw [Bool.eq_iff_iff]; simp; omega
  have cV_0 : wd12.cell? ⟨g7, 0, none⟩ = some (.int .i64 1) := V.out.cell 0
  have cV_1 : wd12.cell? ⟨g7, 1, none⟩ = some (.bool false) := V.out.cell 1
  have fV_1 := V.out.free 1
  go_upto_region 18 with fail
  clear cV_0 cV_1 fV_1
  replace D := Lib.hid (D.out.far (p := ⟨g7, 1, none⟩) (show w.heap.size ≠ g7 by omega) (.bool (decide (code % 2 = 1))))
  replace R := Lib.hid (R.out.far (p := ⟨g7, 1, none⟩) (show w.heap.size + 1 ≠ g7 by omega) (.bool (decide (code % 2 = 1))))
  replace N := Lib.hid (N.out.far (p := ⟨g7, 1, none⟩) (show w.heap.size + 1 + 1 ≠ g7 by omega) (.bool (decide (code % 2 = 1))))
  replace V : Hid (Has (wd12.setCell ⟨g7, 1, none⟩ (.bool (decide (code % 2 = 1)))) (g7) 28 #[.int .i64 1, .bool (decide (code % 2 = 1)), .int .i64 0, .string ⟨#[]⟩, .int .i64 0, .slice none 0 0, .slice none 0 0, .slice none 0 0]) := Lib.hid (by have h := V.out.set 1 (.bool (decide (code % 2 = 1))); simpa using h)
  replace hw2 := below_set hw2 (show w.heap.size ≤ g7 by omega) 1 (.bool (decide (code % 2 = 1)))
  generalize wd12.setCell ⟨g7, 1, none⟩ (.bool (decide (code % 2 = 1))) = wd13 at *
  have cV_0 : wd13.cell? ⟨g7, 0, none⟩ = some (.int .i64 1) := V.out.cell 0
  have cV_1 : wd13.cell? ⟨g7, 1, none⟩ = some (.bool (decide (code % 2 = 1))) := V.out.cell 1
  have cV_2 : wd13.cell? ⟨g7, 2, none⟩ = some (.int .i64 0) := V.out.cell 2
  have cV_3 : wd13.cell? ⟨g7, 3, none⟩ = some (.string ⟨#[]⟩) := V.out.cell 3
  have cV_4 : wd13.cell? ⟨g7, 4, none⟩ = some (.int .i64 0) := V.out.cell 4
  have cV_5 : wd13.cell? ⟨g7, 5, none⟩ = some (.slice none 0 0) := V.out.cell 5
  have cV_6 : wd13.cell? ⟨g7, 6, none⟩ = some (.slice none 0 0) := V.out.cell 6
  have cV_7 : wd13.cell? ⟨g7, 7, none⟩ = some (.slice none 0 0) := V.out.cell 7
  go_upto_region 18 with fail
  go_wp2_with (refine wpList_store_row rfl 28 _ _ rfl (w.heap.size + 1) _ rfl rfl 28 _ R.out (by kernel_rfl) rfl (by simp [Value.oneCell']) ?_)
  clear cV_0 cV_1 cV_2 cV_3 cV_4 cV_5 cV_6 cV_7
  replace D := Lib.hid (has_row (cs' := #[.int .i64 1, .bool (decide (code % 2 = 1)), .int .i64 0, .string ⟨#[]⟩, .int .i64 0, .slice none 0 0, .slice none 0 0, .slice none 0 0]) D.out (show w.heap.size ≠ w.heap.size + 1 by omega))
  replace N := Lib.hid (has_row (cs' := #[.int .i64 1, .bool (decide (code % 2 = 1)), .int .i64 0, .string ⟨#[]⟩, .int .i64 0, .slice none 0 0, .slice none 0 0, .slice none 0 0]) N.out (show w.heap.size + 1 + 1 ≠ w.heap.size + 1 by omega))
  replace V := Lib.hid (has_row (cs' := #[.int .i64 1, .bool (decide (code % 2 = 1)), .int .i64 0, .string ⟨#[]⟩, .int .i64 0, .slice none 0 0, .slice none 0 0, .slice none 0 0]) V.out (show g7 ≠ w.heap.size + 1 by omega))
  replace R : Hid (Has (wd13.setRow (w.heap.size + 1) #[.int .i64 1, .bool (decide (code % 2 = 1)), .int .i64 0, .string ⟨#[]⟩, .int .i64 0, .slice none 0 0, .slice none 0 0, .slice none 0 0]) (w.heap.size + 1) 28 #[.int .i64 1, .bool (decide (code % 2 = 1)), .int .i64 0, .string ⟨#[]⟩, .int .i64 0, .slice none 0 0, .slice none 0 0, .slice none 0 0]) := Lib.hid (row_has R.out _)
  replace hw2 := below_setRow hw2 (show w.heap.size ≤ w.heap.size + 1 by omega) #[.int .i64 1, .bool (decide (code % 2 = 1)), .int .i64 0, .string ⟨#[]⟩, .int .i64 0, .slice none 0 0, .slice none 0 0, .slice none 0 0]
  generalize wd13.setRow (w.heap.size + 1) #[.int .i64 1, .bool (decide (code % 2 = 1)), .int .i64 0, .string ⟨#[]⟩, .int .i64 0, .slice none 0 0, .slice none 0 0, .slice none 0 0] = wd14 at *
  have cR_0 : wd14.cell? ⟨w.heap.size + 1, 0, none⟩ = some (.int .i64 1) := R.out.cell 0
  have cR_1 : wd14.cell? ⟨w.heap.size + 1, 1, none⟩ = some (.bool (decide (code % 2 = 1))) := R.out.cell 1
  have cR_2 : wd14.cell? ⟨w.heap.size + 1, 2, none⟩ = some (.int .i64 0) := R.out.cell 2
  have cR_3 : wd14.cell? ⟨w.heap.size + 1, 3, none⟩ = some (.string ⟨#[]⟩) := R.out.cell 3
  have cR_4 : wd14.cell? ⟨w.heap.size + 1, 4, none⟩ = some (.int .i64 0) := R.out.cell 4
  have cR_5 : wd14.cell? ⟨w.heap.size + 1, 5, none⟩ = some (.slice none 0 0) := R.out.cell 5
  have cR_6 : wd14.cell? ⟨w.heap.size + 1, 6, none⟩ = some (.slice none 0 0) := R.out.cell 6
  have cR_7 : wd14.cell? ⟨w.heap.size + 1, 7, none⟩ = some (.slice none 0 0) := R.out.cell 7
  exact bodyPost_ret (v := .tuple #[.agg #[.int .i64 1, .bool (decide (code % 2 = 1)), .int .i64 0, .string ⟨#[]⟩, .int .i64 0, .slice none 0 0, .slice none 0 0, .slice none 0 0], .bool true]) (by simp [results, Try.results66, go_sem, cR_0, cR_1, cR_2, cR_3, cR_4, cR_5, cR_6, cR_7]) rfl (⟨by rw [HN.out]; rfl, hw2⟩)
set_option maxRecDepth 100000 in
set_option maxHeartbeats 1000000 in
theorem initial7 (xs : List Nod) (vn : Value) (t code : Nat) (w : World) (h5 : 0 < xs.length ∧ xs.length ≤ 5) (ht : t < xs.length) (hk : kindN xs[t] = 7) (hr : RdNods w w.heap.size vn xs) :
    Calls Try.prog 66 #[.agg #[vn], .int .i64 t, .int .u8 code] w fun e w' => e = .returned (.tuple #[valN (initialN xs t code).1, .bool (initialN xs t code).2]) ∧ Below w.heap.size w w' := by
  have hin : initialN xs t code = (.mk 7 false 0 [] 0 [] [] [], true) := by
    unfold initialN
    rw [List.getElem?_eq_getElem ht]
    simp [hk]
  obtain ⟨A, c, rfl, hcap⟩ := hr.form
  have HR := Lib.hid hr
  have hki := fun W h => kind_any xs (.slice A xs.length c) t W ht h
  rw [hk] at hki
  have HI := Lib.hid hki
  have HN := Lib.hid hin
  obtain ⟨b, o, rfl, hb, hel⟩ := hr.elem h5.1
  obtain ⟨vp, hcs, hn⟩ := hel t ht
  obtain ⟨P, cp, rfl, hcp⟩ := hn.parts.form
  obtain ⟨n0, n1, n2, n3, n4⟩ := hcs
  have ht1 : (t : Int) < xs.length := by omega
  clear hel hr hki hin hk
  generalize xs[t] = x at *
  go_enter Try.func66, Try.ntmps66
  go_upto_region 2 with fail
  have hb15 := below_al (below_al (below_al (Below.refl w.heap.size w) (Nat.le_refl _) (.cells #[.slice (some ⟨b, o, none⟩) xs.length c] 24)) (Nat.le_refl _) (.cells #[.int .i64 0, .bool false, .int .i64 0, .string ⟨#[]⟩, .int .i64 0, .slice none 0 0, .slice none 0 0, .slice none 0 0] 28)) (Nat.le_refl _) (.cells #[.int .u8 x.kind, .int .u8 x.a, .int .u8 x.b, .int .u8 x.c, .slice P x.parts.length cp] 62)
  have D := ((Has.made w 24 #[.slice (some ⟨b, o, none⟩) xs.length c]).alloc (.cells #[.int .i64 0, .bool false, .int .i64 0, .string ⟨#[]⟩, .int .i64 0, .slice none 0 0, .slice none 0 0, .slice none 0 0] 28)).alloc (.cells #[.int .u8 x.kind, .int .u8 x.a, .int .u8 x.b, .int .u8 x.c, .slice P x.parts.length cp] 62)
  have R := (Has.made (w.alloc (.cells #[.slice (some ⟨b, o, none⟩) xs.length c] 24)) 28 #[.int .i64 0, .bool false, .int .i64 0, .string ⟨#[]⟩, .int .i64 0, .slice none 0 0, .slice none 0 0, .slice none 0 0]).alloc (.cells #[.int .u8 x.kind, .int .u8 x.a, .int .u8 x.b, .int .u8 x.c, .slice P x.parts.length cp] 62)
  have N := Has.made ((w.alloc (.cells #[.slice (some ⟨b, o, none⟩) xs.length c] 24)).alloc (.cells #[.int .i64 0, .bool false, .int .i64 0, .string ⟨#[]⟩, .int .i64 0, .slice none 0 0, .slice none 0 0, .slice none 0 0] 28)) 62 #[.int .u8 x.kind, .int .u8 x.a, .int .u8 x.b, .int .u8 x.c, .slice P x.parts.length cp]
  simp only [alloc_hz] at R N
  have hw16 := hb15
  replace D := Lib.hid D
  replace R := Lib.hid R
  replace N := Lib.hid N
  clear hb15
  generalize (((w.alloc (.cells #[.slice (some ⟨b, o, none⟩) xs.length c] 24)).alloc (.cells #[.int .i64 0, .bool false, .int .i64 0, .string ⟨#[]⟩, .int .i64 0, .slice none 0 0, .slice none 0 0, .slice none 0 0] 28)).alloc (.cells #[.int .u8 x.kind, .int .u8 x.a, .int .u8 x.b, .int .u8 x.c, .slice P x.parts.length cp] 62)) = wd17 at *
  clear n0 n1 n2 n3 n4
  have cD_0 : wd17.cell? ⟨w.heap.size, 0, none⟩ = some (.slice (some ⟨b, o, none⟩) xs.length c) := D.out.cell 0
  go_wp2_with fail
  clear cD_0
  ((with_reducible refine (HI.out _ (HR.out.on hw16)).mono ?_); rintro e wd18 ⟨rfl, hb19⟩)
  replace D := Lib.hid (D.out.below hb19 D.out.here)
  replace R := Lib.hid (R.out.below hb19 R.out.here)
  replace N := Lib.hid (N.out.below hb19 N.out.here)
  replace hw16 := hw16.trans (hb19.mono hw16.size)
  clear hb19
  go_upto_region 3 with fail
  have hb20 := below_al (Below.refl wd18.heap.size wd18) (Nat.le_refl _) (.cells #[.int .i64 7, .bool false, .int .i64 0, .string ⟨#[]⟩, .int .i64 0, .slice none 0 0, .slice none 0 0, .slice none 0 0] 28)
  have V := Has.made wd18 28 #[.int .i64 7, .bool false, .int .i64 0, .string ⟨#[]⟩, .int .i64 0, .slice none 0 0, .slice none 0 0, .slice none 0 0]
  have hl22 := D.out.here
  have hl23 := R.out.here
  have hl24 := N.out.here
  have hl25 := hw16.size
  replace D := Lib.hid (D.out.below hb20 D.out.here)
  replace R := Lib.hid (R.out.below hb20 R.out.here)
  replace N := Lib.hid (N.out.below hb20 N.out.here)
  replace hw16 := hw16.trans (hb20.mono hw16.size)
  replace V := Lib.hid V
  clear hb20
  generalize (wd18.alloc (.cells #[.int .i64 7, .bool false, .int .i64 0, .string ⟨#[]⟩, .int .i64 0, .slice none 0 0, .slice none 0 0, .slice none 0 0] 28)) = wd26 at *
  generalize wd18.heap.size = g21 at *
  have cV_0 : wd26.cell? ⟨g21, 0, none⟩ = some (.int .i64 7) := V.out.cell 0
  have cV_1 : wd26.cell? ⟨g21, 1, none⟩ = some (.bool false) := V.out.cell 1
  have cV_2 : wd26.cell? ⟨g21, 2, none⟩ = some (.int .i64 0) := V.out.cell 2
  have cV_3 : wd26.cell? ⟨g21, 3, none⟩ = some (.string ⟨#[]⟩) := V.out.cell 3
  have cV_4 : wd26.cell? ⟨g21, 4, none⟩ = some (.int .i64 0) := V.out.cell 4
  have cV_5 : wd26.cell? ⟨g21, 5, none⟩ = some (.slice none 0 0) := V.out.cell 5
  have cV_6 : wd26.cell? ⟨g21, 6, none⟩ = some (.slice none 0 0) := V.out.cell 6
  have cV_7 : wd26.cell? ⟨g21, 7, none⟩ = some (.slice none 0 0) := V.out.cell 7
  go_upto_region 18 with fail
  go_wp2_with (refine wpList_store_row rfl 28 _ _ rfl (w.heap.size + 1) _ rfl rfl 28 _ R.out (by kernel_rfl) rfl (by simp [Value.oneCell']) ?_)
  clear cV_0 cV_1 cV_2 cV_3 cV_4 cV_5 cV_6 cV_7
  replace D := Lib.hid (has_row (cs' := #[.int .i64 7, .bool false, .int .i64 0, .string ⟨#[]⟩, .int .i64 0, .slice none 0 0, .slice none 0 0, .slice none 0 0]) D.out (show w.heap.size ≠ w.heap.size + 1 by omega))
  replace N := Lib.hid (has_row (cs' := #[.int .i64 7, .bool false, .int .i64 0, .string ⟨#[]⟩, .int .i64 0, .slice none 0 0, .slice none 0 0, .slice none 0 0]) N.out (show w.heap.size + 1 + 1 ≠ w.heap.size + 1 by omega))
  replace V := Lib.hid (has_row (cs' := #[.int .i64 7, .bool false, .int .i64 0, .string ⟨#[]⟩, .int .i64 0, .slice none 0 0, .slice none 0 0, .slice none 0 0]) V.out (show g21 ≠ w.heap.size + 1 by omega))
  replace R : Hid (Has (wd26.setRow (w.heap.size + 1) #[.int .i64 7, .bool false, .int .i64 0, .string ⟨#[]⟩, .int .i64 0, .slice none 0 0, .slice none 0 0, .slice none 0 0]) (w.heap.size + 1) 28 #[.int .i64 7, .bool false, .int .i64 0, .string ⟨#[]⟩, .int .i64 0, .slice none 0 0, .slice none 0 0, .slice none 0 0]) := Lib.hid (row_has R.out _)
  replace hw16 := below_setRow hw16 (show w.heap.size ≤ w.heap.size + 1 by omega) #[.int .i64 7, .bool false, .int .i64 0, .string ⟨#[]⟩, .int .i64 0, .slice none 0 0, .slice none 0 0, .slice none 0 0]
  generalize wd26.setRow (w.heap.size + 1) #[.int .i64 7, .bool false, .int .i64 0, .string ⟨#[]⟩, .int .i64 0, .slice none 0 0, .slice none 0 0, .slice none 0 0] = wd27 at *
  have cR_0 : wd27.cell? ⟨w.heap.size + 1, 0, none⟩ = some (.int .i64 7) := R.out.cell 0
  have cR_1 : wd27.cell? ⟨w.heap.size + 1, 1, none⟩ = some (.bool false) := R.out.cell 1
  have cR_2 : wd27.cell? ⟨w.heap.size + 1, 2, none⟩ = some (.int .i64 0) := R.out.cell 2
  have cR_3 : wd27.cell? ⟨w.heap.size + 1, 3, none⟩ = some (.string ⟨#[]⟩) := R.out.cell 3
  have cR_4 : wd27.cell? ⟨w.heap.size + 1, 4, none⟩ = some (.int .i64 0) := R.out.cell 4
  have cR_5 : wd27.cell? ⟨w.heap.size + 1, 5, none⟩ = some (.slice none 0 0) := R.out.cell 5
  have cR_6 : wd27.cell? ⟨w.heap.size + 1, 6, none⟩ = some (.slice none 0 0) := R.out.cell 6
  have cR_7 : wd27.cell? ⟨w.heap.size + 1, 7, none⟩ = some (.slice none 0 0) := R.out.cell 7
  exact bodyPost_ret (v := .tuple #[.agg #[.int .i64 7, .bool false, .int .i64 0, .string ⟨#[]⟩, .int .i64 0, .slice none 0 0, .slice none 0 0, .slice none 0 0], .bool true]) (by simp [results, Try.results66, go_sem, cR_0, cR_1, cR_2, cR_3, cR_4, cR_5, cR_6, cR_7]) rfl (⟨by rw [HN.out]; rfl, hw16⟩)
set_option maxRecDepth 100000 in
set_option maxHeartbeats 1000000 in
theorem initial9 (xs : List Nod) (vn : Value) (t code : Nat) (w : World) (h5 : 0 < xs.length ∧ xs.length ≤ 5) (ht : t < xs.length) (hk : kindN xs[t] = 9) (hr : RdNods w w.heap.size vn xs) :
    Calls Try.prog 66 #[.agg #[vn], .int .i64 t, .int .u8 code] w fun e w' => e = .returned (.tuple #[valN (initialN xs t code).1, .bool (initialN xs t code).2]) ∧ Below w.heap.size w w' := by
  have hin : initialN xs t code = (.mk 9 false 0 [] 0 [] [] [], true) := by
    unfold initialN
    rw [List.getElem?_eq_getElem ht]
    simp [hk]
  obtain ⟨A, c, rfl, hcap⟩ := hr.form
  have HR := Lib.hid hr
  have hki := fun W h => kind_any xs (.slice A xs.length c) t W ht h
  rw [hk] at hki
  have HI := Lib.hid hki
  have HN := Lib.hid hin
  obtain ⟨b, o, rfl, hb, hel⟩ := hr.elem h5.1
  obtain ⟨vp, hcs, hn⟩ := hel t ht
  obtain ⟨P, cp, rfl, hcp⟩ := hn.parts.form
  obtain ⟨n0, n1, n2, n3, n4⟩ := hcs
  have ht1 : (t : Int) < xs.length := by omega
  clear hel hr hki hin hk
  generalize xs[t] = x at *
  go_enter Try.func66, Try.ntmps66
  go_upto_region 2 with fail
  have hb28 := below_al (below_al (below_al (Below.refl w.heap.size w) (Nat.le_refl _) (.cells #[.slice (some ⟨b, o, none⟩) xs.length c] 24)) (Nat.le_refl _) (.cells #[.int .i64 0, .bool false, .int .i64 0, .string ⟨#[]⟩, .int .i64 0, .slice none 0 0, .slice none 0 0, .slice none 0 0] 28)) (Nat.le_refl _) (.cells #[.int .u8 x.kind, .int .u8 x.a, .int .u8 x.b, .int .u8 x.c, .slice P x.parts.length cp] 62)
  have D := ((Has.made w 24 #[.slice (some ⟨b, o, none⟩) xs.length c]).alloc (.cells #[.int .i64 0, .bool false, .int .i64 0, .string ⟨#[]⟩, .int .i64 0, .slice none 0 0, .slice none 0 0, .slice none 0 0] 28)).alloc (.cells #[.int .u8 x.kind, .int .u8 x.a, .int .u8 x.b, .int .u8 x.c, .slice P x.parts.length cp] 62)
  have R := (Has.made (w.alloc (.cells #[.slice (some ⟨b, o, none⟩) xs.length c] 24)) 28 #[.int .i64 0, .bool false, .int .i64 0, .string ⟨#[]⟩, .int .i64 0, .slice none 0 0, .slice none 0 0, .slice none 0 0]).alloc (.cells #[.int .u8 x.kind, .int .u8 x.a, .int .u8 x.b, .int .u8 x.c, .slice P x.parts.length cp] 62)
  have N := Has.made ((w.alloc (.cells #[.slice (some ⟨b, o, none⟩) xs.length c] 24)).alloc (.cells #[.int .i64 0, .bool false, .int .i64 0, .string ⟨#[]⟩, .int .i64 0, .slice none 0 0, .slice none 0 0, .slice none 0 0] 28)) 62 #[.int .u8 x.kind, .int .u8 x.a, .int .u8 x.b, .int .u8 x.c, .slice P x.parts.length cp]
  simp only [alloc_hz] at R N
  have hw29 := hb28
  replace D := Lib.hid D
  replace R := Lib.hid R
  replace N := Lib.hid N
  clear hb28
  generalize (((w.alloc (.cells #[.slice (some ⟨b, o, none⟩) xs.length c] 24)).alloc (.cells #[.int .i64 0, .bool false, .int .i64 0, .string ⟨#[]⟩, .int .i64 0, .slice none 0 0, .slice none 0 0, .slice none 0 0] 28)).alloc (.cells #[.int .u8 x.kind, .int .u8 x.a, .int .u8 x.b, .int .u8 x.c, .slice P x.parts.length cp] 62)) = wd30 at *
  clear n0 n1 n2 n3 n4
  have cD_0 : wd30.cell? ⟨w.heap.size, 0, none⟩ = some (.slice (some ⟨b, o, none⟩) xs.length c) := D.out.cell 0
  go_wp2_with fail
  clear cD_0
  ((with_reducible refine (HI.out _ (HR.out.on hw29)).mono ?_); rintro e wd31 ⟨rfl, hb32⟩)
  replace D := Lib.hid (D.out.below hb32 D.out.here)
  replace R := Lib.hid (R.out.below hb32 R.out.here)
  replace N := Lib.hid (N.out.below hb32 N.out.here)
  replace hw29 := hw29.trans (hb32.mono hw29.size)
  clear hb32
  go_upto_region 3 with fail
  have hb33 := below_al (Below.refl wd31.heap.size wd31) (Nat.le_refl _) (.cells #[.int .i64 9, .bool false, .int .i64 0, .string ⟨#[]⟩, .int .i64 0, .slice none 0 0, .slice none 0 0, .slice none 0 0] 28)
  have V := Has.made wd31 28 #[.int .i64 9, .bool false, .int .i64 0, .string ⟨#[]⟩, .int .i64 0, .slice none 0 0, .slice none 0 0, .slice none 0 0]
  have hl35 := D.out.here
  have hl36 := R.out.here
  have hl37 := N.out.here
  have hl38 := hw29.size
  replace D := Lib.hid (D.out.below hb33 D.out.here)
  replace R := Lib.hid (R.out.below hb33 R.out.here)
  replace N := Lib.hid (N.out.below hb33 N.out.here)
  replace hw29 := hw29.trans (hb33.mono hw29.size)
  replace V := Lib.hid V
  clear hb33
  generalize (wd31.alloc (.cells #[.int .i64 9, .bool false, .int .i64 0, .string ⟨#[]⟩, .int .i64 0, .slice none 0 0, .slice none 0 0, .slice none 0 0] 28)) = wd39 at *
  generalize wd31.heap.size = g34 at *
  have cV_0 : wd39.cell? ⟨g34, 0, none⟩ = some (.int .i64 9) := V.out.cell 0
  have cV_1 : wd39.cell? ⟨g34, 1, none⟩ = some (.bool false) := V.out.cell 1
  have cV_2 : wd39.cell? ⟨g34, 2, none⟩ = some (.int .i64 0) := V.out.cell 2
  have cV_3 : wd39.cell? ⟨g34, 3, none⟩ = some (.string ⟨#[]⟩) := V.out.cell 3
  have cV_4 : wd39.cell? ⟨g34, 4, none⟩ = some (.int .i64 0) := V.out.cell 4
  have cV_5 : wd39.cell? ⟨g34, 5, none⟩ = some (.slice none 0 0) := V.out.cell 5
  have cV_6 : wd39.cell? ⟨g34, 6, none⟩ = some (.slice none 0 0) := V.out.cell 6
  have cV_7 : wd39.cell? ⟨g34, 7, none⟩ = some (.slice none 0 0) := V.out.cell 7
  go_upto_region 18 with fail
  go_wp2_with (refine wpList_store_row rfl 28 _ _ rfl (w.heap.size + 1) _ rfl rfl 28 _ R.out (by kernel_rfl) rfl (by simp [Value.oneCell']) ?_)
  clear cV_0 cV_1 cV_2 cV_3 cV_4 cV_5 cV_6 cV_7
  replace D := Lib.hid (has_row (cs' := #[.int .i64 9, .bool false, .int .i64 0, .string ⟨#[]⟩, .int .i64 0, .slice none 0 0, .slice none 0 0, .slice none 0 0]) D.out (show w.heap.size ≠ w.heap.size + 1 by omega))
  replace N := Lib.hid (has_row (cs' := #[.int .i64 9, .bool false, .int .i64 0, .string ⟨#[]⟩, .int .i64 0, .slice none 0 0, .slice none 0 0, .slice none 0 0]) N.out (show w.heap.size + 1 + 1 ≠ w.heap.size + 1 by omega))
  replace V := Lib.hid (has_row (cs' := #[.int .i64 9, .bool false, .int .i64 0, .string ⟨#[]⟩, .int .i64 0, .slice none 0 0, .slice none 0 0, .slice none 0 0]) V.out (show g34 ≠ w.heap.size + 1 by omega))
  replace R : Hid (Has (wd39.setRow (w.heap.size + 1) #[.int .i64 9, .bool false, .int .i64 0, .string ⟨#[]⟩, .int .i64 0, .slice none 0 0, .slice none 0 0, .slice none 0 0]) (w.heap.size + 1) 28 #[.int .i64 9, .bool false, .int .i64 0, .string ⟨#[]⟩, .int .i64 0, .slice none 0 0, .slice none 0 0, .slice none 0 0]) := Lib.hid (row_has R.out _)
  replace hw29 := below_setRow hw29 (show w.heap.size ≤ w.heap.size + 1 by omega) #[.int .i64 9, .bool false, .int .i64 0, .string ⟨#[]⟩, .int .i64 0, .slice none 0 0, .slice none 0 0, .slice none 0 0]
  generalize wd39.setRow (w.heap.size + 1) #[.int .i64 9, .bool false, .int .i64 0, .string ⟨#[]⟩, .int .i64 0, .slice none 0 0, .slice none 0 0, .slice none 0 0] = wd40 at *
  have cR_0 : wd40.cell? ⟨w.heap.size + 1, 0, none⟩ = some (.int .i64 9) := R.out.cell 0
  have cR_1 : wd40.cell? ⟨w.heap.size + 1, 1, none⟩ = some (.bool false) := R.out.cell 1
  have cR_2 : wd40.cell? ⟨w.heap.size + 1, 2, none⟩ = some (.int .i64 0) := R.out.cell 2
  have cR_3 : wd40.cell? ⟨w.heap.size + 1, 3, none⟩ = some (.string ⟨#[]⟩) := R.out.cell 3
  have cR_4 : wd40.cell? ⟨w.heap.size + 1, 4, none⟩ = some (.int .i64 0) := R.out.cell 4
  have cR_5 : wd40.cell? ⟨w.heap.size + 1, 5, none⟩ = some (.slice none 0 0) := R.out.cell 5
  have cR_6 : wd40.cell? ⟨w.heap.size + 1, 6, none⟩ = some (.slice none 0 0) := R.out.cell 6
  have cR_7 : wd40.cell? ⟨w.heap.size + 1, 7, none⟩ = some (.slice none 0 0) := R.out.cell 7
  exact bodyPost_ret (v := .tuple #[.agg #[.int .i64 9, .bool false, .int .i64 0, .string ⟨#[]⟩, .int .i64 0, .slice none 0 0, .slice none 0 0, .slice none 0 0], .bool true]) (by simp [results, Try.results66, go_sem, cR_0, cR_1, cR_2, cR_3, cR_4, cR_5, cR_6, cR_7]) rfl (⟨by rw [HN.out]; rfl, hw29⟩)
set_option maxRecDepth 100000 in
set_option maxHeartbeats 1000000 in
theorem initial5 (xs : List Nod) (vn : Value) (t code : Nat) (w : World) (h5 : 0 < xs.length ∧ xs.length ≤ 5) (ht : t < xs.length) (hk : kindN xs[t] = 5) (hr : RdNods w w.heap.size vn xs) :
    Calls Try.prog 66 #[.agg #[vn], .int .i64 t, .int .u8 code] w fun e w' => e = .returned (.tuple #[valN (initialN xs t code).1, .bool (initialN xs t code).2]) ∧ Below w.heap.size w w' := by
  have hin : initialN xs t code = (val0, false) := by
    unfold initialN
    rw [List.getElem?_eq_getElem ht]
    simp [hk]
  obtain ⟨A, c, rfl, hcap⟩ := hr.form
  have HR := Lib.hid hr
  have hki := fun W h => kind_any xs (.slice A xs.length c) t W ht h
  rw [hk] at hki
  have HI := Lib.hid hki
  have HN := Lib.hid hin
  obtain ⟨b, o, rfl, hb, hel⟩ := hr.elem h5.1
  obtain ⟨vp, hcs, hn⟩ := hel t ht
  obtain ⟨P, cp, rfl, hcp⟩ := hn.parts.form
  obtain ⟨n0, n1, n2, n3, n4⟩ := hcs
  have ht1 : (t : Int) < xs.length := by omega
  clear hel hr hki hin hk
  generalize xs[t] = x at *
  go_enter Try.func66, Try.ntmps66
  go_upto_region 2 with fail
  have hb41 := below_al (below_al (below_al (Below.refl w.heap.size w) (Nat.le_refl _) (.cells #[.slice (some ⟨b, o, none⟩) xs.length c] 24)) (Nat.le_refl _) (.cells #[.int .i64 0, .bool false, .int .i64 0, .string ⟨#[]⟩, .int .i64 0, .slice none 0 0, .slice none 0 0, .slice none 0 0] 28)) (Nat.le_refl _) (.cells #[.int .u8 x.kind, .int .u8 x.a, .int .u8 x.b, .int .u8 x.c, .slice P x.parts.length cp] 62)
  have D := ((Has.made w 24 #[.slice (some ⟨b, o, none⟩) xs.length c]).alloc (.cells #[.int .i64 0, .bool false, .int .i64 0, .string ⟨#[]⟩, .int .i64 0, .slice none 0 0, .slice none 0 0, .slice none 0 0] 28)).alloc (.cells #[.int .u8 x.kind, .int .u8 x.a, .int .u8 x.b, .int .u8 x.c, .slice P x.parts.length cp] 62)
  have R := (Has.made (w.alloc (.cells #[.slice (some ⟨b, o, none⟩) xs.length c] 24)) 28 #[.int .i64 0, .bool false, .int .i64 0, .string ⟨#[]⟩, .int .i64 0, .slice none 0 0, .slice none 0 0, .slice none 0 0]).alloc (.cells #[.int .u8 x.kind, .int .u8 x.a, .int .u8 x.b, .int .u8 x.c, .slice P x.parts.length cp] 62)
  have N := Has.made ((w.alloc (.cells #[.slice (some ⟨b, o, none⟩) xs.length c] 24)).alloc (.cells #[.int .i64 0, .bool false, .int .i64 0, .string ⟨#[]⟩, .int .i64 0, .slice none 0 0, .slice none 0 0, .slice none 0 0] 28)) 62 #[.int .u8 x.kind, .int .u8 x.a, .int .u8 x.b, .int .u8 x.c, .slice P x.parts.length cp]
  simp only [alloc_hz] at R N
  have hw42 := hb41
  replace D := Lib.hid D
  replace R := Lib.hid R
  replace N := Lib.hid N
  clear hb41
  generalize (((w.alloc (.cells #[.slice (some ⟨b, o, none⟩) xs.length c] 24)).alloc (.cells #[.int .i64 0, .bool false, .int .i64 0, .string ⟨#[]⟩, .int .i64 0, .slice none 0 0, .slice none 0 0, .slice none 0 0] 28)).alloc (.cells #[.int .u8 x.kind, .int .u8 x.a, .int .u8 x.b, .int .u8 x.c, .slice P x.parts.length cp] 62)) = wd43 at *
  clear n0 n1 n2 n3 n4
  have cD_0 : wd43.cell? ⟨w.heap.size, 0, none⟩ = some (.slice (some ⟨b, o, none⟩) xs.length c) := D.out.cell 0
  go_wp2_with fail
  clear cD_0
  ((with_reducible refine (HI.out _ (HR.out.on hw42)).mono ?_); rintro e wd44 ⟨rfl, hb45⟩)
  replace D := Lib.hid (D.out.below hb45 D.out.here)
  replace R := Lib.hid (R.out.below hb45 R.out.here)
  replace N := Lib.hid (N.out.below hb45 N.out.here)
  replace hw42 := hw42.trans (hb45.mono hw42.size)
  clear hb45
  go_upto_region 3 with fail
  have hb46 := below_al (Below.refl wd44.heap.size wd44) (Nat.le_refl _) (.cells #[.int .i64 5, .bool false, .int .i64 0, .string ⟨#[]⟩, .int .i64 0, .slice none 0 0, .slice none 0 0, .slice none 0 0] 28)
  have V := Has.made wd44 28 #[.int .i64 5, .bool false, .int .i64 0, .string ⟨#[]⟩, .int .i64 0, .slice none 0 0, .slice none 0 0, .slice none 0 0]
  have hl48 := D.out.here
  have hl49 := R.out.here
  have hl50 := N.out.here
  have hl51 := hw42.size
  replace D := Lib.hid (D.out.below hb46 D.out.here)
  replace R := Lib.hid (R.out.below hb46 R.out.here)
  replace N := Lib.hid (N.out.below hb46 N.out.here)
  replace hw42 := hw42.trans (hb46.mono hw42.size)
  replace V := Lib.hid V
  clear hb46
  generalize (wd44.alloc (.cells #[.int .i64 5, .bool false, .int .i64 0, .string ⟨#[]⟩, .int .i64 0, .slice none 0 0, .slice none 0 0, .slice none 0 0] 28)) = wd52 at *
  generalize wd44.heap.size = g47 at *
  have cV_0 : wd52.cell? ⟨g47, 0, none⟩ = some (.int .i64 5) := V.out.cell 0
  go_upto_region 17 with fail
  go_wp2_with (refine wpList_store_row rfl 28 _ _ rfl (w.heap.size + 1) _ rfl rfl 28 _ R.out (by kernel_rfl) rfl (by simp [Value.oneCell']) ?_)
  clear cV_0
  replace D := Lib.hid (has_row (cs' := #[.int .i64 0, .bool false, .int .i64 0, .string ⟨#[]⟩, .int .i64 0, .slice none 0 0, .slice none 0 0, .slice none 0 0]) D.out (show w.heap.size ≠ w.heap.size + 1 by omega))
  replace N := Lib.hid (has_row (cs' := #[.int .i64 0, .bool false, .int .i64 0, .string ⟨#[]⟩, .int .i64 0, .slice none 0 0, .slice none 0 0, .slice none 0 0]) N.out (show w.heap.size + 1 + 1 ≠ w.heap.size + 1 by omega))
  replace V := Lib.hid (has_row (cs' := #[.int .i64 0, .bool false, .int .i64 0, .string ⟨#[]⟩, .int .i64 0, .slice none 0 0, .slice none 0 0, .slice none 0 0]) V.out (show g47 ≠ w.heap.size + 1 by omega))
  replace R : Hid (Has (wd52.setRow (w.heap.size + 1) #[.int .i64 0, .bool false, .int .i64 0, .string ⟨#[]⟩, .int .i64 0, .slice none 0 0, .slice none 0 0, .slice none 0 0]) (w.heap.size + 1) 28 #[.int .i64 0, .bool false, .int .i64 0, .string ⟨#[]⟩, .int .i64 0, .slice none 0 0, .slice none 0 0, .slice none 0 0]) := Lib.hid (row_has R.out _)
  replace hw42 := below_setRow hw42 (show w.heap.size ≤ w.heap.size + 1 by omega) #[.int .i64 0, .bool false, .int .i64 0, .string ⟨#[]⟩, .int .i64 0, .slice none 0 0, .slice none 0 0, .slice none 0 0]
  generalize wd52.setRow (w.heap.size + 1) #[.int .i64 0, .bool false, .int .i64 0, .string ⟨#[]⟩, .int .i64 0, .slice none 0 0, .slice none 0 0, .slice none 0 0] = wd53 at *
  have cR_0 : wd53.cell? ⟨w.heap.size + 1, 0, none⟩ = some (.int .i64 0) := R.out.cell 0
  have cR_1 : wd53.cell? ⟨w.heap.size + 1, 1, none⟩ = some (.bool false) := R.out.cell 1
  have cR_2 : wd53.cell? ⟨w.heap.size + 1, 2, none⟩ = some (.int .i64 0) := R.out.cell 2
  have cR_3 : wd53.cell? ⟨w.heap.size + 1, 3, none⟩ = some (.string ⟨#[]⟩) := R.out.cell 3
  have cR_4 : wd53.cell? ⟨w.heap.size + 1, 4, none⟩ = some (.int .i64 0) := R.out.cell 4
  have cR_5 : wd53.cell? ⟨w.heap.size + 1, 5, none⟩ = some (.slice none 0 0) := R.out.cell 5
  have cR_6 : wd53.cell? ⟨w.heap.size + 1, 6, none⟩ = some (.slice none 0 0) := R.out.cell 6
  have cR_7 : wd53.cell? ⟨w.heap.size + 1, 7, none⟩ = some (.slice none 0 0) := R.out.cell 7
  exact bodyPost_ret (v := .tuple #[.agg #[.int .i64 0, .bool false, .int .i64 0, .string ⟨#[]⟩, .int .i64 0, .slice none 0 0, .slice none 0 0, .slice none 0 0], .bool false]) (by simp [results, Try.results66, go_sem, cR_0, cR_1, cR_2, cR_3, cR_4, cR_5, cR_6, cR_7]) rfl (⟨by rw [HN.out]; rfl, hw42⟩)
set_option maxRecDepth 100000 in
set_option maxHeartbeats 1000000 in
theorem initial6 (xs : List Nod) (vn : Value) (t code : Nat) (w : World) (h5 : 0 < xs.length ∧ xs.length ≤ 5) (ht : t < xs.length) (hk : kindN xs[t] = 6) (hr : RdNods w w.heap.size vn xs) :
    Calls Try.prog 66 #[.agg #[vn], .int .i64 t, .int .u8 code] w fun e w' => e = .returned (.tuple #[valN (initialN xs t code).1, .bool (initialN xs t code).2]) ∧ Below w.heap.size w w' := by
  have hin : initialN xs t code = (val0, false) := by
    unfold initialN
    rw [List.getElem?_eq_getElem ht]
    simp [hk]
  obtain ⟨A, c, rfl, hcap⟩ := hr.form
  have HR := Lib.hid hr
  have hki := fun W h => kind_any xs (.slice A xs.length c) t W ht h
  rw [hk] at hki
  have HI := Lib.hid hki
  have HN := Lib.hid hin
  obtain ⟨b, o, rfl, hb, hel⟩ := hr.elem h5.1
  obtain ⟨vp, hcs, hn⟩ := hel t ht
  obtain ⟨P, cp, rfl, hcp⟩ := hn.parts.form
  obtain ⟨n0, n1, n2, n3, n4⟩ := hcs
  have ht1 : (t : Int) < xs.length := by omega
  clear hel hr hki hin hk
  generalize xs[t] = x at *
  go_enter Try.func66, Try.ntmps66
  go_upto_region 2 with fail
  have hb54 := below_al (below_al (below_al (Below.refl w.heap.size w) (Nat.le_refl _) (.cells #[.slice (some ⟨b, o, none⟩) xs.length c] 24)) (Nat.le_refl _) (.cells #[.int .i64 0, .bool false, .int .i64 0, .string ⟨#[]⟩, .int .i64 0, .slice none 0 0, .slice none 0 0, .slice none 0 0] 28)) (Nat.le_refl _) (.cells #[.int .u8 x.kind, .int .u8 x.a, .int .u8 x.b, .int .u8 x.c, .slice P x.parts.length cp] 62)
  have D := ((Has.made w 24 #[.slice (some ⟨b, o, none⟩) xs.length c]).alloc (.cells #[.int .i64 0, .bool false, .int .i64 0, .string ⟨#[]⟩, .int .i64 0, .slice none 0 0, .slice none 0 0, .slice none 0 0] 28)).alloc (.cells #[.int .u8 x.kind, .int .u8 x.a, .int .u8 x.b, .int .u8 x.c, .slice P x.parts.length cp] 62)
  have R := (Has.made (w.alloc (.cells #[.slice (some ⟨b, o, none⟩) xs.length c] 24)) 28 #[.int .i64 0, .bool false, .int .i64 0, .string ⟨#[]⟩, .int .i64 0, .slice none 0 0, .slice none 0 0, .slice none 0 0]).alloc (.cells #[.int .u8 x.kind, .int .u8 x.a, .int .u8 x.b, .int .u8 x.c, .slice P x.parts.length cp] 62)
  have N := Has.made ((w.alloc (.cells #[.slice (some ⟨b, o, none⟩) xs.length c] 24)).alloc (.cells #[.int .i64 0, .bool false, .int .i64 0, .string ⟨#[]⟩, .int .i64 0, .slice none 0 0, .slice none 0 0, .slice none 0 0] 28)) 62 #[.int .u8 x.kind, .int .u8 x.a, .int .u8 x.b, .int .u8 x.c, .slice P x.parts.length cp]
  simp only [alloc_hz] at R N
  have hw55 := hb54
  replace D := Lib.hid D
  replace R := Lib.hid R
  replace N := Lib.hid N
  clear hb54
  generalize (((w.alloc (.cells #[.slice (some ⟨b, o, none⟩) xs.length c] 24)).alloc (.cells #[.int .i64 0, .bool false, .int .i64 0, .string ⟨#[]⟩, .int .i64 0, .slice none 0 0, .slice none 0 0, .slice none 0 0] 28)).alloc (.cells #[.int .u8 x.kind, .int .u8 x.a, .int .u8 x.b, .int .u8 x.c, .slice P x.parts.length cp] 62)) = wd56 at *
  clear n0 n1 n2 n3 n4
  have cD_0 : wd56.cell? ⟨w.heap.size, 0, none⟩ = some (.slice (some ⟨b, o, none⟩) xs.length c) := D.out.cell 0
  go_wp2_with fail
  clear cD_0
  ((with_reducible refine (HI.out _ (HR.out.on hw55)).mono ?_); rintro e wd57 ⟨rfl, hb58⟩)
  replace D := Lib.hid (D.out.below hb58 D.out.here)
  replace R := Lib.hid (R.out.below hb58 R.out.here)
  replace N := Lib.hid (N.out.below hb58 N.out.here)
  replace hw55 := hw55.trans (hb58.mono hw55.size)
  clear hb58
  go_upto_region 3 with fail
  have hb59 := below_al (Below.refl wd57.heap.size wd57) (Nat.le_refl _) (.cells #[.int .i64 6, .bool false, .int .i64 0, .string ⟨#[]⟩, .int .i64 0, .slice none 0 0, .slice none 0 0, .slice none 0 0] 28)
  have V := Has.made wd57 28 #[.int .i64 6, .bool false, .int .i64 0, .string ⟨#[]⟩, .int .i64 0, .slice none 0 0, .slice none 0 0, .slice none 0 0]
  have hl61 := D.out.here
  have hl62 := R.out.here
  have hl63 := N.out.here
  have hl64 := hw55.size
  replace D := Lib.hid (D.out.below hb59 D.out.here)
  replace R := Lib.hid (R.out.below hb59 R.out.here)
  replace N := Lib.hid (N.out.below hb59 N.out.here)
  replace hw55 := hw55.trans (hb59.mono hw55.size)
  replace V := Lib.hid V
  clear hb59
  generalize (wd57.alloc (.cells #[.int .i64 6, .bool false, .int .i64 0, .string ⟨#[]⟩, .int .i64 0, .slice none 0 0, .slice none 0 0, .slice none 0 0] 28)) = wd65 at *
  generalize wd57.heap.size = g60 at *
  have cV_0 : wd65.cell? ⟨g60, 0, none⟩ = some (.int .i64 6) := V.out.cell 0
  go_upto_region 17 with fail
  go_wp2_with (refine wpList_store_row rfl 28 _ _ rfl (w.heap.size + 1) _ rfl rfl 28 _ R.out (by kernel_rfl) rfl (by simp [Value.oneCell']) ?_)
  clear cV_0
  replace D := Lib.hid (has_row (cs' := #[.int .i64 0, .bool false, .int .i64 0, .string ⟨#[]⟩, .int .i64 0, .slice none 0 0, .slice none 0 0, .slice none 0 0]) D.out (show w.heap.size ≠ w.heap.size + 1 by omega))
  replace N := Lib.hid (has_row (cs' := #[.int .i64 0, .bool false, .int .i64 0, .string ⟨#[]⟩, .int .i64 0, .slice none 0 0, .slice none 0 0, .slice none 0 0]) N.out (show w.heap.size + 1 + 1 ≠ w.heap.size + 1 by omega))
  replace V := Lib.hid (has_row (cs' := #[.int .i64 0, .bool false, .int .i64 0, .string ⟨#[]⟩, .int .i64 0, .slice none 0 0, .slice none 0 0, .slice none 0 0]) V.out (show g60 ≠ w.heap.size + 1 by omega))
  replace R : Hid (Has (wd65.setRow (w.heap.size + 1) #[.int .i64 0, .bool false, .int .i64 0, .string ⟨#[]⟩, .int .i64 0, .slice none 0 0, .slice none 0 0, .slice none 0 0]) (w.heap.size + 1) 28 #[.int .i64 0, .bool false, .int .i64 0, .string ⟨#[]⟩, .int .i64 0, .slice none 0 0, .slice none 0 0, .slice none 0 0]) := Lib.hid (row_has R.out _)
  replace hw55 := below_setRow hw55 (show w.heap.size ≤ w.heap.size + 1 by omega) #[.int .i64 0, .bool false, .int .i64 0, .string ⟨#[]⟩, .int .i64 0, .slice none 0 0, .slice none 0 0, .slice none 0 0]
  generalize wd65.setRow (w.heap.size + 1) #[.int .i64 0, .bool false, .int .i64 0, .string ⟨#[]⟩, .int .i64 0, .slice none 0 0, .slice none 0 0, .slice none 0 0] = wd66 at *
  have cR_0 : wd66.cell? ⟨w.heap.size + 1, 0, none⟩ = some (.int .i64 0) := R.out.cell 0
  have cR_1 : wd66.cell? ⟨w.heap.size + 1, 1, none⟩ = some (.bool false) := R.out.cell 1
  have cR_2 : wd66.cell? ⟨w.heap.size + 1, 2, none⟩ = some (.int .i64 0) := R.out.cell 2
  have cR_3 : wd66.cell? ⟨w.heap.size + 1, 3, none⟩ = some (.string ⟨#[]⟩) := R.out.cell 3
  have cR_4 : wd66.cell? ⟨w.heap.size + 1, 4, none⟩ = some (.int .i64 0) := R.out.cell 4
  have cR_5 : wd66.cell? ⟨w.heap.size + 1, 5, none⟩ = some (.slice none 0 0) := R.out.cell 5
  have cR_6 : wd66.cell? ⟨w.heap.size + 1, 6, none⟩ = some (.slice none 0 0) := R.out.cell 6
  have cR_7 : wd66.cell? ⟨w.heap.size + 1, 7, none⟩ = some (.slice none 0 0) := R.out.cell 7
  exact bodyPost_ret (v := .tuple #[.agg #[.int .i64 0, .bool false, .int .i64 0, .string ⟨#[]⟩, .int .i64 0, .slice none 0 0, .slice none 0 0, .slice none 0 0], .bool false]) (by simp [results, Try.results66, go_sem, cR_0, cR_1, cR_2, cR_3, cR_4, cR_5, cR_6, cR_7]) rfl (⟨by rw [HN.out]; rfl, hw55⟩)
set_option maxRecDepth 100000 in
set_option maxHeartbeats 1000000 in
theorem initial8 (xs : List Nod) (vn : Value) (t code : Nat) (w : World) (h5 : 0 < xs.length ∧ xs.length ≤ 5) (ht : t < xs.length) (hk : kindN xs[t] = 8) (j : Nat) (hj : keyN xs 0 = some j) (hr : RdNods w w.heap.size vn xs) :
    Calls Try.prog 66 #[.agg #[vn], .int .i64 t, .int .u8 code] w fun e w' => e = .returned (.tuple #[valN (initialN xs t code).1, .bool (initialN xs t code).2]) ∧ Below w.heap.size w w' := by
  have hin : initialN xs t code = (.mk 8 false 0 [] 0 [] [] [], true) := by
    unfold initialN
    rw [List.getElem?_eq_getElem ht]
    simp [hk, hj]
  obtain ⟨A, c, rfl, hcap⟩ := hr.form
  have HR := Lib.hid hr
  have hki := fun W h => kind_any xs (.slice A xs.length c) t W ht h
  rw [hk] at hki
  have HI := Lib.hid hki
  have HN := Lib.hid hin
  obtain ⟨b, o, rfl, hb, hel⟩ := hr.elem h5.1
  obtain ⟨vp, hcs, hn⟩ := hel t ht
  obtain ⟨P, cp, rfl, hcp⟩ := hn.parts.form
  obtain ⟨n0, n1, n2, n3, n4⟩ := hcs
  have ht1 : (t : Int) < xs.length := by omega
  clear hel hr hki hin hk
  have hkey := fun W h => key_any xs (.slice (some ⟨b, o, none⟩) xs.length c) 0 W (by omega) h5 h
  simp only [show ((0 : Nat) : Int) = 0 from rfl] at hkey
  rw [hj] at hkey
  have HK := Lib.hid hkey
  have tj : decide ((j : Int) < 0) = false := decide_eq_false (by omega)
  clear hkey hj
  generalize xs[t] = x at *
  go_enter Try.func66, Try.ntmps66
  go_upto_region 2 with fail
  have hb67 := below_al (below_al (below_al (Below.refl w.heap.size w) (Nat.le_refl _) (.cells #[.slice (some ⟨b, o, none⟩) xs.length c] 24)) (Nat.le_refl _) (.cells #[.int .i64 0, .bool false, .int .i64 0, .string ⟨#[]⟩, .int .i64 0, .slice none 0 0, .slice none 0 0, .slice none 0 0] 28)) (Nat.le_refl _) (.cells #[.int .u8 x.kind, .int .u8 x.a, .int .u8 x.b, .int .u8 x.c, .slice P x.parts.length cp] 62)
  have D := ((Has.made w 24 #[.slice (some ⟨b, o, none⟩) xs.length c]).alloc (.cells #[.int .i64 0, .bool false, .int .i64 0, .string ⟨#[]⟩, .int .i64 0, .slice none 0 0, .slice none 0 0, .slice none 0 0] 28)).alloc (.cells #[.int .u8 x.kind, .int .u8 x.a, .int .u8 x.b, .int .u8 x.c, .slice P x.parts.length cp] 62)
  have R := (Has.made (w.alloc (.cells #[.slice (some ⟨b, o, none⟩) xs.length c] 24)) 28 #[.int .i64 0, .bool false, .int .i64 0, .string ⟨#[]⟩, .int .i64 0, .slice none 0 0, .slice none 0 0, .slice none 0 0]).alloc (.cells #[.int .u8 x.kind, .int .u8 x.a, .int .u8 x.b, .int .u8 x.c, .slice P x.parts.length cp] 62)
  have N := Has.made ((w.alloc (.cells #[.slice (some ⟨b, o, none⟩) xs.length c] 24)).alloc (.cells #[.int .i64 0, .bool false, .int .i64 0, .string ⟨#[]⟩, .int .i64 0, .slice none 0 0, .slice none 0 0, .slice none 0 0] 28)) 62 #[.int .u8 x.kind, .int .u8 x.a, .int .u8 x.b, .int .u8 x.c, .slice P x.parts.length cp]
  simp only [alloc_hz] at R N
  have hw68 := hb67
  replace D := Lib.hid D
  replace R := Lib.hid R
  replace N := Lib.hid N
  clear hb67
  generalize (((w.alloc (.cells #[.slice (some ⟨b, o, none⟩) xs.length c] 24)).alloc (.cells #[.int .i64 0, .bool false, .int .i64 0, .string ⟨#[]⟩, .int .i64 0, .slice none 0 0, .slice none 0 0, .slice none 0 0] 28)).alloc (.cells #[.int .u8 x.kind, .int .u8 x.a, .int .u8 x.b, .int .u8 x.c, .slice P x.parts.length cp] 62)) = wd69 at *
  clear n0 n1 n2 n3 n4
  have cD_0 : wd69.cell? ⟨w.heap.size, 0, none⟩ = some (.slice (some ⟨b, o, none⟩) xs.length c) := D.out.cell 0
  go_wp2_with fail
  clear cD_0
  ((with_reducible refine (HI.out _ (HR.out.on hw68)).mono ?_); rintro e wd70 ⟨rfl, hb71⟩)
  replace D := Lib.hid (D.out.below hb71 D.out.here)
  replace R := Lib.hid (R.out.below hb71 R.out.here)
  replace N := Lib.hid (N.out.below hb71 N.out.here)
  replace hw68 := hw68.trans (hb71.mono hw68.size)
  clear hb71
  go_upto_region 3 with fail
  have hb72 := below_al (Below.refl wd70.heap.size wd70) (Nat.le_refl _) (.cells #[.int .i64 8, .bool false, .int .i64 0, .string ⟨#[]⟩, .int .i64 0, .slice none 0 0, .slice none 0 0, .slice none 0 0] 28)
  have V := Has.made wd70 28 #[.int .i64 8, .bool false, .int .i64 0, .string ⟨#[]⟩, .int .i64 0, .slice none 0 0, .slice none 0 0, .slice none 0 0]
  have hl74 := D.out.here
  have hl75 := R.out.here
  have hl76 := N.out.here
  have hl77 := hw68.size
  replace D := Lib.hid (D.out.below hb72 D.out.here)
  replace R := Lib.hid (R.out.below hb72 R.out.here)
  replace N := Lib.hid (N.out.below hb72 N.out.here)
  replace hw68 := hw68.trans (hb72.mono hw68.size)
  replace V := Lib.hid V
  clear hb72
  generalize (wd70.alloc (.cells #[.int .i64 8, .bool false, .int .i64 0, .string ⟨#[]⟩, .int .i64 0, .slice none 0 0, .slice none 0 0, .slice none 0 0] 28)) = wd78 at *
  generalize wd70.heap.size = g73 at *
  have cV_0 : wd78.cell? ⟨g73, 0, none⟩ = some (.int .i64 8) := V.out.cell 0
  have cD_0 : wd78.cell? ⟨w.heap.size, 0, none⟩ = some (.slice (some ⟨b, o, none⟩) xs.length c) := D.out.cell 0
  go_wp2_with fail
  clear cV_0 cD_0
  ((with_reducible refine (HK.out _ (HR.out.on hw68)).mono ?_); rintro e wd79 ⟨rfl, hb80⟩)
  replace D := Lib.hid (D.out.below hb80 D.out.here)
  replace R := Lib.hid (R.out.below hb80 R.out.here)
  replace N := Lib.hid (N.out.below hb80 N.out.here)
  replace V := Lib.hid (V.out.below hb80 V.out.here)
  replace hw68 := hw68.trans (hb80.mono hw68.size)
  clear hb80
  have cV_0 : wd79.cell? ⟨g73, 0, none⟩ = some (.int .i64 8) := V.out.cell 0
  have cV_1 : wd79.cell? ⟨g73, 1, none⟩ = some (.bool false) := V.out.cell 1
  have cV_2 : wd79.cell? ⟨g73, 2, none⟩ = some (.int .i64 0) := V.out.cell 2
  have cV_3 : wd79.cell? ⟨g73, 3, none⟩ = some (.string ⟨#[]⟩) := V.out.cell 3
  have cV_4 : wd79.cell? ⟨g73, 4, none⟩ = some (.int .i64 0) := V.out.cell 4
  have cV_5 : wd79.cell? ⟨g73, 5, none⟩ = some (.slice none 0 0) := V.out.cell 5
  have cV_6 : wd79.cell? ⟨g73, 6, none⟩ = some (.slice none 0 0) := V.out.cell 6
  have cV_7 : wd79.cell? ⟨g73, 7, none⟩ = some (.slice none 0 0) := V.out.cell 7
  go_upto_region 18 with fail
  go_wp2_with (refine wpList_store_row rfl 28 _ _ rfl (w.heap.size + 1) _ rfl rfl 28 _ R.out (by kernel_rfl) rfl (by simp [Value.oneCell']) ?_)
  clear cV_0 cV_1 cV_2 cV_3 cV_4 cV_5 cV_6 cV_7
  replace D := Lib.hid (has_row (cs' := #[.int .i64 8, .bool false, .int .i64 0, .string ⟨#[]⟩, .int .i64 0, .slice none 0 0, .slice none 0 0, .slice none 0 0]) D.out (show w.heap.size ≠ w.heap.size + 1 by omega))
  replace N := Lib.hid (has_row (cs' := #[.int .i64 8, .bool false, .int .i64 0, .string ⟨#[]⟩, .int .i64 0, .slice none 0 0, .slice none 0 0, .slice none 0 0]) N.out (show w.heap.size + 1 + 1 ≠ w.heap.size + 1 by omega))
  replace V := Lib.hid (has_row (cs' := #[.int .i64 8, .bool false, .int .i64 0, .string ⟨#[]⟩, .int .i64 0, .slice none 0 0, .slice none 0 0, .slice none 0 0]) V.out (show g73 ≠ w.heap.size + 1 by omega))
  replace R : Hid (Has (wd79.setRow (w.heap.size + 1) #[.int .i64 8, .bool false, .int .i64 0, .string ⟨#[]⟩, .int .i64 0, .slice none 0 0, .slice none 0 0, .slice none 0 0]) (w.heap.size + 1) 28 #[.int .i64 8, .bool false, .int .i64 0, .string ⟨#[]⟩, .int .i64 0, .slice none 0 0, .slice none 0 0, .slice none 0 0]) := Lib.hid (row_has R.out _)
  replace hw68 := below_setRow hw68 (show w.heap.size ≤ w.heap.size + 1 by omega) #[.int .i64 8, .bool false, .int .i64 0, .string ⟨#[]⟩, .int .i64 0, .slice none 0 0, .slice none 0 0, .slice none 0 0]
  generalize wd79.setRow (w.heap.size + 1) #[.int .i64 8, .bool false, .int .i64 0, .string ⟨#[]⟩, .int .i64 0, .slice none 0 0, .slice none 0 0, .slice none 0 0] = wd81 at *
  have cR_0 : wd81.cell? ⟨w.heap.size + 1, 0, none⟩ = some (.int .i64 8) := R.out.cell 0
  have cR_1 : wd81.cell? ⟨w.heap.size + 1, 1, none⟩ = some (.bool false) := R.out.cell 1
  have cR_2 : wd81.cell? ⟨w.heap.size + 1, 2, none⟩ = some (.int .i64 0) := R.out.cell 2
  have cR_3 : wd81.cell? ⟨w.heap.size + 1, 3, none⟩ = some (.string ⟨#[]⟩) := R.out.cell 3
  have cR_4 : wd81.cell? ⟨w.heap.size + 1, 4, none⟩ = some (.int .i64 0) := R.out.cell 4
  have cR_5 : wd81.cell? ⟨w.heap.size + 1, 5, none⟩ = some (.slice none 0 0) := R.out.cell 5
  have cR_6 : wd81.cell? ⟨w.heap.size + 1, 6, none⟩ = some (.slice none 0 0) := R.out.cell 6
  have cR_7 : wd81.cell? ⟨w.heap.size + 1, 7, none⟩ = some (.slice none 0 0) := R.out.cell 7
  exact bodyPost_ret (v := .tuple #[.agg #[.int .i64 8, .bool false, .int .i64 0, .string ⟨#[]⟩, .int .i64 0, .slice none 0 0, .slice none 0 0, .slice none 0 0], .bool true]) (by simp [results, Try.results66, go_sem, cR_0, cR_1, cR_2, cR_3, cR_4, cR_5, cR_6, cR_7]) rfl (⟨by rw [HN.out]; rfl, hw68⟩)
set_option maxRecDepth 100000 in
set_option maxHeartbeats 1000000 in
theorem initial8n (xs : List Nod) (vn : Value) (t code : Nat) (w : World) (h5 : 0 < xs.length ∧ xs.length ≤ 5) (ht : t < xs.length) (hk : kindN xs[t] = 8) (hj : keyN xs 0 = none) (hr : RdNods w w.heap.size vn xs) :
    Calls Try.prog 66 #[.agg #[vn], .int .i64 t, .int .u8 code] w fun e w' => e = .returned (.tuple #[valN (initialN xs t code).1, .bool (initialN xs t code).2]) ∧ Below w.heap.size w w' := by
  have hin : initialN xs t code = (.mk 7 false 0 [] 0 [] [] [], true) := by
    unfold initialN
    rw [List.getElem?_eq_getElem ht]
    simp [hk, hj]
  obtain ⟨A, c, rfl, hcap⟩ := hr.form
  have HR := Lib.hid hr
  have hki := fun W h => kind_any xs (.slice A xs.length c) t W ht h
  rw [hk] at hki
  have HI := Lib.hid hki
  have HN := Lib.hid hin
  obtain ⟨b, o, rfl, hb, hel⟩ := hr.elem h5.1
  obtain ⟨vp, hcs, hn⟩ := hel t ht
  obtain ⟨P, cp, rfl, hcp⟩ := hn.parts.form
  obtain ⟨n0, n1, n2, n3, n4⟩ := hcs
  have ht1 : (t : Int) < xs.length := by omega
  clear hel hr hki hin hk
  have hkey := fun W h => key_any xs (.slice (some ⟨b, o, none⟩) xs.length c) 0 W (by omega) h5 h
  simp only [show ((0 : Nat) : Int) = 0 from rfl] at hkey
  rw [hj] at hkey
  have HK := Lib.hid hkey
  clear hkey hj
  generalize xs[t] = x at *
  go_enter Try.func66, Try.ntmps66
  go_upto_region 2 with fail
  have hb82 := below_al (below_al (below_al (Below.refl w.heap.size w) (Nat.le_refl _) (.cells #[.slice (some ⟨b, o, none⟩) xs.length c] 24)) (Nat.le_refl _) (.cells #[.int .i64 0, .bool false, .int .i64 0, .string ⟨#[]⟩, .int .i64 0, .slice none 0 0, .slice none 0 0, .slice none 0 0] 28)) (Nat.le_refl _) (.cells #[.int .u8 x.kind, .int .u8 x.a, .int .u8 x.b, .int .u8 x.c, .slice P x.parts.length cp] 62)
  have D := ((Has.made w 24 #[.slice (some ⟨b, o, none⟩) xs.length c]).alloc (.cells #[.int .i64 0, .bool false, .int .i64 0, .string ⟨#[]⟩, .int .i64 0, .slice none 0 0, .slice none 0 0, .slice none 0 0] 28)).alloc (.cells #[.int .u8 x.kind, .int .u8 x.a, .int .u8 x.b, .int .u8 x.c, .slice P x.parts.length cp] 62)
  have R := (Has.made (w.alloc (.cells #[.slice (some ⟨b, o, none⟩) xs.length c] 24)) 28 #[.int .i64 0, .bool false, .int .i64 0, .string ⟨#[]⟩, .int .i64 0, .slice none 0 0, .slice none 0 0, .slice none 0 0]).alloc (.cells #[.int .u8 x.kind, .int .u8 x.a, .int .u8 x.b, .int .u8 x.c, .slice P x.parts.length cp] 62)
  have N := Has.made ((w.alloc (.cells #[.slice (some ⟨b, o, none⟩) xs.length c] 24)).alloc (.cells #[.int .i64 0, .bool false, .int .i64 0, .string ⟨#[]⟩, .int .i64 0, .slice none 0 0, .slice none 0 0, .slice none 0 0] 28)) 62 #[.int .u8 x.kind, .int .u8 x.a, .int .u8 x.b, .int .u8 x.c, .slice P x.parts.length cp]
  simp only [alloc_hz] at R N
  have hw83 := hb82
  replace D := Lib.hid D
  replace R := Lib.hid R
  replace N := Lib.hid N
  clear hb82
  generalize (((w.alloc (.cells #[.slice (some ⟨b, o, none⟩) xs.length c] 24)).alloc (.cells #[.int .i64 0, .bool false, .int .i64 0, .string ⟨#[]⟩, .int .i64 0, .slice none 0 0, .slice none 0 0, .slice none 0 0] 28)).alloc (.cells #[.int .u8 x.kind, .int .u8 x.a, .int .u8 x.b, .int .u8 x.c, .slice P x.parts.length cp] 62)) = wd84 at *
  clear n0 n1 n2 n3 n4
  have cD_0 : wd84.cell? ⟨w.heap.size, 0, none⟩ = some (.slice (some ⟨b, o, none⟩) xs.length c) := D.out.cell 0
  go_wp2_with fail
  clear cD_0
  ((with_reducible refine (HI.out _ (HR.out.on hw83)).mono ?_); rintro e wd85 ⟨rfl, hb86⟩)
  replace D := Lib.hid (D.out.below hb86 D.out.here)
  replace R := Lib.hid (R.out.below hb86 R.out.here)
  replace N := Lib.hid (N.out.below hb86 N.out.here)
  replace hw83 := hw83.trans (hb86.mono hw83.size)
  clear hb86
  go_upto_region 3 with fail
  have hb87 := below_al (Below.refl wd85.heap.size wd85) (Nat.le_refl _) (.cells #[.int .i64 8, .bool false, .int .i64 0, .string ⟨#[]⟩, .int .i64 0, .slice none 0 0, .slice none 0 0, .slice none 0 0] 28)
  have V := Has.made wd85 28 #[.int .i64 8, .bool false, .int .i64 0, .string ⟨#[]⟩, .int .i64 0, .slice none 0 0, .slice none 0 0, .slice none 0 0]
  have hl89 := D.out.here
  have hl90 := R.out.here
  have hl91 := N.out.here
  have hl92 := hw83.size
  replace D := Lib.hid (D.out.below hb87 D.out.here)
  replace R := Lib.hid (R.out.below hb87 R.out.here)
  replace N := Lib.hid (N.out.below hb87 N.out.here)
  replace hw83 := hw83.trans (hb87.mono hw83.size)
  replace V := Lib.hid V
  clear hb87
  generalize (wd85.alloc (.cells #[.int .i64 8, .bool false, .int .i64 0, .string ⟨#[]⟩, .int .i64 0, .slice none 0 0, .slice none 0 0, .slice none 0 0] 28)) = wd93 at *
  generalize wd85.heap.size = g88 at *
  have cV_0 : wd93.cell? ⟨g88, 0, none⟩ = some (.int .i64 8) := V.out.cell 0
  have cD_0 : wd93.cell? ⟨w.heap.size, 0, none⟩ = some (.slice (some ⟨b, o, none⟩) xs.length c) := D.out.cell 0
  go_wp2_with fail
  clear cV_0 cD_0
  ((with_reducible refine (HK.out _ (HR.out.on hw83)).mono ?_); rintro e wd94 ⟨rfl, hb95⟩)
  replace D := Lib.hid (D.out.below hb95 D.out.here)
  replace R := Lib.hid (R.out.below hb95 R.out.here)
  replace N := Lib.hid (N.out.below hb95 N.out.here)
  replace V := Lib.hid (V.out.below hb95 V.out.here)
  replace hw83 := hw83.trans (hb95.mono hw83.size)
  clear hb95
  have cV_0 : wd94.cell? ⟨g88, 0, none⟩ = some (.int .i64 8) := V.out.cell 0
  have fV_0 := V.out.free 0
  go_upto_region 5 with fail
  clear cV_0 fV_0
  replace D := Lib.hid (D.out.far (p := ⟨g88, 0, none⟩) (show w.heap.size ≠ g88 by omega) (.int .i64 7))
  replace R := Lib.hid (R.out.far (p := ⟨g88, 0, none⟩) (show w.heap.size + 1 ≠ g88 by omega) (.int .i64 7))
  replace N := Lib.hid (N.out.far (p := ⟨g88, 0, none⟩) (show w.heap.size + 1 + 1 ≠ g88 by omega) (.int .i64 7))
  replace V : Hid (Has (wd94.setCell ⟨g88, 0, none⟩ (.int .i64 7)) (g88) 28 #[.int .i64 7, .bool false, .int .i64 0, .string ⟨#[]⟩, .int .i64 0, .slice none 0 0, .slice none 0 0, .slice none 0 0]) := Lib.hid (by have h := V.out.set 0 (.int .i64 7); simpa using h)
  replace hw83 := below_set hw83 (show w.heap.size ≤ g88 by omega) 0 (.int .i64 7)
  generalize wd94.setCell ⟨g88, 0, none⟩ (.int .i64 7) = wd96 at *
  have cV_0 : wd96.cell? ⟨g88, 0, none⟩ = some (.int .i64 7) := V.out.cell 0
  have cV_1 : wd96.cell? ⟨g88, 1, none⟩ = some (.bool false) := V.out.cell 1
  have cV_2 : wd96.cell? ⟨g88, 2, none⟩ = some (.int .i64 0) := V.out.cell 2
  have cV_3 : wd96.cell? ⟨g88, 3, none⟩ = some (.string ⟨#[]⟩) := V.out.cell 3
  have cV_4 : wd96.cell? ⟨g88, 4, none⟩ = some (.int .i64 0) := V.out.cell 4
  have cV_5 : wd96.cell? ⟨g88, 5, none⟩ = some (.slice none 0 0) := V.out.cell 5
  have cV_6 : wd96.cell? ⟨g88, 6, none⟩ = some (.slice none 0 0) := V.out.cell 6
  have cV_7 : wd96.cell? ⟨g88, 7, none⟩ = some (.slice none 0 0) := V.out.cell 7
  go_upto_region 18 with fail
  go_wp2_with (refine wpList_store_row rfl 28 _ _ rfl (w.heap.size + 1) _ rfl rfl 28 _ R.out (by kernel_rfl) rfl (by simp [Value.oneCell']) ?_)
  clear cV_0 cV_1 cV_2 cV_3 cV_4 cV_5 cV_6 cV_7
  replace D := Lib.hid (has_row (cs' := #[.int .i64 7, .bool false, .int .i64 0, .string ⟨#[]⟩, .int .i64 0, .slice none 0 0, .slice none 0 0, .slice none 0 0]) D.out (show w.heap.size ≠ w.heap.size + 1 by omega))
  replace N := Lib.hid (has_row (cs' := #[.int .i64 7, .bool false, .int .i64 0, .string ⟨#[]⟩, .int .i64 0, .slice none 0 0, .slice none 0 0, .slice none 0 0]) N.out (show w.heap.size + 1 + 1 ≠ w.heap.size + 1 by omega))
  replace V := Lib.hid (has_row (cs' := #[.int .i64 7, .bool false, .int .i64 0, .string ⟨#[]⟩, .int .i64 0, .slice none 0 0, .slice none 0 0, .slice none 0 0]) V.out (show g88 ≠ w.heap.size + 1 by omega))
  replace R : Hid (Has (wd96.setRow (w.heap.size + 1) #[.int .i64 7, .bool false, .int .i64 0, .string ⟨#[]⟩, .int .i64 0, .slice none 0 0, .slice none 0 0, .slice none 0 0]) (w.heap.size + 1) 28 #[.int .i64 7, .bool false, .int .i64 0, .string ⟨#[]⟩, .int .i64 0, .slice none 0 0, .slice none 0 0, .slice none 0 0]) := Lib.hid (row_has R.out _)
  replace hw83 := below_setRow hw83 (show w.heap.size ≤ w.heap.size + 1 by omega) #[.int .i64 7, .bool false, .int .i64 0, .string ⟨#[]⟩, .int .i64 0, .slice none 0 0, .slice none 0 0, .slice none 0 0]
  generalize wd96.setRow (w.heap.size + 1) #[.int .i64 7, .bool false, .int .i64 0, .string ⟨#[]⟩, .int .i64 0, .slice none 0 0, .slice none 0 0, .slice none 0 0] = wd97 at *
  have cR_0 : wd97.cell? ⟨w.heap.size + 1, 0, none⟩ = some (.int .i64 7) := R.out.cell 0
  have cR_1 : wd97.cell? ⟨w.heap.size + 1, 1, none⟩ = some (.bool false) := R.out.cell 1
  have cR_2 : wd97.cell? ⟨w.heap.size + 1, 2, none⟩ = some (.int .i64 0) := R.out.cell 2
  have cR_3 : wd97.cell? ⟨w.heap.size + 1, 3, none⟩ = some (.string ⟨#[]⟩) := R.out.cell 3
  have cR_4 : wd97.cell? ⟨w.heap.size + 1, 4, none⟩ = some (.int .i64 0) := R.out.cell 4
  have cR_5 : wd97.cell? ⟨w.heap.size + 1, 5, none⟩ = some (.slice none 0 0) := R.out.cell 5
  have cR_6 : wd97.cell? ⟨w.heap.size + 1, 6, none⟩ = some (.slice none 0 0) := R.out.cell 6
  have cR_7 : wd97.cell? ⟨w.heap.size + 1, 7, none⟩ = some (.slice none 0 0) := R.out.cell 7
  exact bodyPost_ret (v := .tuple #[.agg #[.int .i64 7, .bool false, .int .i64 0, .string ⟨#[]⟩, .int .i64 0, .slice none 0 0, .slice none 0 0, .slice none 0 0], .bool true]) (by simp [results, Try.results66, go_sem, cR_0, cR_1, cR_2, cR_3, cR_4, cR_5, cR_6, cR_7]) rfl (⟨by rw [HN.out]; rfl, hw83⟩)
end Go.Proofs.Ytjcoeolconelmaa

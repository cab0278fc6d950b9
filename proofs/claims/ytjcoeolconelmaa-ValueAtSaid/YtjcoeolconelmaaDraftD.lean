/- What initial computes for integers, strings and enumerations of a draft. No condition. -/
import Derived.Test.YtjcoeolconelmaaDraftC
namespace Go.Proofs.Ytjcoeolconelmaa
open Go.ChangeShapes Go.WideShapes Go.ChangeAt Go.RowKit
set_option maxRecDepth 100000 in
set_option maxHeartbeats 1000000 in
theorem initial3y (xs : List Nod) (vn : Value) (t code : Nat) (w : World) (h5 : 0 < xs.length ∧ xs.length ≤ 5) (ht : t < xs.length) (hk : kindN xs[t] = 3) (hy : 0 < xs[t].a % 4 ∧ code % 2 = 1) (hr : RdNods w w.heap.size vn xs) :
    Calls Try.prog 66 #[.agg #[vn], .int .i64 t, .int .u8 code] w fun e w' => e = .returned (.tuple #[valN (initialN xs t code).1, .bool (initialN xs t code).2]) ∧ Below w.heap.size w w' := by
  have hin : initialN xs t code = (.mk 3 false 0 [97] 0 [] [] [], true) := by
    unfold initialN
    rw [List.getElem?_eq_getElem ht]
    simp [hk, hy]
  obtain ⟨A, c, rfl, hcap⟩ := hr.form
  have HR := Lib.hid hr
  have hki := fun W h => kind_any xs (.slice A xs.length c) t W ht h
  rw [hk] at hki
  have HI := Lib.hid hki
  have HN := Lib.hid hin
  obtain ⟨b, o, rfl, hb, hel⟩ := hr.elem h5.1
  obtain ⟨vp, hcs, hn⟩ := hel t ht
  obtain ⟨P, cp, rfl, hcp⟩ := hn.parts.form
  obtain ⟨n0, n1, n2, n3, n4⟩ := hcs
  have ht1 : (t : Int) < xs.length := by omega
  clear hel hr hki hin hk
  generalize xs[t] = x at *
  have ta : decide (0 < (x.a : Int) % 4) = true := decide_eq_true (by omega)
  have tc : ((code : Int) % 2 == 1) = true := by have := hy.2; simp; omega
  clear hy
  go_enter Try.func66, Try.ntmps66
  go_upto_region 2 with fail
  have hb98 := below_al (below_al (below_al (Below.refl w.heap.size w) (Nat.le_refl _) (.cells #[.slice (some ⟨b, o, none⟩) xs.length c] 24)) (Nat.le_refl _) (.cells #[.int .i64 0, .bool false, .int .i64 0, .string ⟨#[]⟩, .int .i64 0, .slice none 0 0, .slice none 0 0, .slice none 0 0] 28)) (Nat.le_refl _) (.cells #[.int .u8 x.kind, .int .u8 x.a, .int .u8 x.b, .int .u8 x.c, .slice P x.parts.length cp] 62)
  have D := ((Has.made w 24 #[.slice (some ⟨b, o, none⟩) xs.length c]).alloc (.cells #[.int .i64 0, .bool false, .int .i64 0, .string ⟨#[]⟩, .int .i64 0, .slice none 0 0, .slice none 0 0, .slice none 0 0] 28)).alloc (.cells #[.int .u8 x.kind, .int .u8 x.a, .int .u8 x.b, .int .u8 x.c, .slice P x.parts.length cp] 62)
  have R := (Has.made (w.alloc (.cells #[.slice (some ⟨b, o, none⟩) xs.length c] 24)) 28 #[.int .i64 0, .bool false, .int .i64 0, .string ⟨#[]⟩, .int .i64 0, .slice none 0 0, .slice none 0 0, .slice none 0 0]).alloc (.cells #[.int .u8 x.kind, .int .u8 x.a, .int .u8 x.b, .int .u8 x.c, .slice P x.parts.length cp] 62)
  have N := Has.made ((w.alloc (.cells #[.slice (some ⟨b, o, none⟩) xs.length c] 24)).alloc (.cells #[.int .i64 0, .bool false, .int .i64 0, .string ⟨#[]⟩, .int .i64 0, .slice none 0 0, .slice none 0 0, .slice none 0 0] 28)) 62 #[.int .u8 x.kind, .int .u8 x.a, .int .u8 x.b, .int .u8 x.c, .slice P x.parts.length cp]
  simp only [alloc_hz] at R N
  have hw99 := hb98
  replace D := Lib.hid D
  replace R := Lib.hid R
  replace N := Lib.hid N
  clear hb98
  generalize (((w.alloc (.cells #[.slice (some ⟨b, o, none⟩) xs.length c] 24)).alloc (.cells #[.int .i64 0, .bool false, .int .i64 0, .string ⟨#[]⟩, .int .i64 0, .slice none 0 0, .slice none 0 0, .slice none 0 0] 28)).alloc (.cells #[.int .u8 x.kind, .int .u8 x.a, .int .u8 x.b, .int .u8 x.c, .slice P x.parts.length cp] 62)) = wd100 at *
  clear n0 n1 n2 n3 n4
  have cD_0 : wd100.cell? ⟨w.heap.size, 0, none⟩ = some (.slice (some ⟨b, o, none⟩) xs.length c) := D.out.cell 0
  go_wp2_with fail
  clear cD_0
  ((with_reducible refine (HI.out _ (HR.out.on hw99)).mono ?_); rintro e wd101 ⟨rfl, hb102⟩)
  replace D := Lib.hid (D.out.below hb102 D.out.here)
  replace R := Lib.hid (R.out.below hb102 R.out.here)
  replace N := Lib.hid (N.out.below hb102 N.out.here)
  replace hw99 := hw99.trans (hb102.mono hw99.size)
  clear hb102
  go_upto_region 3 with fail
  have hb103 := below_al (Below.refl wd101.heap.size wd101) (Nat.le_refl _) (.cells #[.int .i64 3, .bool false, .int .i64 0, .string ⟨#[]⟩, .int .i64 0, .slice none 0 0, .slice none 0 0, .slice none 0 0] 28)
  have V := Has.made wd101 28 #[.int .i64 3, .bool false, .int .i64 0, .string ⟨#[]⟩, .int .i64 0, .slice none 0 0, .slice none 0 0, .slice none 0 0]
  have hl105 := D.out.here
  have hl106 := R.out.here
  have hl107 := N.out.here
  have hl108 := hw99.size
  replace D := Lib.hid (D.out.below hb103 D.out.here)
  replace R := Lib.hid (R.out.below hb103 R.out.here)
  replace N := Lib.hid (N.out.below hb103 N.out.here)
  replace hw99 := hw99.trans (hb103.mono hw99.size)
  replace V := Lib.hid V
  clear hb103
  generalize (wd101.alloc (.cells #[.int .i64 3, .bool false, .int .i64 0, .string ⟨#[]⟩, .int .i64 0, .slice none 0 0, .slice none 0 0, .slice none 0 0] 28)) = wd109 at *
  generalize wd101.heap.size = g104 at *
  have cV_0 : wd109.cell? ⟨g104, 0, none⟩ = some (.int .i64 3) := V.out.cell 0
  have cV_3 : wd109.cell? ⟨g104, 3, none⟩ = some (.string ⟨#[]⟩) := V.out.cell 3
  have cN_1 : wd109.cell? ⟨w.heap.size + 1 + 1, 1, none⟩ = some (.int .u8 x.a) := N.out.cell 1
  have fV_3 := V.out.free 3
  go_upto_region 18 with fail
  clear cV_0 cV_3 cN_1 fV_3
  replace D := Lib.hid (D.out.far (p := ⟨g104, 3, none⟩) (show w.heap.size ≠ g104 by omega) (.string ⟨#[97]⟩))
  replace R := Lib.hid (R.out.far (p := ⟨g104, 3, none⟩) (show w.heap.size + 1 ≠ g104 by omega) (.string ⟨#[97]⟩))
  replace N := Lib.hid (N.out.far (p := ⟨g104, 3, none⟩) (show w.heap.size + 1 + 1 ≠ g104 by omega) (.string ⟨#[97]⟩))
  replace V : Hid (Has (wd109.setCell ⟨g104, 3, none⟩ (.string ⟨#[97]⟩)) (g104) 28 #[.int .i64 3, .bool false, .int .i64 0, .string ⟨#[97]⟩, .int .i64 0, .slice none 0 0, .slice none 0 0, .slice none 0 0]) := Lib.hid (by have h := V.out.set 3 (.string ⟨#[97]⟩); simpa using h)
  replace hw99 := below_set hw99 (show w.heap.size ≤ g104 by omega) 3 (.string ⟨#[97]⟩)
  generalize wd109.setCell ⟨g104, 3, none⟩ (.string ⟨#[97]⟩) = wd110 at *
  have cV_0 : wd110.cell? ⟨g104, 0, none⟩ = some (.int .i64 3) := V.out.cell 0
  have cV_1 : wd110.cell? ⟨g104, 1, none⟩ = some (.bool false) := V.out.cell 1
  have cV_2 : wd110.cell? ⟨g104, 2, none⟩ = some (.int .i64 0) := V.out.cell 2
  have cV_3 : wd110.cell? ⟨g104, 3, none⟩ = some (.string ⟨#[97]⟩) := V.out.cell 3
  have cV_4 : wd110.cell? ⟨g104, 4, none⟩ = some (.int .i64 0) := V.out.cell 4
  have cV_5 : wd110.cell? ⟨g104, 5, none⟩ = some (.slice none 0 0) := V.out.cell 5
  have cV_6 : wd110.cell? ⟨g104, 6, none⟩ = some (.slice none 0 0) := V.out.cell 6
  have cV_7 : wd110.cell? ⟨g104, 7, none⟩ = some (.slice none 0 0) := V.out.cell 7
  go_upto_region 18 with fail
  go_wp2_with (refine wpList_store_row rfl 28 _ _ rfl (w.heap.size + 1) _ rfl rfl 28 _ R.out (by kernel_rfl) rfl (by simp [Value.oneCell']) ?_)
  clear cV_0 cV_1 cV_2 cV_3 cV_4 cV_5 cV_6 cV_7
  replace D := Lib.hid (has_row (cs' := #[.int .i64 3, .bool false, .int .i64 0, .string ⟨#[97]⟩, .int .i64 0, .slice none 0 0, .slice none 0 0, .slice none 0 0]) D.out (show w.heap.size ≠ w.heap.size + 1 by omega))
  replace N := Lib.hid (has_row (cs' := #[.int .i64 3, .bool false, .int .i64 0, .string ⟨#[97]⟩, .int .i64 0, .slice none 0 0, .slice none 0 0, .slice none 0 0]) N.out (show w.heap.size + 1 + 1 ≠ w.heap.size + 1 by omega))
  replace V := Lib.hid (has_row (cs' := #[.int .i64 3, .bool false, .int .i64 0, .string ⟨#[97]⟩, .int .i64 0, .slice none 0 0, .slice none 0 0, .slice none 0 0]) V.out (show g104 ≠ w.heap.size + 1 by omega))
  replace R : Hid (Has (wd110.setRow (w.heap.size + 1) #[.int .i64 3, .bool false, .int .i64 0, .string ⟨#[97]⟩, .int .i64 0, .slice none 0 0, .slice none 0 0, .slice none 0 0]) (w.heap.size + 1) 28 #[.int .i64 3, .bool false, .int .i64 0, .string ⟨#[97]⟩, .int .i64 0, .slice none 0 0, .slice none 0 0, .slice none 0 0]) := Lib.hid (row_has R.out _)
  replace hw99 := below_setRow hw99 (show w.heap.size ≤ w.heap.size + 1 by omega) #[.int .i64 3, .bool false, .int .i64 0, .string ⟨#[97]⟩, .int .i64 0, .slice none 0 0, .slice none 0 0, .slice none 0 0]
  generalize wd110.setRow (w.heap.size + 1) #[.int .i64 3, .bool false, .int .i64 0, .string ⟨#[97]⟩, .int .i64 0, .slice none 0 0, .slice none 0 0, .slice none 0 0] = wd111 at *
  have cR_0 : wd111.cell? ⟨w.heap.size + 1, 0, none⟩ = some (.int .i64 3) := R.out.cell 0
  have cR_1 : wd111.cell? ⟨w.heap.size + 1, 1, none⟩ = some (.bool false) := R.out.cell 1
  have cR_2 : wd111.cell? ⟨w.heap.size + 1, 2, none⟩ = some (.int .i64 0) := R.out.cell 2
  have cR_3 : wd111.cell? ⟨w.heap.size + 1, 3, none⟩ = some (.string ⟨#[97]⟩) := R.out.cell 3
  have cR_4 : wd111.cell? ⟨w.heap.size + 1, 4, none⟩ = some (.int .i64 0) := R.out.cell 4
  have cR_5 : wd111.cell? ⟨w.heap.size + 1, 5, none⟩ = some (.slice none 0 0) := R.out.cell 5
  have cR_6 : wd111.cell? ⟨w.heap.size + 1, 6, none⟩ = some (.slice none 0 0) := R.out.cell 6
  have cR_7 : wd111.cell? ⟨w.heap.size + 1, 7, none⟩ = some (.slice none 0 0) := R.out.cell 7
  exact bodyPost_ret (v := .tuple #[.agg #[.int .i64 3, .bool false, .int .i64 0, .string ⟨#[97]⟩, .int .i64 0, .slice none 0 0, .slice none 0 0, .slice none 0 0], .bool true]) (by simp [results, Try.results66, go_sem, cR_0, cR_1, cR_2, cR_3, cR_4, cR_5, cR_6, cR_7]) rfl (⟨by rw [HN.out]; rfl, hw99⟩)
set_option maxRecDepth 100000 in
set_option maxHeartbeats 1000000 in
theorem initial3n (xs : List Nod) (vn : Value) (t code : Nat) (w : World) (h5 : 0 < xs.length ∧ xs.length ≤ 5) (ht : t < xs.length) (hk : kindN xs[t] = 3) (hy : xs[t].a % 4 = 0) (hr : RdNods w w.heap.size vn xs) :
    Calls Try.prog 66 #[.agg #[vn], .int .i64 t, .int .u8 code] w fun e w' => e = .returned (.tuple #[valN (initialN xs t code).1, .bool (initialN xs t code).2]) ∧ Below w.heap.size w w' := by
  have hin : initialN xs t code = (.mk 3 false 0 [] 0 [] [] [], true) := by
    unfold initialN
    rw [List.getElem?_eq_getElem ht]
    simp [hk, hy]
  obtain ⟨A, c, rfl, hcap⟩ := hr.form
  have HR := Lib.hid hr
  have hki := fun W h => kind_any xs (.slice A xs.length c) t W ht h
  rw [hk] at hki
  have HI := Lib.hid hki
  have HN := Lib.hid hin
  obtain ⟨b, o, rfl, hb, hel⟩ := hr.elem h5.1
  obtain ⟨vp, hcs, hn⟩ := hel t ht
  obtain ⟨P, cp, rfl, hcp⟩ := hn.parts.form
  obtain ⟨n0, n1, n2, n3, n4⟩ := hcs
  have ht1 : (t : Int) < xs.length := by omega
  clear hel hr hki hin hk
  generalize xs[t] = x at *
  have ta : decide (0 < (x.a : Int) % 4) = false := decide_eq_false (by omega)
  clear hy
  go_enter Try.func66, Try.ntmps66
  go_upto_region 2 with fail
  have hb112 := below_al (below_al (below_al (Below.refl w.heap.size w) (Nat.le_refl _) (.cells #[.slice (some ⟨b, o, none⟩) xs.length c] 24)) (Nat.le_refl _) (.cells #[.int .i64 0, .bool false, .int .i64 0, .string ⟨#[]⟩, .int .i64 0, .slice none 0 0, .slice none 0 0, .slice none 0 0] 28)) (Nat.le_refl _) (.cells #[.int .u8 x.kind, .int .u8 x.a, .int .u8 x.b, .int .u8 x.c, .slice P x.parts.length cp] 62)
  have D := ((Has.made w 24 #[.slice (some ⟨b, o, none⟩) xs.length c]).alloc (.cells #[.int .i64 0, .bool false, .int .i64 0, .string ⟨#[]⟩, .int .i64 0, .slice none 0 0, .slice none 0 0, .slice none 0 0] 28)).alloc (.cells #[.int .u8 x.kind, .int .u8 x.a, .int .u8 x.b, .int .u8 x.c, .slice P x.parts.length cp] 62)
  have R := (Has.made (w.alloc (.cells #[.slice (some ⟨b, o, none⟩) xs.length c] 24)) 28 #[.int .i64 0, .bool false, .int .i64 0, .string ⟨#[]⟩, .int .i64 0, .slice none 0 0, .slice none 0 0, .slice none 0 0]).alloc (.cells #[.int .u8 x.kind, .int .u8 x.a, .int .u8 x.b, .int .u8 x.c, .slice P x.parts.length cp] 62)
  have N := Has.made ((w.alloc (.cells #[.slice (some ⟨b, o, none⟩) xs.length c] 24)).alloc (.cells #[.int .i64 0, .bool false, .int .i64 0, .string ⟨#[]⟩, .int .i64 0, .slice none 0 0, .slice none 0 0, .slice none 0 0] 28)) 62 #[.int .u8 x.kind, .int .u8 x.a, .int .u8 x.b, .int .u8 x.c, .slice P x.parts.length cp]
  simp only [alloc_hz] at R N
  have hw113 := hb112
  replace D := Lib.hid D
  replace R := Lib.hid R
  replace N := Lib.hid N
  clear hb112
  generalize (((w.alloc (.cells #[.slice (some ⟨b, o, none⟩) xs.length c] 24)).alloc (.cells #[.int .i64 0, .bool false, .int .i64 0, .string ⟨#[]⟩, .int .i64 0, .slice none 0 0, .slice none 0 0, .slice none 0 0] 28)).alloc (.cells #[.int .u8 x.kind, .int .u8 x.a, .int .u8 x.b, .int .u8 x.c, .slice P x.parts.length cp] 62)) = wd114 at *
  clear n0 n1 n2 n3 n4
  have cD_0 : wd114.cell? ⟨w.heap.size, 0, none⟩ = some (.slice (some ⟨b, o, none⟩) xs.length c) := D.out.cell 0
  go_wp2_with fail
  clear cD_0
  ((with_reducible refine (HI.out _ (HR.out.on hw113)).mono ?_); rintro e wd115 ⟨rfl, hb116⟩)
  replace D := Lib.hid (D.out.below hb116 D.out.here)
  replace R := Lib.hid (R.out.below hb116 R.out.here)
  replace N := Lib.hid (N.out.below hb116 N.out.here)
  replace hw113 := hw113.trans (hb116.mono hw113.size)
  clear hb116
  go_upto_region 3 with fail
  have hb117 := below_al (Below.refl wd115.heap.size wd115) (Nat.le_refl _) (.cells #[.int .i64 3, .bool false, .int .i64 0, .string ⟨#[]⟩, .int .i64 0, .slice none 0 0, .slice none 0 0, .slice none 0 0] 28)
  have V := Has.made wd115 28 #[.int .i64 3, .bool false, .int .i64 0, .string ⟨#[]⟩, .int .i64 0, .slice none 0 0, .slice none 0 0, .slice none 0 0]
  have hl119 := D.out.here
  have hl120 := R.out.here
  have hl121 := N.out.here
  have hl122 := hw113.size
  replace D := Lib.hid (D.out.below hb117 D.out.here)
  replace R := Lib.hid (R.out.below hb117 R.out.here)
  replace N := Lib.hid (N.out.below hb117 N.out.here)
  replace hw113 := hw113.trans (hb117.mono hw113.size)
  replace V := Lib.hid V
  clear hb117
  generalize (wd115.alloc (.cells #[.int .i64 3, .bool false, .int .i64 0, .string ⟨#[]⟩, .int .i64 0, .slice none 0 0, .slice none 0 0, .slice none 0 0] 28)) = wd123 at *
  generalize wd115.heap.size = g118 at *
  have cV_0 : wd123.cell? ⟨g118, 0, none⟩ = some (.int .i64 3) := V.out.cell 0
  have cN_1 : wd123.cell? ⟨w.heap.size + 1 + 1, 1, none⟩ = some (.int .u8 x.a) := N.out.cell 1
  have cV_1 : wd123.cell? ⟨g118, 1, none⟩ = some (.bool false) := V.out.cell 1
  have cV_2 : wd123.cell? ⟨g118, 2, none⟩ = some (.int .i64 0) := V.out.cell 2
  have cV_3 : wd123.cell? ⟨g118, 3, none⟩ = some (.string ⟨#[]⟩) := V.out.cell 3
  have cV_4 : wd123.cell? ⟨g118, 4, none⟩ = some (.int .i64 0) := V.out.cell 4
  have cV_5 : wd123.cell? ⟨g118, 5, none⟩ = some (.slice none 0 0) := V.out.cell 5
  have cV_6 : wd123.cell? ⟨g118, 6, none⟩ = some (.slice none 0 0) := V.out.cell 6
  have cV_7 : wd123.cell? ⟨g118, 7, none⟩ = some (.slice none 0 0) := V.out.cell 7
  go_upto_region 18 with fail
  go_wp2_with (refine wpList_store_row rfl 28 _ _ rfl (w.heap.size + 1) _ rfl rfl 28 _ R.out (by kernel_rfl) rfl (by simp [Value.oneCell']) ?_)
  clear cV_0 cN_1 cV_1 cV_2 cV_3 cV_4 cV_5 cV_6 cV_7
  replace D := Lib.hid (has_row (cs' := #[.int .i64 3, .bool false, .int .i64 0, .string ⟨#[]⟩, .int .i64 0, .slice none 0 0, .slice none 0 0, .slice none 0 0]) D.out (show w.heap.size ≠ w.heap.size + 1 by omega))
  replace N := Lib.hid (has_row (cs' := #[.int .i64 3, .bool false, .int .i64 0, .string ⟨#[]⟩, .int .i64 0, .slice none 0 0, .slice none 0 0, .slice none 0 0]) N.out (show w.heap.size + 1 + 1 ≠ w.heap.size + 1 by omega))
  replace V := Lib.hid (has_row (cs' := #[.int .i64 3, .bool false, .int .i64 0, .string ⟨#[]⟩, .int .i64 0, .slice none 0 0, .slice none 0 0, .slice none 0 0]) V.out (show g118 ≠ w.heap.size + 1 by omega))
  replace R : Hid (Has (wd123.setRow (w.heap.size + 1) #[.int .i64 3, .bool false, .int .i64 0, .string ⟨#[]⟩, .int .i64 0, .slice none 0 0, .slice none 0 0, .slice none 0 0]) (w.heap.size + 1) 28 #[.int .i64 3, .bool false, .int .i64 0, .string ⟨#[]⟩, .int .i64 0, .slice none 0 0, .slice none 0 0, .slice none 0 0]) := Lib.hid (row_has R.out _)
  replace hw113 := below_setRow hw113 (show w.heap.size ≤ w.heap.size + 1 by omega) #[.int .i64 3, .bool false, .int .i64 0, .string ⟨#[]⟩, .int .i64 0, .slice none 0 0, .slice none 0 0, .slice none 0 0]
  generalize wd123.setRow (w.heap.size + 1) #[.int .i64 3, .bool false, .int .i64 0, .string ⟨#[]⟩, .int .i64 0, .slice none 0 0, .slice none 0 0, .slice none 0 0] = wd124 at *
  have cR_0 : wd124.cell? ⟨w.heap.size + 1, 0, none⟩ = some (.int .i64 3) := R.out.cell 0
  have cR_1 : wd124.cell? ⟨w.heap.size + 1, 1, none⟩ = some (.bool false) := R.out.cell 1
  have cR_2 : wd124.cell? ⟨w.heap.size + 1, 2, none⟩ = some (.int .i64 0) := R.out.cell 2
  have cR_3 : wd124.cell? ⟨w.heap.size + 1, 3, none⟩ = some (.string ⟨#[]⟩) := R.out.cell 3
  have cR_4 : wd124.cell? ⟨w.heap.size + 1, 4, none⟩ = some (.int .i64 0) := R.out.cell 4
  have cR_5 : wd124.cell? ⟨w.heap.size + 1, 5, none⟩ = some (.slice none 0 0) := R.out.cell 5
  have cR_6 : wd124.cell? ⟨w.heap.size + 1, 6, none⟩ = some (.slice none 0 0) := R.out.cell 6
  have cR_7 : wd124.cell? ⟨w.heap.size + 1, 7, none⟩ = some (.slice none 0 0) := R.out.cell 7
  exact bodyPost_ret (v := .tuple #[.agg #[.int .i64 3, .bool false, .int .i64 0, .string ⟨#[]⟩, .int .i64 0, .slice none 0 0, .slice none 0 0, .slice none 0 0], .bool true]) (by simp [results, Try.results66, go_sem, cR_0, cR_1, cR_2, cR_3, cR_4, cR_5, cR_6, cR_7]) rfl (⟨by rw [HN.out]; rfl, hw113⟩)
set_option maxRecDepth 100000 in
set_option maxHeartbeats 1000000 in
theorem initial3m (xs : List Nod) (vn : Value) (t code : Nat) (w : World) (h5 : 0 < xs.length ∧ xs.length ≤ 5) (ht : t < xs.length) (hk : kindN xs[t] = 3) (hy : 0 < xs[t].a % 4) (hz : code % 2 = 0) (hr : RdNods w w.heap.size vn xs) :
    Calls Try.prog 66 #[.agg #[vn], .int .i64 t, .int .u8 code] w fun e w' => e = .returned (.tuple #[valN (initialN xs t code).1, .bool (initialN xs t code).2]) ∧ Below w.heap.size w w' := by
  have hin : initialN xs t code = (.mk 3 false 0 [] 0 [] [] [], true) := by
    unfold initialN
    rw [List.getElem?_eq_getElem ht]
    simp [hk, hz]
  obtain ⟨A, c, rfl, hcap⟩ := hr.form
  have HR := Lib.hid hr
  have hki := fun W h => kind_any xs (.slice A xs.length c) t W ht h
  rw [hk] at hki
  have HI := Lib.hid hki
  have HN := Lib.hid hin
  obtain ⟨b, o, rfl, hb, hel⟩ := hr.elem h5.1
  obtain ⟨vp, hcs, hn⟩ := hel t ht
  obtain ⟨P, cp, rfl, hcp⟩ := hn.parts.form
  obtain ⟨n0, n1, n2, n3, n4⟩ := hcs
  have ht1 : (t : Int) < xs.length := by omega
  clear hel hr hki hin hk
  generalize xs[t] = x at *
  have ta : decide (0 < (x.a : Int) % 4) = true := decide_eq_true (by omega)
  have tc : ((code : Int) % 2 == 1) = false := beq_eq_false_iff_ne.2 (by omega)
  clear hy hz
  go_enter Try.func66, Try.ntmps66
  go_upto_region 2 with fail
  have hb125 := below_al (below_al (below_al (Below.refl w.heap.size w) (Nat.le_refl _) (.cells #[.slice (some ⟨b, o, none⟩) xs.length c] 24)) (Nat.le_refl _) (.cells #[.int .i64 0, .bool false, .int .i64 0, .string ⟨#[]⟩, .int .i64 0, .slice none 0 0, .slice none 0 0, .slice none 0 0] 28)) (Nat.le_refl _) (.cells #[.int .u8 x.kind, .int .u8 x.a, .int .u8 x.b, .int .u8 x.c, .slice P x.parts.length cp] 62)
  have D := ((Has.made w 24 #[.slice (some ⟨b, o, none⟩) xs.length c]).alloc (.cells #[.int .i64 0, .bool false, .int .i64 0, .string ⟨#[]⟩, .int .i64 0, .slice none 0 0, .slice none 0 0, .slice none 0 0] 28)).alloc (.cells #[.int .u8 x.kind, .int .u8 x.a, .int .u8 x.b, .int .u8 x.c, .slice P x.parts.length cp] 62)
  have R := (Has.made (w.alloc (.cells #[.slice (some ⟨b, o, none⟩) xs.length c] 24)) 28 #[.int .i64 0, .bool false, .int .i64 0, .string ⟨#[]⟩, .int .i64 0, .slice none 0 0, .slice none 0 0, .slice none 0 0]).alloc (.cells #[.int .u8 x.kind, .int .u8 x.a, .int .u8 x.b, .int .u8 x.c, .slice P x.parts.length cp] 62)
  have N := Has.made ((w.alloc (.cells #[.slice (some ⟨b, o, none⟩) xs.length c] 24)).alloc (.cells #[.int .i64 0, .bool false, .int .i64 0, .string ⟨#[]⟩, .int .i64 0, .slice none 0 0, .slice none 0 0, .slice none 0 0] 28)) 62 #[.int .u8 x.kind, .int .u8 x.a, .int .u8 x.b, .int .u8 x.c, .slice P x.parts.length cp]
  simp only [alloc_hz] at R N
  have hw126 := hb125
  replace D := Lib.hid D
  replace R := Lib.hid R
  replace N := Lib.hid N
  clear hb125
  generalize (((w.alloc (.cells #[.slice (some ⟨b, o, none⟩) xs.length c] 24)).alloc (.cells #[.int .i64 0, .bool false, .int .i64 0, .string ⟨#[]⟩, .int .i64 0, .slice none 0 0, .slice none 0 0, .slice none 0 0] 28)).alloc (.cells #[.int .u8 x.kind, .int .u8 x.a, .int .u8 x.b, .int .u8 x.c, .slice P x.parts.length cp] 62)) = wd127 at *
  clear n0 n1 n2 n3 n4
  have cD_0 : wd127.cell? ⟨w.heap.size, 0, none⟩ = some (.slice (some ⟨b, o, none⟩) xs.length c) := D.out.cell 0
  go_wp2_with fail
  clear cD_0
  ((with_reducible refine (HI.out _ (HR.out.on hw126)).mono ?_); rintro e wd128 ⟨rfl, hb129⟩)
  replace D := Lib.hid (D.out.below hb129 D.out.here)
  replace R := Lib.hid (R.out.below hb129 R.out.here)
  replace N := Lib.hid (N.out.below hb129 N.out.here)
  replace hw126 := hw126.trans (hb129.mono hw126.size)
  clear hb129
  go_upto_region 3 with fail
  have hb130 := below_al (Below.refl wd128.heap.size wd128) (Nat.le_refl _) (.cells #[.int .i64 3, .bool false, .int .i64 0, .string ⟨#[]⟩, .int .i64 0, .slice none 0 0, .slice none 0 0, .slice none 0 0] 28)
  have V := Has.made wd128 28 #[.int .i64 3, .bool false, .int .i64 0, .string ⟨#[]⟩, .int .i64 0, .slice none 0 0, .slice none 0 0, .slice none 0 0]
  have hl132 := D.out.here
  have hl133 := R.out.here
  have hl134 := N.out.here
  have hl135 := hw126.size
  replace D := Lib.hid (D.out.below hb130 D.out.here)
  replace R := Lib.hid (R.out.below hb130 R.out.here)
  replace N := Lib.hid (N.out.below hb130 N.out.here)
  replace hw126 := hw126.trans (hb130.mono hw126.size)
  replace V := Lib.hid V
  clear hb130
  generalize (wd128.alloc (.cells #[.int .i64 3, .bool false, .int .i64 0, .string ⟨#[]⟩, .int .i64 0, .slice none 0 0, .slice none 0 0, .slice none 0 0] 28)) = wd136 at *
  generalize wd128.heap.size = g131 at *
  have cV_0 : wd136.cell? ⟨g131, 0, none⟩ = some (.int .i64 3) := V.out.cell 0
  have cN_1 : wd136.cell? ⟨w.heap.size + 1 + 1, 1, none⟩ = some (.int .u8 x.a) := N.out.cell 1
  have cV_1 : wd136.cell? ⟨g131, 1, none⟩ = some (.bool false) := V.out.cell 1
  have cV_2 : wd136.cell? ⟨g131, 2, none⟩ = some (.int .i64 0) := V.out.cell 2
  have cV_3 : wd136.cell? ⟨g131, 3, none⟩ = some (.string ⟨#[]⟩) := V.out.cell 3
  have cV_4 : wd136.cell? ⟨g131, 4, none⟩ = some (.int .i64 0) := V.out.cell 4
  have cV_5 : wd136.cell? ⟨g131, 5, none⟩ = some (.slice none 0 0) := V.out.cell 5
  have cV_6 : wd136.cell? ⟨g131, 6, none⟩ = some (.slice none 0 0) := V.out.cell 6
  have cV_7 : wd136.cell? ⟨g131, 7, none⟩ = some (.slice none 0 0) := V.out.cell 7
  go_upto_region 18 with fail
  go_wp2_with (refine wpList_store_row rfl 28 _ _ rfl (w.heap.size + 1) _ rfl rfl 28 _ R.out (by kernel_rfl) rfl (by simp [Value.oneCell']) ?_)
  clear cV_0 cN_1 cV_1 cV_2 cV_3 cV_4 cV_5 cV_6 cV_7
  replace D := Lib.hid (has_row (cs' := #[.int .i64 3, .bool false, .int .i64 0, .string ⟨#[]⟩, .int .i64 0, .slice none 0 0, .slice none 0 0, .slice none 0 0]) D.out (show w.heap.size ≠ w.heap.size + 1 by omega))
  replace N := Lib.hid (has_row (cs' := #[.int .i64 3, .bool false, .int .i64 0, .string ⟨#[]⟩, .int .i64 0, .slice none 0 0, .slice none 0 0, .slice none 0 0]) N.out (show w.heap.size + 1 + 1 ≠ w.heap.size + 1 by omega))
  replace V := Lib.hid (has_row (cs' := #[.int .i64 3, .bool false, .int .i64 0, .string ⟨#[]⟩, .int .i64 0, .slice none 0 0, .slice none 0 0, .slice none 0 0]) V.out (show g131 ≠ w.heap.size + 1 by omega))
  replace R : Hid (Has (wd136.setRow (w.heap.size + 1) #[.int .i64 3, .bool false, .int .i64 0, .string ⟨#[]⟩, .int .i64 0, .slice none 0 0, .slice none 0 0, .slice none 0 0]) (w.heap.size + 1) 28 #[.int .i64 3, .bool false, .int .i64 0, .string ⟨#[]⟩, .int .i64 0, .slice none 0 0, .slice none 0 0, .slice none 0 0]) := Lib.hid (row_has R.out _)
  replace hw126 := below_setRow hw126 (show w.heap.size ≤ w.heap.size + 1 by omega) #[.int .i64 3, .bool false, .int .i64 0, .string ⟨#[]⟩, .int .i64 0, .slice none 0 0, .slice none 0 0, .slice none 0 0]
  generalize wd136.setRow (w.heap.size + 1) #[.int .i64 3, .bool false, .int .i64 0, .string ⟨#[]⟩, .int .i64 0, .slice none 0 0, .slice none 0 0, .slice none 0 0] = wd137 at *
  have cR_0 : wd137.cell? ⟨w.heap.size + 1, 0, none⟩ = some (.int .i64 3) := R.out.cell 0
  have cR_1 : wd137.cell? ⟨w.heap.size + 1, 1, none⟩ = some (.bool false) := R.out.cell 1
  have cR_2 : wd137.cell? ⟨w.heap.size + 1, 2, none⟩ = some (.int .i64 0) := R.out.cell 2
  have cR_3 : wd137.cell? ⟨w.heap.size + 1, 3, none⟩ = some (.string ⟨#[]⟩) := R.out.cell 3
  have cR_4 : wd137.cell? ⟨w.heap.size + 1, 4, none⟩ = some (.int .i64 0) := R.out.cell 4
  have cR_5 : wd137.cell? ⟨w.heap.size + 1, 5, none⟩ = some (.slice none 0 0) := R.out.cell 5
  have cR_6 : wd137.cell? ⟨w.heap.size + 1, 6, none⟩ = some (.slice none 0 0) := R.out.cell 6
  have cR_7 : wd137.cell? ⟨w.heap.size + 1, 7, none⟩ = some (.slice none 0 0) := R.out.cell 7
  exact bodyPost_ret (v := .tuple #[.agg #[.int .i64 3, .bool false, .int .i64 0, .string ⟨#[]⟩, .int .i64 0, .slice none 0 0, .slice none 0 0, .slice none 0 0], .bool true]) (by simp [results, Try.results66, go_sem, cR_0, cR_1, cR_2, cR_3, cR_4, cR_5, cR_6, cR_7]) rfl (⟨by rw [HN.out]; rfl, hw126⟩)
set_option maxRecDepth 100000 in
set_option maxHeartbeats 1000000 in
theorem initial2 (xs : List Nod) (vn : Value) (t code : Nat) (w : World) (hc : code < 256) (h5 : 0 < xs.length ∧ xs.length ≤ 5) (ht : t < xs.length) (hk : kindN xs[t] = 2) (hr : RdNods w w.heap.size vn xs) :
    Calls Try.prog 66 #[.agg #[vn], .int .i64 t, .int .u8 code] w fun e w' => e = .returned (.tuple #[valN (initialN xs t code).1, .bool (initialN xs t code).2]) ∧ Below w.heap.size w w' := by
  have hin : initialN xs t code = (.mk 2 false (lowN xs[t] + (code : Int) % (highN xs[t] - lowN xs[t] + 1)) [] 0 [] [] [], true) := by
    unfold initialN
    rw [List.getElem?_eq_getElem ht]
    simp [hk]
  obtain ⟨A, c, rfl, hcap⟩ := hr.form
  have HR := Lib.hid hr
  have hki := fun W h => kind_any xs (.slice A xs.length c) t W ht h
  rw [hk] at hki
  have HI := Lib.hid hki
  have HN := Lib.hid hin
  obtain ⟨b, o, rfl, hb, hel⟩ := hr.elem h5.1
  obtain ⟨vp, hcs, hn⟩ := hel t ht
  obtain ⟨P, cp, rfl, hcp⟩ := hn.parts.form
  obtain ⟨n0, n1, n2, n3, n4⟩ := hcs
  have ht1 : (t : Int) < xs.length := by omega
  clear hel hr hki hin hk
  have hlo := fun W => low_any xs[t] (.slice P xs[t].parts.length cp) W hn.ints.2.1
  have hhi := fun W => high_any xs[t] (.slice P xs[t].parts.length cp) W hn.ints.2.1 hn.ints.2.2.1
  have hr1 := low_rng xs[t]
  have hr2 : lowN xs[t] ≤ highN xs[t] ∧ highN xs[t] ≤ lowN xs[t] + 5 := by unfold highN; omega
  generalize lowN xs[t] = lo at *
  generalize highN xs[t] = hi at *
  have HLO := Lib.hid hlo
  have HHI := Lib.hid hhi
  have hcc : (code : Int) < 256 := by omega
  have hmr : 0 ≤ (code : Int) % (hi - lo + 1) ∧ (code : Int) % (hi - lo + 1) < hi - lo + 1 := ⟨Int.emod_nonneg _ (by omega), Int.emod_lt_of_pos _ (by omega)⟩
  clear hlo hhi
  generalize xs[t] = x at *
  go_enter Try.func66, Try.ntmps66
  go_upto_region 2 with fail
  have hb138 := below_al (below_al (below_al (Below.refl w.heap.size w) (Nat.le_refl _) (.cells #[.slice (some ⟨b, o, none⟩) xs.length c] 24)) (Nat.le_refl _) (.cells #[.int .i64 0, .bool false, .int .i64 0, .string ⟨#[]⟩, .int .i64 0, .slice none 0 0, .slice none 0 0, .slice none 0 0] 28)) (Nat.le_refl _) (.cells #[.int .u8 x.kind, .int .u8 x.a, .int .u8 x.b, .int .u8 x.c, .slice P x.parts.length cp] 62)
  have D := ((Has.made w 24 #[.slice (some ⟨b, o, none⟩) xs.length c]).alloc (.cells #[.int .i64 0, .bool false, .int .i64 0, .string ⟨#[]⟩, .int .i64 0, .slice none 0 0, .slice none 0 0, .slice none 0 0] 28)).alloc (.cells #[.int .u8 x.kind, .int .u8 x.a, .int .u8 x.b, .int .u8 x.c, .slice P x.parts.length cp] 62)
  have R := (Has.made (w.alloc (.cells #[.slice (some ⟨b, o, none⟩) xs.length c] 24)) 28 #[.int .i64 0, .bool false, .int .i64 0, .string ⟨#[]⟩, .int .i64 0, .slice none 0 0, .slice none 0 0, .slice none 0 0]).alloc (.cells #[.int .u8 x.kind, .int .u8 x.a, .int .u8 x.b, .int .u8 x.c, .slice P x.parts.length cp] 62)
  have N := Has.made ((w.alloc (.cells #[.slice (some ⟨b, o, none⟩) xs.length c] 24)).alloc (.cells #[.int .i64 0, .bool false, .int .i64 0, .string ⟨#[]⟩, .int .i64 0, .slice none 0 0, .slice none 0 0, .slice none 0 0] 28)) 62 #[.int .u8 x.kind, .int .u8 x.a, .int .u8 x.b, .int .u8 x.c, .slice P x.parts.length cp]
  simp only [alloc_hz] at R N
  have hw139 := hb138
  replace D := Lib.hid D
  replace R := Lib.hid R
  replace N := Lib.hid N
  clear hb138
  generalize (((w.alloc (.cells #[.slice (some ⟨b, o, none⟩) xs.length c] 24)).alloc (.cells #[.int .i64 0, .bool false, .int .i64 0, .string ⟨#[]⟩, .int .i64 0, .slice none 0 0, .slice none 0 0, .slice none 0 0] 28)).alloc (.cells #[.int .u8 x.kind, .int .u8 x.a, .int .u8 x.b, .int .u8 x.c, .slice P x.parts.length cp] 62)) = wd140 at *
  clear n0 n1 n2 n3 n4
  have cD_0 : wd140.cell? ⟨w.heap.size, 0, none⟩ = some (.slice (some ⟨b, o, none⟩) xs.length c) := D.out.cell 0
  go_wp2_with fail
  clear cD_0
  ((with_reducible refine (HI.out _ (HR.out.on hw139)).mono ?_); rintro e wd141 ⟨rfl, hb142⟩)
  replace D := Lib.hid (D.out.below hb142 D.out.here)
  replace R := Lib.hid (R.out.below hb142 R.out.here)
  replace N := Lib.hid (N.out.below hb142 N.out.here)
  replace hw139 := hw139.trans (hb142.mono hw139.size)
  clear hb142
  go_upto_region 3 with fail
  have hb143 := below_al (Below.refl wd141.heap.size wd141) (Nat.le_refl _) (.cells #[.int .i64 2, .bool false, .int .i64 0, .string ⟨#[]⟩, .int .i64 0, .slice none 0 0, .slice none 0 0, .slice none 0 0] 28)
  have V := Has.made wd141 28 #[.int .i64 2, .bool false, .int .i64 0, .string ⟨#[]⟩, .int .i64 0, .slice none 0 0, .slice none 0 0, .slice none 0 0]
  have hl145 := D.out.here
  have hl146 := R.out.here
  have hl147 := N.out.here
  have hl148 := hw139.size
  replace D := Lib.hid (D.out.below hb143 D.out.here)
  replace R := Lib.hid (R.out.below hb143 R.out.here)
  replace N := Lib.hid (N.out.below hb143 N.out.here)
  replace hw139 := hw139.trans (hb143.mono hw139.size)
  replace V := Lib.hid V
  clear hb143
  generalize (wd141.alloc (.cells #[.int .i64 2, .bool false, .int .i64 0, .string ⟨#[]⟩, .int .i64 0, .slice none 0 0, .slice none 0 0, .slice none 0 0] 28)) = wd149 at *
  generalize wd141.heap.size = g144 at *
  have cV_0 : wd149.cell? ⟨g144, 0, none⟩ = some (.int .i64 2) := V.out.cell 0
  go_upto_region 9 with fail
  have cV_2 : wd149.cell? ⟨g144, 2, none⟩ = some (.int .i64 0) := V.out.cell 2
  have fV_2 := V.out.free 2
  have e1 : IntKind.i64.wrap (code : Int) = code := IntWalk.i64_in _ (by omega)
  have e2 : IntKind.i64.wrap (hi - lo) = hi - lo := IntWalk.i64_in _ (by omega)
  have e3 : IntKind.i64.wrap (hi - lo + 1) = hi - lo + 1 := IntWalk.i64_in _ (by omega)
  have e4 : ¬ (hi - lo + 1 = 0) := by omega
  have e5 : (code : Int).tmod (hi - lo + 1) = (code : Int) % (hi - lo + 1) := Int.tmod_eq_emod_of_nonneg (by omega)
  have e6 : IntKind.i64.wrap ((code : Int) % (hi - lo + 1)) = (code : Int) % (hi - lo + 1) := IntWalk.i64_in _ (by omega)
  have e7 : IntKind.i64.wrap (lo + (code : Int) % (hi - lo + 1)) = lo + (code : Int) % (hi - lo + 1) := IntWalk.i64_in _ (by omega)
  have cN_0 : wd149.cell? ⟨w.heap.size + 1 + 1, 0, none⟩ = some (.int .u8 x.kind) := N.out.cell 0
  have cN_1 : wd149.cell? ⟨w.heap.size + 1 + 1, 1, none⟩ = some (.int .u8 x.a) := N.out.cell 1
  have cN_2 : wd149.cell? ⟨w.heap.size + 1 + 1, 2, none⟩ = some (.int .u8 x.b) := N.out.cell 2
  have cN_3 : wd149.cell? ⟨w.heap.size + 1 + 1, 3, none⟩ = some (.int .u8 x.c) := N.out.cell 3
  have cN_4 : wd149.cell? ⟨w.heap.size + 1 + 1, 4, none⟩ = some (.slice P x.parts.length cp) := N.out.cell 4
  go_region_held3 (fun w' => w'.cell? ⟨w.heap.size + 1 + 1, 0, none⟩ = some (.int .u8 x.kind) ∧ w'.cell? ⟨w.heap.size + 1 + 1, 1, none⟩ = some (.int .u8 x.a) ∧ w'.cell? ⟨w.heap.size + 1 + 1, 2, none⟩ = some (.int .u8 x.b) ∧ w'.cell? ⟨w.heap.size + 1 + 1, 3, none⟩ = some (.int .u8 x.c) ∧ w'.cell? ⟨w.heap.size + 1 + 1, 4, none⟩ = some (.slice P x.parts.length cp)) (first | (go_keep; done) | exact ⟨cN_0, cN_1, cN_2, cN_3, cN_4⟩ | (((repeat' apply And.intro) <;> ((repeat (with_reducible (first | refine Eq.trans (cell_drew _ _) ?_ | refine Eq.trans (cell_far _ _ _ _ _ (by dsimp only; omega)) ?_))); assumption)); done))
    (first
      | (go_at_call 36; (first | (with_reducible refine (HLO.out _).mono ?_)); rintro e wn ⟨rfl, hbn⟩; have D : Hid (Has wn (w.heap.size) 24 #[.slice (some ⟨b, o, none⟩) xs.length c]) := Lib.hid (by first | exact D.out.below hbn D.out.here | exact D.out.drew.below hbn D.out.here); have R : Hid (Has wn (w.heap.size + 1) 28 #[.int .i64 0, .bool false, .int .i64 0, .string ⟨#[]⟩, .int .i64 0, .slice none 0 0, .slice none 0 0, .slice none 0 0]) := Lib.hid (by first | exact R.out.below hbn R.out.here | exact R.out.drew.below hbn R.out.here); have N : Hid (Has wn (w.heap.size + 1 + 1) 62 #[.int .u8 x.kind, .int .u8 x.a, .int .u8 x.b, .int .u8 x.c, .slice P x.parts.length cp]) := Lib.hid (by first | exact N.out.below hbn N.out.here | exact N.out.drew.below hbn N.out.here); have V : Hid (Has wn (g144) 28 #[.int .i64 2, .bool false, .int .i64 0, .string ⟨#[]⟩, .int .i64 0, .slice none 0 0, .slice none 0 0, .slice none 0 0]) := Lib.hid (by first | exact V.out.below hbn V.out.here | exact V.out.drew.below hbn V.out.here); have hw139 : Below w.heap.size w wn := (by first | exact hw139.trans (hbn.mono hw139.size) | exact (hw139.drew).trans (hbn.mono hw139.size)); have cV_0 : wn.cell? ⟨g144, 0, none⟩ = some (.int .i64 2) := V.out.cell 0; have cV_2 : wn.cell? ⟨g144, 2, none⟩ = some (.int .i64 0) := V.out.cell 2; have fV_2 : wn.frozen? ⟨g144, 2, none⟩ = false := V.out.free 2; have cN_0 : wn.cell? ⟨w.heap.size + 1 + 1, 0, none⟩ = some (.int .u8 x.kind) := N.out.cell 0; have cN_1 : wn.cell? ⟨w.heap.size + 1 + 1, 1, none⟩ = some (.int .u8 x.a) := N.out.cell 1; have cN_2 : wn.cell? ⟨w.heap.size + 1 + 1, 2, none⟩ = some (.int .u8 x.b) := N.out.cell 2; have cN_3 : wn.cell? ⟨w.heap.size + 1 + 1, 3, none⟩ = some (.int .u8 x.c) := N.out.cell 3; have cN_4 : wn.cell? ⟨w.heap.size + 1 + 1, 4, none⟩ = some (.slice P x.parts.length cp) := N.out.cell 4)
      | (go_at_call 37; (first | (with_reducible refine (HHI.out _).mono ?_)); rintro e wn ⟨rfl, hbn⟩; have D : Hid (Has wn (w.heap.size) 24 #[.slice (some ⟨b, o, none⟩) xs.length c]) := Lib.hid (by first | exact D.out.below hbn D.out.here | exact D.out.drew.below hbn D.out.here); have R : Hid (Has wn (w.heap.size + 1) 28 #[.int .i64 0, .bool false, .int .i64 0, .string ⟨#[]⟩, .int .i64 0, .slice none 0 0, .slice none 0 0, .slice none 0 0]) := Lib.hid (by first | exact R.out.below hbn R.out.here | exact R.out.drew.below hbn R.out.here); have N : Hid (Has wn (w.heap.size + 1 + 1) 62 #[.int .u8 x.kind, .int .u8 x.a, .int .u8 x.b, .int .u8 x.c, .slice P x.parts.length cp]) := Lib.hid (by first | exact N.out.below hbn N.out.here | exact N.out.drew.below hbn N.out.here); have V : Hid (Has wn (g144) 28 #[.int .i64 2, .bool false, .int .i64 0, .string ⟨#[]⟩, .int .i64 0, .slice none 0 0, .slice none 0 0, .slice none 0 0]) := Lib.hid (by first | exact V.out.below hbn V.out.here | exact V.out.drew.below hbn V.out.here); have hw139 : Below w.heap.size w wn := (by first | exact hw139.trans (hbn.mono hw139.size) | exact (hw139.drew).trans (hbn.mono hw139.size)); have cV_0 : wn.cell? ⟨g144, 0, none⟩ = some (.int .i64 2) := V.out.cell 0; have cV_2 : wn.cell? ⟨g144, 2, none⟩ = some (.int .i64 0) := V.out.cell 2; have fV_2 : wn.frozen? ⟨g144, 2, none⟩ = false := V.out.free 2; have cN_0 : wn.cell? ⟨w.heap.size + 1 + 1, 0, none⟩ = some (.int .u8 x.kind) := N.out.cell 0; have cN_1 : wn.cell? ⟨w.heap.size + 1 + 1, 1, none⟩ = some (.int .u8 x.a) := N.out.cell 1; have cN_2 : wn.cell? ⟨w.heap.size + 1 + 1, 2, none⟩ = some (.int .u8 x.b) := N.out.cell 2; have cN_3 : wn.cell? ⟨w.heap.size + 1 + 1, 3, none⟩ = some (.int .u8 x.c) := N.out.cell 3; have cN_4 : wn.cell? ⟨w.heap.size + 1 + 1, 4, none⟩ = some (.slice P x.parts.length cp) := N.out.cell 4))
  clear e1 e2 e3 e4 e5 e6 e7
  all_goals
    clear cV_0 cV_2 fV_2 cN_0 cN_1 cN_2 cN_3 cN_4
    replace D := Lib.hid (D.out.far (p := ⟨g144, 2, none⟩) (show w.heap.size ≠ g144 by omega) (.int .i64 (lo + (code : Int) % (hi - lo + 1))))
    replace R := Lib.hid (R.out.far (p := ⟨g144, 2, none⟩) (show w.heap.size + 1 ≠ g144 by omega) (.int .i64 (lo + (code : Int) % (hi - lo + 1))))
    replace N := Lib.hid (N.out.far (p := ⟨g144, 2, none⟩) (show w.heap.size + 1 + 1 ≠ g144 by omega) (.int .i64 (lo + (code : Int) % (hi - lo + 1))))
    replace V : Hid (Has (wn.setCell ⟨g144, 2, none⟩ (.int .i64 (lo + (code : Int) % (hi - lo + 1)))) (g144) 28 #[.int .i64 2, .bool false, .int .i64 (lo + (code : Int) % (hi - lo + 1)), .string ⟨#[]⟩, .int .i64 0, .slice none 0 0, .slice none 0 0, .slice none 0 0]) := Lib.hid (by have h := V.out.set 2 (.int .i64 (lo + (code : Int) % (hi - lo + 1))); simpa using h)
    replace hw139 := below_set hw139 (show w.heap.size ≤ g144 by omega) 2 (.int .i64 (lo + (code : Int) % (hi - lo + 1)))
    generalize wn.setCell ⟨g144, 2, none⟩ (.int .i64 (lo + (code : Int) % (hi - lo + 1))) = wd150 at *
    have cV_0 : wd150.cell? ⟨g144, 0, none⟩ = some (.int .i64 2) := V.out.cell 0
    have cV_1 : wd150.cell? ⟨g144, 1, none⟩ = some (.bool false) := V.out.cell 1
    have cV_2 : wd150.cell? ⟨g144, 2, none⟩ = some (.int .i64 (lo + (code : Int) % (hi - lo + 1))) := V.out.cell 2
    have cV_3 : wd150.cell? ⟨g144, 3, none⟩ = some (.string ⟨#[]⟩) := V.out.cell 3
    have cV_4 : wd150.cell? ⟨g144, 4, none⟩ = some (.int .i64 0) := V.out.cell 4
    have cV_5 : wd150.cell? ⟨g144, 5, none⟩ = some (.slice none 0 0) := V.out.cell 5
    have cV_6 : wd150.cell? ⟨g144, 6, none⟩ = some (.slice none 0 0) := V.out.cell 6
    have cV_7 : wd150.cell? ⟨g144, 7, none⟩ = some (.slice none 0 0) := V.out.cell 7
    go_upto_region 18 with fail
    go_wp2_with (refine wpList_store_row rfl 28 _ _ rfl (w.heap.size + 1) _ rfl rfl 28 _ R.out (by kernel_rfl) rfl (by simp [Value.oneCell']) ?_)
    clear cV_0 cV_1 cV_2 cV_3 cV_4 cV_5 cV_6 cV_7
    replace D := Lib.hid (has_row (cs' := #[.int .i64 2, .bool false, .int .i64 (lo + (code : Int) % (hi - lo + 1)), .string ⟨#[]⟩, .int .i64 0, .slice none 0 0, .slice none 0 0, .slice none 0 0]) D.out (show w.heap.size ≠ w.heap.size + 1 by omega))
    replace N := Lib.hid (has_row (cs' := #[.int .i64 2, .bool false, .int .i64 (lo + (code : Int) % (hi - lo + 1)), .string ⟨#[]⟩, .int .i64 0, .slice none 0 0, .slice none 0 0, .slice none 0 0]) N.out (show w.heap.size + 1 + 1 ≠ w.heap.size + 1 by omega))
    replace V := Lib.hid (has_row (cs' := #[.int .i64 2, .bool false, .int .i64 (lo + (code : Int) % (hi - lo + 1)), .string ⟨#[]⟩, .int .i64 0, .slice none 0 0, .slice none 0 0, .slice none 0 0]) V.out (show g144 ≠ w.heap.size + 1 by omega))
    replace R : Hid (Has (wd150.setRow (w.heap.size + 1) #[.int .i64 2, .bool false, .int .i64 (lo + (code : Int) % (hi - lo + 1)), .string ⟨#[]⟩, .int .i64 0, .slice none 0 0, .slice none 0 0, .slice none 0 0]) (w.heap.size + 1) 28 #[.int .i64 2, .bool false, .int .i64 (lo + (code : Int) % (hi - lo + 1)), .string ⟨#[]⟩, .int .i64 0, .slice none 0 0, .slice none 0 0, .slice none 0 0]) := Lib.hid (row_has R.out _)
    replace hw139 := below_setRow hw139 (show w.heap.size ≤ w.heap.size + 1 by omega) #[.int .i64 2, .bool false, .int .i64 (lo + (code : Int) % (hi - lo + 1)), .string ⟨#[]⟩, .int .i64 0, .slice none 0 0, .slice none 0 0, .slice none 0 0]
    generalize wd150.setRow (w.heap.size + 1) #[.int .i64 2, .bool false, .int .i64 (lo + (code : Int) % (hi - lo + 1)), .string ⟨#[]⟩, .int .i64 0, .slice none 0 0, .slice none 0 0, .slice none 0 0] = wd151 at *
    have cR_0 : wd151.cell? ⟨w.heap.size + 1, 0, none⟩ = some (.int .i64 2) := R.out.cell 0
    have cR_1 : wd151.cell? ⟨w.heap.size + 1, 1, none⟩ = some (.bool false) := R.out.cell 1
    have cR_2 : wd151.cell? ⟨w.heap.size + 1, 2, none⟩ = some (.int .i64 (lo + (code : Int) % (hi - lo + 1))) := R.out.cell 2
    have cR_3 : wd151.cell? ⟨w.heap.size + 1, 3, none⟩ = some (.string ⟨#[]⟩) := R.out.cell 3
    have cR_4 : wd151.cell? ⟨w.heap.size + 1, 4, none⟩ = some (.int .i64 0) := R.out.cell 4
    have cR_5 : wd151.cell? ⟨w.heap.size + 1, 5, none⟩ = some (.slice none 0 0) := R.out.cell 5
    have cR_6 : wd151.cell? ⟨w.heap.size + 1, 6, none⟩ = some (.slice none 0 0) := R.out.cell 6
    have cR_7 : wd151.cell? ⟨w.heap.size + 1, 7, none⟩ = some (.slice none 0 0) := R.out.cell 7
    exact bodyPost_ret (v := .tuple #[.agg #[.int .i64 2, .bool false, .int .i64 (lo + (code : Int) % (hi - lo + 1)), .string ⟨#[]⟩, .int .i64 0, .slice none 0 0, .slice none 0 0, .slice none 0 0], .bool true]) (by simp [results, Try.results66, go_sem, cR_0, cR_1, cR_2, cR_3, cR_4, cR_5, cR_6, cR_7]) rfl (⟨by rw [HN.out]; rfl, hw139⟩)
set_option maxRecDepth 100000 in
set_option maxHeartbeats 1000000 in
theorem initial4 (xs : List Nod) (vn : Value) (t code : Nat) (w : World) (hc : code < 256) (h5 : 0 < xs.length ∧ xs.length ≤ 5) (ht : t < xs.length) (hk : kindN xs[t] = 4) (hr : RdNods w w.heap.size vn xs) :
    Calls Try.prog 66 #[.agg #[vn], .int .i64 t, .int .u8 code] w fun e w' => e = .returned (.tuple #[valN (initialN xs t code).1, .bool (initialN xs t code).2]) ∧ Below w.heap.size w w' := by
  have hin : initialN xs t code = (.mk 4 false 0 [] ((idsN xs[t]).getD (code % (idsN xs[t]).length) 0) [] [] [], true) := by
    unfold initialN
    rw [List.getElem?_eq_getElem ht]
    simp [hk]
  obtain ⟨A, c, rfl, hcap⟩ := hr.form
  have HR := Lib.hid hr
  have hki := fun W h => kind_any xs (.slice A xs.length c) t W ht h
  rw [hk] at hki
  have HI := Lib.hid hki
  have HN := Lib.hid hin
  obtain ⟨b, o, rfl, hb, hel⟩ := hr.elem h5.1
  obtain ⟨vp, hcs, hn⟩ := hel t ht
  obtain ⟨P, cp, rfl, hcp⟩ := hn.parts.form
  obtain ⟨n0, n1, n2, n3, n4⟩ := hcs
  have ht1 : (t : Int) < xs.length := by omega
  clear hel hr hki hin hk
  have hids := fun W => ids_any xs[t] (.slice P xs[t].parts.length cp) W
  have hil := idsN_pos xs[t]
  have hcc : (code : Int) < 256 := by omega
  unfold IdsPost at hids
  generalize idsN xs[t] = l at *
  have hmr : code % l.length < l.length := Nat.mod_lt _ (by omega)
  have HIDS := Lib.hid hids
  clear hids
  generalize xs[t] = x at *
  go_enter Try.func66, Try.ntmps66
  go_upto_region 2 with fail
  have hb152 := below_al (below_al (below_al (Below.refl w.heap.size w) (Nat.le_refl _) (.cells #[.slice (some ⟨b, o, none⟩) xs.length c] 24)) (Nat.le_refl _) (.cells #[.int .i64 0, .bool false, .int .i64 0, .string ⟨#[]⟩, .int .i64 0, .slice none 0 0, .slice none 0 0, .slice none 0 0] 28)) (Nat.le_refl _) (.cells #[.int .u8 x.kind, .int .u8 x.a, .int .u8 x.b, .int .u8 x.c, .slice P x.parts.length cp] 62)
  have D := ((Has.made w 24 #[.slice (some ⟨b, o, none⟩) xs.length c]).alloc (.cells #[.int .i64 0, .bool false, .int .i64 0, .string ⟨#[]⟩, .int .i64 0, .slice none 0 0, .slice none 0 0, .slice none 0 0] 28)).alloc (.cells #[.int .u8 x.kind, .int .u8 x.a, .int .u8 x.b, .int .u8 x.c, .slice P x.parts.length cp] 62)
  have R := (Has.made (w.alloc (.cells #[.slice (some ⟨b, o, none⟩) xs.length c] 24)) 28 #[.int .i64 0, .bool false, .int .i64 0, .string ⟨#[]⟩, .int .i64 0, .slice none 0 0, .slice none 0 0, .slice none 0 0]).alloc (.cells #[.int .u8 x.kind, .int .u8 x.a, .int .u8 x.b, .int .u8 x.c, .slice P x.parts.length cp] 62)
  have N := Has.made ((w.alloc (.cells #[.slice (some ⟨b, o, none⟩) xs.length c] 24)).alloc (.cells #[.int .i64 0, .bool false, .int .i64 0, .string ⟨#[]⟩, .int .i64 0, .slice none 0 0, .slice none 0 0, .slice none 0 0] 28)) 62 #[.int .u8 x.kind, .int .u8 x.a, .int .u8 x.b, .int .u8 x.c, .slice P x.parts.length cp]
  simp only [alloc_hz] at R N
  have hw153 := hb152
  replace D := Lib.hid D
  replace R := Lib.hid R
  replace N := Lib.hid N
  clear hb152
  generalize (((w.alloc (.cells #[.slice (some ⟨b, o, none⟩) xs.length c] 24)).alloc (.cells #[.int .i64 0, .bool false, .int .i64 0, .string ⟨#[]⟩, .int .i64 0, .slice none 0 0, .slice none 0 0, .slice none 0 0] 28)).alloc (.cells #[.int .u8 x.kind, .int .u8 x.a, .int .u8 x.b, .int .u8 x.c, .slice P x.parts.length cp] 62)) = wd154 at *
  clear n0 n1 n2 n3 n4
  have cD_0 : wd154.cell? ⟨w.heap.size, 0, none⟩ = some (.slice (some ⟨b, o, none⟩) xs.length c) := D.out.cell 0
  go_wp2_with fail
  clear cD_0
  ((with_reducible refine (HI.out _ (HR.out.on hw153)).mono ?_); rintro e wd155 ⟨rfl, hb156⟩)
  replace D := Lib.hid (D.out.below hb156 D.out.here)
  replace R := Lib.hid (R.out.below hb156 R.out.here)
  replace N := Lib.hid (N.out.below hb156 N.out.here)
  replace hw153 := hw153.trans (hb156.mono hw153.size)
  clear hb156
  go_upto_region 3 with fail
  have hb157 := below_al (Below.refl wd155.heap.size wd155) (Nat.le_refl _) (.cells #[.int .i64 4, .bool false, .int .i64 0, .string ⟨#[]⟩, .int .i64 0, .slice none 0 0, .slice none 0 0, .slice none 0 0] 28)
  have V := Has.made wd155 28 #[.int .i64 4, .bool false, .int .i64 0, .string ⟨#[]⟩, .int .i64 0, .slice none 0 0, .slice none 0 0, .slice none 0 0]
  have hl159 := D.out.here
  have hl160 := R.out.here
  have hl161 := N.out.here
  have hl162 := hw153.size
  replace D := Lib.hid (D.out.below hb157 D.out.here)
  replace R := Lib.hid (R.out.below hb157 R.out.here)
  replace N := Lib.hid (N.out.below hb157 N.out.here)
  replace hw153 := hw153.trans (hb157.mono hw153.size)
  replace V := Lib.hid V
  clear hb157
  generalize (wd155.alloc (.cells #[.int .i64 4, .bool false, .int .i64 0, .string ⟨#[]⟩, .int .i64 0, .slice none 0 0, .slice none 0 0, .slice none 0 0] 28)) = wd163 at *
  generalize wd155.heap.size = g158 at *
  have cV_0 : wd163.cell? ⟨g158, 0, none⟩ = some (.int .i64 4) := V.out.cell 0
  have cV_4 : wd163.cell? ⟨g158, 4, none⟩ = some (.int .i64 0) := V.out.cell 4
  have fV_4 := V.out.free 4
  go_upto_region 14 with fail
  have e1 : IntKind.i64.wrap (code : Int) = code := IntWalk.i64_in _ (by omega)
  have e4 : ¬ l = [] := by intro h; rw [h] at hil; simp at hil
  obtain ⟨y, hy⟩ : ∃ y, l[code % l.length]? = some y := ⟨l[code % l.length], List.getElem?_eq_getElem hmr⟩
  have HY : Hid ((l.map (Value.int .i64))[((code : Int) % l.length).toNat]? = some (.int .i64 y)) := by show _ = _; rw [show ((code : Int) % l.length).toNat = code % l.length by omega, List.getElem?_map, hy]; rfl
  have HY2 : Hid (l.getD (code % l.length) 0 = y) := by show _ = _; rw [List.getD_eq_getElem?_getD, hy]; rfl
  clear hy
  have e5 : (code : Int).tmod l.length = (code : Int) % l.length := Int.tmod_eq_emod_of_nonneg (by omega)
  have e6 : 0 ≤ (code : Int) % l.length := Int.emod_nonneg _ (by omega)
  have e7 : (code : Int) % l.length < l.length := Int.emod_lt_of_pos _ (by omega)
  have cN_0 : wd163.cell? ⟨w.heap.size + 1 + 1, 0, none⟩ = some (.int .u8 x.kind) := N.out.cell 0
  have cN_1 : wd163.cell? ⟨w.heap.size + 1 + 1, 1, none⟩ = some (.int .u8 x.a) := N.out.cell 1
  have cN_2 : wd163.cell? ⟨w.heap.size + 1 + 1, 2, none⟩ = some (.int .u8 x.b) := N.out.cell 2
  have cN_3 : wd163.cell? ⟨w.heap.size + 1 + 1, 3, none⟩ = some (.int .u8 x.c) := N.out.cell 3
  have cN_4 : wd163.cell? ⟨w.heap.size + 1 + 1, 4, none⟩ = some (.slice P x.parts.length cp) := N.out.cell 4
  go_region_with
    (first
      | (go_at_call 38; (first | (with_reducible refine (HIDS.out _).mono ?_)); rintro e wn ⟨vi, rfl, hown, hbn⟩; obtain ⟨gi, ci, rfl, hgb, hgl, hgc, hcell⟩ := own_pos hown (by omega); (try (have hfirst := (hbn.cell (p := ⟨_, ((code : Int) % l.length).toNat, none⟩) hgA).trans hcA)); have hgA := hgl; have hcA := hcell _ _ HY.out; clear hcell hgl hgb hown; have D : Hid (Has wn (w.heap.size) 24 #[.slice (some ⟨b, o, none⟩) xs.length c]) := Lib.hid (by first | exact D.out.below hbn D.out.here | exact D.out.drew.below hbn D.out.here); have R : Hid (Has wn (w.heap.size + 1) 28 #[.int .i64 0, .bool false, .int .i64 0, .string ⟨#[]⟩, .int .i64 0, .slice none 0 0, .slice none 0 0, .slice none 0 0]) := Lib.hid (by first | exact R.out.below hbn R.out.here | exact R.out.drew.below hbn R.out.here); have N : Hid (Has wn (w.heap.size + 1 + 1) 62 #[.int .u8 x.kind, .int .u8 x.a, .int .u8 x.b, .int .u8 x.c, .slice P x.parts.length cp]) := Lib.hid (by first | exact N.out.below hbn N.out.here | exact N.out.drew.below hbn N.out.here); have V : Hid (Has wn (g158) 28 #[.int .i64 4, .bool false, .int .i64 0, .string ⟨#[]⟩, .int .i64 0, .slice none 0 0, .slice none 0 0, .slice none 0 0]) := Lib.hid (by first | exact V.out.below hbn V.out.here | exact V.out.drew.below hbn V.out.here); have hw153 : Below w.heap.size w wn := (by first | exact hw153.trans (hbn.mono hw153.size) | exact (hw153.drew).trans (hbn.mono hw153.size)); have cV_0 : wn.cell? ⟨g158, 0, none⟩ = some (.int .i64 4) := V.out.cell 0; have cV_4 : wn.cell? ⟨g158, 4, none⟩ = some (.int .i64 0) := V.out.cell 4; have fV_4 : wn.frozen? ⟨g158, 4, none⟩ = false := V.out.free 4; have cN_0 : wn.cell? ⟨w.heap.size + 1 + 1, 0, none⟩ = some (.int .u8 x.kind) := N.out.cell 0; have cN_1 : wn.cell? ⟨w.heap.size + 1 + 1, 1, none⟩ = some (.int .u8 x.a) := N.out.cell 1; have cN_2 : wn.cell? ⟨w.heap.size + 1 + 1, 2, none⟩ = some (.int .u8 x.b) := N.out.cell 2; have cN_3 : wn.cell? ⟨w.heap.size + 1 + 1, 3, none⟩ = some (.int .u8 x.c) := N.out.cell 3; have cN_4 : wn.cell? ⟨w.heap.size + 1 + 1, 4, none⟩ = some (.slice P x.parts.length cp) := N.out.cell 4))
  clear e1 e4 e5 e6 e7
  all_goals
    clear cV_0 cV_4 fV_4 cN_0 cN_1 cN_2 cN_3 cN_4
    replace D := Lib.hid (D.out.far (p := ⟨g158, 4, none⟩) (show w.heap.size ≠ g158 by omega) (.int .i64 y))
    replace R := Lib.hid (R.out.far (p := ⟨g158, 4, none⟩) (show w.heap.size + 1 ≠ g158 by omega) (.int .i64 y))
    replace N := Lib.hid (N.out.far (p := ⟨g158, 4, none⟩) (show w.heap.size + 1 + 1 ≠ g158 by omega) (.int .i64 y))
    replace V : Hid (Has (wn.setCell ⟨g158, 4, none⟩ (.int .i64 y)) (g158) 28 #[.int .i64 4, .bool false, .int .i64 0, .string ⟨#[]⟩, .int .i64 y, .slice none 0 0, .slice none 0 0, .slice none 0 0]) := Lib.hid (by have h := V.out.set 4 (.int .i64 y); simpa using h)
    replace hw153 := below_set hw153 (show w.heap.size ≤ g158 by omega) 4 (.int .i64 y)
    generalize wn.setCell ⟨g158, 4, none⟩ (.int .i64 y) = wd164 at *
    rw [HY2.out] at HN
    have cV_0 : wd164.cell? ⟨g158, 0, none⟩ = some (.int .i64 4) := V.out.cell 0
    have cV_1 : wd164.cell? ⟨g158, 1, none⟩ = some (.bool false) := V.out.cell 1
    have cV_2 : wd164.cell? ⟨g158, 2, none⟩ = some (.int .i64 0) := V.out.cell 2
    have cV_3 : wd164.cell? ⟨g158, 3, none⟩ = some (.string ⟨#[]⟩) := V.out.cell 3
    have cV_4 : wd164.cell? ⟨g158, 4, none⟩ = some (.int .i64 y) := V.out.cell 4
    have cV_5 : wd164.cell? ⟨g158, 5, none⟩ = some (.slice none 0 0) := V.out.cell 5
    have cV_6 : wd164.cell? ⟨g158, 6, none⟩ = some (.slice none 0 0) := V.out.cell 6
    have cV_7 : wd164.cell? ⟨g158, 7, none⟩ = some (.slice none 0 0) := V.out.cell 7
    go_upto_region 18 with fail
    go_wp2_with (refine wpList_store_row rfl 28 _ _ rfl (w.heap.size + 1) _ rfl rfl 28 _ R.out (by kernel_rfl) rfl (by simp [Value.oneCell']) ?_)
    clear cV_0 cV_1 cV_2 cV_3 cV_4 cV_5 cV_6 cV_7
    replace D := Lib.hid (has_row (cs' := #[.int .i64 4, .bool false, .int .i64 0, .string ⟨#[]⟩, .int .i64 y, .slice none 0 0, .slice none 0 0, .slice none 0 0]) D.out (show w.heap.size ≠ w.heap.size + 1 by omega))
    replace N := Lib.hid (has_row (cs' := #[.int .i64 4, .bool false, .int .i64 0, .string ⟨#[]⟩, .int .i64 y, .slice none 0 0, .slice none 0 0, .slice none 0 0]) N.out (show w.heap.size + 1 + 1 ≠ w.heap.size + 1 by omega))
    replace V := Lib.hid (has_row (cs' := #[.int .i64 4, .bool false, .int .i64 0, .string ⟨#[]⟩, .int .i64 y, .slice none 0 0, .slice none 0 0, .slice none 0 0]) V.out (show g158 ≠ w.heap.size + 1 by omega))
    replace R : Hid (Has (wd164.setRow (w.heap.size + 1) #[.int .i64 4, .bool false, .int .i64 0, .string ⟨#[]⟩, .int .i64 y, .slice none 0 0, .slice none 0 0, .slice none 0 0]) (w.heap.size + 1) 28 #[.int .i64 4, .bool false, .int .i64 0, .string ⟨#[]⟩, .int .i64 y, .slice none 0 0, .slice none 0 0, .slice none 0 0]) := Lib.hid (row_has R.out _)
    replace hw153 := below_setRow hw153 (show w.heap.size ≤ w.heap.size + 1 by omega) #[.int .i64 4, .bool false, .int .i64 0, .string ⟨#[]⟩, .int .i64 y, .slice none 0 0, .slice none 0 0, .slice none 0 0]
    generalize wd164.setRow (w.heap.size + 1) #[.int .i64 4, .bool false, .int .i64 0, .string ⟨#[]⟩, .int .i64 y, .slice none 0 0, .slice none 0 0, .slice none 0 0] = wd165 at *
    have cR_0 : wd165.cell? ⟨w.heap.size + 1, 0, none⟩ = some (.int .i64 4) := R.out.cell 0
    have cR_1 : wd165.cell? ⟨w.heap.size + 1, 1, none⟩ = some (.bool false) := R.out.cell 1
    have cR_2 : wd165.cell? ⟨w.heap.size + 1, 2, none⟩ = some (.int .i64 0) := R.out.cell 2
    have cR_3 : wd165.cell? ⟨w.heap.size + 1, 3, none⟩ = some (.string ⟨#[]⟩) := R.out.cell 3
    have cR_4 : wd165.cell? ⟨w.heap.size + 1, 4, none⟩ = some (.int .i64 y) := R.out.cell 4
    have cR_5 : wd165.cell? ⟨w.heap.size + 1, 5, none⟩ = some (.slice none 0 0) := R.out.cell 5
    have cR_6 : wd165.cell? ⟨w.heap.size + 1, 6, none⟩ = some (.slice none 0 0) := R.out.cell 6
    have cR_7 : wd165.cell? ⟨w.heap.size + 1, 7, none⟩ = some (.slice none 0 0) := R.out.cell 7
    exact bodyPost_ret (v := .tuple #[.agg #[.int .i64 4, .bool false, .int .i64 0, .string ⟨#[]⟩, .int .i64 y, .slice none 0 0, .slice none 0 0, .slice none 0 0], .bool true]) (by simp [results, Try.results66, go_sem, cR_0, cR_1, cR_2, cR_3, cR_4, cR_5, cR_6, cR_7]) rfl (⟨by rw [HN.out]; rfl, hw153⟩)
end Go.Proofs.Ytjcoeolconelmaa

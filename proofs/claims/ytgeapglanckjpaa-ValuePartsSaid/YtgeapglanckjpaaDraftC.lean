/- What initial computes for a draft. No condition. -/
import Derived.Test.YtgeapglanckjpaaDraftB
import Derived.Test.YtgeapglanckjpaaGA
set_option maxHeartbeats 1000000
namespace Go.Proofs.Ytgeapglanckjpaa
open Go.ChangeShapes Go.WideShapes Go.ChangeAt Go.RowKit
abbrev valN (x : Val) : Value := .agg #[.int .i64 x.kind, .bool x.bool, .int .i64 x.num, .string ⟨x.str.toArray⟩, .int .i64 x.id, .slice none 0 0, .slice none 0 0, .slice none 0 0]
set_option maxRecDepth 100000 in
theorem initial1 (xs : List Nod) (vn : Value) (t code : Nat) (w : World) (h5 : 0 < xs.length ∧ xs.length ≤ 5) (ht : t < xs.length) (hk : kindN xs[t] = 1) (hr : RdNods w w.heap.size vn xs) :
  Calls Try.prog 61 #[.agg #[vn], .int .i64 t, .int .u8 code] w fun e w' => e = .returned (.tuple #[valN (initialN xs t code).1, .bool (initialN xs t code).2]) ∧ Below w.heap.size w w' := by
 have hin : initialN xs t code = (.mk 1 (decide (code % 2 = 1)) 0 [] 0 [] [] [], true) := by
  unfold initialN
  rw [List.getElem?_eq_getElem ht]
  simp [hk]
 obtain ⟨A, c, rfl, hcap⟩ := hr.form
 have HR := Lib.hid hr
 have hki := fun W h => kind_any xs (.slice A xs.length c) t W ht h
 rw [hk] at hki
 have HI := Lib.hid hki
 have HN := Lib.hid hin
 obtain ⟨b, o, rfl, hb, hel⟩ := hr.elem h5.1
 obtain ⟨vp, hcs, hn⟩ := hel t ht
 obtain ⟨P, cp, rfl, hcp⟩ := hn.parts.form
 obtain ⟨n0, n1, n2, n3, n4⟩ := hcs
 have ht1 : (t : Int) < xs.length := by omega
 clear hel hr hki hin hk
 generalize xs[t] = x at *
 go_enter Try.func61, Try.ntmps61
 go_upto_region 2 with fail
 obtain ⟨wd1064, hE1065⟩ : ∃ ww, ww = w.alloc (.cells #[.slice (some ⟨b, o, none⟩) xs.length c] 24) := ⟨_, rfl⟩
 rw [← hE1065]
 have hb1063 := aB hE1065
 have D := aN hE1065
 obtain ⟨wd1066, hE1067⟩ : ∃ ww, ww = wd1064.alloc (.cells #[.int .i64 0, .bool false, .int .i64 0, .string ⟨#[]⟩, .int .i64 0, .slice none 0 0, .slice none 0 0, .slice none 0 0] 34) := ⟨_, rfl⟩
 rw [← hE1067]
 replace D := dB D (aB hE1067)
 replace hb1063 := dT hb1063 (aB hE1067)
 have R := aM hE1067 (aZ hE1065 rfl)
 obtain ⟨wd1068, hE1069⟩ : ∃ ww, ww = wd1066.alloc (.cells #[.int .u8 x.kind, .int .u8 x.a, .int .u8 x.b, .int .u8 x.c, .slice P x.parts.length cp] 74) := ⟨_, rfl⟩
 rw [← hE1069]
 replace D := dB D (aB hE1069)
 replace R := dB R (aB hE1069)
 replace hb1063 := dT hb1063 (aB hE1069)
 have N := aM hE1069 (aZ hE1067 (aZ hE1065 rfl))
 clear hE1065 hE1067 hE1069
 have hw1070 := hb1063
 clear hb1063
 clear n0 n1 n2 n3 n4
 have cD_0 : wd1068.cell? ⟨w.heap.size, 0, none⟩ = some (.slice (some ⟨b, o, none⟩) xs.length c) := D.out.cell 0
 go_wp2_with fail
 clear cD_0
 ((with_reducible refine (HI.out _ (HR.out.on hw1070)).mono ?_); rintro e wd1071 ⟨rfl, hb1072⟩)
 replace D := dB D hb1072
 replace R := dB R hb1072
 replace N := dB N hb1072
 replace hw1070 := dT hw1070 hb1072
 clear hb1072
 go_upto_region 3 with fail
 obtain ⟨wd1074, hE1075⟩ : ∃ ww, ww = wd1071.alloc (.cells #[.int .i64 1, .bool false, .int .i64 0, .string ⟨#[]⟩, .int .i64 0, .slice none 0 0, .slice none 0 0, .slice none 0 0] 34) := ⟨_, rfl⟩
 rw [← hE1075]
 have hb1073 := aB hE1075
 have V := aN hE1075
 clear hE1075
 have hl1077 := D.out.here
 have hl1078 := R.out.here
 have hl1079 := N.out.here
 have hl1080 := hw1070.size
 replace D := dB D hb1073
 replace R := dB R hb1073
 replace N := dB N hb1073
 replace hw1070 := dT hw1070 hb1073
 clear hb1073
 generalize wd1071.heap.size = g1076 at *
 have tc : (((code : Int) % 2) == 1) = decide (code % 2 = 1) := by rw [Bool.eq_iff_iff]; simp; omega
 have cV_0 : wd1074.cell? ⟨g1076, 0, none⟩ = some (.int .i64 1) := V.out.cell 0
 have cV_1 : wd1074.cell? ⟨g1076, 1, none⟩ = some (.bool false) := V.out.cell 1
 have fV_1 := V.out.free 1
 go_upto_region 18 with fail
 clear cV_0 cV_1 fV_1
 obtain ⟨wd1081, hE1082⟩ : ∃ ww, ww = wd1074.setCell ⟨g1076, 1, none⟩ (.bool (decide (code % 2 = 1))) := ⟨_, rfl⟩
 rw [← hE1082]
 replace D := dF D hE1082 (by omega)
 replace R := dF R hE1082 (by omega)
 replace N := dF N hE1082 (by omega)
 replace V : Hid (Has wd1081 (g1076) 34 #[.int .i64 1, .bool (decide (code % 2 = 1)), .int .i64 0, .string ⟨#[]⟩, .int .i64 0, .slice none 0 0, .slice none 0 0, .slice none 0 0]) := Lib.hid (by simpa using dS V hE1082)
 replace hw1070 := tF hw1070 hE1082 (by omega)
 clear hE1082
 obtain ⟨cV_0, cV_1, cV_2, cV_3, cV_4, cV_5, cV_6, cV_7⟩ := V.out.c8
 go_upto_region 18 with fail
 go_wp2_with (refine wpList_store_row rfl 34 _ _ rfl (w.heap.size + 1) _ rfl rfl 34 _ R.out (by kernel_rfl) rfl (by simp [Value.oneCell']) ?_)
 clear cV_0 cV_1 cV_2 cV_3 cV_4 cV_5 cV_6 cV_7
 obtain ⟨wd1083, hE1084⟩ : ∃ ww, ww = wd1081.setRow (w.heap.size + 1) #[.int .i64 1, .bool (decide (code % 2 = 1)), .int .i64 0, .string ⟨#[]⟩, .int .i64 0, .slice none 0 0, .slice none 0 0, .slice none 0 0] := ⟨_, rfl⟩
 rw [← hE1084]
 replace D := dR D hE1084 (by omega)
 replace N := dR N hE1084 (by omega)
 replace V := dR V hE1084 (by omega)
 replace R := dO R hE1084
 replace hw1070 := tR hw1070 hE1084 (by omega)
 clear hE1084
 obtain ⟨cR_0, cR_1, cR_2, cR_3, cR_4, cR_5, cR_6, cR_7⟩ := R.out.c8
 exact bodyPost_ret (v := .tuple #[.agg #[.int .i64 1, .bool (decide (code % 2 = 1)), .int .i64 0, .string ⟨#[]⟩, .int .i64 0, .slice none 0 0, .slice none 0 0, .slice none 0 0], .bool true]) (by simp [results, Try.results61, go_sem, cR_0, cR_1, cR_2, cR_3, cR_4, cR_5, cR_6, cR_7]) rfl (⟨by rw [HN.out]; rfl, hw1070⟩)
set_option maxRecDepth 100000 in
theorem initial7 (xs : List Nod) (vn : Value) (t code : Nat) (w : World) (h5 : 0 < xs.length ∧ xs.length ≤ 5) (ht : t < xs.length) (hk : kindN xs[t] = 7) (hr : RdNods w w.heap.size vn xs) :
  Calls Try.prog 61 #[.agg #[vn], .int .i64 t, .int .u8 code] w fun e w' => e = .returned (.tuple #[valN (initialN xs t code).1, .bool (initialN xs t code).2]) ∧ Below w.heap.size w w' := by
 have hin : initialN xs t code = (.mk 7 false 0 [] 0 [] [] [], true) := by
  unfold initialN
  rw [List.getElem?_eq_getElem ht]
  simp [hk]
 obtain ⟨A, c, rfl, hcap⟩ := hr.form
 have HR := Lib.hid hr
 have hki := fun W h => kind_any xs (.slice A xs.length c) t W ht h
 rw [hk] at hki
 have HI := Lib.hid hki
 have HN := Lib.hid hin
 obtain ⟨b, o, rfl, hb, hel⟩ := hr.elem h5.1
 obtain ⟨vp, hcs, hn⟩ := hel t ht
 obtain ⟨P, cp, rfl, hcp⟩ := hn.parts.form
 obtain ⟨n0, n1, n2, n3, n4⟩ := hcs
 have ht1 : (t : Int) < xs.length := by omega
 clear hel hr hki hin hk
 generalize xs[t] = x at *
 go_enter Try.func61, Try.ntmps61
 go_upto_region 2 with fail
 obtain ⟨wd1086, hE1087⟩ : ∃ ww, ww = w.alloc (.cells #[.slice (some ⟨b, o, none⟩) xs.length c] 24) := ⟨_, rfl⟩
 rw [← hE1087]
 have hb1085 := aB hE1087
 have D := aN hE1087
 obtain ⟨wd1088, hE1089⟩ : ∃ ww, ww = wd1086.alloc (.cells #[.int .i64 0, .bool false, .int .i64 0, .string ⟨#[]⟩, .int .i64 0, .slice none 0 0, .slice none 0 0, .slice none 0 0] 34) := ⟨_, rfl⟩
 rw [← hE1089]
 replace D := dB D (aB hE1089)
 replace hb1085 := dT hb1085 (aB hE1089)
 have R := aM hE1089 (aZ hE1087 rfl)
 obtain ⟨wd1090, hE1091⟩ : ∃ ww, ww = wd1088.alloc (.cells #[.int .u8 x.kind, .int .u8 x.a, .int .u8 x.b, .int .u8 x.c, .slice P x.parts.length cp] 74) := ⟨_, rfl⟩
 rw [← hE1091]
 replace D := dB D (aB hE1091)
 replace R := dB R (aB hE1091)
 replace hb1085 := dT hb1085 (aB hE1091)
 have N := aM hE1091 (aZ hE1089 (aZ hE1087 rfl))
 clear hE1087 hE1089 hE1091
 have hw1092 := hb1085
 clear hb1085
 clear n0 n1 n2 n3 n4
 have cD_0 : wd1090.cell? ⟨w.heap.size, 0, none⟩ = some (.slice (some ⟨b, o, none⟩) xs.length c) := D.out.cell 0
 go_wp2_with fail
 clear cD_0
 ((with_reducible refine (HI.out _ (HR.out.on hw1092)).mono ?_); rintro e wd1093 ⟨rfl, hb1094⟩)
 replace D := dB D hb1094
 replace R := dB R hb1094
 replace N := dB N hb1094
 replace hw1092 := dT hw1092 hb1094
 clear hb1094
 go_upto_region 3 with fail
 obtain ⟨wd1096, hE1097⟩ : ∃ ww, ww = wd1093.alloc (.cells #[.int .i64 7, .bool false, .int .i64 0, .string ⟨#[]⟩, .int .i64 0, .slice none 0 0, .slice none 0 0, .slice none 0 0] 34) := ⟨_, rfl⟩
 rw [← hE1097]
 have hb1095 := aB hE1097
 have V := aN hE1097
 clear hE1097
 have hl1099 := D.out.here
 have hl1100 := R.out.here
 have hl1101 := N.out.here
 have hl1102 := hw1092.size
 replace D := dB D hb1095
 replace R := dB R hb1095
 replace N := dB N hb1095
 replace hw1092 := dT hw1092 hb1095
 clear hb1095
 generalize wd1093.heap.size = g1098 at *
 obtain ⟨cV_0, cV_1, cV_2, cV_3, cV_4, cV_5, cV_6, cV_7⟩ := V.out.c8
 go_upto_region 18 with fail
 go_wp2_with (refine wpList_store_row rfl 34 _ _ rfl (w.heap.size + 1) _ rfl rfl 34 _ R.out (by kernel_rfl) rfl (by simp [Value.oneCell']) ?_)
 clear cV_0 cV_1 cV_2 cV_3 cV_4 cV_5 cV_6 cV_7
 obtain ⟨wd1103, hE1104⟩ : ∃ ww, ww = wd1096.setRow (w.heap.size + 1) #[.int .i64 7, .bool false, .int .i64 0, .string ⟨#[]⟩, .int .i64 0, .slice none 0 0, .slice none 0 0, .slice none 0 0] := ⟨_, rfl⟩
 rw [← hE1104]
 replace D := dR D hE1104 (by omega)
 replace N := dR N hE1104 (by omega)
 replace V := dR V hE1104 (by omega)
 replace R := dO R hE1104
 replace hw1092 := tR hw1092 hE1104 (by omega)
 clear hE1104
 obtain ⟨cR_0, cR_1, cR_2, cR_3, cR_4, cR_5, cR_6, cR_7⟩ := R.out.c8
 exact bodyPost_ret (v := .tuple #[.agg #[.int .i64 7, .bool false, .int .i64 0, .string ⟨#[]⟩, .int .i64 0, .slice none 0 0, .slice none 0 0, .slice none 0 0], .bool true]) (by simp [results, Try.results61, go_sem, cR_0, cR_1, cR_2, cR_3, cR_4, cR_5, cR_6, cR_7]) rfl (⟨by rw [HN.out]; rfl, hw1092⟩)
set_option maxRecDepth 100000 in
theorem initial9 (xs : List Nod) (vn : Value) (t code : Nat) (w : World) (h5 : 0 < xs.length ∧ xs.length ≤ 5) (ht : t < xs.length) (hk : kindN xs[t] = 9) (hr : RdNods w w.heap.size vn xs) :
  Calls Try.prog 61 #[.agg #[vn], .int .i64 t, .int .u8 code] w fun e w' => e = .returned (.tuple #[valN (initialN xs t code).1, .bool (initialN xs t code).2]) ∧ Below w.heap.size w w' := by
 have hin : initialN xs t code = (.mk 9 false 0 [] 0 [] [] [], true) := by
  unfold initialN
  rw [List.getElem?_eq_getElem ht]
  simp [hk]
 obtain ⟨A, c, rfl, hcap⟩ := hr.form
 have HR := Lib.hid hr
 have hki := fun W h => kind_any xs (.slice A xs.length c) t W ht h
 rw [hk] at hki
 have HI := Lib.hid hki
 have HN := Lib.hid hin
 obtain ⟨b, o, rfl, hb, hel⟩ := hr.elem h5.1
 obtain ⟨vp, hcs, hn⟩ := hel t ht
 obtain ⟨P, cp, rfl, hcp⟩ := hn.parts.form
 obtain ⟨n0, n1, n2, n3, n4⟩ := hcs
 have ht1 : (t : Int) < xs.length := by omega
 clear hel hr hki hin hk
 generalize xs[t] = x at *
 go_enter Try.func61, Try.ntmps61
 go_upto_region 2 with fail
 obtain ⟨wd1106, hE1107⟩ : ∃ ww, ww = w.alloc (.cells #[.slice (some ⟨b, o, none⟩) xs.length c] 24) := ⟨_, rfl⟩
 rw [← hE1107]
 have hb1105 := aB hE1107
 have D := aN hE1107
 obtain ⟨wd1108, hE1109⟩ : ∃ ww, ww = wd1106.alloc (.cells #[.int .i64 0, .bool false, .int .i64 0, .string ⟨#[]⟩, .int .i64 0, .slice none 0 0, .slice none 0 0, .slice none 0 0] 34) := ⟨_, rfl⟩
 rw [← hE1109]
 replace D := dB D (aB hE1109)
 replace hb1105 := dT hb1105 (aB hE1109)
 have R := aM hE1109 (aZ hE1107 rfl)
 obtain ⟨wd1110, hE1111⟩ : ∃ ww, ww = wd1108.alloc (.cells #[.int .u8 x.kind, .int .u8 x.a, .int .u8 x.b, .int .u8 x.c, .slice P x.parts.length cp] 74) := ⟨_, rfl⟩
 rw [← hE1111]
 replace D := dB D (aB hE1111)
 replace R := dB R (aB hE1111)
 replace hb1105 := dT hb1105 (aB hE1111)
 have N := aM hE1111 (aZ hE1109 (aZ hE1107 rfl))
 clear hE1107 hE1109 hE1111
 have hw1112 := hb1105
 clear hb1105
 clear n0 n1 n2 n3 n4
 have cD_0 : wd1110.cell? ⟨w.heap.size, 0, none⟩ = some (.slice (some ⟨b, o, none⟩) xs.length c) := D.out.cell 0
 go_wp2_with fail
 clear cD_0
 ((with_reducible refine (HI.out _ (HR.out.on hw1112)).mono ?_); rintro e wd1113 ⟨rfl, hb1114⟩)
 replace D := dB D hb1114
 replace R := dB R hb1114
 replace N := dB N hb1114
 replace hw1112 := dT hw1112 hb1114
 clear hb1114
 go_upto_region 3 with fail
 obtain ⟨wd1116, hE1117⟩ : ∃ ww, ww = wd1113.alloc (.cells #[.int .i64 9, .bool false, .int .i64 0, .string ⟨#[]⟩, .int .i64 0, .slice none 0 0, .slice none 0 0, .slice none 0 0] 34) := ⟨_, rfl⟩
 rw [← hE1117]
 have hb1115 := aB hE1117
 have V := aN hE1117
 clear hE1117
 have hl1119 := D.out.here
 have hl1120 := R.out.here
 have hl1121 := N.out.here
 have hl1122 := hw1112.size
 replace D := dB D hb1115
 replace R := dB R hb1115
 replace N := dB N hb1115
 replace hw1112 := dT hw1112 hb1115
 clear hb1115
 generalize wd1113.heap.size = g1118 at *
 obtain ⟨cV_0, cV_1, cV_2, cV_3, cV_4, cV_5, cV_6, cV_7⟩ := V.out.c8
 go_upto_region 18 with fail
 go_wp2_with (refine wpList_store_row rfl 34 _ _ rfl (w.heap.size + 1) _ rfl rfl 34 _ R.out (by kernel_rfl) rfl (by simp [Value.oneCell']) ?_)
 clear cV_0 cV_1 cV_2 cV_3 cV_4 cV_5 cV_6 cV_7
 obtain ⟨wd1123, hE1124⟩ : ∃ ww, ww = wd1116.setRow (w.heap.size + 1) #[.int .i64 9, .bool false, .int .i64 0, .string ⟨#[]⟩, .int .i64 0, .slice none 0 0, .slice none 0 0, .slice none 0 0] := ⟨_, rfl⟩
 rw [← hE1124]
 replace D := dR D hE1124 (by omega)
 replace N := dR N hE1124 (by omega)
 replace V := dR V hE1124 (by omega)
 replace R := dO R hE1124
 replace hw1112 := tR hw1112 hE1124 (by omega)
 clear hE1124
 obtain ⟨cR_0, cR_1, cR_2, cR_3, cR_4, cR_5, cR_6, cR_7⟩ := R.out.c8
 exact bodyPost_ret (v := .tuple #[.agg #[.int .i64 9, .bool false, .int .i64 0, .string ⟨#[]⟩, .int .i64 0, .slice none 0 0, .slice none 0 0, .slice none 0 0], .bool true]) (by simp [results, Try.results61, go_sem, cR_0, cR_1, cR_2, cR_3, cR_4, cR_5, cR_6, cR_7]) rfl (⟨by rw [HN.out]; rfl, hw1112⟩)
set_option maxRecDepth 100000 in
theorem initial5 (xs : List Nod) (vn : Value) (t code : Nat) (w : World) (h5 : 0 < xs.length ∧ xs.length ≤ 5) (ht : t < xs.length) (hk : kindN xs[t] = 5) (hr : RdNods w w.heap.size vn xs) :
  Calls Try.prog 61 #[.agg #[vn], .int .i64 t, .int .u8 code] w fun e w' => e = .returned (.tuple #[valN (initialN xs t code).1, .bool (initialN xs t code).2]) ∧ Below w.heap.size w w' := by
 have hin : initialN xs t code = (val0, false) := by
  unfold initialN
  rw [List.getElem?_eq_getElem ht]
  simp [hk]
 obtain ⟨A, c, rfl, hcap⟩ := hr.form
 have HR := Lib.hid hr
 have hki := fun W h => kind_any xs (.slice A xs.length c) t W ht h
 rw [hk] at hki
 have HI := Lib.hid hki
 have HN := Lib.hid hin
 obtain ⟨b, o, rfl, hb, hel⟩ := hr.elem h5.1
 obtain ⟨vp, hcs, hn⟩ := hel t ht
 obtain ⟨P, cp, rfl, hcp⟩ := hn.parts.form
 obtain ⟨n0, n1, n2, n3, n4⟩ := hcs
 have ht1 : (t : Int) < xs.length := by omega
 clear hel hr hki hin hk
 generalize xs[t] = x at *
 go_enter Try.func61, Try.ntmps61
 go_upto_region 2 with fail
 obtain ⟨wd1126, hE1127⟩ : ∃ ww, ww = w.alloc (.cells #[.slice (some ⟨b, o, none⟩) xs.length c] 24) := ⟨_, rfl⟩
 rw [← hE1127]
 have hb1125 := aB hE1127
 have D := aN hE1127
 obtain ⟨wd1128, hE1129⟩ : ∃ ww, ww = wd1126.alloc (.cells #[.int .i64 0, .bool false, .int .i64 0, .string ⟨#[]⟩, .int .i64 0, .slice none 0 0, .slice none 0 0, .slice none 0 0] 34) := ⟨_, rfl⟩
 rw [← hE1129]
 replace D := dB D (aB hE1129)
 replace hb1125 := dT hb1125 (aB hE1129)
 have R := aM hE1129 (aZ hE1127 rfl)
 obtain ⟨wd1130, hE1131⟩ : ∃ ww, ww = wd1128.alloc (.cells #[.int .u8 x.kind, .int .u8 x.a, .int .u8 x.b, .int .u8 x.c, .slice P x.parts.length cp] 74) := ⟨_, rfl⟩
 rw [← hE1131]
 replace D := dB D (aB hE1131)
 replace R := dB R (aB hE1131)
 replace hb1125 := dT hb1125 (aB hE1131)
 have N := aM hE1131 (aZ hE1129 (aZ hE1127 rfl))
 clear hE1127 hE1129 hE1131
 have hw1132 := hb1125
 clear hb1125
 clear n0 n1 n2 n3 n4
 have cD_0 : wd1130.cell? ⟨w.heap.size, 0, none⟩ = some (.slice (some ⟨b, o, none⟩) xs.length c) := D.out.cell 0
 go_wp2_with fail
 clear cD_0
 ((with_reducible refine (HI.out _ (HR.out.on hw1132)).mono ?_); rintro e wd1133 ⟨rfl, hb1134⟩)
 replace D := dB D hb1134
 replace R := dB R hb1134
 replace N := dB N hb1134
 replace hw1132 := dT hw1132 hb1134
 clear hb1134
 go_upto_region 3 with fail
 obtain ⟨wd1136, hE1137⟩ : ∃ ww, ww = wd1133.alloc (.cells #[.int .i64 5, .bool false, .int .i64 0, .string ⟨#[]⟩, .int .i64 0, .slice none 0 0, .slice none 0 0, .slice none 0 0] 34) := ⟨_, rfl⟩
 rw [← hE1137]
 have hb1135 := aB hE1137
 have V := aN hE1137
 clear hE1137
 have hl1139 := D.out.here
 have hl1140 := R.out.here
 have hl1141 := N.out.here
 have hl1142 := hw1132.size
 replace D := dB D hb1135
 replace R := dB R hb1135
 replace N := dB N hb1135
 replace hw1132 := dT hw1132 hb1135
 clear hb1135
 generalize wd1133.heap.size = g1138 at *
 have cV_0 : wd1136.cell? ⟨g1138, 0, none⟩ = some (.int .i64 5) := V.out.cell 0
 go_upto_region 17 with fail
 go_wp2_with (refine wpList_store_row rfl 34 _ _ rfl (w.heap.size + 1) _ rfl rfl 34 _ R.out (by kernel_rfl) rfl (by simp [Value.oneCell']) ?_)
 clear cV_0
 obtain ⟨wd1143, hE1144⟩ : ∃ ww, ww = wd1136.setRow (w.heap.size + 1) #[.int .i64 0, .bool false, .int .i64 0, .string ⟨#[]⟩, .int .i64 0, .slice none 0 0, .slice none 0 0, .slice none 0 0] := ⟨_, rfl⟩
 rw [← hE1144]
 replace D := dR D hE1144 (by omega)
 replace N := dR N hE1144 (by omega)
 replace V := dR V hE1144 (by omega)
 replace R := dO R hE1144
 replace hw1132 := tR hw1132 hE1144 (by omega)
 clear hE1144
 obtain ⟨cR_0, cR_1, cR_2, cR_3, cR_4, cR_5, cR_6, cR_7⟩ := R.out.c8
 exact bodyPost_ret (v := .tuple #[.agg #[.int .i64 0, .bool false, .int .i64 0, .string ⟨#[]⟩, .int .i64 0, .slice none 0 0, .slice none 0 0, .slice none 0 0], .bool false]) (by simp [results, Try.results61, go_sem, cR_0, cR_1, cR_2, cR_3, cR_4, cR_5, cR_6, cR_7]) rfl (⟨by rw [HN.out]; rfl, hw1132⟩)
set_option maxRecDepth 100000 in
theorem initial6 (xs : List Nod) (vn : Value) (t code : Nat) (w : World) (h5 : 0 < xs.length ∧ xs.length ≤ 5) (ht : t < xs.length) (hk : kindN xs[t] = 6) (hr : RdNods w w.heap.size vn xs) :
  Calls Try.prog 61 #[.agg #[vn], .int .i64 t, .int .u8 code] w fun e w' => e = .returned (.tuple #[valN (initialN xs t code).1, .bool (initialN xs t code).2]) ∧ Below w.heap.size w w' := by
 have hin : initialN xs t code = (val0, false) := by
  unfold initialN
  rw [List.getElem?_eq_getElem ht]
  simp [hk]
 obtain ⟨A, c, rfl, hcap⟩ := hr.form
 have HR := Lib.hid hr
 have hki := fun W h => kind_any xs (.slice A xs.length c) t W ht h
 rw [hk] at hki
 have HI := Lib.hid hki
 have HN := Lib.hid hin
 obtain ⟨b, o, rfl, hb, hel⟩ := hr.elem h5.1
 obtain ⟨vp, hcs, hn⟩ := hel t ht
 obtain ⟨P, cp, rfl, hcp⟩ := hn.parts.form
 obtain ⟨n0, n1, n2, n3, n4⟩ := hcs
 have ht1 : (t : Int) < xs.length := by omega
 clear hel hr hki hin hk
 generalize xs[t] = x at *
 go_enter Try.func61, Try.ntmps61
 go_upto_region 2 with fail
 obtain ⟨wd1146, hE1147⟩ : ∃ ww, ww = w.alloc (.cells #[.slice (some ⟨b, o, none⟩) xs.length c] 24) := ⟨_, rfl⟩
 rw [← hE1147]
 have hb1145 := aB hE1147
 have D := aN hE1147
 obtain ⟨wd1148, hE1149⟩ : ∃ ww, ww = wd1146.alloc (.cells #[.int .i64 0, .bool false, .int .i64 0, .string ⟨#[]⟩, .int .i64 0, .slice none 0 0, .slice none 0 0, .slice none 0 0] 34) := ⟨_, rfl⟩
 rw [← hE1149]
 replace D := dB D (aB hE1149)
 replace hb1145 := dT hb1145 (aB hE1149)
 have R := aM hE1149 (aZ hE1147 rfl)
 obtain ⟨wd1150, hE1151⟩ : ∃ ww, ww = wd1148.alloc (.cells #[.int .u8 x.kind, .int .u8 x.a, .int .u8 x.b, .int .u8 x.c, .slice P x.parts.length cp] 74) := ⟨_, rfl⟩
 rw [← hE1151]
 replace D := dB D (aB hE1151)
 replace R := dB R (aB hE1151)
 replace hb1145 := dT hb1145 (aB hE1151)
 have N := aM hE1151 (aZ hE1149 (aZ hE1147 rfl))
 clear hE1147 hE1149 hE1151
 have hw1152 := hb1145
 clear hb1145
 clear n0 n1 n2 n3 n4
 have cD_0 : wd1150.cell? ⟨w.heap.size, 0, none⟩ = some (.slice (some ⟨b, o, none⟩) xs.length c) := D.out.cell 0
 go_wp2_with fail
 clear cD_0
 ((with_reducible refine (HI.out _ (HR.out.on hw1152)).mono ?_); rintro e wd1153 ⟨rfl, hb1154⟩)
 replace D := dB D hb1154
 replace R := dB R hb1154
 replace N := dB N hb1154
 replace hw1152 := dT hw1152 hb1154
 clear hb1154
 go_upto_region 3 with fail
 obtain ⟨wd1156, hE1157⟩ : ∃ ww, ww = wd1153.alloc (.cells #[.int .i64 6, .bool false, .int .i64 0, .string ⟨#[]⟩, .int .i64 0, .slice none 0 0, .slice none 0 0, .slice none 0 0] 34) := ⟨_, rfl⟩
 rw [← hE1157]
 have hb1155 := aB hE1157
 have V := aN hE1157
 clear hE1157
 have hl1159 := D.out.here
 have hl1160 := R.out.here
 have hl1161 := N.out.here
 have hl1162 := hw1152.size
 replace D := dB D hb1155
 replace R := dB R hb1155
 replace N := dB N hb1155
 replace hw1152 := dT hw1152 hb1155
 clear hb1155
 generalize wd1153.heap.size = g1158 at *
 have cV_0 : wd1156.cell? ⟨g1158, 0, none⟩ = some (.int .i64 6) := V.out.cell 0
 go_upto_region 17 with fail
 go_wp2_with (refine wpList_store_row rfl 34 _ _ rfl (w.heap.size + 1) _ rfl rfl 34 _ R.out (by kernel_rfl) rfl (by simp [Value.oneCell']) ?_)
 clear cV_0
 obtain ⟨wd1163, hE1164⟩ : ∃ ww, ww = wd1156.setRow (w.heap.size + 1) #[.int .i64 0, .bool false, .int .i64 0, .string ⟨#[]⟩, .int .i64 0, .slice none 0 0, .slice none 0 0, .slice none 0 0] := ⟨_, rfl⟩
 rw [← hE1164]
 replace D := dR D hE1164 (by omega)
 replace N := dR N hE1164 (by omega)
 replace V := dR V hE1164 (by omega)
 replace R := dO R hE1164
 replace hw1152 := tR hw1152 hE1164 (by omega)
 clear hE1164
 obtain ⟨cR_0, cR_1, cR_2, cR_3, cR_4, cR_5, cR_6, cR_7⟩ := R.out.c8
 exact bodyPost_ret (v := .tuple #[.agg #[.int .i64 0, .bool false, .int .i64 0, .string ⟨#[]⟩, .int .i64 0, .slice none 0 0, .slice none 0 0, .slice none 0 0], .bool false]) (by simp [results, Try.results61, go_sem, cR_0, cR_1, cR_2, cR_3, cR_4, cR_5, cR_6, cR_7]) rfl (⟨by rw [HN.out]; rfl, hw1152⟩)
set_option maxRecDepth 100000 in
theorem initial8 (xs : List Nod) (vn : Value) (t code : Nat) (w : World) (h5 : 0 < xs.length ∧ xs.length ≤ 5) (ht : t < xs.length) (hk : kindN xs[t] = 8) (j : Nat) (hj : keyN xs 0 = some j) (hr : RdNods w w.heap.size vn xs) :
  Calls Try.prog 61 #[.agg #[vn], .int .i64 t, .int .u8 code] w fun e w' => e = .returned (.tuple #[valN (initialN xs t code).1, .bool (initialN xs t code).2]) ∧ Below w.heap.size w w' := by
 have hin : initialN xs t code = (.mk 8 false 0 [] 0 [] [] [], true) := by
  unfold initialN
  rw [List.getElem?_eq_getElem ht]
  simp [hk, hj]
 obtain ⟨A, c, rfl, hcap⟩ := hr.form
 have HR := Lib.hid hr
 have hki := fun W h => kind_any xs (.slice A xs.length c) t W ht h
 rw [hk] at hki
 have HI := Lib.hid hki
 have HN := Lib.hid hin
 obtain ⟨b, o, rfl, hb, hel⟩ := hr.elem h5.1
 obtain ⟨vp, hcs, hn⟩ := hel t ht
 obtain ⟨P, cp, rfl, hcp⟩ := hn.parts.form
 obtain ⟨n0, n1, n2, n3, n4⟩ := hcs
 have ht1 : (t : Int) < xs.length := by omega
 clear hel hr hki hin hk
 have hkey := fun W h => key_any xs (.slice (some ⟨b, o, none⟩) xs.length c) 0 W (by omega) h5 h
 simp only [show ((0 : Nat) : Int) = 0 from rfl] at hkey
 rw [hj] at hkey
 have HK := Lib.hid hkey
 have tj : decide ((j : Int) < 0) = false := decide_eq_false (by omega)
 clear hkey hj
 generalize xs[t] = x at *
 go_enter Try.func61, Try.ntmps61
 go_upto_region 2 with fail
 obtain ⟨wd1166, hE1167⟩ : ∃ ww, ww = w.alloc (.cells #[.slice (some ⟨b, o, none⟩) xs.length c] 24) := ⟨_, rfl⟩
 rw [← hE1167]
 have hb1165 := aB hE1167
 have D := aN hE1167
 obtain ⟨wd1168, hE1169⟩ : ∃ ww, ww = wd1166.alloc (.cells #[.int .i64 0, .bool false, .int .i64 0, .string ⟨#[]⟩, .int .i64 0, .slice none 0 0, .slice none 0 0, .slice none 0 0] 34) := ⟨_, rfl⟩
 rw [← hE1169]
 replace D := dB D (aB hE1169)
 replace hb1165 := dT hb1165 (aB hE1169)
 have R := aM hE1169 (aZ hE1167 rfl)
 obtain ⟨wd1170, hE1171⟩ : ∃ ww, ww = wd1168.alloc (.cells #[.int .u8 x.kind, .int .u8 x.a, .int .u8 x.b, .int .u8 x.c, .slice P x.parts.length cp] 74) := ⟨_, rfl⟩
 rw [← hE1171]
 replace D := dB D (aB hE1171)
 replace R := dB R (aB hE1171)
 replace hb1165 := dT hb1165 (aB hE1171)
 have N := aM hE1171 (aZ hE1169 (aZ hE1167 rfl))
 clear hE1167 hE1169 hE1171
 have hw1172 := hb1165
 clear hb1165
 clear n0 n1 n2 n3 n4
 have cD_0 : wd1170.cell? ⟨w.heap.size, 0, none⟩ = some (.slice (some ⟨b, o, none⟩) xs.length c) := D.out.cell 0
 go_wp2_with fail
 clear cD_0
 ((with_reducible refine (HI.out _ (HR.out.on hw1172)).mono ?_); rintro e wd1173 ⟨rfl, hb1174⟩)
 replace D := dB D hb1174
 replace R := dB R hb1174
 replace N := dB N hb1174
 replace hw1172 := dT hw1172 hb1174
 clear hb1174
 go_upto_region 3 with fail
 obtain ⟨wd1176, hE1177⟩ : ∃ ww, ww = wd1173.alloc (.cells #[.int .i64 8, .bool false, .int .i64 0, .string ⟨#[]⟩, .int .i64 0, .slice none 0 0, .slice none 0 0, .slice none 0 0] 34) := ⟨_, rfl⟩
 rw [← hE1177]
 have hb1175 := aB hE1177
 have V := aN hE1177
 clear hE1177
 have hl1179 := D.out.here
 have hl1180 := R.out.here
 have hl1181 := N.out.here
 have hl1182 := hw1172.size
 replace D := dB D hb1175
 replace R := dB R hb1175
 replace N := dB N hb1175
 replace hw1172 := dT hw1172 hb1175
 clear hb1175
 generalize wd1173.heap.size = g1178 at *
 have cV_0 : wd1176.cell? ⟨g1178, 0, none⟩ = some (.int .i64 8) := V.out.cell 0
 have cD_0 : wd1176.cell? ⟨w.heap.size, 0, none⟩ = some (.slice (some ⟨b, o, none⟩) xs.length c) := D.out.cell 0
 go_wp2_with fail
 clear cV_0 cD_0
 ((with_reducible refine (HK.out _ (HR.out.on hw1172)).mono ?_); rintro e wd1183 ⟨rfl, hb1184⟩)
 replace D := dB D hb1184
 replace R := dB R hb1184
 replace N := dB N hb1184
 replace V := dB V hb1184
 replace hw1172 := dT hw1172 hb1184
 clear hb1184
 obtain ⟨cV_0, cV_1, cV_2, cV_3, cV_4, cV_5, cV_6, cV_7⟩ := V.out.c8
 go_upto_region 18 with fail
 go_wp2_with (refine wpList_store_row rfl 34 _ _ rfl (w.heap.size + 1) _ rfl rfl 34 _ R.out (by kernel_rfl) rfl (by simp [Value.oneCell']) ?_)
 clear cV_0 cV_1 cV_2 cV_3 cV_4 cV_5 cV_6 cV_7
 obtain ⟨wd1185, hE1186⟩ : ∃ ww, ww = wd1183.setRow (w.heap.size + 1) #[.int .i64 8, .bool false, .int .i64 0, .string ⟨#[]⟩, .int .i64 0, .slice none 0 0, .slice none 0 0, .slice none 0 0] := ⟨_, rfl⟩
 rw [← hE1186]
 replace D := dR D hE1186 (by omega)
 replace N := dR N hE1186 (by omega)
 replace V := dR V hE1186 (by omega)
 replace R := dO R hE1186
 replace hw1172 := tR hw1172 hE1186 (by omega)
 clear hE1186
 obtain ⟨cR_0, cR_1, cR_2, cR_3, cR_4, cR_5, cR_6, cR_7⟩ := R.out.c8
 exact bodyPost_ret (v := .tuple #[.agg #[.int .i64 8, .bool false, .int .i64 0, .string ⟨#[]⟩, .int .i64 0, .slice none 0 0, .slice none 0 0, .slice none 0 0], .bool true]) (by simp [results, Try.results61, go_sem, cR_0, cR_1, cR_2, cR_3, cR_4, cR_5, cR_6, cR_7]) rfl (⟨by rw [HN.out]; rfl, hw1172⟩)
set_option maxRecDepth 100000 in
theorem initial8n (xs : List Nod) (vn : Value) (t code : Nat) (w : World) (h5 : 0 < xs.length ∧ xs.length ≤ 5) (ht : t < xs.length) (hk : kindN xs[t] = 8) (hj : keyN xs 0 = none) (hr : RdNods w w.heap.size vn xs) :
  Calls Try.prog 61 #[.agg #[vn], .int .i64 t, .int .u8 code] w fun e w' => e = .returned (.tuple #[valN (initialN xs t code).1, .bool (initialN xs t code).2]) ∧ Below w.heap.size w w' := by
 have hin : initialN xs t code = (.mk 7 false 0 [] 0 [] [] [], true) := by
  unfold initialN
  rw [List.getElem?_eq_getElem ht]
  simp [hk, hj]
 obtain ⟨A, c, rfl, hcap⟩ := hr.form
 have HR := Lib.hid hr
 have hki := fun W h => kind_any xs (.slice A xs.length c) t W ht h
 rw [hk] at hki
 have HI := Lib.hid hki
 have HN := Lib.hid hin
 obtain ⟨b, o, rfl, hb, hel⟩ := hr.elem h5.1
 obtain ⟨vp, hcs, hn⟩ := hel t ht
 obtain ⟨P, cp, rfl, hcp⟩ := hn.parts.form
 obtain ⟨n0, n1, n2, n3, n4⟩ := hcs
 have ht1 : (t : Int) < xs.length := by omega
 clear hel hr hki hin hk
 have hkey := fun W h => key_any xs (.slice (some ⟨b, o, none⟩) xs.length c) 0 W (by omega) h5 h
 simp only [show ((0 : Nat) : Int) = 0 from rfl] at hkey
 rw [hj] at hkey
 have HK := Lib.hid hkey
 clear hkey hj
 generalize xs[t] = x at *
 go_enter Try.func61, Try.ntmps61
 go_upto_region 2 with fail
 obtain ⟨wd1188, hE1189⟩ : ∃ ww, ww = w.alloc (.cells #[.slice (some ⟨b, o, none⟩) xs.length c] 24) := ⟨_, rfl⟩
 rw [← hE1189]
 have hb1187 := aB hE1189
 have D := aN hE1189
 obtain ⟨wd1190, hE1191⟩ : ∃ ww, ww = wd1188.alloc (.cells #[.int .i64 0, .bool false, .int .i64 0, .string ⟨#[]⟩, .int .i64 0, .slice none 0 0, .slice none 0 0, .slice none 0 0] 34) := ⟨_, rfl⟩
 rw [← hE1191]
 replace D := dB D (aB hE1191)
 replace hb1187 := dT hb1187 (aB hE1191)
 have R := aM hE1191 (aZ hE1189 rfl)
 obtain ⟨wd1192, hE1193⟩ : ∃ ww, ww = wd1190.alloc (.cells #[.int .u8 x.kind, .int .u8 x.a, .int .u8 x.b, .int .u8 x.c, .slice P x.parts.length cp] 74) := ⟨_, rfl⟩
 rw [← hE1193]
 replace D := dB D (aB hE1193)
 replace R := dB R (aB hE1193)
 replace hb1187 := dT hb1187 (aB hE1193)
 have N := aM hE1193 (aZ hE1191 (aZ hE1189 rfl))
 clear hE1189 hE1191 hE1193
 have hw1194 := hb1187
 clear hb1187
 clear n0 n1 n2 n3 n4
 have cD_0 : wd1192.cell? ⟨w.heap.size, 0, none⟩ = some (.slice (some ⟨b, o, none⟩) xs.length c) := D.out.cell 0
 go_wp2_with fail
 clear cD_0
 ((with_reducible refine (HI.out _ (HR.out.on hw1194)).mono ?_); rintro e wd1195 ⟨rfl, hb1196⟩)
 replace D := dB D hb1196
 replace R := dB R hb1196
 replace N := dB N hb1196
 replace hw1194 := dT hw1194 hb1196
 clear hb1196
 go_upto_region 3 with fail
 obtain ⟨wd1198, hE1199⟩ : ∃ ww, ww = wd1195.alloc (.cells #[.int .i64 8, .bool false, .int .i64 0, .string ⟨#[]⟩, .int .i64 0, .slice none 0 0, .slice none 0 0, .slice none 0 0] 34) := ⟨_, rfl⟩
 rw [← hE1199]
 have hb1197 := aB hE1199
 have V := aN hE1199
 clear hE1199
 have hl1201 := D.out.here
 have hl1202 := R.out.here
 have hl1203 := N.out.here
 have hl1204 := hw1194.size
 replace D := dB D hb1197
 replace R := dB R hb1197
 replace N := dB N hb1197
 replace hw1194 := dT hw1194 hb1197
 clear hb1197
 generalize wd1195.heap.size = g1200 at *
 have cV_0 : wd1198.cell? ⟨g1200, 0, none⟩ = some (.int .i64 8) := V.out.cell 0
 have cD_0 : wd1198.cell? ⟨w.heap.size, 0, none⟩ = some (.slice (some ⟨b, o, none⟩) xs.length c) := D.out.cell 0
 go_wp2_with fail
 clear cV_0 cD_0
 ((with_reducible refine (HK.out _ (HR.out.on hw1194)).mono ?_); rintro e wd1205 ⟨rfl, hb1206⟩)
 replace D := dB D hb1206
 replace R := dB R hb1206
 replace N := dB N hb1206
 replace V := dB V hb1206
 replace hw1194 := dT hw1194 hb1206
 clear hb1206
 have cV_0 : wd1205.cell? ⟨g1200, 0, none⟩ = some (.int .i64 8) := V.out.cell 0
 have fV_0 := V.out.free 0
 go_upto_region 5 with fail
 clear cV_0 fV_0
 obtain ⟨wd1207, hE1208⟩ : ∃ ww, ww = wd1205.setCell ⟨g1200, 0, none⟩ (.int .i64 7) := ⟨_, rfl⟩
 rw [← hE1208]
 replace D := dF D hE1208 (by omega)
 replace R := dF R hE1208 (by omega)
 replace N := dF N hE1208 (by omega)
 replace V : Hid (Has wd1207 (g1200) 34 #[.int .i64 7, .bool false, .int .i64 0, .string ⟨#[]⟩, .int .i64 0, .slice none 0 0, .slice none 0 0, .slice none 0 0]) := Lib.hid (by simpa using dS V hE1208)
 replace hw1194 := tF hw1194 hE1208 (by omega)
 clear hE1208
 obtain ⟨cV_0, cV_1, cV_2, cV_3, cV_4, cV_5, cV_6, cV_7⟩ := V.out.c8
 go_upto_region 18 with fail
 go_wp2_with (refine wpList_store_row rfl 34 _ _ rfl (w.heap.size + 1) _ rfl rfl 34 _ R.out (by kernel_rfl) rfl (by simp [Value.oneCell']) ?_)
 clear cV_0 cV_1 cV_2 cV_3 cV_4 cV_5 cV_6 cV_7
 obtain ⟨wd1209, hE1210⟩ : ∃ ww, ww = wd1207.setRow (w.heap.size + 1) #[.int .i64 7, .bool false, .int .i64 0, .string ⟨#[]⟩, .int .i64 0, .slice none 0 0, .slice none 0 0, .slice none 0 0] := ⟨_, rfl⟩
 rw [← hE1210]
 replace D := dR D hE1210 (by omega)
 replace N := dR N hE1210 (by omega)
 replace V := dR V hE1210 (by omega)
 replace R := dO R hE1210
 replace hw1194 := tR hw1194 hE1210 (by omega)
 clear hE1210
 obtain ⟨cR_0, cR_1, cR_2, cR_3, cR_4, cR_5, cR_6, cR_7⟩ := R.out.c8
 exact bodyPost_ret (v := .tuple #[.agg #[.int .i64 7, .bool false, .int .i64 0, .string ⟨#[]⟩, .int .i64 0, .slice none 0 0, .slice none 0 0, .slice none 0 0], .bool true]) (by simp [results, Try.results61, go_sem, cR_0, cR_1, cR_2, cR_3, cR_4, cR_5, cR_6, cR_7]) rfl (⟨by rw [HN.out]; rfl, hw1194⟩)
end Go.Proofs.Ytgeapglanckjpaa

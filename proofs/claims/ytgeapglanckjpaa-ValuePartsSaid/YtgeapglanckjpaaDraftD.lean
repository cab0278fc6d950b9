/- What initial computes for integers, strings and enumerations of a draft. No condition. -/
import Derived.Test.YtgeapglanckjpaaDraftC
set_option maxHeartbeats 1000000
namespace Go.Proofs.Ytgeapglanckjpaa
open Go.ChangeShapes Go.WideShapes Go.ChangeAt Go.RowKit
set_option maxRecDepth 100000 in
theorem initial3y (xs : List Nod) (vn : Value) (t code : Nat) (w : World) (h5 : 0 < xs.length ∧ xs.length ≤ 5) (ht : t < xs.length) (hk : kindN xs[t] = 3) (hy : 0 < xs[t].a % 4 ∧ code % 2 = 1) (hr : RdNods w w.heap.size vn xs) :
  Calls Try.prog 61 #[.agg #[vn], .int .i64 t, .int .u8 code] w fun e w' => e = .returned (.tuple #[valN (initialN xs t code).1, .bool (initialN xs t code).2]) ∧ Below w.heap.size w w' := by
 have hin : initialN xs t code = (.mk 3 false 0 [97] 0 [] [] [], true) := by
  unfold initialN
  rw [List.getElem?_eq_getElem ht]
  simp [hk, hy]
 obtain ⟨A, c, rfl, hcap⟩ := hr.form
 have HR := Lib.hid hr
 have hki := fun W h => kind_any xs (.slice A xs.length c) t W ht h
 rw [hk] at hki
 have HI := Lib.hid hki
 have HN := Lib.hid hin
 obtain ⟨b, o, rfl, hb, hel⟩ := hr.elem h5.1
 obtain ⟨vp, hcs, hn⟩ := hel t ht
 obtain ⟨P, cp, rfl, hcp⟩ := hn.parts.form
 obtain ⟨n0, n1, n2, n3, n4⟩ := hcs
 have ht1 : (t : Int) < xs.length := by omega
 clear hel hr hki hin hk
 generalize xs[t] = x at *
 have ta : decide (0 < (x.a : Int) % 4) = true := decide_eq_true (by omega)
 have tc : ((code : Int) % 2 == 1) = true := by have := hy.2; simp; omega
 clear hy
 go_enter Try.func61, Try.ntmps61
 go_upto_region 2 with fail
 obtain ⟨wd1212, hE1213⟩ : ∃ ww, ww = w.alloc (.cells #[.slice (some ⟨b, o, none⟩) xs.length c] 24) := ⟨_, rfl⟩
 rw [← hE1213]
 have hb1211 := aB hE1213
 have D := aN hE1213
 obtain ⟨wd1214, hE1215⟩ : ∃ ww, ww = wd1212.alloc (.cells #[.int .i64 0, .bool false, .int .i64 0, .string ⟨#[]⟩, .int .i64 0, .slice none 0 0, .slice none 0 0, .slice none 0 0] 34) := ⟨_, rfl⟩
 rw [← hE1215]
 replace D := dB D (aB hE1215)
 replace hb1211 := dT hb1211 (aB hE1215)
 have R := aM hE1215 (aZ hE1213 rfl)
 obtain ⟨wd1216, hE1217⟩ : ∃ ww, ww = wd1214.alloc (.cells #[.int .u8 x.kind, .int .u8 x.a, .int .u8 x.b, .int .u8 x.c, .slice P x.parts.length cp] 74) := ⟨_, rfl⟩
 rw [← hE1217]
 replace D := dB D (aB hE1217)
 replace R := dB R (aB hE1217)
 replace hb1211 := dT hb1211 (aB hE1217)
 have N := aM hE1217 (aZ hE1215 (aZ hE1213 rfl))
 clear hE1213 hE1215 hE1217
 have hw1218 := hb1211
 clear hb1211
 clear n0 n1 n2 n3 n4
 have cD_0 : wd1216.cell? ⟨w.heap.size, 0, none⟩ = some (.slice (some ⟨b, o, none⟩) xs.length c) := D.out.cell 0
 go_wp2_with fail
 clear cD_0
 ((with_reducible refine (HI.out _ (HR.out.on hw1218)).mono ?_); rintro e wd1219 ⟨rfl, hb1220⟩)
 replace D := dB D hb1220
 replace R := dB R hb1220
 replace N := dB N hb1220
 replace hw1218 := dT hw1218 hb1220
 clear hb1220
 go_upto_region 3 with fail
 obtain ⟨wd1222, hE1223⟩ : ∃ ww, ww = wd1219.alloc (.cells #[.int .i64 3, .bool false, .int .i64 0, .string ⟨#[]⟩, .int .i64 0, .slice none 0 0, .slice none 0 0, .slice none 0 0] 34) := ⟨_, rfl⟩
 rw [← hE1223]
 have hb1221 := aB hE1223
 have V := aN hE1223
 clear hE1223
 have hl1225 := D.out.here
 have hl1226 := R.out.here
 have hl1227 := N.out.here
 have hl1228 := hw1218.size
 replace D := dB D hb1221
 replace R := dB R hb1221
 replace N := dB N hb1221
 replace hw1218 := dT hw1218 hb1221
 clear hb1221
 generalize wd1219.heap.size = g1224 at *
 have cV_0 : wd1222.cell? ⟨g1224, 0, none⟩ = some (.int .i64 3) := V.out.cell 0
 have cV_3 : wd1222.cell? ⟨g1224, 3, none⟩ = some (.string ⟨#[]⟩) := V.out.cell 3
 have cN_1 : wd1222.cell? ⟨w.heap.size + 1 + 1, 1, none⟩ = some (.int .u8 x.a) := N.out.cell 1
 have fV_3 := V.out.free 3
 go_upto_region 18 with fail
 clear cV_0 cV_3 cN_1 fV_3
 obtain ⟨wd1229, hE1230⟩ : ∃ ww, ww = wd1222.setCell ⟨g1224, 3, none⟩ (.string ⟨#[97]⟩) := ⟨_, rfl⟩
 rw [← hE1230]
 replace D := dF D hE1230 (by omega)
 replace R := dF R hE1230 (by omega)
 replace N := dF N hE1230 (by omega)
 replace V : Hid (Has wd1229 (g1224) 34 #[.int .i64 3, .bool false, .int .i64 0, .string ⟨#[97]⟩, .int .i64 0, .slice none 0 0, .slice none 0 0, .slice none 0 0]) := Lib.hid (by simpa using dS V hE1230)
 replace hw1218 := tF hw1218 hE1230 (by omega)
 clear hE1230
 obtain ⟨cV_0, cV_1, cV_2, cV_3, cV_4, cV_5, cV_6, cV_7⟩ := V.out.c8
 go_upto_region 18 with fail
 go_wp2_with (refine wpList_store_row rfl 34 _ _ rfl (w.heap.size + 1) _ rfl rfl 34 _ R.out (by kernel_rfl) rfl (by simp [Value.oneCell']) ?_)
 clear cV_0 cV_1 cV_2 cV_3 cV_4 cV_5 cV_6 cV_7
 obtain ⟨wd1231, hE1232⟩ : ∃ ww, ww = wd1229.setRow (w.heap.size + 1) #[.int .i64 3, .bool false, .int .i64 0, .string ⟨#[97]⟩, .int .i64 0, .slice none 0 0, .slice none 0 0, .slice none 0 0] := ⟨_, rfl⟩
 rw [← hE1232]
 replace D := dR D hE1232 (by omega)
 replace N := dR N hE1232 (by omega)
 replace V := dR V hE1232 (by omega)
 replace R := dO R hE1232
 replace hw1218 := tR hw1218 hE1232 (by omega)
 clear hE1232
 obtain ⟨cR_0, cR_1, cR_2, cR_3, cR_4, cR_5, cR_6, cR_7⟩ := R.out.c8
 exact bodyPost_ret (v := .tuple #[.agg #[.int .i64 3, .bool false, .int .i64 0, .string ⟨#[97]⟩, .int .i64 0, .slice none 0 0, .slice none 0 0, .slice none 0 0], .bool true]) (by simp [results, Try.results61, go_sem, cR_0, cR_1, cR_2, cR_3, cR_4, cR_5, cR_6, cR_7]) rfl (⟨by rw [HN.out]; rfl, hw1218⟩)
set_option maxRecDepth 100000 in
theorem initial3n (xs : List Nod) (vn : Value) (t code : Nat) (w : World) (h5 : 0 < xs.length ∧ xs.length ≤ 5) (ht : t < xs.length) (hk : kindN xs[t] = 3) (hy : xs[t].a % 4 = 0) (hr : RdNods w w.heap.size vn xs) :
  Calls Try.prog 61 #[.agg #[vn], .int .i64 t, .int .u8 code] w fun e w' => e = .returned (.tuple #[valN (initialN xs t code).1, .bool (initialN xs t code).2]) ∧ Below w.heap.size w w' := by
 have hin : initialN xs t code = (.mk 3 false 0 [] 0 [] [] [], true) := by
  unfold initialN
  rw [List.getElem?_eq_getElem ht]
  simp [hk, hy]
 obtain ⟨A, c, rfl, hcap⟩ := hr.form
 have HR := Lib.hid hr
 have hki := fun W h => kind_any xs (.slice A xs.length c) t W ht h
 rw [hk] at hki
 have HI := Lib.hid hki
 have HN := Lib.hid hin
 obtain ⟨b, o, rfl, hb, hel⟩ := hr.elem h5.1
 obtain ⟨vp, hcs, hn⟩ := hel t ht
 obtain ⟨P, cp, rfl, hcp⟩ := hn.parts.form
 obtain ⟨n0, n1, n2, n3, n4⟩ := hcs
 have ht1 : (t : Int) < xs.length := by omega
 clear hel hr hki hin hk
 generalize xs[t] = x at *
 have ta : decide (0 < (x.a : Int) % 4) = false := decide_eq_false (by omega)
 clear hy
 go_enter Try.func61, Try.ntmps61
 go_upto_region 2 with fail
 obtain ⟨wd1234, hE1235⟩ : ∃ ww, ww = w.alloc (.cells #[.slice (some ⟨b, o, none⟩) xs.length c] 24) := ⟨_, rfl⟩
 rw [← hE1235]
 have hb1233 := aB hE1235
 have D := aN hE1235
 obtain ⟨wd1236, hE1237⟩ : ∃ ww, ww = wd1234.alloc (.cells #[.int .i64 0, .bool false, .int .i64 0, .string ⟨#[]⟩, .int .i64 0, .slice none 0 0, .slice none 0 0, .slice none 0 0] 34) := ⟨_, rfl⟩
 rw [← hE1237]
 replace D := dB D (aB hE1237)
 replace hb1233 := dT hb1233 (aB hE1237)
 have R := aM hE1237 (aZ hE1235 rfl)
 obtain ⟨wd1238, hE1239⟩ : ∃ ww, ww = wd1236.alloc (.cells #[.int .u8 x.kind, .int .u8 x.a, .int .u8 x.b, .int .u8 x.c, .slice P x.parts.length cp] 74) := ⟨_, rfl⟩
 rw [← hE1239]
 replace D := dB D (aB hE1239)
 replace R := dB R (aB hE1239)
 replace hb1233 := dT hb1233 (aB hE1239)
 have N := aM hE1239 (aZ hE1237 (aZ hE1235 rfl))
 clear hE1235 hE1237 hE1239
 have hw1240 := hb1233
 clear hb1233
 clear n0 n1 n2 n3 n4
 have cD_0 : wd1238.cell? ⟨w.heap.size, 0, none⟩ = some (.slice (some ⟨b, o, none⟩) xs.length c) := D.out.cell 0
 go_wp2_with fail
 clear cD_0
 ((with_reducible refine (HI.out _ (HR.out.on hw1240)).mono ?_); rintro e wd1241 ⟨rfl, hb1242⟩)
 replace D := dB D hb1242
 replace R := dB R hb1242
 replace N := dB N hb1242
 replace hw1240 := dT hw1240 hb1242
 clear hb1242
 go_upto_region 3 with fail
 obtain ⟨wd1244, hE1245⟩ : ∃ ww, ww = wd1241.alloc (.cells #[.int .i64 3, .bool false, .int .i64 0, .string ⟨#[]⟩, .int .i64 0, .slice none 0 0, .slice none 0 0, .slice none 0 0] 34) := ⟨_, rfl⟩
 rw [← hE1245]
 have hb1243 := aB hE1245
 have V := aN hE1245
 clear hE1245
 have hl1247 := D.out.here
 have hl1248 := R.out.here
 have hl1249 := N.out.here
 have hl1250 := hw1240.size
 replace D := dB D hb1243
 replace R := dB R hb1243
 replace N := dB N hb1243
 replace hw1240 := dT hw1240 hb1243
 clear hb1243
 generalize wd1241.heap.size = g1246 at *
 have cV_0 : wd1244.cell? ⟨g1246, 0, none⟩ = some (.int .i64 3) := V.out.cell 0
 have cN_1 : wd1244.cell? ⟨w.heap.size + 1 + 1, 1, none⟩ = some (.int .u8 x.a) := N.out.cell 1
 obtain ⟨-, cV_1, cV_2, cV_3, cV_4, cV_5, cV_6, cV_7⟩ := V.out.c8
 go_upto_region 18 with fail
 go_wp2_with (refine wpList_store_row rfl 34 _ _ rfl (w.heap.size + 1) _ rfl rfl 34 _ R.out (by kernel_rfl) rfl (by simp [Value.oneCell']) ?_)
 clear cV_0 cN_1 cV_1 cV_2 cV_3 cV_4 cV_5 cV_6 cV_7
 obtain ⟨wd1251, hE1252⟩ : ∃ ww, ww = wd1244.setRow (w.heap.size + 1) #[.int .i64 3, .bool false, .int .i64 0, .string ⟨#[]⟩, .int .i64 0, .slice none 0 0, .slice none 0 0, .slice none 0 0] := ⟨_, rfl⟩
 rw [← hE1252]
 replace D := dR D hE1252 (by omega)
 replace N := dR N hE1252 (by omega)
 replace V := dR V hE1252 (by omega)
 replace R := dO R hE1252
 replace hw1240 := tR hw1240 hE1252 (by omega)
 clear hE1252
 obtain ⟨cR_0, cR_1, cR_2, cR_3, cR_4, cR_5, cR_6, cR_7⟩ := R.out.c8
 exact bodyPost_ret (v := .tuple #[.agg #[.int .i64 3, .bool false, .int .i64 0, .string ⟨#[]⟩, .int .i64 0, .slice none 0 0, .slice none 0 0, .slice none 0 0], .bool true]) (by simp [results, Try.results61, go_sem, cR_0, cR_1, cR_2, cR_3, cR_4, cR_5, cR_6, cR_7]) rfl (⟨by rw [HN.out]; rfl, hw1240⟩)
set_option maxRecDepth 100000 in
theorem initial3m (xs : List Nod) (vn : Value) (t code : Nat) (w : World) (h5 : 0 < xs.length ∧ xs.length ≤ 5) (ht : t < xs.length) (hk : kindN xs[t] = 3) (hy : 0 < xs[t].a % 4) (hz : code % 2 = 0) (hr : RdNods w w.heap.size vn xs) :
  Calls Try.prog 61 #[.agg #[vn], .int .i64 t, .int .u8 code] w fun e w' => e = .returned (.tuple #[valN (initialN xs t code).1, .bool (initialN xs t code).2]) ∧ Below w.heap.size w w' := by
 have hin : initialN xs t code = (.mk 3 false 0 [] 0 [] [] [], true) := by
  unfold initialN
  rw [List.getElem?_eq_getElem ht]
  simp [hk, hz]
 obtain ⟨A, c, rfl, hcap⟩ := hr.form
 have HR := Lib.hid hr
 have hki := fun W h => kind_any xs (.slice A xs.length c) t W ht h
 rw [hk] at hki
 have HI := Lib.hid hki
 have HN := Lib.hid hin
 obtain ⟨b, o, rfl, hb, hel⟩ := hr.elem h5.1
 obtain ⟨vp, hcs, hn⟩ := hel t ht
 obtain ⟨P, cp, rfl, hcp⟩ := hn.parts.form
 obtain ⟨n0, n1, n2, n3, n4⟩ := hcs
 have ht1 : (t : Int) < xs.length := by omega
 clear hel hr hki hin hk
 generalize xs[t] = x at *
 have ta : decide (0 < (x.a : Int) % 4) = true := decide_eq_true (by omega)
 have tc : ((code : Int) % 2 == 1) = false := beq_eq_false_iff_ne.2 (by omega)
 clear hy hz
 go_enter Try.func61, Try.ntmps61
 go_upto_region 2 with fail
 obtain ⟨wd1254, hE1255⟩ : ∃ ww, ww = w.alloc (.cells #[.slice (some ⟨b, o, none⟩) xs.length c] 24) := ⟨_, rfl⟩
 rw [← hE1255]
 have hb1253 := aB hE1255
 have D := aN hE1255
 obtain ⟨wd1256, hE1257⟩ : ∃ ww, ww = wd1254.alloc (.cells #[.int .i64 0, .bool false, .int .i64 0, .string ⟨#[]⟩, .int .i64 0, .slice none 0 0, .slice none 0 0, .slice none 0 0] 34) := ⟨_, rfl⟩
 rw [← hE1257]
 replace D := dB D (aB hE1257)
 replace hb1253 := dT hb1253 (aB hE1257)
 have R := aM hE1257 (aZ hE1255 rfl)
 obtain ⟨wd1258, hE1259⟩ : ∃ ww, ww = wd1256.alloc (.cells #[.int .u8 x.kind, .int .u8 x.a, .int .u8 x.b, .int .u8 x.c, .slice P x.parts.length cp] 74) := ⟨_, rfl⟩
 rw [← hE1259]
 replace D := dB D (aB hE1259)
 replace R := dB R (aB hE1259)
 replace hb1253 := dT hb1253 (aB hE1259)
 have N := aM hE1259 (aZ hE1257 (aZ hE1255 rfl))
 clear hE1255 hE1257 hE1259
 have hw1260 := hb1253
 clear hb1253
 clear n0 n1 n2 n3 n4
 have cD_0 : wd1258.cell? ⟨w.heap.size, 0, none⟩ = some (.slice (some ⟨b, o, none⟩) xs.length c) := D.out.cell 0
 go_wp2_with fail
 clear cD_0
 ((with_reducible refine (HI.out _ (HR.out.on hw1260)).mono ?_); rintro e wd1261 ⟨rfl, hb1262⟩)
 replace D := dB D hb1262
 replace R := dB R hb1262
 replace N := dB N hb1262
 replace hw1260 := dT hw1260 hb1262
 clear hb1262
 go_upto_region 3 with fail
 obtain ⟨wd1264, hE1265⟩ : ∃ ww, ww = wd1261.alloc (.cells #[.int .i64 3, .bool false, .int .i64 0, .string ⟨#[]⟩, .int .i64 0, .slice none 0 0, .slice none 0 0, .slice none 0 0] 34) := ⟨_, rfl⟩
 rw [← hE1265]
 have hb1263 := aB hE1265
 have V := aN hE1265
 clear hE1265
 have hl1267 := D.out.here
 have hl1268 := R.out.here
 have hl1269 := N.out.here
 have hl1270 := hw1260.size
 replace D := dB D hb1263
 replace R := dB R hb1263
 replace N := dB N hb1263
 replace hw1260 := dT hw1260 hb1263
 clear hb1263
 generalize wd1261.heap.size = g1266 at *
 have cV_0 : wd1264.cell? ⟨g1266, 0, none⟩ = some (.int .i64 3) := V.out.cell 0
 have cN_1 : wd1264.cell? ⟨w.heap.size + 1 + 1, 1, none⟩ = some (.int .u8 x.a) := N.out.cell 1
 obtain ⟨-, cV_1, cV_2, cV_3, cV_4, cV_5, cV_6, cV_7⟩ := V.out.c8
 go_upto_region 18 with fail
 go_wp2_with (refine wpList_store_row rfl 34 _ _ rfl (w.heap.size + 1) _ rfl rfl 34 _ R.out (by kernel_rfl) rfl (by simp [Value.oneCell']) ?_)
 clear cV_0 cN_1 cV_1 cV_2 cV_3 cV_4 cV_5 cV_6 cV_7
 obtain ⟨wd1271, hE1272⟩ : ∃ ww, ww = wd1264.setRow (w.heap.size + 1) #[.int .i64 3, .bool false, .int .i64 0, .string ⟨#[]⟩, .int .i64 0, .slice none 0 0, .slice none 0 0, .slice none 0 0] := ⟨_, rfl⟩
 rw [← hE1272]
 replace D := dR D hE1272 (by omega)
 replace N := dR N hE1272 (by omega)
 replace V := dR V hE1272 (by omega)
 replace R := dO R hE1272
 replace hw1260 := tR hw1260 hE1272 (by omega)
 clear hE1272
 obtain ⟨cR_0, cR_1, cR_2, cR_3, cR_4, cR_5, cR_6, cR_7⟩ := R.out.c8
 exact bodyPost_ret (v := .tuple #[.agg #[.int .i64 3, .bool false, .int .i64 0, .string ⟨#[]⟩, .int .i64 0, .slice none 0 0, .slice none 0 0, .slice none 0 0], .bool true]) (by simp [results, Try.results61, go_sem, cR_0, cR_1, cR_2, cR_3, cR_4, cR_5, cR_6, cR_7]) rfl (⟨by rw [HN.out]; rfl, hw1260⟩)
set_option maxRecDepth 100000 in
theorem initial2 (xs : List Nod) (vn : Value) (t code : Nat) (w : World) (hc : code < 256) (h5 : 0 < xs.length ∧ xs.length ≤ 5) (ht : t < xs.length) (hk : kindN xs[t] = 2) (hr : RdNods w w.heap.size vn xs) :
  Calls Try.prog 61 #[.agg #[vn], .int .i64 t, .int .u8 code] w fun e w' => e = .returned (.tuple #[valN (initialN xs t code).1, .bool (initialN xs t code).2]) ∧ Below w.heap.size w w' := by
 have hin : initialN xs t code = (.mk 2 false (lowN xs[t] + (code : Int) % (highN xs[t] - lowN xs[t] + 1)) [] 0 [] [] [], true) := by
  unfold initialN
  rw [List.getElem?_eq_getElem ht]
  simp [hk]
 obtain ⟨A, c, rfl, hcap⟩ := hr.form
 have HR := Lib.hid hr
 have hki := fun W h => kind_any xs (.slice A xs.length c) t W ht h
 rw [hk] at hki
 have HI := Lib.hid hki
 have HN := Lib.hid hin
 obtain ⟨b, o, rfl, hb, hel⟩ := hr.elem h5.1
 obtain ⟨vp, hcs, hn⟩ := hel t ht
 obtain ⟨P, cp, rfl, hcp⟩ := hn.parts.form
 obtain ⟨n0, n1, n2, n3, n4⟩ := hcs
 have ht1 : (t : Int) < xs.length := by omega
 clear hel hr hki hin hk
 have hlo := fun W => low_any xs[t] (.slice P xs[t].parts.length cp) W hn.ints.2.1
 have hhi := fun W => high_any xs[t] (.slice P xs[t].parts.length cp) W hn.ints.2.1 hn.ints.2.2.1
 have hr1 := low_rng xs[t]
 have hr2 : lowN xs[t] ≤ highN xs[t] ∧ highN xs[t] ≤ lowN xs[t] + 5 := by unfold highN; omega
 generalize lowN xs[t] = lo at *
 generalize highN xs[t] = hi at *
 have HLO := Lib.hid hlo
 have HHI := Lib.hid hhi
 have hcc : (code : Int) < 256 := by omega
 have hmr : 0 ≤ (code : Int) % (hi - lo + 1) ∧ (code : Int) % (hi - lo + 1) < hi - lo + 1 := ⟨Int.emod_nonneg _ (by omega), Int.emod_lt_of_pos _ (by omega)⟩
 clear hlo hhi
 generalize xs[t] = x at *
 go_enter Try.func61, Try.ntmps61
 go_upto_region 2 with fail
 obtain ⟨wd1274, hE1275⟩ : ∃ ww, ww = w.alloc (.cells #[.slice (some ⟨b, o, none⟩) xs.length c] 24) := ⟨_, rfl⟩
 rw [← hE1275]
 have hb1273 := aB hE1275
 have D := aN hE1275
 obtain ⟨wd1276, hE1277⟩ : ∃ ww, ww = wd1274.alloc (.cells #[.int .i64 0, .bool false, .int .i64 0, .string ⟨#[]⟩, .int .i64 0, .slice none 0 0, .slice none 0 0, .slice none 0 0] 34) := ⟨_, rfl⟩
 rw [← hE1277]
 replace D := dB D (aB hE1277)
 replace hb1273 := dT hb1273 (aB hE1277)
 have R := aM hE1277 (aZ hE1275 rfl)
 obtain ⟨wd1278, hE1279⟩ : ∃ ww, ww = wd1276.alloc (.cells #[.int .u8 x.kind, .int .u8 x.a, .int .u8 x.b, .int .u8 x.c, .slice P x.parts.length cp] 74) := ⟨_, rfl⟩
 rw [← hE1279]
 replace D := dB D (aB hE1279)
 replace R := dB R (aB hE1279)
 replace hb1273 := dT hb1273 (aB hE1279)
 have N := aM hE1279 (aZ hE1277 (aZ hE1275 rfl))
 clear hE1275 hE1277 hE1279
 have hw1280 := hb1273
 clear hb1273
 clear n0 n1 n2 n3 n4
 have cD_0 : wd1278.cell? ⟨w.heap.size, 0, none⟩ = some (.slice (some ⟨b, o, none⟩) xs.length c) := D.out.cell 0
 go_wp2_with fail
 clear cD_0
 ((with_reducible refine (HI.out _ (HR.out.on hw1280)).mono ?_); rintro e wd1281 ⟨rfl, hb1282⟩)
 replace D := dB D hb1282
 replace R := dB R hb1282
 replace N := dB N hb1282
 replace hw1280 := dT hw1280 hb1282
 clear hb1282
 go_upto_region 3 with fail
 obtain ⟨wd1284, hE1285⟩ : ∃ ww, ww = wd1281.alloc (.cells #[.int .i64 2, .bool false, .int .i64 0, .string ⟨#[]⟩, .int .i64 0, .slice none 0 0, .slice none 0 0, .slice none 0 0] 34) := ⟨_, rfl⟩
 rw [← hE1285]
 have hb1283 := aB hE1285
 have V := aN hE1285
 clear hE1285
 have hl1287 := D.out.here
 have hl1288 := R.out.here
 have hl1289 := N.out.here
 have hl1290 := hw1280.size
 replace D := dB D hb1283
 replace R := dB R hb1283
 replace N := dB N hb1283
 replace hw1280 := dT hw1280 hb1283
 clear hb1283
 generalize wd1281.heap.size = g1286 at *
 have cV_0 : wd1284.cell? ⟨g1286, 0, none⟩ = some (.int .i64 2) := V.out.cell 0
 go_upto_region 9 with fail
 have cV_2 : wd1284.cell? ⟨g1286, 2, none⟩ = some (.int .i64 0) := V.out.cell 2
 have fV_2 := V.out.free 2
 have e1 : IntKind.i64.wrap (code : Int) = code := IntWalk.i64_in _ (by omega)
 have e2 : IntKind.i64.wrap (hi - lo) = hi - lo := IntWalk.i64_in _ (by omega)
 have e3 : IntKind.i64.wrap (hi - lo + 1) = hi - lo + 1 := IntWalk.i64_in _ (by omega)
 have e4 : ¬ (hi - lo + 1 = 0) := by omega
 have e5 : (code : Int).tmod (hi - lo + 1) = (code : Int) % (hi - lo + 1) := Int.tmod_eq_emod_of_nonneg (by omega)
 have e6 : IntKind.i64.wrap ((code : Int) % (hi - lo + 1)) = (code : Int) % (hi - lo + 1) := IntWalk.i64_in _ (by omega)
 have e7 : IntKind.i64.wrap (lo + (code : Int) % (hi - lo + 1)) = lo + (code : Int) % (hi - lo + 1) := IntWalk.i64_in _ (by omega)
 have cN_0 : wd1284.cell? ⟨w.heap.size + 1 + 1, 0, none⟩ = some (.int .u8 x.kind) := N.out.cell 0
 have cN_1 : wd1284.cell? ⟨w.heap.size + 1 + 1, 1, none⟩ = some (.int .u8 x.a) := N.out.cell 1
 have cN_2 : wd1284.cell? ⟨w.heap.size + 1 + 1, 2, none⟩ = some (.int .u8 x.b) := N.out.cell 2
 have cN_3 : wd1284.cell? ⟨w.heap.size + 1 + 1, 3, none⟩ = some (.int .u8 x.c) := N.out.cell 3
 have cN_4 : wd1284.cell? ⟨w.heap.size + 1 + 1, 4, none⟩ = some (.slice P x.parts.length cp) := N.out.cell 4
 go_region_held3 (fun w' => w'.cell? ⟨w.heap.size + 1 + 1, 0, none⟩ = some (.int .u8 x.kind) ∧ w'.cell? ⟨w.heap.size + 1 + 1, 1, none⟩ = some (.int .u8 x.a) ∧ w'.cell? ⟨w.heap.size + 1 + 1, 2, none⟩ = some (.int .u8 x.b) ∧ w'.cell? ⟨w.heap.size + 1 + 1, 3, none⟩ = some (.int .u8 x.c) ∧ w'.cell? ⟨w.heap.size + 1 + 1, 4, none⟩ = some (.slice P x.parts.length cp)) (first | (go_keep; done) | exact ⟨cN_0, cN_1, cN_2, cN_3, cN_4⟩ | (((repeat' apply And.intro) <;> ((repeat (with_reducible (first | refine Eq.trans (cell_drew _ _) ?_ | refine Eq.trans (cell_far _ _ _ _ _ (by dsimp only; omega)) ?_))); assumption)); done))
  (first
   | (go_at_call 35; (first | (with_reducible refine (HLO.out _).mono ?_)); rintro e wn ⟨rfl, hbn⟩; have D : Hid (Has wn (w.heap.size) 24 #[.slice (some ⟨b, o, none⟩) xs.length c]) := Lib.hid (by first | exact D.out.below hbn D.out.here | exact D.out.drew.below hbn D.out.here); have R : Hid (Has wn (w.heap.size + 1) 34 #[.int .i64 0, .bool false, .int .i64 0, .string ⟨#[]⟩, .int .i64 0, .slice none 0 0, .slice none 0 0, .slice none 0 0]) := Lib.hid (by first | exact R.out.below hbn R.out.here | exact R.out.drew.below hbn R.out.here); have N : Hid (Has wn (w.heap.size + 1 + 1) 74 #[.int .u8 x.kind, .int .u8 x.a, .int .u8 x.b, .int .u8 x.c, .slice P x.parts.length cp]) := Lib.hid (by first | exact N.out.below hbn N.out.here | exact N.out.drew.below hbn N.out.here); have V : Hid (Has wn (g1286) 34 #[.int .i64 2, .bool false, .int .i64 0, .string ⟨#[]⟩, .int .i64 0, .slice none 0 0, .slice none 0 0, .slice none 0 0]) := Lib.hid (by first | exact V.out.below hbn V.out.here | exact V.out.drew.below hbn V.out.here); have hw1280 : Below w.heap.size w wn := (by first | exact hw1280.trans (hbn.mono hw1280.size) | exact (hw1280.drew).trans (hbn.mono hw1280.size)); have cV_0 : wn.cell? ⟨g1286, 0, none⟩ = some (.int .i64 2) := V.out.cell 0; have cV_2 : wn.cell? ⟨g1286, 2, none⟩ = some (.int .i64 0) := V.out.cell 2; have fV_2 : wn.frozen? ⟨g1286, 2, none⟩ = false := V.out.free 2; have cN_0 : wn.cell? ⟨w.heap.size + 1 + 1, 0, none⟩ = some (.int .u8 x.kind) := N.out.cell 0; have cN_1 : wn.cell? ⟨w.heap.size + 1 + 1, 1, none⟩ = some (.int .u8 x.a) := N.out.cell 1; have cN_2 : wn.cell? ⟨w.heap.size + 1 + 1, 2, none⟩ = some (.int .u8 x.b) := N.out.cell 2; have cN_3 : wn.cell? ⟨w.heap.size + 1 + 1, 3, none⟩ = some (.int .u8 x.c) := N.out.cell 3; have cN_4 : wn.cell? ⟨w.heap.size + 1 + 1, 4, none⟩ = some (.slice P x.parts.length cp) := N.out.cell 4)
   | (go_at_call 36; (first | (with_reducible refine (HHI.out _).mono ?_)); rintro e wn ⟨rfl, hbn⟩; have D : Hid (Has wn (w.heap.size) 24 #[.slice (some ⟨b, o, none⟩) xs.length c]) := Lib.hid (by first | exact D.out.below hbn D.out.here | exact D.out.drew.below hbn D.out.here); have R : Hid (Has wn (w.heap.size + 1) 34 #[.int .i64 0, .bool false, .int .i64 0, .string ⟨#[]⟩, .int .i64 0, .slice none 0 0, .slice none 0 0, .slice none 0 0]) := Lib.hid (by first | exact R.out.below hbn R.out.here | exact R.out.drew.below hbn R.out.here); have N : Hid (Has wn (w.heap.size + 1 + 1) 74 #[.int .u8 x.kind, .int .u8 x.a, .int .u8 x.b, .int .u8 x.c, .slice P x.parts.length cp]) := Lib.hid (by first | exact N.out.below hbn N.out.here | exact N.out.drew.below hbn N.out.here); have V : Hid (Has wn (g1286) 34 #[.int .i64 2, .bool false, .int .i64 0, .string ⟨#[]⟩, .int .i64 0, .slice none 0 0, .slice none 0 0, .slice none 0 0]) := Lib.hid (by first | exact V.out.below hbn V.out.here | exact V.out.drew.below hbn V.out.here); have hw1280 : Below w.heap.size w wn := (by first | exact hw1280.trans (hbn.mono hw1280.size) | exact (hw1280.drew).trans (hbn.mono hw1280.size)); have cV_0 : wn.cell? ⟨g1286, 0, none⟩ = some (.int .i64 2) := V.out.cell 0; have cV_2 : wn.cell? ⟨g1286, 2, none⟩ = some (.int .i64 0) := V.out.cell 2; have fV_2 : wn.frozen? ⟨g1286, 2, none⟩ = false := V.out.free 2; have cN_0 : wn.cell? ⟨w.heap.size + 1 + 1, 0, none⟩ = some (.int .u8 x.kind) := N.out.cell 0; have cN_1 : wn.cell? ⟨w.heap.size + 1 + 1, 1, none⟩ = some (.int .u8 x.a) := N.out.cell 1; have cN_2 : wn.cell? ⟨w.heap.size + 1 + 1, 2, none⟩ = some (.int .u8 x.b) := N.out.cell 2; have cN_3 : wn.cell? ⟨w.heap.size + 1 + 1, 3, none⟩ = some (.int .u8 x.c) := N.out.cell 3; have cN_4 : wn.cell? ⟨w.heap.size + 1 + 1, 4, none⟩ = some (.slice P x.parts.length cp) := N.out.cell 4))
 clear e1 e2 e3 e4 e5 e6 e7
 all_goals
  clear cV_0 cV_2 fV_2 cN_0 cN_1 cN_2 cN_3 cN_4
  obtain ⟨wd1291, hE1292⟩ : ∃ ww, ww = wn.setCell ⟨g1286, 2, none⟩ (.int .i64 (lo + (code : Int) % (hi - lo + 1))) := ⟨_, rfl⟩
  rw [← hE1292]
  replace D := dF D hE1292 (by omega)
  replace R := dF R hE1292 (by omega)
  replace N := dF N hE1292 (by omega)
  replace V : Hid (Has wd1291 (g1286) 34 #[.int .i64 2, .bool false, .int .i64 (lo + (code : Int) % (hi - lo + 1)), .string ⟨#[]⟩, .int .i64 0, .slice none 0 0, .slice none 0 0, .slice none 0 0]) := Lib.hid (by simpa using dS V hE1292)
  replace hw1280 := tF hw1280 hE1292 (by omega)
  clear hE1292
  obtain ⟨cV_0, cV_1, cV_2, cV_3, cV_4, cV_5, cV_6, cV_7⟩ := V.out.c8
  go_upto_region 18 with fail
  go_wp2_with (refine wpList_store_row rfl 34 _ _ rfl (w.heap.size + 1) _ rfl rfl 34 _ R.out (by kernel_rfl) rfl (by simp [Value.oneCell']) ?_)
  clear cV_0 cV_1 cV_2 cV_3 cV_4 cV_5 cV_6 cV_7
  obtain ⟨wd1293, hE1294⟩ : ∃ ww, ww = wd1291.setRow (w.heap.size + 1) #[.int .i64 2, .bool false, .int .i64 (lo + (code : Int) % (hi - lo + 1)), .string ⟨#[]⟩, .int .i64 0, .slice none 0 0, .slice none 0 0, .slice none 0 0] := ⟨_, rfl⟩
  rw [← hE1294]
  replace D := dR D hE1294 (by omega)
  replace N := dR N hE1294 (by omega)
  replace V := dR V hE1294 (by omega)
  replace R := dO R hE1294
  replace hw1280 := tR hw1280 hE1294 (by omega)
  clear hE1294
  obtain ⟨cR_0, cR_1, cR_2, cR_3, cR_4, cR_5, cR_6, cR_7⟩ := R.out.c8
  exact bodyPost_ret (v := .tuple #[.agg #[.int .i64 2, .bool false, .int .i64 (lo + (code : Int) % (hi - lo + 1)), .string ⟨#[]⟩, .int .i64 0, .slice none 0 0, .slice none 0 0, .slice none 0 0], .bool true]) (by simp [results, Try.results61, go_sem, cR_0, cR_1, cR_2, cR_3, cR_4, cR_5, cR_6, cR_7]) rfl (⟨by rw [HN.out]; rfl, hw1280⟩)
set_option maxRecDepth 100000 in
theorem initial4 (xs : List Nod) (vn : Value) (t code : Nat) (w : World) (hc : code < 256) (h5 : 0 < xs.length ∧ xs.length ≤ 5) (ht : t < xs.length) (hk : kindN xs[t] = 4) (hr : RdNods w w.heap.size vn xs) :
  Calls Try.prog 61 #[.agg #[vn], .int .i64 t, .int .u8 code] w fun e w' => e = .returned (.tuple #[valN (initialN xs t code).1, .bool (initialN xs t code).2]) ∧ Below w.heap.size w w' := by
 have hin : initialN xs t code = (.mk 4 false 0 [] ((idsN xs[t]).getD (code % (idsN xs[t]).length) 0) [] [] [], true) := by
  unfold initialN
  rw [List.getElem?_eq_getElem ht]
  simp [hk]
 obtain ⟨A, c, rfl, hcap⟩ := hr.form
 have HR := Lib.hid hr
 have hki := fun W h => kind_any xs (.slice A xs.length c) t W ht h
 rw [hk] at hki
 have HI := Lib.hid hki
 have HN := Lib.hid hin
 obtain ⟨b, o, rfl, hb, hel⟩ := hr.elem h5.1
 obtain ⟨vp, hcs, hn⟩ := hel t ht
 obtain ⟨P, cp, rfl, hcp⟩ := hn.parts.form
 obtain ⟨n0, n1, n2, n3, n4⟩ := hcs
 have ht1 : (t : Int) < xs.length := by omega
 clear hel hr hki hin hk
 have hids := fun W => ids_any xs[t] (.slice P xs[t].parts.length cp) W
 have hil := idsN_pos xs[t]
 have hcc : (code : Int) < 256 := by omega
 unfold IdsPost at hids
 generalize idsN xs[t] = l at *
 have hmr : code % l.length < l.length := Nat.mod_lt _ (by omega)
 have HIDS := Lib.hid hids
 clear hids
 generalize xs[t] = x at *
 go_enter Try.func61, Try.ntmps61
 go_upto_region 2 with fail
 obtain ⟨wd1296, hE1297⟩ : ∃ ww, ww = w.alloc (.cells #[.slice (some ⟨b, o, none⟩) xs.length c] 24) := ⟨_, rfl⟩
 rw [← hE1297]
 have hb1295 := aB hE1297
 have D := aN hE1297
 obtain ⟨wd1298, hE1299⟩ : ∃ ww, ww = wd1296.alloc (.cells #[.int .i64 0, .bool false, .int .i64 0, .string ⟨#[]⟩, .int .i64 0, .slice none 0 0, .slice none 0 0, .slice none 0 0] 34) := ⟨_, rfl⟩
 rw [← hE1299]
 replace D := dB D (aB hE1299)
 replace hb1295 := dT hb1295 (aB hE1299)
 have R := aM hE1299 (aZ hE1297 rfl)
 obtain ⟨wd1300, hE1301⟩ : ∃ ww, ww = wd1298.alloc (.cells #[.int .u8 x.kind, .int .u8 x.a, .int .u8 x.b, .int .u8 x.c, .slice P x.parts.length cp] 74) := ⟨_, rfl⟩
 rw [← hE1301]
 replace D := dB D (aB hE1301)
 replace R := dB R (aB hE1301)
 replace hb1295 := dT hb1295 (aB hE1301)
 have N := aM hE1301 (aZ hE1299 (aZ hE1297 rfl))
 clear hE1297 hE1299 hE1301
 have hw1302 := hb1295
 clear hb1295
 clear n0 n1 n2 n3 n4
 have cD_0 : wd1300.cell? ⟨w.heap.size, 0, none⟩ = some (.slice (some ⟨b, o, none⟩) xs.length c) := D.out.cell 0
 go_wp2_with fail
 clear cD_0
 ((with_reducible refine (HI.out _ (HR.out.on hw1302)).mono ?_); rintro e wd1303 ⟨rfl, hb1304⟩)
 replace D := dB D hb1304
 replace R := dB R hb1304
 replace N := dB N hb1304
 replace hw1302 := dT hw1302 hb1304
 clear hb1304
 go_upto_region 3 with fail
 obtain ⟨wd1306, hE1307⟩ : ∃ ww, ww = wd1303.alloc (.cells #[.int .i64 4, .bool false, .int .i64 0, .string ⟨#[]⟩, .int .i64 0, .slice none 0 0, .slice none 0 0, .slice none 0 0] 34) := ⟨_, rfl⟩
 rw [← hE1307]
 have hb1305 := aB hE1307
 have V := aN hE1307
 clear hE1307
 have hl1309 := D.out.here
 have hl1310 := R.out.here
 have hl1311 := N.out.here
 have hl1312 := hw1302.size
 replace D := dB D hb1305
 replace R := dB R hb1305
 replace N := dB N hb1305
 replace hw1302 := dT hw1302 hb1305
 clear hb1305
 generalize wd1303.heap.size = g1308 at *
 have cV_0 : wd1306.cell? ⟨g1308, 0, none⟩ = some (.int .i64 4) := V.out.cell 0
 have cV_4 : wd1306.cell? ⟨g1308, 4, none⟩ = some (.int .i64 0) := V.out.cell 4
 have fV_4 := V.out.free 4
 go_upto_region 14 with fail
 have e1 : IntKind.i64.wrap (code : Int) = code := IntWalk.i64_in _ (by omega)
 have e4 : ¬ l = [] := by intro h; rw [h] at hil; simp at hil
 obtain ⟨y, hy⟩ : ∃ y, l[code % l.length]? = some y := ⟨l[code % l.length], List.getElem?_eq_getElem hmr⟩
 have HY : Hid ((l.map (Value.int .i64))[((code : Int) % l.length).toNat]? = some (.int .i64 y)) := by show _ = _; rw [show ((code : Int) % l.length).toNat = code % l.length by omega, List.getElem?_map, hy]; rfl
 have HY2 : Hid (l.getD (code % l.length) 0 = y) := by show _ = _; rw [List.getD_eq_getElem?_getD, hy]; rfl
 clear hy
 have e5 : (code : Int).tmod l.length = (code : Int) % l.length := Int.tmod_eq_emod_of_nonneg (by omega)
 have e6 : 0 ≤ (code : Int) % l.length := Int.emod_nonneg _ (by omega)
 have e7 : (code : Int) % l.length < l.length := Int.emod_lt_of_pos _ (by omega)
 have cN_0 : wd1306.cell? ⟨w.heap.size + 1 + 1, 0, none⟩ = some (.int .u8 x.kind) := N.out.cell 0
 have cN_1 : wd1306.cell? ⟨w.heap.size + 1 + 1, 1, none⟩ = some (.int .u8 x.a) := N.out.cell 1
 have cN_2 : wd1306.cell? ⟨w.heap.size + 1 + 1, 2, none⟩ = some (.int .u8 x.b) := N.out.cell 2
 have cN_3 : wd1306.cell? ⟨w.heap.size + 1 + 1, 3, none⟩ = some (.int .u8 x.c) := N.out.cell 3
 have cN_4 : wd1306.cell? ⟨w.heap.size + 1 + 1, 4, none⟩ = some (.slice P x.parts.length cp) := N.out.cell 4
 go_region_with
  (first
   | (go_at_call 37; (first | (with_reducible refine (HIDS.out _).mono ?_)); rintro e wn ⟨vi, rfl, hown, hbn⟩; obtain ⟨gi, ci, rfl, hgb, hgl, hgc, hcell⟩ := own_pos hown (by omega); (try (have hfirst := (hbn.cell (p := ⟨_, ((code : Int) % l.length).toNat, none⟩) hgA).trans hcA)); have hgA := hgl; have hcA := hcell _ _ HY.out; clear hcell hgl hgb hown; have D : Hid (Has wn (w.heap.size) 24 #[.slice (some ⟨b, o, none⟩) xs.length c]) := Lib.hid (by first | exact D.out.below hbn D.out.here | exact D.out.drew.below hbn D.out.here); have R : Hid (Has wn (w.heap.size + 1) 34 #[.int .i64 0, .bool false, .int .i64 0, .string ⟨#[]⟩, .int .i64 0, .slice none 0 0, .slice none 0 0, .slice none 0 0]) := Lib.hid (by first | exact R.out.below hbn R.out.here | exact R.out.drew.below hbn R.out.here); have N : Hid (Has wn (w.heap.size + 1 + 1) 74 #[.int .u8 x.kind, .int .u8 x.a, .int .u8 x.b, .int .u8 x.c, .slice P x.parts.length cp]) := Lib.hid (by first | exact N.out.below hbn N.out.here | exact N.out.drew.below hbn N.out.here); have V : Hid (Has wn (g1308) 34 #[.int .i64 4, .bool false, .int .i64 0, .string ⟨#[]⟩, .int .i64 0, .slice none 0 0, .slice none 0 0, .slice none 0 0]) := Lib.hid (by first | exact V.out.below hbn V.out.here | exact V.out.drew.below hbn V.out.here); have hw1302 : Below w.heap.size w wn := (by first | exact hw1302.trans (hbn.mono hw1302.size) | exact (hw1302.drew).trans (hbn.mono hw1302.size)); have cV_0 : wn.cell? ⟨g1308, 0, none⟩ = some (.int .i64 4) := V.out.cell 0; have cV_4 : wn.cell? ⟨g1308, 4, none⟩ = some (.int .i64 0) := V.out.cell 4; have fV_4 : wn.frozen? ⟨g1308, 4, none⟩ = false := V.out.free 4; have cN_0 : wn.cell? ⟨w.heap.size + 1 + 1, 0, none⟩ = some (.int .u8 x.kind) := N.out.cell 0; have cN_1 : wn.cell? ⟨w.heap.size + 1 + 1, 1, none⟩ = some (.int .u8 x.a) := N.out.cell 1; have cN_2 : wn.cell? ⟨w.heap.size + 1 + 1, 2, none⟩ = some (.int .u8 x.b) := N.out.cell 2; have cN_3 : wn.cell? ⟨w.heap.size + 1 + 1, 3, none⟩ = some (.int .u8 x.c) := N.out.cell 3; have cN_4 : wn.cell? ⟨w.heap.size + 1 + 1, 4, none⟩ = some (.slice P x.parts.length cp) := N.out.cell 4))
 clear e1 e4 e5 e6 e7
 all_goals
  clear cV_0 cV_4 fV_4 cN_0 cN_1 cN_2 cN_3 cN_4
  obtain ⟨wd1313, hE1314⟩ : ∃ ww, ww = wn.setCell ⟨g1308, 4, none⟩ (.int .i64 y) := ⟨_, rfl⟩
  rw [← hE1314]
  replace D := dF D hE1314 (by omega)
  replace R := dF R hE1314 (by omega)
  replace N := dF N hE1314 (by omega)
  replace V : Hid (Has wd1313 (g1308) 34 #[.int .i64 4, .bool false, .int .i64 0, .string ⟨#[]⟩, .int .i64 y, .slice none 0 0, .slice none 0 0, .slice none 0 0]) := Lib.hid (by simpa using dS V hE1314)
  replace hw1302 := tF hw1302 hE1314 (by omega)
  clear hE1314
  rw [HY2.out] at HN
  obtain ⟨cV_0, cV_1, cV_2, cV_3, cV_4, cV_5, cV_6, cV_7⟩ := V.out.c8
  go_upto_region 18 with fail
  go_wp2_with (refine wpList_store_row rfl 34 _ _ rfl (w.heap.size + 1) _ rfl rfl 34 _ R.out (by kernel_rfl) rfl (by simp [Value.oneCell']) ?_)
  clear cV_0 cV_1 cV_2 cV_3 cV_4 cV_5 cV_6 cV_7
  obtain ⟨wd1315, hE1316⟩ : ∃ ww, ww = wd1313.setRow (w.heap.size + 1) #[.int .i64 4, .bool false, .int .i64 0, .string ⟨#[]⟩, .int .i64 y, .slice none 0 0, .slice none 0 0, .slice none 0 0] := ⟨_, rfl⟩
  rw [← hE1316]
  replace D := dR D hE1316 (by omega)
  replace N := dR N hE1316 (by omega)
  replace V := dR V hE1316 (by omega)
  replace R := dO R hE1316
  replace hw1302 := tR hw1302 hE1316 (by omega)
  clear hE1316
  obtain ⟨cR_0, cR_1, cR_2, cR_3, cR_4, cR_5, cR_6, cR_7⟩ := R.out.c8
  exact bodyPost_ret (v := .tuple #[.agg #[.int .i64 4, .bool false, .int .i64 0, .string ⟨#[]⟩, .int .i64 y, .slice none 0 0, .slice none 0 0, .slice none 0 0], .bool true]) (by simp [results, Try.results61, go_sem, cR_0, cR_1, cR_2, cR_3, cR_4, cR_5, cR_6, cR_7]) rfl (⟨by rw [HN.out]; rfl, hw1302⟩)
end Go.Proofs.Ytgeapglanckjpaa

/- Decode, Explain, Accepts. No condition. -/
import Derived.Test.YtccmmibkihbobaaDoorDecT
set_option maxHeartbeats 1600000
namespace Go.Proofs.YtccmmibkihbobaaDoor
open Go.ChangeShapes Go.WideShapes Go.ChangeAt Go.RowKit
def DecodePost (w : World) (r : Except Int Res) (e : Ending) (w' : World) : Prop := Below w.heap.size w w' ∧ match r with
 | .error er => e = .returned (.tuple #[zero8, .int .i64 er])
 | .ok (.ok v) => ∃ vk vi vr, e = .returned (.tuple #[valA v vk vi vr, .int .i64 0]) ∧ ValP w' (NewB w w') v vk vi vr
 | .ok (.error _) => e = .returned (.tuple #[zero8, .int .i64 12])
def ExplPost (w : World) (r : Except Int Res) (e : Ending) (w' : World) : Prop := Below w.heap.size w w' ∧ match r with
 | .error er => e = .returned (.tuple #[.agg #[.slice none 0 0, .int .i64 0], .int .i64 er])
 | .ok (.ok _) => e = .returned (.tuple #[.agg #[.slice none 0 0, .int .i64 0], .int .i64 15])
 | .ok (.error (p, n)) => ∃ fp, e = .returned (.tuple #[.agg #[fp, .int .i64 n], .int .i64 0]) ∧ w'.ownsRow w.heap.size 3 1 fp p.length (p.map V64i)
def ValB (L B : Nat) (v : Val) (vk vi vr : Value) (W : World) : Prop := ∃ S : Nat → Prop, ValP W S v vk vi vr ∧ ∀ k, S k → L ≤ k ∧ k < B
theorem Kept.valB {w0 W : World} {v : Val} {vk vi vr : Value} {L B : Nat} (h : ValP W (NewB w0 W) v vk vi vr) (hL : L = w0.heap.size) (hB : B = W.heap.size) : Kept (ValB L B v vk vi vr) W L B := by
 subst hL; subst hB
 exact ⟨⟨_, h, fun k h => h⟩, fun _ hk => ⟨_, h.keep (fun p hp => World.cell?_of_block (hk p.block hp.1 hp.2)) (fun _ h => h), fun k h => h⟩, Nat.le_refl _⟩
theorem ValB.newB {w W : World} {v : Val} {vk vi vr : Value} {L B : Nat} (h : ValB L B v vk vi vr W) (hL : w.heap.size ≤ L) (hB : B ≤ W.heap.size) : ValP W (NewB w W) v vk vi vr := by
 obtain ⟨S, h1, h2⟩ := h
 exact h1.keep (fun _ _ => rfl) fun k hk => ⟨Nat.le_trans hL (h2 k hk).1, Nat.lt_of_lt_of_le (h2 k hk).2 hB⟩
def okR : Except Int Res → Bool
 | .ok (.ok _) => true
 | _ => false
/- the two results behind the call of read, laid in blocks of their own -/
set_option maxRecDepth 100000 in
theorem decode_any (ts : List Typ) (A : Option Addr) (c : Nat) (t : Int) (m : List UInt8) (w : World) (hs : Sizes ts) (hT : RdTyps w w.heap.size (.slice A ts.length c) ts) :
  Calls Tryd.prog 11 #[.agg #[.slice A ts.length c], .int .i64 t, .string ⟨m.toArray⟩] w (DecodePost w (readE ts t m)) := by
 have HT := Lib.hid hT
 have HRd := Lib.hid (fun W h => read_any ts A c t m W hs h)
 generalize readE ts t m = r at *
 clear hT hs
 go_enter Tryd.func11, Tryd.ntmps11
 go_upto_region 1 with fail
 obtain ⟨wd2, hE3⟩ : ∃ ww, ww = w.alloc (.cells #[.slice A ts.length c] 36) := ⟨_, rfl⟩
 rw [← hE3]
 have hb1 := aB hE3
 have S := aN hE3
 obtain ⟨wd4, hE5⟩ : ∃ ww, ww = wd2.alloc (.cells #[.int .i64 0, .bool false, .int .i64 0, .string ⟨#[]⟩, .int .i64 0, .slice none 0 0, .slice none 0 0, .slice none 0 0] 45) := ⟨_, rfl⟩
 rw [← hE5]
 replace S := dB S (aB hE5)
 replace hb1 := dT hb1 (aB hE5)
 have Z := aM hE5 (aZ hE3 rfl)
 clear hE3 hE5
 have hw6 := hb1
 clear hb1
 have cS_0 : wd4.cell? ⟨w.heap.size, 0, none⟩ = some (.slice A ts.length c) := S.out.cell 0
 rcases r with er | ⟨⟨p, n⟩ | v⟩
 ·
  go_wp2_with fail
  clear cS_0
  ((with_reducible refine (HRd.out _ (HT.out.on hw6)).mono ?_); rintro e wd7 ⟨hb8, rfl⟩)
  replace S := dB S hb8
  replace Z := dB Z hb8
  replace hw6 := dT hw6 hb8
  clear hb8
  simp only [zero8]
  have MV : Has ((wd7.alloc (.cells #[.int .i64 0, .bool false, .int .i64 0, .string ⟨#[]⟩, .int .i64 0, .slice none 0 0, .slice none 0 0, .slice none 0 0] 45)).alloc (.cells #[.slice none 0 0, .int .i64 0] 26)) wd7.heap.size 45 #[.int .i64 0, .bool false, .int .i64 0, .string ⟨#[]⟩, .int .i64 0, .slice none 0 0, .slice none 0 0, .slice none 0 0] := (Has.made _ _ _).alloc _
  have MF : Has (((wd7.alloc (.cells #[.int .i64 0, .bool false, .int .i64 0, .string ⟨#[]⟩, .int .i64 0, .slice none 0 0, .slice none 0 0, .slice none 0 0] 45)).alloc (.cells #[.slice none 0 0, .int .i64 0] 26)).setRow wd7.heap.size #[.int .i64 0, .bool false, .int .i64 0, .string ⟨#[]⟩, .int .i64 0, .slice none 0 0, .slice none 0 0, .slice none 0 0]) (wd7.heap.size + 1) 26 #[.slice none 0 0, .int .i64 0] := has_row (by
   have h := Has.made (wd7.alloc (.cells #[.int .i64 0, .bool false, .int .i64 0, .string ⟨#[]⟩, .int .i64 0, .slice none 0 0, .slice none 0 0, .slice none 0 0] 45)) 26 #[.slice none 0 0, .int .i64 0]
   rwa [alloc_hz] at h) (by omega)
  go_upto_region 2 with (first | (refine wpList_store_row rfl 45 _ _ rfl wd7.heap.size _ rfl rfl 45 _ MV (by kernel_rfl) rfl (by simp [Value.oneCell']) ?_) | (refine wpList_store_row rfl 26 _ _ rfl (wd7.heap.size + 1) _ rfl rfl 26 _ MF (by kernel_rfl) rfl (by simp [Value.oneCell']) ?_))
  clear MV MF
  obtain ⟨wd10, hE11⟩ : ∃ ww, ww = wd7.alloc (.cells #[.int .i64 0, .bool false, .int .i64 0, .string ⟨#[]⟩, .int .i64 0, .slice none 0 0, .slice none 0 0, .slice none 0 0] 45) := ⟨_, rfl⟩
  rw [← hE11]
  have hb9 := aB hE11
  have V := aN hE11
  obtain ⟨wd12, hE13⟩ : ∃ ww, ww = wd10.alloc (.cells #[.slice none 0 0, .int .i64 0] 26) := ⟨_, rfl⟩
  rw [← hE13]
  replace V := dB V (aB hE13)
  replace hb9 := dT hb9 (aB hE13)
  have F := aM hE13 (aZ hE11 rfl)
  clear hE11 hE13
  have hl15 := S.out.here
  have hl16 := Z.out.here
  have hl17 := hw6.size
  replace S := dB S hb9
  replace Z := dB Z hb9
  replace hw6 := dT hw6 hb9
  clear hb9
  generalize wd7.heap.size = g14 at *
  obtain ⟨wd18, hE19⟩ : ∃ ww, ww = wd12.setRow (g14) #[.int .i64 0, .bool false, .int .i64 0, .string ⟨#[]⟩, .int .i64 0, .slice none 0 0, .slice none 0 0, .slice none 0 0] := ⟨_, rfl⟩
  rw [← hE19]
  replace S := dR S hE19 (by omega)
  replace Z := dR Z hE19 (by omega)
  replace F := dR F hE19 (by omega)
  replace V := dO V hE19
  replace hw6 := tR hw6 hE19 (by omega)
  clear hE19
  obtain ⟨wd20, hE21⟩ : ∃ ww, ww = wd18.setRow (g14 + 1) #[.slice none 0 0, .int .i64 0] := ⟨_, rfl⟩
  rw [← hE21]
  replace S := dR S hE21 (by omega)
  replace Z := dR Z hE21 (by omega)
  replace V := dR V hE21 (by omega)
  replace F := dO F hE21
  replace hw6 := tR hw6 hE21 (by omega)
  clear hE21
  obtain ⟨cV_0, cV_1, cV_2, cV_3, cV_4, cV_5, cV_6, cV_7⟩ := V.out.c8
  go_wp2_with (refine wpList_store_row rfl 45 _ _ rfl (w.heap.size + 1) _ rfl rfl 45 _ Z.out (by kernel_rfl) rfl (by first | assumption | simp [Value.oneCell']) ?_)
  clear cV_0 cV_1 cV_2 cV_3 cV_4 cV_5 cV_6 cV_7
  obtain ⟨wd22, hE23⟩ : ∃ ww, ww = wd20.setRow (w.heap.size + 1) #[.int .i64 0, .bool false, .int .i64 0, .string ⟨#[]⟩, .int .i64 0, .slice none 0 0, .slice none 0 0, .slice none 0 0] := ⟨_, rfl⟩
  rw [← hE23]
  replace S := dR S hE23 (by omega)
  replace V := dR V hE23 (by omega)
  replace F := dR F hE23 (by omega)
  replace Z := dO Z hE23
  replace hw6 := tR hw6 hE23 (by omega)
  clear hE23
  obtain ⟨cZ_0, cZ_1, cZ_2, cZ_3, cZ_4, cZ_5, cZ_6, cZ_7⟩ := Z.out.c8
  exact bodyPost_ret (v := .tuple #[.agg #[.int .i64 0, .bool false, .int .i64 0, .string ⟨#[]⟩, .int .i64 0, .slice none 0 0, .slice none 0 0, .slice none 0 0], .int .i64 er]) (by simp [results, Tryd.results11, go_sem, cZ_0, cZ_1, cZ_2, cZ_3, cZ_4, cZ_5, cZ_6, cZ_7]) rfl (⟨hw6, rfl⟩)
 ·
  go_wp2_with fail
  clear cS_0
  ((with_reducible refine (HRd.out _ (HT.out.on hw6)).mono ?_); rintro e wd24 ⟨hb25, fp, rfl, hown⟩)
  replace S := dB S hb25
  replace Z := dB Z hb25
  replace hw6 := dT hw6 hb25
  clear hb25
  obtain ⟨Af, cf, rfl⟩ := own_form hown
  clear hown
  simp only [zero8]
  have MV : Has ((wd24.alloc (.cells #[.int .i64 0, .bool false, .int .i64 0, .string ⟨#[]⟩, .int .i64 0, .slice none 0 0, .slice none 0 0, .slice none 0 0] 45)).alloc (.cells #[.slice none 0 0, .int .i64 0] 26)) wd24.heap.size 45 #[.int .i64 0, .bool false, .int .i64 0, .string ⟨#[]⟩, .int .i64 0, .slice none 0 0, .slice none 0 0, .slice none 0 0] := (Has.made _ _ _).alloc _
  have MF : Has (((wd24.alloc (.cells #[.int .i64 0, .bool false, .int .i64 0, .string ⟨#[]⟩, .int .i64 0, .slice none 0 0, .slice none 0 0, .slice none 0 0] 45)).alloc (.cells #[.slice none 0 0, .int .i64 0] 26)).setRow wd24.heap.size #[.int .i64 0, .bool false, .int .i64 0, .string ⟨#[]⟩, .int .i64 0, .slice none 0 0, .slice none 0 0, .slice none 0 0]) (wd24.heap.size + 1) 26 #[.slice none 0 0, .int .i64 0] := has_row (by
   have h := Has.made (wd24.alloc (.cells #[.int .i64 0, .bool false, .int .i64 0, .string ⟨#[]⟩, .int .i64 0, .slice none 0 0, .slice none 0 0, .slice none 0 0] 45)) 26 #[.slice none 0 0, .int .i64 0]
   rwa [alloc_hz] at h) (by omega)
  go_upto_region 2 with (first | (refine wpList_store_row rfl 45 _ _ rfl wd24.heap.size _ rfl rfl 45 _ MV (by kernel_rfl) rfl (by simp [Value.oneCell']) ?_) | (refine wpList_store_row rfl 26 _ _ rfl (wd24.heap.size + 1) _ rfl rfl 26 _ MF (by kernel_rfl) rfl (by simp [Value.oneCell']) ?_))
  clear MV MF
  obtain ⟨wd27, hE28⟩ : ∃ ww, ww = wd24.alloc (.cells #[.int .i64 0, .bool false, .int .i64 0, .string ⟨#[]⟩, .int .i64 0, .slice none 0 0, .slice none 0 0, .slice none 0 0] 45) := ⟨_, rfl⟩
  rw [← hE28]
  have hb26 := aB hE28
  have V := aN hE28
  obtain ⟨wd29, hE30⟩ : ∃ ww, ww = wd27.alloc (.cells #[.slice none 0 0, .int .i64 0] 26) := ⟨_, rfl⟩
  rw [← hE30]
  replace V := dB V (aB hE30)
  replace hb26 := dT hb26 (aB hE30)
  have F := aM hE30 (aZ hE28 rfl)
  clear hE28 hE30
  have hl32 := S.out.here
  have hl33 := Z.out.here
  have hl34 := hw6.size
  replace S := dB S hb26
  replace Z := dB Z hb26
  replace hw6 := dT hw6 hb26
  clear hb26
  generalize wd24.heap.size = g31 at *
  obtain ⟨wd35, hE36⟩ : ∃ ww, ww = wd29.setRow (g31) #[.int .i64 0, .bool false, .int .i64 0, .string ⟨#[]⟩, .int .i64 0, .slice none 0 0, .slice none 0 0, .slice none 0 0] := ⟨_, rfl⟩
  rw [← hE36]
  replace S := dR S hE36 (by omega)
  replace Z := dR Z hE36 (by omega)
  replace F := dR F hE36 (by omega)
  replace V := dO V hE36
  replace hw6 := tR hw6 hE36 (by omega)
  clear hE36
  obtain ⟨wd37, hE38⟩ : ∃ ww, ww = wd35.setRow (g31 + 1) #[.slice Af p.length cf, .int .i64 n] := ⟨_, rfl⟩
  rw [← hE38]
  replace S := dR S hE38 (by omega)
  replace Z := dR Z hE38 (by omega)
  replace V := dR V hE38 (by omega)
  replace F := dO F hE38
  replace hw6 := tR hw6 hE38 (by omega)
  clear hE38
  obtain ⟨cV_0, cV_1, cV_2, cV_3, cV_4, cV_5, cV_6, cV_7⟩ := V.out.c8
  go_wp2_with (refine wpList_store_row rfl 45 _ _ rfl (w.heap.size + 1) _ rfl rfl 45 _ Z.out (by kernel_rfl) rfl (by first | assumption | simp [Value.oneCell']) ?_)
  clear cV_0 cV_1 cV_2 cV_3 cV_4 cV_5 cV_6 cV_7
  obtain ⟨wd39, hE40⟩ : ∃ ww, ww = wd37.setRow (w.heap.size + 1) #[.int .i64 0, .bool false, .int .i64 0, .string ⟨#[]⟩, .int .i64 0, .slice none 0 0, .slice none 0 0, .slice none 0 0] := ⟨_, rfl⟩
  rw [← hE40]
  replace S := dR S hE40 (by omega)
  replace V := dR V hE40 (by omega)
  replace F := dR F hE40 (by omega)
  replace Z := dO Z hE40
  replace hw6 := tR hw6 hE40 (by omega)
  clear hE40
  obtain ⟨cZ_0, cZ_1, cZ_2, cZ_3, cZ_4, cZ_5, cZ_6, cZ_7⟩ := Z.out.c8
  exact bodyPost_ret (v := .tuple #[.agg #[.int .i64 0, .bool false, .int .i64 0, .string ⟨#[]⟩, .int .i64 0, .slice none 0 0, .slice none 0 0, .slice none 0 0], .int .i64 12]) (by simp [results, Tryd.results11, go_sem, cZ_0, cZ_1, cZ_2, cZ_3, cZ_4, cZ_5, cZ_6, cZ_7]) rfl (⟨hw6, rfl⟩)
 obtain ⟨LX, hLX⟩ : ∃ n, n = (wd4).heap.size := ⟨_, rfl⟩
 have hzl := Z.out.here
 rw [← hLX] at hzl
 go_wp2_with fail
 clear cS_0
 ((with_reducible refine (HRd.out _ (HT.out.on hw6)).mono ?_); rintro e wd41 ⟨hb42, vk, vi, vr, rfl, hv⟩)
 replace S := dB S hb42
 replace Z := dB Z hb42
 replace hw6 := dT hw6 hb42
 clear hb42
 obtain ⟨A1, n1, A2, n2, A3, n3, rfl, rfl, rfl⟩ : ∃ A1 n1 A2 n2 A3 n3, vk = .slice A1 v.keys.length n1 ∧ vi = .slice A2 v.items.length n2 ∧ vr = .slice A3 v.rest.length n3 := by
  obtain ⟨_, ⟨A1, n1, h1, _⟩, _⟩ := hv.keys
  obtain ⟨_, ⟨A2, n2, h2, _⟩, _⟩ := hv.items
  obtain ⟨_, A3, n3, h3, _⟩ := hv.rest
  exact ⟨A1, n1, A2, n2, A3, n3, h1, h2, h3⟩
 obtain ⟨BX, hBX⟩ : ∃ n, n = (wd41).heap.size := ⟨_, rfl⟩
 have N := Lib.hid (Kept.valB hv hLX hBX)
 clear hv hLX hBX
 simp only [valA]
 have MV : Has ((wd41.alloc (.cells #[.int .i64 0, .bool false, .int .i64 0, .string ⟨#[]⟩, .int .i64 0, .slice none 0 0, .slice none 0 0, .slice none 0 0] 45)).alloc (.cells #[.slice none 0 0, .int .i64 0] 26)) wd41.heap.size 45 #[.int .i64 0, .bool false, .int .i64 0, .string ⟨#[]⟩, .int .i64 0, .slice none 0 0, .slice none 0 0, .slice none 0 0] := (Has.made _ _ _).alloc _
 have MF : Has (((wd41.alloc (.cells #[.int .i64 0, .bool false, .int .i64 0, .string ⟨#[]⟩, .int .i64 0, .slice none 0 0, .slice none 0 0, .slice none 0 0] 45)).alloc (.cells #[.slice none 0 0, .int .i64 0] 26)).setRow wd41.heap.size #[.int .i64 v.kind, .bool v.bool, .int .i64 v.num, .string ⟨v.str.toArray⟩, .int .i64 v.id, .slice A1 v.keys.length n1, .slice A2 v.items.length n2, .slice A3 v.rest.length n3]) (wd41.heap.size + 1) 26 #[.slice none 0 0, .int .i64 0] := has_row (by
  have h := Has.made (wd41.alloc (.cells #[.int .i64 0, .bool false, .int .i64 0, .string ⟨#[]⟩, .int .i64 0, .slice none 0 0, .slice none 0 0, .slice none 0 0] 45)) 26 #[.slice none 0 0, .int .i64 0]
  rwa [alloc_hz] at h) (by omega)
 go_upto_region 2 with (first | (refine wpList_store_row rfl 45 _ _ rfl wd41.heap.size _ rfl rfl 45 _ MV (by kernel_rfl) rfl (by simp [Value.oneCell']) ?_) | (refine wpList_store_row rfl 26 _ _ rfl (wd41.heap.size + 1) _ rfl rfl 26 _ MF (by kernel_rfl) rfl (by simp [Value.oneCell']) ?_))
 clear MV MF
 obtain ⟨wd44, hE45⟩ : ∃ ww, ww = wd41.alloc (.cells #[.int .i64 0, .bool false, .int .i64 0, .string ⟨#[]⟩, .int .i64 0, .slice none 0 0, .slice none 0 0, .slice none 0 0] 45) := ⟨_, rfl⟩
 rw [← hE45]
 have hb43 := aB hE45
 have V := aN hE45
 obtain ⟨wd46, hE47⟩ : ∃ ww, ww = wd44.alloc (.cells #[.slice none 0 0, .int .i64 0] 26) := ⟨_, rfl⟩
 rw [← hE47]
 replace V := dB V (aB hE47)
 replace hb43 := dT hb43 (aB hE47)
 have F := aM hE47 (aZ hE45 rfl)
 clear hE45 hE47
 have hl49 := S.out.here
 have hl50 := Z.out.here
 have hl51 := N.out.le
 have hl52 := hw6.size
 replace S := dB S hb43
 replace Z := dB Z hb43
 replace N := dK N hb43
 replace hw6 := dT hw6 hb43
 clear hb43
 generalize wd41.heap.size = g48 at *
 obtain ⟨wd53, hE54⟩ : ∃ ww, ww = wd46.setRow (g48) #[.int .i64 v.kind, .bool v.bool, .int .i64 v.num, .string ⟨v.str.toArray⟩, .int .i64 v.id, .slice A1 v.keys.length n1, .slice A2 v.items.length n2, .slice A3 v.rest.length n3] := ⟨_, rfl⟩
 rw [← hE54]
 replace S := dR S hE54 (by omega)
 replace Z := dR Z hE54 (by omega)
 replace F := dR F hE54 (by omega)
 replace V := dO V hE54
 replace N := kR N hE54 (by omega)
 replace hw6 := tR hw6 hE54 (by omega)
 clear hE54
 obtain ⟨wd55, hE56⟩ : ∃ ww, ww = wd53.setRow (g48 + 1) #[.slice none 0 0, .int .i64 0] := ⟨_, rfl⟩
 rw [← hE56]
 replace S := dR S hE56 (by omega)
 replace Z := dR Z hE56 (by omega)
 replace V := dR V hE56 (by omega)
 replace F := dO F hE56
 replace N := kR N hE56 (by omega)
 replace hw6 := tR hw6 hE56 (by omega)
 clear hE56
 obtain ⟨cV_0, cV_1, cV_2, cV_3, cV_4, cV_5, cV_6, cV_7⟩ := V.out.c8
 go_wp2_with (refine wpList_store_row rfl 45 _ _ rfl (w.heap.size + 1) _ rfl rfl 45 _ Z.out (by kernel_rfl) rfl (by first | assumption | simp [Value.oneCell']) ?_)
 clear cV_0 cV_1 cV_2 cV_3 cV_4 cV_5 cV_6 cV_7
 obtain ⟨wd57, hE58⟩ : ∃ ww, ww = wd55.setRow (w.heap.size + 1) #[.int .i64 v.kind, .bool v.bool, .int .i64 v.num, .string ⟨v.str.toArray⟩, .int .i64 v.id, .slice A1 v.keys.length n1, .slice A2 v.items.length n2, .slice A3 v.rest.length n3] := ⟨_, rfl⟩
 rw [← hE58]
 replace S := dR S hE58 (by omega)
 replace V := dR V hE58 (by omega)
 replace F := dR F hE58 (by omega)
 replace Z := dO Z hE58
 replace N := kR N hE58 (by omega)
 replace hw6 := tR hw6 hE58 (by omega)
 clear hE58
 have hle := N.out.le
 obtain ⟨cZ_0, cZ_1, cZ_2, cZ_3, cZ_4, cZ_5, cZ_6, cZ_7⟩ := Z.out.c8
 exact bodyPost_ret (v := .tuple #[.agg #[.int .i64 v.kind, .bool v.bool, .int .i64 v.num, .string ⟨v.str.toArray⟩, .int .i64 v.id, .slice A1 v.keys.length n1, .slice A2 v.items.length n2, .slice A3 v.rest.length n3], .int .i64 0]) (by simp [results, Tryd.results11, go_sem, cZ_0, cZ_1, cZ_2, cZ_3, cZ_4, cZ_5, cZ_6, cZ_7]) rfl (⟨hw6, _, _, _, rfl, N.out.now.newB (by omega) hle⟩)
theorem validK_vals (ts : List Typ) : ∀ (l : List Typ) (S : List (List UInt8)), validK ts l S = 0 ∨ validK ts l S = 1 ∨ validK ts l S = 4
 | [], _ => .inl rfl
 | x :: r, S => by
  rw [validK]
  split
  ·
   exact .inr (.inl rfl)
  split
  ·
   exact .inr (.inr rfl)
  split
  ·
   exact .inr (.inl rfl)
  exact validK_vals ts r _
theorem readE_err {ts : List Typ} {t : Int} {m : List UInt8} {er : Int} (h : readE ts t m = .error er) : er = 1 ∨ er = 3 ∨ er = 4 := by
 unfold readE at h
 split at h
 ·
  rename_i hv
  injection h with h; subst h
  unfold validE at hv ⊢
  split
  ·
   exact .inr (.inl rfl)
  rename_i h32
  rw [if_neg h32] at hv
  rcases validK_vals ts ts [] with h | h | h
  ·
   exact absurd h hv
  ·
   exact .inl h
  exact .inr (.inr h)
 split at h
 ·
  injection h with h; subst h; exact .inr (.inr rfl)
 split at h <;> cases h
set_option maxRecDepth 100000 in
theorem explain_any (ts : List Typ) (A : Option Addr) (c : Nat) (t : Int) (m : List UInt8) (w : World) (hs : Sizes ts) (hT : RdTyps w w.heap.size (.slice A ts.length c) ts) :
  Calls Tryd.prog 9 #[.agg #[.slice A ts.length c], .int .i64 t, .string ⟨m.toArray⟩] w (ExplPost w (readE ts t m)) := by
 have hre := fun er h => readE_err (ts := ts) (t := t) (m := m) (er := er) h
 have HT := Lib.hid hT
 have HRd := Lib.hid (fun W h => read_any ts A c t m W hs h)
 generalize readE ts t m = r at *
 clear hT hs
 go_enter Tryd.func9, Tryd.ntmps9
 go_upto_region 1 with fail
 obtain ⟨wd60, hE61⟩ : ∃ ww, ww = w.alloc (.cells #[.slice A ts.length c] 36) := ⟨_, rfl⟩
 rw [← hE61]
 have hb59 := aB hE61
 have S := aN hE61
 obtain ⟨wd62, hE63⟩ : ∃ ww, ww = wd60.alloc (.cells #[.slice none 0 0, .int .i64 0] 26) := ⟨_, rfl⟩
 rw [← hE63]
 replace S := dB S (aB hE63)
 replace hb59 := dT hb59 (aB hE63)
 have Z := aM hE63 (aZ hE61 rfl)
 clear hE61 hE63
 have hw64 := hb59
 clear hb59
 have cS_0 : wd62.cell? ⟨w.heap.size, 0, none⟩ = some (.slice A ts.length c) := S.out.cell 0
 rcases r with er | ⟨⟨p, n⟩ | v⟩
 ·
  have her := hre er rfl
  have he1 : ¬ er = 0 := by omega
  have he2 : ¬ er = 12 := by omega
  clear hre her
  go_wp2_with fail
  clear cS_0
  ((with_reducible refine (HRd.out _ (HT.out.on hw64)).mono ?_); rintro e wd65 ⟨hb66, rfl⟩)
  replace S := dB S hb66
  replace Z := dB Z hb66
  replace hw64 := dT hw64 hb66
  clear hb66
  simp only [zero8]
  have MV : Has ((wd65.alloc (.cells #[.int .i64 0, .bool false, .int .i64 0, .string ⟨#[]⟩, .int .i64 0, .slice none 0 0, .slice none 0 0, .slice none 0 0] 45)).alloc (.cells #[.slice none 0 0, .int .i64 0] 26)) wd65.heap.size 45 #[.int .i64 0, .bool false, .int .i64 0, .string ⟨#[]⟩, .int .i64 0, .slice none 0 0, .slice none 0 0, .slice none 0 0] := (Has.made _ _ _).alloc _
  have MF : Has (((wd65.alloc (.cells #[.int .i64 0, .bool false, .int .i64 0, .string ⟨#[]⟩, .int .i64 0, .slice none 0 0, .slice none 0 0, .slice none 0 0] 45)).alloc (.cells #[.slice none 0 0, .int .i64 0] 26)).setRow wd65.heap.size #[.int .i64 0, .bool false, .int .i64 0, .string ⟨#[]⟩, .int .i64 0, .slice none 0 0, .slice none 0 0, .slice none 0 0]) (wd65.heap.size + 1) 26 #[.slice none 0 0, .int .i64 0] := has_row (by
   have h := Has.made (wd65.alloc (.cells #[.int .i64 0, .bool false, .int .i64 0, .string ⟨#[]⟩, .int .i64 0, .slice none 0 0, .slice none 0 0, .slice none 0 0] 45)) 26 #[.slice none 0 0, .int .i64 0]
   rwa [alloc_hz] at h) (by omega)
  go_upto_region 2 with (first | (refine wpList_store_row rfl 45 _ _ rfl wd65.heap.size _ rfl rfl 45 _ MV (by kernel_rfl) rfl (by simp [Value.oneCell']) ?_) | (refine wpList_store_row rfl 26 _ _ rfl (wd65.heap.size + 1) _ rfl rfl 26 _ MF (by kernel_rfl) rfl (by simp [Value.oneCell']) ?_))
  clear MV MF
  obtain ⟨wd68, hE69⟩ : ∃ ww, ww = wd65.alloc (.cells #[.int .i64 0, .bool false, .int .i64 0, .string ⟨#[]⟩, .int .i64 0, .slice none 0 0, .slice none 0 0, .slice none 0 0] 45) := ⟨_, rfl⟩
  rw [← hE69]
  have hb67 := aB hE69
  have V := aN hE69
  obtain ⟨wd70, hE71⟩ : ∃ ww, ww = wd68.alloc (.cells #[.slice none 0 0, .int .i64 0] 26) := ⟨_, rfl⟩
  rw [← hE71]
  replace V := dB V (aB hE71)
  replace hb67 := dT hb67 (aB hE71)
  have F := aM hE71 (aZ hE69 rfl)
  clear hE69 hE71
  have hl73 := S.out.here
  have hl74 := Z.out.here
  have hl75 := hw64.size
  replace S := dB S hb67
  replace Z := dB Z hb67
  replace hw64 := dT hw64 hb67
  clear hb67
  generalize wd65.heap.size = g72 at *
  obtain ⟨wd76, hE77⟩ : ∃ ww, ww = wd70.setRow (g72) #[.int .i64 0, .bool false, .int .i64 0, .string ⟨#[]⟩, .int .i64 0, .slice none 0 0, .slice none 0 0, .slice none 0 0] := ⟨_, rfl⟩
  rw [← hE77]
  replace S := dR S hE77 (by omega)
  replace Z := dR Z hE77 (by omega)
  replace F := dR F hE77 (by omega)
  replace V := dO V hE77
  replace hw64 := tR hw64 hE77 (by omega)
  clear hE77
  obtain ⟨wd78, hE79⟩ : ∃ ww, ww = wd76.setRow (g72 + 1) #[.slice none 0 0, .int .i64 0] := ⟨_, rfl⟩
  rw [← hE79]
  replace S := dR S hE79 (by omega)
  replace Z := dR Z hE79 (by omega)
  replace V := dR V hE79 (by omega)
  replace F := dO F hE79
  replace hw64 := tR hw64 hE79 (by omega)
  clear hE79
  go_upto_region 7 with fail
  go_wp2_with (refine wpList_store_row rfl 26 _ _ rfl (w.heap.size + 1) _ rfl rfl 26 _ Z.out (by kernel_rfl) rfl (by first | assumption | simp [Value.oneCell']) ?_)
  obtain ⟨wd80, hE81⟩ : ∃ ww, ww = wd78.setRow (w.heap.size + 1) #[.slice none 0 0, .int .i64 0] := ⟨_, rfl⟩
  rw [← hE81]
  replace S := dR S hE81 (by omega)
  replace V := dR V hE81 (by omega)
  replace F := dR F hE81 (by omega)
  replace Z := dO Z hE81
  replace hw64 := tR hw64 hE81 (by omega)
  clear hE81
  have cZ_0 : wd80.cell? ⟨w.heap.size + 1, 0, none⟩ = some (.slice none 0 0) := Z.out.cell 0
  have cZ_1 : wd80.cell? ⟨w.heap.size + 1, 1, none⟩ = some (.int .i64 0) := Z.out.cell 1
  exact bodyPost_ret (v := .tuple #[.agg #[.slice none 0 0, .int .i64 0], .int .i64 er]) (by simp [results, Tryd.results9, go_sem, cZ_0, cZ_1]) rfl (⟨hw64, rfl⟩)
 ·
  clear hre
  obtain ⟨LX, hLX⟩ : ∃ n, n = (wd62).heap.size := ⟨_, rfl⟩
  have hzl := Z.out.here
  rw [← hLX] at hzl
  go_wp2_with fail
  clear cS_0
  ((with_reducible refine (HRd.out _ (HT.out.on hw64)).mono ?_); rintro e wd82 ⟨hb83, fp, rfl, hown⟩)
  replace S := dB S hb83
  replace Z := dB Z hb83
  replace hw64 := dT hw64 hb83
  clear hb83
  obtain ⟨Af, cf, rfl⟩ := own_form hown
  rw [← hLX] at hown
  clear hLX
  have FP := Lib.hid (Kept.own hown)
  clear hown
  simp only [zero8]
  have MV : Has ((wd82.alloc (.cells #[.int .i64 0, .bool false, .int .i64 0, .string ⟨#[]⟩, .int .i64 0, .slice none 0 0, .slice none 0 0, .slice none 0 0] 45)).alloc (.cells #[.slice none 0 0, .int .i64 0] 26)) wd82.heap.size 45 #[.int .i64 0, .bool false, .int .i64 0, .string ⟨#[]⟩, .int .i64 0, .slice none 0 0, .slice none 0 0, .slice none 0 0] := (Has.made _ _ _).alloc _
  have MF : Has (((wd82.alloc (.cells #[.int .i64 0, .bool false, .int .i64 0, .string ⟨#[]⟩, .int .i64 0, .slice none 0 0, .slice none 0 0, .slice none 0 0] 45)).alloc (.cells #[.slice none 0 0, .int .i64 0] 26)).setRow wd82.heap.size #[.int .i64 0, .bool false, .int .i64 0, .string ⟨#[]⟩, .int .i64 0, .slice none 0 0, .slice none 0 0, .slice none 0 0]) (wd82.heap.size + 1) 26 #[.slice none 0 0, .int .i64 0] := has_row (by
   have h := Has.made (wd82.alloc (.cells #[.int .i64 0, .bool false, .int .i64 0, .string ⟨#[]⟩, .int .i64 0, .slice none 0 0, .slice none 0 0, .slice none 0 0] 45)) 26 #[.slice none 0 0, .int .i64 0]
   rwa [alloc_hz] at h) (by omega)
  go_upto_region 2 with (first | (refine wpList_store_row rfl 45 _ _ rfl wd82.heap.size _ rfl rfl 45 _ MV (by kernel_rfl) rfl (by simp [Value.oneCell']) ?_) | (refine wpList_store_row rfl 26 _ _ rfl (wd82.heap.size + 1) _ rfl rfl 26 _ MF (by kernel_rfl) rfl (by simp [Value.oneCell']) ?_))
  clear MV MF
  obtain ⟨wd85, hE86⟩ : ∃ ww, ww = wd82.alloc (.cells #[.int .i64 0, .bool false, .int .i64 0, .string ⟨#[]⟩, .int .i64 0, .slice none 0 0, .slice none 0 0, .slice none 0 0] 45) := ⟨_, rfl⟩
  rw [← hE86]
  have hb84 := aB hE86
  have V := aN hE86
  obtain ⟨wd87, hE88⟩ : ∃ ww, ww = wd85.alloc (.cells #[.slice none 0 0, .int .i64 0] 26) := ⟨_, rfl⟩
  rw [← hE88]
  replace V := dB V (aB hE88)
  replace hb84 := dT hb84 (aB hE88)
  have F := aM hE88 (aZ hE86 rfl)
  clear hE86 hE88
  have hl90 := S.out.here
  have hl91 := Z.out.here
  have hl92 := FP.out.le
  have hl93 := hw64.size
  replace S := dB S hb84
  replace Z := dB Z hb84
  replace FP := dK FP hb84
  replace hw64 := dT hw64 hb84
  clear hb84
  generalize wd82.heap.size = g89 at *
  obtain ⟨wd94, hE95⟩ : ∃ ww, ww = wd87.setRow (g89) #[.int .i64 0, .bool false, .int .i64 0, .string ⟨#[]⟩, .int .i64 0, .slice none 0 0, .slice none 0 0, .slice none 0 0] := ⟨_, rfl⟩
  rw [← hE95]
  replace S := dR S hE95 (by omega)
  replace Z := dR Z hE95 (by omega)
  replace F := dR F hE95 (by omega)
  replace V := dO V hE95
  replace FP := kR FP hE95 (by omega)
  replace hw64 := tR hw64 hE95 (by omega)
  clear hE95
  obtain ⟨wd96, hE97⟩ : ∃ ww, ww = wd94.setRow (g89 + 1) #[.slice Af p.length cf, .int .i64 n] := ⟨_, rfl⟩
  rw [← hE97]
  replace S := dR S hE97 (by omega)
  replace Z := dR Z hE97 (by omega)
  replace V := dR V hE97 (by omega)
  replace F := dO F hE97
  replace FP := kR FP hE97 (by omega)
  replace hw64 := tR hw64 hE97 (by omega)
  clear hE97
  have cF_0 : wd96.cell? ⟨g89 + 1, 0, none⟩ = some (.slice Af p.length cf) := F.out.cell 0
  have cF_1 : wd96.cell? ⟨g89 + 1, 1, none⟩ = some (.int .i64 n) := F.out.cell 1
  go_upto_region 6 with fail
  go_wp2_with (refine wpList_store_row rfl 26 _ _ rfl (w.heap.size + 1) _ rfl rfl 26 _ Z.out (by kernel_rfl) rfl (by first | assumption | simp [Value.oneCell']) ?_)
  clear cF_0 cF_1
  obtain ⟨wd98, hE99⟩ : ∃ ww, ww = wd96.setRow (w.heap.size + 1) #[.slice Af p.length cf, .int .i64 n] := ⟨_, rfl⟩
  rw [← hE99]
  replace S := dR S hE99 (by omega)
  replace V := dR V hE99 (by omega)
  replace F := dR F hE99 (by omega)
  replace Z := dO Z hE99
  replace FP := kR FP hE99 (by omega)
  replace hw64 := tR hw64 hE99 (by omega)
  clear hE99
  have cZ_0 : wd98.cell? ⟨w.heap.size + 1, 0, none⟩ = some (.slice Af p.length cf) := Z.out.cell 0
  have cZ_1 : wd98.cell? ⟨w.heap.size + 1, 1, none⟩ = some (.int .i64 n) := Z.out.cell 1
  exact bodyPost_ret (v := .tuple #[.agg #[.slice Af p.length cf, .int .i64 n], .int .i64 0]) (by simp [results, Tryd.results9, go_sem, cZ_0, cZ_1]) rfl (⟨hw64, _, rfl, own_baseD FP.out.now (by omega)⟩)
 clear hre
 go_wp2_with fail
 clear cS_0
 ((with_reducible refine (HRd.out _ (HT.out.on hw64)).mono ?_); rintro e wd100 ⟨hb101, vk, vi, vr, rfl, hv⟩)
 replace S := dB S hb101
 replace Z := dB Z hb101
 replace hw64 := dT hw64 hb101
 clear hb101
 obtain ⟨A1, n1, A2, n2, A3, n3, rfl, rfl, rfl⟩ : ∃ A1 n1 A2 n2 A3 n3, vk = .slice A1 v.keys.length n1 ∧ vi = .slice A2 v.items.length n2 ∧ vr = .slice A3 v.rest.length n3 := by
  obtain ⟨_, ⟨A1, n1, h1, _⟩, _⟩ := hv.keys
  obtain ⟨_, ⟨A2, n2, h2, _⟩, _⟩ := hv.items
  obtain ⟨_, A3, n3, h3, _⟩ := hv.rest
  exact ⟨A1, n1, A2, n2, A3, n3, h1, h2, h3⟩
 clear hv
 simp only [valA]
 have MV : Has ((wd100.alloc (.cells #[.int .i64 0, .bool false, .int .i64 0, .string ⟨#[]⟩, .int .i64 0, .slice none 0 0, .slice none 0 0, .slice none 0 0] 45)).alloc (.cells #[.slice none 0 0, .int .i64 0] 26)) wd100.heap.size 45 #[.int .i64 0, .bool false, .int .i64 0, .string ⟨#[]⟩, .int .i64 0, .slice none 0 0, .slice none 0 0, .slice none 0 0] := (Has.made _ _ _).alloc _
 have MF : Has (((wd100.alloc (.cells #[.int .i64 0, .bool false, .int .i64 0, .string ⟨#[]⟩, .int .i64 0, .slice none 0 0, .slice none 0 0, .slice none 0 0] 45)).alloc (.cells #[.slice none 0 0, .int .i64 0] 26)).setRow wd100.heap.size #[.int .i64 v.kind, .bool v.bool, .int .i64 v.num, .string ⟨v.str.toArray⟩, .int .i64 v.id, .slice A1 v.keys.length n1, .slice A2 v.items.length n2, .slice A3 v.rest.length n3]) (wd100.heap.size + 1) 26 #[.slice none 0 0, .int .i64 0] := has_row (by
  have h := Has.made (wd100.alloc (.cells #[.int .i64 0, .bool false, .int .i64 0, .string ⟨#[]⟩, .int .i64 0, .slice none 0 0, .slice none 0 0, .slice none 0 0] 45)) 26 #[.slice none 0 0, .int .i64 0]
  rwa [alloc_hz] at h) (by omega)
 go_upto_region 2 with (first | (refine wpList_store_row rfl 45 _ _ rfl wd100.heap.size _ rfl rfl 45 _ MV (by kernel_rfl) rfl (by simp [Value.oneCell']) ?_) | (refine wpList_store_row rfl 26 _ _ rfl (wd100.heap.size + 1) _ rfl rfl 26 _ MF (by kernel_rfl) rfl (by simp [Value.oneCell']) ?_))
 clear MV MF
 obtain ⟨wd103, hE104⟩ : ∃ ww, ww = wd100.alloc (.cells #[.int .i64 0, .bool false, .int .i64 0, .string ⟨#[]⟩, .int .i64 0, .slice none 0 0, .slice none 0 0, .slice none 0 0] 45) := ⟨_, rfl⟩
 rw [← hE104]
 have hb102 := aB hE104
 have V := aN hE104
 obtain ⟨wd105, hE106⟩ : ∃ ww, ww = wd103.alloc (.cells #[.slice none 0 0, .int .i64 0] 26) := ⟨_, rfl⟩
 rw [← hE106]
 replace V := dB V (aB hE106)
 replace hb102 := dT hb102 (aB hE106)
 have F := aM hE106 (aZ hE104 rfl)
 clear hE104 hE106
 have hl108 := S.out.here
 have hl109 := Z.out.here
 have hl110 := hw64.size
 replace S := dB S hb102
 replace Z := dB Z hb102
 replace hw64 := dT hw64 hb102
 clear hb102
 generalize wd100.heap.size = g107 at *
 obtain ⟨wd111, hE112⟩ : ∃ ww, ww = wd105.setRow (g107) #[.int .i64 v.kind, .bool v.bool, .int .i64 v.num, .string ⟨v.str.toArray⟩, .int .i64 v.id, .slice A1 v.keys.length n1, .slice A2 v.items.length n2, .slice A3 v.rest.length n3] := ⟨_, rfl⟩
 rw [← hE112]
 replace S := dR S hE112 (by omega)
 replace Z := dR Z hE112 (by omega)
 replace F := dR F hE112 (by omega)
 replace V := dO V hE112
 replace hw64 := tR hw64 hE112 (by omega)
 clear hE112
 obtain ⟨wd113, hE114⟩ : ∃ ww, ww = wd111.setRow (g107 + 1) #[.slice none 0 0, .int .i64 0] := ⟨_, rfl⟩
 rw [← hE114]
 replace S := dR S hE114 (by omega)
 replace Z := dR Z hE114 (by omega)
 replace V := dR V hE114 (by omega)
 replace F := dO F hE114
 replace hw64 := tR hw64 hE114 (by omega)
 clear hE114
 go_upto_region 4 with fail
 go_wp2_with (refine wpList_store_row rfl 26 _ _ rfl (w.heap.size + 1) _ rfl rfl 26 _ Z.out (by kernel_rfl) rfl (by first | assumption | simp [Value.oneCell']) ?_)
 obtain ⟨wd115, hE116⟩ : ∃ ww, ww = wd113.setRow (w.heap.size + 1) #[.slice none 0 0, .int .i64 0] := ⟨_, rfl⟩
 rw [← hE116]
 replace S := dR S hE116 (by omega)
 replace V := dR V hE116 (by omega)
 replace F := dR F hE116 (by omega)
 replace Z := dO Z hE116
 replace hw64 := tR hw64 hE116 (by omega)
 clear hE116
 have cZ_0 : wd115.cell? ⟨w.heap.size + 1, 0, none⟩ = some (.slice none 0 0) := Z.out.cell 0
 have cZ_1 : wd115.cell? ⟨w.heap.size + 1, 1, none⟩ = some (.int .i64 0) := Z.out.cell 1
 exact bodyPost_ret (v := .tuple #[.agg #[.slice none 0 0, .int .i64 0], .int .i64 15]) (by simp [results, Tryd.results9, go_sem, cZ_0, cZ_1]) rfl (⟨hw64, rfl⟩)
set_option maxRecDepth 100000 in
theorem accepts_any (ts : List Typ) (A : Option Addr) (c : Nat) (t : Int) (m : List UInt8) (w : World) (hs : Sizes ts) (hT : RdTyps w w.heap.size (.slice A ts.length c) ts) :
  Calls Tryd.prog 14 #[.agg #[.slice A ts.length c], .int .i64 t, .string ⟨m.toArray⟩] w fun e w' => e = .returned (.bool (okR (readE ts t m))) ∧ Below w.heap.size w w' := by
 have hre := fun er h => readE_err (ts := ts) (t := t) (m := m) (er := er) h
 have HT := Lib.hid hT
 have HRd := Lib.hid (fun W h => read_any ts A c t m W hs h)
 generalize readE ts t m = r at *
 clear hT hs
 go_enter Tryd.func14, Tryd.ntmps14
 go_upto_region 1 with fail
 obtain ⟨wd118, hE119⟩ : ∃ ww, ww = w.alloc (.cells #[.slice A ts.length c] 36) := ⟨_, rfl⟩
 rw [← hE119]
 have hb117 := aB hE119
 have S := aN hE119
 clear hE119
 have hw120 := hb117
 clear hb117
 have cS_0 : wd118.cell? ⟨w.heap.size, 0, none⟩ = some (.slice A ts.length c) := S.out.cell 0
 rcases r with er | ⟨⟨p, n⟩ | v⟩
 ·
  have her := hre er rfl
  have he1 : (er == 0) = false := by rw [beq_eq_false_iff_ne]; omega
  clear hre her
  go_wp2_with fail
  clear cS_0
  ((with_reducible refine (HRd.out _ (HT.out.on hw120)).mono ?_); rintro e wd121 ⟨hb122, rfl⟩)
  replace S := dB S hb122
  replace hw120 := dT hw120 hb122
  clear hb122
  simp only [zero8]
  have MV : Has ((wd121.alloc (.cells #[.int .i64 0, .bool false, .int .i64 0, .string ⟨#[]⟩, .int .i64 0, .slice none 0 0, .slice none 0 0, .slice none 0 0] 45)).alloc (.cells #[.slice none 0 0, .int .i64 0] 26)) wd121.heap.size 45 #[.int .i64 0, .bool false, .int .i64 0, .string ⟨#[]⟩, .int .i64 0, .slice none 0 0, .slice none 0 0, .slice none 0 0] := (Has.made _ _ _).alloc _
  have MF : Has (((wd121.alloc (.cells #[.int .i64 0, .bool false, .int .i64 0, .string ⟨#[]⟩, .int .i64 0, .slice none 0 0, .slice none 0 0, .slice none 0 0] 45)).alloc (.cells #[.slice none 0 0, .int .i64 0] 26)).setRow wd121.heap.size #[.int .i64 0, .bool false, .int .i64 0, .string ⟨#[]⟩, .int .i64 0, .slice none 0 0, .slice none 0 0, .slice none 0 0]) (wd121.heap.size + 1) 26 #[.slice none 0 0, .int .i64 0] := has_row (by
   have h := Has.made (wd121.alloc (.cells #[.int .i64 0, .bool false, .int .i64 0, .string ⟨#[]⟩, .int .i64 0, .slice none 0 0, .slice none 0 0, .slice none 0 0] 45)) 26 #[.slice none 0 0, .int .i64 0]
   rwa [alloc_hz] at h) (by omega)
  go_upto_region 2 with (first | (refine wpList_store_row rfl 45 _ _ rfl wd121.heap.size _ rfl rfl 45 _ MV (by kernel_rfl) rfl (by simp [Value.oneCell']) ?_) | (refine wpList_store_row rfl 26 _ _ rfl (wd121.heap.size + 1) _ rfl rfl 26 _ MF (by kernel_rfl) rfl (by simp [Value.oneCell']) ?_))
  clear MV MF
  obtain ⟨wd124, hE125⟩ : ∃ ww, ww = wd121.alloc (.cells #[.int .i64 0, .bool false, .int .i64 0, .string ⟨#[]⟩, .int .i64 0, .slice none 0 0, .slice none 0 0, .slice none 0 0] 45) := ⟨_, rfl⟩
  rw [← hE125]
  have hb123 := aB hE125
  have V := aN hE125
  obtain ⟨wd126, hE127⟩ : ∃ ww, ww = wd124.alloc (.cells #[.slice none 0 0, .int .i64 0] 26) := ⟨_, rfl⟩
  rw [← hE127]
  replace V := dB V (aB hE127)
  replace hb123 := dT hb123 (aB hE127)
  have F := aM hE127 (aZ hE125 rfl)
  clear hE125 hE127
  have hl129 := S.out.here
  have hl130 := hw120.size
  replace S := dB S hb123
  replace hw120 := dT hw120 hb123
  clear hb123
  generalize wd121.heap.size = g128 at *
  obtain ⟨wd131, hE132⟩ : ∃ ww, ww = wd126.setRow (g128) #[.int .i64 0, .bool false, .int .i64 0, .string ⟨#[]⟩, .int .i64 0, .slice none 0 0, .slice none 0 0, .slice none 0 0] := ⟨_, rfl⟩
  rw [← hE132]
  replace S := dR S hE132 (by omega)
  replace F := dR F hE132 (by omega)
  replace V := dO V hE132
  replace hw120 := tR hw120 hE132 (by omega)
  clear hE132
  obtain ⟨wd133, hE134⟩ : ∃ ww, ww = wd131.setRow (g128 + 1) #[.slice none 0 0, .int .i64 0] := ⟨_, rfl⟩
  rw [← hE134]
  replace S := dR S hE134 (by omega)
  replace V := dR V hE134 (by omega)
  replace F := dO F hE134
  replace hw120 := tR hw120 hE134 (by omega)
  clear hE134
  go_wp2_with fail
  go_ret
  exact ⟨rfl, hw120⟩
 ·
  clear hre
  go_wp2_with fail
  clear cS_0
  ((with_reducible refine (HRd.out _ (HT.out.on hw120)).mono ?_); rintro e wd135 ⟨hb136, fp, rfl, hown⟩)
  replace S := dB S hb136
  replace hw120 := dT hw120 hb136
  clear hb136
  obtain ⟨Af, cf, rfl⟩ := own_form hown
  clear hown
  simp only [zero8]
  have MV : Has ((wd135.alloc (.cells #[.int .i64 0, .bool false, .int .i64 0, .string ⟨#[]⟩, .int .i64 0, .slice none 0 0, .slice none 0 0, .slice none 0 0] 45)).alloc (.cells #[.slice none 0 0, .int .i64 0] 26)) wd135.heap.size 45 #[.int .i64 0, .bool false, .int .i64 0, .string ⟨#[]⟩, .int .i64 0, .slice none 0 0, .slice none 0 0, .slice none 0 0] := (Has.made _ _ _).alloc _
  have MF : Has (((wd135.alloc (.cells #[.int .i64 0, .bool false, .int .i64 0, .string ⟨#[]⟩, .int .i64 0, .slice none 0 0, .slice none 0 0, .slice none 0 0] 45)).alloc (.cells #[.slice none 0 0, .int .i64 0] 26)).setRow wd135.heap.size #[.int .i64 0, .bool false, .int .i64 0, .string ⟨#[]⟩, .int .i64 0, .slice none 0 0, .slice none 0 0, .slice none 0 0]) (wd135.heap.size + 1) 26 #[.slice none 0 0, .int .i64 0] := has_row (by
   have h := Has.made (wd135.alloc (.cells #[.int .i64 0, .bool false, .int .i64 0, .string ⟨#[]⟩, .int .i64 0, .slice none 0 0, .slice none 0 0, .slice none 0 0] 45)) 26 #[.slice none 0 0, .int .i64 0]
   rwa [alloc_hz] at h) (by omega)
  go_upto_region 2 with (first | (refine wpList_store_row rfl 45 _ _ rfl wd135.heap.size _ rfl rfl 45 _ MV (by kernel_rfl) rfl (by simp [Value.oneCell']) ?_) | (refine wpList_store_row rfl 26 _ _ rfl (wd135.heap.size + 1) _ rfl rfl 26 _ MF (by kernel_rfl) rfl (by simp [Value.oneCell']) ?_))
  clear MV MF
  obtain ⟨wd138, hE139⟩ : ∃ ww, ww = wd135.alloc (.cells #[.int .i64 0, .bool false, .int .i64 0, .string ⟨#[]⟩, .int .i64 0, .slice none 0 0, .slice none 0 0, .slice none 0 0] 45) := ⟨_, rfl⟩
  rw [← hE139]
  have hb137 := aB hE139
  have V := aN hE139
  obtain ⟨wd140, hE141⟩ : ∃ ww, ww = wd138.alloc (.cells #[.slice none 0 0, .int .i64 0] 26) := ⟨_, rfl⟩
  rw [← hE141]
  replace V := dB V (aB hE141)
  replace hb137 := dT hb137 (aB hE141)
  have F := aM hE141 (aZ hE139 rfl)
  clear hE139 hE141
  have hl143 := S.out.here
  have hl144 := hw120.size
  replace S := dB S hb137
  replace hw120 := dT hw120 hb137
  clear hb137
  generalize wd135.heap.size = g142 at *
  obtain ⟨wd145, hE146⟩ : ∃ ww, ww = wd140.setRow (g142) #[.int .i64 0, .bool false, .int .i64 0, .string ⟨#[]⟩, .int .i64 0, .slice none 0 0, .slice none 0 0, .slice none 0 0] := ⟨_, rfl⟩
  rw [← hE146]
  replace S := dR S hE146 (by omega)
  replace F := dR F hE146 (by omega)
  replace V := dO V hE146
  replace hw120 := tR hw120 hE146 (by omega)
  clear hE146
  obtain ⟨wd147, hE148⟩ : ∃ ww, ww = wd145.setRow (g142 + 1) #[.slice Af p.length cf, .int .i64 n] := ⟨_, rfl⟩
  rw [← hE148]
  replace S := dR S hE148 (by omega)
  replace V := dR V hE148 (by omega)
  replace F := dO F hE148
  replace hw120 := tR hw120 hE148 (by omega)
  clear hE148
  go_wp2_with fail
  go_ret
  exact ⟨rfl, hw120⟩
 clear hre
 go_wp2_with fail
 clear cS_0
 ((with_reducible refine (HRd.out _ (HT.out.on hw120)).mono ?_); rintro e wd149 ⟨hb150, vk, vi, vr, rfl, hv⟩)
 replace S := dB S hb150
 replace hw120 := dT hw120 hb150
 clear hb150
 obtain ⟨A1, n1, A2, n2, A3, n3, rfl, rfl, rfl⟩ : ∃ A1 n1 A2 n2 A3 n3, vk = .slice A1 v.keys.length n1 ∧ vi = .slice A2 v.items.length n2 ∧ vr = .slice A3 v.rest.length n3 := by
  obtain ⟨_, ⟨A1, n1, h1, _⟩, _⟩ := hv.keys
  obtain ⟨_, ⟨A2, n2, h2, _⟩, _⟩ := hv.items
  obtain ⟨_, A3, n3, h3, _⟩ := hv.rest
  exact ⟨A1, n1, A2, n2, A3, n3, h1, h2, h3⟩
 clear hv
 simp only [valA]
 have MV : Has ((wd149.alloc (.cells #[.int .i64 0, .bool false, .int .i64 0, .string ⟨#[]⟩, .int .i64 0, .slice none 0 0, .slice none 0 0, .slice none 0 0] 45)).alloc (.cells #[.slice none 0 0, .int .i64 0] 26)) wd149.heap.size 45 #[.int .i64 0, .bool false, .int .i64 0, .string ⟨#[]⟩, .int .i64 0, .slice none 0 0, .slice none 0 0, .slice none 0 0] := (Has.made _ _ _).alloc _
 have MF : Has (((wd149.alloc (.cells #[.int .i64 0, .bool false, .int .i64 0, .string ⟨#[]⟩, .int .i64 0, .slice none 0 0, .slice none 0 0, .slice none 0 0] 45)).alloc (.cells #[.slice none 0 0, .int .i64 0] 26)).setRow wd149.heap.size #[.int .i64 v.kind, .bool v.bool, .int .i64 v.num, .string ⟨v.str.toArray⟩, .int .i64 v.id, .slice A1 v.keys.length n1, .slice A2 v.items.length n2, .slice A3 v.rest.length n3]) (wd149.heap.size + 1) 26 #[.slice none 0 0, .int .i64 0] := has_row (by
  have h := Has.made (wd149.alloc (.cells #[.int .i64 0, .bool false, .int .i64 0, .string ⟨#[]⟩, .int .i64 0, .slice none 0 0, .slice none 0 0, .slice none 0 0] 45)) 26 #[.slice none 0 0, .int .i64 0]
  rwa [alloc_hz] at h) (by omega)
 go_upto_region 2 with (first | (refine wpList_store_row rfl 45 _ _ rfl wd149.heap.size _ rfl rfl 45 _ MV (by kernel_rfl) rfl (by simp [Value.oneCell']) ?_) | (refine wpList_store_row rfl 26 _ _ rfl (wd149.heap.size + 1) _ rfl rfl 26 _ MF (by kernel_rfl) rfl (by simp [Value.oneCell']) ?_))
 clear MV MF
 obtain ⟨wd152, hE153⟩ : ∃ ww, ww = wd149.alloc (.cells #[.int .i64 0, .bool false, .int .i64 0, .string ⟨#[]⟩, .int .i64 0, .slice none 0 0, .slice none 0 0, .slice none 0 0] 45) := ⟨_, rfl⟩
 rw [← hE153]
 have hb151 := aB hE153
 have V := aN hE153
 obtain ⟨wd154, hE155⟩ : ∃ ww, ww = wd152.alloc (.cells #[.slice none 0 0, .int .i64 0] 26) := ⟨_, rfl⟩
 rw [← hE155]
 replace V := dB V (aB hE155)
 replace hb151 := dT hb151 (aB hE155)
 have F := aM hE155 (aZ hE153 rfl)
 clear hE153 hE155
 have hl157 := S.out.here
 have hl158 := hw120.size
 replace S := dB S hb151
 replace hw120 := dT hw120 hb151
 clear hb151
 generalize wd149.heap.size = g156 at *
 obtain ⟨wd159, hE160⟩ : ∃ ww, ww = wd154.setRow (g156) #[.int .i64 v.kind, .bool v.bool, .int .i64 v.num, .string ⟨v.str.toArray⟩, .int .i64 v.id, .slice A1 v.keys.length n1, .slice A2 v.items.length n2, .slice A3 v.rest.length n3] := ⟨_, rfl⟩
 rw [← hE160]
 replace S := dR S hE160 (by omega)
 replace F := dR F hE160 (by omega)
 replace V := dO V hE160
 replace hw120 := tR hw120 hE160 (by omega)
 clear hE160
 obtain ⟨wd161, hE162⟩ : ∃ ww, ww = wd159.setRow (g156 + 1) #[.slice none 0 0, .int .i64 0] := ⟨_, rfl⟩
 rw [← hE162]
 replace S := dR S hE162 (by omega)
 replace V := dR V hE162 (by omega)
 replace F := dO F hE162
 replace hw120 := tR hw120 hE162 (by omega)
 clear hE162
 go_wp2_with fail
 go_ret
 exact ⟨rfl, hw120⟩
end Go.Proofs.YtccmmibkihbobaaDoor

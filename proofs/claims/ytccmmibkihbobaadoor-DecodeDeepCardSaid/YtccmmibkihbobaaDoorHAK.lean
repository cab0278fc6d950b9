/- Unknown. Reason. No condition. -/
import Derived.Test.YtccmmibkihbobaaDoorUnk
import Derived.Test.YtccmmibkihbobaaDoorDecV
import Derived.Test.YtccmmibkihbobaaDoorShelf
import Derived.Test.YtccmmibkihbobaaDoorDecE
import Derived.Test.YtccmmibkihbobaaDoorHAA
import Derived.Lib.ItoaLen
import Derived.Lib.AppendIntMem
import Derived.Lib.SmallJoins
set_option maxHeartbeats 1600000
namespace Go.Proofs.YtccmmibkihbobaaDoor
open Go.ChangeShapes Go.WideShapes Go.ChangeAt Go.RowKit
theorem readE_ok {ts : List Typ} {t : Int} {m : List UInt8} {q : Res} (h : readE ts t m = .ok q) : validE ts = 0 := by
 unfold readE at h
 split at h
 ·
  cases h
 rename_i hv; simpa using hv
def unkR (ts : List Typ) (t : Int) : Except Int Res → Int × Int
 | .error er => (0, er)
 | .ok (.error _) => (0, 12)
 | .ok (.ok v) => (wrap64 (partsV ts v t), 0)
set_option maxRecDepth 100000 in
theorem unknown_any (ts : List Typ) (A : Option Addr) (c : Nat) (t : Int) (m : List UInt8) (w : World) (hs : Sizes ts) (hf : ∀ v, readE ts t m = .ok (.ok v) → fitV ts false v t = true) (hT : RdTyps w w.heap.size (.slice A ts.length c) ts) :
  Calls Tryd.prog 13 #[.agg #[.slice A ts.length c], .int .i64 t, .string ⟨m.toArray⟩] w fun e w' => e = .returned (.tuple #[.int .i64 (unkR ts t (readE ts t m)).1, .int .i64 (unkR ts t (readE ts t m)).2]) ∧ Below w.heap.size w w' := by
 have hre := fun er h => readE_err (ts := ts) (t := t) (m := m) (er := er) h
 have hso := fun q h => sch_ok (readE_ok (ts := ts) (t := t) (m := m) (q := q) h)
 have HT := Lib.hid hT
 have HRd := Lib.hid (fun W h => read_any ts A c t m W hs h)
 generalize readE ts t m = r at *
 clear hT hs
 go_enter Tryd.func13, Tryd.ntmps13
 go_upto_region 1 with fail
 obtain ⟨wd2, hE3⟩ : ∃ ww, ww = w.alloc (.cells #[.slice A ts.length c] 36) := ⟨_, rfl⟩
 rw [← hE3]
 have hb1 := aB hE3
 have S := aN hE3
 clear hE3
 have hw4 := hb1
 clear hb1
 have cS_0 : wd2.cell? ⟨w.heap.size, 0, none⟩ = some (.slice A ts.length c) := S.out.cell 0
 rcases r with er | ⟨⟨p, n⟩ | v⟩
 ·
  have her := hre er rfl
  have he1 : (er != 0) = true := by rw [bne_iff_ne]; omega
  clear hre her hso hf
  go_wp2_with fail
  clear cS_0
  ((with_reducible refine (HRd.out _ (HT.out.on hw4)).mono ?_); rintro e wd5 ⟨hb6, rfl⟩)
  replace S := dB S hb6
  replace hw4 := dT hw4 hb6
  clear hb6
  simp only [zero8]
  have MV : Has ((wd5.alloc (.cells #[.int .i64 0, .bool false, .int .i64 0, .string ⟨#[]⟩, .int .i64 0, .slice none 0 0, .slice none 0 0, .slice none 0 0] 45)).alloc (.cells #[.slice none 0 0, .int .i64 0] 26)) wd5.heap.size 45 #[.int .i64 0, .bool false, .int .i64 0, .string ⟨#[]⟩, .int .i64 0, .slice none 0 0, .slice none 0 0, .slice none 0 0] := (Has.made _ _ _).alloc _
  have MF : Has (((wd5.alloc (.cells #[.int .i64 0, .bool false, .int .i64 0, .string ⟨#[]⟩, .int .i64 0, .slice none 0 0, .slice none 0 0, .slice none 0 0] 45)).alloc (.cells #[.slice none 0 0, .int .i64 0] 26)).setRow wd5.heap.size #[.int .i64 0, .bool false, .int .i64 0, .string ⟨#[]⟩, .int .i64 0, .slice none 0 0, .slice none 0 0, .slice none 0 0]) (wd5.heap.size + 1) 26 #[.slice none 0 0, .int .i64 0] := has_row (by
   have h := Has.made (wd5.alloc (.cells #[.int .i64 0, .bool false, .int .i64 0, .string ⟨#[]⟩, .int .i64 0, .slice none 0 0, .slice none 0 0, .slice none 0 0] 45)) 26 #[.slice none 0 0, .int .i64 0]
   rwa [alloc_hz] at h) (by omega)
  go_upto_region 2 with (first | (refine wpList_store_row rfl 45 _ _ rfl wd5.heap.size _ rfl rfl 45 _ MV (by kernel_rfl) rfl (by simp [Value.oneCell']) ?_) | (refine wpList_store_row rfl 26 _ _ rfl (wd5.heap.size + 1) _ rfl rfl 26 _ MF (by kernel_rfl) rfl (by simp [Value.oneCell']) ?_))
  clear MV MF
  obtain ⟨wd8, hE9⟩ : ∃ ww, ww = wd5.alloc (.cells #[.int .i64 0, .bool false, .int .i64 0, .string ⟨#[]⟩, .int .i64 0, .slice none 0 0, .slice none 0 0, .slice none 0 0] 45) := ⟨_, rfl⟩
  rw [← hE9]
  have hb7 := aB hE9
  have V := aN hE9
  obtain ⟨wd10, hE11⟩ : ∃ ww, ww = wd8.alloc (.cells #[.slice none 0 0, .int .i64 0] 26) := ⟨_, rfl⟩
  rw [← hE11]
  replace V := dB V (aB hE11)
  replace hb7 := dT hb7 (aB hE11)
  have F := aM hE11 (aZ hE9 rfl)
  clear hE9 hE11
  have hl13 := S.out.here
  have hl14 := hw4.size
  replace S := dB S hb7
  replace hw4 := dT hw4 hb7
  clear hb7
  generalize wd5.heap.size = g12 at *
  obtain ⟨wd15, hE16⟩ : ∃ ww, ww = wd10.setRow (g12) #[.int .i64 0, .bool false, .int .i64 0, .string ⟨#[]⟩, .int .i64 0, .slice none 0 0, .slice none 0 0, .slice none 0 0] := ⟨_, rfl⟩
  rw [← hE16]
  replace S := dR S hE16 (by omega)
  replace F := dR F hE16 (by omega)
  replace V := dO V hE16
  replace hw4 := tR hw4 hE16 (by omega)
  clear hE16
  obtain ⟨wd17, hE18⟩ : ∃ ww, ww = wd15.setRow (g12 + 1) #[.slice none 0 0, .int .i64 0] := ⟨_, rfl⟩
  rw [← hE18]
  replace S := dR S hE18 (by omega)
  replace V := dR V hE18 (by omega)
  replace F := dO F hE18
  replace hw4 := tR hw4 hE18 (by omega)
  clear hE18
  go_wp2_with fail
  go_ret2
  exact ⟨rfl, hw4⟩
 ·
  clear hre hso hf
  go_wp2_with fail
  clear cS_0
  ((with_reducible refine (HRd.out _ (HT.out.on hw4)).mono ?_); rintro e wd19 ⟨hb20, fp, rfl, hown⟩)
  replace S := dB S hb20
  replace hw4 := dT hw4 hb20
  clear hb20
  obtain ⟨Af, cf, rfl⟩ := own_form hown
  clear hown
  simp only [zero8]
  have MV : Has ((wd19.alloc (.cells #[.int .i64 0, .bool false, .int .i64 0, .string ⟨#[]⟩, .int .i64 0, .slice none 0 0, .slice none 0 0, .slice none 0 0] 45)).alloc (.cells #[.slice none 0 0, .int .i64 0] 26)) wd19.heap.size 45 #[.int .i64 0, .bool false, .int .i64 0, .string ⟨#[]⟩, .int .i64 0, .slice none 0 0, .slice none 0 0, .slice none 0 0] := (Has.made _ _ _).alloc _
  have MF : Has (((wd19.alloc (.cells #[.int .i64 0, .bool false, .int .i64 0, .string ⟨#[]⟩, .int .i64 0, .slice none 0 0, .slice none 0 0, .slice none 0 0] 45)).alloc (.cells #[.slice none 0 0, .int .i64 0] 26)).setRow wd19.heap.size #[.int .i64 0, .bool false, .int .i64 0, .string ⟨#[]⟩, .int .i64 0, .slice none 0 0, .slice none 0 0, .slice none 0 0]) (wd19.heap.size + 1) 26 #[.slice none 0 0, .int .i64 0] := has_row (by
   have h := Has.made (wd19.alloc (.cells #[.int .i64 0, .bool false, .int .i64 0, .string ⟨#[]⟩, .int .i64 0, .slice none 0 0, .slice none 0 0, .slice none 0 0] 45)) 26 #[.slice none 0 0, .int .i64 0]
   rwa [alloc_hz] at h) (by omega)
  go_upto_region 2 with (first | (refine wpList_store_row rfl 45 _ _ rfl wd19.heap.size _ rfl rfl 45 _ MV (by kernel_rfl) rfl (by simp [Value.oneCell']) ?_) | (refine wpList_store_row rfl 26 _ _ rfl (wd19.heap.size + 1) _ rfl rfl 26 _ MF (by kernel_rfl) rfl (by simp [Value.oneCell']) ?_))
  clear MV MF
  obtain ⟨wd22, hE23⟩ : ∃ ww, ww = wd19.alloc (.cells #[.int .i64 0, .bool false, .int .i64 0, .string ⟨#[]⟩, .int .i64 0, .slice none 0 0, .slice none 0 0, .slice none 0 0] 45) := ⟨_, rfl⟩
  rw [← hE23]
  have hb21 := aB hE23
  have V := aN hE23
  obtain ⟨wd24, hE25⟩ : ∃ ww, ww = wd22.alloc (.cells #[.slice none 0 0, .int .i64 0] 26) := ⟨_, rfl⟩
  rw [← hE25]
  replace V := dB V (aB hE25)
  replace hb21 := dT hb21 (aB hE25)
  have F := aM hE25 (aZ hE23 rfl)
  clear hE23 hE25
  have hl27 := S.out.here
  have hl28 := hw4.size
  replace S := dB S hb21
  replace hw4 := dT hw4 hb21
  clear hb21
  generalize wd19.heap.size = g26 at *
  obtain ⟨wd29, hE30⟩ : ∃ ww, ww = wd24.setRow (g26) #[.int .i64 0, .bool false, .int .i64 0, .string ⟨#[]⟩, .int .i64 0, .slice none 0 0, .slice none 0 0, .slice none 0 0] := ⟨_, rfl⟩
  rw [← hE30]
  replace S := dR S hE30 (by omega)
  replace F := dR F hE30 (by omega)
  replace V := dO V hE30
  replace hw4 := tR hw4 hE30 (by omega)
  clear hE30
  obtain ⟨wd31, hE32⟩ : ∃ ww, ww = wd29.setRow (g26 + 1) #[.slice Af p.length cf, .int .i64 n] := ⟨_, rfl⟩
  rw [← hE32]
  replace S := dR S hE32 (by omega)
  replace V := dR V hE32 (by omega)
  replace F := dO F hE32
  replace hw4 := tR hw4 hE32 (by omega)
  clear hE32
  go_wp2_with fail
  go_ret2
  exact ⟨rfl, hw4⟩
 have HSo := Lib.hid (hso _ rfl)
 have HF := Lib.hid (hf v rfl)
 clear hre hso hf
 obtain ⟨LX, hLX⟩ : ∃ n, n = (wd2).heap.size := ⟨_, rfl⟩
 have hzl := S.out.here
 rw [← hLX] at hzl
 go_wp2_with fail
 clear cS_0
 ((with_reducible refine (HRd.out _ (HT.out.on hw4)).mono ?_); rintro e wd33 ⟨hb34, vk, vi, vr, rfl, hv⟩)
 replace S := dB S hb34
 replace hw4 := dT hw4 hb34
 clear hb34
 obtain ⟨A1, n1, A2, n2, A3, n3, rfl, rfl, rfl⟩ : ∃ A1 n1 A2 n2 A3 n3, vk = .slice A1 v.keys.length n1 ∧ vi = .slice A2 v.items.length n2 ∧ vr = .slice A3 v.rest.length n3 := by
  obtain ⟨_, ⟨A1, n1, h1, _⟩, _⟩ := hv.keys
  obtain ⟨_, ⟨A2, n2, h2, _⟩, _⟩ := hv.items
  obtain ⟨_, A3, n3, h3, _⟩ := hv.rest
  exact ⟨A1, n1, A2, n2, A3, n3, h1, h2, h3⟩
 obtain ⟨BX, hBX⟩ : ∃ n, n = (wd33).heap.size := ⟨_, rfl⟩
 have N := Lib.hid (Kept.valB hv hLX hBX)
 clear hv hLX hBX
 simp only [valA]
 have MV : Has ((wd33.alloc (.cells #[.int .i64 0, .bool false, .int .i64 0, .string ⟨#[]⟩, .int .i64 0, .slice none 0 0, .slice none 0 0, .slice none 0 0] 45)).alloc (.cells #[.slice none 0 0, .int .i64 0] 26)) wd33.heap.size 45 #[.int .i64 0, .bool false, .int .i64 0, .string ⟨#[]⟩, .int .i64 0, .slice none 0 0, .slice none 0 0, .slice none 0 0] := (Has.made _ _ _).alloc _
 have MF : Has (((wd33.alloc (.cells #[.int .i64 0, .bool false, .int .i64 0, .string ⟨#[]⟩, .int .i64 0, .slice none 0 0, .slice none 0 0, .slice none 0 0] 45)).alloc (.cells #[.slice none 0 0, .int .i64 0] 26)).setRow wd33.heap.size #[.int .i64 v.kind, .bool v.bool, .int .i64 v.num, .string ⟨v.str.toArray⟩, .int .i64 v.id, .slice A1 v.keys.length n1, .slice A2 v.items.length n2, .slice A3 v.rest.length n3]) (wd33.heap.size + 1) 26 #[.slice none 0 0, .int .i64 0] := has_row (by
  have h := Has.made (wd33.alloc (.cells #[.int .i64 0, .bool false, .int .i64 0, .string ⟨#[]⟩, .int .i64 0, .slice none 0 0, .slice none 0 0, .slice none 0 0] 45)) 26 #[.slice none 0 0, .int .i64 0]
  rwa [alloc_hz] at h) (by omega)
 go_upto_region 2 with (first | (refine wpList_store_row rfl 45 _ _ rfl wd33.heap.size _ rfl rfl 45 _ MV (by kernel_rfl) rfl (by simp [Value.oneCell']) ?_) | (refine wpList_store_row rfl 26 _ _ rfl (wd33.heap.size + 1) _ rfl rfl 26 _ MF (by kernel_rfl) rfl (by simp [Value.oneCell']) ?_))
 clear MV MF
 obtain ⟨wd36, hE37⟩ : ∃ ww, ww = wd33.alloc (.cells #[.int .i64 0, .bool false, .int .i64 0, .string ⟨#[]⟩, .int .i64 0, .slice none 0 0, .slice none 0 0, .slice none 0 0] 45) := ⟨_, rfl⟩
 rw [← hE37]
 have hb35 := aB hE37
 have V := aN hE37
 obtain ⟨wd38, hE39⟩ : ∃ ww, ww = wd36.alloc (.cells #[.slice none 0 0, .int .i64 0] 26) := ⟨_, rfl⟩
 rw [← hE39]
 replace V := dB V (aB hE39)
 replace hb35 := dT hb35 (aB hE39)
 have F := aM hE39 (aZ hE37 rfl)
 clear hE37 hE39
 have hl41 := S.out.here
 have hl42 := N.out.le
 have hl43 := hw4.size
 replace S := dB S hb35
 replace N := dK N hb35
 replace hw4 := dT hw4 hb35
 clear hb35
 generalize wd33.heap.size = g40 at *
 obtain ⟨wd44, hE45⟩ : ∃ ww, ww = wd38.setRow (g40) #[.int .i64 v.kind, .bool v.bool, .int .i64 v.num, .string ⟨v.str.toArray⟩, .int .i64 v.id, .slice A1 v.keys.length n1, .slice A2 v.items.length n2, .slice A3 v.rest.length n3] := ⟨_, rfl⟩
 rw [← hE45]
 replace S := dR S hE45 (by omega)
 replace F := dR F hE45 (by omega)
 replace V := dO V hE45
 replace N := kR N hE45 (by omega)
 replace hw4 := tR hw4 hE45 (by omega)
 clear hE45
 obtain ⟨wd46, hE47⟩ : ∃ ww, ww = wd44.setRow (g40 + 1) #[.slice none 0 0, .int .i64 0] := ⟨_, rfl⟩
 rw [← hE47]
 replace S := dR S hE47 (by omega)
 replace V := dR V hE47 (by omega)
 replace F := dO F hE47
 replace N := kR N hE47 (by omega)
 replace hw4 := tR hw4 hE47 (by omega)
 clear hE47
 have hle := N.out.le
 obtain ⟨cV_0, cV_1, cV_2, cV_3, cV_4, cV_5, cV_6, cV_7⟩ := V.out.c8
 have cS_0 : wd46.cell? ⟨w.heap.size, 0, none⟩ = some (.slice A ts.length c) := S.out.cell 0
 go_wp2_with fail
 have hk9 : ∀ x ∈ ts, 1 ≤ x.kind ∧ x.kind ≤ 9 := by
  have h := HSo.out
  unfold SchOK at h
  exact fun x hx => (h x hx).1
 clear cV_0 cV_1 cV_2 cV_3 cV_4 cV_5 cV_6 cV_7 cS_0
 ((with_reducible refine (unk_all ts A c hk9 _ v t _ _ _ _ (Nat.lt_succ_self _) HF.out ((N.out.now.newB (w := w) (by omega) hle).at_ (fun b hb => by unfold NewB at hb; omega)) (HT.out.on hw4)).mono ?_); rintro e wd48 ⟨rfl, hb49⟩)
 replace S := dB S hb49
 replace V := dB V hb49
 replace F := dB F hb49
 replace N := dK N hb49
 replace hw4 := dT hw4 hb49
 clear hb49
 go_wp2_with fail
 go_ret2
 exact ⟨rfl, hw4⟩
end Go.Proofs.YtccmmibkihbobaaDoor
namespace Go.Proofs.YtccmmibkihbobaaDoor
open Go.ChangeShapes Go.WideShapes Go.ChangeAt Go.RowKit
def reasonL : List (List UInt8) := [[109, 97, 108, 102, 111, 114, 109, 101, 100], [114, 97, 110, 103, 101], [108, 111, 110, 103], [115, 121, 109, 98, 111, 108], [97, 114, 109], [99, 114, 105, 116, 105, 99, 97, 108], [109, 105, 115, 115, 105, 110, 103], [100, 101, 101, 112], [107, 105, 110, 100], [100, 101, 102, 97, 117, 108, 116]]
def wordT (n : Int) : List UInt8 := if n < 1 ∨ 10 < n then [117, 110, 107, 110, 111, 119, 110] else reasonL.getD (n - 1).toNat []
def pathT (path : List Int) : List UInt8 := if path = [] then [45] else Lib.join (path.map Lib.itoa) [46]
def reasonT (path : List Int) (n : Int) : List UInt8 := pathT path ++ 32 :: wordT n
theorem wordT_len (n : Int) : (wordT n).length ≤ 10 := by
 unfold wordT
 split
 ·
  simp
 have h : ∀ l ∈ reasonL, l.length ≤ 10 := by decide
 rw [List.getD_eq_getElem?_getD]
 cases hq : reasonL[(n - 1).toNat]? with
 | none => simp
 | some l => exact h l (List.mem_of_getElem? hq)
def RsAt (w : World) : Prop := ∃ b o c, w.cell? ⟨0, 0, none⟩ = some (.slice (some ⟨b, o, none⟩) 10 c) ∧ b < w.heap.size ∧ 0 < w.heap.size ∧ ∀ i s, reasonL[i]? = some s → w.cell? ⟨b, o + i, none⟩ = some (.string ⟨s.toArray⟩)
structure TabsR (w : World) : Prop where
 pow : Lib.TabIs Tryd.prog w "internal/strconv.uint64pow10" .u64 Lib.pow10Tab
 rs : RsAt w
theorem TabsR.on {w w' : World} (h : TabsR w) (hb : Below w.heap.size w w') : TabsR w' := by
 obtain ⟨b, o, c, h1, h2, h3, h4⟩ := h.rs
 exact ⟨Go.Joins.tab_stays (show Tryd.prog.globalNamed "internal/strconv.uint64pow10" = some 2 by kernel_rfl) h.pow hb (Nat.le_refl _), b, o, c, (hb.cell h3).trans h1, Nat.lt_of_lt_of_le h2 hb.size, Nat.lt_of_lt_of_le h3 hb.size, fun i s hi => (hb.cell h2).trans (h4 i s hi)⟩
theorem itoa_ne (n : Int) : Lib.itoa n ≠ [] := by
 unfold Lib.itoa
 split
 ·
  simp
 intro h
 have h2 := congrArg List.length h
 rw [Lib.decDigits_length] at h2
 unfold Lib.nDigits at h2
 split at h2 <;> simp at h2
theorem itoa_any (n : Int) (hn : I64 n) (w : World) (h : TabsR w) : Calls Tryd.prog 15 #[.int .i64 n] w fun e w' => e = .returned (.string ⟨(Lib.itoa n).toArray⟩) ∧ Below w.heap.size w w' :=
 (Tryd.strconv_Itoa n hn.1 hn.2 w h.pow).mono fun _ _ ⟨h1, k, os, h2⟩ => ⟨h1, h2 ▸ Lib.below_grow _ _ (Nat.le_refl _) k os⟩
theorem join_bound : ∀ (path : List Int), (∀ z ∈ path, I64 z) → Lib.lens (path.map Lib.itoa) ≤ 21 * path.length
 | [], _ => by simp [Lib.lens]
 | z :: r, h => by
  have h1 := Lib.itoa_length_le z (h z (by simp)).1 (h z (by simp)).2
  have h2 := join_bound r (fun y hy => h y (by simp [hy]))
  simp only [List.map_cons, Lib.lens, List.sum_cons, List.length_cons] at *
  omega
theorem join_le (path : List Int) (h : ∀ z ∈ path, I64 z) : (Lib.join (path.map Lib.itoa) [46]).length ≤ 22 * path.length := by
 cases path with
 | nil => simp [Lib.join_nil]
 | cons z r =>
  have h2 := join_bound (z :: r) h
  rw [List.map_cons, Lib.join_length]
  rw [List.map_cons] at h2
  simp only [List.length_map, List.length_cons, List.length_nil] at *
  omega
theorem join_ne (path : List Int) (h : path ≠ []) : Lib.join (path.map Lib.itoa) [46] ≠ [] := by
 cases path with
 | nil => exact absurd rfl h
 | cons z r =>
  intro h2
  rw [List.map_cons, Lib.join_cons] at h2
  exact itoa_ne z (List.append_eq_nil_iff.1 h2).1
theorem ret_strB {b : ByteArray} {l : List UInt8} (h : b = ⟨l.toArray⟩) : Ending.returned (.string b) = .returned (.string ⟨l.toArray⟩) := by rw [h]
theorem ba_app (a b : List UInt8) : (⟨a.toArray⟩ : ByteArray) ++ ⟨b.toArray⟩ = ⟨(a ++ b).toArray⟩ := by apply ByteArray.ext; simp
theorem strs_toList (l : List (List UInt8)) : (l.map fun x => (⟨x.toArray⟩ : ByteArray)).map (·.data.toList) = l := by
 induction l with
 | nil => rfl
 | cons x r ih => simp only [List.map_cons] at *; rw [ih]
theorem join_any (path : List Int) (v : Value) (w : World) (L : Nat) (hp : ∀ z ∈ path, I64 z) (hl : path.length ≤ 1000) (ho : w.ownsRow L 9 1 v path.length ((path.map Lib.itoa).map SB)) :
  Calls Tryd.prog 16 #[v, .string ⟨#[46]⟩] w fun e w' => e = .returned (.string ⟨(Lib.join (path.map Lib.itoa) [46]).toArray⟩) ∧ Below w.heap.size w w' := by
 by_cases h0 : path = []
 ·
  subst h0
  obtain ⟨A, c, rfl⟩ := own_form ho
  exact (Tryd.strings_Join_none A c _ w).mono fun _ _ ⟨h1, h2⟩ => ⟨h1, h2 ▸ Below.refl _ _⟩
 have hpos : 0 < path.length := List.length_pos_iff.2 h0
 obtain ⟨g, c, rfl, _, hg, hc, hcell⟩ := own_pos ho hpos
 have hj := join_le path hp
 have := Tryd.strings_Join g 0 c ((path.map Lib.itoa).map fun x => (⟨x.toArray⟩ : ByteArray)) ⟨#[46]⟩ w (fun j x hx => by
  rw [List.getElem?_map] at hx
  obtain ⟨y, hy, rfl⟩ := Option.map_eq_some_iff.1 hx
  have := hcell j (SB y) (by rw [List.getElem?_map, hy]; rfl)
  rw [Nat.zero_add]; exact this) hg (by simp; omega) (by simpa using hc) (by rw [strs_toList]; show (Lib.join _ [46]).length ≤ _; omega)
 rw [strs_toList] at this
 simpa using this
theorem reason_word {n : Int} {w : World} (h1 : ¬ n < 1) (h2 : ¬ 10 < n) (h : RsAt w) : ∃ b o c, w.cell? ⟨0, 0, none⟩ = some (.slice (some ⟨b, o, none⟩) 10 c) ∧ w.cell? ⟨b, o + (n.toNat - 1), none⟩ = some (.string ⟨(wordT n).toArray⟩) := by
 obtain ⟨b, o, c, h3, h4, h5, h6⟩ := h
 rw [show n.toNat - 1 = (n - 1).toNat by omega]
 refine ⟨b, o, c, h3, h6 _ _ ?_⟩
 unfold wordT
 rw [if_neg (by omega), List.getD_eq_getElem?_getD, List.getElem?_eq_getElem (show (n - 1).toNat < reasonL.length by show _ < 10; omega)]
 rfl
set_option maxRecDepth 100000 in
theorem reason_any (path : List Int) (vp : Value) (n : Int) (w : World) (hl : path.length ≤ 1000) (hpi : ∀ z ∈ path, I64 z) (hp : Rd w w.heap.size 1 vp path.length (path.map V64i)) (hT : TabsR w) :
  Calls Tryd.prog 7 #[.agg #[vp, .int .i64 n]] w fun e w' => e = .returned (.string ⟨(reasonT path n).toArray⟩) ∧ Below w.heap.size w w' := by
 obtain ⟨Ap, cp, rfl, -⟩ := hp.form
 have HP := Lib.hid hp
 have HT := Lib.hid hT
 have HI := Lib.hid hpi
 clear hp hT hpi
 go_enter Tryd.func7, Tryd.ntmps7
 go_upto_region 1 with fail
 obtain ⟨wd2, hE3⟩ : ∃ ww, ww = w.alloc (.cells #[.slice Ap path.length cp, .int .i64 n] 26) := ⟨_, rfl⟩
 rw [← hE3]
 have hb1 := aB hE3
 have F := aN hE3
 clear hE3
 have hw4 := hb1
 clear hb1
 have cF_0 : wd2.cell? ⟨w.heap.size, 0, none⟩ = some (.slice Ap path.length cp) := F.out.cell 0
 have cF_1 : wd2.cell? ⟨w.heap.size, 1, none⟩ = some (.int .i64 n) := F.out.cell 1
 have hl0 : Hid (Has wd2 w.heap.size _ _ ∧ Below w.heap.size w wd2) := Lib.hid ⟨F.out, hw4⟩
 go_upto_region 3 with fail
 clear F
 go_loopw [10, 3] (fun i s wr => ∃ k : Nat, k ≤ path.length ∧ i = .int .i64 (k : Int) ∧ wr.ownsRow (w.heap.size + 1) 9 1 s k (((path.take k).map Lib.itoa).map SB) ∧ Has wr w.heap.size 26 #[.slice Ap path.length cp, .int .i64 n] ∧ Below w.heap.size w wr) (fun i _ _ => path.length - (intOf i).toNat)
 case atStart => exact ⟨0, by omega, rfl, World.ownsRow_nil _ _ _ _, hl0.out⟩
 case round =>
  clear hl0
  obtain ⟨k, hk, rfl, hown, F, hbr⟩ := hrel
  replace F := Lib.hid F
  by_cases hlt : k < path.length
  ·
   obtain ⟨b, o, rfl, hbb, hcell⟩ := HP.out.at_ (by omega)
   have a0 : wr.cell? ⟨b, o + k, none⟩ = some (.int .i64 path[k]) := ((hbr).cell (p := ⟨b, o + k, none⟩) hbb).trans (hcell k _ (by simp [hlt, V64i]))
   have hiz := HI.out path[k] (List.getElem_mem hlt)
   have htk : ((path.take (k + 1)).map Lib.itoa).map SB = ((path.take k).map Lib.itoa).map SB ++ [SB (Lib.itoa path[k])] := by rw [List.take_succ_eq_append_getElem hlt, List.map_append, List.map_append]; rfl
   have Htk := Lib.hid htk
   have hlti : (k : Int) < path.length := by omega
   clear hcell htk
   generalize path[k] = z at *
   go_upto_region 5 with fail
   clear a0
   go_wp2_with fail
   have RW := Lib.hid (Kept.own hown)
   clear hown
   ((with_reducible refine (itoa_any z hiz _ (HT.out.on hbr)).mono ?_); rintro e wd5 ⟨rfl, hb6⟩)
   replace F := dB F hb6
   replace RW := dK RW hb6
   replace hbr := dT hbr hb6
   clear hb6
   have hFz := F.out.here
   have hown1 := RW.out.now
   go_wp2_with (at_builtin; refine wpList_append_one rfl _ _ _ rfl (w.heap.size + 1) 9 _ 1 16 Tryd.underlying52 inf_str rfl (by decide) _ k _ rfl hown1 [_] _ 1 rfl rfl (by simp [Value.oneCell']) (by omega) (by omega) (by omega) ?_; intro v' w2 hown2 hb2)
   go_roundw
   case rel => exact ⟨k + 1, by omega, by go_num, by rw [Htk.out]; exact hown2, (hb2.block _ (by omega)).trans F.out, (hbr).trans (hb2.mono (by omega))⟩
   case measure => simp [intOf]; omega
  obtain rfl : k = path.length := by omega
  rw [List.take_length] at hown
  have hlti : ¬ (path.length : Int) < path.length := by omega
  go_wp2_with fail
  ((with_reducible refine (join_any path _ _ _ HI.out hl hown).mono ?_); rintro e wd7 ⟨rfl, hb8⟩)
  replace F := dB F hb8
  replace hbr := dT hbr hb8
  clear hb8
  clear hown
  have HR : Hid (reasonT path n = pathT path ++ 32 :: wordT n) := Lib.hid rfl
  have hpt : Hid (pathT path = if path = [] then [45] else Lib.join (path.map Lib.itoa) [46]) := Lib.hid rfl
  have hjn := join_ne path
  have hjl := join_le path HI.out
  have hj0 : path = [] → Lib.join (path.map Lib.itoa) [46] = [] := fun h => by subst h; rfl
  generalize Lib.join (path.map Lib.itoa) [46] = J at *
  by_cases h0 : path = []
  ·
   obtain rfl := hj0 h0
   have hpt : Hid (pathT path = [45]) := by show _ = _; rw [hpt.out, if_pos h0]
   clear hj0 hjn h0
   by_cases h1 : n < 1
   ·
    have cF_1 : wd7.cell? ⟨w.heap.size, 1, none⟩ = some (.int .i64 n) := F.out.cell 1
    go_wp2_with fail
    go_ret
    exact ⟨ret_strB (by rw [HR.out, hpt.out, wordT, if_pos (.inl h1)]; exact ba_app [45] _), hbr⟩
   by_cases h2 : 10 < n
   ·
    obtain ⟨bg, og, cg, g0, -⟩ := (HT.out.on hbr).rs
    have cF_1 : wd7.cell? ⟨w.heap.size, 1, none⟩ = some (.int .i64 n) := F.out.cell 1
    go_wp2_with fail
    go_ret
    exact ⟨ret_strB (by rw [HR.out, hpt.out, wordT, if_pos (.inr h2)]; exact ba_app [45] _), hbr⟩
   obtain ⟨bg, og, cg, g0, g1⟩ := reason_word h1 h2 (HT.out.on hbr).rs
   have cF_1 : wd7.cell? ⟨w.heap.size, 1, none⟩ = some (.int .i64 n) := F.out.cell 1
   have hw0 : IntKind.i64.wrap (n - 1) = n - 1 := IntWalk.i64_in _ (by omega)
   have hd0 : decide (n - 1 < 0) = false := decide_eq_false (by omega)
   have hd1 : decide (10 ≤ (n - 1).toNat) = false := decide_eq_false (by omega)
   have hwl := wordT_len n
   generalize wordT n = wt at *
   go_wp2_with fail
   go_ret
   exact ⟨ret_strB (by rw [HR.out, hpt.out]; exact (congrArg (· ++ _) (ba_app [45] [32])).trans ((ba_app _ _).trans (by simp))), hbr⟩
  have hpt : Hid (pathT path = J) := by show _ = _; rw [hpt.out, if_neg h0]
  have hje : J.isEmpty = false := by
   cases J with
   | nil => exact absurd rfl (hjn h0)
   | cons => rfl
  clear hj0 hjn h0
  by_cases h1 : n < 1
  ·
   have cF_1 : wd7.cell? ⟨w.heap.size, 1, none⟩ = some (.int .i64 n) := F.out.cell 1
   go_wp2_with fail
   go_ret
   exact ⟨ret_strB (by rw [HR.out, hpt.out, wordT, if_pos (.inl h1)]; exact ba_app _ _), hbr⟩
  by_cases h2 : 10 < n
  ·
   obtain ⟨bg, og, cg, g0, -⟩ := (HT.out.on hbr).rs
   have cF_1 : wd7.cell? ⟨w.heap.size, 1, none⟩ = some (.int .i64 n) := F.out.cell 1
   go_wp2_with fail
   go_ret
   exact ⟨ret_strB (by rw [HR.out, hpt.out, wordT, if_pos (.inr h2)]; exact ba_app _ _), hbr⟩
  obtain ⟨bg, og, cg, g0, g1⟩ := reason_word h1 h2 (HT.out.on hbr).rs
  have cF_1 : wd7.cell? ⟨w.heap.size, 1, none⟩ = some (.int .i64 n) := F.out.cell 1
  have hw0 : IntKind.i64.wrap (n - 1) = n - 1 := IntWalk.i64_in _ (by omega)
  have hd0 : decide (n - 1 < 0) = false := decide_eq_false (by omega)
  have hd1 : decide (10 ≤ (n - 1).toNat) = false := decide_eq_false (by omega)
  have hwl := wordT_len n
  generalize wordT n = wt at *
  go_wp2_with fail
  go_ret
  exact ⟨ret_strB (by rw [HR.out, hpt.out]; exact (congrArg (· ++ _) (ba_app _ [32])).trans ((ba_app _ _).trans (by simp))), hbr⟩
end Go.Proofs.YtccmmibkihbobaaDoor

/- What schema.symbols computes. No condition. -/
import Derived.Test.YtccmmibkihbobaaDoorHAE
import Derived.Test.YtccmmibkihbobaaDoorHAF
set_option maxHeartbeats 1600000
namespace Go.Proofs.YtccmmibkihbobaaDoor
open Go.ChangeShapes Go.WideShapes Go.ChangeAt Go.RowKit
theorem Two.kept {w : World} {B n1 n2 : Nat} {v1 v2 : Value} {xs1 xs2 : List Value} (h : Two w B v1 n1 xs1 v2 n2 xs2) : Kept (fun w => Two w B v1 n1 xs1 v2 n2 xs2) w B w.heap.size :=
 ⟨h, fun _ hk => h.heap hk, Nat.le_refl _⟩
def symB (l : List Raw) : Bool := decide (0 < l.length) && idsB l
theorem take_map {α β : Type} (f : α → β) (l : List α) (k : Nat) (h : k < l.length) : (l.take (k + 1)).map f = (l.take k).map f ++ [f l[k]] := by
 rw [List.take_succ_eq_append_getElem h, List.map_append]; rfl
def intV (r : Raw) : Value := .int .i64 r.1
def strV1 (r : Raw) : Value := .string ⟨r.2.toArray⟩
set_option maxRecDepth 100000 in
theorem symbols_any (l : List Raw) (va : Value) (w : World) (hl : l.length ≤ 6000000000000) (hri : ∀ r ∈ l, RawIn r) (h1 : Rd w w.heap.size 2 va l.length (rawsV l)) :
  Calls Tryd.prog 58 #[va] w fun e w' => e = .returned (.bool (symB l)) ∧ Below w.heap.size w w' := by
 obtain ⟨A, c, rfl, hca⟩ := h1.form
 have H1 := Lib.hid h1
 have HRI := Lib.hid hri
 clear h1 hri
 go_enter Tryd.func58, Tryd.ntmps58
 go_wp2_with fail
 go_loopw [3, 4, 9] (fun s3 s4 i wr => ∃ k : Nat, k ≤ l.length ∧ i = .int .i64 k ∧ Two wr w.heap.size s3 k ((l.take k).map intV) s4 k ((l.take k).map strV1) ∧ Below w.heap.size w wr) (fun _ _ i _ => l.length - (intOf i).toNat)
 case atStart => exact ⟨0, by omega, rfl, Two.nil _ _, Below.refl _ _⟩
 case round =>
  obtain ⟨k, hk, rfl, htw, hb⟩ := hrel
  by_cases hlt : k < l.length
  ·
   obtain ⟨b, o, rfl, hb1, hc1⟩ := (H1.out.below hb).at_ (by omega)
   obtain ⟨x1, x2⟩ := rawV_at hc1 k hlt
   have HT1 : Hid ((l.take (k + 1)).map intV = (l.take k).map intV ++ [.int .i64 l[k].1]) := take_map intV l k hlt
   have HT2 : Hid ((l.take (k + 1)).map strV1 = (l.take k).map strV1 ++ [.string ⟨l[k].2.toArray⟩]) := take_map strV1 l k hlt
   have hi1 : (k : Int) < l.length := by omega
   have hZ1 := htw.lt1
   have hZ2 := htw.lt2
   generalize l[k].1 = a at *
   generalize l[k].2 = s at *
   clear hc1
   have TW := Lib.hid (Two.kept htw)
   clear htw
   go_upto_region 6 with fail
   obtain ⟨wd2, hE3⟩ : ∃ ww, ww = wr.alloc (.cells #[.int .i64 a, .string ⟨s.toArray⟩] 105) := ⟨_, rfl⟩
   rw [← hE3]
   have hb1 := aB hE3
   have X := aN hE3
   clear hE3
   have hl5 := TW.out.le
   have hl6 := hb.size
   replace TW := dK TW hb1
   replace hb := dT hb hb1
   clear hb1
   generalize wr.heap.size = g4 at *
   clear x1 x2
   have cX_0 : wd2.cell? ⟨g4, 0, none⟩ = some (.int .i64 a) := X.out.cell 0
   have cX_1 : wd2.cell? ⟨g4, 1, none⟩ = some (.string ⟨s.toArray⟩) := X.out.cell 1
   refine wp_region_held_drew (S := (fun w' => w'.cell? ⟨g4, 0, none⟩ = some (.int .i64 a) ∧ w'.cell? ⟨g4, 1, none⟩ = some (.string ⟨s.toArray⟩))) (by kernel_rfl) ⟨cX_0, cX_1⟩ (fun hHeld => ?_)
   clear cX_0 cX_1
   have hb7 : Below wd2.heap.size wd2 (wd2.drew) := (Below.refl _ _).drew
   replace X := dB X hb7
   replace TW := dK TW hb7
   replace hb := dT hb hb7
   clear hb7
   generalize wd2.drew = wd8 at *
   refine wpAnyH_take (i := 0) (v := ?vk9) rfl (by kernel_rfl) (by kernel_rfl) (by kernel_rfl) (fun _ _ _ h => h) (Or.inl ⟨by rfl, ?hk9⟩) (by assumption) ?rk9
   case hk9 => (intro w hSw; (try dsimp only at hSw); go_simp; (first | done | with_reducible rfl))
   try simp only [put_laws]
   refine wpAnyH_take (i := 1) (v := ?vk10) rfl (by kernel_rfl) (by kernel_rfl) (by kernel_rfl) (fun _ _ _ h => h) (Or.inl ⟨by rfl, ?hk10⟩) (by assumption) ?rk10
   case hk10 => (intro w hSw; (try dsimp only at hSw); go_simp; (first | done | with_reducible rfl))
   try simp only [put_laws]
   refine wpAnyH_take (i := 2) (v := ?vk11) rfl (by kernel_rfl) (by kernel_rfl) (by kernel_rfl) (fun _ _ _ h => h) (Or.inl ⟨by rfl, ?hk11⟩) (by assumption) ?rk11
   case hk11 => (intro w hSw; (try dsimp only at hSw); go_simp; (first | done | with_reducible rfl))
   try simp only [put_laws]
   refine wpAnyH_take (i := 5) (v := ?vk12) rfl (by kernel_rfl) (by kernel_rfl) (by kernel_rfl) (fun _ _ _ h => h) (Or.inl ⟨by rfl, ?hk12⟩) (by assumption) ?rk12
   case hk12 => (intro w hSw; (try dsimp only at hSw); go_simp; (first | done | with_reducible rfl))
   try simp only [put_laws]
   refine wpAnyH_take (i := 6) (v := ?vk13) rfl (by kernel_rfl) (by kernel_rfl) (by kernel_rfl) (fun _ _ _ h => h) (Or.inl ⟨by rfl, ?hk13⟩) (by assumption) ?rk13
   case hk13 => (intro w hSw; (try dsimp only at hSw); go_simp; (first | done | with_reducible rfl))
   try simp only [put_laws]
   refine wpAnyH_take (i := 7) (v := ?vk14) rfl (by kernel_rfl) (by kernel_rfl) (by kernel_rfl) (fun _ _ _ h => h) (Or.inl ⟨by rfl, ?hk14⟩) (by assumption) ?rk14
   case hk14 => (intro w hSw; (try dsimp only at hSw); go_simp; (first | done | with_reducible rfl))
   try simp only [put_laws]
   refine wpAnyH_ready (rs := [3, 8]) (by kernel_rfl) (by simp) ?_
   refine AllReadyH.cons rfl (fun K hK => ?_) (AllReadyH.cons rfl (fun K hK => ?_) (AllReadyH.nil))
   ·
    skip
    go_simp
    obtain ⟨wd16, hE17⟩ : ∃ ww, ww = wd8.alloc (.cells #[.int .i64 a] 3) := ⟨_, rfl⟩
    rw [← hE17]
    have hb15 := aB hE17
    have N1 := aN hE17
    clear hE17
    have hl19 := X.out.here
    have hl20 := TW.out.le
    have hl21 := hb.size
    replace X := dB X hb15
    replace TW := dK TW hb15
    replace hb := dT hb hb15
    clear hb15
    generalize wd8.heap.size = g18 at *
    try clear hHeld
    refine hK.out _ _ (⟨X.out.cell 0, X.out.cell 1⟩) (fun hHeld => ?_)
    clear hK K
    refine wpAnyH_ready (rs := [4, 8]) (by kernel_rfl) (by simp) ?_
    refine AllReadyH.cons rfl (fun K hK => ?_) (AllReadyH.cons rfl (fun K hK => ?_) (AllReadyH.nil))
    ·
     skip
     refine step_two1 (by rfl) _ _ (by rfl) TW.out.now (.int .i64 a) (by rfl) N1.out (by rfl) rfl (by omega) (hb).size ?_
     intro v1' w1 htw hbB hkk
     clear TW
     replace X := dG X hkk (fun hh => by have := hZ1 _ hh; omega)
     replace N1 := dG N1 hkk (fun hh => by have := hZ1 _ hh; omega)
     replace hb := hb.trans (hbB.mono (show w.heap.size ≤ w.heap.size by omega))
     have TW := Lib.hid (Two.kept htw)
     clear htw hkk hbB
     try clear hHeld
     refine hK.out _ _ (⟨X.out.cell 0, X.out.cell 1⟩) (fun hHeld => ?_)
     clear hK K
     refine wpAnyH_ready (rs := [8]) (by kernel_rfl) (by simp) ?_
     refine AllReadyH.cons rfl (fun K hK => ?_) (AllReadyH.nil)
     go_simp
     obtain ⟨wd23, hE24⟩ : ∃ ww, ww = w1.alloc (.cells #[.string ⟨s.toArray⟩] 9) := ⟨_, rfl⟩
     rw [← hE24]
     have hb22 := aB hE24
     have N2 := aN hE24
     clear hE24
     have hl26 := X.out.here
     have hl27 := N1.out.here
     have hl28 := TW.out.le
     have hl29 := hb.size
     replace X := dB X hb22
     replace N1 := dB N1 hb22
     replace TW := dK TW hb22
     replace hb := dT hb hb22
     clear hb22
     generalize w1.heap.size = g25 at *
     try clear hHeld
     refine hK.out _ _ (⟨X.out.cell 0, X.out.cell 1⟩) (fun hHeld => ?_)
     clear hK K
     refine wpAnyH_ready (rs := [9]) (by kernel_rfl) (by simp) ?_
     refine AllReadyH.cons rfl (fun K hK => ?_) (AllReadyH.nil)
     refine step_two2 (by rfl) _ _ (by rfl) TW.out.now (.string ⟨s.toArray⟩) (by rfl) N2.out (by rfl) rfl (by omega) (hb).size ?_
     intro v2' w1 htw hbB hkk
     clear TW
     replace X := dG X hkk (fun hh => by have := hZ2 _ hh; omega)
     replace N1 := dG N1 hkk (fun hh => by have := hZ2 _ hh; omega)
     replace N2 := dG N2 hkk (fun hh => by have := hZ2 _ hh; omega)
     replace hb := hb.trans (hbB.mono (show w.heap.size ≤ w.heap.size by omega))
     have TW := Lib.hid (Two.kept htw)
     clear htw hkk hbB
     try clear hHeld
     refine hK.out _ _ (⟨X.out.cell 0, X.out.cell 1⟩) (fun hHeld => ?_)
     clear hK K
     refine wpAnyH_take (i := 10) (v := ?vk30) rfl (by kernel_rfl) (by kernel_rfl) (by kernel_rfl) (fun _ _ _ h => h) (Or.inl ⟨by rfl, ?hk30⟩) (by assumption) ?rk30
     case hk30 => (intro w hSw; (try dsimp only at hSw); go_simp; (first | done | with_reducible rfl))
     try simp only [put_laws]
     refine wpAnyH_take (i := 11) (v := ?vk31) rfl (by kernel_rfl) (by kernel_rfl) (by kernel_rfl) (fun _ _ _ h => h) (Or.inl ⟨by rfl, ?hk31⟩) (by assumption) ?rk31
     case hk31 => (intro w hSw; (try dsimp only at hSw); go_simp; (first | done | with_reducible rfl))
     try simp only [put_laws]
     refine wpAnyH_done (by kernel_rfl) ?_ _
     try clear hHeld
     go_wp2_with fail
     go_roundw
     case rel => exact ⟨k + 1, by omega, by go_num, by rw [HT1.out, HT2.out]; exact TW.out.now, hb⟩
     case measure => simp [intOf]; omega
    skip
    go_simp
    obtain ⟨wd33, hE34⟩ : ∃ ww, ww = wd16.alloc (.cells #[.string ⟨s.toArray⟩] 9) := ⟨_, rfl⟩
    rw [← hE34]
    have hb32 := aB hE34
    have N2 := aN hE34
    clear hE34
    have hl36 := X.out.here
    have hl37 := N1.out.here
    have hl38 := TW.out.le
    have hl39 := hb.size
    replace X := dB X hb32
    replace N1 := dB N1 hb32
    replace TW := dK TW hb32
    replace hb := dT hb hb32
    clear hb32
    generalize wd16.heap.size = g35 at *
    try clear hHeld
    refine hK.out _ _ (⟨X.out.cell 0, X.out.cell 1⟩) (fun hHeld => ?_)
    clear hK K
    refine wpAnyH_ready (rs := [4]) (by kernel_rfl) (by simp) ?_
    refine AllReadyH.cons rfl (fun K hK => ?_) (AllReadyH.nil)
    refine step_two1 (by rfl) _ _ (by rfl) TW.out.now (.int .i64 a) (by rfl) N1.out (by rfl) rfl (by omega) (hb).size ?_
    intro v1' w1 htw hbB hkk
    clear TW
    replace X := dG X hkk (fun hh => by have := hZ1 _ hh; omega)
    replace N1 := dG N1 hkk (fun hh => by have := hZ1 _ hh; omega)
    replace N2 := dG N2 hkk (fun hh => by have := hZ1 _ hh; omega)
    replace hb := hb.trans (hbB.mono (show w.heap.size ≤ w.heap.size by omega))
    have TW := Lib.hid (Two.kept htw)
    clear htw hkk hbB
    try clear hHeld
    refine hK.out _ _ (⟨X.out.cell 0, X.out.cell 1⟩) (fun hHeld => ?_)
    clear hK K
    refine wpAnyH_ready (rs := [9]) (by kernel_rfl) (by simp) ?_
    refine AllReadyH.cons rfl (fun K hK => ?_) (AllReadyH.nil)
    refine step_two2 (by rfl) _ _ (by rfl) TW.out.now (.string ⟨s.toArray⟩) (by rfl) N2.out (by rfl) rfl (by omega) (hb).size ?_
    intro v2' w1 htw hbB hkk
    clear TW
    replace X := dG X hkk (fun hh => by have := hZ2 _ hh; omega)
    replace N1 := dG N1 hkk (fun hh => by have := hZ2 _ hh; omega)
    replace N2 := dG N2 hkk (fun hh => by have := hZ2 _ hh; omega)
    replace hb := hb.trans (hbB.mono (show w.heap.size ≤ w.heap.size by omega))
    have TW := Lib.hid (Two.kept htw)
    clear htw hkk hbB
    try clear hHeld
    refine hK.out _ _ (⟨X.out.cell 0, X.out.cell 1⟩) (fun hHeld => ?_)
    clear hK K
    refine wpAnyH_take (i := 10) (v := ?vk40) rfl (by kernel_rfl) (by kernel_rfl) (by kernel_rfl) (fun _ _ _ h => h) (Or.inl ⟨by rfl, ?hk40⟩) (by assumption) ?rk40
    case hk40 => (intro w hSw; (try dsimp only at hSw); go_simp; (first | done | with_reducible rfl))
    try simp only [put_laws]
    refine wpAnyH_take (i := 11) (v := ?vk41) rfl (by kernel_rfl) (by kernel_rfl) (by kernel_rfl) (fun _ _ _ h => h) (Or.inl ⟨by rfl, ?hk41⟩) (by assumption) ?rk41
    case hk41 => (intro w hSw; (try dsimp only at hSw); go_simp; (first | done | with_reducible rfl))
    try simp only [put_laws]
    refine wpAnyH_done (by kernel_rfl) ?_ _
    try clear hHeld
    go_wp2_with fail
    go_roundw
    case rel => exact ⟨k + 1, by omega, by go_num, by rw [HT1.out, HT2.out]; exact TW.out.now, hb⟩
    case measure => simp [intOf]; omega
   skip
   go_simp
   obtain ⟨wd43, hE44⟩ : ∃ ww, ww = wd8.alloc (.cells #[.string ⟨s.toArray⟩] 9) := ⟨_, rfl⟩
   rw [← hE44]
   have hb42 := aB hE44
   have N2 := aN hE44
   clear hE44
   have hl46 := X.out.here
   have hl47 := TW.out.le
   have hl48 := hb.size
   replace X := dB X hb42
   replace TW := dK TW hb42
   replace hb := dT hb hb42
   clear hb42
   generalize wd8.heap.size = g45 at *
   try clear hHeld
   refine hK.out _ _ (⟨X.out.cell 0, X.out.cell 1⟩) (fun hHeld => ?_)
   clear hK K
   refine wpAnyH_ready (rs := [3]) (by kernel_rfl) (by simp) ?_
   refine AllReadyH.cons rfl (fun K hK => ?_) (AllReadyH.nil)
   go_simp
   obtain ⟨wd50, hE51⟩ : ∃ ww, ww = wd43.alloc (.cells #[.int .i64 a] 3) := ⟨_, rfl⟩
   rw [← hE51]
   have hb49 := aB hE51
   have N1 := aN hE51
   clear hE51
   have hl53 := X.out.here
   have hl54 := N2.out.here
   have hl55 := TW.out.le
   have hl56 := hb.size
   replace X := dB X hb49
   replace N2 := dB N2 hb49
   replace TW := dK TW hb49
   replace hb := dT hb hb49
   clear hb49
   generalize wd43.heap.size = g52 at *
   try clear hHeld
   refine hK.out _ _ (⟨X.out.cell 0, X.out.cell 1⟩) (fun hHeld => ?_)
   clear hK K
   refine wpAnyH_ready (rs := [4]) (by kernel_rfl) (by simp) ?_
   refine AllReadyH.cons rfl (fun K hK => ?_) (AllReadyH.nil)
   refine step_two1 (by rfl) _ _ (by rfl) TW.out.now (.int .i64 a) (by rfl) N1.out (by rfl) rfl (by omega) (hb).size ?_
   intro v1' w1 htw hbB hkk
   clear TW
   replace X := dG X hkk (fun hh => by have := hZ1 _ hh; omega)
   replace N2 := dG N2 hkk (fun hh => by have := hZ1 _ hh; omega)
   replace N1 := dG N1 hkk (fun hh => by have := hZ1 _ hh; omega)
   replace hb := hb.trans (hbB.mono (show w.heap.size ≤ w.heap.size by omega))
   have TW := Lib.hid (Two.kept htw)
   clear htw hkk hbB
   try clear hHeld
   refine hK.out _ _ (⟨X.out.cell 0, X.out.cell 1⟩) (fun hHeld => ?_)
   clear hK K
   refine wpAnyH_ready (rs := [9]) (by kernel_rfl) (by simp) ?_
   refine AllReadyH.cons rfl (fun K hK => ?_) (AllReadyH.nil)
   refine step_two2 (by rfl) _ _ (by rfl) TW.out.now (.string ⟨s.toArray⟩) (by rfl) N2.out (by rfl) rfl (by omega) (hb).size ?_
   intro v2' w1 htw hbB hkk
   clear TW
   replace X := dG X hkk (fun hh => by have := hZ2 _ hh; omega)
   replace N2 := dG N2 hkk (fun hh => by have := hZ2 _ hh; omega)
   replace N1 := dG N1 hkk (fun hh => by have := hZ2 _ hh; omega)
   replace hb := hb.trans (hbB.mono (show w.heap.size ≤ w.heap.size by omega))
   have TW := Lib.hid (Two.kept htw)
   clear htw hkk hbB
   try clear hHeld
   refine hK.out _ _ (⟨X.out.cell 0, X.out.cell 1⟩) (fun hHeld => ?_)
   clear hK K
   refine wpAnyH_take (i := 10) (v := ?vk57) rfl (by kernel_rfl) (by kernel_rfl) (by kernel_rfl) (fun _ _ _ h => h) (Or.inl ⟨by rfl, ?hk57⟩) (by assumption) ?rk57
   case hk57 => (intro w hSw; (try dsimp only at hSw); go_simp; (first | done | with_reducible rfl))
   try simp only [put_laws]
   refine wpAnyH_take (i := 11) (v := ?vk58) rfl (by kernel_rfl) (by kernel_rfl) (by kernel_rfl) (fun _ _ _ h => h) (Or.inl ⟨by rfl, ?hk58⟩) (by assumption) ?rk58
   case hk58 => (intro w hSw; (try dsimp only at hSw); go_simp; (first | done | with_reducible rfl))
   try simp only [put_laws]
   refine wpAnyH_done (by kernel_rfl) ?_ _
   try clear hHeld
   go_wp2_with fail
   go_roundw
   case rel => exact ⟨k + 1, by omega, by go_num, by rw [HT1.out, HT2.out]; exact TW.out.now, hb⟩
   case measure => simp [intOf]; omega
  obtain rfl : k = l.length := by omega
  rw [List.take_of_length_le (Nat.le_refl _)] at htw
  have hr1 := Rd.of_own htw.o1
  have hr2 := Rd.of_own htw.o2
  have HI := Lib.hid (sids_any l _ _ wr (by omega) HRI.out hr1 hr2)
  clear htw hr1 hr2
  by_cases h0 : l.length = 0
  ·
   have Hs : Hid (symB l = false) := by show _ = _; unfold symB; rw [h0]; rfl
   have Hn := Lib.hid (List.eq_nil_of_length_eq_zero h0)
   have hd : decide (0 < l.length) = false := decide_eq_false (by omega)
   clear h0
   go_wp2_with fail
   go_ret
   exact ⟨ret_bool Hs.out.symm, hb⟩
  have Hs : Hid (symB l = idsB l) := by show _ = _; unfold symB; rw [decide_eq_true (by omega)]; rfl
  have hd : decide (0 < l.length) = true := decide_eq_true (by omega)
  have hd2 : (0 : Int) < l.length := by omega
  clear h0
  go_wp2_with fail
  refine HI.out.mono ?_
  rintro e w2 ⟨rfl, hb2⟩
  go_wp2_with fail
  go_ret
  exact ⟨ret_bool Hs.out.symm, hb.trans (hb2.mono hb.size)⟩
end Go.Proofs.YtccmmibkihbobaaDoor

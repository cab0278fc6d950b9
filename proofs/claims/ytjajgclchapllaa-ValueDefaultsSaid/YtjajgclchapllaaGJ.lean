/- What schema.ids computes: IDs ascend, names differ and are names. What schema.symbols computes. What sheaveref07.symbols computes. No condition. -/
import Derived.Test.YtjajgclchapllaaGA
import Derived.Test.YtjajgclchapllaaFitsD
import Derived.Test.YtjajgclchapllaaGD
import Derived.Deep.QuietTactic
import Derived.BigQuiet
namespace Go.Proofs.Ytjajgclchapllaa
open Go.ChangeShapes Go.WideShapes Go.ChangeAt Go.RowKit
def idsG : List Raw → Option Int → List (List UInt8) → Bool
 | [], _, _ => true
 | r :: l, p, S => freeB r.1 && (ltP p r.1 && (!S.contains r.2 && (nameB r.2 && idsG l (some r.1) (S ++ [r.2]))))
def idsB (l : List Raw) : Bool := idsG l none [] && decide (l.length ≤ 16)
theorem idsG_at (l : List Raw) (k : Nat) (h : k < l.length) (S : List (List UInt8)) (p : Option Int) :
  idsG (l.drop k) p S = (freeB l[k].1 && (ltP p l[k].1 && (!S.contains l[k].2 && (nameB l[k].2 && idsG (l.drop (k+1)) (some l[k].1) (S ++ [l[k].2]))))) := by
 rw [List.drop_eq_getElem_cons h, idsG]
theorem names_succ (l : List Raw) (k : Nat) (h : k < l.length) : (l.take k).map Prod.snd ++ [l[k].2] = (l.take (k+1)).map Prod.snd := by
 rw [List.take_succ_eq_append_getElem h, List.map_append]; rfl
theorem free_lo (a : Int) (h : a < 1) : freeB a = false := by unfold freeB; simp; omega
theorem free_hi (a : Int) (h : 1000 < a) : freeB a = false := by unfold freeB; simp; omega
theorem free_ok (a : Int) (h1 : 1 ≤ a) (h2 : a ≤ 1000) : freeB a = true := by unfold freeB; simp; omega
set_option maxRecDepth 100000 in
set_option maxHeartbeats 1600000 in
theorem sids_any (l : List Raw) (va vn : Value) (w : World) (hl : l.length ≤ 6000000000000) (hri : ∀ r ∈ l, RawIn r) (h1 : Rd w w.heap.size 1 va l.length (l.map fun r => .int .i64 r.1)) (h2 : Rd w w.heap.size 1 vn l.length (l.map fun r => .string ⟨r.2.toArray⟩)) :
  Calls Try.prog 104 #[va, vn] w fun e w' => e = .returned (.bool (idsB l)) ∧ Below w.heap.size w w' := by
 obtain ⟨A, c, rfl, hca⟩ := h1.form
 obtain ⟨B, d, rfl, hcb⟩ := h2.form
 have H1 := Lib.hid h1
 have H2 := Lib.hid h2
 have hmm := @run_makeMap Try.prog
 have HRI := Lib.hid hri
 clear h1 h2 hri
 go_enter Try.func104, Try.ntmps104
 go_wp2_with fail
 clear hmm
 go_loopw [11] (fun i wr => ∃ k : Nat, k ≤ l.length ∧ i = .int .i64 k ∧ SetAt wr w.heap.size k ((l.take k).map Prod.snd) ∧ idsG l none [] = idsG (l.drop k) (prevOf l k) ((l.take k).map Prod.snd) ∧ Below w.heap.size w wr) (fun i _ => l.length - (intOf i).toNat)
 case atStart => exact ⟨0, by omega, rfl, SetAt.made w, by simp [prevOf], (Below.refl _ _).alloc (Nat.le_refl _) _⟩
 case round =>
  obtain ⟨k, hk, rfl, hset, hid, hb⟩ := hrel
  by_cases hlt : k < l.length
  ·
   obtain ⟨b1, o1, rfl, hb1, hc1⟩ := (H1.out.below hb).at_ (by omega)
   obtain ⟨b2, o2, rfl, hb2, hc2⟩ := (H2.out.below hb).at_ (by omega)
   have x1 := hc1 k (.int .i64 l[k].1) (by simp [hlt])
   have x2 := hc2 k (.string ⟨l[k].2.toArray⟩) (by simp [hlt])
   rw [idsG_at l k hlt] at hid
   have hsl := (HRI.out _ (List.getElem_mem hlt)).2
   obtain ⟨a, haq⟩ : ∃ a, l[k].1 = a := ⟨_, rfl⟩
   obtain ⟨s, hsq⟩ : ∃ s, l[k].2 = s := ⟨_, rfl⟩
   rw [haq] at x1 hid
   rw [hsq] at x2 hid hsl
   have hi1 : (k : Int) < l.length := by omega
   by_cases hk0 : k = 0
   ·
    have hp : ltP (prevOf l k) a = true := by simp [prevOf, ltP, hk0]
    have hkd : decide (0 < (k : Int)) = false := decide_eq_false (by omega)
    have hkd2 : (k : Int) ≤ 0 := by omega
    rw [hp, Bool.true_and] at hid
    clear hc1 hc2 hp hk0
    have hlook := hset.look s (by have := (HRI.out _ (List.getElem_mem hlt)).2; rw [hsq] at this; simp only [maxLen]; omega)
    by_cases ha1 : a < 1
    ·
     have Hno : Hid (idsB l = false) := by
      show _ = _
      unfold idsB; rw [hid, free_lo a ha1]; simp
     clear hid hlook hset
     go_wp2_with fail
     go_ret
     exact ⟨ret_bool Hno.out.symm, hb⟩
    by_cases ha2 : 1000 < a
    ·
     have Hno : Hid (idsB l = false) := by
      show _ = _
      unfold idsB; rw [hid, free_hi a ha2]; simp
     clear hid hlook hset
     go_wp2_with fail
     go_ret
     exact ⟨ret_bool Hno.out.symm, hb⟩
    rw [free_ok a (by omega) (by omega), Bool.true_and] at hid
    have ha3 : 1 ≤ a ∧ a ≤ 1000 := by omega
    clear ha1 ha2
    skip
    cases hc : ((l.take k).map Prod.snd).contains s with
    | true =>
     have Hno : Hid (idsB l = false) := by
      show _ = _
      unfold idsB; rw [hid, hc]; simp
     rw [hc] at hlook
     clear hid hset hc
     go_wp2_with fail
     go_ret
     exact ⟨ret_bool Hno.out.symm, hb⟩
    | false =>
     rw [hc] at hlook hid
     rw [Bool.not_false, Bool.true_and] at hid
     have hname := fun W => isname_any s W
     cases hn : nameB s with
     | false =>
      have Hno : Hid (idsB l = false) := by
       show _ = _
       unfold idsB; rw [hid, hn]; simp
      rw [hn] at hname
      have HN := Lib.hid hname
      clear hid hset hc hname hn
      go_wp2_with fail
      refine (HN.out _).mono ?_
      rintro e w2 ⟨rfl, rfl⟩
      go_wp2_with fail
      go_ret
      exact ⟨ret_bool Hno.out.symm, hb⟩
     | true =>
      rw [hn] at hname hid
      rw [Bool.true_and] at hid
      have HN := Lib.hid hname
      have Hid2 := Lib.hid hid
      have HSet := Lib.hid hset
      clear hid hset hc hname hn
      go_wp2_with fail
      refine (HN.out _).mono ?_
      rintro e w2 ⟨rfl, rfl⟩
      go_wp2_with (at_mapUpdate; refine wpList_put_set rfl _ _ _ rfl w.heap.size k _ rfl HSet.out (by unfold maxLen; omega) s rfl rfl (by unfold maxLen; omega) ?_; intro w3 hset3 hg3)
      have hb3 := hb.grown hg3 hb.size (fun j hj => by cases hj; exact Nat.le_refl _)
      have HS3 := Lib.hid hset3
      have HB3 := Lib.hid hb3
      clear hset3 hg3 hb3 hlook
      go_wp2_with fail
      go_roundw
      case rel => exact ⟨k + 1, by omega, by go_num, by have h := HS3.out; rw [← hsq, names_succ l (k) hlt] at h; exact h, by rw [Hid2.out, ← hsq, names_succ l (k) hlt, prevOf_succ l (k) hlt, haq], HB3.out⟩
      case measure => simp [intOf]; omega
   ·
    obtain ⟨j, rfl⟩ : ∃ j, k = j + 1 := ⟨k - 1, by omega⟩
    have x0 := hc1 j (.int .i64 l[j].1) (by simp [show j < l.length by omega])
    rw [prevOf_succ l j (by omega)] at hid
    have hw2 : ((j : Int) + 1).toNat = j + 1 := by omega
    have hw3 : (j : Int) + 1 - 1 = j := by omega
    have hi2 : (j : Int) < l.length := by omega
    generalize l[j].1 = q at *
    clear hc1 hc2 hk0
    have hlook := hset.look s (by have := (HRI.out _ (List.getElem_mem hlt)).2; rw [hsq] at this; simp only [maxLen]; omega)
    by_cases ha1 : a < 1
    ·
     have Hno : Hid (idsB l = false) := by
      show _ = _
      unfold idsB; rw [hid, free_lo a ha1]; simp
     clear hid hlook hset
     go_wp2_with fail
     go_ret
     exact ⟨ret_bool Hno.out.symm, hb⟩
    by_cases ha2 : 1000 < a
    ·
     have Hno : Hid (idsB l = false) := by
      show _ = _
      unfold idsB; rw [hid, free_hi a ha2]; simp
     clear hid hlook hset
     go_wp2_with fail
     go_ret
     exact ⟨ret_bool Hno.out.symm, hb⟩
    rw [free_ok a (by omega) (by omega), Bool.true_and] at hid
    have ha3 : 1 ≤ a ∧ a ≤ 1000 := by omega
    clear ha1 ha2
    by_cases hle : a ≤ q
    ·
     have Hno : Hid (idsB l = false) := by
      show _ = _
      unfold idsB; rw [hid, show ltP (some q) a = false by simp [ltP]; omega]; simp
     clear hid hlook hset
     go_wp2_with fail
     go_ret
     exact ⟨ret_bool Hno.out.symm, hb⟩
    rw [show ltP (some q) a = true by simp [ltP]; omega, Bool.true_and] at hid
    have hle2 : q < a := by omega
    clear hle
    cases hc : ((l.take (j+1)).map Prod.snd).contains s with
    | true =>
     have Hno : Hid (idsB l = false) := by
      show _ = _
      unfold idsB; rw [hid, hc]; simp
     rw [hc] at hlook
     clear hid hset hc
     go_wp2_with fail
     go_ret
     exact ⟨ret_bool Hno.out.symm, hb⟩
    | false =>
     rw [hc] at hlook hid
     rw [Bool.not_false, Bool.true_and] at hid
     have hname := fun W => isname_any s W
     cases hn : nameB s with
     | false =>
      have Hno : Hid (idsB l = false) := by
       show _ = _
       unfold idsB; rw [hid, hn]; simp
      rw [hn] at hname
      have HN := Lib.hid hname
      clear hid hset hc hname hn
      go_wp2_with fail
      refine (HN.out _).mono ?_
      rintro e w2 ⟨rfl, rfl⟩
      go_wp2_with fail
      go_ret
      exact ⟨ret_bool Hno.out.symm, hb⟩
     | true =>
      rw [hn] at hname hid
      rw [Bool.true_and] at hid
      have HN := Lib.hid hname
      have Hid2 := Lib.hid hid
      have HSet := Lib.hid hset
      clear hid hset hc hname hn
      go_wp2_with fail
      refine (HN.out _).mono ?_
      rintro e w2 ⟨rfl, rfl⟩
      go_wp2_with (at_mapUpdate; refine wpList_put_set rfl _ _ _ rfl w.heap.size (j+1) _ rfl HSet.out (by unfold maxLen; omega) s rfl rfl (by unfold maxLen; omega) ?_; intro w3 hset3 hg3)
      have hb3 := hb.grown hg3 hb.size (fun j hj => by cases hj; exact Nat.le_refl _)
      have HS3 := Lib.hid hset3
      have HB3 := Lib.hid hb3
      clear hset3 hg3 hb3 hlook
      go_wp2_with fail
      go_roundw
      case rel => exact ⟨(j+1) + 1, by omega, by go_num, by have h := HS3.out; rw [← hsq, names_succ l ((j+1)) hlt] at h; exact h, by rw [Hid2.out, ← hsq, names_succ l ((j+1)) hlt, prevOf_succ l ((j+1)) hlt, haq], HB3.out⟩
      case measure => simp [intOf]; omega
  ·
   have hke : k = l.length := by omega
   rw [List.drop_eq_nil_of_le (by omega)] at hid
   have Hid2 := Lib.hid hid
   clear hid hset
   go_wp2_with fail
   go_ret
   exact ⟨ret_bool (by unfold idsB; rw [Hid2.out]; simp [idsG]; omega), hb⟩
end Go.Proofs.Ytjajgclchapllaa
namespace Go.Proofs.Ytjajgclchapllaa
open Go.ChangeShapes Go.WideShapes Go.ChangeAt Go.RowKit
theorem Two.kept {w : World} {B n1 n2 : Nat} {v1 v2 : Value} {xs1 xs2 : List Value} (h : Two w B v1 n1 xs1 v2 n2 xs2) : Kept (fun w => Two w B v1 n1 xs1 v2 n2 xs2) w B w.heap.size :=
 ⟨h, fun _ hk => h.heap hk, Nat.le_refl _⟩
def symB (l : List Raw) : Bool := decide (0 < l.length) && idsB l
theorem take_map {α β : Type} (f : α → β) (l : List α) (k : Nat) (h : k < l.length) : (l.take (k + 1)).map f = (l.take k).map f ++ [f l[k]] := by
 rw [List.take_succ_eq_append_getElem h, List.map_append]; rfl
def intV (r : Raw) : Value := .int .i64 r.1
def strV1 (r : Raw) : Value := .string ⟨r.2.toArray⟩
set_option maxRecDepth 100000 in
set_option maxHeartbeats 1600000 in
theorem symbols_any (l : List Raw) (va : Value) (w : World) (hl : l.length ≤ 6000000000000) (hri : ∀ r ∈ l, RawIn r) (h1 : Rd w w.heap.size 2 va l.length (rawsV l)) :
  Calls Try.prog 91 #[va] w fun e w' => e = .returned (.bool (symB l)) ∧ Below w.heap.size w w' := by
 obtain ⟨A, c, rfl, hca⟩ := h1.form
 have H1 := Lib.hid h1
 have HRI := Lib.hid hri
 clear h1 hri
 go_enter Try.func91, Try.ntmps91
 go_wp2_with fail
 go_loopw [3, 4, 9] (fun s3 s4 i wr => ∃ k : Nat, k ≤ l.length ∧ i = .int .i64 k ∧ Two wr w.heap.size s3 k ((l.take k).map intV) s4 k ((l.take k).map strV1) ∧ Below w.heap.size w wr) (fun _ _ i _ => l.length - (intOf i).toNat)
 case atStart => exact ⟨0, by omega, rfl, Two.nil _ _, Below.refl _ _⟩
 case round =>
  obtain ⟨k, hk, rfl, htw, hb⟩ := hrel
  by_cases hlt : k < l.length
  ·
   obtain ⟨b, o, rfl, hb1, hc1⟩ := (H1.out.below hb).at_ (by omega)
   obtain ⟨x1, x2⟩ := rawV_at hc1 k hlt
   have HT1 : Hid ((l.take (k + 1)).map intV = (l.take k).map intV ++ [.int .i64 l[k].1]) := take_map intV l k hlt
   have HT2 : Hid ((l.take (k + 1)).map strV1 = (l.take k).map strV1 ++ [.string ⟨l[k].2.toArray⟩]) := take_map strV1 l k hlt
   have hi1 : (k : Int) < l.length := by omega
   have hZ1 := htw.lt1
   have hZ2 := htw.lt2
   generalize l[k].1 = a at *
   generalize l[k].2 = s at *
   clear hc1
   have TW := Lib.hid (Two.kept htw)
   clear htw
   go_upto_region 6 with fail
   have hb1 := below_al (Below.refl wr.heap.size wr) (Nat.le_refl _) (.cells #[.int .i64 a, .string ⟨s.toArray⟩] 84)
   have X := Has.made wr 84 #[.int .i64 a, .string ⟨s.toArray⟩]
   have hl3 := TW.out.le
   have hl4 := hb.size
   replace TW := Lib.hid (TW.out.on hb1)
   replace hb := hb.trans (hb1.mono hb.size)
   replace X := Lib.hid X
   clear hb1
   generalize (wr.alloc (.cells #[.int .i64 a, .string ⟨s.toArray⟩] 84)) = wd5 at *
   generalize wr.heap.size = g2 at *
   clear x1 x2
   have cX_0 : wd5.cell? ⟨g2, 0, none⟩ = some (.int .i64 a) := X.out.cell 0
   have cX_1 : wd5.cell? ⟨g2, 1, none⟩ = some (.string ⟨s.toArray⟩) := X.out.cell 1
   refine wp_region_held_drew (S := (fun w' => w'.cell? ⟨g2, 0, none⟩ = some (.int .i64 a) ∧ w'.cell? ⟨g2, 1, none⟩ = some (.string ⟨s.toArray⟩))) (by kernel_rfl) ⟨cX_0, cX_1⟩ (fun hHeld => ?_)
   clear cX_0 cX_1
   have hb6 : Below wd5.heap.size wd5 (wd5.drew) := (Below.refl _ _).drew
   replace X := Lib.hid (X.out.below hb6 X.out.here)
   replace TW := Lib.hid (TW.out.on hb6)
   replace hb := hb.trans (hb6.mono hb.size)
   clear hb6
   generalize wd5.drew = wd7 at *
   refine wpAnyH_take (i := 0) (v := ?vk8) rfl (by kernel_rfl) (by kernel_rfl) (by kernel_rfl) (fun _ _ _ h => h) (Or.inl ⟨by rfl, ?hk8⟩) (by assumption) ?rk8
   case hk8 => (intro w hSw; (try dsimp only at hSw); go_simp; (first | done | with_reducible rfl))
   try simp only [put_laws]
   refine wpAnyH_take (i := 1) (v := ?vk9) rfl (by kernel_rfl) (by kernel_rfl) (by kernel_rfl) (fun _ _ _ h => h) (Or.inl ⟨by rfl, ?hk9⟩) (by assumption) ?rk9
   case hk9 => (intro w hSw; (try dsimp only at hSw); go_simp; (first | done | with_reducible rfl))
   try simp only [put_laws]
   refine wpAnyH_take (i := 2) (v := ?vk10) rfl (by kernel_rfl) (by kernel_rfl) (by kernel_rfl) (fun _ _ _ h => h) (Or.inl ⟨by rfl, ?hk10⟩) (by assumption) ?rk10
   case hk10 => (intro w hSw; (try dsimp only at hSw); go_simp; (first | done | with_reducible rfl))
   try simp only [put_laws]
   refine wpAnyH_take (i := 5) (v := ?vk11) rfl (by kernel_rfl) (by kernel_rfl) (by kernel_rfl) (fun _ _ _ h => h) (Or.inl ⟨by rfl, ?hk11⟩) (by assumption) ?rk11
   case hk11 => (intro w hSw; (try dsimp only at hSw); go_simp; (first | done | with_reducible rfl))
   try simp only [put_laws]
   refine wpAnyH_take (i := 6) (v := ?vk12) rfl (by kernel_rfl) (by kernel_rfl) (by kernel_rfl) (fun _ _ _ h => h) (Or.inl ⟨by rfl, ?hk12⟩) (by assumption) ?rk12
   case hk12 => (intro w hSw; (try dsimp only at hSw); go_simp; (first | done | with_reducible rfl))
   try simp only [put_laws]
   refine wpAnyH_take (i := 7) (v := ?vk13) rfl (by kernel_rfl) (by kernel_rfl) (by kernel_rfl) (fun _ _ _ h => h) (Or.inl ⟨by rfl, ?hk13⟩) (by assumption) ?rk13
   case hk13 => (intro w hSw; (try dsimp only at hSw); go_simp; (first | done | with_reducible rfl))
   try simp only [put_laws]
   refine wpAnyH_ready (rs := [3, 8]) (by kernel_rfl) (by simp) ?_
   refine AllReadyH.cons rfl (fun K hK => ?_) (AllReadyH.cons rfl (fun K hK => ?_) (AllReadyH.nil))
   ·
    skip
    go_simp
    have hb14 := below_al (Below.refl wd7.heap.size wd7) (Nat.le_refl _) (.cells #[.int .i64 a] 3)
    have N1 := Has.made wd7 3 #[.int .i64 a]
    have hl16 := X.out.here
    have hl17 := TW.out.le
    have hl18 := hb.size
    replace X := Lib.hid (X.out.below hb14 X.out.here)
    replace TW := Lib.hid (TW.out.on hb14)
    replace hb := hb.trans (hb14.mono hb.size)
    replace N1 := Lib.hid N1
    clear hb14
    generalize (wd7.alloc (.cells #[.int .i64 a] 3)) = wd19 at *
    generalize wd7.heap.size = g15 at *
    try clear hHeld
    refine hK.out _ _ ⟨X.out.cell 0, X.out.cell 1⟩ (fun hHeld => ?_)
    clear hK K
    refine wpAnyH_ready (rs := [4, 8]) (by kernel_rfl) (by simp) ?_
    refine AllReadyH.cons rfl (fun K hK => ?_) (AllReadyH.cons rfl (fun K hK => ?_) (AllReadyH.nil))
    ·
     skip
     refine step_two1 (by rfl) _ _ (by rfl) TW.out.now (.int .i64 a) (by rfl) N1.out (by rfl) rfl (by omega) (hb).size ?_
     intro v1' w1 htw hbB hkk
     clear TW
     replace X : Hid (Has w1 (g2) 84 #[.int .i64 a, .string ⟨s.toArray⟩]) := Lib.hid ((hkk (g2) X.out.here (fun hh => by have := hZ1 _ hh; omega)).trans X.out)
     replace N1 : Hid (Has w1 (g15) 3 #[.int .i64 a]) := Lib.hid ((hkk (g15) N1.out.here (fun hh => by have := hZ1 _ hh; omega)).trans N1.out)
     replace hb := hb.trans (hbB.mono (show w.heap.size ≤ w.heap.size by omega))
     have TW := Lib.hid (Two.kept htw)
     clear htw hkk hbB
     try clear hHeld
     refine hK.out _ _ ⟨X.out.cell 0, X.out.cell 1⟩ (fun hHeld => ?_)
     clear hK K
     refine wpAnyH_ready (rs := [8]) (by kernel_rfl) (by simp) ?_
     refine AllReadyH.cons rfl (fun K hK => ?_) (AllReadyH.nil)
     go_simp
     have hb20 := below_al (Below.refl w1.heap.size w1) (Nat.le_refl _) (.cells #[.string ⟨s.toArray⟩] 9)
     have N2 := Has.made w1 9 #[.string ⟨s.toArray⟩]
     have hl22 := X.out.here
     have hl23 := N1.out.here
     have hl24 := TW.out.le
     have hl25 := hb.size
     replace X := Lib.hid (X.out.below hb20 X.out.here)
     replace N1 := Lib.hid (N1.out.below hb20 N1.out.here)
     replace TW := Lib.hid (TW.out.on hb20)
     replace hb := hb.trans (hb20.mono hb.size)
     replace N2 := Lib.hid N2
     clear hb20
     generalize (w1.alloc (.cells #[.string ⟨s.toArray⟩] 9)) = wd26 at *
     generalize w1.heap.size = g21 at *
     try clear hHeld
     refine hK.out _ _ ⟨X.out.cell 0, X.out.cell 1⟩ (fun hHeld => ?_)
     clear hK K
     refine wpAnyH_ready (rs := [9]) (by kernel_rfl) (by simp) ?_
     refine AllReadyH.cons rfl (fun K hK => ?_) (AllReadyH.nil)
     refine step_two2 (by rfl) _ _ (by rfl) TW.out.now (.string ⟨s.toArray⟩) (by rfl) N2.out (by rfl) rfl (by omega) (hb).size ?_
     intro v2' w1 htw hbB hkk
     clear TW
     replace X : Hid (Has w1 (g2) 84 #[.int .i64 a, .string ⟨s.toArray⟩]) := Lib.hid ((hkk (g2) X.out.here (fun hh => by have := hZ2 _ hh; omega)).trans X.out)
     replace N1 : Hid (Has w1 (g15) 3 #[.int .i64 a]) := Lib.hid ((hkk (g15) N1.out.here (fun hh => by have := hZ2 _ hh; omega)).trans N1.out)
     replace N2 : Hid (Has w1 (g21) 9 #[.string ⟨s.toArray⟩]) := Lib.hid ((hkk (g21) N2.out.here (fun hh => by have := hZ2 _ hh; omega)).trans N2.out)
     replace hb := hb.trans (hbB.mono (show w.heap.size ≤ w.heap.size by omega))
     have TW := Lib.hid (Two.kept htw)
     clear htw hkk hbB
     try clear hHeld
     refine hK.out _ _ ⟨X.out.cell 0, X.out.cell 1⟩ (fun hHeld => ?_)
     clear hK K
     refine wpAnyH_take (i := 10) (v := ?vk27) rfl (by kernel_rfl) (by kernel_rfl) (by kernel_rfl) (fun _ _ _ h => h) (Or.inl ⟨by rfl, ?hk27⟩) (by assumption) ?rk27
     case hk27 => (intro w hSw; (try dsimp only at hSw); go_simp; (first | done | with_reducible rfl))
     try simp only [put_laws]
     refine wpAnyH_take (i := 11) (v := ?vk28) rfl (by kernel_rfl) (by kernel_rfl) (by kernel_rfl) (fun _ _ _ h => h) (Or.inl ⟨by rfl, ?hk28⟩) (by assumption) ?rk28
     case hk28 => (intro w hSw; (try dsimp only at hSw); go_simp; (first | done | with_reducible rfl))
     try simp only [put_laws]
     refine wpAnyH_done (by kernel_rfl) ?_ _
     try clear hHeld
     go_wp2_with fail
     go_roundw
     case rel => exact ⟨k + 1, by omega, by go_num, by rw [HT1.out, HT2.out]; exact TW.out.now, hb⟩
     case measure => simp [intOf]; omega
    ·
     skip
     go_simp
     have hb29 := below_al (Below.refl wd19.heap.size wd19) (Nat.le_refl _) (.cells #[.string ⟨s.toArray⟩] 9)
     have N2 := Has.made wd19 9 #[.string ⟨s.toArray⟩]
     have hl31 := X.out.here
     have hl32 := N1.out.here
     have hl33 := TW.out.le
     have hl34 := hb.size
     replace X := Lib.hid (X.out.below hb29 X.out.here)
     replace N1 := Lib.hid (N1.out.below hb29 N1.out.here)
     replace TW := Lib.hid (TW.out.on hb29)
     replace hb := hb.trans (hb29.mono hb.size)
     replace N2 := Lib.hid N2
     clear hb29
     generalize (wd19.alloc (.cells #[.string ⟨s.toArray⟩] 9)) = wd35 at *
     generalize wd19.heap.size = g30 at *
     try clear hHeld
     refine hK.out _ _ ⟨X.out.cell 0, X.out.cell 1⟩ (fun hHeld => ?_)
     clear hK K
     refine wpAnyH_ready (rs := [4]) (by kernel_rfl) (by simp) ?_
     refine AllReadyH.cons rfl (fun K hK => ?_) (AllReadyH.nil)
     refine step_two1 (by rfl) _ _ (by rfl) TW.out.now (.int .i64 a) (by rfl) N1.out (by rfl) rfl (by omega) (hb).size ?_
     intro v1' w1 htw hbB hkk
     clear TW
     replace X : Hid (Has w1 (g2) 84 #[.int .i64 a, .string ⟨s.toArray⟩]) := Lib.hid ((hkk (g2) X.out.here (fun hh => by have := hZ1 _ hh; omega)).trans X.out)
     replace N1 : Hid (Has w1 (g15) 3 #[.int .i64 a]) := Lib.hid ((hkk (g15) N1.out.here (fun hh => by have := hZ1 _ hh; omega)).trans N1.out)
     replace N2 : Hid (Has w1 (g30) 9 #[.string ⟨s.toArray⟩]) := Lib.hid ((hkk (g30) N2.out.here (fun hh => by have := hZ1 _ hh; omega)).trans N2.out)
     replace hb := hb.trans (hbB.mono (show w.heap.size ≤ w.heap.size by omega))
     have TW := Lib.hid (Two.kept htw)
     clear htw hkk hbB
     try clear hHeld
     refine hK.out _ _ ⟨X.out.cell 0, X.out.cell 1⟩ (fun hHeld => ?_)
     clear hK K
     refine wpAnyH_ready (rs := [9]) (by kernel_rfl) (by simp) ?_
     refine AllReadyH.cons rfl (fun K hK => ?_) (AllReadyH.nil)
     refine step_two2 (by rfl) _ _ (by rfl) TW.out.now (.string ⟨s.toArray⟩) (by rfl) N2.out (by rfl) rfl (by omega) (hb).size ?_
     intro v2' w1 htw hbB hkk
     clear TW
     replace X : Hid (Has w1 (g2) 84 #[.int .i64 a, .string ⟨s.toArray⟩]) := Lib.hid ((hkk (g2) X.out.here (fun hh => by have := hZ2 _ hh; omega)).trans X.out)
     replace N1 : Hid (Has w1 (g15) 3 #[.int .i64 a]) := Lib.hid ((hkk (g15) N1.out.here (fun hh => by have := hZ2 _ hh; omega)).trans N1.out)
     replace N2 : Hid (Has w1 (g30) 9 #[.string ⟨s.toArray⟩]) := Lib.hid ((hkk (g30) N2.out.here (fun hh => by have := hZ2 _ hh; omega)).trans N2.out)
     replace hb := hb.trans (hbB.mono (show w.heap.size ≤ w.heap.size by omega))
     have TW := Lib.hid (Two.kept htw)
     clear htw hkk hbB
     try clear hHeld
     refine hK.out _ _ ⟨X.out.cell 0, X.out.cell 1⟩ (fun hHeld => ?_)
     clear hK K
     refine wpAnyH_take (i := 10) (v := ?vk36) rfl (by kernel_rfl) (by kernel_rfl) (by kernel_rfl) (fun _ _ _ h => h) (Or.inl ⟨by rfl, ?hk36⟩) (by assumption) ?rk36
     case hk36 => (intro w hSw; (try dsimp only at hSw); go_simp; (first | done | with_reducible rfl))
     try simp only [put_laws]
     refine wpAnyH_take (i := 11) (v := ?vk37) rfl (by kernel_rfl) (by kernel_rfl) (by kernel_rfl) (fun _ _ _ h => h) (Or.inl ⟨by rfl, ?hk37⟩) (by assumption) ?rk37
     case hk37 => (intro w hSw; (try dsimp only at hSw); go_simp; (first | done | with_reducible rfl))
     try simp only [put_laws]
     refine wpAnyH_done (by kernel_rfl) ?_ _
     try clear hHeld
     go_wp2_with fail
     go_roundw
     case rel => exact ⟨k + 1, by omega, by go_num, by rw [HT1.out, HT2.out]; exact TW.out.now, hb⟩
     case measure => simp [intOf]; omega
   ·
    skip
    go_simp
    have hb38 := below_al (Below.refl wd7.heap.size wd7) (Nat.le_refl _) (.cells #[.string ⟨s.toArray⟩] 9)
    have N2 := Has.made wd7 9 #[.string ⟨s.toArray⟩]
    have hl40 := X.out.here
    have hl41 := TW.out.le
    have hl42 := hb.size
    replace X := Lib.hid (X.out.below hb38 X.out.here)
    replace TW := Lib.hid (TW.out.on hb38)
    replace hb := hb.trans (hb38.mono hb.size)
    replace N2 := Lib.hid N2
    clear hb38
    generalize (wd7.alloc (.cells #[.string ⟨s.toArray⟩] 9)) = wd43 at *
    generalize wd7.heap.size = g39 at *
    try clear hHeld
    refine hK.out _ _ ⟨X.out.cell 0, X.out.cell 1⟩ (fun hHeld => ?_)
    clear hK K
    refine wpAnyH_ready (rs := [3]) (by kernel_rfl) (by simp) ?_
    refine AllReadyH.cons rfl (fun K hK => ?_) (AllReadyH.nil)
    go_simp
    have hb44 := below_al (Below.refl wd43.heap.size wd43) (Nat.le_refl _) (.cells #[.int .i64 a] 3)
    have N1 := Has.made wd43 3 #[.int .i64 a]
    have hl46 := X.out.here
    have hl47 := N2.out.here
    have hl48 := TW.out.le
    have hl49 := hb.size
    replace X := Lib.hid (X.out.below hb44 X.out.here)
    replace N2 := Lib.hid (N2.out.below hb44 N2.out.here)
    replace TW := Lib.hid (TW.out.on hb44)
    replace hb := hb.trans (hb44.mono hb.size)
    replace N1 := Lib.hid N1
    clear hb44
    generalize (wd43.alloc (.cells #[.int .i64 a] 3)) = wd50 at *
    generalize wd43.heap.size = g45 at *
    try clear hHeld
    refine hK.out _ _ ⟨X.out.cell 0, X.out.cell 1⟩ (fun hHeld => ?_)
    clear hK K
    refine wpAnyH_ready (rs := [4]) (by kernel_rfl) (by simp) ?_
    refine AllReadyH.cons rfl (fun K hK => ?_) (AllReadyH.nil)
    refine step_two1 (by rfl) _ _ (by rfl) TW.out.now (.int .i64 a) (by rfl) N1.out (by rfl) rfl (by omega) (hb).size ?_
    intro v1' w1 htw hbB hkk
    clear TW
    replace X : Hid (Has w1 (g2) 84 #[.int .i64 a, .string ⟨s.toArray⟩]) := Lib.hid ((hkk (g2) X.out.here (fun hh => by have := hZ1 _ hh; omega)).trans X.out)
    replace N2 : Hid (Has w1 (g39) 9 #[.string ⟨s.toArray⟩]) := Lib.hid ((hkk (g39) N2.out.here (fun hh => by have := hZ1 _ hh; omega)).trans N2.out)
    replace N1 : Hid (Has w1 (g45) 3 #[.int .i64 a]) := Lib.hid ((hkk (g45) N1.out.here (fun hh => by have := hZ1 _ hh; omega)).trans N1.out)
    replace hb := hb.trans (hbB.mono (show w.heap.size ≤ w.heap.size by omega))
    have TW := Lib.hid (Two.kept htw)
    clear htw hkk hbB
    try clear hHeld
    refine hK.out _ _ ⟨X.out.cell 0, X.out.cell 1⟩ (fun hHeld => ?_)
    clear hK K
    refine wpAnyH_ready (rs := [9]) (by kernel_rfl) (by simp) ?_
    refine AllReadyH.cons rfl (fun K hK => ?_) (AllReadyH.nil)
    refine step_two2 (by rfl) _ _ (by rfl) TW.out.now (.string ⟨s.toArray⟩) (by rfl) N2.out (by rfl) rfl (by omega) (hb).size ?_
    intro v2' w1 htw hbB hkk
    clear TW
    replace X : Hid (Has w1 (g2) 84 #[.int .i64 a, .string ⟨s.toArray⟩]) := Lib.hid ((hkk (g2) X.out.here (fun hh => by have := hZ2 _ hh; omega)).trans X.out)
    replace N2 : Hid (Has w1 (g39) 9 #[.string ⟨s.toArray⟩]) := Lib.hid ((hkk (g39) N2.out.here (fun hh => by have := hZ2 _ hh; omega)).trans N2.out)
    replace N1 : Hid (Has w1 (g45) 3 #[.int .i64 a]) := Lib.hid ((hkk (g45) N1.out.here (fun hh => by have := hZ2 _ hh; omega)).trans N1.out)
    replace hb := hb.trans (hbB.mono (show w.heap.size ≤ w.heap.size by omega))
    have TW := Lib.hid (Two.kept htw)
    clear htw hkk hbB
    try clear hHeld
    refine hK.out _ _ ⟨X.out.cell 0, X.out.cell 1⟩ (fun hHeld => ?_)
    clear hK K
    refine wpAnyH_take (i := 10) (v := ?vk51) rfl (by kernel_rfl) (by kernel_rfl) (by kernel_rfl) (fun _ _ _ h => h) (Or.inl ⟨by rfl, ?hk51⟩) (by assumption) ?rk51
    case hk51 => (intro w hSw; (try dsimp only at hSw); go_simp; (first | done | with_reducible rfl))
    try simp only [put_laws]
    refine wpAnyH_take (i := 11) (v := ?vk52) rfl (by kernel_rfl) (by kernel_rfl) (by kernel_rfl) (fun _ _ _ h => h) (Or.inl ⟨by rfl, ?hk52⟩) (by assumption) ?rk52
    case hk52 => (intro w hSw; (try dsimp only at hSw); go_simp; (first | done | with_reducible rfl))
    try simp only [put_laws]
    refine wpAnyH_done (by kernel_rfl) ?_ _
    try clear hHeld
    go_wp2_with fail
    go_roundw
    case rel => exact ⟨k + 1, by omega, by go_num, by rw [HT1.out, HT2.out]; exact TW.out.now, hb⟩
    case measure => simp [intOf]; omega
  ·
   obtain rfl : k = l.length := by omega
   rw [List.take_of_length_le (Nat.le_refl _)] at htw
   have hr1 := Rd.of_own htw.o1
   have hr2 := Rd.of_own htw.o2
   have HI := Lib.hid (sids_any l _ _ wr (by omega) HRI.out hr1 hr2)
   clear htw hr1 hr2
   by_cases h0 : l.length = 0
   ·
    have Hs : Hid (symB l = false) := by show _ = _; unfold symB; rw [h0]; rfl
    have Hn := Lib.hid (List.eq_nil_of_length_eq_zero h0)
    have hd : decide (0 < l.length) = false := decide_eq_false (by omega)
    clear h0
    go_wp2_with fail
    go_ret
    exact ⟨ret_bool Hs.out.symm, hb⟩
   ·
    have Hs : Hid (symB l = idsB l) := by show _ = _; unfold symB; rw [decide_eq_true (by omega)]; rfl
    have hd : decide (0 < l.length) = true := decide_eq_true (by omega)
    have hd2 : (0 : Int) < l.length := by omega
    clear h0
    go_wp2_with fail
    refine HI.out.mono ?_
    rintro e w2 ⟨rfl, hb2⟩
    go_wp2_with fail
    go_ret
    exact ⟨ret_bool Hs.out.symm, hb.trans (hb2.mono hb.size)⟩
end Go.Proofs.Ytjajgclchapllaa
namespace Go.Proofs.Ytjajgclchapllaa
open Go.ChangeShapes Go.WideShapes Go.ChangeAt Go.RowKit
def idB2 (b n : Int) : Bool := decide (b < n) && freeB n
set_option maxRecDepth 100000 in
theorem rid2_any (b n : Int) (w : World) : Calls Try.prog 113 #[.int .i64 b, .int .i64 n] w fun e w' => e = .returned (.bool (idB2 b n)) ∧ w = w' := by
 have Hd : Hid (idB2 b n = (decide (b < n) && (decide (1 ≤ n) && decide (n ≤ 1000)))) := by show _ = _; unfold idB2 freeB; rw [Bool.eq_iff_iff]; simp
 go_enter Try.func113, Try.ntmps113
 go_wp2
 all_goals
  go_ret
  exact ⟨ret_bool (by rw [Hd.out]; first | rfl | (simp; done) | (simp; omega) | (rw [Bool.eq_iff_iff]; simp; omega)), rfl⟩
def prevZ (l : List Raw) (k : Nat) : Int := match prevOf l k with | some a => a | none => 0
theorem prevZ_id (l : List Raw) (k : Nat) (a : Int) : (freeB a && ltP (prevOf l k) a) = idB2 (prevZ l k) a := by
 unfold idB2 prevZ
 cases prevOf l k with
 | none =>
  simp only [ltP, Bool.and_true]
  by_cases h : 0 < a
  ·
   rw [decide_eq_true h]; rfl
  ·
   rw [decide_eq_false h]
   unfold freeB
   rw [decide_eq_false (show ¬ (1 ≤ a ∧ a ≤ 1000) by omega)]; rfl
 | some q => simp only [ltP]; rw [Bool.and_comm]
theorem prevZ_succ (l : List Raw) (k : Nat) (h : k < l.length) : prevZ l (k + 1) = l[k].1 := by unfold prevZ; rw [prevOf_succ l k h]
theorem not_in_succ (l : List (List UInt8)) (q : Nat) (h : q < l.length) (s : List UInt8) : (l.take (q + 1)).contains s = ((l.take q).contains s || l[q] == s) := by
 rw [List.take_succ_eq_append_getElem h, Bool.eq_iff_iff]
 simp only [List.contains_iff_mem, List.mem_append, List.mem_singleton, Bool.or_eq_true, beq_iff_eq]
 constructor
 ·
  rintro (h | h)
  ·
   exact .inl h
  ·
   exact .inr h.symm
 ·
  rintro (h | h)
  ·
   exact .inl h
  ·
   exact .inr h.symm
theorem in_take (l : List (List UInt8)) (q k : Nat) (h : q < k) (hk : k ≤ l.length) : (l.take k).contains (l[q]'(by omega)) = true := by
 rw [List.contains_iff_mem, List.mem_take_iff_getElem]
 exact ⟨q, by omega, rfl⟩
set_option maxRecDepth 100000 in
set_option maxHeartbeats 1600000 in
theorem rsymbols_any (l : List Raw) (va : Value) (w : World) (hl : l.length ≤ 140737488351232) (h1 : Rd w w.heap.size 2 va l.length (rawsV l)) :
  Calls Try.prog 97 #[va] w fun e w' => e = .returned (.bool (symB l)) ∧ Below w.heap.size w w' := by
 obtain ⟨A, c, rfl, hca⟩ := h1.form
 have H1 := Lib.hid h1
 clear h1
 go_enter Try.func97, Try.ntmps97
 go_wp2_with fail
 go_loopw [3, 4] (fun b i wr => ∃ k : Nat, k ≤ l.length ∧ i = .int .i64 k ∧ b = .int .i64 (prevZ l k) ∧ idsG l none [] = idsG (l.drop k) (prevOf l k) ((l.take k).map Prod.snd) ∧ Below w.heap.size w wr) (fun _ i _ => l.length - (intOf i).toNat)
 case atStart => exact ⟨0, by omega, rfl, rfl, by simp [prevOf], Below.refl _ _⟩
 case round =>
  obtain ⟨k, hk, rfl, rfl, hid, hb⟩ := hrel
  by_cases hlt : k < l.length
  ·
   obtain ⟨b1, o1, rfl, hb1, hc1⟩ := (H1.out.below hb).at_ (by omega)
   obtain ⟨x1, x2⟩ := rawV_at hc1 k hlt
   rw [idsG_at l k hlt, ← Bool.and_assoc, prevZ_id] at hid
   have hi1 : (k : Int) < l.length := by omega
   obtain ⟨a, haq⟩ : ∃ a, l[k].1 = a := ⟨_, rfl⟩
   obtain ⟨s, hsq⟩ : ∃ s, l[k].2 = s := ⟨_, rfl⟩
   rw [haq] at x1 hid
   rw [hsq] at x2 hid
   have HZ : Hid (prevZ l (k + 1) = a) := by show _ = _; rw [prevZ_succ l k hlt, haq]
   have HPO : Hid (prevOf l (k + 1) = some a) := by show _ = _; rw [prevOf_succ l k hlt, haq]
   have HNS : Hid ((l.take k).map Prod.snd ++ [s] = (l.take (k + 1)).map Prod.snd) := by show _ = _; rw [← hsq]; exact names_succ l k hlt
   have HAQ := Lib.hid haq
   have HSQ := Lib.hid hsq
   clear haq hsq
   have hidc := fun W => rid2_any (prevZ l k) a W
   generalize prevZ l k = z at *
   clear hc1
   cases hia : idB2 z a with
   | false =>
    rw [hia] at hidc hid
    have HID := Lib.hid hidc
    have Hno : Hid (symB l = false) := by show _ = _; unfold symB idsB; rw [hid]; simp
    clear hid hidc hia
    go_wp2_with fail
    refine (HID.out _).mono ?_
    rintro e w2 ⟨rfl, rfl⟩
    go_wp2_with fail
    go_ret
    exact ⟨ret_bool Hno.out.symm, hb⟩
   | true =>
    rw [hia, Bool.true_and] at hid
    rw [hia] at hidc
    have HID := Lib.hid hidc
    clear hidc hia
    have hname := fun W => risname_any s W
    cases hn : nameB s with
    | false =>
     rw [hn] at hname hid
     have HN := Lib.hid hname
     have Hno : Hid (symB l = false) := by show _ = _; unfold symB idsB; rw [hid]; simp
     clear hid hname hn
     go_wp2_with fail
     refine (HID.out _).mono ?_
     rintro e w2 ⟨rfl, rfl⟩
     go_wp2_with fail
     refine (HN.out _).mono ?_
     rintro e w2 ⟨rfl, rfl⟩
     go_wp2_with fail
     go_ret
     exact ⟨ret_bool Hno.out.symm, hb⟩
    | true =>
     rw [hn, Bool.true_and] at hid
     rw [hn] at hname
     have HN := Lib.hid hname
     have Hid2 := Lib.hid hid
     clear hid hname hn
     go_wp2_with fail
     refine (HID.out _).mono ?_
     rintro e w2 ⟨rfl, rfl⟩
     go_wp2_with fail
     refine (HN.out _).mono ?_
     rintro e w2 ⟨rfl, rfl⟩
     go_wp2_with fail
     have Hb0 := Lib.hid hb
     go_loopw [5] (fun j ws => ∃ q : Nat, q ≤ k ∧ j = .int .i64 q ∧ ((l.map Prod.snd).take q).contains s = false ∧ Below w.heap.size w ws) (fun j _ => k - (intOf j).toNat)
     case atStart => exact ⟨0, by omega, rfl, rfl, Hb0.out⟩
     case round =>
      clear hb Hb0 x1 x2
      obtain ⟨q, hq, rfl, hnc, hb⟩ := hrel
      have hcq := (H1.out.below hb).at_ (by omega)
      obtain ⟨b2, o2, hbe, hb2, hc2⟩ := hcq
      injection hbe with hbe
      injection hbe with hbe1 hbe2
      subst hbe1 hbe2
      have z1 := (rawV_at hc2 k hlt).1
      have z2 := (rawV_at hc2 k hlt).2
      rw [HAQ.out] at z1
      rw [HSQ.out] at z2
      by_cases hqk : q < k
      ·
       have hql : q < l.length := by omega
       have y2 := (rawV_at hc2 q hql).2
       have hsu := not_in_succ (l.map Prod.snd) q (by simpa using hql) s
       have hit := in_take (l.map Prod.snd) q k hqk (by simpa using hk)
       rw [List.getElem_map] at hsu hit
       have hqk1 : (q : Int) < k := by omega
       have hql1 : (q : Int) < l.length := by omega
       generalize l[q].2 = p at *
       clear hc2
       by_cases hps : p = s
       ·
        have tps : (p == s) = true := by simp [hps]
        have Hno : Hid (symB l = false) := by
         show _ = _
         unfold symB idsB; rw [Hid2.out, List.map_take, ← hps, hit]; simp
        clear hps hsu hit hnc
        go_upto_region 10 with fail
        go_quiet (fail)
        go_wp2_with fail
        go_ret
        exact ⟨ret_bool Hno.out.symm, below_drewN hb _⟩
       ·
        have tps : (p == s) = false := by simpa using hps
        have Hnc : Hid (((l.map Prod.snd).take (q + 1)).contains s = false) := by show _ = _; rw [hsu, hnc, tps]; rfl
        clear hps hsu hit hnc
        go_upto_region 10 with fail
        go_quiet (fail)
        go_wp2_with fail
        go_roundw
        case rel => exact ⟨q + 1, by omega, by go_num, Hnc.out, below_drewN hb _⟩
        case measure => simp [intOf]; omega
      ·
       obtain rfl : q = k := by omega
       have Hix : Hid (idsG l none [] = idsG (l.drop (q + 1)) (prevOf l (q + 1)) ((l.take (q + 1)).map Prod.snd)) := by
        show _ = _
        rw [Hid2.out, List.map_take, hnc, HPO.out, ← HNS.out, List.map_take]; rfl
       clear hc2 hnc
       go_wp2_with fail
       go_roundw
       case rel => exact ⟨q + 1, by omega, by go_num, by rw [HZ.out], Hix.out, hb⟩
       case measure => simp [intOf]; omega
  ·
   obtain rfl : k = l.length := by omega
   rw [List.drop_eq_nil_of_le (Nat.le_refl _), idsG] at hid
   have Hs : Hid (symB l = (decide (1 ≤ (l.length : Int)) && decide ((l.length : Int) ≤ 16))) := by
    show _ = _
    unfold symB idsB; rw [hid, Bool.true_and]
    rw [Bool.eq_iff_iff]; simp; omega
   clear hid
   go_wp2_with fail
   all_goals
    go_ret
    exact ⟨ret_bool (by rw [Hs.out]; first | rfl | (simp; done) | (rw [Bool.eq_iff_iff]; simp; omega) | simp_all), hb⟩
end Go.Proofs.Ytjajgclchapllaa

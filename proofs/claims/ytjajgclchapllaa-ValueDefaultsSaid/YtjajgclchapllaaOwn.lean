/- What sheaveref07.own computes. No condition. -/
import Derived.Test.YtjajgclchapllaaGO
import Derived.Test.YtjajgclchapllaaGA
namespace Go.Proofs.Ytjajgclchapllaa
open Go.ChangeShapes Go.WideShapes Go.ChangeAt Go.RowKit
theorem own_eq (x : Typ) (b : Bool) (h : ownB x = b) : formB x = b := by rw [← own_form_eq]; exact h
set_option maxRecDepth 100000 in
set_option maxHeartbeats 8000000 in
theorem own1_any (x : Typ) (A1 A2 : Option Addr) (c1 c2 : Nat) (w : World) (hkin : KindIn x.kind) (ht : TypAt w w.heap.size x (.slice A1 x.syms.length c1) (.slice A2 x.mems.length c2)) :
  Calls Try.prog 69 #[typA x (.slice A1 x.syms.length c1) (.slice A2 x.mems.length c2)] w fun e w' => e = .returned (.bool (formB x)) ∧ Below w.heap.size w w' := by
 have HP := Lib.hid fun W => plain_any x (.slice A1 x.syms.length c1) (.slice A2 x.mems.length c2) W hkin ⟨_, _, rfl⟩ ⟨_, _, rfl⟩
 have hs := fun W hW => samet_any x (plainT x) _ _ _ _ W (ht.on (w' := W) hW) (typat_plain (ht.on (w' := W) hW) hkin)
 have hn := fun W => named2_any x.kind W
 have HNM := Lib.hid fun W => risname_any x.name W
 have hob : ownB x = (sameT x (plainT x) && ((!namedI x.kind || nameB x.name) && ownK x)) := by unfold ownB; rw [decide_eq_true (by unfold KindIn at hkin; exact hkin)]; rfl
 have d1 : decide (x.kind < 1) = false := decide_eq_false (by unfold KindIn at hkin; omega)
 have d9 : decide (9 < x.kind) = false := decide_eq_false (by unfold KindIn at hkin; omega)
 have HT := Lib.hid ht
 have HKI := Lib.hid (kind_cases hkin)
 clear ht hkin
 obtain ⟨nk, hnk⟩ : ∃ nk, namedI x.kind = nk := ⟨_, rfl⟩
 simp only [hnk] at hn hob
 generalize sameT x (plainT x) = st at *
 have HS := Lib.hid hs
 have HN := Lib.hid hn
 have HNK := Lib.hid hnk
 clear hs hn hnk
 cases st with
 | false =>
  have Ho : Hid (formB x = false) := by show _ = _; exact own_eq x _ (by rw [hob]; rfl)
  clear hob
  go_enter Try.func69, Try.ntmps69
  go_upto_region 1 with fail
  have hb513 := below_al (Below.refl w.heap.size w) (Nat.le_refl _) (.cells #[.int .i64 x.kind, .string ⟨x.name.toArray⟩, .int .i64 x.low, .int .i64 x.high, .int .i64 x.max, .slice A1 x.syms.length c1, .slice A2 x.mems.length c2, .int .i64 x.key, .int .i64 x.elem, .bool x.opn] 67)
  have T := Has.made w 67 #[.int .i64 x.kind, .string ⟨x.name.toArray⟩, .int .i64 x.low, .int .i64 x.high, .int .i64 x.max, .slice A1 x.syms.length c1, .slice A2 x.mems.length c2, .int .i64 x.key, .int .i64 x.elem, .bool x.opn]
  have hw514 := hb513
  replace T := Lib.hid T
  clear hb513
  generalize (w.alloc (.cells #[.int .i64 x.kind, .string ⟨x.name.toArray⟩, .int .i64 x.low, .int .i64 x.high, .int .i64 x.max, .slice A1 x.syms.length c1, .slice A2 x.mems.length c2, .int .i64 x.key, .int .i64 x.elem, .bool x.opn] 67)) = wd515 at *
  obtain ⟨cT_0, cT_1, cT_2, cT_3, cT_4, cT_5, cT_6, cT_7, cT_8, cT_9⟩ := T.out.c10
  refine wp_region_held_drew (S := (fun w' => w'.cell? ⟨w.heap.size, 0, none⟩ = some (.int .i64 x.kind) ∧ w'.cell? ⟨w.heap.size, 1, none⟩ = some (.string ⟨x.name.toArray⟩) ∧ w'.cell? ⟨w.heap.size, 2, none⟩ = some (.int .i64 x.low) ∧ w'.cell? ⟨w.heap.size, 3, none⟩ = some (.int .i64 x.high) ∧ w'.cell? ⟨w.heap.size, 4, none⟩ = some (.int .i64 x.max) ∧ w'.cell? ⟨w.heap.size, 5, none⟩ = some (.slice A1 x.syms.length c1) ∧ w'.cell? ⟨w.heap.size, 6, none⟩ = some (.slice A2 x.mems.length c2) ∧ w'.cell? ⟨w.heap.size, 7, none⟩ = some (.int .i64 x.key) ∧ w'.cell? ⟨w.heap.size, 8, none⟩ = some (.int .i64 x.elem) ∧ w'.cell? ⟨w.heap.size, 9, none⟩ = some (.bool x.opn))) (by kernel_rfl) ⟨cT_0, cT_1, cT_2, cT_3, cT_4, cT_5, cT_6, cT_7, cT_8, cT_9⟩ (fun hHeld => ?_)
  clear cT_0 cT_1 cT_2 cT_3 cT_4 cT_5 cT_6 cT_7 cT_8 cT_9
  have hb516 : Below wd515.heap.size wd515 (wd515.drew) := (Below.refl _ _).drew
  replace T := Lib.hid (T.out.below hb516 T.out.here)
  replace hw514 := hw514.trans (hb516.mono hw514.size)
  clear hb516
  generalize wd515.drew = wd517 at *
  refine tk (i := 0) (v := ?vk518) ?hk518 ?_
  case hk518 => intro w hS; (try dsimp only at hS); go_simp; (first | done | with_reducible rfl)
  simp only [put_laws2]
  refine tk (i := 1) (v := ?vk519) ?hk519 ?_
  case hk519 => intro w hS; (try dsimp only at hS); go_simp; (first | done | with_reducible rfl)
  simp only [put_laws2]
  refine tk (i := 2) (v := ?vk520) ?hk520 ?_
  case hk520 => intro w hS; (try dsimp only at hS); go_simp; (first | done | with_reducible rfl)
  simp only [put_laws2]
  refine tk (i := 3) (v := ?vk521) ?hk521 ?_
  case hk521 => intro w hS; (try dsimp only at hS); go_simp; (first | done | with_reducible rfl)
  simp only [put_laws2]
  refine tk (i := 4) (v := ?vk522) ?hk522 ?_
  case hk522 => intro w hS; (try dsimp only at hS); go_simp; (first | done | with_reducible rfl)
  simp only [put_laws2]
  refine tk (i := 5) (v := ?vk523) ?hk523 ?_
  case hk523 => intro w hS; (try dsimp only at hS); go_simp; (first | done | with_reducible rfl)
  simp only [put_laws2]
  refine tk (i := 6) (v := ?vk524) ?hk524 ?_
  case hk524 => intro w hS; (try dsimp only at hS); go_simp; (first | done | with_reducible rfl)
  simp only [put_laws2]
  refine tk (i := 7) (v := ?vk525) ?hk525 ?_
  case hk525 => intro w hS; (try dsimp only at hS); go_simp; (first | done | with_reducible rfl)
  simp only [put_laws2]
  refine tk (i := 8) (v := ?vk526) ?hk526 ?_
  case hk526 => intro w hS; (try dsimp only at hS); go_simp; (first | done | with_reducible rfl)
  simp only [put_laws2]
  refine tk (i := 9) (v := ?vk527) ?hk527 ?_
  case hk527 => intro w hS; (try dsimp only at hS); go_simp; (first | done | with_reducible rfl)
  simp only [put_laws2]
  refine tk (i := 10) (v := ?vk528) ?hk528 ?_
  case hk528 => intro w hS; (try dsimp only at hS); go_simp; (first | done | with_reducible rfl)
  simp only [put_laws2]
  refine wpAnyH_ready (rs := [11]) (by kernel_rfl) (by simp) ?_
  refine AllReadyH.cons rfl (fun K hK => ?_) (AllReadyH.nil)
  go_simp
  ((with_reducible refine (HP.out _).mono ?_); rintro e wd529 ⟨rfl, hb530⟩)
  replace T := Lib.hid (T.out.below hb530 T.out.here)
  replace hw514 := hw514.trans (hb530.mono hw514.size)
  clear hb530
  try clear hHeld
  refine hK.out _ _ ⟨T.out.cell 0, T.out.cell 1, T.out.cell 2, T.out.cell 3, T.out.cell 4, T.out.cell 5, T.out.cell 6, T.out.cell 7, T.out.cell 8, T.out.cell 9⟩ (fun hHeld => ?_)
  clear hK K
  refine wpAnyH_ready (rs := [12]) (by kernel_rfl) (by simp) ?_
  refine AllReadyH.cons rfl (fun K hK => ?_) (AllReadyH.nil)
  go_simp
  ((with_reducible refine (HS.out _ hw514).mono ?_); rintro e wd531 ⟨rfl, hb532⟩)
  replace T := Lib.hid (T.out.below hb532 T.out.here)
  replace hw514 := hw514.trans (hb532.mono hw514.size)
  clear hb532
  try clear hHeld
  refine hK.out _ _ ⟨T.out.cell 0, T.out.cell 1, T.out.cell 2, T.out.cell 3, T.out.cell 4, T.out.cell 5, T.out.cell 6, T.out.cell 7, T.out.cell 8, T.out.cell 9⟩ (fun hHeld => ?_)
  clear hK K
  refine tk (i := 13) (v := ?vk533) ?hk533 ?_
  case hk533 => intro w hS; (try dsimp only at hS); go_simp; (first | done | with_reducible rfl)
  simp only [put_laws2]
  refine tk (i := 14) (v := ?vk534) ?hk534 ?_
  case hk534 => intro w hS; (try dsimp only at hS); go_simp; (first | done | with_reducible rfl)
  simp only [put_laws2]
  refine tk (i := 15) (v := ?vk535) ?hk535 ?_
  case hk535 => intro w hS; (try dsimp only at hS); go_simp; (first | done | with_reducible rfl)
  simp only [put_laws2]
  refine tks (i := 16) ?_
  simp only [put_laws2]
  refine tks (i := 17) ?_
  simp only [put_laws2]
  refine tks (i := 18) ?_
  simp only [put_laws2]
  refine tks (i := 19) ?_
  simp only [put_laws2]
  refine tks (i := 20) ?_
  simp only [put_laws2]
  refine tks (i := 21) ?_
  simp only [put_laws2]
  refine tks (i := 22) ?_
  simp only [put_laws2]
  refine tks (i := 23) ?_
  simp only [put_laws2]
  refine tks (i := 24) ?_
  simp only [put_laws2]
  refine tk (i := 25) (v := ?vk536) ?hk536 ?_
  case hk536 => intro w hS; (try dsimp only at hS); go_simp; (first | done | with_reducible rfl)
  simp only [put_laws2]
  refine wpAnyH_done (by kernel_rfl) ?_ _
  try clear hHeld
  go_wp2_with fail
  go_ret
  exact ⟨ret_bool Ho.out.symm, hw514⟩
 | true =>
  rw [Bool.true_and] at hob
  cases nk with
  | false =>
   have HOB : Hid (formB x = ownK x) := by show _ = _; exact own_eq x _ (by rw [hob]; rfl)
   clear hob
   go_enter Try.func69, Try.ntmps69
   go_upto_region 1 with fail
   have hb537 := below_al (Below.refl w.heap.size w) (Nat.le_refl _) (.cells #[.int .i64 x.kind, .string ⟨x.name.toArray⟩, .int .i64 x.low, .int .i64 x.high, .int .i64 x.max, .slice A1 x.syms.length c1, .slice A2 x.mems.length c2, .int .i64 x.key, .int .i64 x.elem, .bool x.opn] 67)
   have T := Has.made w 67 #[.int .i64 x.kind, .string ⟨x.name.toArray⟩, .int .i64 x.low, .int .i64 x.high, .int .i64 x.max, .slice A1 x.syms.length c1, .slice A2 x.mems.length c2, .int .i64 x.key, .int .i64 x.elem, .bool x.opn]
   have hw538 := hb537
   replace T := Lib.hid T
   clear hb537
   generalize (w.alloc (.cells #[.int .i64 x.kind, .string ⟨x.name.toArray⟩, .int .i64 x.low, .int .i64 x.high, .int .i64 x.max, .slice A1 x.syms.length c1, .slice A2 x.mems.length c2, .int .i64 x.key, .int .i64 x.elem, .bool x.opn] 67)) = wd539 at *
   obtain ⟨cT_0, cT_1, cT_2, cT_3, cT_4, cT_5, cT_6, cT_7, cT_8, cT_9⟩ := T.out.c10
   refine wp_region_held_drew (S := (fun w' => w'.cell? ⟨w.heap.size, 0, none⟩ = some (.int .i64 x.kind) ∧ w'.cell? ⟨w.heap.size, 1, none⟩ = some (.string ⟨x.name.toArray⟩) ∧ w'.cell? ⟨w.heap.size, 2, none⟩ = some (.int .i64 x.low) ∧ w'.cell? ⟨w.heap.size, 3, none⟩ = some (.int .i64 x.high) ∧ w'.cell? ⟨w.heap.size, 4, none⟩ = some (.int .i64 x.max) ∧ w'.cell? ⟨w.heap.size, 5, none⟩ = some (.slice A1 x.syms.length c1) ∧ w'.cell? ⟨w.heap.size, 6, none⟩ = some (.slice A2 x.mems.length c2) ∧ w'.cell? ⟨w.heap.size, 7, none⟩ = some (.int .i64 x.key) ∧ w'.cell? ⟨w.heap.size, 8, none⟩ = some (.int .i64 x.elem) ∧ w'.cell? ⟨w.heap.size, 9, none⟩ = some (.bool x.opn))) (by kernel_rfl) ⟨cT_0, cT_1, cT_2, cT_3, cT_4, cT_5, cT_6, cT_7, cT_8, cT_9⟩ (fun hHeld => ?_)
   clear cT_0 cT_1 cT_2 cT_3 cT_4 cT_5 cT_6 cT_7 cT_8 cT_9
   have hb540 : Below wd539.heap.size wd539 (wd539.drew) := (Below.refl _ _).drew
   replace T := Lib.hid (T.out.below hb540 T.out.here)
   replace hw538 := hw538.trans (hb540.mono hw538.size)
   clear hb540
   generalize wd539.drew = wd541 at *
   refine tk (i := 0) (v := ?vk542) ?hk542 ?_
   case hk542 => intro w hS; (try dsimp only at hS); go_simp; (first | done | with_reducible rfl)
   simp only [put_laws2]
   refine tk (i := 1) (v := ?vk543) ?hk543 ?_
   case hk543 => intro w hS; (try dsimp only at hS); go_simp; (first | done | with_reducible rfl)
   simp only [put_laws2]
   refine tk (i := 2) (v := ?vk544) ?hk544 ?_
   case hk544 => intro w hS; (try dsimp only at hS); go_simp; (first | done | with_reducible rfl)
   simp only [put_laws2]
   refine tk (i := 3) (v := ?vk545) ?hk545 ?_
   case hk545 => intro w hS; (try dsimp only at hS); go_simp; (first | done | with_reducible rfl)
   simp only [put_laws2]
   refine tk (i := 4) (v := ?vk546) ?hk546 ?_
   case hk546 => intro w hS; (try dsimp only at hS); go_simp; (first | done | with_reducible rfl)
   simp only [put_laws2]
   refine tk (i := 5) (v := ?vk547) ?hk547 ?_
   case hk547 => intro w hS; (try dsimp only at hS); go_simp; (first | done | with_reducible rfl)
   simp only [put_laws2]
   refine tk (i := 6) (v := ?vk548) ?hk548 ?_
   case hk548 => intro w hS; (try dsimp only at hS); go_simp; (first | done | with_reducible rfl)
   simp only [put_laws2]
   refine tk (i := 7) (v := ?vk549) ?hk549 ?_
   case hk549 => intro w hS; (try dsimp only at hS); go_simp; (first | done | with_reducible rfl)
   simp only [put_laws2]
   refine tk (i := 8) (v := ?vk550) ?hk550 ?_
   case hk550 => intro w hS; (try dsimp only at hS); go_simp; (first | done | with_reducible rfl)
   simp only [put_laws2]
   refine tk (i := 9) (v := ?vk551) ?hk551 ?_
   case hk551 => intro w hS; (try dsimp only at hS); go_simp; (first | done | with_reducible rfl)
   simp only [put_laws2]
   refine tk (i := 10) (v := ?vk552) ?hk552 ?_
   case hk552 => intro w hS; (try dsimp only at hS); go_simp; (first | done | with_reducible rfl)
   simp only [put_laws2]
   refine wpAnyH_ready (rs := [11]) (by kernel_rfl) (by simp) ?_
   refine AllReadyH.cons rfl (fun K hK => ?_) (AllReadyH.nil)
   go_simp
   ((with_reducible refine (HP.out _).mono ?_); rintro e wd553 ⟨rfl, hb554⟩)
   replace T := Lib.hid (T.out.below hb554 T.out.here)
   replace hw538 := hw538.trans (hb554.mono hw538.size)
   clear hb554
   try clear hHeld
   refine hK.out _ _ ⟨T.out.cell 0, T.out.cell 1, T.out.cell 2, T.out.cell 3, T.out.cell 4, T.out.cell 5, T.out.cell 6, T.out.cell 7, T.out.cell 8, T.out.cell 9⟩ (fun hHeld => ?_)
   clear hK K
   refine wpAnyH_ready (rs := [12]) (by kernel_rfl) (by simp) ?_
   refine AllReadyH.cons rfl (fun K hK => ?_) (AllReadyH.nil)
   go_simp
   ((with_reducible refine (HS.out _ hw538).mono ?_); rintro e wd555 ⟨rfl, hb556⟩)
   replace T := Lib.hid (T.out.below hb556 T.out.here)
   replace hw538 := hw538.trans (hb556.mono hw538.size)
   clear hb556
   try clear hHeld
   refine hK.out _ _ ⟨T.out.cell 0, T.out.cell 1, T.out.cell 2, T.out.cell 3, T.out.cell 4, T.out.cell 5, T.out.cell 6, T.out.cell 7, T.out.cell 8, T.out.cell 9⟩ (fun hHeld => ?_)
   clear hK K
   refine tk (i := 13) (v := ?vk557) ?hk557 ?_
   case hk557 => intro w hS; (try dsimp only at hS); go_simp; (first | done | with_reducible rfl)
   simp only [put_laws2]
   refine tk (i := 14) (v := ?vk558) ?hk558 ?_
   case hk558 => intro w hS; (try dsimp only at hS); go_simp; (first | done | with_reducible rfl)
   simp only [put_laws2]
   refine tk (i := 15) (v := ?vk559) ?hk559 ?_
   case hk559 => intro w hS; (try dsimp only at hS); go_simp; (first | done | with_reducible rfl)
   simp only [put_laws2]
   refine tk (i := 16) (v := ?vk560) ?hk560 ?_
   case hk560 => intro w hS; (try dsimp only at hS); go_simp; (first | done | with_reducible rfl)
   simp only [put_laws2]
   refine tk (i := 17) (v := ?vk561) ?hk561 ?_
   case hk561 => intro w hS; (try dsimp only at hS); go_simp; (first | done | with_reducible rfl)
   simp only [put_laws2]
   refine wpAnyH_ready (rs := [18]) (by kernel_rfl) (by simp) ?_
   refine AllReadyH.cons rfl (fun K hK => ?_) (AllReadyH.nil)
   go_simp
   ((with_reducible refine (HN.out _).mono ?_); rintro e wd562 ⟨rfl, rfl⟩)
   try clear hHeld
   refine hK.out _ _ ⟨T.out.cell 0, T.out.cell 1, T.out.cell 2, T.out.cell 3, T.out.cell 4, T.out.cell 5, T.out.cell 6, T.out.cell 7, T.out.cell 8, T.out.cell 9⟩ (fun hHeld => ?_)
   clear hK K
   refine tk (i := 19) (v := ?vk564) ?hk564 ?_
   case hk564 => intro w hS; (try dsimp only at hS); go_simp; (first | done | with_reducible rfl)
   simp only [put_laws2]
   refine tks (i := 20) ?_
   simp only [put_laws2]
   refine tks (i := 21) ?_
   simp only [put_laws2]
   refine tks (i := 22) ?_
   simp only [put_laws2]
   refine tks (i := 23) ?_
   simp only [put_laws2]
   refine tk (i := 24) (v := ?vk565) ?hk565 ?_
   case hk565 => intro w hS; (try dsimp only at hS); go_simp; (first | done | with_reducible rfl)
   simp only [put_laws2]
   refine tk (i := 25) (v := ?vk566) ?hk566 ?_
   case hk566 => intro w hS; (try dsimp only at hS); go_simp; (first | done | with_reducible rfl)
   simp only [put_laws2]
   refine wpAnyH_done (by kernel_rfl) ?_ _
   try clear hHeld
   have hkc := HKI.out
   rcases hkc with h | h | h | h | h | h | h | h | h
   ·
    have HKX : Hid (ownK x = true) := by show _ = _; unfold ownK; simp [h]
    have cT_0 : wd555.cell? ⟨w.heap.size, 0, none⟩ = some (.int .i64 x.kind) := T.out.cell 0
    go_wp2_with fail
    go_ret
    exact ⟨ret_bool (HOB.out.trans HKX.out).symm, hw538⟩
   ·
    have HKX : Hid (ownK x = decide (x.low ≤ x.high)) := by show _ = _; unfold ownK; simp [h]
    obtain ⟨cT_0, -, cT_2, cT_3, -, -, -, -, -, -⟩ := T.out.c10
    go_wp2_with fail
    go_ret
    exact ⟨ret_bool (HOB.out.trans HKX.out).symm, hw538⟩
   ·
    skip
    have HKX : Hid (ownK x = (decide (0 ≤ x.max) && decide (x.max ≤ 200))) := by show _ = _; unfold ownK; simp [h]
    by_cases h0 : 0 ≤ x.max
    ·
     have d0 : decide (0 ≤ x.max) = true := decide_eq_true h0
     by_cases h1 : x.max ≤ 200
     ·
      have d1 : decide (x.max ≤ 200) = true := decide_eq_true h1
      rw [d0, d1] at HKX
      have cT_0 : wd555.cell? ⟨w.heap.size, 0, none⟩ = some (.int .i64 x.kind) := T.out.cell 0
      have cT_4 : wd555.cell? ⟨w.heap.size, 4, none⟩ = some (.int .i64 x.max) := T.out.cell 4
      go_wp2_with fail
      go_ret
      exact ⟨ret_bool (HOB.out.trans HKX.out).symm, hw538⟩
     ·
      have d1 : decide (x.max ≤ 200) = false := decide_eq_false h1
      rw [d0, d1] at HKX
      have cT_0 : wd555.cell? ⟨w.heap.size, 0, none⟩ = some (.int .i64 x.kind) := T.out.cell 0
      have cT_4 : wd555.cell? ⟨w.heap.size, 4, none⟩ = some (.int .i64 x.max) := T.out.cell 4
      go_wp2_with fail
      go_ret
      exact ⟨ret_bool (HOB.out.trans HKX.out).symm, hw538⟩
    ·
     have d0 : decide (0 ≤ x.max) = false := decide_eq_false h0
     rw [d0] at HKX
     have cT_0 : wd555.cell? ⟨w.heap.size, 0, none⟩ = some (.int .i64 x.kind) := T.out.cell 0
     have cT_4 : wd555.cell? ⟨w.heap.size, 4, none⟩ = some (.int .i64 x.max) := T.out.cell 4
     go_wp2_with fail
     go_ret
     exact ⟨ret_bool (HOB.out.trans HKX.out).symm, hw538⟩
   ·
    have := HNK.out; simp [namedI, h] at this
   ·
    have := HNK.out; simp [namedI, h] at this
   ·
    have := HNK.out; simp [namedI, h] at this
   ·
    skip
    have HKX : Hid (ownK x = (decide (0 ≤ x.max) && decide (x.max ≤ 50))) := by show _ = _; unfold ownK; simp [h]
    by_cases h0 : 0 ≤ x.max
    ·
     have d0 : decide (0 ≤ x.max) = true := decide_eq_true h0
     by_cases h1 : x.max ≤ 50
     ·
      have d1 : decide (x.max ≤ 50) = true := decide_eq_true h1
      rw [d0, d1] at HKX
      have cT_0 : wd555.cell? ⟨w.heap.size, 0, none⟩ = some (.int .i64 x.kind) := T.out.cell 0
      have cT_4 : wd555.cell? ⟨w.heap.size, 4, none⟩ = some (.int .i64 x.max) := T.out.cell 4
      go_wp2_with fail
      go_ret
      exact ⟨ret_bool (HOB.out.trans HKX.out).symm, hw538⟩
     ·
      have d1 : decide (x.max ≤ 50) = false := decide_eq_false h1
      rw [d0, d1] at HKX
      have cT_0 : wd555.cell? ⟨w.heap.size, 0, none⟩ = some (.int .i64 x.kind) := T.out.cell 0
      have cT_4 : wd555.cell? ⟨w.heap.size, 4, none⟩ = some (.int .i64 x.max) := T.out.cell 4
      go_wp2_with fail
      go_ret
      exact ⟨ret_bool (HOB.out.trans HKX.out).symm, hw538⟩
    ·
     have d0 : decide (0 ≤ x.max) = false := decide_eq_false h0
     rw [d0] at HKX
     have cT_0 : wd555.cell? ⟨w.heap.size, 0, none⟩ = some (.int .i64 x.kind) := T.out.cell 0
     have cT_4 : wd555.cell? ⟨w.heap.size, 4, none⟩ = some (.int .i64 x.max) := T.out.cell 4
     go_wp2_with fail
     go_ret
     exact ⟨ret_bool (HOB.out.trans HKX.out).symm, hw538⟩
   ·
    skip
    have HKX : Hid (ownK x = (decide (0 ≤ x.max) && decide (x.max ≤ 50))) := by show _ = _; unfold ownK; simp [h]
    by_cases h0 : 0 ≤ x.max
    ·
     have d0 : decide (0 ≤ x.max) = true := decide_eq_true h0
     by_cases h1 : x.max ≤ 50
     ·
      have d1 : decide (x.max ≤ 50) = true := decide_eq_true h1
      rw [d0, d1] at HKX
      have cT_0 : wd555.cell? ⟨w.heap.size, 0, none⟩ = some (.int .i64 x.kind) := T.out.cell 0
      have cT_4 : wd555.cell? ⟨w.heap.size, 4, none⟩ = some (.int .i64 x.max) := T.out.cell 4
      go_wp2_with fail
      go_ret
      exact ⟨ret_bool (HOB.out.trans HKX.out).symm, hw538⟩
     ·
      have d1 : decide (x.max ≤ 50) = false := decide_eq_false h1
      rw [d0, d1] at HKX
      have cT_0 : wd555.cell? ⟨w.heap.size, 0, none⟩ = some (.int .i64 x.kind) := T.out.cell 0
      have cT_4 : wd555.cell? ⟨w.heap.size, 4, none⟩ = some (.int .i64 x.max) := T.out.cell 4
      go_wp2_with fail
      go_ret
      exact ⟨ret_bool (HOB.out.trans HKX.out).symm, hw538⟩
    ·
     have d0 : decide (0 ≤ x.max) = false := decide_eq_false h0
     rw [d0] at HKX
     have cT_0 : wd555.cell? ⟨w.heap.size, 0, none⟩ = some (.int .i64 x.kind) := T.out.cell 0
     have cT_4 : wd555.cell? ⟨w.heap.size, 4, none⟩ = some (.int .i64 x.max) := T.out.cell 4
     go_wp2_with fail
     go_ret
     exact ⟨ret_bool (HOB.out.trans HKX.out).symm, hw538⟩
   ·
    have HKX : Hid (ownK x = true) := by show _ = _; unfold ownK; simp [h]
    have cT_0 : wd555.cell? ⟨w.heap.size, 0, none⟩ = some (.int .i64 x.kind) := T.out.cell 0
    go_wp2_with fail
    go_ret
    exact ⟨ret_bool (HOB.out.trans HKX.out).symm, hw538⟩
  | true =>
   obtain ⟨nb, hnb⟩ : ∃ nb, nameB x.name = nb := ⟨_, rfl⟩
   rw [hnb] at hob HNM
   clear hnb
   cases nb with
   | false =>
    have Ho : Hid (formB x = false) := by show _ = _; exact own_eq x _ (by rw [hob]; rfl)
    clear hob
    go_enter Try.func69, Try.ntmps69
    go_upto_region 1 with fail
    have hb567 := below_al (Below.refl w.heap.size w) (Nat.le_refl _) (.cells #[.int .i64 x.kind, .string ⟨x.name.toArray⟩, .int .i64 x.low, .int .i64 x.high, .int .i64 x.max, .slice A1 x.syms.length c1, .slice A2 x.mems.length c2, .int .i64 x.key, .int .i64 x.elem, .bool x.opn] 67)
    have T := Has.made w 67 #[.int .i64 x.kind, .string ⟨x.name.toArray⟩, .int .i64 x.low, .int .i64 x.high, .int .i64 x.max, .slice A1 x.syms.length c1, .slice A2 x.mems.length c2, .int .i64 x.key, .int .i64 x.elem, .bool x.opn]
    have hw568 := hb567
    replace T := Lib.hid T
    clear hb567
    generalize (w.alloc (.cells #[.int .i64 x.kind, .string ⟨x.name.toArray⟩, .int .i64 x.low, .int .i64 x.high, .int .i64 x.max, .slice A1 x.syms.length c1, .slice A2 x.mems.length c2, .int .i64 x.key, .int .i64 x.elem, .bool x.opn] 67)) = wd569 at *
    obtain ⟨cT_0, cT_1, cT_2, cT_3, cT_4, cT_5, cT_6, cT_7, cT_8, cT_9⟩ := T.out.c10
    refine wp_region_held_drew (S := (fun w' => w'.cell? ⟨w.heap.size, 0, none⟩ = some (.int .i64 x.kind) ∧ w'.cell? ⟨w.heap.size, 1, none⟩ = some (.string ⟨x.name.toArray⟩) ∧ w'.cell? ⟨w.heap.size, 2, none⟩ = some (.int .i64 x.low) ∧ w'.cell? ⟨w.heap.size, 3, none⟩ = some (.int .i64 x.high) ∧ w'.cell? ⟨w.heap.size, 4, none⟩ = some (.int .i64 x.max) ∧ w'.cell? ⟨w.heap.size, 5, none⟩ = some (.slice A1 x.syms.length c1) ∧ w'.cell? ⟨w.heap.size, 6, none⟩ = some (.slice A2 x.mems.length c2) ∧ w'.cell? ⟨w.heap.size, 7, none⟩ = some (.int .i64 x.key) ∧ w'.cell? ⟨w.heap.size, 8, none⟩ = some (.int .i64 x.elem) ∧ w'.cell? ⟨w.heap.size, 9, none⟩ = some (.bool x.opn))) (by kernel_rfl) ⟨cT_0, cT_1, cT_2, cT_3, cT_4, cT_5, cT_6, cT_7, cT_8, cT_9⟩ (fun hHeld => ?_)
    clear cT_0 cT_1 cT_2 cT_3 cT_4 cT_5 cT_6 cT_7 cT_8 cT_9
    have hb570 : Below wd569.heap.size wd569 (wd569.drew) := (Below.refl _ _).drew
    replace T := Lib.hid (T.out.below hb570 T.out.here)
    replace hw568 := hw568.trans (hb570.mono hw568.size)
    clear hb570
    generalize wd569.drew = wd571 at *
    refine tk (i := 0) (v := ?vk572) ?hk572 ?_
    case hk572 => intro w hS; (try dsimp only at hS); go_simp; (first | done | with_reducible rfl)
    simp only [put_laws2]
    refine tk (i := 1) (v := ?vk573) ?hk573 ?_
    case hk573 => intro w hS; (try dsimp only at hS); go_simp; (first | done | with_reducible rfl)
    simp only [put_laws2]
    refine tk (i := 2) (v := ?vk574) ?hk574 ?_
    case hk574 => intro w hS; (try dsimp only at hS); go_simp; (first | done | with_reducible rfl)
    simp only [put_laws2]
    refine tk (i := 3) (v := ?vk575) ?hk575 ?_
    case hk575 => intro w hS; (try dsimp only at hS); go_simp; (first | done | with_reducible rfl)
    simp only [put_laws2]
    refine tk (i := 4) (v := ?vk576) ?hk576 ?_
    case hk576 => intro w hS; (try dsimp only at hS); go_simp; (first | done | with_reducible rfl)
    simp only [put_laws2]
    refine tk (i := 5) (v := ?vk577) ?hk577 ?_
    case hk577 => intro w hS; (try dsimp only at hS); go_simp; (first | done | with_reducible rfl)
    simp only [put_laws2]
    refine tk (i := 6) (v := ?vk578) ?hk578 ?_
    case hk578 => intro w hS; (try dsimp only at hS); go_simp; (first | done | with_reducible rfl)
    simp only [put_laws2]
    refine tk (i := 7) (v := ?vk579) ?hk579 ?_
    case hk579 => intro w hS; (try dsimp only at hS); go_simp; (first | done | with_reducible rfl)
    simp only [put_laws2]
    refine tk (i := 8) (v := ?vk580) ?hk580 ?_
    case hk580 => intro w hS; (try dsimp only at hS); go_simp; (first | done | with_reducible rfl)
    simp only [put_laws2]
    refine tk (i := 9) (v := ?vk581) ?hk581 ?_
    case hk581 => intro w hS; (try dsimp only at hS); go_simp; (first | done | with_reducible rfl)
    simp only [put_laws2]
    refine tk (i := 10) (v := ?vk582) ?hk582 ?_
    case hk582 => intro w hS; (try dsimp only at hS); go_simp; (first | done | with_reducible rfl)
    simp only [put_laws2]
    refine wpAnyH_ready (rs := [11]) (by kernel_rfl) (by simp) ?_
    refine AllReadyH.cons rfl (fun K hK => ?_) (AllReadyH.nil)
    go_simp
    ((with_reducible refine (HP.out _).mono ?_); rintro e wd583 ⟨rfl, hb584⟩)
    replace T := Lib.hid (T.out.below hb584 T.out.here)
    replace hw568 := hw568.trans (hb584.mono hw568.size)
    clear hb584
    try clear hHeld
    refine hK.out _ _ ⟨T.out.cell 0, T.out.cell 1, T.out.cell 2, T.out.cell 3, T.out.cell 4, T.out.cell 5, T.out.cell 6, T.out.cell 7, T.out.cell 8, T.out.cell 9⟩ (fun hHeld => ?_)
    clear hK K
    refine wpAnyH_ready (rs := [12]) (by kernel_rfl) (by simp) ?_
    refine AllReadyH.cons rfl (fun K hK => ?_) (AllReadyH.nil)
    go_simp
    ((with_reducible refine (HS.out _ hw568).mono ?_); rintro e wd585 ⟨rfl, hb586⟩)
    replace T := Lib.hid (T.out.below hb586 T.out.here)
    replace hw568 := hw568.trans (hb586.mono hw568.size)
    clear hb586
    try clear hHeld
    refine hK.out _ _ ⟨T.out.cell 0, T.out.cell 1, T.out.cell 2, T.out.cell 3, T.out.cell 4, T.out.cell 5, T.out.cell 6, T.out.cell 7, T.out.cell 8, T.out.cell 9⟩ (fun hHeld => ?_)
    clear hK K
    refine tk (i := 13) (v := ?vk587) ?hk587 ?_
    case hk587 => intro w hS; (try dsimp only at hS); go_simp; (first | done | with_reducible rfl)
    simp only [put_laws2]
    refine tk (i := 14) (v := ?vk588) ?hk588 ?_
    case hk588 => intro w hS; (try dsimp only at hS); go_simp; (first | done | with_reducible rfl)
    simp only [put_laws2]
    refine tk (i := 15) (v := ?vk589) ?hk589 ?_
    case hk589 => intro w hS; (try dsimp only at hS); go_simp; (first | done | with_reducible rfl)
    simp only [put_laws2]
    refine tk (i := 16) (v := ?vk590) ?hk590 ?_
    case hk590 => intro w hS; (try dsimp only at hS); go_simp; (first | done | with_reducible rfl)
    simp only [put_laws2]
    refine tk (i := 17) (v := ?vk591) ?hk591 ?_
    case hk591 => intro w hS; (try dsimp only at hS); go_simp; (first | done | with_reducible rfl)
    simp only [put_laws2]
    refine wpAnyH_ready (rs := [18]) (by kernel_rfl) (by simp) ?_
    refine AllReadyH.cons rfl (fun K hK => ?_) (AllReadyH.nil)
    go_simp
    ((with_reducible refine (HN.out _).mono ?_); rintro e wd592 ⟨rfl, rfl⟩)
    try clear hHeld
    refine hK.out _ _ ⟨T.out.cell 0, T.out.cell 1, T.out.cell 2, T.out.cell 3, T.out.cell 4, T.out.cell 5, T.out.cell 6, T.out.cell 7, T.out.cell 8, T.out.cell 9⟩ (fun hHeld => ?_)
    clear hK K
    refine tk (i := 19) (v := ?vk594) ?hk594 ?_
    case hk594 => intro w hS; (try dsimp only at hS); go_simp; (first | done | with_reducible rfl)
    simp only [put_laws2]
    refine tk (i := 20) (v := ?vk595) ?hk595 ?_
    case hk595 => intro w hS; (try dsimp only at hS); go_simp; (first | done | with_reducible rfl)
    simp only [put_laws2]
    refine tk (i := 21) (v := ?vk596) ?hk596 ?_
    case hk596 => intro w hS; (try dsimp only at hS); go_simp; (first | done | with_reducible rfl)
    simp only [put_laws2]
    refine wpAnyH_ready (rs := [22]) (by kernel_rfl) (by simp) ?_
    refine AllReadyH.cons rfl (fun K hK => ?_) (AllReadyH.nil)
    go_simp
    ((with_reducible refine (HNM.out _).mono ?_); rintro e wd597 ⟨rfl, rfl⟩)
    try clear hHeld
    refine hK.out _ _ ⟨T.out.cell 0, T.out.cell 1, T.out.cell 2, T.out.cell 3, T.out.cell 4, T.out.cell 5, T.out.cell 6, T.out.cell 7, T.out.cell 8, T.out.cell 9⟩ (fun hHeld => ?_)
    clear hK K
    refine tk (i := 23) (v := ?vk599) ?hk599 ?_
    case hk599 => intro w hS; (try dsimp only at hS); go_simp; (first | done | with_reducible rfl)
    simp only [put_laws2]
    refine tk (i := 24) (v := ?vk600) ?hk600 ?_
    case hk600 => intro w hS; (try dsimp only at hS); go_simp; (first | done | with_reducible rfl)
    simp only [put_laws2]
    refine tk (i := 25) (v := ?vk601) ?hk601 ?_
    case hk601 => intro w hS; (try dsimp only at hS); go_simp; (first | done | with_reducible rfl)
    simp only [put_laws2]
    refine wpAnyH_done (by kernel_rfl) ?_ _
    try clear hHeld
    go_wp2_with fail
    go_ret
    exact ⟨ret_bool Ho.out.symm, hw568⟩
   | true =>
    have HOB : Hid (formB x = ownK x) := by show _ = _; exact own_eq x _ (by rw [hob]; rfl)
    clear hob
    go_enter Try.func69, Try.ntmps69
    go_upto_region 1 with fail
    have hb602 := below_al (Below.refl w.heap.size w) (Nat.le_refl _) (.cells #[.int .i64 x.kind, .string ⟨x.name.toArray⟩, .int .i64 x.low, .int .i64 x.high, .int .i64 x.max, .slice A1 x.syms.length c1, .slice A2 x.mems.length c2, .int .i64 x.key, .int .i64 x.elem, .bool x.opn] 67)
    have T := Has.made w 67 #[.int .i64 x.kind, .string ⟨x.name.toArray⟩, .int .i64 x.low, .int .i64 x.high, .int .i64 x.max, .slice A1 x.syms.length c1, .slice A2 x.mems.length c2, .int .i64 x.key, .int .i64 x.elem, .bool x.opn]
    have hw603 := hb602
    replace T := Lib.hid T
    clear hb602
    generalize (w.alloc (.cells #[.int .i64 x.kind, .string ⟨x.name.toArray⟩, .int .i64 x.low, .int .i64 x.high, .int .i64 x.max, .slice A1 x.syms.length c1, .slice A2 x.mems.length c2, .int .i64 x.key, .int .i64 x.elem, .bool x.opn] 67)) = wd604 at *
    obtain ⟨cT_0, cT_1, cT_2, cT_3, cT_4, cT_5, cT_6, cT_7, cT_8, cT_9⟩ := T.out.c10
    refine wp_region_held_drew (S := (fun w' => w'.cell? ⟨w.heap.size, 0, none⟩ = some (.int .i64 x.kind) ∧ w'.cell? ⟨w.heap.size, 1, none⟩ = some (.string ⟨x.name.toArray⟩) ∧ w'.cell? ⟨w.heap.size, 2, none⟩ = some (.int .i64 x.low) ∧ w'.cell? ⟨w.heap.size, 3, none⟩ = some (.int .i64 x.high) ∧ w'.cell? ⟨w.heap.size, 4, none⟩ = some (.int .i64 x.max) ∧ w'.cell? ⟨w.heap.size, 5, none⟩ = some (.slice A1 x.syms.length c1) ∧ w'.cell? ⟨w.heap.size, 6, none⟩ = some (.slice A2 x.mems.length c2) ∧ w'.cell? ⟨w.heap.size, 7, none⟩ = some (.int .i64 x.key) ∧ w'.cell? ⟨w.heap.size, 8, none⟩ = some (.int .i64 x.elem) ∧ w'.cell? ⟨w.heap.size, 9, none⟩ = some (.bool x.opn))) (by kernel_rfl) ⟨cT_0, cT_1, cT_2, cT_3, cT_4, cT_5, cT_6, cT_7, cT_8, cT_9⟩ (fun hHeld => ?_)
    clear cT_0 cT_1 cT_2 cT_3 cT_4 cT_5 cT_6 cT_7 cT_8 cT_9
    have hb605 : Below wd604.heap.size wd604 (wd604.drew) := (Below.refl _ _).drew
    replace T := Lib.hid (T.out.below hb605 T.out.here)
    replace hw603 := hw603.trans (hb605.mono hw603.size)
    clear hb605
    generalize wd604.drew = wd606 at *
    refine tk (i := 0) (v := ?vk607) ?hk607 ?_
    case hk607 => intro w hS; (try dsimp only at hS); go_simp; (first | done | with_reducible rfl)
    simp only [put_laws2]
    refine tk (i := 1) (v := ?vk608) ?hk608 ?_
    case hk608 => intro w hS; (try dsimp only at hS); go_simp; (first | done | with_reducible rfl)
    simp only [put_laws2]
    refine tk (i := 2) (v := ?vk609) ?hk609 ?_
    case hk609 => intro w hS; (try dsimp only at hS); go_simp; (first | done | with_reducible rfl)
    simp only [put_laws2]
    refine tk (i := 3) (v := ?vk610) ?hk610 ?_
    case hk610 => intro w hS; (try dsimp only at hS); go_simp; (first | done | with_reducible rfl)
    simp only [put_laws2]
    refine tk (i := 4) (v := ?vk611) ?hk611 ?_
    case hk611 => intro w hS; (try dsimp only at hS); go_simp; (first | done | with_reducible rfl)
    simp only [put_laws2]
    refine tk (i := 5) (v := ?vk612) ?hk612 ?_
    case hk612 => intro w hS; (try dsimp only at hS); go_simp; (first | done | with_reducible rfl)
    simp only [put_laws2]
    refine tk (i := 6) (v := ?vk613) ?hk613 ?_
    case hk613 => intro w hS; (try dsimp only at hS); go_simp; (first | done | with_reducible rfl)
    simp only [put_laws2]
    refine tk (i := 7) (v := ?vk614) ?hk614 ?_
    case hk614 => intro w hS; (try dsimp only at hS); go_simp; (first | done | with_reducible rfl)
    simp only [put_laws2]
    refine tk (i := 8) (v := ?vk615) ?hk615 ?_
    case hk615 => intro w hS; (try dsimp only at hS); go_simp; (first | done | with_reducible rfl)
    simp only [put_laws2]
    refine tk (i := 9) (v := ?vk616) ?hk616 ?_
    case hk616 => intro w hS; (try dsimp only at hS); go_simp; (first | done | with_reducible rfl)
    simp only [put_laws2]
    refine tk (i := 10) (v := ?vk617) ?hk617 ?_
    case hk617 => intro w hS; (try dsimp only at hS); go_simp; (first | done | with_reducible rfl)
    simp only [put_laws2]
    refine wpAnyH_ready (rs := [11]) (by kernel_rfl) (by simp) ?_
    refine AllReadyH.cons rfl (fun K hK => ?_) (AllReadyH.nil)
    go_simp
    ((with_reducible refine (HP.out _).mono ?_); rintro e wd618 ⟨rfl, hb619⟩)
    replace T := Lib.hid (T.out.below hb619 T.out.here)
    replace hw603 := hw603.trans (hb619.mono hw603.size)
    clear hb619
    try clear hHeld
    refine hK.out _ _ ⟨T.out.cell 0, T.out.cell 1, T.out.cell 2, T.out.cell 3, T.out.cell 4, T.out.cell 5, T.out.cell 6, T.out.cell 7, T.out.cell 8, T.out.cell 9⟩ (fun hHeld => ?_)
    clear hK K
    refine wpAnyH_ready (rs := [12]) (by kernel_rfl) (by simp) ?_
    refine AllReadyH.cons rfl (fun K hK => ?_) (AllReadyH.nil)
    go_simp
    ((with_reducible refine (HS.out _ hw603).mono ?_); rintro e wd620 ⟨rfl, hb621⟩)
    replace T := Lib.hid (T.out.below hb621 T.out.here)
    replace hw603 := hw603.trans (hb621.mono hw603.size)
    clear hb621
    try clear hHeld
    refine hK.out _ _ ⟨T.out.cell 0, T.out.cell 1, T.out.cell 2, T.out.cell 3, T.out.cell 4, T.out.cell 5, T.out.cell 6, T.out.cell 7, T.out.cell 8, T.out.cell 9⟩ (fun hHeld => ?_)
    clear hK K
    refine tk (i := 13) (v := ?vk622) ?hk622 ?_
    case hk622 => intro w hS; (try dsimp only at hS); go_simp; (first | done | with_reducible rfl)
    simp only [put_laws2]
    refine tk (i := 14) (v := ?vk623) ?hk623 ?_
    case hk623 => intro w hS; (try dsimp only at hS); go_simp; (first | done | with_reducible rfl)
    simp only [put_laws2]
    refine tk (i := 15) (v := ?vk624) ?hk624 ?_
    case hk624 => intro w hS; (try dsimp only at hS); go_simp; (first | done | with_reducible rfl)
    simp only [put_laws2]
    refine tk (i := 16) (v := ?vk625) ?hk625 ?_
    case hk625 => intro w hS; (try dsimp only at hS); go_simp; (first | done | with_reducible rfl)
    simp only [put_laws2]
    refine tk (i := 17) (v := ?vk626) ?hk626 ?_
    case hk626 => intro w hS; (try dsimp only at hS); go_simp; (first | done | with_reducible rfl)
    simp only [put_laws2]
    refine wpAnyH_ready (rs := [18]) (by kernel_rfl) (by simp) ?_
    refine AllReadyH.cons rfl (fun K hK => ?_) (AllReadyH.nil)
    go_simp
    ((with_reducible refine (HN.out _).mono ?_); rintro e wd627 ⟨rfl, rfl⟩)
    try clear hHeld
    refine hK.out _ _ ⟨T.out.cell 0, T.out.cell 1, T.out.cell 2, T.out.cell 3, T.out.cell 4, T.out.cell 5, T.out.cell 6, T.out.cell 7, T.out.cell 8, T.out.cell 9⟩ (fun hHeld => ?_)
    clear hK K
    refine tk (i := 19) (v := ?vk629) ?hk629 ?_
    case hk629 => intro w hS; (try dsimp only at hS); go_simp; (first | done | with_reducible rfl)
    simp only [put_laws2]
    refine tk (i := 20) (v := ?vk630) ?hk630 ?_
    case hk630 => intro w hS; (try dsimp only at hS); go_simp; (first | done | with_reducible rfl)
    simp only [put_laws2]
    refine tk (i := 21) (v := ?vk631) ?hk631 ?_
    case hk631 => intro w hS; (try dsimp only at hS); go_simp; (first | done | with_reducible rfl)
    simp only [put_laws2]
    refine wpAnyH_ready (rs := [22]) (by kernel_rfl) (by simp) ?_
    refine AllReadyH.cons rfl (fun K hK => ?_) (AllReadyH.nil)
    go_simp
    ((with_reducible refine (HNM.out _).mono ?_); rintro e wd632 ⟨rfl, rfl⟩)
    try clear hHeld
    refine hK.out _ _ ⟨T.out.cell 0, T.out.cell 1, T.out.cell 2, T.out.cell 3, T.out.cell 4, T.out.cell 5, T.out.cell 6, T.out.cell 7, T.out.cell 8, T.out.cell 9⟩ (fun hHeld => ?_)
    clear hK K
    refine tk (i := 23) (v := ?vk634) ?hk634 ?_
    case hk634 => intro w hS; (try dsimp only at hS); go_simp; (first | done | with_reducible rfl)
    simp only [put_laws2]
    refine tk (i := 24) (v := ?vk635) ?hk635 ?_
    case hk635 => intro w hS; (try dsimp only at hS); go_simp; (first | done | with_reducible rfl)
    simp only [put_laws2]
    refine tk (i := 25) (v := ?vk636) ?hk636 ?_
    case hk636 => intro w hS; (try dsimp only at hS); go_simp; (first | done | with_reducible rfl)
    simp only [put_laws2]
    refine wpAnyH_done (by kernel_rfl) ?_ _
    try clear hHeld
    have hkc := HKI.out
    rcases hkc with h | h | h | h | h | h | h | h | h
    ·
     have := HNK.out; simp [namedI, h] at this
    ·
     have := HNK.out; simp [namedI, h] at this
    ·
     have := HNK.out; simp [namedI, h] at this
    ·
     have HKX : Hid (ownK x = symB x.syms) := by show _ = _; unfold ownK; simp [h]
     have cT_0 : wd620.cell? ⟨w.heap.size, 0, none⟩ = some (.int .i64 x.kind) := T.out.cell 0
     have cT_5 : wd620.cell? ⟨w.heap.size, 5, none⟩ = some (.slice A1 x.syms.length c1) := T.out.cell 5
     go_wp2_with fail
     clear cT_0 cT_5
     ((with_reducible refine (rsymbols_any x.syms _ _ HT.out.lens.1 ((HT.out.syms.below hw603).mono (hw603).size)).mono ?_); rintro e wd637 ⟨rfl, hb638⟩)
     replace T := Lib.hid (T.out.below hb638 T.out.here)
     replace hw603 := hw603.trans (hb638.mono hw603.size)
     clear hb638
     go_wp2_with fail
     go_ret
     exact ⟨ret_bool (HOB.out.trans HKX.out).symm, hw603⟩
    ·
     have HKX : Hid (ownK x = rmemB true x.mems) := by show _ = _; unfold ownK; simp [h]
     have cT_0 : wd620.cell? ⟨w.heap.size, 0, none⟩ = some (.int .i64 x.kind) := T.out.cell 0
     have cT_6 : wd620.cell? ⟨w.heap.size, 6, none⟩ = some (.slice A2 x.mems.length c2) := T.out.cell 6
     go_wp2_with fail
     clear cT_0 cT_6
     ((with_reducible refine (rmemberstrue_any x.mems _ _ HT.out.lens.2 (HT.out.mems.on hw603)).mono ?_); rintro e wd639 ⟨rfl, hb640⟩)
     replace T := Lib.hid (T.out.below hb640 T.out.here)
     replace hw603 := hw603.trans (hb640.mono hw603.size)
     clear hb640
     go_wp2_with fail
     go_ret
     exact ⟨ret_bool (HOB.out.trans HKX.out).symm, hw603⟩
    ·
     have HKX : Hid (ownK x = rmemB false x.mems) := by show _ = _; unfold ownK; simp [h]
     have cT_0 : wd620.cell? ⟨w.heap.size, 0, none⟩ = some (.int .i64 x.kind) := T.out.cell 0
     have cT_6 : wd620.cell? ⟨w.heap.size, 6, none⟩ = some (.slice A2 x.mems.length c2) := T.out.cell 6
     go_wp2_with fail
     clear cT_0 cT_6
     ((with_reducible refine (rmembersfalse_any x.mems _ _ HT.out.lens.2 (HT.out.mems.on hw603)).mono ?_); rintro e wd641 ⟨rfl, hb642⟩)
     replace T := Lib.hid (T.out.below hb642 T.out.here)
     replace hw603 := hw603.trans (hb642.mono hw603.size)
     clear hb642
     go_wp2_with fail
     go_ret
     exact ⟨ret_bool (HOB.out.trans HKX.out).symm, hw603⟩
    ·
     have := HNK.out; simp [namedI, h] at this
    ·
     have := HNK.out; simp [namedI, h] at this
    ·
     have := HNK.out; simp [namedI, h] at this
set_option maxRecDepth 100000 in
set_option maxHeartbeats 4000000 in
theorem own0_any (x : Typ) (A1 A2 : Option Addr) (c1 c2 : Nat) (w : World) (h : ¬ KindIn x.kind) :
  Calls Try.prog 69 #[typA x (.slice A1 x.syms.length c1) (.slice A2 x.mems.length c2)] w fun e w' => e = .returned (.bool (formB x)) ∧ Below w.heap.size w w' := by
 have Ho : Hid (formB x = false) := by show _ = _; unfold formB; rw [decide_eq_false (by unfold KindIn at h; exact h)]; rfl
 by_cases h1 : x.kind < 1
 ·
  have d1 : decide (x.kind < 1) = true := decide_eq_true h1
  clear h h1
  go_enter Try.func69, Try.ntmps69
  go_upto_region 1 with fail
  have hb643 := below_al (Below.refl w.heap.size w) (Nat.le_refl _) (.cells #[.int .i64 x.kind, .string ⟨x.name.toArray⟩, .int .i64 x.low, .int .i64 x.high, .int .i64 x.max, .slice A1 x.syms.length c1, .slice A2 x.mems.length c2, .int .i64 x.key, .int .i64 x.elem, .bool x.opn] 67)
  have T := Has.made w 67 #[.int .i64 x.kind, .string ⟨x.name.toArray⟩, .int .i64 x.low, .int .i64 x.high, .int .i64 x.max, .slice A1 x.syms.length c1, .slice A2 x.mems.length c2, .int .i64 x.key, .int .i64 x.elem, .bool x.opn]
  have hw644 := hb643
  replace T := Lib.hid T
  clear hb643
  generalize (w.alloc (.cells #[.int .i64 x.kind, .string ⟨x.name.toArray⟩, .int .i64 x.low, .int .i64 x.high, .int .i64 x.max, .slice A1 x.syms.length c1, .slice A2 x.mems.length c2, .int .i64 x.key, .int .i64 x.elem, .bool x.opn] 67)) = wd645 at *
  obtain ⟨cT_0, cT_1, cT_2, cT_3, cT_4, cT_5, cT_6, cT_7, cT_8, cT_9⟩ := T.out.c10
  refine wp_region_held_drew (S := (fun w' => w'.cell? ⟨w.heap.size, 0, none⟩ = some (.int .i64 x.kind) ∧ w'.cell? ⟨w.heap.size, 1, none⟩ = some (.string ⟨x.name.toArray⟩) ∧ w'.cell? ⟨w.heap.size, 2, none⟩ = some (.int .i64 x.low) ∧ w'.cell? ⟨w.heap.size, 3, none⟩ = some (.int .i64 x.high) ∧ w'.cell? ⟨w.heap.size, 4, none⟩ = some (.int .i64 x.max) ∧ w'.cell? ⟨w.heap.size, 5, none⟩ = some (.slice A1 x.syms.length c1) ∧ w'.cell? ⟨w.heap.size, 6, none⟩ = some (.slice A2 x.mems.length c2) ∧ w'.cell? ⟨w.heap.size, 7, none⟩ = some (.int .i64 x.key) ∧ w'.cell? ⟨w.heap.size, 8, none⟩ = some (.int .i64 x.elem) ∧ w'.cell? ⟨w.heap.size, 9, none⟩ = some (.bool x.opn))) (by kernel_rfl) ⟨cT_0, cT_1, cT_2, cT_3, cT_4, cT_5, cT_6, cT_7, cT_8, cT_9⟩ (fun hHeld => ?_)
  clear cT_0 cT_1 cT_2 cT_3 cT_4 cT_5 cT_6 cT_7 cT_8 cT_9
  have hb646 : Below wd645.heap.size wd645 (wd645.drew) := (Below.refl _ _).drew
  replace T := Lib.hid (T.out.below hb646 T.out.here)
  replace hw644 := hw644.trans (hb646.mono hw644.size)
  clear hb646
  generalize wd645.drew = wd647 at *
  refine tk (i := 0) (v := ?vk648) ?hk648 ?_
  case hk648 => intro w hS; (try dsimp only at hS); go_simp; (first | done | with_reducible rfl)
  simp only [put_laws2]
  refine tk (i := 1) (v := ?vk649) ?hk649 ?_
  case hk649 => intro w hS; (try dsimp only at hS); go_simp; (first | done | with_reducible rfl)
  simp only [put_laws2]
  refine tk (i := 2) (v := ?vk650) ?hk650 ?_
  case hk650 => intro w hS; (try dsimp only at hS); go_simp; (first | done | with_reducible rfl)
  simp only [put_laws2]
  refine tk (i := 3) (v := ?vk651) ?hk651 ?_
  case hk651 => intro w hS; (try dsimp only at hS); go_simp; (first | done | with_reducible rfl)
  simp only [put_laws2]
  refine tks (i := 4) ?_
  simp only [put_laws2]
  refine tks (i := 5) ?_
  simp only [put_laws2]
  refine tks (i := 6) ?_
  simp only [put_laws2]
  refine tk (i := 7) (v := ?vk652) ?hk652 ?_
  case hk652 => intro w hS; (try dsimp only at hS); go_simp; (first | done | with_reducible rfl)
  simp only [put_laws2]
  refine tk (i := 8) (v := ?vk653) ?hk653 ?_
  case hk653 => intro w hS; (try dsimp only at hS); go_simp; (first | done | with_reducible rfl)
  simp only [put_laws2]
  refine tks (i := 9) ?_
  simp only [put_laws2]
  refine tks (i := 10) ?_
  simp only [put_laws2]
  refine tks (i := 11) ?_
  simp only [put_laws2]
  refine tks (i := 12) ?_
  simp only [put_laws2]
  refine tks (i := 13) ?_
  simp only [put_laws2]
  refine tk (i := 14) (v := ?vk654) ?hk654 ?_
  case hk654 => intro w hS; (try dsimp only at hS); go_simp; (first | done | with_reducible rfl)
  simp only [put_laws2]
  refine tk (i := 15) (v := ?vk655) ?hk655 ?_
  case hk655 => intro w hS; (try dsimp only at hS); go_simp; (first | done | with_reducible rfl)
  simp only [put_laws2]
  refine tks (i := 16) ?_
  simp only [put_laws2]
  refine tks (i := 17) ?_
  simp only [put_laws2]
  refine tks (i := 18) ?_
  simp only [put_laws2]
  refine tks (i := 19) ?_
  simp only [put_laws2]
  refine tks (i := 20) ?_
  simp only [put_laws2]
  refine tks (i := 21) ?_
  simp only [put_laws2]
  refine tks (i := 22) ?_
  simp only [put_laws2]
  refine tks (i := 23) ?_
  simp only [put_laws2]
  refine tks (i := 24) ?_
  simp only [put_laws2]
  refine tk (i := 25) (v := ?vk656) ?hk656 ?_
  case hk656 => intro w hS; (try dsimp only at hS); go_simp; (first | done | with_reducible rfl)
  simp only [put_laws2]
  refine wpAnyH_done (by kernel_rfl) ?_ _
  try clear hHeld
  go_wp2_with fail
  go_ret
  exact ⟨ret_bool Ho.out.symm, hw644⟩
 ·
  have d1 : decide (x.kind < 1) = false := decide_eq_false h1
  have d9 : decide (9 < x.kind) = true := decide_eq_true (by unfold KindIn at h; omega)
  clear h h1
  go_enter Try.func69, Try.ntmps69
  go_upto_region 1 with fail
  have hb657 := below_al (Below.refl w.heap.size w) (Nat.le_refl _) (.cells #[.int .i64 x.kind, .string ⟨x.name.toArray⟩, .int .i64 x.low, .int .i64 x.high, .int .i64 x.max, .slice A1 x.syms.length c1, .slice A2 x.mems.length c2, .int .i64 x.key, .int .i64 x.elem, .bool x.opn] 67)
  have T := Has.made w 67 #[.int .i64 x.kind, .string ⟨x.name.toArray⟩, .int .i64 x.low, .int .i64 x.high, .int .i64 x.max, .slice A1 x.syms.length c1, .slice A2 x.mems.length c2, .int .i64 x.key, .int .i64 x.elem, .bool x.opn]
  have hw658 := hb657
  replace T := Lib.hid T
  clear hb657
  generalize (w.alloc (.cells #[.int .i64 x.kind, .string ⟨x.name.toArray⟩, .int .i64 x.low, .int .i64 x.high, .int .i64 x.max, .slice A1 x.syms.length c1, .slice A2 x.mems.length c2, .int .i64 x.key, .int .i64 x.elem, .bool x.opn] 67)) = wd659 at *
  obtain ⟨cT_0, cT_1, cT_2, cT_3, cT_4, cT_5, cT_6, cT_7, cT_8, cT_9⟩ := T.out.c10
  refine wp_region_held_drew (S := (fun w' => w'.cell? ⟨w.heap.size, 0, none⟩ = some (.int .i64 x.kind) ∧ w'.cell? ⟨w.heap.size, 1, none⟩ = some (.string ⟨x.name.toArray⟩) ∧ w'.cell? ⟨w.heap.size, 2, none⟩ = some (.int .i64 x.low) ∧ w'.cell? ⟨w.heap.size, 3, none⟩ = some (.int .i64 x.high) ∧ w'.cell? ⟨w.heap.size, 4, none⟩ = some (.int .i64 x.max) ∧ w'.cell? ⟨w.heap.size, 5, none⟩ = some (.slice A1 x.syms.length c1) ∧ w'.cell? ⟨w.heap.size, 6, none⟩ = some (.slice A2 x.mems.length c2) ∧ w'.cell? ⟨w.heap.size, 7, none⟩ = some (.int .i64 x.key) ∧ w'.cell? ⟨w.heap.size, 8, none⟩ = some (.int .i64 x.elem) ∧ w'.cell? ⟨w.heap.size, 9, none⟩ = some (.bool x.opn))) (by kernel_rfl) ⟨cT_0, cT_1, cT_2, cT_3, cT_4, cT_5, cT_6, cT_7, cT_8, cT_9⟩ (fun hHeld => ?_)
  clear cT_0 cT_1 cT_2 cT_3 cT_4 cT_5 cT_6 cT_7 cT_8 cT_9
  have hb660 : Below wd659.heap.size wd659 (wd659.drew) := (Below.refl _ _).drew
  replace T := Lib.hid (T.out.below hb660 T.out.here)
  replace hw658 := hw658.trans (hb660.mono hw658.size)
  clear hb660
  generalize wd659.drew = wd661 at *
  refine tk (i := 0) (v := ?vk662) ?hk662 ?_
  case hk662 => intro w hS; (try dsimp only at hS); go_simp; (first | done | with_reducible rfl)
  simp only [put_laws2]
  refine tk (i := 1) (v := ?vk663) ?hk663 ?_
  case hk663 => intro w hS; (try dsimp only at hS); go_simp; (first | done | with_reducible rfl)
  simp only [put_laws2]
  refine tk (i := 2) (v := ?vk664) ?hk664 ?_
  case hk664 => intro w hS; (try dsimp only at hS); go_simp; (first | done | with_reducible rfl)
  simp only [put_laws2]
  refine tk (i := 3) (v := ?vk665) ?hk665 ?_
  case hk665 => intro w hS; (try dsimp only at hS); go_simp; (first | done | with_reducible rfl)
  simp only [put_laws2]
  refine tk (i := 4) (v := ?vk666) ?hk666 ?_
  case hk666 => intro w hS; (try dsimp only at hS); go_simp; (first | done | with_reducible rfl)
  simp only [put_laws2]
  refine tk (i := 5) (v := ?vk667) ?hk667 ?_
  case hk667 => intro w hS; (try dsimp only at hS); go_simp; (first | done | with_reducible rfl)
  simp only [put_laws2]
  refine tk (i := 6) (v := ?vk668) ?hk668 ?_
  case hk668 => intro w hS; (try dsimp only at hS); go_simp; (first | done | with_reducible rfl)
  simp only [put_laws2]
  refine tk (i := 7) (v := ?vk669) ?hk669 ?_
  case hk669 => intro w hS; (try dsimp only at hS); go_simp; (first | done | with_reducible rfl)
  simp only [put_laws2]
  refine tk (i := 8) (v := ?vk670) ?hk670 ?_
  case hk670 => intro w hS; (try dsimp only at hS); go_simp; (first | done | with_reducible rfl)
  simp only [put_laws2]
  refine tks (i := 9) ?_
  simp only [put_laws2]
  refine tks (i := 10) ?_
  simp only [put_laws2]
  refine tks (i := 11) ?_
  simp only [put_laws2]
  refine tks (i := 12) ?_
  simp only [put_laws2]
  refine tks (i := 13) ?_
  simp only [put_laws2]
  refine tk (i := 14) (v := ?vk671) ?hk671 ?_
  case hk671 => intro w hS; (try dsimp only at hS); go_simp; (first | done | with_reducible rfl)
  simp only [put_laws2]
  refine tk (i := 15) (v := ?vk672) ?hk672 ?_
  case hk672 => intro w hS; (try dsimp only at hS); go_simp; (first | done | with_reducible rfl)
  simp only [put_laws2]
  refine tks (i := 16) ?_
  simp only [put_laws2]
  refine tks (i := 17) ?_
  simp only [put_laws2]
  refine tks (i := 18) ?_
  simp only [put_laws2]
  refine tks (i := 19) ?_
  simp only [put_laws2]
  refine tks (i := 20) ?_
  simp only [put_laws2]
  refine tks (i := 21) ?_
  simp only [put_laws2]
  refine tks (i := 22) ?_
  simp only [put_laws2]
  refine tks (i := 23) ?_
  simp only [put_laws2]
  refine tks (i := 24) ?_
  simp only [put_laws2]
  refine tk (i := 25) (v := ?vk673) ?hk673 ?_
  case hk673 => intro w hS; (try dsimp only at hS); go_simp; (first | done | with_reducible rfl)
  simp only [put_laws2]
  refine wpAnyH_done (by kernel_rfl) ?_ _
  try clear hHeld
  go_wp2_with fail
  go_ret
  exact ⟨ret_bool Ho.out.symm, hw658⟩
theorem own_any (x : Typ) (vs vm : Value) (w : World) (ht : TypAt w w.heap.size x vs vm) :
  Calls Try.prog 69 #[typA x vs vm] w fun e w' => e = .returned (.bool (formB x)) ∧ Below w.heap.size w w' := by
 obtain ⟨A1, c1, A2, c2, rfl, rfl, -, -⟩ := ht.forms
 by_cases hk : KindIn x.kind
 ·
  exact own1_any x A1 A2 c1 c2 w hk ht
 ·
  exact own0_any x A1 A2 c1 c2 w hk
end Go.Proofs.Ytjajgclchapllaa

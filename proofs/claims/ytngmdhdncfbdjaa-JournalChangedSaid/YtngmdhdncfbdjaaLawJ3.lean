/- The law JournalCut holds for every input. No condition. -/
import Derived.Test.YtngmdhdncfbdjaaLawJ2
namespace Go.Proofs.Ytngmdhdncfbdjaa
open Go.ChangeShapes Go.WideShapes Go.ChangeAt Go.RowKit Go.Joins
open Go.ChangeMaps (open_string shut_string)

theorem Rd.take {w : World} {B size n c : Nat} {A : Option Addr} {xs : List Value} (h : Rd w B size (.slice A n c) n xs) (i : Nat) (hi : i ≤ n) : Rd w B size (.slice A i c) i (xs.take (i * size)) := by
  obtain ⟨hl, A', c', hv, hc, h2⟩ := h
  injection hv with h3 h4 h5
  subst h3; subst h5
  have hle : i * size ≤ n * size := Nat.mul_le_mul_right _ hi
  refine ⟨by rw [List.length_take]; omega, A, c, rfl, by omega, ?_⟩
  by_cases h0 : i = 0
  · exact .inl h0
  rcases h2 with h2 | ⟨b, o, hA, hb, hcell⟩
  · omega
  · exact .inr ⟨b, o, hA, hb, fun j u hu => hcell j u (by
      rw [List.getElem?_take] at hu
      split at hu
      · exact hu
      · cases hu)⟩
theorem entsV_take (xs : List Ent) (i : Nat) (hi : i ≤ xs.length) : (entsV xs).take (i * 4) = entsV (xs.take i) := by
  have e : entsV xs = entsV (xs.take i) ++ entsV (xs.drop i) := by
    unfold entsV
    rw [← List.flatMap_append, List.take_append_drop]
  have hl : (entsV (xs.take i)).length = i * 4 := by rw [entsV_len, List.length_take]; congr 1; omega
  rw [e, ← hl, List.take_left]
theorem jour_len (es : List Ent) (h : ∀ x ∈ es, Gd x) : (jour es).length ≤ es.length * 65600 := by
  induction es with
  | nil => simp [jour]
  | cons x r ih =>
    have h1 : (frm x).length ≤ 65600 := frame_len _
    have h2 := ih fun y hy => h y (by simp [hy])
    have e : jour (x :: r) = frm x ++ jour r := rfl
    rw [e, List.length_append, List.length_cons]
    omega
theorem goodJ_le (xs : List Ent) : (goodJ xs).length ≤ xs.length := List.length_filter_le _ _
theorem few_le (xs : List Ent) (h : fewB xs = true) : xs.length ≤ 10 ∧ sumJ xs ≤ 500 := by
  unfold fewB at h
  exact of_decide_eq_true h

set_option maxRecDepth 100000 in
set_option maxHeartbeats 400000 in
theorem walk_JournalCut (v : Value) (xs : List Ent) (hlen : xs.length ≤ 140737488351232) (hin : ∀ x ∈ xs, EntIn x) (c : Nat) (hc : c < 65536) (w : World) (hr : Rd w w.heap.size 4 v xs.length (entsV xs)) :
    Calls Try.prog 6 #[v, .int .u16 c] w fun e w' => e = .returned (.bool true) ∧ Below w.heap.size w w' := by
  have Hr := Lib.hid hr
  have Hin := Lib.hid hin
  have hfw := fun W h => few_any xs v W hlen hin h
  clear hr
  cases hb : fewB xs with
  | false =>
    rw [hb] at hfw
    have HF := Lib.hid hfw
    clear hfw hb hin
    go_enter Try.func6, Try.ntmps6
    go_wp2_with fail
    refine (awake_any _).mono ?_
    rintro e w1 ⟨rfl, hb1⟩
    have HR1 := Lib.hid (Hr.out.on hb1)
    go_wp2_with fail
    refine (HF.out _ HR1.out).mono ?_
    rintro e w2 ⟨rfl, hb2⟩
    have h02 := hb1.trans (hb2.mono hb1.size)
    clear hb1 hb2
    go_wp2_with fail
    refine (awake_any _).mono ?_
    rintro e w3 ⟨rfl, hb3⟩
    go_wp2_with fail
    go_ret
    exact ⟨rfl, h02.trans (hb3.mono h02.size)⟩
  | true =>
    rw [hb] at hfw
    have HF := Lib.hid hfw
    have hfl := (few_le xs hb).1
    have hlo := fun W h => log_any xs v W hfl hin h
    have hgo := fun W h => good_any xs v W (by omega) hin h
    rw [logJ_eq xs hin] at hlo
    have hgd := good_gd xs hin
    have hgl := goodJ_le xs
    have hjl := jour_len _ hgd
    generalize goodJ xs = es at *
    have HLo := Lib.hid hlo
    have HGo := Lib.hid hgo
    clear hfw hb hlo hgo hin
    have hj6 : (jour es).length ≤ 656000 := by omega
    have hcut : c % ((jour es).length + 1) ≤ (jour es).length := by have := Nat.mod_lt c (show 0 < (jour es).length + 1 by omega); omega
    obtain ⟨cut, hcu, Hcu⟩ : ∃ cut : Nat, (c : Int) % ((jour es).length + 1) = (cut : Int) ∧ cut ≤ (jour es).length := ⟨c % ((jour es).length + 1), rfl, hcut⟩
    have hre := fun W => read_any ((jour es).take cut) (by rw [List.length_take]; omega) W
    have hex : ({ data := (jour es).toArray } : ByteArray).extract 0 cut = { data := ((jour es).take cut).toArray } := by rw [str_cut]; simp
    have hcl := fun i => cut_law es hgd cut i Hcu
    generalize hR : readJ ((jour es).take cut) = R at *
    obtain ⟨got, n, e⟩ := R
    simp only at hre
    have HRe := Lib.hid hre
    have HCl := Lib.hid hcl
    have Hgd := Lib.hid hgd
    clear hre hcl hgd hcut hR hjl
    have hends := ends_get es
    have hendl := ends_len es
    generalize ends es = E at *
    generalize jour es = J at *
    have Hends := Lib.hid hends
    have Hendl := Lib.hid hendl
    clear hends hendl
    have hcm := hcu
    go_enter Try.func6, Try.ntmps6
    go_wp2_with fail
    refine (awake_any _).mono ?_
    rintro e w1 ⟨rfl, hb1⟩
    have HR1 := Lib.hid (Hr.out.on hb1)
    go_wp2_with fail
    refine (HF.out _ HR1.out).mono ?_
    rintro e w2 ⟨rfl, hb2⟩
    have h02 := hb1.trans (hb2.mono hb1.size)
    have HR2 := Lib.hid (HR1.out.on hb2)
    clear hb1 hb2
    go_wp2_with fail
    refine (HLo.out _ HR2.out).mono ?_
    rintro e w3 ⟨vE, rfl, hown, hb3⟩
    have h03 := h02.trans (hb3.mono h02.size)
    have HR3 := Lib.hid (HR2.out.on hb3)
    have RE := Lib.hid (Rd.of_own hown)
    clear hb3 hown h02
    have hElen : 0 < E.length := by rw [Hendl.out]; omega
    obtain ⟨AE, cE, rfl, hcE⟩ := RE.out.form
    obtain ⟨bE, oE, rfl, hbE, hcellE⟩ := RE.out.at_ hElen
    have HcE : Hid (∀ i, i ≤ es.length → w3.cell? ⟨bE, oE + i, none⟩ = some (.int .i64 ((jour (es.take i)).length : Nat))) := fun i hi => hcellE i _ (by rw [List.getElem?_map, Hends.out i hi]; rfl)
    clear hcellE hElen
    go_wp2_with fail
    simp only [hcu]
    clear hcu hex
    refine (HRe.out _).mono ?_
    rintro e' w4 ⟨vR, rfl, hown, hb4⟩
    have h04 := h03.trans (hb4.mono h03.size)
    have HR4 := Lib.hid (HR3.out.on hb4)
    have RR := Lib.hid (Rd.of_own hown)
    have HcE4 : Hid (∀ i, i ≤ es.length → w4.cell? ⟨bE, oE + i, none⟩ = some (.int .i64 ((jour (es.take i)).length : Nat))) := fun i hi => (hb4.cell (p := ⟨bE, oE + i, none⟩) hbE).trans (HcE.out i hi)
    have hbE4 : bE < w4.heap.size := Nat.lt_of_lt_of_le hbE hb4.size
    have hle1 : (E.length : Int) = es.length + 1 := by rw [Hendl.out]; simp
    clear hb4 hown h03 HcE hbE
    go_wp2_with fail
    go_loop [11] (fun s => ∃ i : Nat, s = .int .i64 i ∧ i ≤ es.length ∧ (jour (es.take i)).length ≤ cut) (fun s => es.length - (intOf s).toNat)
    case atStart => exact ⟨0, rfl, by omega, by simp [jour]⟩
    case round =>
      obtain ⟨i, rfl, hi, hic⟩ := hrel
      have hci := HcE4.out i hi
      by_cases hgo : i < es.length ∧ (jour (es.take (i + 1))).length ≤ cut
      · obtain ⟨hin, hlc⟩ := hgo
        have hci1 := HcE4.out (i + 1) hin
        generalize hm1 : (jour (es.take (i + 1))).length = m1 at *
        generalize (jour (es.take i)).length = m0 at *
        have hi2 : (i : Int) + 1 < E.length := by omega
        have Hm1 := Lib.hid hm1
        clear hm1 hle1
        go_wp2
        go_round
        case rel => exact ⟨i + 1, by go_num, by omega, by rw [Hm1.out]; exact hlc⟩
        case measure => simp [intOf]; omega
      · have hcl := HCl.out i hic (fun h => Nat.lt_of_not_le fun h2 => hgo ⟨h, h2⟩)
        obtain ⟨hg1, hn1, he1⟩ := (by simpa only [Prod.mk.injEq] using hcl : got = es.take i ∧ n = (jour (es.take i)).length ∧ e = if cut = (jour (es.take i)).length then 0 else 17)
        clear hcl
        rw [← hn1] at hci hic he1
        subst hg1
        have hti : (es.take i).length = i := by rw [List.length_take]; omega
        have Hti := Lib.hid hti
        have hsm := fun va vb W h1 h2 => same_any (es.take i) (es.take i) va vb W (by omega) (by omega) h1 h2
        simp only [decide_true] at hsm
        have HS := Lib.hid hsm
        have hi3 : (i : Int) < E.length := by omega
        have Hn1 := Lib.hid hn1
        have hlast : (E.length : Int) ≤ (i : Int) + 1 ∨ ((i : Int) + 1 < E.length ∧ ∃ m1 : Nat, (cut : Int) < m1 ∧ w4.cell? ⟨bE, oE + (i + 1), none⟩ = some (.int .i64 (m1 : Nat))) := by
          by_cases hin : i < es.length
          · right
            refine ⟨by omega, _, ?_, HcE4.out (i + 1) hin⟩
            have := fun h2 => hgo ⟨hin, h2⟩
            omega
          · left; omega
        clear hsm hn1 hti hgo
        have hex : (cut = n ∧ e = 0) ∨ (cut ≠ n ∧ e = 17) := by
          by_cases hcn : cut = n
          · rw [if_pos hcn] at he1; exact .inl ⟨hcn, he1⟩
          · rw [if_neg hcn] at he1; exact .inr ⟨hcn, he1⟩
        clear he1
        have hex2 : (cut = n ∧ e = 0) ∨ (((cut : Int) == n) = false ∧ e = 17) := hex.imp id fun h => ⟨beq_eq_false_iff_ne.2 (by omega), h.2⟩
        clear hex
        rcases hlast with hlast | ⟨hi2, m1, hm1, hci1⟩
        all_goals
          clear hle1
          rcases hex2 with ⟨rfl, rfl⟩ | ⟨hcn, rfl⟩
        all_goals
          go_wp2_with fail
          refine (HGo.out _ HR4.out).mono ?_
          rintro e5 w5 ⟨vG, rfl, hown5, hb5⟩
          have h05 := h04.trans (hb5.mono h04.size)
          have hrG := Rd.of_own hown5
          obtain ⟨AG, cG, rfl, hcG⟩ := hrG.form
          have RR5 := Lib.hid (RR.out.on hb5)
          have hsl : Rd w5 w5.heap.size 4 (.slice AG i cG) (es.take i).length (entsV (es.take i)) := by rw [Hti.out, ← entsV_take es i hi]; exact hrG.take i hi
          have RS := Lib.hid hsl
          have hci5 := (hb5.cell (p := ⟨bE, oE + i, none⟩) hbE4).trans hci
          have hbE5 : bE < w5.heap.size := Nat.lt_of_lt_of_le hbE4 hb5.size
          have hicG : (i : Int) ≤ cG := by omega
          clear hb5 hown5 hrG hsl hci
          go_wp2_with fail
          refine (HS.out _ _ _ RR5.out RS.out).mono ?_
          rintro e6 w6 ⟨rfl, hb6⟩
          have hci6 := (hb6.cell (p := ⟨bE, oE + i, none⟩) hbE5).trans hci5
          clear hci5
          go_wp2_with fail
          go_ret
          exact ⟨ret_bool (by first | rfl | simp), h05.trans (hb6.mono h05.size)⟩

namespace fr_JournalCut
set_option maxRecDepth 100000 in
theorem lifted (os : Os) (started : os.Started) (H : Type) (enc : TypeId × Value → H) :
    ReturnsInHanded {} Try.checked os 6 .any (Rows.journalCutSpec.pre6 enc Try.prog Try.f6 Rows.journalCutRow.domain false) (Rows.journalCutSpec.post enc Try.prog Try.f6 false true false false) := by
  refine returnsInHanded_of_change_sized (C := Try.checked) own_knob started (by kernel_rfl) Try.func6
    (ChangeSpec.witness6 (enc := enc) (C := Try.checked) false ⟨#[], #[.slice none 0 0, .int .u16 0], []⟩ 8 (by kernel_rfl) (by kernel_rfl) (by kernel_rfl) (by kernel_rfl)) ?_
  intro W base args ds gs before hval0 hW hcnd hsz0 _
  have hsz : (DataW.weightsEach Try.prog (Try.f6.params.toList ++ Rows.journalCutSpec.plain.varTypes Try.prog) (ds ++ gs)).all (· ≤ reachBytes) = true := hsz0
  have hval : ∀ (j : Nat) t v, Try.f6.params[j]? = some t → args[j]? = some v → Value.okWide Try.prog W .any base t v := hval0
  have hW' := hW
  have hlt : ∀ p ∈ before, p.block < W.heap.size := fun p hp => hW.lt p hp
  obtain ⟨p, q, hA0, hV, rfl, hfz, hnd⟩ := hW
  have hA : DataW.TrodAll enc Try.prog W 0 (fun _ => true) true Try.f6.params.toList args.toList ds p := hA0
  have hA2 := hA
  rw [Try.params6] at hA hval hsz
  obtain ⟨v0, vs0, d0, ds0, p0, q0, hargs, rfl, hpq, h0, r0⟩ := trodAll_cons hA
  obtain ⟨v1, vs1, d1, ds1, p1, q1, rfl, rfl, rfl, h1, r1⟩ := trodAll_cons r0
  obtain ⟨rfl, rfl, rfl⟩ := trodAll_nil r1
  obtain rfl : args = #[v0, v1] := by cases args; simp_all
  obtain ⟨rfl, rfl⟩ := trodVars_none hV
  obtain ⟨a0, m0, u0, w0⟩ := open_ents (hval 0 31 v0 rfl rfl) h0 (sz_of_each hsz (j := 0) rfl (by simp))
  obtain ⟨x1, rfl, rfl, rfl, w1⟩ := open_int Try.underlying34 (hval 1 34 v1 rfl rfl) h1
  obtain ⟨a1, rfl, u1⟩ := wf_u16 w1
  clear hA0 hval0
  refine (walk_JournalCut v0 a0 m0 u0 a1 u1 W w0).mono fun e W' ⟨he, bel⟩ => ?_
  subst he
  exact ⟨_, rfl, _, _, _, [], _, [], hW', trodAll_mk1 (shut_bool Try.underlying4 _), trodAll_below laid_out bel _ _ _ _ (by kernel_rfl) hA2 (fun x hx => hlt x (by simpa using hx)), rfl, bel.frame _, fun h => by cases h⟩
theorem proved : Rows.JournalCutSaid :=
  OpenClaim.holds_of_wide 6 Try.f6 rfl rfl rfl rfl rfl rfl rfl ⟨rfl, rfl, rfl, rfl, rfl⟩ rfl rfl rfl rfl rfl (by kernel_rfl) Try.func6 (by kernel_rfl)
    (of_decide_eq_true (by kernel_rfl)) (by unfold Func.isWrapper; first | (rw [if_pos (by decide +kernel)]; kernel_rfl) | (rw [if_neg (by decide +kernel)]; exact ⟨rfl, rfl⟩))
    (fun os started H enc _ => lifted os started H enc)
#print axioms proved
end fr_JournalCut

end Go.Proofs.Ytngmdhdncfbdjaa

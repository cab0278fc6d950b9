/- The law JournalAfter holds for every input. No condition. -/
import Derived.Test.YtngmdhdncfbdjaaLawJ4
import Derived.Test.YtngmdhdncfbdjaaGrow
namespace Go.Proofs.Ytngmdhdncfbdjaa
open Go.ChangeShapes Go.WideShapes Go.ChangeAt Go.RowKit Go.Joins
open Go.ChangeMaps (open_string shut_string)

theorem own_set {w : World} {base g : Nat} {e : TypeId} {size n i : Nat} {v : Value} {xs : List Value} (h : w.ownsRow base e size v n xs) (hg : g < base) (u : Value) : (w.setCell ⟨g, i, none⟩ u).ownsRow base e size v n xs := by
  obtain ⟨hl, h2⟩ := h
  refine ⟨hl, ?_⟩
  rcases h2 with h2 | ⟨b, cap, cur, hv, hb, hh, h3⟩
  · exact .inl h2
  · exact .inr ⟨b, cap, cur, hv, hb, (Below.heap_setCell w ⟨g, i, none⟩ u b (by show b ≠ g; omega)).trans hh, h3⟩

set_option maxRecDepth 100000 in
set_option maxHeartbeats 800000 in
theorem walk_JournalAfter (v : Value) (xs : List Ent) (hlen : xs.length ≤ 140737488351232) (hin : ∀ x ∈ xs, EntIn x) (c : Nat) (hc : c < 65536) (k t i : Int) (d : List UInt8) (hxin : EntIn (k, t, i, d)) (w : World) (hr : Rd w w.heap.size 4 v xs.length (entsV xs)) :
    Calls Try.prog 9 #[v, .int .u16 c, .agg #[.int .i64 k, .int .i64 t, .int .i64 i, .string ⟨d.toArray⟩]] w fun e w' => e = .returned (.bool true) ∧ Below w.heap.size w w' := by
  have Hr := Lib.hid ((hr.alloc (Nat.le_refl _) (.cells #[.int .i64 k, .int .i64 t, .int .i64 i, .string ⟨d.toArray⟩] 23)).mono (show w.heap.size ≤ (w.alloc (.cells #[.int .i64 k, .int .i64 t, .int .i64 i, .string ⟨d.toArray⟩] 23)).heap.size by simp))
  have Hin := Lib.hid hin
  have hfw := fun W h => few_any xs v W hlen hin h
  obtain ⟨hxo, hxd⟩ := hxin
  have Hxo := Lib.hid hxo
  simp only at hxd
  have hva := fun W => rvalid_any k t i d W
  clear hr hxo
  cases hb : fewB xs with
  | false =>
    rw [hb] at hfw
    have HF := Lib.hid hfw
    clear hfw hb hin hva
    go_enter Try.func9, Try.ntmps9
    go_wp2_with fail
    refine (awake_any _).mono ?_
    rintro e w1 ⟨rfl, hb1⟩
    have HR1 := Lib.hid (Hr.out.on hb1)
    have h01 := ((Below.refl w.heap.size w).alloc (Nat.le_refl _) _).trans (hb1.mono (by simp))
    clear hb1
    go_wp2_with fail
    refine (HF.out _ HR1.out).mono ?_
    rintro e w2 ⟨rfl, hb2⟩
    have h02 := h01.trans (hb2.mono h01.size)
    clear h01 hb2
    go_wp2_with fail
    refine (awake_any _).mono ?_
    rintro e w3 ⟨rfl, hb3⟩
    go_wp2_with fail
    go_ret
    exact ⟨rfl, h02.trans (hb3.mono h02.size)⟩
  | true =>
    rw [hb] at hfw
    have HF := Lib.hid hfw
    have hfl := (few_le xs hb).1
    clear hfw
    by_cases h500 : 500 < (d.length : Int)
    · clear hva hb hin
      go_enter Try.func9, Try.ntmps9
      go_wp2_with fail
      refine (awake_any _).mono ?_
      rintro e w1 ⟨rfl, hb1⟩
      have HR1 := Lib.hid (Hr.out.on hb1)
      have h01 := ((Below.refl w.heap.size w).alloc (Nat.le_refl _) _).trans (hb1.mono (by simp))
      have H1 := (Has.made w 23 #[.int .i64 k, .int .i64 t, .int .i64 i, .string ⟨d.toArray⟩]).below hb1 (by simp)
      have hz1 : w.heap.size < w1.heap.size := by have := hb1.size; simp at this; omega
      clear hb1
      go_wp2_with fail
      refine (HF.out _ HR1.out).mono ?_
      rintro e w2 ⟨rfl, hb2⟩
      have h02 := h01.trans (hb2.mono h01.size)
      obtain ⟨c0, c1, c2, c3⟩ := has4 (H1.below hb2 hz1)
      clear h01 hb2 H1
      go_wp2_with fail
      refine (awake_any _).mono ?_
      rintro e w3 ⟨rfl, hb3⟩
      go_wp2_with fail
      go_ret
      exact ⟨rfl, h02.trans (hb3.mono h02.size)⟩
    cases hvb : validB (k, t, i, d) with
    | false =>
      rw [hvb] at hva
      have HV := Lib.hid hva
      clear hva hvb hb hin
      go_enter Try.func9, Try.ntmps9
      go_wp2_with fail
      refine (awake_any _).mono ?_
      rintro e w1 ⟨rfl, hb1⟩
      have HR1 := Lib.hid (Hr.out.on hb1)
      have h01 := ((Below.refl w.heap.size w).alloc (Nat.le_refl _) _).trans (hb1.mono (by simp))
      have H1 := (Has.made w 23 #[.int .i64 k, .int .i64 t, .int .i64 i, .string ⟨d.toArray⟩]).below hb1 (by simp)
      have hz1 : w.heap.size < w1.heap.size := by have := hb1.size; simp at this; omega
      clear hb1
      go_wp2_with fail
      refine (HF.out _ HR1.out).mono ?_
      rintro e w2 ⟨rfl, hb2⟩
      have h02 := h01.trans (hb2.mono h01.size)
      obtain ⟨c0, c1, c2, c3⟩ := has4 (H1.below hb2 hz1)
      clear h01 hb2 H1
      go_wp2_with fail
      refine (HV.out _).mono ?_
      rintro e w3 ⟨rfl, hb3⟩
      have h03 := h02.trans (hb3.mono h02.size)
      clear hb3 h02 c0 c1 c2 c3
      go_wp2_with fail
      refine (awake_any _).mono ?_
      rintro e w4 ⟨rfl, hb4⟩
      go_wp2_with fail
      go_ret
      exact ⟨rfl, h03.trans (hb4.mono h03.size)⟩
    | true =>
      rw [hvb] at hva
      have HV := Lib.hid hva
      have hlo := fun W h => log_any xs v W hfl hin h
      rw [logJ_eq xs hin] at hlo
      have hgd := good_gd xs hin
      have hgl := goodJ_le xs
      have hjl := jour_len _ hgd
      generalize goodJ xs = es at *
      have HLo := Lib.hid hlo
      have hcut : c % ((jour es).length + 1) ≤ (jour es).length := by have := Nat.mod_lt c (show 0 < (jour es).length + 1 by omega); omega
      obtain ⟨cut, hcu, Hcu⟩ : ∃ cut : Nat, (c : Int) % ((jour es).length + 1) = (cut : Int) ∧ cut ≤ (jour es).length := ⟨c % ((jour es).length + 1), rfl, hcut⟩
      have hex : ({ data := (jour es).toArray } : ByteArray).extract 0 cut = { data := ((jour es).take cut).toArray } := by rw [str_cut]; simp
      have hl6 : ((jour es).take cut).length ≤ 656000 := by rw [List.length_take]; omega
      have hl0 : ((jour es).take cut).length ≤ 1000000 := by omega
      have hj6 : (jour es).length ≤ 656000 := by omega
      clear hjl
      generalize ends es = E at *
      clear hva hb hin hlo hgd hgl hcut
      generalize hJ : jour es = J at *
      clear hJ
      generalize J.take cut = L at *
      have hre := fun W => read_any L hl0 W
      have hlr := readJ_le L
      have hwa := write_after L
      have hinv := (readJ_inv L).1
      have hin2 := (readJ_inv L).2
      generalize readJ L = R at *
      obtain ⟨bf, n, e0⟩ := R
      simp only at hre hlr hwa hinv hin2
      have htk := Lib.hid (fun v W h => token_any bf v W (by omega) h)
      have hmI := tokenJ_i64 bf hinv
      have hm0 := tokenJ_nonneg bf
      generalize tokenJ bf = m at *
      have hxo := Hxo.out
      simp only [EntOk, I64] at hxo hmI
      have hv3 : 0 ≤ k ∧ 0 ≤ t ∧ 0 ≤ i := of_decide_eq_true (show decide _ = true from hvb)
      have hx' : Gd (k, max t m, i, d) := by
        have hfl := fmtE_len (k, max t m, i, d)
        simp only at hfl
        exact ⟨by simp only [EntOk, I64]; omega, by show decide (0 ≤ k ∧ 0 ≤ max t m ∧ 0 ≤ i) = true; exact decide_eq_true (by omega), by omega⟩
      have hwr := fun W => write_any L k (max t m) i d hx'.1 hl0 (by omega) W
      rw [hwa _ hx' (by show m ≤ max t m; omega)] at hwr
      have hg2 := gd_snoc bf _ hinv hx'
      have hnl : (jour (bf ++ [(k, max t m, i, d)])).length ≤ 1000000 := by
        have h1 := frame_len (fmtE (k, max t m, i, d))
        rw [jour_app, jour_one, ← hin2, List.length_append, List.length_take, frm]
        omega
      have hre2 := fun W => read_any _ hnl W
      rw [readJ_jour _ hg2] at hre2
      have hsm := fun va vb W h1 h2 => same_any (bf ++ [(k, max t m, i, d)]) (bf ++ [(k, max t m, i, d)]) va vb W (by simp; omega) (by simp; omega) h1 h2
      simp only [decide_true] at hsm
      have HS := Lib.hid hsm
      have HW := Lib.hid hwr
      have HRe := Lib.hid hre
      have HRe2 := Lib.hid hre2
      generalize jour (bf ++ [(k, max t m, i, d)]) = NX at *
      clear hsm hwr hre hre2 hwa hinv hin2 hg2 hx' hxo hmI hvb hv3
      go_enter Try.func9, Try.ntmps9
      go_wp2_with fail
      refine (awake_any _).mono ?_
      rintro e w1 ⟨rfl, hb1⟩
      have HR1 := Lib.hid (Hr.out.on hb1)
      have h01 := ((Below.refl w.heap.size w).alloc (Nat.le_refl _) _).trans (hb1.mono (by simp))
      have H1 := (Has.made w 23 #[.int .i64 k, .int .i64 t, .int .i64 i, .string ⟨d.toArray⟩]).below hb1 (by simp)
      have hz1 : w.heap.size < w1.heap.size := by have := hb1.size; simp at this; omega
      clear hb1
      go_wp2_with fail
      refine (HF.out _ HR1.out).mono ?_
      rintro e w2 ⟨rfl, hb2⟩
      have h02 := h01.trans (hb2.mono h01.size)
      have HR2 := Lib.hid (HR1.out.on hb2)
      have H2 := H1.below hb2 hz1
      have hz2 : w.heap.size < w2.heap.size := Nat.lt_of_lt_of_le hz1 hb2.size
      obtain ⟨c0, c1, c2, c3⟩ := has4 H2
      have H2 := Lib.hid H2
      clear h01 hb2 H1 HR1
      go_wp2_with fail
      refine (HV.out _).mono ?_
      rintro e w3 ⟨rfl, hb3⟩
      have h03 := h02.trans (hb3.mono h02.size)
      have HR3 := Lib.hid (HR2.out.on hb3)
      have H3 := Lib.hid (H2.out.below hb3 hz2)
      have hz3 : w.heap.size < w3.heap.size := Nat.lt_of_lt_of_le hz2 hb3.size
      clear hb3 h02 c0 c1 c2 c3 H2 HR2
      go_wp2_with fail
      refine (HLo.out _ HR3.out).mono ?_
      rintro e w4 ⟨vE, rfl, hown, hb4⟩
      have h04 := h03.trans (hb4.mono h03.size)
      have H4 := Lib.hid (H3.out.below hb4 hz3)
      have hz4 : w.heap.size < w4.heap.size := Nat.lt_of_lt_of_le hz3 hb4.size
      clear hb4 hown h03 H3 HR3
      go_wp2_with fail
      refine (HRe.out _).mono ?_
      rintro e w5 ⟨vB, rfl, hown, hb5⟩
      have h05 := h04.trans (hb5.mono h04.size)
      have H5 := H4.out.below hb5 hz4
      have hz5 : w.heap.size < w5.heap.size := Nat.lt_of_lt_of_le hz4 hb5.size
      have RB := Lib.hid (Rd.of_own hown)
      have HO := Lib.hid hown
      have hs5 := hb5.size
      obtain ⟨c0, c1, c2, c3⟩ := has4 H5
      have f1 := H5.free 1
      have H5 := Lib.hid H5
      clear hb5 hown h04 H4 hcu hex
      go_wp2_with fail
      go_region_with (go_at_call 19; refine (htk.out _ _ (by exact RB.out)).mono ?_; rintro e w6 ⟨rfl, hb6⟩; have q0 : w6.cell? ⟨w.heap.size, 0, none⟩ = some (.int .i64 k) := (hb6.cell hz5).trans c0; have q1 : w6.cell? ⟨w.heap.size, 1, none⟩ = some (.int .i64 t) := (hb6.cell hz5).trans c1; have g1 : w6.frozen? ⟨w.heap.size, 1, none⟩ = false := (hb6.frozen hz5).trans f1)
      all_goals
        have H6 := (H5.out.drew).below hb6 hz5
        have hz6 : w.heap.size < w6.heap.size := Nat.lt_of_lt_of_le hz5 hb6.size
        have h06 := h05.drew.trans (hb6.mono h05.size)
        have H6s := H6.set 1 (.int .i64 (max t m))
        have h06s := h06.setCell (p := ⟨w.heap.size, 1, none⟩) (Nat.le_refl _) (.int .i64 (max t m))
        have hs6 : w5.heap.size ≤ w6.heap.size := hb6.size
        have hs6s : (w6.setCell ⟨w.heap.size, 1, none⟩ (.int .i64 (max t m))).heap.size = w6.heap.size := by simp [World.setCell]
        have hz6s : w.heap.size < (w6.setCell ⟨w.heap.size, 1, none⟩ (.int .i64 (max t m))).heap.size := by simpa [World.setCell] using hz6
        have HO6 := Lib.hid (own_set (i := 1) (own_below (w := w5.drew) HO.out hb6) hz4 (.int .i64 (max t m)))
        clear H6 h06 h05 q0 q1 g1 c0 c1 c2 c3 f1 H5 HO hb6
        generalize w6.setCell ⟨w.heap.size, 1, none⟩ (.int .i64 (max t m)) = w7 at *
        have H7 : Has w7 w.heap.size 23 #[.int .i64 k, .int .i64 (max t m), .int .i64 i, .string ⟨d.toArray⟩] := H6s
        clear H6s
        obtain ⟨c0, c1, c2, c3⟩ := has4 H7
        have H7 := Lib.hid H7
        go_wp2_with fail
        refine (HW.out _).mono ?_
        rintro e w8 ⟨rfl, hb8⟩
        have h08 := h06s.trans (hb8.mono h06s.size)
        have H8 := Lib.hid (H7.out.below hb8 hz6s)
        have hz8 : w.heap.size < w8.heap.size := Nat.lt_of_lt_of_le hz6s hb8.size
        have hs8 := hb8.size
        have HO8 := Lib.hid (own_below HO6.out hb8)
        clear h06s hb8 H7 c0 c1 c2 c3 HO6
        go_wp2_with fail
        refine (HRe2.out _).mono ?_
        rintro e w9 ⟨vN, rfl, hown9, hb9⟩
        have h09 := h08.trans (hb9.mono h08.size)
        have hs9 := hb9.size
        have H9 := H8.out.below hb9 hz8
        have hown := own_below HO8.out hb9
        have HN := Lib.hid hown9
        have hlat := Lib.hid (own_later HO8.out hown9 (Nat.le_refl _))
        have hbase9 : w4.heap.size ≤ w9.heap.size := by omega
        obtain ⟨c0, c1, c2, c3⟩ := has4 H9
        have H9 := Lib.hid H9
        clear h08 hb9 H8 hown9 HO8
        go_wp2_with (at_builtin; refine wpList_unguard (by rfl) ?_; refine wpList_append_grow rfl _ _ _ rfl w4.heap.size 23 _ 4 40 Try.underlying31 info_ent rfl (by decide) _ bf.length (entsV bf) rfl hown [_, _, _, _] _ 1 _ rfl rfl rfl (by simp [Value.oneCell']) (by omega) (by omega) hbase9 ?_; intro v' w10 hown10 hb10)
        have h10 := h09.trans ((grown_below hown hbase9 hb10).mono (by omega))
        have RN := Lib.hid (Rd.of_own (own_grown HN.out hb10 hlat.out))
        have RA := Rd.of_own hown10
        have hlsn : (bf ++ [(k, max t m, i, d)]).length = bf.length + 1 := by simp
        rw [← hlsn, ← entsV_snoc] at RA
        have RA := Lib.hid RA
        clear hown10 hb10 hown hlsn HN hlat
        refine (HS.out _ _ _ RN.out RA.out).mono ?_
        rintro e w11 ⟨rfl, hb11⟩
        go_wp2_with fail
        go_ret
        exact ⟨ret_bool (by first | rfl | simp), h10.trans (hb11.mono h10.size)⟩

namespace fr_JournalAfter
set_option maxRecDepth 100000 in
theorem lifted (os : Os) (started : os.Started) (H : Type) (enc : TypeId × Value → H) :
    ReturnsInHanded {} Try.checked os 9 .any (Rows.journalAfterSpec.pre6 enc Try.prog Try.f9 Rows.journalAfterRow.domain false) (Rows.journalAfterSpec.post enc Try.prog Try.f9 false true false false) := by
  refine returnsInHanded_of_change_sized (C := Try.checked) own_knob started (by kernel_rfl) Try.func9
    (ChangeSpec.witness6 (enc := enc) (C := Try.checked) false ⟨#[], #[.slice none 0 0, .int .u16 0, .agg #[.int .i64 0, .int .i64 0, .int .i64 0, .string ByteArray.empty]], []⟩ 8 (by kernel_rfl) (by kernel_rfl) (by kernel_rfl) (by kernel_rfl)) ?_
  intro W base args ds gs before hval0 hW hcnd hsz0 _
  have hsz : (DataW.weightsEach Try.prog (Try.f9.params.toList ++ Rows.journalAfterSpec.plain.varTypes Try.prog) (ds ++ gs)).all (· ≤ reachBytes) = true := hsz0
  have hval : ∀ (j : Nat) t v, Try.f9.params[j]? = some t → args[j]? = some v → Value.okWide Try.prog W .any base t v := hval0
  have hW' := hW
  have hlt : ∀ p ∈ before, p.block < W.heap.size := fun p hp => hW.lt p hp
  obtain ⟨p, q, hA0, hV, rfl, hfz, hnd⟩ := hW
  have hA : DataW.TrodAll enc Try.prog W 0 (fun _ => true) true Try.f9.params.toList args.toList ds p := hA0
  have hA2 := hA
  rw [Try.params9] at hA hval hsz
  obtain ⟨v0, vs0, d0, ds0, p0, q0, hargs, rfl, hpq, h0, r0⟩ := trodAll_cons hA
  obtain ⟨v1, vs1, d1, ds1, p1, q1, rfl, rfl, rfl, h1, r1⟩ := trodAll_cons r0
  obtain ⟨v2, vs2, d2, ds2, p2, q2, rfl, rfl, rfl, h2, r2⟩ := trodAll_cons r1
  obtain ⟨rfl, rfl, rfl⟩ := trodAll_nil r2
  obtain rfl : args = #[v0, v1, v2] := by cases args; simp_all
  obtain ⟨rfl, rfl⟩ := trodVars_none hV
  obtain ⟨a0, m0, u0, w0⟩ := open_ents (hval 0 31 v0 rfl rfl) h0 (sz_of_each hsz (j := 0) rfl (by simp))
  obtain ⟨x1, rfl, rfl, rfl, w1⟩ := open_int Try.underlying34 (hval 1 34 v1 rfl rfl) h1
  obtain ⟨a1, rfl, u1⟩ := wf_u16 w1
  obtain ⟨k2, t2, i2, l2, rfl, e2⟩ := open_ent (hval 2 23 v2 rfl rfl) h2 (sz_of_each hsz (j := 2) rfl (by simp))
  clear hA0 hval0
  refine (walk_JournalAfter v0 a0 m0 u0 a1 u1 k2 t2 i2 l2 e2 W w0).mono fun e W' ⟨he, bel⟩ => ?_
  subst he
  exact ⟨_, rfl, _, _, _, [], _, [], hW', trodAll_mk1 (shut_bool Try.underlying4 _), trodAll_below laid_out bel _ _ _ _ (by kernel_rfl) hA2 (fun x hx => hlt x (by simpa using hx)), rfl, bel.frame _, fun h => by cases h⟩
theorem proved : Rows.JournalAfterSaid :=
  OpenClaim.holds_of_wide 9 Try.f9 rfl rfl rfl rfl rfl rfl rfl ⟨rfl, rfl, rfl, rfl, rfl⟩ rfl rfl rfl rfl rfl (by kernel_rfl) Try.func9 (by kernel_rfl)
    (of_decide_eq_true (by kernel_rfl)) (by unfold Func.isWrapper; first | (rw [if_pos (by decide +kernel)]; kernel_rfl) | (rw [if_neg (by decide +kernel)]; exact ⟨rfl, rfl⟩))
    (fun os started H enc _ => lifted os started H enc)
#print axioms proved
end fr_JournalAfter

end Go.Proofs.Ytngmdhdncfbdjaa

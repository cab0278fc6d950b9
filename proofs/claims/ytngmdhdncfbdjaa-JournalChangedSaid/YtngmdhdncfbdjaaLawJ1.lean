/- The laws JournalText, JournalParse and JournalToken hold for every input. No condition. -/
import Derived.Test.YtngmdhdncfbdjaaJourAwake
namespace Go.Proofs.Ytngmdhdncfbdjaa
open Go.ChangeShapes Go.WideShapes Go.ChangeAt Go.RowKit Go.Joins
open Go.ChangeMaps (open_string shut_string)

theorem open_ent {H : Type} {enc : TypeId × Value → H} {W : World} {base0 : Nat} {v : Value} {d : DataW H} {p : List MemPlace} (hv : Value.okWide Try.prog W .any base0 23 v) (h : DataW.Trod enc Try.prog W 0 (fun _ => true) true 23 v d p) (hs : Sz 23 d) :
    ∃ (k t i : Int) (l : List UInt8), v = .agg #[.int .i64 k, .int .i64 t, .int .i64 i, .string ⟨l.toArray⟩] ∧ EntIn (k, t, i, l) := by
  obtain ⟨cs, rfl, hsz⟩ := okWide_struct Try.underlying23 hv
  obtain ⟨fuel, hf⟩ := h
  have hC : Try.prog.cellsOf 23 = 4 := by kernel_rfl
  obtain ⟨x, hx, hin⟩ := ent_of fuel _ d p (by simpa [Value.cells, hC] using hsz) hf hs
  obtain ⟨k, t, i, l⟩ := x
  refine ⟨k, t, i, l, ?_, hin⟩
  congr 1
  apply Array.toList_inj.1
  exact hx

set_option maxRecDepth 100000 in
set_option maxHeartbeats 400000 in
theorem walk_JournalText (k t i : Int) (d : List UInt8) (hin : EntIn (k, t, i, d)) (w : World) :
    Calls Try.prog 3 #[.agg #[.int .i64 k, .int .i64 t, .int .i64 i, .string ⟨d.toArray⟩]] w fun e w' => e = .returned (.bool true) ∧ Below w.heap.size w w' := by
  obtain ⟨hx, hd⟩ := hin
  simp only at hd
  by_cases h500 : 500 < (d.length : Int)
  · have HX := Lib.hid hx
    clear hx
    go_enter Try.func3, Try.ntmps3
    go_wp2_with fail
    refine (awake_any _).mono ?_
    rintro e w1 ⟨rfl, hb1⟩
    have h01 := ((Below.refl w.heap.size w).alloc (Nat.le_refl _) _).trans (hb1.mono (by simp))
    obtain ⟨c0, c1, c2, c3⟩ := has4 ((Has.made w 23 #[.int .i64 k, .int .i64 t, .int .i64 i, .string ⟨d.toArray⟩]).below hb1 (by simp))
    clear hb1
    go_wp2_with fail
    refine (awake_any w1).mono ?_
    rintro e w2 ⟨rfl, hb2⟩
    go_wp2_with fail
    go_ret
    exact ⟨rfl, h01.trans (hb2.mono h01.size)⟩
  · have hfo := Lib.hid (fun W => format_any k t i d hx (by omega) W)
    have hrf := Lib.hid (fun W => rformat_any k t i d hx (by omega) W)
    have hva := fun W => rvalid_any k t i d W
    have hfl := fmtE_len (k, t, i, d)
    simp only at hfl
    have hpa := fun W => parse_any (fmtE (k, t, i, d)) (by omega) W
    have hpf := parse_fmt (k, t, i, d) hx
    have heq := eq_ent (k, t, i, d) (k, t, i, d)
    simp only [entA, decide_true] at heq
    have HX := Lib.hid hx
    generalize fmtE (k, t, i, d) = f at *
    clear hx
    cases hb : validB (k, t, i, d) with
    | false =>
      rw [hb] at hva
      have HV := Lib.hid hva
      clear hva hpf hb heq hpa
      go_enter Try.func3, Try.ntmps3
      go_wp2_with fail
      refine (awake_any _).mono ?_
      rintro e w1 ⟨rfl, hb1⟩
      have h01 := ((Below.refl w.heap.size w).alloc (Nat.le_refl _) _).trans (hb1.mono (by simp))
      have H1 := (Has.made w 23 #[.int .i64 k, .int .i64 t, .int .i64 i, .string ⟨d.toArray⟩]).below hb1 (by simp)
      have hz1 : w.heap.size < w1.heap.size := by have := hb1.size; simp at this; omega
      obtain ⟨c0, c1, c2, c3⟩ := has4 H1
      have H1 := Lib.hid H1
      clear hb1
      go_wp2_with fail
      refine (hfo.out _).mono ?_
      rintro e w2 ⟨rfl, hb2⟩
      have h02 := h01.trans (hb2.mono h01.size)
      have H2 := H1.out.below hb2 hz1
      have hz2 : w.heap.size < w2.heap.size := Nat.lt_of_lt_of_le hz1 hb2.size
      clear hb2 h01 c0 c1 c2 c3 H1
      obtain ⟨c0, c1, c2, c3⟩ := has4 H2
      have H2 := Lib.hid H2
      go_wp2_with fail
      refine (hrf.out _).mono ?_
      rintro e w3 ⟨rfl, hb3⟩
      have h03 := h02.trans (hb3.mono h02.size)
      have H3 := H2.out.below hb3 hz2
      have hz3 : w.heap.size < w3.heap.size := Nat.lt_of_lt_of_le hz2 hb3.size
      clear hb3 h02 c0 c1 c2 c3 H2
      obtain ⟨c0, c1, c2, c3⟩ := has4 H3
      have H3 := Lib.hid H3
      go_wp2_with fail
      refine (HV.out _).mono ?_
      rintro e w4 ⟨rfl, hb4⟩
      have h04 := h03.trans (hb4.mono h03.size)
      have H4 := H3.out.below hb4 hz3
      clear hb4 h03 c0 c1 c2 c3 H3
      obtain ⟨c0, c1, c2, c3⟩ := has4 H4
      have H4 := Lib.hid H4
      go_wp2_with fail
      refine (hrf.out _).mono ?_
      rintro e w5 ⟨rfl, hb5⟩
      have h05 := h04.trans (hb5.mono h04.size)
      clear hb5 h04
      go_wp2_with fail
      go_ret
      exact ⟨ret_bool (by first | rfl | simp), h05⟩
    | true =>
      rw [hb] at hva
      have HV := Lib.hid hva
      rw [hpf hb] at hpa
      simp only [entA] at hpa
      have HP := Lib.hid hpa
      have HE := Lib.hid heq
      clear hva hpf hb hpa heq
      have hq : ∀ W, (binOp .eql 23 (.agg #[.int .i64 k, .int .i64 t, .int .i64 i, .string ⟨d.toArray⟩]) (.agg #[.int .i64 k, .int .i64 t, .int .i64 i, .string ⟨d.toArray⟩])).run Try.prog W = .ok (.bool true) W := fun W => by
        rw [run_eql_struct, HE.out]; rfl
      have hg : Try.prog.eqGuardType Try.prog.depth 23 = false := by kernel_rfl
      go_enter Try.func3, Try.ntmps3
      go_wp2_with fail
      refine (awake_any _).mono ?_
      rintro e w1 ⟨rfl, hb1⟩
      have h01 := ((Below.refl w.heap.size w).alloc (Nat.le_refl _) _).trans (hb1.mono (by simp))
      have H1 := (Has.made w 23 #[.int .i64 k, .int .i64 t, .int .i64 i, .string ⟨d.toArray⟩]).below hb1 (by simp)
      have hz1 : w.heap.size < w1.heap.size := by have := hb1.size; simp at this; omega
      obtain ⟨c0, c1, c2, c3⟩ := has4 H1
      have H1 := Lib.hid H1
      clear hb1
      go_wp2_with fail
      refine (hfo.out _).mono ?_
      rintro e w2 ⟨rfl, hb2⟩
      have h02 := h01.trans (hb2.mono h01.size)
      have H2 := H1.out.below hb2 hz1
      have hz2 : w.heap.size < w2.heap.size := Nat.lt_of_lt_of_le hz1 hb2.size
      clear hb2 h01 c0 c1 c2 c3 H1
      obtain ⟨c0, c1, c2, c3⟩ := has4 H2
      have H2 := Lib.hid H2
      go_wp2_with fail
      refine (hrf.out _).mono ?_
      rintro e w3 ⟨rfl, hb3⟩
      have h03 := h02.trans (hb3.mono h02.size)
      have H3 := H2.out.below hb3 hz2
      have hz3 : w.heap.size < w3.heap.size := Nat.lt_of_lt_of_le hz2 hb3.size
      clear hb3 h02 c0 c1 c2 c3 H2
      obtain ⟨c0, c1, c2, c3⟩ := has4 H3
      have H3 := Lib.hid H3
      go_wp2_with fail
      refine (HV.out _).mono ?_
      rintro e w4 ⟨rfl, hb4⟩
      have h04 := h03.trans (hb4.mono h03.size)
      have H4 := H3.out.below hb4 hz3
      have hz4 : w.heap.size < w4.heap.size := Nat.lt_of_lt_of_le hz3 hb4.size
      clear hb4 h03 c0 c1 c2 c3 H3
      go_wp2_with fail
      refine (HP.out _).mono ?_
      rintro e w5 ⟨rfl, hb5⟩
      have h05 := h04.trans (hb5.mono h04.size)
      have H5 := H4.below hb5 hz4
      have hz5 : w.heap.size < w5.heap.size := Nat.lt_of_lt_of_le hz4 hb5.size
      clear hb5 h04 H4
      obtain ⟨c0, c1, c2, c3⟩ := has4 H5
      have H5 := Lib.hid H5
      go_wp2_with fail
      go_ret
      exact ⟨rfl, h05.alloc h05.size _⟩

namespace fr_JournalText
set_option maxRecDepth 100000 in
theorem lifted (os : Os) (started : os.Started) (H : Type) (enc : TypeId × Value → H) :
    ReturnsInHanded {} Try.checked os 3 .any (Rows.journalTextSpec.pre6 enc Try.prog Try.f3 Rows.journalTextRow.domain false) (Rows.journalTextSpec.post enc Try.prog Try.f3 false true false false) := by
  refine returnsInHanded_of_change_sized (C := Try.checked) own_knob started (by kernel_rfl) Try.func3
    (ChangeSpec.witness6 (enc := enc) (C := Try.checked) false ⟨#[], #[.agg #[.int .i64 0, .int .i64 0, .int .i64 0, .string ByteArray.empty]], []⟩ 8 (by kernel_rfl) (by kernel_rfl) (by kernel_rfl) (by kernel_rfl)) ?_
  intro W base args ds gs before hval0 hW hcnd hsz0 _
  have hsz : (DataW.weightsEach Try.prog (Try.f3.params.toList ++ Rows.journalTextSpec.plain.varTypes Try.prog) (ds ++ gs)).all (· ≤ reachBytes) = true := hsz0
  have hval : ∀ (j : Nat) t v, Try.f3.params[j]? = some t → args[j]? = some v → Value.okWide Try.prog W .any base t v := hval0
  have hW' := hW
  have hlt : ∀ p ∈ before, p.block < W.heap.size := fun p hp => hW.lt p hp
  obtain ⟨p, q, hA0, hV, rfl, hfz, hnd⟩ := hW
  have hA : DataW.TrodAll enc Try.prog W 0 (fun _ => true) true Try.f3.params.toList args.toList ds p := hA0
  have hA2 := hA
  rw [Try.params3] at hA hval hsz
  obtain ⟨v0, vs0, d0, ds0, p0, q0, hargs, rfl, hpq, h0, r0⟩ := trodAll_cons hA
  obtain ⟨rfl, rfl, rfl⟩ := trodAll_nil r0
  obtain rfl : args = #[v0] := by cases args; simp_all
  obtain ⟨rfl, rfl⟩ := trodVars_none hV
  obtain ⟨k0, t0, i0, l0, rfl, e0⟩ := open_ent (hval 0 23 v0 rfl rfl) h0 (sz_of_each hsz (j := 0) rfl (by simp))
  clear hA0 hval0
  refine (walk_JournalText k0 t0 i0 l0 e0 W).mono fun e W' ⟨he, bel⟩ => ?_
  subst he
  exact ⟨_, rfl, _, _, _, [], _, [], hW', trodAll_mk1 (shut_bool Try.underlying4 _), trodAll_below laid_out bel _ _ _ _ (by kernel_rfl) hA2 (fun x hx => hlt x (by simpa using hx)), rfl, bel.frame _, fun h => by cases h⟩
theorem proved : Rows.JournalTextSaid :=
  OpenClaim.holds_of_wide 3 Try.f3 rfl rfl rfl rfl rfl rfl rfl ⟨rfl, rfl, rfl, rfl, rfl⟩ rfl rfl rfl rfl rfl (by kernel_rfl) Try.func3 (by kernel_rfl)
    (of_decide_eq_true (by kernel_rfl)) (by unfold Func.isWrapper; first | (rw [if_pos (by decide +kernel)]; kernel_rfl) | (rw [if_neg (by decide +kernel)]; exact ⟨rfl, rfl⟩))
    (fun os started H enc _ => lifted os started H enc)
#print axioms proved
end fr_JournalText


theorem parse_in (l : List UInt8) : EntOk (parseE l).1 ∧ (parseE l).1.2.2.2.length ≤ l.length + 1 := by
  rcases parse_err l with h | h
  · have := parse_ok l h
    refine ⟨this.1, ?_⟩
    have h2 := this.2.2
    have h3 : (fmtE (parseE l).1).length = l.length := by rw [h2]
    rw [fmtE, if_pos this.2.1, List.length_append] at h3
    omega
  · rw [h]
    exact ⟨by simp [ent0, EntOk, I64], by simp [ent0]⟩

set_option maxRecDepth 100000 in
set_option maxHeartbeats 400000 in
theorem walk_JournalParse (l : List UInt8) (hl : l.length ≤ maxLen) (w : World) :
    Calls Try.prog 4 #[.string ⟨l.toArray⟩] w fun e w' => e = .returned (.bool true) ∧ Below w.heap.size w w' := by
  have hm : l.length ≤ 9223372036854775807 := hl
  clear hl
  by_cases h500 : 500 < (l.length : Int)
  · go_enter Try.func4, Try.ntmps4
    go_wp2_with fail
    refine (awake_any _).mono ?_
    rintro e w1 ⟨rfl, hb1⟩
    go_wp2_with fail
    refine (awake_any w1).mono ?_
    rintro e w2 ⟨rfl, hb2⟩
    go_wp2_with fail
    go_ret
    exact ⟨rfl, hb1.trans (hb2.mono hb1.size)⟩
  · have hpa := fun W => parse_any l (by omega) W
    have hrp := fun W => rparse_any l (by omega) W
    have hpi := parse_in l
    have hpo := parse_ok l
    have hpe := parse_err l
    generalize parseE l = x at *
    obtain ⟨⟨k, t, i, d⟩, e⟩ := x
    simp only at hpi hpo hpa hrp
    have heq := eq_ent (k, t, i, d) (k, t, i, d)
    simp only [entA, decide_true] at heq hpa hrp
    have HP := Lib.hid hpa
    have HR := Lib.hid hrp
    have hq : ∀ W, (binOp .eql 23 (.agg #[.int .i64 k, .int .i64 t, .int .i64 i, .string ⟨d.toArray⟩]) (.agg #[.int .i64 k, .int .i64 t, .int .i64 i, .string ⟨d.toArray⟩])).run Try.prog W = .ok (.bool true) W := fun W => by
      rw [run_eql_struct, heq]; rfl
    have hg : Try.prog.eqGuardType Try.prog.depth 23 = false := by kernel_rfl
    obtain ⟨hx, hd⟩ := hpi
    have hfo := fun W => format_any k t i d hx (by omega) W
    clear hpa hrp heq hx
    by_cases he : e = 0
    · subst he
      rw [(hpo rfl).2.2] at hfo
      have HF := Lib.hid hfo
      clear hfo hpo hpe
      go_enter Try.func4, Try.ntmps4
      go_wp2_with fail
      refine (awake_any _).mono ?_
      rintro e w1 ⟨rfl, hb1⟩
      go_wp2_with fail
      refine (HP.out _).mono ?_
      rintro e w2 ⟨rfl, hb2⟩
      have h02 := hb1.trans (hb2.mono hb1.size)
      have HA := Has.made w2 23 #[.int .i64 k, .int .i64 t, .int .i64 i, .string ⟨d.toArray⟩]
      clear hb1 hb2
      go_wp2_with fail
      refine (HR.out _).mono ?_
      rintro e w3 ⟨rfl, hb3⟩
      have h03 := (h02.alloc h02.size _).trans (hb3.mono (h02.alloc h02.size _).size)
      have HA3 := HA.below hb3 (by simp)
      have hz3 : w2.heap.size < w3.heap.size := by have := hb3.size; simp at this; omega
      obtain ⟨c0, c1, c2, c3⟩ := has4 HA3
      have HA3 := Lib.hid HA3
      clear hb3 HA h02
      go_wp2_with fail
      refine (HF.out _).mono ?_
      rintro e w4 ⟨rfl, hb4⟩
      have h04 := h03.alloc h03.size (.cells #[.int .i64 k, .int .i64 t, .int .i64 i, .string ⟨d.toArray⟩] 23)
      have h05 := h04.trans (hb4.mono h04.size)
      clear hb4 h03 h04
      go_wp2_with fail
      go_ret
      exact ⟨ret_bool (by first | rfl | simp), h05⟩
    · have he2 : ((e : Int) == 0) = false := beq_eq_false_iff_ne.2 (by omega)
      have he3 : ((e : Int) != 0) = true := by rw [bne_iff_ne]; omega
      clear hpo hpe he hfo
      go_enter Try.func4, Try.ntmps4
      go_wp2_with fail
      refine (awake_any _).mono ?_
      rintro e w1 ⟨rfl, hb1⟩
      go_wp2_with fail
      refine (HP.out _).mono ?_
      rintro e w2 ⟨rfl, hb2⟩
      have h02 := hb1.trans (hb2.mono hb1.size)
      have HA := Has.made w2 23 #[.int .i64 k, .int .i64 t, .int .i64 i, .string ⟨d.toArray⟩]
      clear hb1 hb2
      go_wp2_with fail
      refine (HR.out _).mono ?_
      rintro e w3 ⟨rfl, hb3⟩
      have h03 := (h02.alloc h02.size _).trans (hb3.mono (h02.alloc h02.size _).size)
      have HA3 := HA.below hb3 (by simp)
      have hz3 : w2.heap.size < w3.heap.size := by have := hb3.size; simp at this; omega
      obtain ⟨c0, c1, c2, c3⟩ := has4 HA3
      have HA3 := Lib.hid HA3
      clear hb3 HA h02
      go_wp2_with fail
      go_ret
      exact ⟨ret_bool (by first | rfl | simp), h03.alloc h03.size _⟩

namespace fr_JournalParse
set_option maxRecDepth 100000 in
theorem lifted (os : Os) (started : os.Started) (H : Type) (enc : TypeId × Value → H) :
    ReturnsInHanded {} Try.checked os 4 .any (Rows.journalParseSpec.pre6 enc Try.prog Try.f4 Rows.journalParseRow.domain false) (Rows.journalParseSpec.post enc Try.prog Try.f4 false true false false) := by
  refine returnsInHanded_of_change (C := Try.checked) own_knob started (by kernel_rfl) Try.func4
    (ChangeSpec.witness6 (enc := enc) (C := Try.checked) false ⟨#[], #[.string ByteArray.empty], []⟩ 8 (by kernel_rfl) (by kernel_rfl) (by kernel_rfl) (by kernel_rfl)) ?_
  intro W base args ds gs before hval0 hW hcnd _
  have hval : ∀ (j : Nat) t v, Try.f4.params[j]? = some t → args[j]? = some v → Value.okWide Try.prog W .any base t v := hval0
  have hW' := hW
  have hlt : ∀ p ∈ before, p.block < W.heap.size := fun p hp => hW.lt p hp
  obtain ⟨p, q, hA0, hV, rfl, hfz, hnd⟩ := hW
  have hA : DataW.TrodAll enc Try.prog W 0 (fun _ => true) true Try.f4.params.toList args.toList ds p := hA0
  have hA2 := hA
  rw [Try.params4] at hA hval
  obtain ⟨v0, vs0, d0, ds0, p0, q0, hargs, rfl, hpq, h0, r0⟩ := trodAll_cons hA
  obtain ⟨rfl, rfl, rfl⟩ := trodAll_nil r0
  obtain rfl : args = #[v0] := by cases args; simp_all
  obtain ⟨rfl, rfl⟩ := trodVars_none hV
  obtain ⟨x0, rfl, rfl, rfl, w0⟩ := open_string Try.underlying9 (hval 0 9 v0 rfl rfl) h0
  obtain ⟨a0, rfl, u0⟩ := str_list x0
  rw [u0] at w0
  clear hA0 hval0
  refine (walk_JournalParse a0 w0 W).mono fun e W' ⟨he, bel⟩ => ?_
  subst he
  exact ⟨_, rfl, _, _, _, [], _, [], hW', trodAll_mk1 (shut_bool Try.underlying4 _), trodAll_below laid_out bel _ _ _ _ (by kernel_rfl) hA2 (fun x hx => hlt x (by simpa using hx)), rfl, bel.frame _, fun h => by cases h⟩
theorem proved : Rows.JournalParseSaid :=
  OpenClaim.holds_of_wide 4 Try.f4 rfl rfl rfl rfl rfl rfl rfl ⟨rfl, rfl, rfl, rfl, rfl⟩ rfl rfl rfl rfl rfl (by kernel_rfl) Try.func4 (by kernel_rfl)
    (of_decide_eq_true (by kernel_rfl)) (by unfold Func.isWrapper; first | (rw [if_pos (by decide +kernel)]; kernel_rfl) | (rw [if_neg (by decide +kernel)]; exact ⟨rfl, rfl⟩))
    (fun os started H enc _ => lifted os started H enc)
#print axioms proved
end fr_JournalParse


set_option maxRecDepth 100000 in
set_option maxHeartbeats 400000 in
theorem walk_JournalToken (v : Value) (xs : List Ent) (hlen : xs.length ≤ 140737488351232) (hin : ∀ x ∈ xs, EntIn x) (w : World) (hr : Rd w w.heap.size 4 v xs.length (entsV xs)) :
    Calls Try.prog 5 #[v] w fun e w' => e = .returned (.bool true) ∧ Below w.heap.size w w' := by
  have Hr := Lib.hid hr
  have Hin := Lib.hid hin
  have hfw := fun W h => few_any xs v W hlen hin h
  have hfb : Hid (fewB xs = decide (xs.length ≤ 10 ∧ sumJ xs ≤ 500)) := by show _ = _; rfl
  clear hr hin
  cases hb : fewB xs with
  | false =>
    rw [hb] at hfw
    have HF := Lib.hid hfw
    clear hfw hb
    go_enter Try.func5, Try.ntmps5
    go_wp2_with fail
    refine (awake_any _).mono ?_
    rintro e w1 ⟨rfl, hb1⟩
    have HR1 := Lib.hid ((Hr.out.below hb1).mono hb1.size)
    go_wp2_with fail
    refine (HF.out _ HR1.out).mono ?_
    rintro e w2 ⟨rfl, hb2⟩
    have h02 := hb1.trans (hb2.mono hb1.size)
    clear hb1 hb2
    go_wp2_with fail
    refine (awake_any _).mono ?_
    rintro e w3 ⟨rfl, hb3⟩
    go_wp2_with fail
    go_ret
    exact ⟨rfl, h02.trans (hb3.mono h02.size)⟩
  | true =>
    rw [hb] at hfw
    have HF := Lib.hid hfw
    have hle : xs.length ≤ 10 ∧ sumJ xs ≤ 500 := of_decide_eq_true (hfb.out.symm.trans hb)
    have htk := Lib.hid (fun W h => token_any xs v W (by omega) h)
    have hrt := Lib.hid (fun W h => rtoken_any xs v W (by omega) h)
    clear hfw hb hle
    generalize tokenJ xs = m at *
    go_enter Try.func5, Try.ntmps5
    go_wp2_with fail
    refine (awake_any _).mono ?_
    rintro e w1 ⟨rfl, hb1⟩
    have HR1 := Lib.hid ((Hr.out.below hb1).mono hb1.size)
    go_wp2_with fail
    refine (HF.out _ HR1.out).mono ?_
    rintro e w2 ⟨rfl, hb2⟩
    have h02 := hb1.trans (hb2.mono hb1.size)
    have HR2 := Lib.hid ((HR1.out.below hb2).mono hb2.size)
    clear hb1 hb2
    go_wp2_with fail
    refine (htk.out _ HR2.out).mono ?_
    rintro e w3 ⟨rfl, hb3⟩
    have h03 := h02.trans (hb3.mono h02.size)
    have HR3 := Lib.hid ((HR2.out.below hb3).mono hb3.size)
    clear hb3 h02
    go_wp2_with fail
    refine (hrt.out _ HR3.out).mono ?_
    rintro e w4 ⟨rfl, hb4⟩
    go_wp2_with fail
    go_ret
    exact ⟨ret_bool (by first | rfl | simp), h03.trans (hb4.mono h03.size)⟩

namespace fr_JournalToken
set_option maxRecDepth 100000 in
theorem lifted (os : Os) (started : os.Started) (H : Type) (enc : TypeId × Value → H) :
    ReturnsInHanded {} Try.checked os 5 .any (Rows.journalTokenSpec.pre6 enc Try.prog Try.f5 Rows.journalTokenRow.domain false) (Rows.journalTokenSpec.post enc Try.prog Try.f5 false true false false) := by
  refine returnsInHanded_of_change_sized (C := Try.checked) own_knob started (by kernel_rfl) Try.func5
    (ChangeSpec.witness6 (enc := enc) (C := Try.checked) false ⟨#[], #[.slice none 0 0], []⟩ 8 (by kernel_rfl) (by kernel_rfl) (by kernel_rfl) (by kernel_rfl)) ?_
  intro W base args ds gs before hval0 hW hcnd hsz0 _
  have hsz : (DataW.weightsEach Try.prog (Try.f5.params.toList ++ Rows.journalTokenSpec.plain.varTypes Try.prog) (ds ++ gs)).all (· ≤ reachBytes) = true := hsz0
  have hval : ∀ (j : Nat) t v, Try.f5.params[j]? = some t → args[j]? = some v → Value.okWide Try.prog W .any base t v := hval0
  have hW' := hW
  have hlt : ∀ p ∈ before, p.block < W.heap.size := fun p hp => hW.lt p hp
  obtain ⟨p, q, hA0, hV, rfl, hfz, hnd⟩ := hW
  have hA : DataW.TrodAll enc Try.prog W 0 (fun _ => true) true Try.f5.params.toList args.toList ds p := hA0
  have hA2 := hA
  rw [Try.params5] at hA hval hsz
  obtain ⟨v0, vs0, d0, ds0, p0, q0, hargs, rfl, hpq, h0, r0⟩ := trodAll_cons hA
  obtain ⟨rfl, rfl, rfl⟩ := trodAll_nil r0
  obtain rfl : args = #[v0] := by cases args; simp_all
  obtain ⟨rfl, rfl⟩ := trodVars_none hV
  obtain ⟨a0, m0, u0, w0⟩ := open_ents (hval 0 31 v0 rfl rfl) h0 (sz_of_each hsz (j := 0) rfl (by simp))
  clear hA0 hval0
  refine (walk_JournalToken v0 a0 m0 u0 W w0).mono fun e W' ⟨he, bel⟩ => ?_
  subst he
  exact ⟨_, rfl, _, _, _, [], _, [], hW', trodAll_mk1 (shut_bool Try.underlying4 _), trodAll_below laid_out bel _ _ _ _ (by kernel_rfl) hA2 (fun x hx => hlt x (by simpa using hx)), rfl, bel.frame _, fun h => by cases h⟩
theorem proved : Rows.JournalTokenSaid :=
  OpenClaim.holds_of_wide 5 Try.f5 rfl rfl rfl rfl rfl rfl rfl ⟨rfl, rfl, rfl, rfl, rfl⟩ rfl rfl rfl rfl rfl (by kernel_rfl) Try.func5 (by kernel_rfl)
    (of_decide_eq_true (by kernel_rfl)) (by unfold Func.isWrapper; first | (rw [if_pos (by decide +kernel)]; kernel_rfl) | (rw [if_neg (by decide +kernel)]; exact ⟨rfl, rfl⟩))
    (fun os started H enc _ => lifted os started H enc)
#print axioms proved
end fr_JournalToken

end Go.Proofs.Ytngmdhdncfbdjaa

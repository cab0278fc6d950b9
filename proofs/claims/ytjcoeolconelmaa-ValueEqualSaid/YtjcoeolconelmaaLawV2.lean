/- The statement ValueEqual: Equal agrees with its reference, and is reflexive and symmetric. No condition. -/
import Derived.Test.YtjcoeolconelmaaAwake8
import Derived.Test.YtjcoeolconelmaaOpenV
import Derived.Deep.RegionHeld3
import Derived.Deep.Cut
import Derived.Deep.DeepCutAuto
namespace Go.Proofs.Ytjcoeolconelmaa
open Go.ChangeShapes Go.WideShapes Go.ChangeAt Go.RowKit

theorem sameV_sym (x y : Val) : sameV y x = sameV x y := by
  rw [Bool.eq_iff_iff, sameV_iff, sameV_iff]; exact ⟨Eq.symm, Eq.symm⟩
set_option maxRecDepth 100000 in
set_option maxHeartbeats 4000000 in
theorem walk_ValueEqual (x : Val) (vk vi vr : Value) (y : Val) (uk ui ur : Value) (w : World) (hv : ValAt w w.heap.size x vk vi vr) (hu : ValAt w w.heap.size y uk ui ur) :
    Calls Try.prog 8 #[valA x vk vi vr, valA y uk ui ur] w fun e w' => e = .returned (.bool true) ∧ Below w.heap.size w w' := by
  obtain ⟨A1, n1, A2, n2, A3, n3, rfl, rfl, rfl, -, -, -⟩ := hv.forms
  obtain ⟨B1, m1, B2, m2, B3, m3, rfl, rfl, rfl, -, -, -⟩ := hu.forms
  have h01 := ((Below.refl w.heap.size w).alloc (Nat.le_refl _) (.cells #[.int .i64 x.kind, .bool x.bool, .int .i64 x.num, .string ⟨x.str.toArray⟩, .int .i64 x.id, .slice A1 x.keys.length n1, .slice A2 x.items.length n2, .slice A3 x.rest.length n3] 28)).alloc (show w.heap.size ≤ (w.alloc (.cells #[.int .i64 x.kind, .bool x.bool, .int .i64 x.num, .string ⟨x.str.toArray⟩, .int .i64 x.id, .slice A1 x.keys.length n1, .slice A2 x.items.length n2, .slice A3 x.rest.length n3] 28)).heap.size by simp) (.cells #[.int .i64 y.kind, .bool y.bool, .int .i64 y.num, .string ⟨y.str.toArray⟩, .int .i64 y.id, .slice B1 y.keys.length m1, .slice B2 y.items.length m2, .slice B3 y.rest.length m3] 28)
  have hX := (Has.made w 28 #[.int .i64 x.kind, .bool x.bool, .int .i64 x.num, .string ⟨x.str.toArray⟩, .int .i64 x.id, .slice A1 x.keys.length n1, .slice A2 x.items.length n2, .slice A3 x.rest.length n3]).alloc (.cells #[.int .i64 y.kind, .bool y.bool, .int .i64 y.num, .string ⟨y.str.toArray⟩, .int .i64 y.id, .slice B1 y.keys.length m1, .slice B2 y.items.length m2, .slice B3 y.rest.length m3] 28)
  have hY := Has.made (w.alloc (.cells #[.int .i64 x.kind, .bool x.bool, .int .i64 x.num, .string ⟨x.str.toArray⟩, .int .i64 x.id, .slice A1 x.keys.length n1, .slice A2 x.items.length n2, .slice A3 x.rest.length n3] 28)) 28 #[.int .i64 y.kind, .bool y.bool, .int .i64 y.num, .string ⟨y.str.toArray⟩, .int .i64 y.id, .slice B1 y.keys.length m1, .slice B2 y.items.length m2, .slice B3 y.rest.length m3]
  rw [alloc_hs'] at hY
  have SYM := Lib.hid (sameV_sym x y)
  have REF := Lib.hid ((sameV_iff x x).2 rfl)
  have HV := Lib.hid (hv.on h01)
  have HU := Lib.hid (hu.on h01)
  clear hv hu
  go_enter Try.func8, Try.ntmps8
  go_wp2_with fail
  generalize ((w.alloc (.cells #[.int .i64 x.kind, .bool x.bool, .int .i64 x.num, .string ⟨x.str.toArray⟩, .int .i64 x.id, .slice A1 x.keys.length n1, .slice A2 x.items.length n2, .slice A3 x.rest.length n3] 28)).alloc (.cells #[.int .i64 y.kind, .bool y.bool, .int .i64 y.num, .string ⟨y.str.toArray⟩, .int .i64 y.id, .slice B1 y.keys.length m1, .slice B2 y.items.length m2, .slice B3 y.rest.length m3] 28)) = w1 at *
  refine (awake_any _).mono ?_
  rintro e w2 ⟨rfl, hb⟩
  have h01 := h01.trans (hb.mono h01.size)
  have hX := hX.below hb hX.here
  have hY := hY.below hb hY.here
  have HV := Lib.hid (HV.out.keep (w' := _) (B' := _) (fun p hp => hb.cell hp) hb.size)
  have HU := Lib.hid (HU.out.keep (w' := _) (B' := _) (fun p hp => hb.cell hp) hb.size)
  have c0 := hX.cell 0
  have c1 := hX.cell 1
  have c2 := hX.cell 2
  have c3 := hX.cell 3
  have c4 := hX.cell 4
  have c5 := hX.cell 5
  have c6 := hX.cell 6
  have c7 := hX.cell 7
  have d0 := hY.cell 0
  have d1 := hY.cell 1
  have d2 := hY.cell 2
  have d3 := hY.cell 3
  have d4 := hY.cell 4
  have d5 := hY.cell 5
  have d6 := hY.cell 6
  have d7 := hY.cell 7
  have hz := hX.here
  have hz' := hY.here
  simp only [List.getElem?_toArray, List.getElem?_cons_succ, List.getElem?_cons_zero] at c0 c1 c2 c3 c4 c5 c6 c7 d0 d1 d2 d3 d4 d5 d6 d7
  clear hb
  go_wp2_with fail
  refine (small_any x _ _ _ _ HV.out).mono ?_
  rintro e w3 ⟨rfl, hb⟩
  have h01 := h01.trans (hb.mono h01.size)
  have hX := hX.below hb hX.here
  have hY := hY.below hb hY.here
  have HV := Lib.hid (HV.out.keep (w' := _) (B' := _) (fun p hp => hb.cell hp) hb.size)
  have HU := Lib.hid (HU.out.keep (w' := _) (B' := _) (fun p hp => hb.cell hp) hb.size)
  have c0 := hX.cell 0
  have c1 := hX.cell 1
  have c2 := hX.cell 2
  have c3 := hX.cell 3
  have c4 := hX.cell 4
  have c5 := hX.cell 5
  have c6 := hX.cell 6
  have c7 := hX.cell 7
  have d0 := hY.cell 0
  have d1 := hY.cell 1
  have d2 := hY.cell 2
  have d3 := hY.cell 3
  have d4 := hY.cell 4
  have d5 := hY.cell 5
  have d6 := hY.cell 6
  have d7 := hY.cell 7
  have hz := hX.here
  have hz' := hY.here
  simp only [List.getElem?_toArray, List.getElem?_cons_succ, List.getElem?_cons_zero] at c0 c1 c2 c3 c4 c5 c6 c7 d0 d1 d2 d3 d4 d5 d6 d7
  clear hb
  cases hs : smallB x with
  | false =>
    clear hs
    go_wp2_with fail
    refine (awake_any _).mono ?_
    rintro e w9 ⟨rfl, hb⟩
    go_wp2_with fail
    go_ret
    exact ⟨rfl, h01.trans (hb.mono h01.size)⟩
  | true =>
    clear hs
    go_wp2_with fail
    refine (small_any y _ _ _ _ HU.out).mono ?_
    rintro e w4 ⟨rfl, hb⟩
    have h01 := h01.trans (hb.mono h01.size)
    have hX := hX.below hb hX.here
    have hY := hY.below hb hY.here
    have HV := Lib.hid (HV.out.keep (w' := _) (B' := _) (fun p hp => hb.cell hp) hb.size)
    have HU := Lib.hid (HU.out.keep (w' := _) (B' := _) (fun p hp => hb.cell hp) hb.size)
    have c0 := hX.cell 0
    have c1 := hX.cell 1
    have c2 := hX.cell 2
    have c3 := hX.cell 3
    have c4 := hX.cell 4
    have c5 := hX.cell 5
    have c6 := hX.cell 6
    have c7 := hX.cell 7
    have d0 := hY.cell 0
    have d1 := hY.cell 1
    have d2 := hY.cell 2
    have d3 := hY.cell 3
    have d4 := hY.cell 4
    have d5 := hY.cell 5
    have d6 := hY.cell 6
    have d7 := hY.cell 7
    have hz := hX.here
    have hz' := hY.here
    simp only [List.getElem?_toArray, List.getElem?_cons_succ, List.getElem?_cons_zero] at c0 c1 c2 c3 c4 c5 c6 c7 d0 d1 d2 d3 d4 d5 d6 d7
    clear hb
    cases hs : smallB y with
    | false =>
      clear hs
      go_wp2_with fail
      refine (awake_any _).mono ?_
      rintro e w9 ⟨rfl, hb⟩
      go_wp2_with fail
      go_ret
      exact ⟨rfl, h01.trans (hb.mono h01.size)⟩
    | true =>
      clear hs
      go_upto_region 3 with fail
      have hbF := (Below.refl w4.heap.size w4).drew
      have HV := Lib.hid (HV.out.on (w' := w4.drew) (Below.refl _ _).drew)
      have HU := Lib.hid (HU.out.on (w' := w4.drew) (Below.refl _ _).drew)
      go_region_held3 (fun w' => w'.cell? ⟨w.heap.size, 0, none⟩ = some (.int .i64 x.kind) ∧ w'.cell? ⟨w.heap.size, 1, none⟩ = some (.bool x.bool) ∧ w'.cell? ⟨w.heap.size, 2, none⟩ = some (.int .i64 x.num) ∧ w'.cell? ⟨w.heap.size, 3, none⟩ = some (.string ⟨x.str.toArray⟩) ∧ w'.cell? ⟨w.heap.size, 4, none⟩ = some (.int .i64 x.id) ∧ w'.cell? ⟨w.heap.size, 5, none⟩ = some (.slice A1 x.keys.length n1) ∧ w'.cell? ⟨w.heap.size, 6, none⟩ = some (.slice A2 x.items.length n2) ∧ w'.cell? ⟨w.heap.size, 7, none⟩ = some (.slice A3 x.rest.length n3) ∧ w'.cell? ⟨w.heap.size + 1, 0, none⟩ = some (.int .i64 y.kind) ∧ w'.cell? ⟨w.heap.size + 1, 1, none⟩ = some (.bool y.bool) ∧ w'.cell? ⟨w.heap.size + 1, 2, none⟩ = some (.int .i64 y.num) ∧ w'.cell? ⟨w.heap.size + 1, 3, none⟩ = some (.string ⟨y.str.toArray⟩) ∧ w'.cell? ⟨w.heap.size + 1, 4, none⟩ = some (.int .i64 y.id) ∧ w'.cell? ⟨w.heap.size + 1, 5, none⟩ = some (.slice B1 y.keys.length m1) ∧ w'.cell? ⟨w.heap.size + 1, 6, none⟩ = some (.slice B2 y.items.length m2) ∧ w'.cell? ⟨w.heap.size + 1, 7, none⟩ = some (.slice B3 y.rest.length m3)) (first | (go_keep; done) | exact ⟨c0, c1, c2, c3, c4, c5, c6, c7, d0, d1, d2, d3, d4, d5, d6, d7⟩)
        (first
          | (go_at_call 29; (first | (with_reducible refine (vequal_any (nodes x + 1) x y _ _ _ _ _ _ _ (by omega) HV.out HU.out).mono ?_) | (with_reducible refine (vequal_any (nodes y + 1) y x _ _ _ _ _ _ _ (by omega) HU.out HV.out).mono ?_) | (with_reducible refine (vequal_any (nodes x + 1) x x _ _ _ _ _ _ _ (by omega) HV.out HV.out).mono ?_)); rintro e wn ⟨rfl, hbn⟩; (try rw [SYM.out]); (try rw [REF.out]); have HV := Lib.hid (HV.out.on hbn); have HU := Lib.hid (HU.out.on hbn); have hbF := hbF.trans (hbn.mono hbF.size); have c0 := (hbn.cell (p := ⟨w.heap.size, 0, none⟩) hz).trans c0; have c1 := (hbn.cell (p := ⟨w.heap.size, 1, none⟩) hz).trans c1; have c2 := (hbn.cell (p := ⟨w.heap.size, 2, none⟩) hz).trans c2; have c3 := (hbn.cell (p := ⟨w.heap.size, 3, none⟩) hz).trans c3; have c4 := (hbn.cell (p := ⟨w.heap.size, 4, none⟩) hz).trans c4; have c5 := (hbn.cell (p := ⟨w.heap.size, 5, none⟩) hz).trans c5; have c6 := (hbn.cell (p := ⟨w.heap.size, 6, none⟩) hz).trans c6; have c7 := (hbn.cell (p := ⟨w.heap.size, 7, none⟩) hz).trans c7; have d0 := (hbn.cell (p := ⟨w.heap.size + 1, 0, none⟩) hz').trans d0; have d1 := (hbn.cell (p := ⟨w.heap.size + 1, 1, none⟩) hz').trans d1; have d2 := (hbn.cell (p := ⟨w.heap.size + 1, 2, none⟩) hz').trans d2; have d3 := (hbn.cell (p := ⟨w.heap.size + 1, 3, none⟩) hz').trans d3; have d4 := (hbn.cell (p := ⟨w.heap.size + 1, 4, none⟩) hz').trans d4; have d5 := (hbn.cell (p := ⟨w.heap.size + 1, 5, none⟩) hz').trans d5; have d6 := (hbn.cell (p := ⟨w.heap.size + 1, 6, none⟩) hz').trans d6; have d7 := (hbn.cell (p := ⟨w.heap.size + 1, 7, none⟩) hz').trans d7; have hz := Nat.lt_of_lt_of_le hz hbn.size; have hz' := Nat.lt_of_lt_of_le hz' hbn.size; clear hbn)
          | (go_at_call 28; (with_reducible refine (requal_any x y _ _ _ _ _ _ _ HV.out HU.out).mono ?_); rintro e wn ⟨rfl, hbn⟩; have HV := Lib.hid (HV.out.on hbn); have HU := Lib.hid (HU.out.on hbn); have hbF := hbF.trans (hbn.mono hbF.size); have c0 := (hbn.cell (p := ⟨w.heap.size, 0, none⟩) hz).trans c0; have c1 := (hbn.cell (p := ⟨w.heap.size, 1, none⟩) hz).trans c1; have c2 := (hbn.cell (p := ⟨w.heap.size, 2, none⟩) hz).trans c2; have c3 := (hbn.cell (p := ⟨w.heap.size, 3, none⟩) hz).trans c3; have c4 := (hbn.cell (p := ⟨w.heap.size, 4, none⟩) hz).trans c4; have c5 := (hbn.cell (p := ⟨w.heap.size, 5, none⟩) hz).trans c5; have c6 := (hbn.cell (p := ⟨w.heap.size, 6, none⟩) hz).trans c6; have c7 := (hbn.cell (p := ⟨w.heap.size, 7, none⟩) hz).trans c7; have d0 := (hbn.cell (p := ⟨w.heap.size + 1, 0, none⟩) hz').trans d0; have d1 := (hbn.cell (p := ⟨w.heap.size + 1, 1, none⟩) hz').trans d1; have d2 := (hbn.cell (p := ⟨w.heap.size + 1, 2, none⟩) hz').trans d2; have d3 := (hbn.cell (p := ⟨w.heap.size + 1, 3, none⟩) hz').trans d3; have d4 := (hbn.cell (p := ⟨w.heap.size + 1, 4, none⟩) hz').trans d4; have d5 := (hbn.cell (p := ⟨w.heap.size + 1, 5, none⟩) hz').trans d5; have d6 := (hbn.cell (p := ⟨w.heap.size + 1, 6, none⟩) hz').trans d6; have d7 := (hbn.cell (p := ⟨w.heap.size + 1, 7, none⟩) hz').trans d7; have hz := Nat.lt_of_lt_of_le hz hbn.size; have hz' := Nat.lt_of_lt_of_le hz' hbn.size; clear hbn))
      all_goals
        go_wp2_with fail
        go_ret
        exact ⟨ret_bool (by first | rfl | (simp; done)), h01.trans (hbF.mono h01.size)⟩

namespace fr_ValueEqual
set_option maxRecDepth 100000 in
theorem lifted (os : Os) (started : os.Started) (H : Type) (enc : TypeId × Value → H) :
    ReturnsInHanded {} Try.checked os 8 .any (Rows.valueEqualSpec.pre6 enc Try.prog Try.f8 Rows.valueEqualRow.domain false) (Rows.valueEqualSpec.post enc Try.prog Try.f8 false true false false) := by
  refine returnsInHanded_of_change_sized (C := Try.checked) own_knob started (by kernel_rfl) Try.func8
    (ChangeSpec.witness6 (enc := enc) (C := Try.checked) false ⟨#[], #[.agg #[.int .i64 0, .bool false, .int .i64 0, .string ByteArray.empty, .int .i64 0, .slice none 0 0, .slice none 0 0, .slice none 0 0], .agg #[.int .i64 0, .bool false, .int .i64 0, .string ByteArray.empty, .int .i64 0, .slice none 0 0, .slice none 0 0, .slice none 0 0]], []⟩ 8 (by kernel_rfl) (by kernel_rfl) (by kernel_rfl) (by kernel_rfl)) ?_
  intro W base args ds gs before hval0 hW hcnd hsz0 _
  have hsz : (DataW.weightsEach Try.prog (Try.f8.params.toList ++ Rows.valueEqualSpec.plain.varTypes Try.prog) (ds ++ gs)).all (· ≤ reachBytes) = true := hsz0
  have hval : ∀ (j : Nat) t v, Try.f8.params[j]? = some t → args[j]? = some v → Value.okWide Try.prog W .any base t v := hval0
  have hW' := hW
  have hlt : ∀ p ∈ before, p.block < W.heap.size := fun p hp => hW.lt p hp
  obtain ⟨p, q, hA0, hV, rfl, hfz, hnd⟩ := hW
  have hA : DataW.TrodAll enc Try.prog W 0 (fun _ => true) true Try.f8.params.toList args.toList ds p := hA0
  have hA2 := hA
  rw [Try.params8] at hA hval hsz
  obtain ⟨v0, vs0, d0, ds0, p0, q0, hargs, rfl, hpq, h0, r0⟩ := trodAll_cons hA
  obtain ⟨v1, vs1, d1, ds1, p1, q1, rfl, rfl, rfl, h1, r1⟩ := trodAll_cons r0
  obtain ⟨rfl, rfl, rfl⟩ := trodAll_nil r1
  obtain rfl : args = #[v0, v1] := by cases args; simp_all
  obtain ⟨rfl, rfl⟩ := trodVars_none hV
  obtain ⟨a0, k0, i0, e0, rfl, u0⟩ := open_val (hval 0 28 v0 rfl rfl) h0 (sz_of_each hsz (j := 0) rfl (by simp))
  obtain ⟨a1, k1, i1, e1, rfl, u1⟩ := open_val (hval 1 28 v1 rfl rfl) h1 (sz_of_each hsz (j := 1) rfl (by simp))
  clear hA0 hval0
  refine (walk_ValueEqual a0 k0 i0 e0 a1 k1 i1 e1 W u0 u1).mono fun e W' ⟨he, bel⟩ => ?_
  subst he
  exact ⟨_, rfl, _, _, _, [], _, [], hW', trodAll_mk1 (shut_bool Try.underlying4 _), trodAll_below laid_out bel _ _ _ _ (by kernel_rfl) hA2 (fun x hx => hlt x (by simpa using hx)), rfl, bel.frame _, fun h => by cases h⟩
theorem proved : Rows.ValueEqualSaid :=
  OpenClaim.holds_of_wide 8 Try.f8 rfl rfl rfl rfl rfl rfl rfl ⟨rfl, rfl, rfl, rfl, rfl⟩ rfl rfl rfl rfl rfl (by kernel_rfl) Try.func8 (by kernel_rfl)
    (of_decide_eq_true (by kernel_rfl)) (by unfold Func.isWrapper; first | (rw [if_pos (by decide +kernel)]; kernel_rfl) | (rw [if_neg (by decide +kernel)]; exact ⟨rfl, rfl⟩))
    (fun os started H enc _ => lifted os started H enc)
#print axioms proved
end fr_ValueEqual

end Go.Proofs.Ytjcoeolconelmaa

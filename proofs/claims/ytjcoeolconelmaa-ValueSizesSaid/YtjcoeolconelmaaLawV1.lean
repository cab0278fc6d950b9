/- The statement ValueSizes: Depth and Nodes agree with their references, and Nodes is at least Depth. No condition. -/
import Derived.Test.YtjcoeolconelmaaAwake8
import Derived.Test.YtjcoeolconelmaaOpenV
import Derived.Deep.RegionHeld3
import Derived.Deep.Cut
import Derived.Deep.DeepCutAuto
namespace Go.Proofs.Ytjcoeolconelmaa
open Go.ChangeShapes Go.WideShapes Go.ChangeAt Go.RowKit

set_option maxRecDepth 100000 in
set_option maxHeartbeats 1600000 in
theorem walk_ValueSizes (x : Val) (vk vi vr : Value) (w : World) (hv : ValAt w w.heap.size x vk vi vr) :
    Calls Try.prog 6 #[valA x vk vi vr] w fun e w' => e = .returned (.bool true) ∧ Below w.heap.size w w' := by
  obtain ⟨A1, n1, A2, n2, A3, n3, rfl, rfl, rfl, -, -, -⟩ := hv.forms
  have h01 := (Below.refl w.heap.size w).alloc (Nat.le_refl _) (.cells #[.int .i64 x.kind, .bool x.bool, .int .i64 x.num, .string ⟨x.str.toArray⟩, .int .i64 x.id, .slice A1 x.keys.length n1, .slice A2 x.items.length n2, .slice A3 x.rest.length n3] 28)
  have hX := Has.made w 28 #[.int .i64 x.kind, .bool x.bool, .int .i64 x.num, .string ⟨x.str.toArray⟩, .int .i64 x.id, .slice A1 x.keys.length n1, .slice A2 x.items.length n2, .slice A3 x.rest.length n3]
  have HV := Lib.hid hv
  clear hv
  go_enter Try.func6, Try.ntmps6
  go_wp2_with fail
  generalize w.alloc (.cells #[.int .i64 x.kind, .bool x.bool, .int .i64 x.num, .string ⟨x.str.toArray⟩, .int .i64 x.id, .slice A1 x.keys.length n1, .slice A2 x.items.length n2, .slice A3 x.rest.length n3] 28) = w1 at *
  have HV := Lib.hid (HV.out.on h01)
  refine (awake_any _).mono ?_
  rintro e w2 ⟨rfl, hb⟩
  have h01 := h01.trans (hb.mono h01.size)
  have hX := hX.below hb hX.here
  have HV := Lib.hid (HV.out.keep (w' := _) (B' := _) (fun p hp => hb.cell hp) hb.size)
  have c0 := hX.cell 0
  have c1 := hX.cell 1
  have c2 := hX.cell 2
  have c3 := hX.cell 3
  have c4 := hX.cell 4
  have c5 := hX.cell 5
  have c6 := hX.cell 6
  have c7 := hX.cell 7
  have hz := hX.here
  simp only [List.getElem?_toArray, List.getElem?_cons_succ, List.getElem?_cons_zero] at c0 c1 c2 c3 c4 c5 c6 c7
  clear hb
  go_wp2_with fail
  refine (small_any x _ _ _ _ HV.out).mono ?_
  rintro e w3 ⟨rfl, hb⟩
  have h01 := h01.trans (hb.mono h01.size)
  have hX := hX.below hb hX.here
  have HV := Lib.hid (HV.out.keep (w' := _) (B' := _) (fun p hp => hb.cell hp) hb.size)
  have c0 := hX.cell 0
  have c1 := hX.cell 1
  have c2 := hX.cell 2
  have c3 := hX.cell 3
  have c4 := hX.cell 4
  have c5 := hX.cell 5
  have c6 := hX.cell 6
  have c7 := hX.cell 7
  have hz := hX.here
  simp only [List.getElem?_toArray, List.getElem?_cons_succ, List.getElem?_cons_zero] at c0 c1 c2 c3 c4 c5 c6 c7
  clear hb
  cases hs : smallB x with
  | false =>
    clear hs
    go_wp2_with fail
    refine (awake_any _).mono ?_
    rintro e w4 ⟨rfl, hb⟩
    go_wp2_with fail
    go_ret
    exact ⟨rfl, h01.trans (hb.mono h01.size)⟩
  | true =>
    have hn := small_nodes x hs
    have Hs := Lib.hid hs
    clear hs
    go_upto_region 3 with fail
    go_cut [3, 4] (fun s3 s4 wx => s3 = .int .i64 (depth x : Nat) ∧ s4 = .int .i64 (nodes x : Nat) ∧ Below w3.heap.size w3 wx)
    case first =>
      go_region_held3 (fun w' => w'.cell? ⟨w.heap.size, 0, none⟩ = some (.int .i64 x.kind) ∧ w'.cell? ⟨w.heap.size, 1, none⟩ = some (.bool x.bool) ∧ w'.cell? ⟨w.heap.size, 2, none⟩ = some (.int .i64 x.num) ∧ w'.cell? ⟨w.heap.size, 3, none⟩ = some (.string ⟨x.str.toArray⟩) ∧ w'.cell? ⟨w.heap.size, 4, none⟩ = some (.int .i64 x.id) ∧ w'.cell? ⟨w.heap.size, 5, none⟩ = some (.slice A1 x.keys.length n1) ∧ w'.cell? ⟨w.heap.size, 6, none⟩ = some (.slice A2 x.items.length n2) ∧ w'.cell? ⟨w.heap.size, 7, none⟩ = some (.slice A3 x.rest.length n3)) (first | (go_keep; done) | exact ⟨p0, p1, p2, p3, p4, p5, p6, p7⟩)
        (first
          | (go_at_call 21; (with_reducible refine (vdepth_any (nodes x) x _ _ _ _ (Nat.le_refl _) (by omega) (HV.out.on (w' := w3.drew) (Below.refl _ _).drew)).mono ?_); rintro e wd ⟨rfl, hbd⟩; have hbd' : Below w3.heap.size w3 wd := ((Below.refl w3.heap.size w3).drew).trans hbd; have HV2 := Lib.hid (HV.out.on hbd'); have p0 := (hbd'.cell (p := ⟨w.heap.size, 0, none⟩) hz).trans c0; have p1 := (hbd'.cell (p := ⟨w.heap.size, 1, none⟩) hz).trans c1; have p2 := (hbd'.cell (p := ⟨w.heap.size, 2, none⟩) hz).trans c2; have p3 := (hbd'.cell (p := ⟨w.heap.size, 3, none⟩) hz).trans c3; have p4 := (hbd'.cell (p := ⟨w.heap.size, 4, none⟩) hz).trans c4; have p5 := (hbd'.cell (p := ⟨w.heap.size, 5, none⟩) hz).trans c5; have p6 := (hbd'.cell (p := ⟨w.heap.size, 6, none⟩) hz).trans c6; have p7 := (hbd'.cell (p := ⟨w.heap.size, 7, none⟩) hz).trans c7; clear hbd)
          | (go_at_call 22; (with_reducible refine (vnodes_any (nodes x) x _ _ _ _ (Nat.le_refl _) (by omega) (HV.out.on (w' := w3.drew) (Below.refl _ _).drew)).mono ?_); rintro e wd ⟨rfl, hbd⟩; have hbd' : Below w3.heap.size w3 wd := ((Below.refl w3.heap.size w3).drew).trans hbd; have HV2 := Lib.hid (HV.out.on hbd'); have p0 := (hbd'.cell (p := ⟨w.heap.size, 0, none⟩) hz).trans c0; have p1 := (hbd'.cell (p := ⟨w.heap.size, 1, none⟩) hz).trans c1; have p2 := (hbd'.cell (p := ⟨w.heap.size, 2, none⟩) hz).trans c2; have p3 := (hbd'.cell (p := ⟨w.heap.size, 3, none⟩) hz).trans c3; have p4 := (hbd'.cell (p := ⟨w.heap.size, 4, none⟩) hz).trans c4; have p5 := (hbd'.cell (p := ⟨w.heap.size, 5, none⟩) hz).trans c5; have p6 := (hbd'.cell (p := ⟨w.heap.size, 6, none⟩) hz).trans c6; have p7 := (hbd'.cell (p := ⟨w.heap.size, 7, none⟩) hz).trans c7; clear hbd)
          | (go_at_call 21; (with_reducible refine (vdepth_any (nodes x) x _ _ _ _ (Nat.le_refl _) (by omega) HV2.out).mono ?_); rintro e we ⟨rfl, hbe⟩; have hbF : Below w3.heap.size w3 we := hbd'.trans (hbe.mono hbd'.size); have p0 := (hbF.cell (p := ⟨w.heap.size, 0, none⟩) hz).trans c0; have p1 := (hbF.cell (p := ⟨w.heap.size, 1, none⟩) hz).trans c1; have p2 := (hbF.cell (p := ⟨w.heap.size, 2, none⟩) hz).trans c2; have p3 := (hbF.cell (p := ⟨w.heap.size, 3, none⟩) hz).trans c3; have p4 := (hbF.cell (p := ⟨w.heap.size, 4, none⟩) hz).trans c4; have p5 := (hbF.cell (p := ⟨w.heap.size, 5, none⟩) hz).trans c5; have p6 := (hbF.cell (p := ⟨w.heap.size, 6, none⟩) hz).trans c6; have p7 := (hbF.cell (p := ⟨w.heap.size, 7, none⟩) hz).trans c7; clear hbe)
          | (go_at_call 22; (with_reducible refine (vnodes_any (nodes x) x _ _ _ _ (Nat.le_refl _) (by omega) HV2.out).mono ?_); rintro e we ⟨rfl, hbe⟩; have hbF : Below w3.heap.size w3 we := hbd'.trans (hbe.mono hbd'.size); have p0 := (hbF.cell (p := ⟨w.heap.size, 0, none⟩) hz).trans c0; have p1 := (hbF.cell (p := ⟨w.heap.size, 1, none⟩) hz).trans c1; have p2 := (hbF.cell (p := ⟨w.heap.size, 2, none⟩) hz).trans c2; have p3 := (hbF.cell (p := ⟨w.heap.size, 3, none⟩) hz).trans c3; have p4 := (hbF.cell (p := ⟨w.heap.size, 4, none⟩) hz).trans c4; have p5 := (hbF.cell (p := ⟨w.heap.size, 5, none⟩) hz).trans c5; have p6 := (hbF.cell (p := ⟨w.heap.size, 6, none⟩) hz).trans c6; have p7 := (hbF.cell (p := ⟨w.heap.size, 7, none⟩) hz).trans c7; clear hbe))
      all_goals
        go_wp2_with fail
        go_meet
        exact ⟨rfl, rfl, hbF⟩
    case rest =>
      obtain ⟨rfl, rfl, hb⟩ := hcut
      have h01 := h01.trans (hb.mono h01.size)
      have hX := hX.below hb hX.here
      have HV := Lib.hid (HV.out.keep (w' := _) (B' := _) (fun p hp => hb.cell hp) hb.size)
      have c0 := hX.cell 0
      have c1 := hX.cell 1
      have c2 := hX.cell 2
      have c3 := hX.cell 3
      have c4 := hX.cell 4
      have c5 := hX.cell 5
      have c6 := hX.cell 6
      have c7 := hX.cell 7
      have hz := hX.here
      simp only [List.getElem?_toArray, List.getElem?_cons_succ, List.getElem?_cons_zero] at c0 c1 c2 c3 c4 c5 c6 c7
      clear hb
      have hdn := depth_nodes x
      go_wp2_with fail
      refine (rdepth_any (nodes x) x _ _ _ _ (Nat.le_refl _) (by omega) HV.out).mono ?_
      rintro e w5 ⟨rfl, hb⟩
      have h01 := h01.trans (hb.mono h01.size)
      have hX := hX.below hb hX.here
      have HV := Lib.hid (HV.out.keep (w' := _) (B' := _) (fun p hp => hb.cell hp) hb.size)
      have c0 := hX.cell 0
      have c1 := hX.cell 1
      have c2 := hX.cell 2
      have c3 := hX.cell 3
      have c4 := hX.cell 4
      have c5 := hX.cell 5
      have c6 := hX.cell 6
      have c7 := hX.cell 7
      have hz := hX.here
      simp only [List.getElem?_toArray, List.getElem?_cons_succ, List.getElem?_cons_zero] at c0 c1 c2 c3 c4 c5 c6 c7
      clear hb
      go_wp2_with fail
      refine (rnodes_any (nodes x) x _ _ _ _ (Nat.le_refl _) (by omega) HV.out).mono ?_
      rintro e w6 ⟨rfl, hb⟩
      go_wp2_with fail
      go_ret
      exact ⟨ret_bool (by first | (simp; done) | (simp; omega)), h01.trans (hb.mono h01.size)⟩

namespace fr_ValueSizes
set_option maxRecDepth 100000 in
theorem lifted (os : Os) (started : os.Started) (H : Type) (enc : TypeId × Value → H) :
    ReturnsInHanded {} Try.checked os 6 .any (Rows.valueSizesSpec.pre6 enc Try.prog Try.f6 Rows.valueSizesRow.domain false) (Rows.valueSizesSpec.post enc Try.prog Try.f6 false true false false) := by
  refine returnsInHanded_of_change_sized (C := Try.checked) own_knob started (by kernel_rfl) Try.func6
    (ChangeSpec.witness6 (enc := enc) (C := Try.checked) false ⟨#[], #[.agg #[.int .i64 0, .bool false, .int .i64 0, .string ByteArray.empty, .int .i64 0, .slice none 0 0, .slice none 0 0, .slice none 0 0]], []⟩ 8 (by kernel_rfl) (by kernel_rfl) (by kernel_rfl) (by kernel_rfl)) ?_
  intro W base args ds gs before hval0 hW hcnd hsz0 _
  have hsz : (DataW.weightsEach Try.prog (Try.f6.params.toList ++ Rows.valueSizesSpec.plain.varTypes Try.prog) (ds ++ gs)).all (· ≤ reachBytes) = true := hsz0
  have hval : ∀ (j : Nat) t v, Try.f6.params[j]? = some t → args[j]? = some v → Value.okWide Try.prog W .any base t v := hval0
  have hW' := hW
  have hlt : ∀ p ∈ before, p.block < W.heap.size := fun p hp => hW.lt p hp
  obtain ⟨p, q, hA0, hV, rfl, hfz, hnd⟩ := hW
  have hA : DataW.TrodAll enc Try.prog W 0 (fun _ => true) true Try.f6.params.toList args.toList ds p := hA0
  have hA2 := hA
  rw [Try.params6] at hA hval hsz
  obtain ⟨v0, vs0, d0, ds0, p0, q0, hargs, rfl, hpq, h0, r0⟩ := trodAll_cons hA
  obtain ⟨rfl, rfl, rfl⟩ := trodAll_nil r0
  obtain rfl : args = #[v0] := by cases args; simp_all
  obtain ⟨rfl, rfl⟩ := trodVars_none hV
  obtain ⟨a0, k0, i0, e0, rfl, u0⟩ := open_val (hval 0 28 v0 rfl rfl) h0 (sz_of_each hsz (j := 0) rfl (by simp))
  clear hA0 hval0
  refine (walk_ValueSizes a0 k0 i0 e0 W u0).mono fun e W' ⟨he, bel⟩ => ?_
  subst he
  exact ⟨_, rfl, _, _, _, [], _, [], hW', trodAll_mk1 (shut_bool Try.underlying4 _), trodAll_below laid_out bel _ _ _ _ (by kernel_rfl) hA2 (fun x hx => hlt x (by simpa using hx)), rfl, bel.frame _, fun h => by cases h⟩
theorem proved : Rows.ValueSizesSaid :=
  OpenClaim.holds_of_wide 6 Try.f6 rfl rfl rfl rfl rfl rfl rfl ⟨rfl, rfl, rfl, rfl, rfl⟩ rfl rfl rfl rfl rfl (by kernel_rfl) Try.func6 (by kernel_rfl)
    (of_decide_eq_true (by kernel_rfl)) (by unfold Func.isWrapper; first | (rw [if_pos (by decide +kernel)]; kernel_rfl) | (rw [if_neg (by decide +kernel)]; exact ⟨rfl, rfl⟩))
    (fun os started H enc _ => lifted os started H enc)
#print axioms proved
end fr_ValueSizes

end Go.Proofs.Ytjcoeolconelmaa

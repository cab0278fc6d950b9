/- The statement ValueDefaults: Defaults returns the first default that is not plain for its member, or the error of the schema, as its reference does. No condition. -/
import Derived.Test.YtjajgclchapllaaAwake8
import Derived.Test.YtjajgclchapllaaGR
import Derived.Test.YtjajgclchapllaaGQ
namespace Go.Proofs.Ytjajgclchapllaa
open Go.ChangeShapes Go.WideShapes Go.ChangeAt Go.RowKit
set_option maxRecDepth 100000 in
set_option maxHeartbeats 1600000 in
theorem walk_ValueDefaults (ts : List Typ) (A : Option Addr) (c : Nat) (hs : Sizes ts) (w : World) (ht : RdTyps w w.heap.size (.slice A ts.length c) ts) :
  Calls Try.prog 5 #[.agg #[.slice A ts.length c]] w fun e w' => e = .returned (.bool true) ∧ Below w.heap.size w w' := by
 have HT := Lib.hid ht
 have HS := Lib.hid hs
 clear ht hs
 go_enter Try.func5, Try.ntmps5
 go_upto_region 1 with fail
 have hb211 := below_al (Below.refl w.heap.size w) (Nat.le_refl _) (.cells #[.slice A ts.length c] 30)
 have S := Has.made w 30 #[.slice A ts.length c]
 have hw212 := hb211
 replace S := Lib.hid S
 clear hb211
 generalize (w.alloc (.cells #[.slice A ts.length c] 30)) = wd213 at *
 have cS_0 : wd213.cell? ⟨w.heap.size, 0, none⟩ = some (.slice A ts.length c) := S.out.cell 0
 go_wp2_with fail
 clear cS_0
 ((with_reducible refine (awake_any _).mono ?_); rintro e wd214 ⟨rfl, hb215⟩)
 replace S := Lib.hid (S.out.below hb215 S.out.here)
 replace hw212 := hw212.trans (hb215.mono hw212.size)
 clear hb215
 have cS_0 : wd214.cell? ⟨w.heap.size, 0, none⟩ = some (.slice A ts.length c) := S.out.cell 0
 go_wp2_with fail
 clear cS_0
 ((with_reducible refine (few_any ts A c _ (HT.out.on hw212)).mono ?_); rintro e wd216 ⟨⟨fb, rfl⟩, hb217⟩)
 replace S := Lib.hid (S.out.below hb217 S.out.here)
 replace hw212 := hw212.trans (hb217.mono hw212.size)
 clear hb217
 cases fb with
 | false =>
  go_wp2_with fail
  ((with_reducible refine (awake_any _).mono ?_); rintro e wd218 ⟨rfl, hb219⟩)
  replace S := Lib.hid (S.out.below hb219 S.out.here)
  replace hw212 := hw212.trans (hb219.mono hw212.size)
  clear hb219
  go_wp2_with fail
  go_ret
  exact ⟨rfl, hw212⟩
 | true =>
  have cS_0 : wd216.cell? ⟨w.heap.size, 0, none⟩ = some (.slice A ts.length c) := S.out.cell 0
  go_wp2_with fail
  clear cS_0
  ((with_reducible refine (vdefs_any ts A c _ HS.out (HT.out.on hw212)).mono ?_); rintro e wd220 ⟨rfl, hb221⟩)
  replace S := Lib.hid (S.out.below hb221 S.out.here)
  replace hw212 := hw212.trans (hb221.mono hw212.size)
  clear hb221
  have cS_0 : wd220.cell? ⟨w.heap.size, 0, none⟩ = some (.slice A ts.length c) := S.out.cell 0
  generalize hq : defE ts = q
  obtain ⟨q1, q2, q3⟩ := q
  simp only
  have hr := fun W h => rdefs_any ts A c W HS.out h
  unfold DefPost at hr
  simp only [hq] at hr
  have HR := Lib.hid hr
  clear hr hq
  go_wp2_with fail
  clear cS_0
  ((with_reducible refine (HR.out _ (HT.out.on hw212)).mono ?_); rintro e wd222 ⟨rfl, hb223⟩)
  replace S := Lib.hid (S.out.below hb223 S.out.here)
  replace hw212 := hw212.trans (hb223.mono hw212.size)
  clear hb223
  go_wp2_with fail
  go_ret
  exact ⟨rfl, hw212⟩

namespace fr_ValueDefaults
set_option maxRecDepth 100000 in
theorem lifted (os : Os) (started : os.Started) (H : Type) (enc : TypeId × Value → H) :
    ReturnsInHanded {} Try.checked os 5 .any (Rows.valueDefaultsSpec.pre6 enc Try.prog Try.f5 Rows.valueDefaultsRow.domain false) (Rows.valueDefaultsSpec.post enc Try.prog Try.f5 false true false false) := by
  refine returnsInHanded_of_change_sized (C := Try.checked) own_knob started (by kernel_rfl) Try.func5
    (ChangeSpec.witness6 (enc := enc) (C := Try.checked) false ⟨#[], #[.agg #[.slice none 0 0]], []⟩ 8 (by kernel_rfl) (by kernel_rfl) (by kernel_rfl) (by kernel_rfl)) ?_
  intro W base args ds gs before hval0 hW hcnd hsz0 _
  have hsz : (DataW.weightsEach Try.prog (Try.f5.params.toList ++ Rows.valueDefaultsSpec.plain.varTypes Try.prog) (ds ++ gs)).all (· ≤ reachBytes) = true := hsz0
  have hval : ∀ (j : Nat) t v, Try.f5.params[j]? = some t → args[j]? = some v → Value.okWide Try.prog W .any base t v := hval0
  have hW' := hW
  have hlt : ∀ p ∈ before, p.block < W.heap.size := fun p hp => hW.lt p hp
  obtain ⟨p, q, hA0, hV, rfl, hfz, hnd⟩ := hW
  have hA : DataW.TrodAll enc Try.prog W 0 (fun _ => true) true Try.f5.params.toList args.toList ds p := hA0
  have hA2 := hA
  rw [Try.params5] at hA hval hsz
  obtain ⟨v0, vs0, d0, ds0, p0, q0, hargs, rfl, hpq, h0, r0⟩ := trodAll_cons hA
  obtain ⟨rfl, rfl, rfl⟩ := trodAll_nil r0
  obtain rfl : args = #[v0] := by cases args; simp_all
  obtain ⟨rfl, rfl⟩ := trodVars_none hV
  obtain ⟨a0, A0, c0, rfl, z0, u0⟩ := open_schema (hval 0 30 v0 rfl rfl) h0 (sz_of_each hsz (j := 0) rfl (by simp))
  clear hA0 hval0
  refine (walk_ValueDefaults a0 A0 c0 z0 W u0).mono fun e W' ⟨he, bel⟩ => ?_
  subst he
  exact ⟨_, rfl, _, _, _, [], _, [], hW', trodAll_mk1 (shut_bool Try.underlying4 _), trodAll_below laid_out bel _ _ _ _ (by kernel_rfl) hA2 (fun x hx => hlt x (by simpa using hx)), rfl, bel.frame _, fun h => by cases h⟩
theorem proved : Rows.ValueDefaultsSaid :=
  OpenClaim.holds_of_wide 5 Try.f5 rfl rfl rfl rfl rfl rfl rfl ⟨rfl, rfl, rfl, rfl, rfl⟩ rfl rfl rfl rfl rfl (by kernel_rfl) Try.func5 (by kernel_rfl)
    (of_decide_eq_true (by kernel_rfl)) (by unfold Func.isWrapper; first | (rw [if_pos (by decide +kernel)]; kernel_rfl) | (rw [if_neg (by decide +kernel)]; exact ⟨rfl, rfl⟩))
    (fun os started H enc _ => lifted os started H enc)
#print axioms proved
end fr_ValueDefaults
end Go.Proofs.Ytjajgclchapllaa

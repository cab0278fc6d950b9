/- The statement FingerprintWrap: Wrap puts a fingerprint and a message together, and Unwrap takes any envelope apart, or they return the specified errors. No condition. -/
import Derived.Test.YtlamhkffnlgofaaGreatDoorHAR
set_option maxHeartbeats 800000
namespace Go.Proofs.YtlamhkffnlgofaaGreatDoor
open Go.ChangeMaps (open_string shut_string)
open Go.ChangeShapes Go.WideShapes Go.ChangeAt Go.RowKit
set_option maxRecDepth 100000 in
theorem walk_FingerprintWrap (f : Nat) (hf : U64 f) (m : List UInt8) (hm : m.length ≤ 140737488351232) (w : World) (hp : PowIs w) :
  Calls Tryz.prog 9 #[.int .u64 f, .string ⟨m.toArray⟩] w fun e w' => e = .returned (.bool true) ∧ Below w.heap.size w w' := by
 have HP := Lib.hid hp
 have H1 := Lib.hid (fun W => wrap_any f hf m (by omega) W)
 have H2 := Lib.hid (fun W => rwrap_any f hf m (by omega) W)
 have H3 := Lib.hid (fun W => unwrap_any m (by omega) W)
 have H4 := Lib.hid (fun W => runwrap_any m (by omega) W)
 clear hp
 go_enter Tryz.func9, Tryz.ntmps9
 go_wp2_with fail
 ((with_reducible refine (awake_any _ HP.out).mono ?_); rintro e wd1 ⟨rfl, hb2⟩)
 have hw3 := hb2
 clear hb2
 by_cases h5 : 5000 < m.length
 ·
  have h5i : (5000 : Int) < m.length := by omega
  go_wp2_with fail
  ((with_reducible refine (awake_any _ (HP.out.on hw3)).mono ?_); rintro e wd4 ⟨rfl, hb5⟩)
  replace hw3 := dT hw3 hb5
  clear hb5
  go_wp2_with fail
  go_ret
  exact ⟨rfl, hw3⟩
 have h5i : ¬ (5000 : Int) < m.length := by omega
 have hw : wrapE f m = if 4096 < m.length then ([], 3) else (beF 8 f ++ m, 0) := rfl
 obtain ⟨a, en, hae⟩ : ∃ a en, wrapE f m = (a, en) := ⟨_, _, rfl⟩
 obtain ⟨n, x, hn, hnx⟩ : ∃ n x hn, unwrapE m = (n, x, hn) := ⟨_, _, _, rfl⟩
 rw [hae] at hw H1 H2
 rw [hnx] at H3 H4
 clear hae hnx
 go_wp2_with fail
 ((with_reducible refine (H1.out _).mono ?_); rintro e wd4 ⟨rfl, hb5⟩)
 replace hw3 := dT hw3 hb5
 clear hb5
 go_wp2_with fail
 ((with_reducible refine (H2.out _).mono ?_); rintro e wd6 ⟨rfl, hb7⟩)
 replace hw3 := dT hw3 hb7
 clear hb7
 go_wp2_with fail
 ((with_reducible refine (H3.out _).mono ?_); rintro e wd8 ⟨rfl, hb9⟩)
 replace hw3 := dT hw3 hb9
 clear hb9
 go_wp2_with fail
 ((with_reducible refine (H4.out _).mono ?_); rintro e wd10 ⟨rfl, hb11⟩)
 replace hw3 := dT hw3 hb11
 clear hb11
 by_cases hlt : 4096 < m.length
 ·
  rw [if_pos hlt] at hw
  obtain ⟨rfl, rfl⟩ := Prod.mk.inj hw
  clear hw H1 H2 H3 H4
  go_wp2_with fail
  go_ret
  exact ⟨rfl, hw3⟩
 rw [if_neg hlt] at hw
 obtain ⟨rfl, rfl⟩ := Prod.mk.inj hw
 have hu := unwrap_wrap hf (m := m) (by omega)
 have hul : (beF 8 f ++ m).length ≤ 9223372036854775000 := by rw [List.length_append, beF_len]; omega
 have H5 := Lib.hid (fun W => unwrap_any (beF 8 f ++ m) hul W)
 rw [hu] at H5
 generalize beF 8 f ++ m = u at *
 clear hw hu hul H1 H2 H3 H4
 go_wp2_with fail
 ((with_reducible refine (H5.out _).mono ?_); rintro e wd12 ⟨rfl, hb13⟩)
 replace hw3 := dT hw3 hb13
 clear hb13
 go_wp2_with fail
 go_ret
 exact ⟨rfl, hw3⟩

namespace fr_FingerprintWrap
set_option maxRecDepth 100000 in
theorem lifted (os : Os) (started : os.Started) (H : Type) (enc : TypeId × Value → H) :
    ReturnsInHanded {} Tryz.checked os 9 .any (fun w args => (Rows.fingerprintWrapSpec.pre enc Tryz.prog Tryz.f9 [] false w args ∧ laidMetH Tryz.prog laid4 w) ∧ sizedMet enc Tryz.prog Tryz.f9 (OpenSpec.ofChange Rows.fingerprintWrapSpec) false w args) (Rows.fingerprintWrapSpec.post enc Tryz.prog Tryz.f9 false true false false) := by
  refine returnsInHanded_of_change_and (C := Tryz.checked) (X := fun w _ => laidMetH Tryz.prog laid4 w) (fun _ _ _ hh h => h.of_heap hh) own_knob started (by kernel_rfl) Tryz.func9
    (ChangeSpec.witness_shaped (enc := enc) (C := Tryz.checked) (os := os) (X := fun w _ => laidMetH Tryz.prog laid4 w) false (World.doorLaid Tryz.prog 400 os) #[.int .u64 0, .string ByteArray.empty] 8 rfl (World.shaped_of_RefB (by kernel_rfl) (by kernel_rfl)) (by kernel_rfl) (by kernel_rfl) (by kernel_rfl) (door_met os _)) ?_
  intro W base args ds gs before hval0 hW hcnd hsz0 hLd _
  have hsz : (DataW.weightsEach Tryz.prog (Tryz.f9.params.toList ++ Rows.fingerprintWrapSpec.plain.varTypes Tryz.prog) (ds ++ gs)).all (· ≤ reachBytes) = true := hsz0
  have hval : ∀ (j : Nat) t v, Tryz.f9.params[j]? = some t → args[j]? = some v → Value.okWide Tryz.prog W .any base t v := hval0
  have hW' := hW
  have hlt : ∀ p ∈ before, p.block < W.heap.size := fun p hp => hW.lt p hp
  obtain ⟨p, q, hA0, hV, rfl, hfz, hnd⟩ := hW
  have hA : DataW.TrodAll enc Tryz.prog W 0 (fun _ => true) true Tryz.f9.params.toList args.toList ds p := hA0
  have hA2 := hA
  rw [Tryz.params9] at hA hval hsz
  obtain ⟨v0, vs0, d0, ds0, p0, q0, hargs, rfl, hpq, h0, r0⟩ := trodAll_cons hA
  obtain ⟨v1, vs1, d1, ds1, p1, q1, rfl, rfl, rfl, h1, r1⟩ := trodAll_cons r0
  obtain ⟨rfl, rfl, rfl⟩ := trodAll_nil r1
  obtain rfl : args = #[v0, v1] := by cases args; simp_all
  obtain ⟨rfl, rfl⟩ := trodVars_none hV
  obtain ⟨x0, rfl, rfl, rfl, w0⟩ := open_int Tryz.underlying36 (hval 0 36 v0 rfl rfl) h0
  obtain ⟨a0, rfl, u0⟩ := wf_u64 w0
  obtain ⟨x1, rfl, rfl, rfl, w1⟩ := open_string Tryz.underlying9 (hval 1 9 v1 rfl rfl) h1
  obtain ⟨a1, rfl, u1⟩ := str_list x1
  have s1 : a1.length ≤ 140737488351232 := by
    have h := sized_string hsz (j := 1) (t := 9) (bytes := a1) rfl (by simp)
    simpa [reachBytes] using h
  clear hA0 hval0
  refine (walk_FingerprintWrap a0 u0 a1 s1 W (tabs_of hLd)).mono fun e W' ⟨he, bel⟩ => ?_
  subst he
  exact ⟨_, rfl, _, _, _, [], _, [], hW', trodAll_mk1 (shut_bool Tryz.underlying4 _), trodAll_below laid_out bel _ _ _ _ (by kernel_rfl) hA2 (fun x hx => hlt x (by simpa using hx)), rfl, bel.frame _, fun h => by cases h⟩
theorem proved : Rows.FingerprintWrapSaid :=
  OpenClaim.holds_of_wide 9 Tryz.f9 rfl rfl rfl rfl rfl rfl rfl ⟨rfl, rfl, rfl, rfl, rfl⟩ rfl rfl rfl rfl rfl (by kernel_rfl) Tryz.func9 (by kernel_rfl)
    (of_decide_eq_true (by kernel_rfl)) (by unfold Func.isWrapper; first | (rw [if_pos (by decide +kernel)]; kernel_rfl) | (rw [if_neg (by decide +kernel)]; exact ⟨rfl, rfl⟩))
    (fun os started H enc _ => lifted os started H enc)
#print axioms proved
theorem card : Rows.FingerprintWrapCardSaid :=
  Claim7.holds_tied_plain_at .later [] [.data, .data, .data] true _ false proved (fun _ h => by cases h) (by kernel_rfl) (fun _ h => by cases h) fingerprintWrap_row_tie rfl ⟨rfl, rfl⟩ (by kernel_rfl) rfl
    (fun f fn hf hfn => by
      obtain rfl : f = 9 := Option.some.inj ((show Tryz.prog.funcNamed "sheave/sheavelaw19.FingerprintWrap" = some 9 by kernel_rfl).symm.trans hf) |>.symm
      obtain rfl : fn = Tryz.f9 := (Option.some.inj (Tryz.func9.symm.trans hfn)).symm
      exact ⟨by kernel_rfl, fun j t ht => by
        rw [Tryz.params9] at ht
        have hm : t ∈ [36, 9] := by simpa using Array.mem_of_getElem? ht
        have hall : ([36, 9].all fun u => !Tryz.prog.wantsStandIn u) = true := by kernel_rfl
        exact (show Tryz.prog.wantsStandIn t = false by simpa using List.all_eq_true.1 hall t hm)⟩)
    (by kernel_rfl)
#print axioms card
end fr_FingerprintWrap
end Go.Proofs.YtlamhkffnlgofaaGreatDoor

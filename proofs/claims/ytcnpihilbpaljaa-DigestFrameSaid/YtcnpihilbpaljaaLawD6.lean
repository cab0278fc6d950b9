/- The law DigestFrame holds for every input. No condition. -/
import Derived.Test.YtcnpihilbpaljaaDigAwake
import Derived.Test.YtcnpihilbpaljaaTornPlain
import Derived.Test.YtcnpihilbpaljaaShelf
namespace Go.Proofs.Ytcnpihilbpaljaa
open Go.ChangeShapes Go.WideShapes Go.ChangeAt Go.RowKit
open Go.ChangeMaps (open_string shut_string)

theorem wf_u16 {a : Int} (h : (Lit.int .u16 a).wf = true) : ∃ n : Nat, a = (n : Int) ∧ n < 65536 := by
  simp [Lit.wf, IntKind.min, IntKind.max, IntKind.bits, IntKind.signed] at h
  exact ⟨a.toNat, by omega, by omega⟩

theorem repeat_any (l : List UInt8) (c : Nat) (w : World) (hc : c < 65536) (hlen : l.length * c ≤ 140737488355328) :
    Calls Try.prog 28 #[.string ⟨l.toArray⟩, .int .i64 c] w fun e w' => e = .returned (.string ⟨(Lib.repeatL l c).toArray⟩) ∧ Below w.heap.size w w' :=
  Try.strings_Repeat ⟨l.toArray⟩ c w (by omega) (by simpa [ByteArray.size] using hlen)

set_option maxRecDepth 100000 in
set_option maxHeartbeats 400000 in
theorem walk_DigestFrame (l : List UInt8) (hl : l.length ≤ maxLen) (t : Nat) (ht : t < 65536) (r : List UInt8) (hr : r.length ≤ maxLen) (w : World) :
    Calls Try.prog 10 #[.string ⟨l.toArray⟩, .int .u16 t, .string ⟨r.toArray⟩] w fun e w' => e = .returned (.bool true) ∧ Below w.heap.size w w' := by
  have hm : l.length ≤ 9223372036854775807 := hl
  have hmr : r.length ≤ 9223372036854775807 := hr
  clear hl hr
  have hsame : ∀ (w : World), (300 < (l.length : Int) ∨ 300 < (r.length : Int) ∨ (l.length ≤ 300 ∧ 70000 < (l.length : Int) * t)) → Calls Try.prog 10 #[.string ⟨l.toArray⟩, .int .u16 t, .string ⟨r.toArray⟩] w fun e w' => e = .returned (.bool true) ∧ Below w.heap.size w w' := by
    intro w hbig
    by_cases h300 : 300 < (l.length : Int)
    · clear hbig
      go_enter Try.func10, Try.ntmps10
      go_wp2_with fail
      refine (awake_any w).mono ?_
      rintro e w1 ⟨rfl, hb1⟩
      go_wp2_with fail
      refine (awake_any w1).mono ?_
      rintro e w2 ⟨rfl, hb2⟩
      go_wp2_with fail
      go_ret
      exact ⟨rfl, hb1.trans (hb2.mono hb1.size)⟩
    · by_cases hr300 : 300 < (r.length : Int)
      · clear hbig
        go_enter Try.func10, Try.ntmps10
        go_wp2_with fail
        refine (awake_any w).mono ?_
        rintro e w1 ⟨rfl, hb1⟩
        go_wp2_with fail
        refine (awake_any w1).mono ?_
        rintro e w2 ⟨rfl, hb2⟩
        go_wp2_with fail
        go_ret
        exact ⟨rfl, hb1.trans (hb2.mono hb1.size)⟩
      · have hp := (hbig.resolve_left h300).resolve_left hr300
        have hle : l.length * t ≤ 300 * 65536 := Nat.mul_le_mul hp.1 (Nat.le_of_lt ht)
        have hp2 := hp.2
        clear hbig hp
        obtain ⟨p, hpe⟩ : ∃ p : Nat, l.length * t = p := ⟨_, rfl⟩
        have hpi : (l.length : Int) * (t : Int) = (p : Int) := by rw [← hpe]; simp
        rw [hpi] at hp2
        rw [hpe] at hle
        clear hpe
        go_enter Try.func10, Try.ntmps10
        go_wp2_with fail
        refine (awake_any w).mono ?_
        rintro e w1 ⟨rfl, hb1⟩
        go_wp2_with fail
        refine (awake_any w1).mono ?_
        rintro e w2 ⟨rfl, hb2⟩
        go_wp2_with fail
        go_ret
        exact ⟨rfl, hb1.trans (hb2.mono hb1.size)⟩
  by_cases hbig : 300 < (l.length : Int) ∨ 300 < (r.length : Int) ∨ (l.length ≤ 300 ∧ 70000 < (l.length : Int) * t)
  · exact hsame w hbig
  · clear hsame hm hmr
    obtain ⟨p, hpe⟩ : ∃ p : Nat, l.length * t = p := ⟨_, rfl⟩
    have hpi : (l.length : Int) * (t : Int) = (p : Int) := by rw [← hpe]; simp
    rw [hpi] at hbig
    have h1 : (l.length : Int) ≤ 300 := by omega
    have h2 : (r.length : Int) ≤ 300 := by omega
    have h3 : (p : Int) ≤ 70000 := by omega
    clear hbig
    have hrep := Lib.hid (fun W => repeat_any l t W ht (by omega))
    have hRl : (Lib.repeatL l t).length ≤ 70000 := by rw [Lib.repeatL_length, Nat.mul_comm]; omega
    clear hpe
    generalize Lib.repeatL l t = R at *
    have hd := Lib.hid (fun W => dframe_any R (by omega) W)
    have hrf := Lib.hid (fun W => rframe_any R (by omega) W)
    by_cases h65 : 65535 < R.length
    · have hfe : frame R = ([], 3) := by rw [frame, if_pos h65]
      rw [hfe] at hd hrf
      clear hfe h65
      go_enter Try.func10, Try.ntmps10
      go_wp2_with fail
      refine (awake_any w).mono ?_
      rintro e w1 ⟨rfl, hb1⟩
      go_wp2_with fail
      refine (hrep.out w1).mono ?_
      rintro e w2 ⟨rfl, hb2⟩
      have hb12 := hb1.trans (hb2.mono hb1.size)
      clear hb1 hb2
      go_wp2_with fail
      refine (hd.out w2).mono ?_
      rintro e w3 ⟨rfl, hb3⟩
      have hb13 := hb12.trans (hb3.mono hb12.size)
      clear hb12 hb3
      go_wp2_with fail
      refine (hrf.out w3).mono ?_
      rintro e w4 ⟨rfl, hb4⟩
      go_wp2_with fail
      go_ret
      exact ⟨rfl, hb13.trans (hb4.mono hb13.size)⟩
    · have hfe : (frame R).2 = 0 := by rw [frame, if_neg h65]
      have hun := unframe_frame R r (by omega)
      have hfl : (frame R).1.length ≤ 80000 := by
        have := putF_len 9 R.length
        rw [frame, if_neg h65]; simp [be4_len]; omega
      rw [hfe] at hd hrf
      generalize (frame R).1 = F at *
      have hdu := fun W => dunframe_any (F ++ r) (by rw [List.length_append]; omega) W
      rw [hun] at hdu
      have HDU := Lib.hid hdu
      have hcat : ({ data := F.toArray } : ByteArray) ++ { data := r.toArray } = { data := (F ++ r).toArray } := str_app _ _
      clear hun hdu h65 hfe
      go_enter Try.func10, Try.ntmps10
      go_wp2_with fail
      refine (awake_any w).mono ?_
      rintro e w1 ⟨rfl, hb1⟩
      go_wp2_with fail
      refine (hrep.out w1).mono ?_
      rintro e w2 ⟨rfl, hb2⟩
      have hb12 := hb1.trans (hb2.mono hb1.size)
      clear hb1 hb2
      go_wp2_with fail
      refine (hd.out w2).mono ?_
      rintro e w3 ⟨rfl, hb3⟩
      have hb13 := hb12.trans (hb3.mono hb12.size)
      clear hb12 hb3
      go_wp2_with fail
      refine (hrf.out w3).mono ?_
      rintro e w4 ⟨rfl, hb4⟩
      have hb14 := hb13.trans (hb4.mono hb13.size)
      clear hb13 hb4
      go_wp2_with fail
      refine (HDU.out w4).mono ?_
      rintro e w5 ⟨rfl, hb5⟩
      go_wp2_with fail
      go_ret
      exact ⟨ret_bool (by first | rfl | simp), hb14.trans (hb5.mono hb14.size)⟩

namespace fr_DigestFrame
set_option maxRecDepth 100000 in
theorem lifted (os : Os) (started : os.Started) (H : Type) (enc : TypeId × Value → H) :
    ReturnsInHanded {} Try.checked os 10 .any (Rows.digestFrameSpec.pre6 enc Try.prog Try.f10 Rows.digestFrameRow.domain false) (Rows.digestFrameSpec.post enc Try.prog Try.f10 false true false false) := by
  refine returnsInHanded_of_change (C := Try.checked) own_knob started (by kernel_rfl) Try.func10
    (ChangeSpec.witness6 (enc := enc) (C := Try.checked) false ⟨#[], #[.string ByteArray.empty, .int .u16 0, .string ByteArray.empty], []⟩ 8 (by kernel_rfl) (by kernel_rfl) (by kernel_rfl) (by kernel_rfl)) ?_
  intro W base args ds gs before hval0 hW hcnd _
  have hval : ∀ (j : Nat) t v, Try.f10.params[j]? = some t → args[j]? = some v → Value.okWide Try.prog W .any base t v := hval0
  have hW' := hW
  have hlt : ∀ p ∈ before, p.block < W.heap.size := fun p hp => hW.lt p hp
  obtain ⟨p, q, hA0, hV, rfl, hfz, hnd⟩ := hW
  have hA : DataW.TrodAll enc Try.prog W 0 (fun _ => true) true Try.f10.params.toList args.toList ds p := hA0
  have hA2 := hA
  rw [Try.params10] at hA hval
  obtain ⟨v0, vs0, d0, ds0, p0, q0, hargs, rfl, hpq, h0, r0⟩ := trodAll_cons hA
  obtain ⟨v1, vs1, d1, ds1, p1, q1, rfl, rfl, rfl, h1, r1⟩ := trodAll_cons r0
  obtain ⟨v2, vs2, d2, ds2, p2, q2, rfl, rfl, rfl, h2, r2⟩ := trodAll_cons r1
  obtain ⟨rfl, rfl, rfl⟩ := trodAll_nil r2
  obtain rfl : args = #[v0, v1, v2] := by cases args; simp_all
  obtain ⟨rfl, rfl⟩ := trodVars_none hV
  obtain ⟨x0, rfl, rfl, rfl, w0⟩ := open_string Try.underlying9 (hval 0 9 v0 rfl rfl) h0
  obtain ⟨a0, rfl, u0⟩ := str_list x0
  rw [u0] at w0
  obtain ⟨x1, rfl, rfl, rfl, w1⟩ := open_int Try.underlying28 (hval 1 28 v1 rfl rfl) h1
  obtain ⟨a1, rfl, u1⟩ := wf_u16 w1
  obtain ⟨x2, rfl, rfl, rfl, w2⟩ := open_string Try.underlying9 (hval 2 9 v2 rfl rfl) h2
  obtain ⟨a2, rfl, u2⟩ := str_list x2
  rw [u2] at w2
  clear hA0 hval0
  refine (walk_DigestFrame a0 w0 a1 u1 a2 w2 W).mono fun e W' ⟨he, bel⟩ => ?_
  subst he
  exact ⟨_, rfl, _, _, _, [], _, [], hW', trodAll_mk1 (shut_bool Try.underlying4 _), trodAll_below laid_out bel _ _ _ _ (by kernel_rfl) hA2 (fun x hx => hlt x (by simpa using hx)), rfl, bel.frame _, fun h => by cases h⟩
theorem proved : Rows.DigestFrameSaid :=
  OpenClaim.holds_of_wide 10 Try.f10 rfl rfl rfl rfl rfl rfl rfl ⟨rfl, rfl, rfl, rfl, rfl⟩ rfl rfl rfl rfl rfl (by kernel_rfl) Try.func10 (by kernel_rfl)
    (of_decide_eq_true (by kernel_rfl)) (by unfold Func.isWrapper; first | (rw [if_pos (by decide +kernel)]; kernel_rfl) | (rw [if_neg (by decide +kernel)]; exact ⟨rfl, rfl⟩))
    (fun os started H enc _ => lifted os started H enc)
#print axioms proved
end fr_DigestFrame

end Go.Proofs.Ytcnpihilbpaljaa

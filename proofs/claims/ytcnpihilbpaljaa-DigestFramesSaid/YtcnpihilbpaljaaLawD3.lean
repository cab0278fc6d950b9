/- The law DigestFrames holds for every input. No condition. -/
import Derived.Test.YtcnpihilbpaljaaDigAwake
namespace Go.Proofs.Ytcnpihilbpaljaa
open Go.ChangeShapes Go.WideShapes Go.ChangeAt Go.RowKit
open Go.ChangeMaps (open_string shut_string)

theorem framesF_len : ∀ (f : Nat) (l : List UInt8) (p : Nat) (acc : List (List UInt8)), (framesF f l p acc).1.length ≤ acc.length + f := by
  intro f
  induction f with
  | zero => intro l p acc; simp [framesF]
  | succ f ih =>
    intro l p acc
    rw [framesF]
    split
    · show acc.length ≤ _; omega
    split
    · have := ih l (p + (unframe (l.drop p)).2.1) (acc ++ [(unframe (l.drop p)).1])
      simp only [List.length_append, List.length_singleton] at this
      omega
    · show acc.length ≤ _; omega
theorem frames_len (l : List UInt8) : (frames l).1.length ≤ l.length + 1 := by
  have := framesF_len (l.length + 1) l 0 []
  simp only [List.length_nil, Nat.zero_add] at this
  exact this

set_option maxRecDepth 100000 in
set_option maxHeartbeats 400000 in
theorem walk_DigestFrames (l : List UInt8) (hl : l.length ≤ maxLen) (w : World) :
    Calls Try.prog 7 #[.string ⟨l.toArray⟩] w fun e w' => e = .returned (.bool true) ∧ Below w.heap.size w w' := by
  have hm : l.length ≤ 9223372036854775807 := hl
  by_cases h600 : 600 < (l.length : Int)
  · clear hl
    go_enter Try.func7, Try.ntmps7
    go_wp2_with fail
    refine (awake_any w).mono ?_
    rintro e w1 ⟨rfl, hb1⟩
    go_wp2_with fail
    refine (awake_any w1).mono ?_
    rintro e w2 ⟨rfl, hb2⟩
    go_wp2_with fail
    go_ret
    exact ⟨rfl, hb1.trans (hb2.mono hb1.size)⟩
  · clear hm hl
    have hlen : l.length ≤ 1000000 := by omega
    have h1 := Lib.hid (fun W => dunframe_any l hlen W)
    have h2 := Lib.hid (fun W => runframe_any l hlen W)
    have h3 := Lib.hid (fun W => dframes_any l hlen W)
    have h4 := Lib.hid (fun W => rframes_any l hlen W)
    have hfl := frames_len l
    generalize unframe l = u at *
    generalize frames l = x at *
    obtain ⟨c, n, e⟩ := u
    obtain ⟨xs, i, g⟩ := x
    simp only at h1 h2 h3 h4 hfl
    have h5 := (fun va vb W hx hy => same_any xs xs va vb W (by omega) (by omega) hx hy)
    simp only [decide_true] at h5
    have h5 := Lib.hid h5
    clear hfl
    go_enter Try.func7, Try.ntmps7
    go_wp2_with fail
    refine (awake_any w).mono ?_
    rintro e w1 ⟨rfl, hb1⟩
    go_wp2_with fail
    refine (h1.out w1).mono ?_
    rintro e w2 ⟨rfl, hb2⟩
    have hb12 := hb1.trans (hb2.mono hb1.size)
    clear hb1 hb2
    go_wp2_with fail
    refine (h2.out w2).mono ?_
    rintro e w3 ⟨rfl, hb3⟩
    have hb13 := hb12.trans (hb3.mono hb12.size)
    clear hb12 hb3
    go_wp2_with fail
    refine (h3.out w3).mono ?_
    rintro e w4 ⟨v, rfl, hown, hb4⟩
    have HO := Lib.hid (Rd.of_own hown)
    clear hown
    have hb14 := hb13.trans (hb4.mono hb13.size)
    clear hb13 hb4
    go_wp2_with fail
    refine (h4.out w4).mono ?_
    rintro e w5 ⟨v2, rfl, hown2, hb5⟩
    have HO2 := Lib.hid (Rd.of_own hown2)
    clear hown2
    have hb15 := hb14.trans (hb5.mono hb14.size)
    clear hb14
    go_wp2_with fail
    refine (h5.out _ _ w5 ((HO.out.below hb5).mono hb5.size) HO2.out).mono ?_
    rintro e w6 ⟨rfl, hb6⟩
    go_wp2_with fail
    go_ret
    exact ⟨ret_bool (by first | rfl | simp), hb15.trans (hb6.mono hb15.size)⟩

namespace fr_DigestFrames
set_option maxRecDepth 100000 in
theorem lifted (os : Os) (started : os.Started) (H : Type) (enc : TypeId × Value → H) :
    ReturnsInHanded {} Try.checked os 7 .any (Rows.digestFramesSpec.pre6 enc Try.prog Try.f7 Rows.digestFramesRow.domain false) (Rows.digestFramesSpec.post enc Try.prog Try.f7 false true false false) := by
  refine returnsInHanded_of_change (C := Try.checked) own_knob started (by kernel_rfl) Try.func7
    (ChangeSpec.witness6 (enc := enc) (C := Try.checked) false ⟨#[], #[.string ByteArray.empty], []⟩ 8 (by kernel_rfl) (by kernel_rfl) (by kernel_rfl) (by kernel_rfl)) ?_
  intro W base args ds gs before hval0 hW hcnd _
  have hval : ∀ (j : Nat) t v, Try.f7.params[j]? = some t → args[j]? = some v → Value.okWide Try.prog W .any base t v := hval0
  have hW' := hW
  have hlt : ∀ p ∈ before, p.block < W.heap.size := fun p hp => hW.lt p hp
  obtain ⟨p, q, hA0, hV, rfl, hfz, hnd⟩ := hW
  have hA : DataW.TrodAll enc Try.prog W 0 (fun _ => true) true Try.f7.params.toList args.toList ds p := hA0
  have hA2 := hA
  rw [Try.params7] at hA hval
  obtain ⟨v0, vs0, d0, ds0, p0, q0, hargs, rfl, hpq, h0, r0⟩ := trodAll_cons hA
  obtain ⟨rfl, rfl, rfl⟩ := trodAll_nil r0
  obtain rfl : args = #[v0] := by cases args; simp_all
  obtain ⟨rfl, rfl⟩ := trodVars_none hV
  obtain ⟨x0, rfl, rfl, rfl, w0⟩ := open_string Try.underlying9 (hval 0 9 v0 rfl rfl) h0
  obtain ⟨a0, rfl, u0⟩ := str_list x0
  rw [u0] at w0
  clear hA0 hval0
  refine (walk_DigestFrames a0 w0 W).mono fun e W' ⟨he, bel⟩ => ?_
  subst he
  exact ⟨_, rfl, _, _, _, [], _, [], hW', trodAll_mk1 (shut_bool Try.underlying4 _), trodAll_below laid_out bel _ _ _ _ (by kernel_rfl) hA2 (fun x hx => hlt x (by simpa using hx)), rfl, bel.frame _, fun h => by cases h⟩
theorem proved : Rows.DigestFramesSaid :=
  OpenClaim.holds_of_wide 7 Try.f7 rfl rfl rfl rfl rfl rfl rfl ⟨rfl, rfl, rfl, rfl, rfl⟩ rfl rfl rfl rfl rfl (by kernel_rfl) Try.func7 (by kernel_rfl)
    (of_decide_eq_true (by kernel_rfl)) (by unfold Func.isWrapper; first | (rw [if_pos (by decide +kernel)]; kernel_rfl) | (rw [if_neg (by decide +kernel)]; exact ⟨rfl, rfl⟩))
    (fun os started H enc _ => lifted os started H enc)
#print axioms proved
end fr_DigestFrames

end Go.Proofs.Ytcnpihilbpaljaa

/- The laws VarintList and VarintString hold for every input. No condition. -/
import Derived.Test.YtapakjdghgbdlaaVarAwake
import Derived.Test.YtapakjdghgbdlaaVarPlain
import Derived.Deep.RegionWith
namespace Go.Proofs.Ytapakjdghgbdlaa
open Go.ChangeShapes Go.WideShapes Go.ChangeAt Go.RowKit
open Go.ChangeMaps (open_string shut_string)

set_option maxRecDepth 100000 in
set_option maxHeartbeats 400000 in
theorem walk_VarintList (v : Value) (ns : List Nat) (hl : ns.length ≤ maxLen) (hns : ∀ n ∈ ns, U64 n) (w : World) (hr : Rd w w.heap.size 1 v ns.length (ns.map V64)) :
    Calls Try.prog 9 #[v] w fun e w' => e = .returned (.bool true) ∧ Below w.heap.size w w' := by
  have hm : ns.length ≤ 9223372036854775807 := hl
  obtain ⟨A, c, rfl, hc⟩ := hr.form
  by_cases h50 : 50 < (ns.length : Int)
  · clear hl hns
    go_enter Try.func9, Try.ntmps9
    go_wp2_with fail
    refine (awake_any w).mono ?_
    rintro e w1 ⟨rfl, hb1⟩
    go_wp2_with fail
    refine (awake_any w1).mono ?_
    rintro e w2 ⟨rfl, hb2⟩
    go_wp2_with fail
    go_ret
    exact ⟨rfl, hb1.trans (hb2.mono hb1.size)⟩
  · clear hm hl
    have hlen : ns.length ≤ 1000 := by omega
    have hpl := putAll_len ns
    have hp := fun W h => putall_any ns hns hlen (.slice A ns.length c) W h
    have hrp := fun W h => rputall_any ns hns hlen (.slice A ns.length c) W h
    have hg := fun W => getall_any (putAll ns) (by omega) W
    simp only [getAll_put ns hns] at hg
    have hs := fun va vb W h1 h2 => same_any ns ns va vb W (by omega) (by omega) h1 h2
    simp only [decide_true] at hs
    generalize putAll ns = q at *
    have HP := Lib.hid hp
    have HRP := Lib.hid hrp
    have HG := Lib.hid hg
    have HS := Lib.hid hs
    have HR := Lib.hid hr
    clear hp hrp hg hs hns hr hpl
    go_enter Try.func9, Try.ntmps9
    go_wp2_with fail
    refine (awake_any w).mono ?_
    rintro e w1 ⟨rfl, hb1⟩
    go_wp2_with fail
    refine (HP.out w1 ((HR.out.below hb1).mono hb1.size)).mono ?_
    rintro e w2 ⟨rfl, hb2⟩
    have hb12 := hb1.trans (hb2.mono hb1.size)
    go_wp2_with fail
    refine (HG.out w2).mono ?_
    rintro e w3 ⟨v, rfl, hown, hb3⟩
    have hb13 := hb12.trans (hb3.mono hb12.size)
    have HO := Lib.hid (Rd.of_own hown)
    clear hown
    go_wp2_with fail
    refine (HRP.out w3 ((HR.out.below hb13).mono hb13.size)).mono ?_
    rintro e w4 ⟨rfl, hb4⟩
    have hb14 := hb13.trans (hb4.mono hb13.size)
    go_wp2_with fail
    refine (HS.out _ _ w4 ((HO.out.below hb4).mono hb4.size) ((HR.out.below hb14).mono hb14.size)).mono ?_
    rintro e w5 ⟨rfl, hb5⟩
    go_wp2_with fail
    go_ret
    exact ⟨ret_bool (by first | rfl | simp), hb14.trans (hb5.mono hb14.size)⟩

set_option maxRecDepth 100000 in
set_option maxHeartbeats 400000 in
theorem walk_VarintString (l : List UInt8) (hl : l.length ≤ maxLen) (w : World) :
    Calls Try.prog 10 #[.string ⟨l.toArray⟩] w fun e w' => e = .returned (.bool true) ∧ Below w.heap.size w w' := by
  have hm : l.length ≤ 9223372036854775807 := hl
  by_cases h100 : 100 < (l.length : Int)
  · clear hl
    go_enter Try.func10, Try.ntmps10
    go_wp2_with fail
    refine (awake_any w).mono ?_
    rintro e w1 ⟨rfl, hb1⟩
    go_wp2_with fail
    refine (awake_any w1).mono ?_
    rintro e w2 ⟨rfl, hb2⟩
    go_wp2_with fail
    go_ret
    exact ⟨rfl, hb1.trans (hb2.mono hb1.size)⟩
  · clear hm hl
    have hlen : l.length ≤ 1000 := by omega
    have hg := fun W => getall_any l hlen W
    have hrg := fun W => rgetall_any l hlen W
    have hok := getAll_ok l
    have hgl := getAll_len l
    generalize getAll l = g at *
    obtain ⟨ns, e⟩ := g
    simp only at hg hrg hok hgl
    have hs := fun va vb W h1 h2 => same_any ns ns va vb W (by omega) (by omega) h1 h2
    simp only [decide_true] at hs
    have HG := Lib.hid hg
    have HRG := Lib.hid hrg
    have HS := Lib.hid hs
    clear hg hrg hs
    by_cases he : e = 0
    · obtain ⟨h1, h2⟩ := hok he
      have hp := fun W v h => putall_any ns h2 (by omega) v W h
      rw [h1] at hp
      have HP := Lib.hid hp
      subst he
      clear hok h1 h2 hp
      go_enter Try.func10, Try.ntmps10
      go_wp2_with fail
      refine (awake_any w).mono ?_
      rintro e w1 ⟨rfl, hb1⟩
      go_wp2_with fail
      refine (HG.out w1).mono ?_
      rintro e w2 ⟨v, rfl, hown, hb2⟩
      have HO := Lib.hid (Rd.of_own hown)
      clear hown
      have hb12 := hb1.trans (hb2.mono hb1.size)
      go_wp2_with fail
      refine (HRG.out w2).mono ?_
      rintro e w3 ⟨v2, rfl, hown2, hb3⟩
      have HO2 := Lib.hid (Rd.of_own hown2)
      clear hown2
      have hb13 := hb12.trans (hb3.mono hb12.size)
      go_wp2_with fail
      refine (HS.out _ _ w3 ((HO.out.below hb3).mono hb3.size) HO2.out).mono ?_
      rintro e w4 ⟨rfl, hb4⟩
      have hb14 := hb13.trans (hb4.mono hb13.size)
      have hb24 := hb3.trans (hb4.mono hb3.size)
      go_wp2_with fail
      refine (HP.out w4 _ ((HO.out.below hb24).mono hb24.size)).mono ?_
      rintro e w5 ⟨rfl, hb5⟩
      go_wp2_with fail
      go_ret
      exact ⟨ret_bool (by first | rfl | simp), hb14.trans (hb5.mono hb14.size)⟩
    · have he2 : ((e : Int) != 0) = true := by rw [bne_iff_ne]; omega
      clear hok he
      go_enter Try.func10, Try.ntmps10
      go_wp2_with fail
      refine (awake_any w).mono ?_
      rintro e w1 ⟨rfl, hb1⟩
      go_wp2_with fail
      refine (HG.out w1).mono ?_
      rintro e w2 ⟨v, rfl, hown, hb2⟩
      have HO := Lib.hid (Rd.of_own hown)
      clear hown
      have hb12 := hb1.trans (hb2.mono hb1.size)
      go_wp2_with fail
      refine (HRG.out w2).mono ?_
      rintro e w3 ⟨v2, rfl, hown2, hb3⟩
      have HO2 := Lib.hid (Rd.of_own hown2)
      clear hown2
      have hb13 := hb12.trans (hb3.mono hb12.size)
      go_wp2_with fail
      refine (HS.out _ _ w3 ((HO.out.below hb3).mono hb3.size) HO2.out).mono ?_
      rintro e w4 ⟨rfl, hb4⟩
      have hb14 := hb13.trans (hb4.mono hb13.size)
      go_wp2_with fail
      go_ret
      exact ⟨ret_bool (by first | rfl | simp), hb14⟩

namespace fr_VarintList
set_option maxRecDepth 100000 in
theorem lifted (os : Os) (started : os.Started) (H : Type) (enc : TypeId × Value → H) :
    ReturnsInHanded {} Try.checked os 9 .any (Rows.varintListSpec.pre6 enc Try.prog Try.f9 Rows.varintListRow.domain false) (Rows.varintListSpec.post enc Try.prog Try.f9 false true false false) := by
  refine returnsInHanded_of_change (C := Try.checked) own_knob started (by kernel_rfl) Try.func9
    (ChangeSpec.witness6 (enc := enc) (C := Try.checked) false ⟨#[], #[.slice none 0 0], []⟩ 8 (by kernel_rfl) (by kernel_rfl) (by kernel_rfl) (by kernel_rfl)) ?_
  intro W base args ds gs before hval0 hW hcnd _
  have hval : ∀ (j : Nat) t v, Try.f9.params[j]? = some t → args[j]? = some v → Value.okWide Try.prog W .any base t v := hval0
  have hW' := hW
  have hlt : ∀ p ∈ before, p.block < W.heap.size := fun p hp => hW.lt p hp
  obtain ⟨p, q, hA0, hV, rfl, hfz, hnd⟩ := hW
  have hA : DataW.TrodAll enc Try.prog W 0 (fun _ => true) true Try.f9.params.toList args.toList ds p := hA0
  have hA2 := hA
  rw [Try.params9] at hA hval
  obtain ⟨v0, vs0, d0, ds0, p0, q0, hargs, rfl, hpq, h0, r0⟩ := trodAll_cons hA
  obtain ⟨rfl, rfl, rfl⟩ := trodAll_nil r0
  obtain rfl : args = #[v0] := by cases args; simp_all
  obtain ⟨rfl, rfl⟩ := trodVars_none hV
  obtain ⟨a0, m0, u0, w0⟩ := open_slice_u64 (hval 0 38 v0 rfl rfl) h0
  clear hA0 hval0
  refine (walk_VarintList v0 a0 m0 u0 W w0).mono fun e W' ⟨he, bel⟩ => ?_
  subst he
  exact ⟨_, rfl, _, _, _, [], _, [], hW', trodAll_mk1 (shut_bool Try.underlying4 _), trodAll_below laid_out bel _ _ _ _ (by kernel_rfl) hA2 (fun x hx => hlt x (by simpa using hx)), rfl, bel.frame _, fun h => by cases h⟩
theorem proved : Rows.VarintListSaid :=
  OpenClaim.holds_of_wide 9 Try.f9 rfl rfl rfl rfl rfl rfl rfl ⟨rfl, rfl, rfl, rfl, rfl⟩ rfl rfl rfl rfl rfl (by kernel_rfl) Try.func9 (by kernel_rfl)
    (of_decide_eq_true (by kernel_rfl)) (by unfold Func.isWrapper; first | (rw [if_pos (by decide +kernel)]; kernel_rfl) | (rw [if_neg (by decide +kernel)]; exact ⟨rfl, rfl⟩))
    (fun os started H enc _ => lifted os started H enc)
#print axioms proved
end fr_VarintList


namespace fr_VarintString
set_option maxRecDepth 100000 in
theorem lifted (os : Os) (started : os.Started) (H : Type) (enc : TypeId × Value → H) :
    ReturnsInHanded {} Try.checked os 10 .any (Rows.varintStringSpec.pre6 enc Try.prog Try.f10 Rows.varintStringRow.domain false) (Rows.varintStringSpec.post enc Try.prog Try.f10 false true false false) := by
  refine returnsInHanded_of_change (C := Try.checked) own_knob started (by kernel_rfl) Try.func10
    (ChangeSpec.witness6 (enc := enc) (C := Try.checked) false ⟨#[], #[.string ByteArray.empty], []⟩ 8 (by kernel_rfl) (by kernel_rfl) (by kernel_rfl) (by kernel_rfl)) ?_
  intro W base args ds gs before hval0 hW hcnd _
  have hval : ∀ (j : Nat) t v, Try.f10.params[j]? = some t → args[j]? = some v → Value.okWide Try.prog W .any base t v := hval0
  have hW' := hW
  have hlt : ∀ p ∈ before, p.block < W.heap.size := fun p hp => hW.lt p hp
  obtain ⟨p, q, hA0, hV, rfl, hfz, hnd⟩ := hW
  have hA : DataW.TrodAll enc Try.prog W 0 (fun _ => true) true Try.f10.params.toList args.toList ds p := hA0
  have hA2 := hA
  rw [Try.params10] at hA hval
  obtain ⟨v0, vs0, d0, ds0, p0, q0, hargs, rfl, hpq, h0, r0⟩ := trodAll_cons hA
  obtain ⟨rfl, rfl, rfl⟩ := trodAll_nil r0
  obtain rfl : args = #[v0] := by cases args; simp_all
  obtain ⟨rfl, rfl⟩ := trodVars_none hV
  obtain ⟨x0, rfl, rfl, rfl, w0⟩ := open_string Try.underlying9 (hval 0 9 v0 rfl rfl) h0
  obtain ⟨a0, rfl, u0⟩ := str_list x0
  rw [u0] at w0
  clear hA0 hval0
  refine (walk_VarintString a0 w0 W).mono fun e W' ⟨he, bel⟩ => ?_
  subst he
  exact ⟨_, rfl, _, _, _, [], _, [], hW', trodAll_mk1 (shut_bool Try.underlying4 _), trodAll_below laid_out bel _ _ _ _ (by kernel_rfl) hA2 (fun x hx => hlt x (by simpa using hx)), rfl, bel.frame _, fun h => by cases h⟩
theorem proved : Rows.VarintStringSaid :=
  OpenClaim.holds_of_wide 10 Try.f10 rfl rfl rfl rfl rfl rfl rfl ⟨rfl, rfl, rfl, rfl, rfl⟩ rfl rfl rfl rfl rfl (by kernel_rfl) Try.func10 (by kernel_rfl)
    (of_decide_eq_true (by kernel_rfl)) (by unfold Func.isWrapper; first | (rw [if_pos (by decide +kernel)]; kernel_rfl) | (rw [if_neg (by decide +kernel)]; exact ⟨rfl, rfl⟩))
    (fun os started H enc _ => lifted os started H enc)
#print axioms proved
end fr_VarintString

end Go.Proofs.Ytapakjdghgbdlaa

/- The laws VarintZigzag and VarintSmall hold for every input. No condition. -/
import Derived.Test.YtapakjdghgbdlaaVarAwake
namespace Go.Proofs.Ytapakjdghgbdlaa
open Go.ChangeShapes Go.WideShapes Go.ChangeAt Go.RowKit

theorem zig_nat (n : Int) (h : I64 n) : ∃ z : Nat, zig n = (z : Int) ∧ U64 z := ⟨(zig n).toNat, by have := zig_range n h; omega, by have := zig_range n h; unfold U64; omega⟩

set_option maxRecDepth 100000 in
set_option maxHeartbeats 400000 in
theorem walk_VarintZigzag (n : Int) (hn : I64 n) (m : Nat) (hm : U64 m) (w : World) :
    Calls Try.prog 4 #[.int .i64 n, .int .u64 m] w fun e w' => e = .returned (.bool true) ∧ Below w.heap.size w w' := by
  obtain ⟨z, hz, hzu⟩ := zig_nat n hn
  have h1 := unzig_zig n
  have h2 := zig_unzig m
  have hu := unzig_range m hm
  rw [hz] at h1
  generalize hv : unzig (m : Int) = v at *
  have Z := Lib.hid hz
  have V := Lib.hid hv
  have H1 := Lib.hid h1
  have H2 := Lib.hid h2
  clear hz hv h1 h2
  go_enter Try.func4, Try.ntmps4
  go_wp2_with fail
  refine (awake_any w).mono ?_
  rintro e w1 ⟨rfl, hb1⟩
  go_wp2_with fail
  refine (zig_any n hn w1).mono ?_
  rintro e w2 ⟨rfl, rfl⟩
  rw [Z.out]
  go_wp2_with fail
  refine (unzig_any m hm w1).mono ?_
  rintro e w2 ⟨rfl, rfl⟩
  rw [V.out]
  go_wp2_with fail
  refine (rzig_any n hn w1).mono ?_
  rintro e w2 ⟨rfl, rfl⟩
  rw [Z.out]
  go_wp2_with fail
  refine (runzig_any m hm w1).mono ?_
  rintro e w2 ⟨rfl, rfl⟩
  rw [V.out]
  go_wp2_with fail
  refine (unzig_any z hzu w1).mono ?_
  rintro e w2 ⟨rfl, rfl⟩
  rw [H1.out]
  go_wp2_with fail
  refine (zig_any v hu w1).mono ?_
  rintro e w2 ⟨rfl, rfl⟩
  rw [H2.out]
  go_wp2_with fail
  go_ret
  exact ⟨rfl, hb1⟩

set_option maxRecDepth 100000 in
set_option maxHeartbeats 400000 in
theorem walk_VarintSmall (a : Int) (ha : I64 a) (b : Int) (hb : I64 b) (w : World) :
    Calls Try.prog 5 #[.int .i64 a, .int .i64 b] w fun e w' => e = .returned (.bool true) ∧ Below w.heap.size w w' := by
  have ho := zig_order a b
  go_enter Try.func5, Try.ntmps5
  go_wp2_with fail
  refine (awake_any w).mono ?_
  rintro e w1 ⟨rfl, hb1⟩
  go_wp2_with fail
  refine (size_any a ha w1).mono ?_
  rintro e w2 ⟨rfl, rfl⟩
  go_wp2_with fail
  refine (size_any b hb w1).mono ?_
  rintro e w2 ⟨rfl, rfl⟩
  generalize size_ a = x at *
  generalize size_ b = y at *
  go_wp2_with fail
  · have h1 := ho ‹_›
    clear ho
    refine (zig_any a ha w1).mono ?_
    rintro e w2 ⟨rfl, rfl⟩
    generalize zig a = p at *
    go_wp2_with fail
    refine (zig_any b hb w1).mono ?_
    rintro e w2 ⟨rfl, rfl⟩
    generalize zig b = q at *
    go_wp2_with fail
    go_ret
    exact ⟨rfl, hb1⟩
  · go_ret
    exact ⟨rfl, hb1⟩

namespace fr_VarintSmall
set_option maxRecDepth 100000 in
theorem lifted (os : Os) (started : os.Started) (H : Type) (enc : TypeId × Value → H) :
    ReturnsInHanded {} Try.checked os 5 .any (Rows.varintSmallSpec.pre6 enc Try.prog Try.f5 Rows.varintSmallRow.domain false) (Rows.varintSmallSpec.post enc Try.prog Try.f5 false true false false) := by
  refine returnsInHanded_of_change (C := Try.checked) own_knob started (by kernel_rfl) Try.func5
    (ChangeSpec.witness6 (enc := enc) (C := Try.checked) false ⟨#[], #[.int .i64 0, .int .i64 0], []⟩ 8 (by kernel_rfl) (by kernel_rfl) (by kernel_rfl) (by kernel_rfl)) ?_
  intro W base args ds gs before hval0 hW hcnd _
  have hval : ∀ (j : Nat) t v, Try.f5.params[j]? = some t → args[j]? = some v → Value.okWide Try.prog W .any base t v := hval0
  have hW' := hW
  have hlt : ∀ p ∈ before, p.block < W.heap.size := fun p hp => hW.lt p hp
  obtain ⟨p, q, hA0, hV, rfl, hfz, hnd⟩ := hW
  have hA : DataW.TrodAll enc Try.prog W 0 (fun _ => true) true Try.f5.params.toList args.toList ds p := hA0
  have hA2 := hA
  rw [Try.params5] at hA hval
  obtain ⟨v0, vs0, d0, ds0, p0, q0, hargs, rfl, hpq, h0, r0⟩ := trodAll_cons hA
  obtain ⟨v1, vs1, d1, ds1, p1, q1, rfl, rfl, rfl, h1, r1⟩ := trodAll_cons r0
  obtain ⟨rfl, rfl, rfl⟩ := trodAll_nil r1
  obtain rfl : args = #[v0, v1] := by cases args; simp_all
  obtain ⟨rfl, rfl⟩ := trodVars_none hV
  obtain ⟨a0, rfl, rfl, rfl, w0⟩ := open_int Try.underlying2 (hval 0 2 v0 rfl rfl) h0
  have u0 := wf_i64 w0
  obtain ⟨a1, rfl, rfl, rfl, w1⟩ := open_int Try.underlying2 (hval 1 2 v1 rfl rfl) h1
  have u1 := wf_i64 w1
  clear hA0 hval0
  refine (walk_VarintSmall a0 u0 a1 u1 W).mono fun e W' ⟨he, bel⟩ => ?_
  subst he
  exact ⟨_, rfl, _, _, _, [], _, [], hW', trodAll_mk1 (shut_bool Try.underlying4 _), trodAll_below laid_out bel _ _ _ _ (by kernel_rfl) hA2 (fun x hx => hlt x (by simpa using hx)), rfl, bel.frame _, fun h => by cases h⟩
theorem proved : Rows.VarintSmallSaid :=
  OpenClaim.holds_of_wide 5 Try.f5 rfl rfl rfl rfl rfl rfl rfl ⟨rfl, rfl, rfl, rfl, rfl⟩ rfl rfl rfl rfl rfl (by kernel_rfl) Try.func5 (by kernel_rfl)
    (of_decide_eq_true (by kernel_rfl)) (by unfold Func.isWrapper; first | (rw [if_pos (by decide +kernel)]; kernel_rfl) | (rw [if_neg (by decide +kernel)]; exact ⟨rfl, rfl⟩))
    (fun os started H enc _ => lifted os started H enc)
#print axioms proved
end fr_VarintSmall


namespace fr_VarintZigzag
set_option maxRecDepth 100000 in
theorem lifted (os : Os) (started : os.Started) (H : Type) (enc : TypeId × Value → H) :
    ReturnsInHanded {} Try.checked os 4 .any (Rows.varintZigzagSpec.pre6 enc Try.prog Try.f4 Rows.varintZigzagRow.domain false) (Rows.varintZigzagSpec.post enc Try.prog Try.f4 false true false false) := by
  refine returnsInHanded_of_change (C := Try.checked) own_knob started (by kernel_rfl) Try.func4
    (ChangeSpec.witness6 (enc := enc) (C := Try.checked) false ⟨#[], #[.int .i64 0, .int .u64 0], []⟩ 8 (by kernel_rfl) (by kernel_rfl) (by kernel_rfl) (by kernel_rfl)) ?_
  intro W base args ds gs before hval0 hW hcnd _
  have hval : ∀ (j : Nat) t v, Try.f4.params[j]? = some t → args[j]? = some v → Value.okWide Try.prog W .any base t v := hval0
  have hW' := hW
  have hlt : ∀ p ∈ before, p.block < W.heap.size := fun p hp => hW.lt p hp
  obtain ⟨p, q, hA0, hV, rfl, hfz, hnd⟩ := hW
  have hA : DataW.TrodAll enc Try.prog W 0 (fun _ => true) true Try.f4.params.toList args.toList ds p := hA0
  have hA2 := hA
  rw [Try.params4] at hA hval
  obtain ⟨v0, vs0, d0, ds0, p0, q0, hargs, rfl, hpq, h0, r0⟩ := trodAll_cons hA
  obtain ⟨v1, vs1, d1, ds1, p1, q1, rfl, rfl, rfl, h1, r1⟩ := trodAll_cons r0
  obtain ⟨rfl, rfl, rfl⟩ := trodAll_nil r1
  obtain rfl : args = #[v0, v1] := by cases args; simp_all
  obtain ⟨rfl, rfl⟩ := trodVars_none hV
  obtain ⟨a0, rfl, rfl, rfl, w0⟩ := open_int Try.underlying2 (hval 0 2 v0 rfl rfl) h0
  have u0 := wf_i64 w0
  obtain ⟨x1, rfl, rfl, rfl, w1⟩ := open_int Try.underlying23 (hval 1 23 v1 rfl rfl) h1
  obtain ⟨a1, rfl, u1⟩ := wf_u64 w1
  clear hA0 hval0
  refine (walk_VarintZigzag a0 u0 a1 u1 W).mono fun e W' ⟨he, bel⟩ => ?_
  subst he
  exact ⟨_, rfl, _, _, _, [], _, [], hW', trodAll_mk1 (shut_bool Try.underlying4 _), trodAll_below laid_out bel _ _ _ _ (by kernel_rfl) hA2 (fun x hx => hlt x (by simpa using hx)), rfl, bel.frame _, fun h => by cases h⟩
theorem proved : Rows.VarintZigzagSaid :=
  OpenClaim.holds_of_wide 4 Try.f4 rfl rfl rfl rfl rfl rfl rfl ⟨rfl, rfl, rfl, rfl, rfl⟩ rfl rfl rfl rfl rfl (by kernel_rfl) Try.func4 (by kernel_rfl)
    (of_decide_eq_true (by kernel_rfl)) (by unfold Func.isWrapper; first | (rw [if_pos (by decide +kernel)]; kernel_rfl) | (rw [if_neg (by decide +kernel)]; exact ⟨rfl, rfl⟩))
    (fun os started H enc _ => lifted os started H enc)
#print axioms proved
end fr_VarintZigzag

end Go.Proofs.Ytapakjdghgbdlaa

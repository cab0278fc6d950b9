/- The laws DigestExtend and DigestHex hold for every input. No condition. -/
import Derived.Test.YtcnpihilbpaljaaDigAwake
import Derived.Test.YtcnpihilbpaljaaDigParse
namespace Go.Proofs.Ytcnpihilbpaljaa
open Go.ChangeShapes Go.WideShapes Go.ChangeAt Go.RowKit
open Go.ChangeMaps (open_string shut_string)

set_option maxRecDepth 100000 in
set_option maxHeartbeats 400000 in
theorem walk_DigestExtend (a : List UInt8) (ha : a.length ≤ 140737488351232) (b : List UInt8) (hb : b.length ≤ 140737488351232) (w : World) :
    Calls Try.prog 4 #[.string ⟨a.toArray⟩, .string ⟨b.toArray⟩] w fun e w' => e = .returned (.bool true) ∧ Below w.heap.size w w' := by
  have hma : a.length ≤ 9223372036854775807 := by omega
  have hmb : b.length ≤ 9223372036854775807 := by omega
  have hw := crc_w32 a
  by_cases h300 : a.length + b.length ≤ 300
  · have h1 := Lib.hid (fun W => dcrc_any a hma W)
    have h2 := Lib.hid (fun W => dext_any (crc a) hw b hmb W)
    have h3 := Lib.hid (fun W => dcrc_any (a ++ b) (by rw [List.length_append]; omega) W)
    have he : extend (crc a) b = crc (a ++ b) := extend_app 0 a b
    rw [he] at h2
    generalize crc (a ++ b) = y at *
    generalize crc a = x at *
    have hi : (a.length : Int) + b.length ≤ 300 := by omega
    clear he hw hma hmb h300 ha hb
    have hla : (a.length : Int) ≤ 300 := by omega
    have hlb : (b.length : Int) ≤ 300 := by omega
    go_enter Try.func4, Try.ntmps4
    go_wp2_with fail
    refine (awake_any w).mono ?_
    rintro e w1 ⟨rfl, hb1⟩
    go_wp2_with fail
    refine (h1.out w1).mono ?_
    rintro e w2 ⟨rfl, rfl⟩
    go_wp2_with fail
    refine (h2.out w1).mono ?_
    rintro e w2 ⟨rfl, rfl⟩
    go_wp2_with fail
    rw [str_app]
    refine (h3.out w1).mono ?_
    rintro e w2 ⟨rfl, rfl⟩
    go_wp2_with fail
    go_ret
    exact ⟨ret_bool (by first | rfl | simp), hb1⟩
  · have hi : 300 < (a.length : Int) + b.length := by omega
    clear hma hmb h300 hw
    go_enter Try.func4, Try.ntmps4
    go_wp2_with fail
    refine (awake_any w).mono ?_
    rintro e w1 ⟨rfl, hb1⟩
    go_wp2_with fail
    refine (awake_any w1).mono ?_
    rintro e w2 ⟨rfl, hb2⟩
    go_wp2_with fail
    go_ret
    exact ⟨rfl, hb1.trans (hb2.mono hb1.size)⟩

/-- the digits of a number are parsed back to it -/
theorem hv_dg : ∀ d : Fin 16, hv (dg d.val).toNat = some d.val := by decide +kernel
theorem hv_dg' (d : Nat) (h : d < 16) : hv (dg d).toNat = some d := hv_dg ⟨d, h⟩
theorem parse_digits (n : Nat) : ∀ (k m : Nat), k ≤ 16 → m = n / 16 ^ k → parseF m ((List.range k).map fun i => dg (n / 16 ^ (k - 1 - i) % 16)) = (n, 0) := by
  intro k
  induction k with
  | zero => intro m _ hm; simp at hm; simp [parseF, hm]
  | succ k ih =>
    intro m hk hm
    rw [List.range_succ_eq_map, List.map_cons, List.map_map, parseF, hv_dg' _ (Nat.mod_lt _ (by omega))]
    have e : m * 16 + n / 16 ^ (k + 1 - 1 - 0) % 16 = n / 16 ^ k := by
      rw [hm, Nat.pow_succ, ← Nat.div_div_eq_div_mul]
      have : k + 1 - 1 - 0 = k := by omega
      rw [this]
      omega
    have := ih (n / 16 ^ k) (by omega) rfl
    simp only [e]
    rw [← this]
    congr 1
    refine List.map_congr_left fun i hi => ?_
    have hi := List.mem_range.1 hi
    simp only [Function.comp]
    congr 4
    omega
theorem parse_hex (n : Nat) (hn : U64 n) : parseHex (hexL n) = (n, 0) := by
  have hlen : (hexL n).length = 16 := by simp [hexL]
  rw [parseHex, if_pos hlen, ← hexLow_hex, hexLow_eq, List.append_nil]
  have e : (16:Nat) ^ 16 = 18446744073709551616 := by decide
  refine parse_digits n 16 0 (by omega) ?_
  rw [Nat.div_eq_of_lt]
  rw [e]
  exact hn

set_option maxRecDepth 100000 in
set_option maxHeartbeats 400000 in
theorem walk_DigestHex (n : Nat) (hn : U64 n) (l : List UInt8) (hl : l.length ≤ maxLen) (w : World) :
    Calls Try.prog 9 #[.int .u64 n, .string ⟨l.toArray⟩] w fun e w' => e = .returned (.bool true) ∧ Below w.heap.size w w' := by
  have hm : l.length ≤ 9223372036854775807 := hl
  have h1 := Lib.hid (fun W => dparse_any l hm W)
  have h2 := Lib.hid (fun W => rparse_any l hm W)
  have h3 := Lib.hid (fun W => dhex_any n hn W)
  have h4 := Lib.hid (fun W => rhex_any n hn W)
  have h5 := (fun W => dparse_any (hexL n) (by simp [hexL]) W)
  simp only [parse_hex n hn] at h5
  have h5 := Lib.hid h5
  generalize hexL n = x at *
  generalize parseHex l = p at *
  obtain ⟨m, e⟩ := p
  simp only at h1 h2
  clear hl
  by_cases h100 : 100 < (l.length : Int)
  · go_enter Try.func9, Try.ntmps9
    go_wp2_with fail
    refine (awake_any w).mono ?_
    rintro e w1 ⟨rfl, hb1⟩
    go_wp2_with fail
    refine (awake_any w1).mono ?_
    rintro e w2 ⟨rfl, hb2⟩
    go_wp2_with fail
    go_ret
    exact ⟨rfl, hb1.trans (hb2.mono hb1.size)⟩
  · clear hm
    go_enter Try.func9, Try.ntmps9
    go_wp2_with fail
    refine (awake_any w).mono ?_
    rintro e w1 ⟨rfl, hb1⟩
    go_wp2_with fail
    refine (h1.out w1).mono ?_
    rintro e w2 ⟨rfl, rfl⟩
    go_wp2_with fail
    refine (h2.out w1).mono ?_
    rintro e w2 ⟨rfl, hb2⟩
    go_wp2_with fail
    refine (h3.out w2).mono ?_
    rintro e w3 ⟨rfl, hb3⟩
    go_wp2_with fail
    refine (h5.out w3).mono ?_
    rintro e w4 ⟨rfl, rfl⟩
    go_wp2_with fail
    refine (h3.out w3).mono ?_
    rintro e w4 ⟨rfl, hb4⟩
    go_wp2_with fail
    refine (h4.out w4).mono ?_
    rintro e w5 ⟨rfl, rfl⟩
    go_wp2_with fail
    go_ret
    have hb12 := hb1.trans (hb2.mono hb1.size)
    have hb13 := hb12.trans (hb3.mono hb12.size)
    exact ⟨ret_bool (by first | rfl | simp), hb13.trans (hb4.mono hb13.size)⟩

namespace fr_DigestExtend
set_option maxRecDepth 100000 in
theorem lifted (os : Os) (started : os.Started) (H : Type) (enc : TypeId × Value → H) :
    ReturnsInHanded {} Try.checked os 4 .any (Rows.digestExtendSpec.pre6 enc Try.prog Try.f4 Rows.digestExtendRow.domain false) (Rows.digestExtendSpec.post enc Try.prog Try.f4 false true false false) := by
  refine returnsInHanded_of_change_sized (C := Try.checked) own_knob started (by kernel_rfl) Try.func4
    (ChangeSpec.witness6 (enc := enc) (C := Try.checked) false ⟨#[], #[.string ByteArray.empty, .string ByteArray.empty], []⟩ 8 (by kernel_rfl) (by kernel_rfl) (by kernel_rfl) (by kernel_rfl)) ?_
  intro W base args ds gs before hval0 hW hcnd hsz0 _
  have hsz : (DataW.weightsEach Try.prog (Try.f4.params.toList ++ Rows.digestExtendSpec.plain.varTypes Try.prog) (ds ++ gs)).all (· ≤ reachBytes) = true := hsz0
  have hval : ∀ (j : Nat) t v, Try.f4.params[j]? = some t → args[j]? = some v → Value.okWide Try.prog W .any base t v := hval0
  have hW' := hW
  have hlt : ∀ p ∈ before, p.block < W.heap.size := fun p hp => hW.lt p hp
  obtain ⟨p, q, hA0, hV, rfl, hfz, hnd⟩ := hW
  have hA : DataW.TrodAll enc Try.prog W 0 (fun _ => true) true Try.f4.params.toList args.toList ds p := hA0
  have hA2 := hA
  rw [Try.params4] at hA hval hsz
  obtain ⟨v0, vs0, d0, ds0, p0, q0, hargs, rfl, hpq, h0, r0⟩ := trodAll_cons hA
  obtain ⟨v1, vs1, d1, ds1, p1, q1, rfl, rfl, rfl, h1, r1⟩ := trodAll_cons r0
  obtain ⟨rfl, rfl, rfl⟩ := trodAll_nil r1
  obtain rfl : args = #[v0, v1] := by cases args; simp_all
  obtain ⟨rfl, rfl⟩ := trodVars_none hV
  obtain ⟨x0, rfl, rfl, rfl, w0⟩ := open_string Try.underlying9 (hval 0 9 v0 rfl rfl) h0
  obtain ⟨a0, rfl, u0⟩ := str_list x0
  have s0 : a0.length ≤ 140737488351232 := by
    have h := sized_string hsz (j := 0) (t := 9) (bytes := a0) rfl (by simp)
    simpa [reachBytes] using h
  obtain ⟨x1, rfl, rfl, rfl, w1⟩ := open_string Try.underlying9 (hval 1 9 v1 rfl rfl) h1
  obtain ⟨a1, rfl, u1⟩ := str_list x1
  have s1 : a1.length ≤ 140737488351232 := by
    have h := sized_string hsz (j := 1) (t := 9) (bytes := a1) rfl (by simp)
    simpa [reachBytes] using h
  clear hA0 hval0
  refine (walk_DigestExtend a0 s0 a1 s1 W).mono fun e W' ⟨he, bel⟩ => ?_
  subst he
  exact ⟨_, rfl, _, _, _, [], _, [], hW', trodAll_mk1 (shut_bool Try.underlying4 _), trodAll_below laid_out bel _ _ _ _ (by kernel_rfl) hA2 (fun x hx => hlt x (by simpa using hx)), rfl, bel.frame _, fun h => by cases h⟩
theorem proved : Rows.DigestExtendSaid :=
  OpenClaim.holds_of_wide 4 Try.f4 rfl rfl rfl rfl rfl rfl rfl ⟨rfl, rfl, rfl, rfl, rfl⟩ rfl rfl rfl rfl rfl (by kernel_rfl) Try.func4 (by kernel_rfl)
    (of_decide_eq_true (by kernel_rfl)) (by unfold Func.isWrapper; first | (rw [if_pos (by decide +kernel)]; kernel_rfl) | (rw [if_neg (by decide +kernel)]; exact ⟨rfl, rfl⟩))
    (fun os started H enc _ => lifted os started H enc)
#print axioms proved
end fr_DigestExtend


namespace fr_DigestHex
set_option maxRecDepth 100000 in
theorem lifted (os : Os) (started : os.Started) (H : Type) (enc : TypeId × Value → H) :
    ReturnsInHanded {} Try.checked os 9 .any (Rows.digestHexSpec.pre6 enc Try.prog Try.f9 Rows.digestHexRow.domain false) (Rows.digestHexSpec.post enc Try.prog Try.f9 false true false false) := by
  refine returnsInHanded_of_change (C := Try.checked) own_knob started (by kernel_rfl) Try.func9
    (ChangeSpec.witness6 (enc := enc) (C := Try.checked) false ⟨#[], #[.int .u64 0, .string ByteArray.empty], []⟩ 8 (by kernel_rfl) (by kernel_rfl) (by kernel_rfl) (by kernel_rfl)) ?_
  intro W base args ds gs before hval0 hW hcnd _
  have hval : ∀ (j : Nat) t v, Try.f9.params[j]? = some t → args[j]? = some v → Value.okWide Try.prog W .any base t v := hval0
  have hW' := hW
  have hlt : ∀ p ∈ before, p.block < W.heap.size := fun p hp => hW.lt p hp
  obtain ⟨p, q, hA0, hV, rfl, hfz, hnd⟩ := hW
  have hA : DataW.TrodAll enc Try.prog W 0 (fun _ => true) true Try.f9.params.toList args.toList ds p := hA0
  have hA2 := hA
  rw [Try.params9] at hA hval
  obtain ⟨v0, vs0, d0, ds0, p0, q0, hargs, rfl, hpq, h0, r0⟩ := trodAll_cons hA
  obtain ⟨v1, vs1, d1, ds1, p1, q1, rfl, rfl, rfl, h1, r1⟩ := trodAll_cons r0
  obtain ⟨rfl, rfl, rfl⟩ := trodAll_nil r1
  obtain rfl : args = #[v0, v1] := by cases args; simp_all
  obtain ⟨rfl, rfl⟩ := trodVars_none hV
  obtain ⟨x0, rfl, rfl, rfl, w0⟩ := open_int Try.underlying32 (hval 0 32 v0 rfl rfl) h0
  obtain ⟨a0, rfl, u0⟩ := wf_u64 w0
  obtain ⟨x1, rfl, rfl, rfl, w1⟩ := open_string Try.underlying9 (hval 1 9 v1 rfl rfl) h1
  obtain ⟨a1, rfl, u1⟩ := str_list x1
  rw [u1] at w1
  clear hA0 hval0
  refine (walk_DigestHex a0 u0 a1 w1 W).mono fun e W' ⟨he, bel⟩ => ?_
  subst he
  exact ⟨_, rfl, _, _, _, [], _, [], hW', trodAll_mk1 (shut_bool Try.underlying4 _), trodAll_below laid_out bel _ _ _ _ (by kernel_rfl) hA2 (fun x hx => hlt x (by simpa using hx)), rfl, bel.frame _, fun h => by cases h⟩
theorem proved : Rows.DigestHexSaid :=
  OpenClaim.holds_of_wide 9 Try.f9 rfl rfl rfl rfl rfl rfl rfl ⟨rfl, rfl, rfl, rfl, rfl⟩ rfl rfl rfl rfl rfl (by kernel_rfl) Try.func9 (by kernel_rfl)
    (of_decide_eq_true (by kernel_rfl)) (by unfold Func.isWrapper; first | (rw [if_pos (by decide +kernel)]; kernel_rfl) | (rw [if_neg (by decide +kernel)]; exact ⟨rfl, rfl⟩))
    (fun os started H enc _ => lifted os started H enc)
#print axioms proved
end fr_DigestHex

end Go.Proofs.Ytcnpihilbpaljaa

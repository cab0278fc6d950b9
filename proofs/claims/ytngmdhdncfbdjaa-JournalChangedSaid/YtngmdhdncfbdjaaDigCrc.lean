/- What Extend, Crc and their references compute. No condition. -/
import Derived.Test.YtngmdhdncfbdjaaCrcPlain
import Derived.Test.YtngmdhdncfbdjaaVarGet
namespace Go.Proofs.Ytngmdhdncfbdjaa
open Go.ChangeShapes Go.WideShapes Go.ChangeAt Go.RowKit

def stN : Nat → Nat → Nat
  | 0, x => x
  | j+1, x => st (stN j x)
theorem stN_w32 (j : Nat) {x : Nat} (h : W32 x) : W32 (stN j x) := by
  induction j with
  | zero => exact h
  | succ j ih => exact st_w32 ih
theorem stN_8 (x : Nat) : stN 8 x = st8 x := by unfold st8; rfl
theorem x32 {a b : Nat} (ha : W32 a) (hb : W32 b) : ∃ m : Nat, bits .xor .u32 (a : Int) (b : Int) = (m : Int) ∧ Hid (m = a ^^^ b) := ⟨_, u32_xor_nat a b ha hb, rfl⟩
theorem and32 {a : Nat} (ha : W32 a) : bits .and .u32 (a : Int) 1 = (a : Int) % 2 := by
  have h := bits_mask .u32 32 (by decide) (fun n h0 h1 => by rw [IntKind.wrap_u32']; omega) 1 (by decide) (a : Int) (by omega) (by unfold W32 at ha; omega)
  simpa using h
theorem half32 {a : Nat} (ha : W32 a) (h1 : a % 2 = 1) : ∃ m : Nat, bits .xor .u32 ((a : Int) / 2) 3988292384 = (m : Int) ∧ Hid (m = st a) := by
  refine ⟨st a, ?_, rfl⟩
  have := u32_xor_nat (a / 2) poly (by unfold W32 at ha; omega) poly_w32
  unfold st
  rw [if_pos h1, ← this]
  rfl

theorem not32 {a : Nat} (ha : W32 a) : ∃ m : Nat, bits .xor .u32 IntKind.u32.max (a : Int) = (m : Int) ∧ Hid (m = a ^^^ ones) :=
  ⟨a ^^^ ones, by rw [show IntKind.u32.max = ((ones : Nat) : Int) from by decide, u32_xor_nat _ _ ones_w32 ha, Nat.xor_comm], rfl⟩
theorem ones32 {a : Nat} (ha : W32 a) : ∃ m : Nat, bits .xor .u32 (a : Int) 4294967295 = (m : Int) ∧ Hid (m = a ^^^ ones) :=
  ⟨a ^^^ ones, u32_xor_nat a ones ha ones_w32, rfl⟩

set_option maxRecDepth 100000 in
set_option maxHeartbeats 400000 in
theorem dext_any (c : Nat) (hc : W32 c) (l : List UInt8) (hlen : l.length ≤ 9223372036854775807) (w : World) :
    Calls Try.prog 57 #[.int .u32 c, .string ⟨l.toArray⟩] w fun e w' => e = .returned (.int .u32 (extend c l)) ∧ w = w' := by
  have hsg : IntKind.u32.signed = false := rfl
  obtain ⟨c1, hc1, Hc1⟩ := not32 hc
  go_enter Try.func57, Try.ntmps57
  go_wp2
  go_loop [0, 11] (fun a i => ∃ k x : Nat, k ≤ l.length ∧ a = .int .u32 x ∧ i = .int .i64 k ∧ crcL (c ^^^ ones) l = crcL x (l.drop k) ∧ Hid (W32 x)) (fun _ i => l.length - (intOf i).toNat)
  case atStart => exact ⟨0, c1, by omega, rfl, rfl, by rw [Hc1.out]; rfl, by rw [Hc1.out]; exact xor_w32 hc ones_w32⟩
  case round =>
    obtain ⟨k, x, hk, rfl, rfl, hp, hx⟩ := hrel
    have Hp := Lib.hid hp
    clear hp
    by_cases hlt : k < l.length
    · obtain ⟨b, r, hd, hb, hr⟩ := byte_at l k hlt
      have Hd := Lib.hid hd
      have Hr := Lib.hid hr
      clear hd hr
      have hbl : b.toNat < 256 := b.toNat_lt
      obtain ⟨y, hy, Hy⟩ := x32 hx.out (byte_w32 b)
      have hyw : Hid (W32 y) := by rw [Hy.out]; exact xor_w32 hx.out (byte_w32 b)
      go_wp2
      go_loop [0, 20] (fun a i => ∃ j : Nat, j ≤ 8 ∧ a = .int .u32 (stN j y) ∧ i = .int .i64 j) (fun _ i => 8 - (intOf i).toNat)
      case atStart => exact ⟨0, by omega, rfl, rfl⟩
      case round =>
        obtain ⟨j, hj, rfl, rfl⟩ := hrel
        have hzw := stN_w32 j hyw.out
        have Hst : Hid (stN (j+1) y = st (stN j y)) := rfl
        generalize hz : stN j y = z at *
        have Hz := Lib.hid hz
        clear hz
        by_cases hj8 : j < 8
        · have ha := and32 hzw
          by_cases h1 : z % 2 = 1
          · obtain ⟨m, hm, Hm⟩ := half32 hzw h1
            have h2 : ((z : Int) % 2 == 1) = true := beq_iff_eq.2 (by omega)
            clear h1
            have Hzw := Lib.hid hzw
            clear hzw
            go_wp2
            go_round
            case rel => exact ⟨j + 1, by omega, by rw [Hst.out, Hm.out], by go_num⟩
            case measure => simp [intOf]; omega
          · have h2 : ((z : Int) % 2 == 1) = false := beq_eq_false_iff_ne.2 (by omega)
            have e : st z = z / 2 := by unfold st; rw [if_neg h1]
            have E := Lib.hid e
            clear h1 e
            have Hzw := Lib.hid hzw
            clear hzw
            go_wp2
            go_round
            case rel => exact ⟨j + 1, by omega, by rw [Hst.out, E.out]; rfl, by go_num⟩
            case measure => simp [intOf]; omega
        · go_wp2
          go_round
          case rel =>
            have hj9 : j = 8 := by omega
            refine ⟨k + 1, z, by omega, rfl, by go_num, ?_, ?_⟩
            · rw [Hp.out, Hd.out, Hr.out, crcL, ← Hy.out, ← Hz.out, hj9, stN_8]
            · exact hzw
          case measure => simp [intOf]; omega
    · obtain ⟨m, hm, Hm⟩ := not32 hx.out
      go_wp2
      go_ret
      refine ⟨ret_int ?_, rfl⟩
      unfold extend
      rw [Hp.out, List.drop_of_length_le (by omega), crcL, Hm.out]

theorem half32' {a : Nat} (ha : W32 a) (h1 : a % 2 = 1) : ∃ m : Nat, bits .xor .u32 ((a : Int) / 2) 3988292384 = (m : Int) ∧ Hid (m = st a) := half32 ha h1

set_option maxRecDepth 100000 in
set_option maxHeartbeats 400000 in
theorem rext_any (c : Nat) (hc : W32 c) (l : List UInt8) (hlen : l.length ≤ 9223372036854775807) (w : World) :
    Calls Try.prog 58 #[.int .u32 c, .string ⟨l.toArray⟩] w fun e w' => e = .returned (.int .u32 (extend c l)) ∧ w = w' := by
  obtain ⟨c1, hc1, Hc1⟩ := ones32 hc
  go_enter Try.func58, Try.ntmps58
  go_wp2
  go_loop [0, 5] (fun a i => ∃ k x : Nat, k ≤ l.length ∧ a = .int .u32 x ∧ i = .int .i64 k ∧ crcL (c ^^^ ones) l = crcL x (l.drop k) ∧ Hid (W32 x)) (fun _ i => l.length - (intOf i).toNat)
  case atStart => exact ⟨0, c1, by omega, rfl, rfl, by rw [Hc1.out]; rfl, by rw [Hc1.out]; exact xor_w32 hc ones_w32⟩
  case round =>
    obtain ⟨k, x, hk, rfl, rfl, hp, hx⟩ := hrel
    have Hp := Lib.hid hp
    clear hp
    by_cases hlt : k < l.length
    · obtain ⟨b, r, hd, hb, hr⟩ := byte_at l k hlt
      have Hd := Lib.hid hd
      have Hr := Lib.hid hr
      clear hd hr
      have hbl : b.toNat < 256 := b.toNat_lt
      obtain ⟨y, hy, Hy⟩ := x32 hx.out (byte_w32 b)
      have hyw : Hid (W32 y) := by rw [Hy.out]; exact xor_w32 hx.out (byte_w32 b)
      go_wp2
      go_loop [0, 6] (fun a i => ∃ j : Nat, j ≤ 8 ∧ a = .int .u32 (stN j y) ∧ i = .int .i64 j) (fun _ i => 8 - (intOf i).toNat)
      case atStart => exact ⟨0, by omega, rfl, rfl⟩
      case round =>
        obtain ⟨j, hj, rfl, rfl⟩ := hrel
        have hzw := stN_w32 j hyw.out
        have Hst : Hid (stN (j+1) y = st (stN j y)) := rfl
        generalize hz : stN j y = z at *
        have Hz := Lib.hid hz
        clear hz
        by_cases hj8 : j < 8
        · by_cases h1 : z % 2 = 1
          · obtain ⟨m, hm, Hm⟩ := half32 hzw h1
            have h2 : ((z : Int) % 2 == 1) = true := beq_iff_eq.2 (by omega)
            clear h1
            have Hzw := Lib.hid hzw
            clear hzw
            go_wp2
            go_round
            case rel => exact ⟨j + 1, by omega, by rw [Hst.out, Hm.out], by go_num⟩
            case measure => simp [intOf]; omega
          · have h2 : ((z : Int) % 2 == 1) = false := beq_eq_false_iff_ne.2 (by omega)
            have e : st z = z / 2 := by unfold st; rw [if_neg h1]
            have E := Lib.hid e
            clear h1 e
            have Hzw := Lib.hid hzw
            clear hzw
            go_wp2
            go_round
            case rel => exact ⟨j + 1, by omega, by rw [Hst.out, E.out]; rfl, by go_num⟩
            case measure => simp [intOf]; omega
        · go_wp2
          go_round
          case rel =>
            have hj9 : j = 8 := by omega
            refine ⟨k + 1, z, by omega, rfl, by go_num, ?_, ?_⟩
            · rw [Hp.out, Hd.out, Hr.out, crcL, ← Hy.out, ← Hz.out, hj9, stN_8]
            · exact hzw
          case measure => simp [intOf]; omega
    · obtain ⟨m, hm, Hm⟩ := ones32 hx.out
      go_wp2
      go_ret
      refine ⟨ret_int ?_, rfl⟩
      unfold extend
      rw [Hp.out, List.drop_of_length_le (by omega), crcL, Hm.out]

theorem zero_w32 : W32 0 := by unfold W32; omega
set_option maxHeartbeats 400000 in
theorem dcrc_any (l : List UInt8) (hlen : l.length ≤ 9223372036854775807) (w : World) :
    Calls Try.prog 49 #[.string ⟨l.toArray⟩] w fun e w' => e = .returned (.int .u32 (crc l)) ∧ w = w' := by
  have H := Lib.hid (dext_any 0 zero_w32 l hlen w)
  go_enter Try.func49, Try.ntmps49
  go_wp2_with (go_at_call 57; refine H.out.mono ?_; rintro e w' ⟨rfl, rfl⟩)
  go_ret
  exact ⟨rfl, rfl⟩
set_option maxHeartbeats 400000 in
theorem rcrc_any (l : List UInt8) (hlen : l.length ≤ 9223372036854775807) (w : World) :
    Calls Try.prog 51 #[.string ⟨l.toArray⟩] w fun e w' => e = .returned (.int .u32 (crc l)) ∧ w = w' := by
  have H := Lib.hid (rext_any 0 zero_w32 l hlen w)
  go_enter Try.func51, Try.ntmps51
  go_wp2_with (go_at_call 58; refine H.out.mono ?_; rintro e w' ⟨rfl, rfl⟩)
  go_ret
  exact ⟨rfl, rfl⟩
end Go.Proofs.Ytngmdhdncfbdjaa

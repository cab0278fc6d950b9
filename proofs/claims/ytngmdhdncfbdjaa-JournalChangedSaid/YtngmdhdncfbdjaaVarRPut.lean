/- What sheaveref03.Put computes: the same as varint.Put. No condition. -/
import Derived.Test.YtngmdhdncfbdjaaVarPut
namespace Go.Proofs.Ytngmdhdncfbdjaa
open Go.ChangeShapes Go.WideShapes Go.ChangeAt Go.RowKit

theorem info_u8 : (Try.prog.info? 5).map (fun i => (i.zero, i.size, i.bytes)) = some (some (.int .u8 0), 1, 1) := by kernel_rfl

theorem pow_step (m k : Nat) (h : m * 128 ^ k < 18446744073709551616) : m / 128 * 128 ^ (k+1) < 18446744073709551616 := by
  have h2 : m / 128 * 128 ≤ m := Nat.div_mul_le_self _ _
  calc m / 128 * 128 ^ (k+1) = (m / 128 * 128) * 128^k := by rw [Nat.pow_succ, Nat.mul_comm (128^k), Nat.mul_assoc]
    _ ≤ m * 128 ^ k := Nat.mul_le_mul_right _ h2
    _ < _ := h

theorem quo_small (m k : Nat) (h : m * 128 ^ k < 18446744073709551616) : IntKind.u64.wrap ((m : Int) / 128) = (m : Int) / 128 := by
  have : m ≤ m * 128 ^ k := Nat.le_mul_of_pos_right _ (Nat.pow_pos (by omega))
  rw [IntKind.wrap_u64]; omega

set_option maxRecDepth 100000 in
set_option maxHeartbeats 400000 in
theorem rput_any (n : Nat) (hn : U64 n) (w : World) :
    Calls Try.prog 35 #[.int .u64 n] w fun e w' => e = .returned (.string ⟨(putF 9 n).toArray⟩) ∧ Below w.heap.size w w' := by
  go_enter Try.func35, Try.ntmps35
  go_wp2
  go_loopw [0, 3] (fun a v wr => ∃ k m : Nat, ∃ l : List UInt8, k ≤ 9 ∧ l.length = k ∧ a = .int .u64 m ∧ putF 9 n = l ++ putF (9-k) m ∧ Hid (m * 128 ^ k < 18446744073709551616) ∧ wr.ownsRow w.heap.size 5 1 v k (l.map B8) ∧ Below w.heap.size w wr)
     (fun a _ _ => (intOf a).toNat)
  case atStart => exact ⟨0, n, [], by omega, rfl, rfl, rfl, by rw [Nat.pow_zero, Nat.mul_one]; exact hn, World.ownsRow_nil _ _ _ _, Below.refl _ _⟩
  case round =>
    obtain ⟨k, m, l, hk, hl, rfl, hp, hm, hown, hbl⟩ := hrel
    have Hl := Lib.hid hl
    have Hp := Lib.hid hp
    clear hl hp
    by_cases hlt : m < 128
    · go_wp2_with (at_builtin; refine wpList_append_one rfl _ _ _ rfl w.heap.size 5 _ 1 1 Try.underlying43 info_u8 rfl (by decide) _ k (l.map B8) rfl hown [_] _ 1 rfl rfl (by simp [Value.oneCell']) (by omega) (by omega) hbl.size ?_; intro v' w1 hown1 hb1)
      have hown2 : w1.ownsRow w.heap.size 5 1 v' (k + 1) ((l ++ [UInt8.ofNat m]).map B8) := by
        rw [B8_of m (by omega) (by omega)] at hown1
        simpa using hown1
      rw [conv_owned 43 9 5 Try.underlying43 Try.underlying5 Try.underlying9 hown2]
      clear hown1 hown2 hown
      go_wp2
      go_ret
      refine ⟨?_, hbl.trans hb1⟩
      rw [Hp.out, putF_lt _ _ hlt]; rfl
    · have hk9 : k < 9 := by
        rcases Nat.lt_or_ge k 9 with h | h
        · exact h
        · obtain rfl : k = 9 := by omega
          have := hm.out
          omega
      have hq : IntKind.u64.wrap ((m : Int) / 128) = (m : Int) / 128 := quo_small m k hm.out
      go_wp2_with (at_builtin; refine wpList_append_one rfl _ _ _ rfl w.heap.size 5 _ 1 1 Try.underlying43 info_u8 rfl (by decide) _ k (l.map B8) rfl hown [_] _ 1 rfl rfl (by simp [Value.oneCell']) (by omega) (by omega) hbl.size ?_; intro v' w1 hown1 hb1)
      go_roundw
      case rel =>
        refine ⟨k+1, m/128, l ++ [UInt8.ofNat (m % 128 + 128)], by omega, by simp [Hl.out], by go_num, ?_, ?_, ?_, hbl.trans hb1⟩
        · rw [Hp.out, putF_ge _ _ hlt hk9]; simp
        · exact pow_step m k hm.out
        · rw [B8_of _ (by omega) (by omega)] at hown1
          have e : ((m : Int) % 128 + 128).toNat = m % 128 + 128 := by omega
          rw [e] at hown1
          simpa using hown1
      case measure => simp [intOf]; omega
end Go.Proofs.Ytngmdhdncfbdjaa

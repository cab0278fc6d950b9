/- What sheaveref03.Get computes: the same as varint.Get. No condition. -/
import Derived.Test.YtngmdhdncfbdjaaVarGet
namespace Go.Proofs.Ytngmdhdncfbdjaa
open Go.ChangeShapes Go.WideShapes Go.ChangeAt Go.RowKit

def p128 (k : Nat) : Nat := 128 ^ k
theorem p128_next (k : Nat) (hk : k ≤ 8) : IntKind.u64.wrap ((p128 k : Int) * 128) = (p128 (k+1) : Int) := by
  rw [IntKind.wrap_u64]
  have : 128 ^ (k+1) ≤ 128 ^ 9 := Nat.pow_le_pow_right (by omega) (by omega)
  have e : (128:Nat) ^ 9 < 18446744073709551616 := by decide
  have e2 : p128 (k+1) = p128 k * 128 := by unfold p128; rw [Nat.pow_succ]
  have : p128 (k+1) < 18446744073709551616 := by unfold p128; omega
  omega
theorem add_group (n x k : Nat) (hn : n < 128 ^ k) (hx : x < 128) (hk : k ≤ 8 ∨ (k = 9 ∧ x ≤ 1)) :
    IntKind.u64.wrap ((n : Int) + IntKind.u64.wrap ((x : Int) * (p128 k : Int))) = ((n + x * 128 ^ k : Nat) : Int) := by
  have h := (or_group n x k hn hx hk).2.2
  rw [IntKind.wrap_u64, IntKind.wrap_u64, ← Int.natCast_mul]
  have e : x * p128 k = x * 128 ^ k := rfl
  rw [e]
  omega
theorem b_mod (b : UInt8) : (b.toNat : Int) % 128 = ((b.toNat % 128 : Nat) : Int) := by omega

set_option maxRecDepth 100000 in
set_option maxHeartbeats 400000 in
theorem rget_any (l : List UInt8) (w : World) (hlen : l.length ≤ 9223372036854775807) :
    Calls Try.prog 37 #[.string ⟨l.toArray⟩] w fun e w' => e = .returned (.tuple #[.int .u64 (getF 0 0 l).1, .int .i64 (getF 0 0 l).2.1, .int .i64 (getF 0 0 l).2.2]) ∧ w = w' := by
  go_enter Try.func37, Try.ntmps37
  go_wp2
  go_loop [5, 6, 7] (fun a u i => ∃ k n : Nat, k ≤ 9 ∧ k ≤ l.length ∧ a = .int .u64 n ∧ u = .int .u64 (p128 k) ∧ i = .int .i64 k ∧ getF 0 0 l = getF k n (l.drop k) ∧ Hid (n < 128 ^ k)) (fun _ _ i => 10 - (intOf i).toNat)
  case atStart => exact ⟨0, 0, by omega, by omega, rfl, rfl, rfl, rfl, by show _ < _; omega⟩
  case round =>
    obtain ⟨k, n, hk, hk2, rfl, rfl, rfl, hp, hm⟩ := hrel
    have Hp := Lib.hid hp
    clear hp
    by_cases hlt : k < l.length
    · obtain ⟨b, r, hd, hb, hr⟩ := byte_at l k hlt
      have Hd := Lib.hid hd
      have Hr := Lib.hid hr
      clear hd hr
      have hbl : b.toNat < 256 := b.toNat_lt
      have hne : ((k : Int) == l.length) = false := beq_eq_false_iff_ne.2 (by omega)
      by_cases h9 : 9 ≤ k ∧ 1 < b.toNat
      · obtain ⟨h9, h91⟩ := h9
        go_wp2
        go_ret3
        refine ⟨?_, rfl⟩
        rw [Hp.out, Hd.out, getF_range k n b r (by omega) (by omega)]
        rfl
      · have hx : b.toNat % 128 < 128 := Nat.mod_lt _ (by omega)
        have hg := or_group n (b.toNat % 128) k hm.out hx (by omega)
        obtain ⟨m, hmv, Hm⟩ : ∃ m : Nat, IntKind.u64.wrap ((n : Int) + IntKind.u64.wrap ((b.toNat : Int) % 128 * (p128 k : Int))) = (m : Int) ∧ Hid (m = n + b.toNat % 128 * 128 ^ k) :=
          ⟨_, add_group n (b.toNat % 128) k hm.out hx (by omega), rfl⟩
        have Hg := Lib.hid hg
        clear hg hx
        go_wp2
        all_goals first
          | (go_ret3; refine ⟨?_, rfl⟩; rw [Hp.out, Hd.out, getF_syntax k n b r (by omega) (by omega) (by omega)]; rfl)
          | (go_ret3
             refine ⟨?_, rfl⟩
             rw [Hp.out, Hd.out, getF_done k n b r (by omega) (by omega) (by omega)]
             refine ret_done (a' := ((n + b.toNat * 128 ^ k : Nat) : Int)) (q := k + 1) _ _ ?_ ?_
             · have e := Hm.out
               rw [Nat.mod_eq_of_lt (by omega)] at e
               exact congrArg Int.ofNat e
             · first | (with_reducible rfl) | omega)
          | (go_round
             case rel =>
               exact ⟨k + 1, m, by omega, by omega, rfl, by rw [p128_next k (by omega)], by go_num, by rw [Hp.out, Hd.out, Hr.out, getF_more k n b r (by omega) (by omega), Hm.out], by have := Hg.out.2.1; have e := Hm.out; show m < _; omega⟩
             case measure => simp [intOf]; omega)
    · have hne : ((k : Int) == l.length) = true := beq_iff_eq.2 (by omega)
      go_wp2
      all_goals go_ret3
      all_goals refine ⟨?_, rfl⟩
      all_goals rw [Hp.out, List.drop_of_length_le (by omega)]
      all_goals rfl
end Go.Proofs.Ytngmdhdncfbdjaa

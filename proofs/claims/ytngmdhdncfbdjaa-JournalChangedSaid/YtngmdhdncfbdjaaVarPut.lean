/- What varint.Put computes. No condition. -/
import Derived.Test.YtngmdhdncfbdjaaKit
namespace Go.Proofs.Ytngmdhdncfbdjaa
open Go.ChangeShapes Go.WideShapes Go.ChangeAt Go.RowKit

def putF : Nat → Nat → List UInt8
  | 0, n => [UInt8.ofNat n]
  | f+1, n => if n < 128 then [UInt8.ofNat n] else UInt8.ofNat (n % 128 + 128) :: putF f (n / 128)
def putArr (k : Nat) (l : List UInt8) : Array Value := (l.map B8 ++ List.replicate (10-k) (B8 0)).toArray

theorem putArr_get (k : Nat) (l : List UInt8) (hl : l.length = k) (hk : k ≤ 9) : (putArr k l)[k]? = some (B8 0) := by
  unfold putArr; rw [List.getElem?_toArray, List.getElem?_append_right (by simp [hl]), List.getElem?_replicate_of_lt (by simp [hl]; omega)]
theorem putArr_set (k : Nat) (l : List UInt8) (hl : l.length = k) (hk : k ≤ 9) (b : UInt8) : (putArr k l).setIfInBounds k (B8 b) = putArr (k+1) (l ++ [b]) := by
  unfold putArr
  rw [List.setIfInBounds_toArray]
  congr 1
  have : 10 - k = (10 - (k+1)) + 1 := by omega
  rw [this, List.replicate_succ]
  subst hl
  rw [List.set_append_right _ _ (by simp)]
  simp

theorem putArr_out (k : Nat) (l : List UInt8) (i : Nat) (x : UInt8) (h : l[i]? = some x) : (putArr k l)[i]? = some (B8 x) := by
  unfold putArr
  rw [List.getElem?_toArray, List.getElem?_append_left (by simp; exact (List.getElem?_eq_some_iff.1 h).1)]
  simp [h]
theorem putF_lt (f m : Nat) (h : m < 128) : putF f m = [UInt8.ofNat m] := by cases f <;> simp [putF, h]
theorem putF_ge (k m : Nat) (h : ¬ m < 128) (hk : k < 9) : putF (9 - k) m = UInt8.ofNat (m % 128 + 128) :: putF (9 - (k+1)) (m / 128) := by
  have : 9 - k = (9 - (k+1)) + 1 := by omega
  rw [this, putF, if_neg h]

set_option maxRecDepth 100000 in
set_option maxHeartbeats 400000 in
theorem put (n : Nat) (hn : U64 n) (w : World) :
    Calls Try.prog 48 #[.int .u64 n] w fun e w' => e = .returned (.string ⟨(putF 9 n).toArray⟩) ∧ Below w.heap.size w w' := by
  go_enter Try.func48, Try.ntmps48
  go_wp2
  go_loopw [0, 4] (fun a i wr => ∃ k m : Nat, ∃ l : List UInt8, k ≤ 9 ∧ l.length = k ∧ a = .int .u64 m ∧ i = .int .i64 k ∧ putF 9 n = l ++ putF (9-k) m ∧ wr = w.alloc (.cells (putArr k l) 83) ∧ Hid (m * 128 ^ k < 18446744073709551616))
     (fun _ i _ => 10 - (intOf i).toNat)
  case atStart => exact ⟨0, n, [], by omega, rfl, rfl, rfl, rfl, rfl, by rw [Nat.pow_zero, Nat.mul_one]; exact hn⟩
  case round =>
    obtain ⟨k, m, l, hk, hl, rfl, rfl, hp, rfl, hm⟩ := hrel
    have Hl := Lib.hid hl
    have Hp := Lib.hid hp
    have hc := putArr_get k l hl hk
    clear hl hp
    by_cases hlt : m < 128
    · have hsl : ∀ W, (Instr.sliceAt 83 (.pointer (some ⟨w.heap.size, 0, none⟩)) none (some (.int .i64 ((k : Int)+1))) none).run Try.prog W = .ok (.slice (some ⟨w.heap.size, 0, none⟩) (k+1) 10) W := by
        intro W
        rw [run_sliceAt_array_h W 83 ⟨w.heap.size, 0, none⟩ (by simp [Program.arrayLen, Program.elem, Try.underlying83]) .i64 ((k:Int)+1) (by omega) (by simp [Program.arrayLen, Try.underlying83]; omega)]
        simp [go_sem, slicedAt, Program.elem, Program.arrayLen, Try.underlying83]
      go_wp2
      rw [B8_of m (by omega) (by omega), putArr_set k l Hl.out hk, conv_bytes 43 9 5 Try.underlying43 Try.underlying5 Try.underlying9 _ _ _ _ _ _ _ _ (l ++ [UInt8.ofNat m]) (new_block _ _) (by simp [Hl.out]) (fun i x h => by simpa using putArr_out _ _ _ _ h)]
      go_wp2
      go_ret
      refine ⟨?_, (Below.refl _ _).alloc (Nat.le_refl _) _⟩
      rw [Hp.out, putF_lt _ _ hlt]; rfl
    · have hk9 : k < 9 := by
        rcases Nat.lt_or_ge k 9 with h | h
        · exact h
        · obtain rfl : k = 9 := by omega
          have := hm.out
          omega
      go_wp2
      go_round
      case rel =>
        refine ⟨k+1, m/128, l ++ [UInt8.ofNat (m % 128 + 128)], by omega, by simp [Hl.out], by go_num, by go_num, ?_, ?_, ?_⟩
        · rw [Hp.out, putF_ge _ _ hlt hk9]; simp
        · rw [or128 _ (by omega) (by omega), B8_of _ (by omega) (by omega), putArr_set k l Hl.out hk]
          congr 6
          omega
        · have := hm.out
          have h2 : m / 128 * 128 ≤ m := Nat.div_mul_le_self _ _
          show _ < _
          calc m / 128 * 128 ^ (k+1) = (m / 128 * 128) * 128^k := by rw [Nat.pow_succ, Nat.mul_comm (128^k), Nat.mul_assoc]
            _ ≤ m * 128 ^ k := Nat.mul_le_mul_right _ h2
            _ < _ := this
      case measure => simp [intOf]; omega
end Go.Proofs.Ytngmdhdncfbdjaa

/- What Big, FromBig and their references compute. No condition. -/
import Derived.Test.YtapakjdghgbdlaaVarGet
import Derived.Test.YtapakjdghgbdlaaVarRPut
namespace Go.Proofs.Ytapakjdghgbdlaa
open Go.ChangeShapes Go.WideShapes Go.ChangeAt Go.RowKit

/-- big-endian bytes ahead of acc -/
def bigF : Nat → Nat → List UInt8 → List UInt8
  | 0, _, acc => acc
  | f+1, n, acc => if n = 0 then acc else bigF f (n / 256) (UInt8.ofNat (n % 256) :: acc)
def bigArr (k : Nat) (l : List UInt8) : Array Value := (List.replicate (8-k) (B8 0) ++ l.map B8).toArray

theorem bigArr_get (k : Nat) (l : List UInt8) (hl : l.length = k) (hk : k < 8) : (bigArr k l)[7-k]? = some (B8 0) := by
  unfold bigArr; rw [List.getElem?_toArray, List.getElem?_append_left (by simp; omega), List.getElem?_replicate_of_lt (by omega)]
theorem bigArr_set (k : Nat) (l : List UInt8) (hl : l.length = k) (hk : k < 8) (b : UInt8) : (bigArr k l).setIfInBounds (7-k) (B8 b) = bigArr (k+1) (b :: l) := by
  unfold bigArr
  rw [List.setIfInBounds_toArray]
  congr 1
  have : 8 - k = (7 - k) + 1 := by omega
  rw [this, show 8 - (k+1) = 7 - k from by omega, List.replicate_succ', List.append_assoc, List.set_append_right _ _ (by simp)]
  simp
theorem bigArr_out (k : Nat) (l : List UInt8) (i : Nat) (x : UInt8) (h : l[i]? = some x) : (bigArr k l)[8-k+i]? = some (B8 x) := by
  unfold bigArr
  rw [List.getElem?_toArray, List.getElem?_append_right (by simp)]
  simp [h]
theorem bigF_zero (f n : Nat) (l : List UInt8) (h : ¬ 0 < n) : bigF f n l = l := by
  obtain rfl : n = 0 := by omega
  cases f <;> rfl
theorem bigF_next (k n : Nat) (l : List UInt8) (h : 0 < n) (hk : k < 8) : bigF (8-k) n l = bigF (8-(k+1)) (n / 256) (UInt8.ofNat (n % 256) :: l) := by
  rw [show 8 - k = (8 - (k+1)) + 1 from by omega, bigF, if_neg (by omega)]

theorem pow_step8 (m k : Nat) (h : m * 256 ^ k < 18446744073709551616) : m / 256 * 256 ^ (k+1) < 18446744073709551616 := by
  have h2 : m / 256 * 256 ≤ m := Nat.div_mul_le_self _ _
  calc m / 256 * 256 ^ (k+1) = (m / 256 * 256) * 256^k := by rw [Nat.pow_succ, Nat.mul_comm (256^k), Nat.mul_assoc]
    _ ≤ m * 256 ^ k := Nat.mul_le_mul_right _ h2
    _ < _ := h

theorem quo_small8 (m k : Nat) (h : m * 256 ^ k < 18446744073709551616) : IntKind.u64.wrap ((m : Int) / 256) = (m : Int) / 256 := by
  have : m ≤ m * 256 ^ k := Nat.le_mul_of_pos_right _ (Nat.pow_pos (by omega))
  rw [IntKind.wrap_u64]; omega
theorem big_slice (w : World) (k : Nat) (hk : k ≤ 8) (W : World) : (Instr.sliceAt 47 (.pointer (some ⟨w.heap.size, 0, none⟩)) (some (.int .i64 (8 - (k : Int)))) none none).run Try.prog W = .ok (.slice (some ⟨w.heap.size, if k = 0 then 0 else 8 - k, none⟩) k k) W := by
  rw [run_sliceAt_array_l W 47 ⟨w.heap.size, 0, none⟩ (by simp [Program.arrayLen, Program.elem, Try.underlying47]) .i64 (8 - (k:Int)) (by omega) (by simp [Program.arrayLen, Try.underlying47]; omega)]
  match k, hk with
  | 0, _ => simp [go_sem, slicedAt, Program.elem, Program.arrayLen, Try.underlying47]
  | 1, _ => simp [go_sem, slicedAt, Program.elem, Program.arrayLen, Try.underlying47, Addr.add]
  | 2, _ => simp [go_sem, slicedAt, Program.elem, Program.arrayLen, Try.underlying47, Addr.add]
  | 3, _ => simp [go_sem, slicedAt, Program.elem, Program.arrayLen, Try.underlying47, Addr.add]
  | 4, _ => simp [go_sem, slicedAt, Program.elem, Program.arrayLen, Try.underlying47, Addr.add]
  | 5, _ => simp [go_sem, slicedAt, Program.elem, Program.arrayLen, Try.underlying47, Addr.add]
  | 6, _ => simp [go_sem, slicedAt, Program.elem, Program.arrayLen, Try.underlying47, Addr.add]
  | 7, _ => simp [go_sem, slicedAt, Program.elem, Program.arrayLen, Try.underlying47, Addr.add]
  | 8, _ => simp [go_sem, slicedAt, Program.elem, Program.arrayLen, Try.underlying47, Addr.add]

set_option maxRecDepth 100000 in
set_option maxHeartbeats 400000 in
theorem big_any (n : Nat) (hn : U64 n) (w : World) :
    Calls Try.prog 20 #[.int .u64 n] w fun e w' => e = .returned (.string ⟨(bigF 8 n []).toArray⟩) ∧ Below w.heap.size w w' := by
  go_enter Try.func20, Try.ntmps20
  go_wp2
  go_loopw [0, 4] (fun a i wr => ∃ k m : Nat, ∃ l : List UInt8, k ≤ 8 ∧ l.length = k ∧ a = .int .u64 m ∧ i = .int .i64 (8 - k) ∧ bigF 8 n [] = bigF (8-k) m l ∧ wr = w.alloc (.cells (bigArr k l) 47) ∧ Hid (m * 256 ^ k < 18446744073709551616))
     (fun _ i _ => (intOf i).toNat)
  case atStart => exact ⟨0, n, [], by omega, rfl, rfl, rfl, rfl, rfl, by rw [Nat.pow_zero, Nat.mul_one]; exact hn⟩
  case round =>
    obtain ⟨k, m, l, hk, hl, rfl, rfl, hp, rfl, hm⟩ := hrel
    have Hl := Lib.hid hl
    have Hp := Lib.hid hp
    by_cases hlt : 0 < m
    · have hk9 : k < 8 := by
        rcases Nat.lt_or_ge k 8 with h | h
        · exact h
        · obtain rfl : k = 8 := by omega
          have := hm.out
          omega
      have hc := bigArr_get k l hl hk9
      clear hl hp
      have hi : (8 - (k : Int) - 1).toNat = 7 - k := by omega
      go_wp2
      go_round
      case rel =>
        refine ⟨k+1, m/256, UInt8.ofNat (m % 256) :: l, by omega, by simp [Hl.out], by go_num, by congr 1; omega, ?_, ?_, pow_step8 m k hm.out⟩
        · rw [Hp.out, bigF_next k m l hlt hk9]
        · rw [B8_of _ (by omega) (by omega), bigArr_set k l Hl.out hk9]
          rfl
      case measure => simp [intOf]; omega
    · clear hl hp
      obtain ⟨off, hsl, Hoff⟩ : ∃ off, (∀ W, (Instr.sliceAt 47 (.pointer (some ⟨w.heap.size, 0, none⟩)) (some (.int .i64 (8 - (k : Int)))) none none).run Try.prog W = .ok (.slice (some ⟨w.heap.size, off, none⟩) k k) W) ∧ Hid (0 < k → off = 8 - k) :=
        ⟨if k = 0 then 0 else 8 - k, big_slice w k hk, fun h => by rw [if_neg (by omega)]⟩
      have hcv : (convert 46 9 (.slice (some ⟨w.heap.size, off, none⟩) k k)).run Try.prog (w.alloc (.cells (bigArr k l) 47)) = .ok (.string ⟨l.toArray⟩) (w.alloc (.cells (bigArr k l) 47)) := by
        refine conv_bytes 46 9 5 Try.underlying46 Try.underlying5 Try.underlying9 _ _ off _ _ _ _ _ l (new_block _ _) Hl.out (fun i x h => ?_)
        have hk1 : 0 < k := by
          have := (List.getElem?_eq_some_iff.1 h).1
          have := Hl.out
          omega
        rw [Hoff.out hk1]
        exact bigArr_out k l i x h
      go_wp2
      go_ret
      refine ⟨?_, (Below.refl _ _).alloc (Nat.le_refl _) _⟩
      rw [Hp.out, bigF_zero _ _ _ hlt]; rfl

set_option maxRecDepth 100000 in
set_option maxHeartbeats 400000 in
theorem rbig_any (n : Nat) (hn : U64 n) (w : World) :
    Calls Try.prog 22 #[.int .u64 n] w fun e w' => e = .returned (.string ⟨(bigF 8 n []).toArray⟩) ∧ Below w.heap.size w w' := by
  go_enter Try.func22, Try.ntmps22
  go_wp2
  go_loopw [0, 3] (fun a v wr => ∃ k m : Nat, ∃ l : List UInt8, k ≤ 8 ∧ l.length = k ∧ a = .int .u64 m ∧ v = .string ⟨l.toArray⟩ ∧ bigF 8 n [] = bigF (8-k) m l ∧ Below w.heap.size w wr ∧ Hid (m * 256 ^ k < 18446744073709551616))
     (fun a _ _ => (intOf a).toNat)
  case atStart => exact ⟨0, n, [], by omega, rfl, rfl, rfl, rfl, Below.refl _ _, by rw [Nat.pow_zero, Nat.mul_one]; exact hn⟩
  case round =>
    obtain ⟨k, m, l, hk, hl, rfl, rfl, hp, hb, hm⟩ := hrel
    have Hl := Lib.hid hl
    have Hp := Lib.hid hp
    clear hl hp
    by_cases hlt : 0 < m
    · have hk9 : k < 8 := by
        rcases Nat.lt_or_ge k 8 with h | h
        · exact h
        · obtain rfl : k = 8 := by omega
          have := hm.out
          omega
      have hq : IntKind.u64.wrap ((m : Int) / 256) = (m : Int) / 256 := quo_small8 m k hm.out
      have hcv : (convert 46 9 (.slice (some ⟨wr.heap.size, 0, none⟩) 1 1)).run Try.prog (wr.alloc (.cells #[.int .u8 ((m : Int) % 256)] 5)) = .ok (.string ⟨[UInt8.ofNat (m % 256)].toArray⟩) (wr.alloc (.cells #[.int .u8 ((m : Int) % 256)] 5)) := by
        refine conv_bytes 46 9 5 Try.underlying46 Try.underlying5 Try.underlying9 _ _ _ _ _ _ _ _ [UInt8.ofNat (m % 256)] (new_block _ _) rfl (fun i x h => ?_)
        rw [B8_of _ (by omega) (by omega)]
        have e : ((m : Int) % 256).toNat = m % 256 := by omega
        rw [e]
        match i, h with
        | 0, h =>
          simp at h
          simp [h]
      have hl8 : l.length ≤ 8 := by have := Hl.out; omega
      go_wp2
      go_roundw
      case rel =>
        refine ⟨k+1, m/256, UInt8.ofNat (m % 256) :: l, by omega, by simp [Hl.out], by go_num, congrArg Value.string (str_app [_] l), ?_, hb.alloc hb.size _, pow_step8 m k hm.out⟩
        rw [Hp.out, bigF_next k m l hlt hk9]
      case measure => simp [intOf]; omega
    · go_wp2
      go_ret
      refine ⟨?_, hb⟩
      rw [Hp.out, bigF_zero _ _ _ hlt]; rfl

def fromF : List UInt8 → Nat → Nat
  | [], n => n
  | b :: r, n => fromF r (n * 256 + b.toNat)
def fromBig (l : List UInt8) : Nat × Nat :=
  if l.head? = some 0 then (0, 2) else if 8 < l.length then (0, 7) else (fromF l 0, 0)
theorem or_byte (n : Nat) (b : UInt8) (k : Nat) (h : n < 256 ^ k) (hk : k < 8) : bits .or .u64 (IntKind.u64.wrap ((n : Int) * 256)) (b.toNat : Int) = ((n * 256 + b.toNat : Nat) : Int) ∧ n * 256 + b.toNat < 256 ^ (k+1) := by
  have hb := b.toNat_lt
  have h7 : 256 ^ k ≤ 256 ^ 7 := Nat.pow_le_pow_right (by omega) (by omega)
  have e7 : (256:Nat) ^ 7 = 72057594037927936 := by decide
  refine ⟨?_, by rw [Nat.pow_succ]; omega⟩
  have e : IntKind.u64.wrap ((n : Int) * 256) = ((n * 256 : Nat) : Int) := by rw [IntKind.wrap_u64]; omega
  rw [e, u64_or_nat _ _ (by omega) (by omega)]
  congr 1
  have := Nat.two_pow_add_eq_or_of_lt (show b.toNat < 2 ^ 8 from hb) n
  rw [Nat.mul_comm n, show (256 : Nat) = 2 ^ 8 from rfl, ← this]
theorem add_byte (n : Nat) (b : UInt8) (k : Nat) (h : n < 256 ^ k) (hk : k < 8) : IntKind.u64.wrap (IntKind.u64.wrap ((n : Int) * 256) + (b.toNat : Int)) = ((n * 256 + b.toNat : Nat) : Int) := by
  have hb := b.toNat_lt
  have h7 : 256 ^ k ≤ 256 ^ 7 := Nat.pow_le_pow_right (by omega) (by omega)
  have e7 : (256:Nat) ^ 7 = 72057594037927936 := by decide
  rw [IntKind.wrap_u64, IntKind.wrap_u64]; omega
theorem byte_zero (b : UInt8) (h : b.toNat = 0) : b = 0 := UInt8.toNat_inj.1 (by simpa using h)

set_option maxRecDepth 100000 in
set_option maxHeartbeats 400000 in
theorem frombig_any (l : List UInt8) (w : World) (hlen : l.length ≤ 9223372036854775807) :
    Calls Try.prog 21 #[.string ⟨l.toArray⟩] w fun e w' => e = .returned (.tuple #[.int .u64 (fromBig l).1, .int .i64 (fromBig l).2]) ∧ w = w' := by
  match l, hlen with
  | [], _ =>
    go_enter Try.func21, Try.ntmps21
    go_wp2
    go_rounds 1
    go_ret2
    exact ⟨rfl, rfl⟩
  | b :: r, hlen =>
    have hb : ({ data := (b :: r).toArray } : ByteArray)[0]'(by simp [ByteArray.size]) = b := rfl
    by_cases h0 : b.toNat = 0
    · have H0 := Lib.hid h0
      have h0' : ((b.toNat : Int) == 0) = true := beq_iff_eq.2 (by omega)
      clear h0
      go_enter Try.func21, Try.ntmps21
      go_wp2
      go_ret2
      refine ⟨?_, rfl⟩
      rw [fromBig, if_pos (by simp [byte_zero b H0.out])]
      rfl
    · have h0' : ((b.toNat : Int) == 0) = false := beq_eq_false_iff_ne.2 (by omega)
      have hf : ¬ (b :: r).head? = some 0 := fun h => h0 (by simp at h; rw [h]; rfl)
      have HF := Lib.hid hf
      clear hf h0
      by_cases h8 : 8 < (r.length : Int) + 1
      · go_enter Try.func21, Try.ntmps21
        go_wp2
        go_ret2
        refine ⟨?_, rfl⟩
        rw [fromBig, if_neg HF.out, if_pos (by simp; omega)]
        rfl
      · go_enter Try.func21, Try.ntmps21
        go_wp2
        clear hb h0'
        go_loop [4, 18] (fun a i => ∃ k n : Nat, k ≤ r.length + 1 ∧ a = .int .u64 n ∧ i = .int .i64 k ∧ fromF (b :: r) 0 = fromF ((b :: r).drop k) n ∧ Hid (n < 256 ^ k)) (fun _ i => r.length + 1 - (intOf i).toNat)
        case atStart => exact ⟨0, 0, by omega, rfl, rfl, rfl, by show _ < _; omega⟩
        case round =>
          obtain ⟨k, n, hk, rfl, rfl, hp, hm⟩ := hrel
          have Hp := Lib.hid hp
          clear hp
          by_cases hlt : k < r.length + 1
          · obtain ⟨x, q, hd, hx, hq⟩ := byte_at (b :: r) k (by simpa using hlt)
            have Hd := Lib.hid hd
            have Hq := Lib.hid hq
            clear hd hq
            obtain ⟨m, hmv, Hm⟩ : ∃ m : Nat, bits .or .u64 (IntKind.u64.wrap ((n : Int) * 256)) (x.toNat : Int) = (m : Int) ∧ Hid (m = n * 256 + x.toNat) := ⟨_, (or_byte n x k hm.out (by omega)).1, rfl⟩
            have hxl : x.toNat < 256 := x.toNat_lt
            go_wp2
            go_round
            case rel => exact ⟨k + 1, m, by omega, rfl, by go_num, by rw [Hp.out, Hd.out, Hq.out, fromF, Hm.out], by have := (or_byte n x k hm.out (by omega)).2; have e := Hm.out; show m < _; omega⟩
            case measure => simp [intOf]; omega
          · go_wp2
            go_ret2
            refine ⟨?_, rfl⟩
            rw [fromBig, if_neg HF.out, if_neg (by simp; omega), Hp.out, List.drop_of_length_le (by simp; omega)]
            rfl

set_option maxRecDepth 100000 in
set_option maxHeartbeats 400000 in
theorem rfrombig_any (l : List UInt8) (w : World) (hlen : l.length ≤ 9223372036854775807) :
    Calls Try.prog 23 #[.string ⟨l.toArray⟩] w fun e w' => e = .returned (.tuple #[.int .u64 (fromBig l).1, .int .i64 (fromBig l).2]) ∧ w = w' := by
  match l, hlen with
  | [], _ =>
    go_enter Try.func23, Try.ntmps23
    go_wp2
    go_rounds 1
    go_ret2
    exact ⟨rfl, rfl⟩
  | b :: r, hlen =>
    have hb : ({ data := (b :: r).toArray } : ByteArray)[0]'(by simp [ByteArray.size]) = b := rfl
    by_cases h0 : b.toNat = 0
    · have H0 := Lib.hid h0
      have h0' : ((b.toNat : Int) == 0) = true := beq_iff_eq.2 (by omega)
      clear h0
      go_enter Try.func23, Try.ntmps23
      go_wp2
      go_ret2
      refine ⟨?_, rfl⟩
      rw [fromBig, if_pos (by simp [byte_zero b H0.out])]
      rfl
    · have h0' : ((b.toNat : Int) == 0) = false := beq_eq_false_iff_ne.2 (by omega)
      have hf : ¬ (b :: r).head? = some 0 := fun h => h0 (by simp at h; rw [h]; rfl)
      have HF := Lib.hid hf
      clear hf h0
      by_cases h8 : 8 < (r.length : Int) + 1
      · go_enter Try.func23, Try.ntmps23
        go_wp2
        go_ret2
        refine ⟨?_, rfl⟩
        rw [fromBig, if_neg HF.out, if_pos (by simp; omega)]
        rfl
      · go_enter Try.func23, Try.ntmps23
        go_wp2
        clear hb h0'
        go_loop [4, 5] (fun a i => ∃ k n : Nat, k ≤ r.length + 1 ∧ a = .int .u64 n ∧ i = .int .i64 k ∧ fromF (b :: r) 0 = fromF ((b :: r).drop k) n ∧ Hid (n < 256 ^ k)) (fun _ i => r.length + 1 - (intOf i).toNat)
        case atStart => exact ⟨0, 0, by omega, rfl, rfl, rfl, by show _ < _; omega⟩
        case round =>
          obtain ⟨k, n, hk, rfl, rfl, hp, hm⟩ := hrel
          have Hp := Lib.hid hp
          clear hp
          by_cases hlt : k < r.length + 1
          · obtain ⟨x, q, hd, hx, hq⟩ := byte_at (b :: r) k (by simpa using hlt)
            have Hd := Lib.hid hd
            have Hq := Lib.hid hq
            clear hd hq
            obtain ⟨m, hmv, Hm⟩ : ∃ m : Nat, IntKind.u64.wrap (IntKind.u64.wrap ((n : Int) * 256) + (x.toNat : Int)) = (m : Int) ∧ Hid (m = n * 256 + x.toNat) := ⟨_, add_byte n x k hm.out (by omega), rfl⟩
            have hxl : x.toNat < 256 := x.toNat_lt
            go_wp2
            go_round
            case rel => exact ⟨k + 1, m, by omega, rfl, by go_num, by rw [Hp.out, Hd.out, Hq.out, fromF, Hm.out], by have := (or_byte n x k hm.out (by omega)).2; have e := Hm.out; show m < _; omega⟩
            case measure => simp [intOf]; omega
          · go_wp2
            go_ret2
            refine ⟨?_, rfl⟩
            rw [fromBig, if_neg HF.out, if_neg (by simp; omega), Hp.out, List.drop_of_length_le (by simp; omega)]
            rfl
end Go.Proofs.Ytapakjdghgbdlaa

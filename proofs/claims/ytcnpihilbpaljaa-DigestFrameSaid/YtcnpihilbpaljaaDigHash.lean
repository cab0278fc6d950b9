/- What Hash, Hex and their references compute. No condition. -/
import Derived.Test.YtcnpihilbpaljaaVarGet
import Derived.Test.YtcnpihilbpaljaaVarRPut
namespace Go.Proofs.Ytcnpihilbpaljaa
open Go.ChangeShapes Go.WideShapes Go.ChangeAt Go.RowKit

def hstep (h : Nat) (b : UInt8) : Nat := (h ^^^ b.toNat) * 1099511628211 % 18446744073709551616
def hashL (h : Nat) (l : List UInt8) : Nat := l.foldl hstep h
def hash0 : Nat := 14695981039346656037
theorem hstep_u64 (h : Nat) (b : UInt8) : U64 (hstep h b) := by unfold hstep U64; exact Nat.mod_lt _ (by omega)
theorem hashL_u64 (l : List UInt8) : ∀ {h : Nat}, U64 h → U64 (hashL h l) := by
  induction l with
  | nil => intro h hh; exact hh
  | cons b r ih => intro h _; exact ih (hstep_u64 h b)
theorem hstep_bits (h : Nat) (hh : U64 h) (b : UInt8) : ∃ m : Nat, IntKind.u64.wrap (bits .xor .u64 (h : Int) (b.toNat : Int) * 1099511628211) = (m : Int) ∧ Hid (m = hstep h b) := by
  have hb := b.toNat_lt
  refine ⟨hstep h b, ?_, rfl⟩
  rw [u64_xor_nat h b.toNat hh (by omega), IntKind.wrap_u64]
  unfold hstep
  omega

set_option maxRecDepth 100000 in
set_option maxHeartbeats 400000 in
theorem dhash_any (l : List UInt8) (hlen : l.length ≤ 9223372036854775807) (w : World) :
    Calls Try.prog 16 #[.string ⟨l.toArray⟩] w fun e w' => e = .returned (.int .u64 (hashL hash0 l)) ∧ w = w' := by
  go_enter Try.func16, Try.ntmps16
  go_wp2
  go_loop [3, 7] (fun a i => ∃ k x : Nat, k ≤ l.length ∧ a = .int .u64 x ∧ i = .int .i64 k ∧ hashL hash0 l = hashL x (l.drop k) ∧ Hid (U64 x)) (fun _ i => l.length - (intOf i).toNat)
  case atStart => exact ⟨0, hash0, by omega, rfl, rfl, rfl, by show U64 _; unfold U64 hash0; omega⟩
  case round =>
    obtain ⟨k, x, hk, rfl, rfl, hp, hx⟩ := hrel
    have Hp := Lib.hid hp
    clear hp
    by_cases hlt : k < l.length
    · obtain ⟨b, r, hd, hb, hr⟩ := byte_at l k hlt
      have Hd := Lib.hid hd
      have Hr := Lib.hid hr
      clear hd hr
      have hbl : b.toNat < 256 := b.toNat_lt
      obtain ⟨y, hy, Hy⟩ := hstep_bits x hx.out b
      go_wp2
      go_round
      case rel => exact ⟨k + 1, y, by omega, rfl, by go_num, by rw [Hp.out, Hd.out, Hr.out, hashL, List.foldl_cons, Hy.out]; rfl, by rw [Hy.out]; exact hstep_u64 x b⟩
      case measure => simp [intOf]; omega
    · go_wp2
      go_ret
      exact ⟨ret_int (by rw [Hp.out, List.drop_of_length_le (by omega)]; rfl), rfl⟩

set_option maxRecDepth 100000 in
set_option maxHeartbeats 400000 in
theorem rhash_any (l : List UInt8) (hlen : l.length ≤ 9223372036854775807) (w : World) :
    Calls Try.prog 17 #[.string ⟨l.toArray⟩] w fun e w' => e = .returned (.int .u64 (hashL hash0 l)) ∧ w = w' := by
  go_enter Try.func17, Try.ntmps17
  go_wp2
  go_loop [3, 4] (fun a i => ∃ k x : Nat, k ≤ l.length ∧ a = .int .u64 x ∧ i = .int .i64 k ∧ hashL hash0 l = hashL x (l.drop k) ∧ Hid (U64 x)) (fun _ i => l.length - (intOf i).toNat)
  case atStart => exact ⟨0, hash0, by omega, rfl, rfl, rfl, by show U64 _; unfold U64 hash0; omega⟩
  case round =>
    obtain ⟨k, x, hk, rfl, rfl, hp, hx⟩ := hrel
    have Hp := Lib.hid hp
    clear hp
    by_cases hlt : k < l.length
    · obtain ⟨b, r, hd, hb, hr⟩ := byte_at l k hlt
      have Hd := Lib.hid hd
      have Hr := Lib.hid hr
      clear hd hr
      have hbl : b.toNat < 256 := b.toNat_lt
      obtain ⟨y, hy, Hy⟩ := hstep_bits x hx.out b
      go_wp2
      go_round
      case rel => exact ⟨k + 1, y, by omega, rfl, by go_num, by rw [Hp.out, Hd.out, Hr.out, hashL, List.foldl_cons, Hy.out]; rfl, by rw [Hy.out]; exact hstep_u64 x b⟩
      case measure => simp [intOf]; omega
    · go_wp2
      go_ret
      exact ⟨ret_int (by rw [Hp.out, List.drop_of_length_le (by omega)]; rfl), rfl⟩

def dg (d : Nat) : UInt8 := if d < 10 then UInt8.ofNat (48 + d) else UInt8.ofNat (87 + d)
def hexDigit (n k : Nat) : UInt8 := dg (n / 2 ^ (60 - 4 * k) % 16)
def hexL (n : Nat) : List UInt8 := (List.range 16).map (hexDigit n)

def hexArr (k n : Nat) : Array Value := (((List.range k).map (hexDigit n)).map B8 ++ List.replicate (16-k) (B8 0)).toArray
theorem hexArr_get (k n : Nat) (hk : k < 16) : (hexArr k n)[k]? = some (B8 0) := by
  unfold hexArr; rw [List.getElem?_toArray, List.getElem?_append_right (by simp), List.getElem?_replicate_of_lt (by simp; omega)]
theorem hexArr_set (k n : Nat) (hk : k < 16) : (hexArr k n).setIfInBounds k (B8 (hexDigit n k)) = hexArr (k+1) n := by
  unfold hexArr
  rw [List.setIfInBounds_toArray]
  congr 1
  have : 16 - k = (16 - (k+1)) + 1 := by omega
  rw [this, List.replicate_succ, List.set_append_right _ _ (by simp), List.range_succ]
  simp

theorem hexArr_out (n i : Nat) (x : UInt8) (h : (hexL n)[i]? = some x) : (hexArr 16 n)[i]? = some (B8 x) := by
  unfold hexArr
  rw [List.getElem?_toArray]
  unfold hexL at h
  rw [List.getElem?_append_left (by have := (List.getElem?_eq_some_iff.1 h).1; simpa using this), List.getElem?_map, h]
  rfl
theorem and_nibble (n : Nat) (hn : U64 n) (s : Nat) : bits .and .u64 ((n : Int) / 2 ^ s) 15 = ((n / 2 ^ s % 16 : Nat) : Int) := by
  have h1 : n / 2 ^ s ≤ n := Nat.div_le_self _ _
  have e : (n : Int) / 2 ^ s = ((n / 2 ^ s : Nat) : Int) := by norm_cast
  rw [e]
  generalize n / 2 ^ s = q at *
  have h : bits .and .u64 (q : Int) 15 = (q : Int) % 16 := bits_mask .u64 64 (by decide) (fun n h0 h1 => by rw [IntKind.wrap_u64]; omega) 4 (by decide) (q : Int) (by omega) (by unfold U64 at hn; omega)
  rw [h]
  omega
theorem dg_utf8 (d : Nat) (h : d < 16) : Utf8.encode ((dg d).toNat : Int) = { data := [dg d].toArray } := by
  have : ∀ i : Fin 16, Utf8.encode ((dg i.val).toNat : Int) = { data := [dg i.val].toArray } := by decide +kernel
  exact this ⟨d, h⟩
theorem dig_at (d : Nat) (h : d < 16) : ∃ x : UInt8, ({ data := #[48, 49, 50, 51, 52, 53, 54, 55, 56, 57, 97, 98, 99, 100, 101, 102] } : ByteArray)[d]'h = x ∧ Hid (x = dg d) := by
  have : ∀ i : Fin 16, ({ data := #[48, 49, 50, 51, 52, 53, 54, 55, 56, 57, 97, 98, 99, 100, 101, 102] } : ByteArray)[i.val]'i.isLt = dg i.val := by decide +kernel
  exact ⟨_, rfl, this ⟨d, h⟩⟩

set_option maxRecDepth 100000 in
set_option maxHeartbeats 400000 in
theorem dhex_any (n : Nat) (hn : U64 n) (w : World) :
    Calls Try.prog 26 #[.int .u64 n] w fun e w' => e = .returned (.string ⟨(hexL n).toArray⟩) ∧ Below w.heap.size w w' := by
  go_enter Try.func26, Try.ntmps26
  have hmk : ∀ w : World, (Instr.makeSlice 30 (.int .i64 16) (.int .i64 16)).run Try.prog w = .ok (.slice (some ⟨w.heap.size, 0, none⟩) 16 16) (w.alloc (.cells (hexArr 0 n) 5)) := fun _ => by kernel_rfl
  go_wp2
  clear hmk
  go_loopw [8] (fun i wr => ∃ k : Nat, k ≤ 16 ∧ i = .int .i64 k ∧ wr = w.alloc (.cells (hexArr k n) 5)) (fun i _ => 16 - (intOf i).toNat)
  case atStart => exact ⟨0, by omega, rfl, rfl⟩
  case round =>
    obtain ⟨k, hk, rfl, rfl⟩ := hrel
    by_cases hlt : k < 16
    · have hc := hexArr_get k n hlt
      have hsh : (60 - 4 * (k : Int)).toNat = 60 - 4 * k := by omega
      obtain ⟨d, hd, hd16, Hd⟩ : ∃ d : Nat, bits .and .u64 ((n : Int) / 2 ^ (60 - 4 * k)) 15 = (d : Int) ∧ d < 16 ∧ Hid (d = n / 2 ^ (60 - 4 * k) % 16) :=
        ⟨_, and_nibble n hn (60 - 4 * k), Nat.mod_lt _ (by omega), rfl⟩
      obtain ⟨x, hx, Hx⟩ := dig_at d hd16
      have hxl : x.toNat < 256 := x.toNat_lt
      go_wp2
      go_roundw
      case rel =>
        refine ⟨k + 1, by omega, by go_num, ?_⟩
        have e : x = hexDigit n k := by rw [Hx.out, Hd.out]; rfl
        rw [← hexArr_set k n hlt, ← e]
        rfl
      case measure => simp [intOf]; omega
    · obtain rfl : k = 16 := by omega
      have hcv : (convert 30 9 (.slice (some ⟨w.heap.size, 0, none⟩) 16 16)).run Try.prog (w.alloc (.cells (hexArr 16 n) 5)) = .ok (.string ⟨(hexL n).toArray⟩) (w.alloc (.cells (hexArr 16 n) 5)) := by
        refine conv_bytes 30 9 5 Try.underlying30 Try.underlying5 Try.underlying9 _ _ 0 _ _ _ _ _ (hexL n) (new_block _ _) (by simp [hexL]) (fun i x h => ?_)
        rw [Nat.zero_add]
        exact hexArr_out n i x h
      go_wp2
      go_ret
      exact ⟨rfl, (Below.refl _ _).alloc (Nat.le_refl _) _⟩

/-- the same digits, the least significant one first -/
def hexLow : Nat → Nat → List UInt8 → List UInt8
  | 0, _, acc => acc
  | f+1, n, acc => hexLow f (n / 16) (dg (n % 16) :: acc)
theorem hexLow_eq (f n : Nat) : ∀ acc, hexLow f n acc = (List.range f).map (fun i => dg (n / 16 ^ (f - 1 - i) % 16)) ++ acc := by
  induction f generalizing n with
  | zero => intro acc; simp [hexLow]
  | succ f ih =>
    intro acc
    rw [hexLow, ih, List.range_succ, List.map_append, List.append_assoc]
    congr 1
    · refine List.map_congr_left fun i hi => ?_
      have hi := List.mem_range.1 hi
      rw [Nat.div_div_eq_div_mul, show f + 1 - 1 - i = (f - 1 - i) + 1 from by omega, Nat.pow_succ, Nat.mul_comm]
    · simp
theorem hexLow_hex (n : Nat) : hexLow 16 n [] = hexL n := by
  rw [hexLow_eq, List.append_nil]
  refine List.map_congr_left fun i hi => ?_
  have hi := List.mem_range.1 hi
  unfold hexDigit
  rw [show (16 : Nat) = 2 ^ 4 from rfl, ← Nat.pow_mul]
  congr 5
  omega

def RelHex (n : Nat) (a s i : Value) : Prop := ∃ k m : Nat, ∃ l : List UInt8, k ≤ 16 ∧ l.length = k ∧ a = .int .u64 m ∧ s = .string ⟨l.toArray⟩ ∧ i = .int .i64 k ∧ hexLow 16 n [] = hexLow (16 - k) m l ∧ Hid (U64 m)

set_option maxRecDepth 100000 in
set_option maxHeartbeats 400000 in
theorem rhex_any (n : Nat) (hn : U64 n) (w : World) :
    Calls Try.prog 27 #[.int .u64 n] w fun e w' => e = .returned (.string ⟨(hexL n).toArray⟩) ∧ w = w' := by
  go_enter Try.func27, Try.ntmps27
  go_wp2
  go_loop [0, 3, 4] (RelHex n) (fun _ _ i => 16 - (intOf i).toNat)
  case atStart => exact ⟨0, n, [], by omega, rfl, rfl, rfl, rfl, rfl, hn⟩
  case round =>
    obtain ⟨k, m, l, hk, hl, rfl, rfl, rfl, hp, hm⟩ := hrel
    have Hp := Lib.hid hp
    have Hl := Lib.hid hl
    have hl16 : l.length ≤ 16 := by omega
    clear hp hl
    by_cases hlt : k < 16
    · obtain ⟨x, hx, Hx⟩ := dig_at (m % 16) (Nat.mod_lt _ (by omega))
      have hq : IntKind.u64.wrap ((m : Int) / 16) = (m : Int) / 16 := by have := hm.out; unfold U64 at this; rw [IntKind.wrap_u64]; omega
      have hxl : x.toNat < 256 := x.toNat_lt
      have Hn16 : Hid (U64 (m / 16)) := by have := hm.out; unfold U64 at this; show _ < _; omega
      go_wp2
      · exfalso
        have h1 : (Utf8.encode (x.toNat : Int)).size = 1 := by rw [Hx.out, dg_utf8 _ (Nat.mod_lt _ (by omega))]; rfl
        omega
      go_round
      case rel =>
        refine ⟨k + 1, m / 16, x :: l, by omega, by simp [Hl.out], by go_num, by rw [Hx.out, dg_utf8 _ (Nat.mod_lt _ (by omega)), ← Hx.out, str_app]; rfl, by go_num, ?_, Hn16.out⟩
        rw [Hp.out, show 16 - k = (16 - (k + 1)) + 1 from by omega, hexLow, Hx.out]
      case measure => simp [intOf]; omega
    · go_wp2
      go_ret
      exact ⟨ret_str (by rw [← hexLow_hex, Hp.out, show 16 - k = 0 from by omega]; rfl), rfl⟩
end Go.Proofs.Ytcnpihilbpaljaa

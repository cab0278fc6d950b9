/- The hash of a string. What fingerprint.Of computes: the hash of the canonical bytes, or an error. What Wrap and Unwrap compute. Plain: the canonical bytes of the document's examples. No condition. -/
import Derived.Test.YtlamhkffnlgofaaGreatDoorHAA
import Derived.Test.YtlamhkffnlgofaaGreatDoorFpb
import Derived.Test.YtlamhkffnlgofaaGreatDoorHAL
import Derived.OwnWalk
import Derived.Test.YtlamhkffnlgofaaGreatDoorFpr9
set_option maxHeartbeats 800000
namespace Go.Proofs.YtlamhkffnlgofaaGreatDoor
open Go.ChangeShapes Go.WideShapes Go.ChangeAt Go.RowKit
def hstep (h : Nat) (b : UInt8) : Nat := (h ^^^ b.toNat) * 1099511628211 % 18446744073709551616
def hashL (h : Nat) (l : List UInt8) : Nat := l.foldl hstep h
def hash0 : Nat := 14695981039346656037
theorem hstep_u64 (h : Nat) (b : UInt8) : U64 (hstep h b) := by unfold hstep U64; exact Nat.mod_lt _ (by omega)
theorem hstep_bits (h : Nat) (hh : U64 h) (b : UInt8) : ∃ m : Nat, IntKind.u64.wrap (bits .xor .u64 (h : Int) (b.toNat : Int) * 1099511628211) = (m : Int) ∧ Hid (m = hstep h b) := by
 have hb := b.toNat_lt
 refine ⟨hstep h b, ?_, rfl⟩
 rw [u64_xor_nat h b.toNat hh (by omega), IntKind.wrap_u64]
 unfold hstep
 omega
set_option maxRecDepth 100000 in
theorem dhash_any (l : List UInt8) (hlen : l.length ≤ 9223372036854775807) (w : World) :
  Calls Tryz.prog 42 #[.string ⟨l.toArray⟩] w fun e w' => e = .returned (.int .u64 (hashL hash0 l)) ∧ w = w' := by
 go_enter Tryz.func42, Tryz.ntmps42
 go_wp2
 go_loop [3, 7] (fun a i => ∃ k x : Nat, k ≤ l.length ∧ a = .int .u64 x ∧ i = .int .i64 k ∧ hashL hash0 l = hashL x (l.drop k) ∧ Hid (U64 x)) (fun _ i => l.length - (intOf i).toNat)
 case atStart => exact ⟨0, hash0, by omega, rfl, rfl, rfl, by show U64 _; unfold U64 hash0; omega⟩
 case round =>
  obtain ⟨k, x, hk, rfl, rfl, hp, hx⟩ := hrel
  have Hp := Lib.hid hp
  clear hp
  by_cases hlt : k < l.length
  ·
   obtain ⟨b, r, hd, hb, hr⟩ := byte_at l k hlt
   have Hd := Lib.hid hd
   have Hr := Lib.hid hr
   clear hd hr
   have hbl : b.toNat < 256 := b.toNat_lt
   obtain ⟨y, hy, Hy⟩ := hstep_bits x hx.out b
   go_wp2
   go_round
   case rel => exact ⟨k + 1, y, by omega, rfl, by go_num, by rw [Hp.out, Hd.out, Hr.out, hashL, List.foldl_cons, Hy.out]; rfl, by rw [Hy.out]; exact hstep_u64 x b⟩
   case measure => simp [intOf]; omega
  go_wp2
  go_ret
  exact ⟨ret_int (by rw [Hp.out, List.drop_of_length_le (by omega)]; rfl), rfl⟩
set_option maxRecDepth 100000 in
theorem rhash_any (l : List UInt8) (hlen : l.length ≤ 9223372036854775807) (w : World) :
  Calls Tryz.prog 36 #[.string ⟨l.toArray⟩] w fun e w' => e = .returned (.int .u64 (hashL hash0 l)) ∧ w = w' := by
 go_enter Tryz.func36, Tryz.ntmps36
 go_wp2
 go_loop [3, 4] (fun a i => ∃ k x : Nat, k ≤ l.length ∧ a = .int .u64 x ∧ i = .int .i64 k ∧ hashL hash0 l = hashL x (l.drop k) ∧ Hid (U64 x)) (fun _ i => l.length - (intOf i).toNat)
 case atStart => exact ⟨0, hash0, by omega, rfl, rfl, rfl, by show U64 _; unfold U64 hash0; omega⟩
 case round =>
  obtain ⟨k, x, hk, rfl, rfl, hp, hx⟩ := hrel
  have Hp := Lib.hid hp
  clear hp
  by_cases hlt : k < l.length
  ·
   obtain ⟨b, r, hd, hb, hr⟩ := byte_at l k hlt
   have Hd := Lib.hid hd
   have Hr := Lib.hid hr
   clear hd hr
   have hbl : b.toNat < 256 := b.toNat_lt
   obtain ⟨y, hy, Hy⟩ := hstep_bits x hx.out b
   go_wp2
   go_round
   case rel => exact ⟨k + 1, y, by omega, rfl, by go_num, by rw [Hp.out, Hd.out, Hr.out, hashL, List.foldl_cons, Hy.out]; rfl, by rw [Hy.out]; exact hstep_u64 x b⟩
   case measure => simp [intOf]; omega
  go_wp2
  go_ret
  exact ⟨ret_int (by rw [Hp.out, List.drop_of_length_le (by omega)]; rfl), rfl⟩
end Go.Proofs.YtlamhkffnlgofaaGreatDoor
namespace Go.Proofs.YtlamhkffnlgofaaGreatDoor
open Go.ChangeShapes Go.WideShapes Go.ChangeAt Go.RowKit
noncomputable def fpE (ts : List Typ) (t : Int) : Nat × Int := if (bytE ts t).2 ≠ 0 then (0, (bytE ts t).2) else (hashL hash0 (bytE ts t).1, 0)
set_option maxRecDepth 100000 in
theorem fpOf_any (ts : List Typ) (A : Option Addr) (c : Nat) (t : Int) (w : World) (hl : (bytE ts t).1.length ≤ 1000000000000)
  (hb : ∀ W, Below w.heap.size w W → Calls Tryz.prog 22 #[.agg #[.slice A ts.length c, .int .i64 t]] W fun e w' => e = .returned (.tuple #[.string ⟨(bytE ts t).1.toArray⟩, .int .i64 (bytE ts t).2]) ∧ Below W.heap.size W w') :
  Calls Tryz.prog 16 #[.agg #[.slice A ts.length c, .int .i64 t]] w fun e w' => e = .returned (.tuple #[.int .u64 ((fpE ts t).1 : Nat), .int .i64 (fpE ts t).2]) ∧ Below w.heap.size w w' := by
 have hf : fpE ts t = if (bytE ts t).2 ≠ 0 then (0, (bytE ts t).2) else (hashL hash0 (bytE ts t).1, 0) := rfl
 generalize fpE ts t = q at *
 generalize bytE ts t = p at *
 obtain ⟨l, n⟩ := p
 simp only at hf hb hl
 have HB := Lib.hid hb
 clear hb
 go_enter Tryz.func16, Tryz.ntmps16
 go_upto_region 1 with fail
 refine am1 (fun wd2 hb1 P => ?_)
 have hw3 := hb1
 clear hb1
 obtain ⟨cP_0, cP_1⟩ := P.out.c2
 go_wp2_with fail
 clear cP_0 cP_1
 ((with_reducible refine (HB.out _ hw3).mono ?_); rintro e wd4 ⟨rfl, hb5⟩)
 replace P := b1 P hb5
 replace hw3 := dT hw3 hb5
 clear hb5
 by_cases hn : n = 0
 ·
  subst hn
  rw [if_neg (by simp)] at hf
  subst hf
  go_wp2_with fail
  ((with_reducible refine (dhash_any l (by omega) _).mono ?_); rintro e wd6 ⟨rfl, rfl⟩)
  go_wp2_with fail
  exact bodyPost_ret (v := .tuple #[.int .u64 (hashL hash0 l : Nat), .int .i64 0]) (by simp [results, Tryz.results16, go_sem]) rfl (⟨rfl, hw3⟩)
 rw [if_pos hn] at hf
 have t1 : (n == 0) = false := by simpa using hn
 subst hf
 clear hn
 go_wp2_with fail
 exact bodyPost_ret (v := .tuple #[.int .u64 0, .int .i64 n]) (by simp [results, Tryz.results16, go_sem]) rfl (⟨rfl, hw3⟩)
end Go.Proofs.YtlamhkffnlgofaaGreatDoor
namespace Go.Proofs.YtlamhkffnlgofaaGreatDoor
open Go.ChangeShapes Go.WideShapes Go.ChangeAt Go.RowKit
def beF : Nat → Nat → List UInt8
 | 0, _ => []
 | k + 1, n => UInt8.ofNat (n / 256 ^ k) :: beF k n
theorem beF_len : ∀ (k n : Nat), (beF k n).length = k
 | 0, _ => rfl
 | k + 1, n => by rw [beF, List.length_cons, beF_len k n]
theorem fromF_be : ∀ (k n a : Nat), fromF (beF k n) a = a * 256 ^ k + n % 256 ^ k
 | 0, n, a => by rw [beF, fromF, Nat.pow_zero, Nat.mod_one]; omega
 | k + 1, n, a => by
  rw [beF, fromF, fromF_be k n]
  have h1 : (UInt8.ofNat (n / 256 ^ k)).toNat = n / 256 ^ k % 256 := by simp
  rw [h1, Nat.pow_succ, Nat.add_mul, Nat.mod_mul, Nat.mul_assoc, Nat.mul_comm 256 (256 ^ k), Nat.mul_comm (n / 256 ^ k % 256)]
  omega
theorem fromF_be8 {n : Nat} (h : U64 n) : fromF (beF 8 n) 0 = n := by
 rw [fromF_be]
 unfold U64 at h
 have : (256 : Nat) ^ 8 = 18446744073709551616 := by decide
 rw [this, Nat.mod_eq_of_lt h]; omega
def wrapE (f : Nat) (m : List UInt8) : List UInt8 × Int := if 4096 < m.length then ([], 3) else (beF 8 f ++ m, 0)
def unwrapE (e : List UInt8) : Nat × List UInt8 × Int := if e.length < 8 then (0, [], 10) else if 4104 < e.length then (0, [], 3) else (fromF (e.take 8) 0, e.drop 8, 0)
theorem unwrap_wrap {f : Nat} (hf : U64 f) {m : List UInt8} (hm : m.length ≤ 4096) : unwrapE (beF 8 f ++ m) = (f, m, 0) := by
 have h8 := beF_len 8 f
 unfold unwrapE
 rw [List.length_append, h8, if_neg (by omega), if_neg (by omega)]
 have h1 : (beF 8 f ++ m).take 8 = beF 8 f := List.take_left' h8
 have h2 : (beF 8 f ++ m).drop 8 = m := List.drop_left' h8
 rw [h1, h2, fromF_be8 hf]
set_option maxRecDepth 100000 in
theorem rwrap_any (f : Nat) (hf : U64 f) (m : List UInt8) (hm : m.length ≤ 9223372036854775000) (w : World) :
  Calls Tryz.prog 32 #[.int .u64 (f : Nat), .string ⟨m.toArray⟩] w fun e w' => e = .returned (.tuple #[.string ⟨(wrapE f m).1.toArray⟩, .int .i64 (wrapE f m).2]) ∧ Below w.heap.size w w' := by
 by_cases hlt : 4096 < m.length
 ·
  have he : Hid (wrapE f m = ([], 3)) := by show _ = _; unfold wrapE; rw [if_pos hlt]
  have h1 : (4096 : Int) < m.length := by omega
  go_enter Tryz.func32, Tryz.ntmps32
  go_wp2
  go_ret2
  exact ⟨by rw [he.out]; rfl, Below.refl _ _⟩
 have he : Hid (wrapE f m = (beF 8 f ++ m, 0)) := by show _ = _; unfold wrapE; rw [if_neg hlt]
 have h1 : ¬ (4096 : Int) < m.length := by omega
 have hf2 : f * 256 ^ 0 ≤ 18446744073709551615 := by unfold U64 at hf; omega
 have HF := Lib.hid hf
 clear hf
 go_enter Tryz.func32, Tryz.ntmps32
 go_upto_region 5 with fail
 go_loopw [0, 6, 7] (fun a v s wr => ∃ k q : Nat, k ≤ 8 ∧ a = .int .u64 (q : Nat) ∧ v = .string ⟨(beF k f ++ m).toArray⟩ ∧ s = .int .i64 k ∧ Hid (q = f / 256 ^ k) ∧ q ≤ 18446744073709551615 ∧ Below w.heap.size w wr) (fun _ _ s _ => 8 - (intOf s).toNat)
 case atStart => exact ⟨0, f, by omega, rfl, rfl, rfl, by show _ = _; rw [Nat.pow_zero, Nat.div_one], by omega, Below.refl _ _⟩
 case round =>
  obtain ⟨k, q, hk, rfl, rfl, rfl, hq, hqu, hb⟩ := hrel
  by_cases hk8 : k < 8
  ·
   have hk8' : (k : Int) < 8 := by omega
   have hqq : IntKind.u64.wrap ((q : Int) / 256) = ((q / 256 : Nat) : Int) := by rw [IntKind.wrap_u64]; omega
   have hcv : ∀ W : World, (convert 87 9 (.slice (some ⟨W.heap.size, 0, none⟩) 1 1)).run Tryz.prog (W.alloc (.cells #[.int .u8 ((q : Int) % 256)] 5)) = .ok (.string ⟨[UInt8.ofNat q].toArray⟩) (W.alloc (.cells #[.int .u8 ((q : Int) % 256)] 5)) := fun W => by
    refine conv_bytes 87 9 5 Tryz.underlying87 Tryz.underlying5 Tryz.underlying9 _ _ _ _ _ _ _ _ [UInt8.ofNat q] (new_block _ _) rfl (fun i x h => ?_)
    rw [B8_of _ (by omega) (by omega)]
    have e : UInt8.ofNat ((q : Int) % 256).toNat = UInt8.ofNat q := by
     have e2 : ((q : Int) % 256).toNat = q % 256 := by omega
     rw [e2]; apply UInt8.toNat_inj.1; simp
    rw [e]
    match i, h with
    | 0, h =>
     simp at h
     simp [h]
   have hbl := beF_len k f
   have hbe : beF (k + 1) f ++ m = UInt8.ofNat q :: (beF k f ++ m) := by rw [beF, hq.out]; rfl
   have HBE := Lib.hid hbe
   have hll : (beF k f ++ m).length ≤ 9223372036854775100 := by rw [List.length_append, hbl]; omega
   generalize beF k f ++ m = u at *
   clear hbl hbe
   go_wp2
   go_roundw
   case rel => exact ⟨k + 1, q / 256, by omega, rfl, by rw [HBE.out]; exact congrArg Value.string (str_app [_] u), by go_num, by show _ = _; rw [hq.out, Nat.div_div_eq_div_mul, Nat.pow_succ], by omega, hb.alloc hb.size _⟩
   case measure => simp [intOf]; omega
  obtain rfl : k = 8 := by omega
  go_wp2
  go_ret2
  exact ⟨by rw [he.out]; rfl, hb⟩
set_option maxRecDepth 100000 in
theorem unwrap_any (l : List UInt8) (hl : l.length ≤ 9223372036854775000) (w : World) :
  Calls Tryz.prog 33 #[.string ⟨l.toArray⟩] w fun e w' => e = .returned (.tuple #[.int .u64 ((unwrapE l).1 : Nat), .string ⟨(unwrapE l).2.1.toArray⟩, .int .i64 (unwrapE l).2.2]) ∧ Below w.heap.size w w' := by
 by_cases hs : l.length < 8
 ·
  have he : Hid (unwrapE l = (0, [], 10)) := by show _ = _; unfold unwrapE; rw [if_pos hs]
  have h1 : (l.length : Int) < 8 := by omega
  go_enter Tryz.func33, Tryz.ntmps33
  go_wp2
  exact bodyPost_ret (v := .tuple #[.int .u64 0, .string ⟨#[]⟩, .int .i64 10]) (by simp [results, Tryz.results33, go_sem]) rfl (⟨by rw [he.out]; rfl, Below.refl _ _⟩)
 by_cases hg : 4104 < l.length
 ·
  have he : Hid (unwrapE l = (0, [], 3)) := by show _ = _; unfold unwrapE; rw [if_neg hs, if_pos hg]
  have h1 : ¬ (l.length : Int) < 8 := by omega
  have h2 : (4104 : Int) < l.length := by omega
  go_enter Tryz.func33, Tryz.ntmps33
  go_wp2
  exact bodyPost_ret (v := .tuple #[.int .u64 0, .string ⟨#[]⟩, .int .i64 3]) (by simp [results, Tryz.results33, go_sem]) rfl (⟨by rw [he.out]; rfl, Below.refl _ _⟩)
 have he : Hid (unwrapE l = (fromF (l.take 8) 0, l.drop 8, 0)) := by show _ = _; unfold unwrapE; rw [if_neg hs, if_neg hg]
 have h1 : ¬ (l.length : Int) < 8 := by omega
 have h2 : ¬ (4104 : Int) < l.length := by omega
 go_enter Tryz.func33, Tryz.ntmps33
 go_upto_region 7 with fail
 go_loopw [5, 13] (fun a s wr => ∃ k n : Nat, k ≤ 8 ∧ a = .int .u64 (n : Nat) ∧ s = .int .i64 k ∧ fromF (l.take 8) 0 = fromF ((l.take 8).drop k) n ∧ Hid (n < 256 ^ k) ∧ Below w.heap.size w wr) (fun _ s _ => 8 - (intOf s).toNat)
 case atStart => exact ⟨0, 0, by omega, rfl, rfl, rfl, by show _ < _; omega, Below.refl _ _⟩
 case round =>
  obtain ⟨k, n, hk, rfl, rfl, hp, hm, hb⟩ := hrel
  have Hp := Lib.hid hp
  clear hp
  by_cases hk8 : k < 8
  ·
   have hk8' : (k : Int) < 8 := by omega
   obtain ⟨x, q, hd, hx, hq⟩ := byte_at l k (by omega)
   have hd2 : (l.take 8).drop k = x :: (l.take 8).drop (k + 1) := by
    rw [List.drop_take, hd, List.drop_take, hq]
    obtain ⟨j, hj⟩ : ∃ j, 8 - k = j + 1 := ⟨7 - k, by omega⟩
    rw [hj, List.take_succ_cons]
    congr 2
    omega
   have Hd := Lib.hid hd2
   clear hd hq hd2
   obtain ⟨mm, hmv, Hm⟩ : ∃ mm : Nat, bits .or .u64 (IntKind.u64.wrap ((n : Int) * 256)) (x.toNat : Int) = (mm : Int) ∧ Hid (mm = n * 256 + x.toNat) := ⟨_, (or_byte n x k hm.out (by omega)).1, rfl⟩
   have hxl : x.toNat < 256 := x.toNat_lt
   have hlk : (k : Int) < l.length := by omega
   have hlk2 : decide (l.length ≤ k) = false := by simp; omega
   go_wp2
   go_roundw
   case rel => exact ⟨k + 1, mm, by omega, rfl, by go_num, by rw [Hp.out, Hd.out, fromF, Hm.out], by have := (or_byte n x k hm.out (by omega)).2; have e := Hm.out; show mm < _; omega, hb⟩
   case measure => simp [intOf]; omega
  obtain rfl : k = 8 := by omega
  have hfin : fromF (l.take 8) 0 = n := by rw [Hp.out, List.drop_eq_nil_of_le (by rw [List.length_take]; omega), fromF]
  have HFI := Lib.hid hfin
  clear hfin
  have hsl : ByteArray.extract ⟨l.toArray⟩ 8 l.length = ⟨(l.drop 8).toArray⟩ := str_from l 8 l.length rfl
  go_upto_region 11 with fail
  go_region
  all_goals
   go_wp2
   exact bodyPost_ret (v := .tuple #[.int .u64 (n : Nat), .string ⟨(l.drop 8).toArray⟩, .int .i64 0]) (by simp [results, Tryz.results33, go_sem]) rfl (⟨by rw [he.out, HFI.out], hb.drew⟩)
set_option maxRecDepth 100000 in
theorem runwrap_any (l : List UInt8) (hl : l.length ≤ 9223372036854775000) (w : World) :
  Calls Tryz.prog 34 #[.string ⟨l.toArray⟩] w fun e w' => e = .returned (.tuple #[.int .u64 ((unwrapE l).1 : Nat), .string ⟨(unwrapE l).2.1.toArray⟩, .int .i64 (unwrapE l).2.2]) ∧ Below w.heap.size w w' := by
 by_cases hs : l.length < 8
 ·
  have he : Hid (unwrapE l = (0, [], 10)) := by show _ = _; unfold unwrapE; rw [if_pos hs]
  have h1 : (l.length : Int) < 8 := by omega
  go_enter Tryz.func34, Tryz.ntmps34
  go_wp2
  exact bodyPost_ret (v := .tuple #[.int .u64 0, .string ⟨#[]⟩, .int .i64 10]) (by simp [results, Tryz.results34, go_sem]) rfl (⟨by rw [he.out]; rfl, Below.refl _ _⟩)
 by_cases hg : 4104 < l.length
 ·
  have he : Hid (unwrapE l = (0, [], 3)) := by show _ = _; unfold unwrapE; rw [if_neg hs, if_pos hg]
  have h1 : ¬ (l.length : Int) < 8 := by omega
  have h2 : (4104 : Int) < l.length := by omega
  go_enter Tryz.func34, Tryz.ntmps34
  go_wp2
  exact bodyPost_ret (v := .tuple #[.int .u64 0, .string ⟨#[]⟩, .int .i64 3]) (by simp [results, Tryz.results34, go_sem]) rfl (⟨by rw [he.out]; rfl, Below.refl _ _⟩)
 have he : Hid (unwrapE l = (fromF (l.take 8) 0, l.drop 8, 0)) := by show _ = _; unfold unwrapE; rw [if_neg hs, if_neg hg]
 have h1 : ¬ (l.length : Int) < 8 := by omega
 have h2 : ¬ (4104 : Int) < l.length := by omega
 go_enter Tryz.func34, Tryz.ntmps34
 go_upto_region 7 with fail
 go_loopw [5, 6] (fun a s wr => ∃ k n : Nat, k ≤ 8 ∧ a = .int .u64 (n : Nat) ∧ s = .int .i64 k ∧ fromF (l.take 8) 0 = fromF ((l.take 8).drop k) n ∧ Hid (n < 256 ^ k) ∧ Below w.heap.size w wr) (fun _ s _ => 8 - (intOf s).toNat)
 case atStart => exact ⟨0, 0, by omega, rfl, rfl, rfl, by show _ < _; omega, Below.refl _ _⟩
 case round =>
  obtain ⟨k, n, hk, rfl, rfl, hp, hm, hb⟩ := hrel
  have Hp := Lib.hid hp
  clear hp
  by_cases hk8 : k < 8
  ·
   have hk8' : (k : Int) < 8 := by omega
   obtain ⟨x, q, hd, hx, hq⟩ := byte_at l k (by omega)
   have hd2 : (l.take 8).drop k = x :: (l.take 8).drop (k + 1) := by
    rw [List.drop_take, hd, List.drop_take, hq]
    obtain ⟨j, hj⟩ : ∃ j, 8 - k = j + 1 := ⟨7 - k, by omega⟩
    rw [hj, List.take_succ_cons]
    congr 2
    omega
   have Hd := Lib.hid hd2
   clear hd hq hd2
   obtain ⟨mm, hmv, Hm⟩ : ∃ mm : Nat, IntKind.u64.wrap (IntKind.u64.wrap ((n : Int) * 256) + (x.toNat : Int)) = (mm : Int) ∧ Hid (mm = n * 256 + x.toNat) := ⟨_, add_byte n x k hm.out (by omega), rfl⟩
   have hxl : x.toNat < 256 := x.toNat_lt
   have hlk : (k : Int) < l.length := by omega
   have hlk2 : decide (l.length ≤ k) = false := by simp; omega
   go_wp2
   go_roundw
   case rel => exact ⟨k + 1, mm, by omega, rfl, by go_num, by rw [Hp.out, Hd.out, fromF, Hm.out], by have := (or_byte n x k hm.out (by omega)).2; have e := Hm.out; show mm < _; omega, hb⟩
   case measure => simp [intOf]; omega
  obtain rfl : k = 8 := by omega
  have hfin : fromF (l.take 8) 0 = n := by rw [Hp.out, List.drop_eq_nil_of_le (by rw [List.length_take]; omega), fromF]
  have HFI := Lib.hid hfin
  clear hfin
  have hsl : ByteArray.extract ⟨l.toArray⟩ 8 l.length = ⟨(l.drop 8).toArray⟩ := str_from l 8 l.length rfl
  go_upto_region 10 with fail
  go_region
  all_goals
   go_wp2
   exact bodyPost_ret (v := .tuple #[.int .u64 (n : Nat), .string ⟨(l.drop 8).toArray⟩, .int .i64 0]) (by simp [results, Tryz.results34, go_sem]) rfl (⟨by rw [he.out, HFI.out], hb.drew⟩)
theorem info_u8M : (Tryz.prog.info? 5).map (fun i => (i.zero, i.size, i.bytes)) = some (some (.int .u8 0), 1, 1) := by kernel_rfl
def wArr (k f c : Nat) : Array Value := (((beF 8 f).take k).map B8 ++ List.replicate (c - k) (B8 0)).toArray
theorem wArr_get (k f c : Nat) (hk : k < 8) (hc : 8 ≤ c) : (wArr k f c)[k]? = some (B8 0) := by
 have hl : (((beF 8 f).take k).map B8).length = k := by rw [List.length_map, List.length_take, beF_len]; omega
 unfold wArr
 rw [List.getElem?_toArray, List.getElem?_append_right (by omega), hl, List.getElem?_replicate, if_pos (by omega)]
theorem beF_get : ∀ (k n i : Nat), i < k → (beF k n)[i]? = some (UInt8.ofNat (n / 256 ^ (k - 1 - i)))
 | 0, _, _, h => by omega
 | k + 1, n, 0, _ => by simp [beF]
 | k + 1, n, i + 1, h => by
  rw [beF, List.getElem?_cons_succ, beF_get k n i (by omega)]
  congr 4
  omega
theorem wArr_set (k f c : Nat) (hk : k < 8) (hc : 8 ≤ c) : (wArr k f c).setIfInBounds k (B8 (UInt8.ofNat (f / 256 ^ (7 - k)))) = wArr (k + 1) f c := by
 have hl : (((beF 8 f).take k).map B8).length = k := by rw [List.length_map, List.length_take, beF_len]; omega
 unfold wArr
 rw [List.setIfInBounds_toArray]
 congr 1
 rw [List.set_append_right _ _ (by omega), hl, Nat.sub_self]
 obtain ⟨j, hj⟩ : ∃ j, c - k = j + 1 := ⟨c - k - 1, by omega⟩
 rw [hj, List.replicate_succ, List.set_cons_zero, List.take_add_one, List.map_append, beF_get 8 f k hk, List.append_assoc]
 have e : c - (k + 1) = j := by omega
 rw [e]; rfl
theorem wArr_zero (f c : Nat) : madeCells #[B8 0] (c * 1) = wArr 0 f c := by
 unfold wArr madeCells
 simp only [List.take_zero, List.map_nil, List.nil_append, Nat.mul_one, Nat.sub_zero]
 apply Array.ext
 ·
  simp
 intro i h1 h2
 simp [Nat.mod_one]
theorem wArr_own {w : World} {g f c : Nat} (h : Has w g 5 (wArr 8 f c)) (hc : 8 ≤ c) (hb : c ≤ maxLen) : w.ownsRow g 5 1 (.slice (some ⟨g, 0, none⟩) 8 c) 8 ((beF 8 f).map B8) := by
 have hl : ((beF 8 f).map B8).length = 8 := by rw [List.length_map, beF_len]
 refine ⟨by rw [hl], .inr ⟨g, c, _, rfl, Nat.le_refl _, h, hc, hb, ?_, ?_⟩⟩
 ·
  unfold wArr; simp [beF_len]; omega
 unfold wArr
 have e : (beF 8 f).take 8 = beF 8 f := List.take_of_length_le (by rw [beF_len]; omega)
 rw [e]
 simp [List.take_left' hl]
set_option maxRecDepth 100000 in
theorem wrap_any (f : Nat) (hf : U64 f) (m : List UInt8) (hm : m.length ≤ 9223372036854775000) (w : World) :
  Calls Tryz.prog 31 #[.int .u64 (f : Nat), .string ⟨m.toArray⟩] w fun e w' => e = .returned (.tuple #[.string ⟨(wrapE f m).1.toArray⟩, .int .i64 (wrapE f m).2]) ∧ Below w.heap.size w w' := by
 by_cases hlt : 4096 < m.length
 ·
  have he : Hid (wrapE f m = ([], 3)) := by show _ = _; unfold wrapE; rw [if_pos hlt]
  have h1 : (4096 : Int) < m.length := by omega
  go_enter Tryz.func31, Tryz.ntmps31
  go_wp2
  exact bodyPost_ret (v := .tuple #[.string ⟨#[]⟩, .int .i64 3]) (by simp [results, Tryz.results31, go_sem]) rfl (⟨by rw [he.out], Below.refl _ _⟩)
 have he : Hid (wrapE f m = (beF 8 f ++ m, 0)) := by show _ = _; unfold wrapE; rw [if_neg hlt]
 have h1 : ¬ (4096 : Int) < m.length := by omega
 obtain ⟨i0, hi0, hz0, hz1, hz2⟩ := info_parts info_u8M
 have hmk : ∀ W : World, (Instr.makeSlice 87 (.int .i64 8) (.int .i64 (8 + (m.length : Int)))).run Tryz.prog W = .ok (.slice (some ⟨W.heap.size, 0, none⟩) 8 (8 + m.length)) (W.alloc (.cells (wArr 0 f (8 + m.length)) 5)) := fun W => by
  have h := run_make (P := Tryz.prog) W 87 5 i0 _ Tryz.underlying87 hi0 hz0 .i64 .i64 8 (8 + (m.length : Int)) (by omega) (by omega) (by rw [hz2]; omega) (by omega)
  rw [hz1] at h
  have e1 : (8 + (m.length : Int)).toNat = 8 + m.length := by omega
  rw [e1, show (Value.int IntKind.u8 0).cells = #[B8 0] from rfl, wArr_zero f] at h
  exact h
 have HF := Lib.hid hf
 clear hf hi0 hz0 hz1 hz2
 have hadd : IntKind.i64.wrap (8 + (m.length : Int)) = 8 + (m.length : Int) := by rw [IntKind.wrap_i64]; omega
 go_enter Tryz.func31, Tryz.ntmps31
 go_wp2
 refine am1 (fun w1 hb0 B => ?_)
 have hB := B.out
 clear B
 go_loopw [17] (fun s17 wr => ∃ k : Nat, k ≤ 8 ∧ s17 = .int .i64 k ∧ Has wr w.heap.size 5 (wArr k f (8 + m.length)) ∧ Below w.heap.size w wr) (fun s17 _ => 8 - (intOf s17).toNat)
 case atStart => exact ⟨0, by omega, rfl, hB, hb0⟩
 case round =>
  clear hB hb0
  obtain ⟨k, hk, rfl, B, hb⟩ := hrel
  by_cases hk8 : k < 8
  ·
   have hk8' : (k : Int) < 8 := by omega
   have cB := (B.cell k).trans (wArr_get k f _ hk8 (by omega))
   have fB := B.free k
   have hst : Value.int IntKind.u8 ((f : Int) / 2 ^ (56 - 8 * k) % 256) = B8 (UInt8.ofNat (f / 256 ^ (7 - k))) := by
    have e1 : (2 : Nat) ^ (56 - 8 * k) = 256 ^ (7 - k) := by
     rw [show (256 : Nat) = 2 ^ 8 from rfl, ← Nat.pow_mul]; congr 1; omega
    have e2 : ((f : Int) / 2 ^ (56 - 8 * k)) = ((f / 256 ^ (7 - k) : Nat) : Int) := by
     rw [← e1]; norm_cast
    rw [e2]
    generalize f / 256 ^ (7 - k) = q
    rw [B8_of _ (by omega) (by omega)]
    have e3 : ((q : Int) % 256).toNat = q % 256 := by omega
    rw [e3]
    congr 1
    apply UInt8.toNat_inj.1; simp
   have HST := Lib.hid hst
   clear hst
   go_wp2
   go_roundw
   case rel =>
    rw [HST.out]
    exact ⟨k + 1, by omega, by go_num, by rw [← wArr_set k f _ hk8 (by omega)]; exact Has.set B k _, below_set hb (Nat.le_refl _) _ _⟩
   case measure => simp [intOf]; omega
  obtain rfl : k = 8 := by omega
  have hown := wArr_own B (by omega) (by simp only [maxLen]; omega)
  go_wp2_with (at_builtin; refine wpList_append_str rfl _ _ _ _ rfl w.heap.size 5 Tryz.underlying87 Tryz.underlying9 info_u8M (.slice (some ⟨w.heap.size, 0, none⟩) 8 (8 + m.length)) 8 (beF 8 f) rfl hown m rfl (by omega) hb.size ?_; intro v2 w2 hown2 hb2; have hcv := conv_owned 87 9 5 Tryz.underlying87 Tryz.underlying5 Tryz.underlying9 hown2)
  exact bodyPost_ret (v := .tuple #[.string ⟨(beF 8 f ++ m).toArray⟩, .int .i64 0]) (by simp [results, Tryz.results31, go_sem]) rfl (⟨by rw [he.out], hb.trans hb2⟩)
end Go.Proofs.YtlamhkffnlgofaaGreatDoor
namespace Go.Proofs.YtlamhkffnlgofaaGreatDoor
open Go.ChangeShapes Go.WideShapes Go.ChangeAt Go.RowKit
def awI : Typ := ⟨2, [], -10, 10, 0, [], [], 0, 0, false⟩
def awB : Typ := ⟨1, [], 0, 0, 0, [], [], 0, 0, false⟩
def awD : Val := .mk 1 true 0 [] 0 [] [] []
def awM (nm : List UInt8) : Mem := { id := 3, name := nm, ty := 0, crit := false, hasDef := true, dflt := awD }
def awR (nm : List UInt8) : Typ := ⟨5, [82], 0, 0, 0, [], [awM nm], 0, 0, false⟩
def aw2 (nm : List UInt8) : List Typ := [awB, awR nm]
theorem dfl0_can {ts : List Typ} (hv : validE ts = 0) {t : Nat} (ht : t < ts.length) (h : Dfl0 ts) : Dfl0 (canT ts t) := by
 intro y hy m hm hd
 obtain ⟨n, hn⟩ := List.mem_iff_getElem?.1 hy
 obtain ⟨a, x, _, hx, rfl⟩ := can_at hv ht hn
 obtain ⟨q, hq, rfl⟩ := List.mem_map.1 (show m ∈ x.mems.map (renM _) from hm)
 exact h x (List.mem_of_getElem? hx) q hq hd
theorem canOK_of {ts : List Typ} (hv : validE ts = 0) {t : Nat} (ht : t < ts.length) (hI : IntIn ts) (hD : DflOK ts) (h0 : Dfl0 ts) : CanOK (canT ts t) :=
 ⟨can_valid hv ht, (can_root (inside_of hv) ht).lt.2, can_canon hv ht, can_int hv ht hI, can_dfl hv ht hD, dfl0_can hv ht h0⟩
theorem aw1_valid : validE [awI] = 0 := by kernel_rfl
theorem aw2_valid (nm : List UInt8) (h : nm = [97] ∨ nm = [98]) : validE (aw2 nm) = 0 := by
 rcases h with rfl | rfl <;> kernel_rfl
theorem aw1_can : canT [awI] 0 = [awI] := by
 have hc : clsN [awI] 0 = 0 := by have := cls_lt (inside_of aw1_valid) (i := 0) (by simp); simp at this; omega
 have ho : ordN [awI] 0 = [0] := by
  unfold ordN
  simp only [hc, List.length_singleton, bfs, List.getElem?_cons_zero, outsAt]
  rfl
 unfold canT
 rw [ho]
 rfl
theorem aw2_cls (nm : List UInt8) (h : nm = [97] ∨ nm = [98]) : clsN (aw2 nm) 0 = 0 ∧ clsN (aw2 nm) 1 = 1 := by
 have hin := inside_of (aw2_valid nm h)
 have h0 := cls_le (Bis.refl hin (i := 0) (by simp [aw2]))
 have h1 := cls_le (Bis.refl hin (i := 1) (by simp [aw2]))
 refine ⟨by omega, ?_⟩
 rcases Nat.lt_or_ge (clsN (aw2 nm) 1) 1 with h2 | h2
 ·
  have h3 : clsN (aw2 nm) 1 = 0 := by omega
  have h4 := cls_bis hin (i := 1) (by simp [aw2])
  rw [h3] at h4
  obtain ⟨x, y, hx, hy, ha, _⟩ := bis_closed _ _ 1 0 h4
  simp only [aw2, List.getElem?_cons_succ, List.getElem?_cons_zero, Option.some.injEq] at hx hy
  subst hx; subst hy
  have := ha.kind
  simp [awR, awB] at this
 omega
def aw2C : List Typ := [⟨5, nmC 84 0, 0, 0, 0, [], [{ id := 3, name := nmC 102 3, ty := 1, crit := false, hasDef := true, dflt := awD }], 0, 0, false⟩, awB]
theorem aw2_can (nm : List UInt8) (h : nm = [97] ∨ nm = [98]) : canT (aw2 nm) 1 = aw2C := by
 obtain ⟨h0, h1⟩ := aw2_cls nm h
 have ho : ordN (aw2 nm) 1 = [1, 0] := by
  unfold ordN
  rw [h1, show (aw2 nm).length = 2 from rfl]
  have o1 : outsAt (aw2 nm) 1 = [0] := rfl
  have o0 : outsAt (aw2 nm) 0 = [] := rfl
  simp only [bfs, List.getElem?_cons_zero, o1, addC, h0]
  simp [o0, addC]
 have i0 : ixN (aw2 nm) 1 0 = 1 := by unfold ixN; rw [ho, h0]; rfl
 unfold canT
 rw [ho]
 have hr : renT 0 (ixN (aw2 nm) 1) (awR nm) = ⟨5, nmC 84 0, 0, 0, 0, [], [{ id := 3, name := nmC 102 3, ty := 1, crit := false, hasDef := true, dflt := awD }], 0, 0, false⟩ := by
  have e : renM (ixN (aw2 nm) 1) (awM nm) = { id := 3, name := nmC 102 3, ty := 1, crit := false, hasDef := true, dflt := awD } := by
   unfold renM awM
   simp only [Int.toNat_zero, i0]
   rfl
  unfold renT awR
  simp only [List.map_cons, List.map_nil, e]
  rfl
 show [renT 0 (ixN (aw2 nm) 1) (awR nm), renT 1 (ixN (aw2 nm) 1) awB] = _
 rw [hr]
 rfl
theorem aw1_dfl : DflOK [awI] := by
 intro x hx m hm _
 obtain rfl := List.mem_singleton.1 hx
 simp [awI] at hm
theorem aw2_dfl (nm : List UInt8) : DflOK (aw2 nm) ∧ Dfl0 (aw2 nm) ∧ IntIn (aw2 nm) := by
 refine ⟨fun x hx m hm _ => ?_, fun x hx m hm _ => ?_, fun x hx => ?_⟩
 ·
  simp only [aw2, List.mem_cons, List.not_mem_nil, or_false] at hx
  rcases hx with rfl | rfl
  ·
   simp [awB] at hm
  simp only [awR, List.mem_singleton] at hm
  subst hm
  rfl
 ·
  simp only [aw2, List.mem_cons, List.not_mem_nil, or_false] at hx
  rcases hx with rfl | rfl
  ·
   simp [awB] at hm
  simp only [awR, List.mem_singleton] at hm
  subst hm
  exact ⟨rfl, rfl, rfl, by show (1 : Int) ≠ 5; decide⟩
 simp only [aw2, List.mem_cons, List.not_mem_nil, or_false] at hx
 rcases hx with rfl | rfl <;> exact ⟨i64s 0, i64s 0⟩
theorem aw1_bytes : bytE [awI] 0 = ([1, 2, 19, 20], 0) := by
 have h := bytE_ok aw1_valid (t := 0) (by simp) aw1_dfl
 rw [aw1_can] at h
 exact h.trans (by rfl)
theorem aw2_bytes (nm : List UInt8) (h : nm = [97] ∨ nm = [98]) : bytE (aw2 nm) 1 = ([2, 5, 1, 3, 2, 1, 1, 1], 0) := by
 have h := bytE_ok (aw2_valid nm h) (t := 1) (by simp [aw2]) (aw2_dfl nm).1
 rename_i h2
 rw [aw2_can nm h2] at h
 exact h.trans (by rfl)
theorem aw2_byC : bytesT aw2C = [2, 5, 1, 3, 2, 1, 1, 1] := by rfl
theorem aw2_canOK : CanOK aw2C := by
 have h := aw2_can [97] (.inl rfl)
 rw [← h]
 exact canOK_of (aw2_valid _ (.inl rfl)) (by simp [aw2]) (aw2_dfl _).2.2 (aw2_dfl _).1 (aw2_dfl _).2.1
end Go.Proofs.YtlamhkffnlgofaaGreatDoor

/- What Unframe and its reference compute. No condition. -/
import Derived.Test.YtngmdhdncfbdjaaDigFrame
import Derived.Test.YtngmdhdncfbdjaaVarRGet
namespace Go.Proofs.Ytngmdhdncfbdjaa
open Go.ChangeShapes Go.WideShapes Go.ChangeAt Go.RowKit

def body (l : List UInt8) (k n : Nat) : List UInt8 := (l.take (k + 4 + n)).drop (k + 4)
theorem body_len (l : List UInt8) (k n : Nat) : (body l k n).length ≤ l.length := by
  unfold body; rw [List.length_drop, List.length_take]; omega
def unframe (l : List UInt8) : List UInt8 × Nat × Nat :=
  if (getF 0 0 l).2.2 = 7 then ([], 0, 3)
  else if (getF 0 0 l).2.2 ≠ 0 then ([], 0, (getF 0 0 l).2.2)
  else if 65535 < (getF 0 0 l).1 then ([], 0, 3)
  else if l.length < (getF 0 0 l).2.1 + 4 + (getF 0 0 l).1 then ([], 0, 10)
  else if be4 (crc (body l (getF 0 0 l).2.1 (getF 0 0 l).1)) = (l.take ((getF 0 0 l).2.1 + 4)).drop (getF 0 0 l).2.1 then (body l (getF 0 0 l).2.1 (getF 0 0 l).1, (getF 0 0 l).2.1 + 4 + (getF 0 0 l).1, 0)
  else ([], 0, 17)

theorem or4 (b0 b1 b2 b3 : UInt8) : ∃ v : Nat, bits .or .u32 (bits .or .u32 (bits .or .u32 ((b0.toNat : Int) * 16777216) ((b1.toNat : Int) * 65536)) ((b2.toNat : Int) * 256)) (b3.toNat : Int) = (v : Int) ∧ Hid (v = b0.toNat * 16777216 + b1.toNat * 65536 + b2.toNat * 256 + b3.toNat) ∧ Hid (W32 v) := by
  have h0 := b0.toNat_lt
  have h1 := b1.toNat_lt
  have h2 := b2.toNat_lt
  have h3 := b3.toNat_lt
  have e1 : bits .or .u32 ((b0.toNat : Int) * 16777216) ((b1.toNat : Int) * 65536) = ((b0.toNat * 16777216 + b1.toNat * 65536 : Nat) : Int) := by
    have := u32_or_nat (b0.toNat * 16777216) (b1.toNat * 65536) (by omega) (by omega)
    have h := Nat.two_pow_add_eq_or_of_lt (show b1.toNat * 65536 < 2 ^ 24 from by omega) b0.toNat
    rw [show 2 ^ 24 * b0.toNat = b0.toNat * 16777216 from by omega] at h
    rw [← h] at this
    exact this
  have e2 : bits .or .u32 ((b0.toNat * 16777216 + b1.toNat * 65536 : Nat) : Int) ((b2.toNat : Int) * 256) = ((b0.toNat * 16777216 + b1.toNat * 65536 + b2.toNat * 256 : Nat) : Int) := by
    have := u32_or_nat (b0.toNat * 16777216 + b1.toNat * 65536) (b2.toNat * 256) (by omega) (by omega)
    have h := Nat.two_pow_add_eq_or_of_lt (show b2.toNat * 256 < 2 ^ 16 from by omega) (b0.toNat * 256 + b1.toNat)
    rw [show 2 ^ 16 * (b0.toNat * 256 + b1.toNat) = b0.toNat * 16777216 + b1.toNat * 65536 from by omega] at h
    rw [← h] at this
    exact this
  have e3 : bits .or .u32 ((b0.toNat * 16777216 + b1.toNat * 65536 + b2.toNat * 256 : Nat) : Int) (b3.toNat : Int) = ((b0.toNat * 16777216 + b1.toNat * 65536 + b2.toNat * 256 + b3.toNat : Nat) : Int) := by
    have := u32_or_nat (b0.toNat * 16777216 + b1.toNat * 65536 + b2.toNat * 256) b3.toNat (by omega) (by omega)
    have h := Nat.two_pow_add_eq_or_of_lt (show b3.toNat < 2 ^ 8 from by omega) (b0.toNat * 65536 + b1.toNat * 256 + b2.toNat)
    rw [show 2 ^ 8 * (b0.toNat * 65536 + b1.toNat * 256 + b2.toNat) = b0.toNat * 16777216 + b1.toNat * 65536 + b2.toNat * 256 from by omega] at h
    rw [← h] at this
    exact this
  exact ⟨_, by rw [e1, e2, e3], rfl, by show _ < _; omega⟩
theorem be4_iff (c : Nat) (hc : W32 c) (b0 b1 b2 b3 : UInt8) : be4 c = [b0, b1, b2, b3] ↔ c = b0.toNat * 16777216 + b1.toNat * 65536 + b2.toNat * 256 + b3.toNat := by
  have h0 := b0.toNat_lt
  have h1 := b1.toNat_lt
  have h2 := b2.toNat_lt
  have h3 := b3.toNat_lt
  unfold W32 at hc
  unfold be4
  simp only [List.cons.injEq, and_true, ← UInt8.toNat_inj, UInt8.toNat_ofNat']
  constructor
  · rintro ⟨e0, e1, e2, e3⟩
    omega
  · intro h
    refine ⟨?_, ?_, ?_, ?_⟩ <;> omega
theorem ret_str3 (a b : ByteArray) (h : a = b) (m n e : Int) (h2 : m = n) : Ending.returned (.tuple #[.string a, .int .i64 m, .int .i64 e]) = .returned (.tuple #[.string b, .int .i64 n, .int .i64 e]) := by rw [h, h2]

set_option maxRecDepth 100000 in
set_option maxHeartbeats 400000 in
theorem dunframe_any (l : List UInt8) (hlen : l.length ≤ 1000000) (w : World) :
    Calls Try.prog 38 #[.string ⟨l.toArray⟩] w fun e w' => e = .returned (.tuple #[.string ⟨(unframe l).1.toArray⟩, .int .i64 (unframe l).2.1, .int .i64 (unframe l).2.2]) ∧ Below w.heap.size w w' := by
  have hg := fun W => get_any l W
  have hok := getF_ok l 0 0 (by omega) (by decide)
  obtain ⟨u, hun⟩ : ∃ u, unframe l = u := ⟨_, rfl⟩
  rw [hun]
  rw [unframe] at hun
  generalize getF 0 0 l = g at *
  obtain ⟨n, k, e⟩ := g
  simp only [ne_eq] at hg hok hun
  have HG := Lib.hid hg
  clear hg
  by_cases he : e = 0
  · subst he
    obtain ⟨hk1, hk2, hn⟩ := hok rfl
    have hk2' : k ≤ l.length := by omega
    clear hok hk2
    rw [if_neg (by omega), if_neg (by simp)] at hun
    by_cases h1 : 65535 < (n : Int)
    · rw [if_pos (by omega)] at hun; subst hun
      go_enter Try.func38, Try.ntmps38
      go_wp2_with fail
      refine (HG.out w).mono ?_
      rintro e w1 ⟨rfl, rfl⟩
      go_wp2_with fail
      go_ret3
      exact ⟨rfl, Below.refl _ _⟩
    · rw [if_neg (by omega)] at hun
      by_cases h2 : (l.length : Int) < (k : Int) + 4 + n
      · rw [if_pos (by omega)] at hun; subst hun
        go_enter Try.func38, Try.ntmps38
        go_wp2_with fail
        refine (HG.out w).mono ?_
        rintro e w1 ⟨rfl, rfl⟩
        go_wp2_with fail
        go_ret3
        exact ⟨rfl, Below.refl _ _⟩
      · rw [if_neg (by omega)] at hun
        go_enter Try.func38, Try.ntmps38
        go_wp2_with fail
        refine (HG.out w).mono ?_
        rintro e w1 ⟨rfl, rfl⟩
        obtain ⟨b0, r0, hd0, hb0, hr0⟩ := byte_at l k (by omega)
        obtain ⟨b1, r1, hd1, hb1, hr1⟩ := byte_at l (k+1) (by omega)
        obtain ⟨b2, r2, hd2, hb2, hr2⟩ := byte_at l (k+2) (by omega)
        obtain ⟨b3, r3, hd3, hb3, hr3⟩ := byte_at l (k+3) (by omega)
        have Hq : Hid ((l.take (k + 4)).drop k = [b0, b1, b2, b3]) := by
          show _ = _
          rw [List.drop_take, hd0, ← hr0, hd1, ← hr1, hd2, ← hr2, hd3]
          have e4 : k + 4 - k = 4 := by omega
          rw [e4]
          rfl
        clear hd0 hr0 hd1 hr1 hd2 hr2 hd3 hr3
        have hl0 : b0.toNat < 256 := b0.toNat_lt
        have hl1 : b1.toNat < 256 := b1.toNat_lt
        have hl2 : b2.toNat < 256 := b2.toNat_lt
        have hl3 : b3.toNat < 256 := b3.toNat_lt
        have hn16 : (n : Int) ≤ 65535 := by omega
        have hbody : ({ data := l.toArray } : ByteArray).extract (k + 4) (k + 4 + n) = { data := (body l k n).toArray } := str_cut _ _ _
        obtain ⟨v, hv, Hv, hvw⟩ := or4 b0 b1 b2 b3
        have hiff := be4_iff (crc (body l k n)) (crc_w32 _) b0 b1 b2 b3
        rw [Hq.out] at hun
        have HC := Lib.hid (fun W => dcrc_any (body l k n) (by have := body_len l k n; omega) W)
        rw [← Hv.out] at hiff
        have HU := Lib.hid hun
        have HI := Lib.hid hiff
        clear hun hiff
        generalize hcb : crc (body l k n) = cb at *
        clear hcb
        go_wp2_with fail
        have i1 : IntKind.i64.wrap ((k : Int) + 1) = (k : Int) + 1 := by rw [IntKind.wrap_i64]; omega
        have i2 : IntKind.i64.wrap ((k : Int) + 2) = (k : Int) + 2 := by rw [IntKind.wrap_i64]; omega
        have i3 : IntKind.i64.wrap ((k : Int) + 3) = (k : Int) + 3 := by rw [IntKind.wrap_i64]; omega
        have j1 : ((k : Int) + 1).toNat = k + 1 := by omega
        have j2 : ((k : Int) + 2).toNat = k + 2 := by omega
        have j3 : ((k : Int) + 3).toNat = k + 3 := by omega
        have g0 : (k : Int) < l.length := by omega
        have g1 : (k : Int) + 1 < l.length := by omega
        have g2 : (k : Int) + 2 < l.length := by omega
        have g3 : (k : Int) + 3 < l.length := by omega
        have p1 : 0 ≤ (k : Int) + 1 := by omega
        have p2 : 0 ≤ (k : Int) + 2 := by omega
        have p3 : 0 ≤ (k : Int) + 3 := by omega
        go_quiet (fail)
        go_wp2_with fail
        refine (HC.out _).mono ?_
        rintro e w2 ⟨rfl, rfl⟩
        by_cases hcv : cb = v
        · have ht : ((v : Int) != (cb : Int)) = false := by simp [hcv]
          have Hcv := Lib.hid hcv
          clear hcv
          go_wp2_with fail
          go_ret3
          refine ⟨?_, below_drewN (Below.refl _ _) _⟩
          rw [← HU.out, if_pos (HI.out.2 Hcv.out)]
          rfl
        · have ht : ((v : Int) != (cb : Int)) = true := by rw [bne_iff_ne]; omega
          have Hcv := Lib.hid hcv
          clear hcv
          go_wp2_with fail
          go_ret3
          refine ⟨?_, below_drewN (Below.refl _ _) _⟩
          rw [← HU.out, if_neg (fun h => Hcv.out (HI.out.1 h))]
          rfl
  · clear hok
    by_cases h7 : e = 7
    · subst h7
      rw [if_pos rfl] at hun; subst hun
      go_enter Try.func38, Try.ntmps38
      go_wp2_with fail
      refine (HG.out w).mono ?_
      rintro e w1 ⟨rfl, rfl⟩
      go_wp2_with fail
      go_ret3
      exact ⟨rfl, Below.refl _ _⟩
    · rw [if_neg h7, if_pos he] at hun; subst hun
      have h7b : ((e : Int) == 7) = false := beq_eq_false_iff_ne.2 (by omega)
      have heb : ((e : Int) == 0) = false := beq_eq_false_iff_ne.2 (by omega)
      have hec : ((e : Int) != 0) = true := by rw [bne_iff_ne]; omega
      clear he h7
      go_enter Try.func38, Try.ntmps38
      go_wp2_with fail
      refine (HG.out w).mono ?_
      rintro e w1 ⟨rfl, rfl⟩
      go_wp2_with fail
      go_ret3
      exact ⟨rfl, Below.refl _ _⟩
end Go.Proofs.Ytngmdhdncfbdjaa

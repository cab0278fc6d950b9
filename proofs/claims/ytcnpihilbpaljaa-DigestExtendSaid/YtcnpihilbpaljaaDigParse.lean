/- What ParseHex and its reference compute. No condition. -/
import Derived.Test.YtcnpihilbpaljaaDigHash
namespace Go.Proofs.Ytcnpihilbpaljaa
open Go.ChangeShapes Go.WideShapes Go.ChangeAt Go.RowKit

def hv (c : Nat) : Option Nat := if 48 ≤ c ∧ c ≤ 57 then some (c - 48) else if 97 ≤ c ∧ c ≤ 102 then some (c - 87) else none
def parseF : Nat → List UInt8 → Nat × Nat
  | n, [] => (n, 0)
  | n, c :: r => match hv c.toNat with
    | some d => parseF (n * 16 + d) r
    | none => (0, 2)
def parseHex (l : List UInt8) : Nat × Nat := if l.length = 16 then parseF 0 l else (0, 2)
theorem hv_lt {c d : Nat} (h : hv c = some d) : d < 16 := by
  unfold hv at h
  split at h
  · injection h with h; omega
  split at h
  · injection h with h; omega
  · cases h
theorem or_nib (n d k : Nat) (h : n < 16 ^ k) (hk : k < 16) (hd : d < 16) : bits .or .u64 (IntKind.u64.wrap ((n : Int) * 16)) (d : Int) = ((n * 16 + d : Nat) : Int) ∧ n * 16 + d < 16 ^ (k+1) := by
  have h7 : 16 ^ k ≤ 16 ^ 15 := Nat.pow_le_pow_right (by omega) (by omega)
  have e7 : (16:Nat) ^ 15 = 1152921504606846976 := by decide
  refine ⟨?_, by rw [Nat.pow_succ]; omega⟩
  have e : IntKind.u64.wrap ((n : Int) * 16) = ((n * 16 : Nat) : Int) := by rw [IntKind.wrap_u64]; omega
  rw [e, u64_or_nat _ _ (by omega) (by omega)]
  congr 1
  have := Nat.two_pow_add_eq_or_of_lt (show d < 2 ^ 4 from hd) n
  rw [Nat.mul_comm n, show (16 : Nat) = 2 ^ 4 from rfl, ← this]
theorem add_nib (n d k : Nat) (h : n < 16 ^ k) (hk : k < 16) (hd : d < 16) : IntKind.u64.wrap (IntKind.u64.wrap ((n : Int) * 16) + (d : Int)) = ((n * 16 + d : Nat) : Int) := by
  have h7 : 16 ^ k ≤ 16 ^ 15 := Nat.pow_le_pow_right (by omega) (by omega)
  have e7 : (16:Nat) ^ 15 = 1152921504606846976 := by decide
  rw [IntKind.wrap_u64, IntKind.wrap_u64]; omega

set_option maxRecDepth 100000 in
set_option maxHeartbeats 400000 in
theorem dparse_any (l : List UInt8) (hlen : l.length ≤ 9223372036854775807) (w : World) :
    Calls Try.prog 24 #[.string ⟨l.toArray⟩] w fun e w' => e = .returned (.tuple #[.int .u64 (parseHex l).1, .int .i64 (parseHex l).2]) ∧ w = w' := by
  by_cases h16 : l.length = 16
  · have h1 : ((l.length : Int) != 16) = false := by simp [h16]
    have H16 := Lib.hid h16
    have hl : l.length ≤ 16 := by omega
    have hl2 : 16 ≤ l.length := by omega
    clear h16
    go_enter Try.func24, Try.ntmps24
    go_wp2
    clear h1
    go_loop [4, 12] (fun a i => ∃ k n : Nat, k ≤ 16 ∧ a = .int .u64 n ∧ i = .int .i64 k ∧ parseF 0 l = parseF n (l.drop k) ∧ Hid (n < 16 ^ k)) (fun _ i => 16 - (intOf i).toNat)
    case atStart => exact ⟨0, 0, by omega, rfl, rfl, rfl, by show _ < _; omega⟩
    case round =>
      obtain ⟨k, n, hk, rfl, rfl, hp, hn⟩ := hrel
      have Hp := Lib.hid hp
      clear hp
      by_cases hlt : k < 16
      · obtain ⟨b, r, hd, hb, hr⟩ := byte_at l k (by omega)
        have Hd := Lib.hid hd
        have Hr := Lib.hid hr
        clear hd hr
        have hbl : b.toNat < 256 := b.toNat_lt
        by_cases hc1 : 48 ≤ b.toNat ∧ b.toNat ≤ 57
        · obtain ⟨hc1, hc2⟩ := hc1
          have hv1 : Hid (hv b.toNat = some (b.toNat - 48)) := by show _ = _; unfold hv; rw [if_pos ⟨hc1, hc2⟩]
          have hg := or_nib n (b.toNat - 48) k hn.out hlt (by omega)
          obtain ⟨m, hm, Hm⟩ : ∃ m : Nat, bits .or .u64 (IntKind.u64.wrap ((n : Int) * 16)) ((b.toNat : Int) - 48) = (m : Int) ∧ Hid (m = n * 16 + (b.toNat - 48)) :=
            ⟨_, by rw [← hg.1]; congr 1; omega, rfl⟩
          have Hg := Lib.hid hg.2
          clear hg
          go_wp2
          go_round
          case rel => exact ⟨k + 1, m, by omega, rfl, by go_num, by rw [Hp.out, Hd.out, Hr.out, parseF, hv1.out, Hm.out], by rw [Hm.out]; exact Hg.out⟩
          case measure => simp [intOf]; omega
        · by_cases hc3 : 97 ≤ b.toNat ∧ b.toNat ≤ 102
          · obtain ⟨hc3, hc4⟩ := hc3
            have hv1 : Hid (hv b.toNat = some (b.toNat - 87)) := by show _ = _; unfold hv; rw [if_neg hc1, if_pos ⟨hc3, hc4⟩]
            have hg := or_nib n (b.toNat - 87) k hn.out hlt (by omega)
            obtain ⟨m, hm, Hm⟩ : ∃ m : Nat, bits .or .u64 (IntKind.u64.wrap ((n : Int) * 16)) ((b.toNat : Int) - 97 + 10) = (m : Int) ∧ Hid (m = n * 16 + (b.toNat - 87)) :=
              ⟨_, by rw [← hg.1]; congr 1; omega, rfl⟩
            have Hg := Lib.hid hg.2
            clear hg hc1
            go_wp2
            go_round
            case rel => exact ⟨k + 1, m, by omega, rfl, by go_num, by rw [Hp.out, Hd.out, Hr.out, parseF, hv1.out, Hm.out], by rw [Hm.out]; exact Hg.out⟩
            case measure => simp [intOf]; omega
          · have hv1 : Hid (hv b.toNat = none) := by show _ = _; unfold hv; rw [if_neg hc1, if_neg hc3]
            go_wp2
            all_goals first
              | (exfalso; omega)
              | (go_ret2; exact ⟨by rw [parseHex, if_pos H16.out, Hp.out, Hd.out, parseF, hv1.out]; rfl, rfl⟩)
      · go_wp2
        go_ret2
        exact ⟨by rw [parseHex, if_pos H16.out, Hp.out, List.drop_of_length_le (by omega)]; rfl, rfl⟩
  · have h1 : ((l.length : Int) != 16) = true := by rw [bne_iff_ne]; omega
    have H16 := Lib.hid h16
    clear h16
    go_enter Try.func24, Try.ntmps24
    go_wp2
    go_ret2
    exact ⟨by rw [parseHex, if_neg H16.out]; rfl, rfl⟩

def fnd (c : Nat) : Nat → Int
  | 0 => -1
  | k+1 => if c = (dg k).toNat then k else fnd c k
theorem fnd_hv : ∀ c : Fin 256, fnd c.val 16 = match hv c.val with | some d => (d : Int) | none => -1 := by decide +kernel
theorem fnd_hv' (b : UInt8) : fnd b.toNat 16 = match hv b.toNat with | some d => (d : Int) | none => -1 := fnd_hv ⟨b.toNat, b.toNat_lt⟩

set_option maxRecDepth 100000 in
set_option maxHeartbeats 400000 in
theorem rparse_any (l : List UInt8) (hlen : l.length ≤ 9223372036854775807) (w : World) :
    Calls Try.prog 25 #[.string ⟨l.toArray⟩] w fun e w' => e = .returned (.tuple #[.int .u64 (parseHex l).1, .int .i64 (parseHex l).2]) ∧ Below w.heap.size w w' := by
  by_cases h16 : l.length = 16
  · have h1 : ((l.length : Int) != 16) = false := by simp [h16]
    have H16 := Lib.hid h16
    have hl : l.length ≤ 16 := by omega
    have hl2 : 16 ≤ l.length := by omega
    clear h16
    go_enter Try.func25, Try.ntmps25
    go_wp2
    clear h1
    go_loopw [4, 5] (fun a i wr => ∃ k n : Nat, k ≤ 16 ∧ a = .int .u64 n ∧ i = .int .i64 k ∧ parseF 0 l = parseF n (l.drop k) ∧ Hid (n < 16 ^ k) ∧ Below w.heap.size w wr) (fun _ i _ => 16 - (intOf i).toNat)
    case atStart => exact ⟨0, 0, by omega, rfl, rfl, rfl, by show _ < _; omega, Below.refl _ _⟩
    case round =>
      obtain ⟨k, n, hk, rfl, rfl, hp, hn, hbw⟩ := hrel
      have Hp := Lib.hid hp
      clear hp
      by_cases hlt : k < 16
      · obtain ⟨b, r, hd, hb, hr⟩ := byte_at l k (by omega)
        have Hd := Lib.hid hd
        have Hr := Lib.hid hr
        clear hd hr
        have hbl : b.toNat < 256 := b.toNat_lt
        have hil : (k : Int) < l.length := by omega
        go_wp2
        obtain ⟨wo, rfl⟩ : ∃ wo : World, wo = wr := ⟨_, rfl⟩
        go_loopw [6, 7] (fun d j wi => ∃ q : Nat, q ≤ 16 ∧ d = .int .i64 (fnd b.toNat q) ∧ j = .int .i64 q ∧ Below w.heap.size w wi) (fun _ j _ => 16 - (intOf j).toNat)
        case atStart => exact ⟨0, by omega, rfl, rfl, hbw⟩
        case round =>
          obtain ⟨q, hq, rfl, rfl, hbi⟩ := hrel
          have Hf : Hid (fnd b.toNat (q + 1) = if b.toNat = (dg q).toNat then (q : Int) else fnd b.toNat q) := rfl
          generalize hfz : fnd b.toNat q = fz at *
          have Hfz := Lib.hid hfz
          clear hfz
          by_cases hq16 : q < 16
          · obtain ⟨x, hx, Hx⟩ := dig_at q hq16
            have hqi : (q : Int) < 16 := by omega
            by_cases he : b.toNat = x.toNat
            · have he2 : ((b.toNat : Int) == (x.toNat : Int)) = true := beq_iff_eq.2 (by omega)
              have He := Lib.hid he
              clear he
              go_wp2
              go_quiet (fail)
              go_wp2
              go_roundw
              case rel => exact ⟨q + 1, by omega, by rw [Hf.out, if_pos (by rw [He.out, Hx.out])], by go_num, below_drewN hbi _⟩
              case measure => simp [intOf]; omega
            · have he2 : ((b.toNat : Int) == (x.toNat : Int)) = false := beq_eq_false_iff_ne.2 (by omega)
              have He := Lib.hid he
              clear he
              go_wp2
              go_quiet (fail)
              go_wp2
              go_roundw
              case rel => exact ⟨q + 1, by omega, by rw [Hf.out, if_neg (by rw [← Hx.out]; exact He.out)], by go_num, below_drewN hbi _⟩
              case measure => simp [intOf]; omega
          · have hq17 : q = 16 := by omega
            have hfv := fnd_hv' b
            rw [← hq17, Hfz.out] at hfv
            cases hvv : hv b.toNat with
            | some d =>
              rw [hvv] at hfv
              simp only at hfv
              have hd16 := hv_lt hvv
              have Hvv := Lib.hid hvv
              subst hfv
              clear hvv hq17
              obtain ⟨m, hm, Hm⟩ : ∃ m : Nat, IntKind.u64.wrap (IntKind.u64.wrap ((n : Int) * 16) + (d : Int)) = (m : Int) ∧ Hid (m = n * 16 + d) := ⟨_, add_nib n d k hn.out hlt hd16, rfl⟩
              have Hg := Lib.hid (or_nib n d k hn.out hlt hd16).2
              go_wp2
              go_roundw
              case rel => exact ⟨k + 1, m, by omega, rfl, by go_num, by rw [Hp.out, Hd.out, Hr.out, parseF, Hvv.out, Hm.out], by rw [Hm.out]; exact Hg.out, hbi⟩
              case measure => simp [intOf]; omega
            | none =>
              rw [hvv] at hfv
              simp only at hfv
              have Hvv := Lib.hid hvv
              subst hfv
              clear hvv hq17
              go_wp2
              go_ret2
              exact ⟨by rw [parseHex, if_pos H16.out, Hp.out, Hd.out, parseF, Hvv.out]; rfl, hbi⟩
      · go_wp2
        go_ret2
        exact ⟨by rw [parseHex, if_pos H16.out, Hp.out, List.drop_of_length_le (by omega)]; rfl, hbw⟩
  · have h1 : ((l.length : Int) != 16) = true := by rw [bne_iff_ne]; omega
    have H16 := Lib.hid h16
    clear h16
    go_enter Try.func25, Try.ntmps25
    go_wp2
    go_ret2
    exact ⟨by rw [parseHex, if_neg H16.out]; rfl, Below.refl _ _⟩
end Go.Proofs.Ytcnpihilbpaljaa

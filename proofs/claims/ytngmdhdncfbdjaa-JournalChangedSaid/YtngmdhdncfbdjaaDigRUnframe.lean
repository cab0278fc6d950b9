/- What the reference's Frame and Unframe compute. No condition. -/
import Derived.Test.YtngmdhdncfbdjaaDigUnframe
namespace Go.Proofs.Ytngmdhdncfbdjaa
open Go.ChangeShapes Go.WideShapes Go.ChangeAt Go.RowKit

set_option maxRecDepth 100000 in
set_option maxHeartbeats 400000 in
theorem rframe_any (l : List UInt8) (hlen : l.length ≤ 9223372036854775807) (w : World) :
    Calls Try.prog 47 #[.string ⟨l.toArray⟩] w fun e w' => e = .returned (.tuple #[.string ⟨(frame l).1.toArray⟩, .int .i64 (frame l).2]) ∧ Below w.heap.size w w' := by
  by_cases h : 65535 < (l.length : Int)
  · go_enter Try.func47, Try.ntmps47
    go_wp2
    go_ret2
    exact ⟨by rw [frame, if_pos (by omega)]; rfl, Below.refl _ _⟩
  · have hcrc := fun W => rcrc_any l hlen W
    have hput := fun W => rput_any l.length (len_u64 (by omega)) W
    have hc4 := fun W => rcrc4_any (crc l) (crc_w32 l) W
    have hpl := putF_len 9 l.length
    have hfr : Hid (frame l = (putF 9 l.length ++ be4 (crc l) ++ l, 0)) := by show _ = _; rw [frame, if_neg (by omega)]
    have hbl := be4_len (crc l)
    generalize crc l = c at *
    generalize be4 c = q at *
    generalize putF 9 l.length = p at *
    have HC := Lib.hid hcrc
    have HP := Lib.hid hput
    have H4 := Lib.hid hc4
    have hql : q.length ≤ 4 := by omega
    clear hcrc hput hbl hc4
    go_enter Try.func47, Try.ntmps47
    go_wp2_with fail
    refine (HP.out w).mono ?_
    rintro e w1 ⟨rfl, hb1⟩
    go_wp2_with fail
    refine (HC.out w1).mono ?_
    rintro e w2 ⟨rfl, rfl⟩
    go_wp2_with fail
    refine (H4.out w1).mono ?_
    rintro e w2 ⟨rfl, hb2⟩
    go_wp2_with fail
    go_ret2
    refine ⟨?_, hb1.trans (hb2.mono hb1.size)⟩
    rw [hfr.out]
    exact ret_str_err _ _ (by rw [str_app, str_app]) _

set_option maxRecDepth 100000 in
set_option maxHeartbeats 400000 in
theorem runframe_any (l : List UInt8) (hlen : l.length ≤ 1000000) (w : World) :
    Calls Try.prog 39 #[.string ⟨l.toArray⟩] w fun e w' => e = .returned (.tuple #[.string ⟨(unframe l).1.toArray⟩, .int .i64 (unframe l).2.1, .int .i64 (unframe l).2.2]) ∧ Below w.heap.size w w' := by
  have hg := fun W => rget_any l W (by omega)
  have hok := getF_ok l 0 0 (by omega) (by decide)
  obtain ⟨u, hun⟩ : ∃ u, unframe l = u := ⟨_, rfl⟩
  rw [hun]
  rw [unframe] at hun
  generalize getF 0 0 l = g at *
  obtain ⟨n, k, e⟩ := g
  simp only [ne_eq] at hg hok hun
  have HG := Lib.hid hg
  clear hg
  by_cases he : e = 0
  · subst he
    obtain ⟨hk1, hk2, hn⟩ := hok rfl
    have hk2' : k ≤ l.length := by omega
    clear hok hk2
    rw [if_neg (by omega), if_neg (by simp)] at hun
    by_cases h1 : 65535 < (n : Int)
    · rw [if_pos (by omega)] at hun; subst hun
      go_enter Try.func39, Try.ntmps39
      go_wp2_with fail
      refine (HG.out w).mono ?_
      rintro e w1 ⟨rfl, rfl⟩
      go_wp2_with fail
      go_ret3
      exact ⟨rfl, Below.refl _ _⟩
    · rw [if_neg (by omega)] at hun
      by_cases h2 : (l.length : Int) < (k : Int) + 4 + n
      · rw [if_pos (by omega)] at hun; subst hun
        go_enter Try.func39, Try.ntmps39
        go_wp2_with fail
        refine (HG.out w).mono ?_
        rintro e w1 ⟨rfl, rfl⟩
        go_wp2_with fail
        go_ret3
        exact ⟨rfl, Below.refl _ _⟩
      · rw [if_neg (by omega)] at hun
        have hn16 : (n : Int) ≤ 65535 := by omega
        have hbody : ({ data := l.toArray } : ByteArray).extract (k + 4) (k + 4 + n) = { data := (body l k n).toArray } := str_cut _ _ _
        have hhead : ({ data := l.toArray } : ByteArray).extract k (k + 4) = { data := ((l.take (k + 4)).drop k).toArray } := str_cut _ _ _
        have HC := Lib.hid (fun W => rcrc_any (body l k n) (by have := body_len l k n; omega) W)
        have H4 := Lib.hid (fun W => rcrc4_any (crc (body l k n)) (crc_w32 _) W)
        have HU := Lib.hid hun
        clear hun
        generalize crc (body l k n) = cb at *
        generalize (l.take (k + 4)).drop k = hd at *
        generalize be4 cb = q at *
        go_enter Try.func39, Try.ntmps39
        go_wp2_with fail
        refine (HG.out w).mono ?_
        rintro e w1 ⟨rfl, rfl⟩
        go_wp2_with fail
        have i1 : IntKind.i64.wrap ((k : Int) + 4) = (k : Int) + 4 := by rw [IntKind.wrap_i64]; omega
        have j1 : ((k : Int) + 4).toNat = k + 4 := by omega
        have j2 : ((k : Int) + 4 + n).toNat = k + 4 + n := by omega
        go_region_with first
          | (go_at_call 51; refine (HC.out _).mono ?_; rintro e w2 ⟨rfl, rfl⟩)
          | (go_at_call 50; refine (H4.out _).mono ?_; rintro e w3 ⟨rfl, hb3⟩)
        all_goals
          go_wp2_with fail
          all_goals go_ret3
          all_goals refine ⟨?_, (Below.refl w.heap.size w).drew.trans hb3⟩
          · have hq : ¬ q = hd := by
              have := ‹(!q == hd) = true›
              simpa using this
            rw [← HU.out, if_neg hq]
            rfl
          · have hq : q = hd := by
              have := ‹(!q == hd) = false›
              simpa using this
            rw [← HU.out, if_pos hq]
            rfl
  · clear hok
    by_cases h7 : e = 7
    · subst h7
      rw [if_pos rfl] at hun; subst hun
      go_enter Try.func39, Try.ntmps39
      go_wp2_with fail
      refine (HG.out w).mono ?_
      rintro e w1 ⟨rfl, rfl⟩
      go_wp2_with fail
      go_ret3
      exact ⟨rfl, Below.refl _ _⟩
    · rw [if_neg h7, if_pos he] at hun; subst hun
      have h7b : ((e : Int) == 7) = false := beq_eq_false_iff_ne.2 (by omega)
      have hec : ((e : Int) != 0) = true := by rw [bne_iff_ne]; omega
      clear he h7
      go_enter Try.func39, Try.ntmps39
      go_wp2_with fail
      refine (HG.out w).mono ?_
      rintro e w1 ⟨rfl, rfl⟩
      go_wp2_with fail
      go_ret3
      exact ⟨rfl, Below.refl _ _⟩
end Go.Proofs.Ytngmdhdncfbdjaa

/- What Frames, its reference and Same compute. No condition. -/
import Derived.Test.YtcnpihilbpaljaaDigRUnframe
namespace Go.Proofs.Ytcnpihilbpaljaa
open Go.ChangeShapes Go.WideShapes Go.ChangeAt Go.RowKit

def S8 (l : List UInt8) : Value := .string ⟨l.toArray⟩
/-- the contents of the frames from a place on: contents, bytes, error -/
def framesF : Nat → List UInt8 → Nat → List (List UInt8) → List (List UInt8) × Nat × Nat
  | 0, _, at_, acc => (acc, at_, 0)
  | f+1, l, at_, acc => if l.length ≤ at_ then (acc, at_, 0)
    else if (unframe (l.drop at_)).2.2 = 0 then framesF f l (at_ + (unframe (l.drop at_)).2.1) (acc ++ [(unframe (l.drop at_)).1])
    else (acc, at_, (unframe (l.drop at_)).2.2)
def frames (l : List UInt8) : List (List UInt8) × Nat × Nat := framesF (l.length + 1) l 0 []
theorem unframe_ok (l : List UInt8) (h : (unframe l).2.2 = 0) : 0 < (unframe l).2.1 ∧ (unframe l).2.1 ≤ l.length := by
  unfold unframe at h ⊢
  split at h
  · simp at h
  split at h
  · next h1 => exact absurd h h1
  split at h
  · simp at h
  split at h
  · simp at h
  split at h
  · next h1 h2 h3 h4 h5 =>
    rw [if_neg h1, if_neg h2, if_neg h3, if_neg h4, if_pos h5]
    exact ⟨by show 0 < _ + 4 + _; omega, by show _ + 4 + _ ≤ _; omega⟩
  · simp at h
theorem framesF_done (f : Nat) (l : List UInt8) (p : Nat) (acc : List (List UInt8)) (h : l.length ≤ p) : framesF f l p acc = (acc, p, 0) := by
  cases f with
  | zero => rfl
  | succ f => rw [framesF, if_pos h]

theorem info_str : (Try.prog.info? 9).map (fun i => (i.zero, i.size, i.bytes)) = some (some (.string ByteArray.empty), 1, 16) := by kernel_rfl

set_option maxRecDepth 100000 in
set_option maxHeartbeats 400000 in
theorem dframes_any (l : List UInt8) (hlen : l.length ≤ 1000000) (w : World) :
    Calls Try.prog 20 #[.string ⟨l.toArray⟩] w fun e w' => ∃ v, e = .returned (.tuple #[v, .int .i64 (frames l).2.1, .int .i64 (frames l).2.2]) ∧ w'.ownsRow w.heap.size 9 1 v (frames l).1.length ((frames l).1.map S8) ∧ Below w.heap.size w w' := by
  go_enter Try.func20, Try.ntmps20
  go_wp2
  go_loopw [5, 6] (fun v i wr => ∃ f p acc, i = .int .i64 (p : Nat) ∧ p ≤ l.length ∧ l.length < f + p ∧ acc.length ≤ p ∧ frames l = framesF f l p acc ∧ wr.ownsRow w.heap.size 9 1 v acc.length (acc.map S8) ∧ Below w.heap.size w wr)
     (fun _ i _ => l.length - (intOf i).toNat)
  case atStart => exact ⟨l.length + 1, 0, [], rfl, by omega, by omega, by simp, rfl, World.ownsRow_nil _ _ _ _, Below.refl _ _⟩
  case round =>
    obtain ⟨f, p, acc, rfl, hp, hf, ha, hfr, hown, hb⟩ := hrel
    by_cases hlt : p < l.length
    · obtain ⟨f, rfl⟩ : ∃ g, f = g + 1 := ⟨f - 1, by omega⟩
      rw [framesF, if_neg (by omega)] at hfr
      have hcut : ({ data := l.toArray } : ByteArray).extract p l.length = { data := (l.drop p).toArray } := str_from _ _ _ rfl
      have hun := fun W => dunframe_any (l.drop p) (by rw [List.length_drop]; omega) W
      have hok := unframe_ok (l.drop p)
      have hdl : (l.drop p).length = l.length - p := List.length_drop
      rw [hdl] at hok
      clear hdl
      generalize unframe (l.drop p) = u at *
      obtain ⟨c, n, e⟩ := u
      simp only at hfr hun hok
      have HU := Lib.hid hun
      clear hun
      by_cases he : e = 0
      · rw [if_pos he] at hfr
        subst he
        obtain ⟨h1, h2⟩ := hok rfl
        have h3 : p + n ≤ l.length := by omega
        have Hfr := Lib.hid hfr
        clear hfr hok
        go_wp2_with first
          | (go_at_call 18; refine (HU.out _).mono ?_; rintro e w1 ⟨rfl, hb1⟩)
          | (at_builtin; refine wpList_append_one rfl _ _ _ rfl w.heap.size 9 _ 1 16 Try.underlying38 info_str rfl (by decide) _ acc.length (acc.map S8) rfl (own_below hown hb1) [_] _ 1 rfl rfl (by simp [Value.oneCell']) (by omega) (by omega) (Nat.le_trans hb.size hb1.size) ?_; intro v' w2 hown2 hb2)
        go_roundw
        case rel =>
          refine ⟨f, p + n, acc ++ [c], by go_num, h3, by omega, by simp; omega, Hfr.out, ?_, hb.trans ((hb1.mono hb.size).trans hb2)⟩
          rw [List.map_append, List.length_append]
          exact hown2
        case measure => simp [intOf]; omega
      · rw [if_neg he] at hfr
        have he2 : ((e : Int) != 0) = true := by rw [bne_iff_ne]; omega
        have Hfr := Lib.hid hfr
        clear hfr hok he
        go_wp2_with (go_at_call 18; refine (HU.out _).mono ?_; rintro e w1 ⟨rfl, hb1⟩)
        go_ret3
        refine ⟨u5, ?_, ?_, hb.trans (hb1.mono hb.size)⟩
        · rw [Hfr.out]; rfl
        · rw [Hfr.out]; exact own_below hown hb1
    · rw [framesF_done _ _ _ _ (by omega)] at hfr
      have Hfr := Lib.hid hfr
      clear hfr
      go_wp2
      go_ret3
      refine ⟨u5, ?_, ?_, hb⟩
      · rw [Hfr.out]; rfl
      · rw [Hfr.out]; exact hown

set_option maxRecDepth 100000 in
set_option maxHeartbeats 400000 in
theorem rframes_any (l : List UInt8) (hlen : l.length ≤ 1000000) (w : World) :
    Calls Try.prog 21 #[.string ⟨l.toArray⟩] w fun e w' => ∃ v, e = .returned (.tuple #[v, .int .i64 (frames l).2.1, .int .i64 (frames l).2.2]) ∧ w'.ownsRow w.heap.size 9 1 v (frames l).1.length ((frames l).1.map S8) ∧ Below w.heap.size w w' := by
  go_enter Try.func21, Try.ntmps21
  go_wp2
  go_loopw [5, 6] (fun v i wr => ∃ f p acc, i = .int .i64 (p : Nat) ∧ p ≤ l.length ∧ l.length < f + p ∧ acc.length ≤ p ∧ frames l = framesF f l p acc ∧ wr.ownsRow w.heap.size 9 1 v acc.length (acc.map S8) ∧ Below w.heap.size w wr)
     (fun _ i _ => l.length - (intOf i).toNat)
  case atStart => exact ⟨l.length + 1, 0, [], rfl, by omega, by omega, by simp, rfl, World.ownsRow_nil _ _ _ _, Below.refl _ _⟩
  case round =>
    obtain ⟨f, p, acc, rfl, hp, hf, ha, hfr, hown, hb⟩ := hrel
    by_cases hlt : p < l.length
    · obtain ⟨f, rfl⟩ : ∃ g, f = g + 1 := ⟨f - 1, by omega⟩
      rw [framesF, if_neg (by omega)] at hfr
      have hcut : ({ data := l.toArray } : ByteArray).extract p l.length = { data := (l.drop p).toArray } := str_from _ _ _ rfl
      have hun := fun W => runframe_any (l.drop p) (by rw [List.length_drop]; omega) W
      have hok := unframe_ok (l.drop p)
      have hdl : (l.drop p).length = l.length - p := List.length_drop
      rw [hdl] at hok
      clear hdl
      generalize unframe (l.drop p) = u at *
      obtain ⟨c, n, e⟩ := u
      simp only at hfr hun hok
      have HU := Lib.hid hun
      clear hun
      by_cases he : e = 0
      · rw [if_pos he] at hfr
        subst he
        obtain ⟨h1, h2⟩ := hok rfl
        have h3 : p + n ≤ l.length := by omega
        have Hfr := Lib.hid hfr
        clear hfr hok
        go_wp2_with first
          | (go_at_call 19; refine (HU.out _).mono ?_; rintro e w1 ⟨rfl, hb1⟩)
          | (at_builtin; refine wpList_append_one rfl _ _ _ rfl w.heap.size 9 _ 1 16 Try.underlying38 info_str rfl (by decide) _ acc.length (acc.map S8) rfl (own_below hown hb1) [_] _ 1 rfl rfl (by simp [Value.oneCell']) (by omega) (by omega) (Nat.le_trans hb.size hb1.size) ?_; intro v' w2 hown2 hb2)
        go_roundw
        case rel =>
          refine ⟨f, p + n, acc ++ [c], by go_num, h3, by omega, by simp; omega, Hfr.out, ?_, hb.trans ((hb1.mono hb.size).trans hb2)⟩
          rw [List.map_append, List.length_append]
          exact hown2
        case measure => simp [intOf]; omega
      · rw [if_neg he] at hfr
        have he2 : ((e : Int) != 0) = true := by rw [bne_iff_ne]; omega
        have Hfr := Lib.hid hfr
        clear hfr hok he
        go_wp2_with (go_at_call 19; refine (HU.out _).mono ?_; rintro e w1 ⟨rfl, hb1⟩)
        go_ret3
        refine ⟨u5, ?_, ?_, hb.trans (hb1.mono hb.size)⟩
        · rw [Hfr.out]; rfl
        · rw [Hfr.out]; exact own_below hown hb1
    · rw [framesF_done _ _ _ _ (by omega)] at hfr
      have Hfr := Lib.hid hfr
      clear hfr
      go_wp2
      go_ret3
      refine ⟨u5, ?_, ?_, hb⟩
      · rw [Hfr.out]; rfl
      · rw [Hfr.out]; exact hown

theorem s8_get (xs : List (List UInt8)) (k : Nat) (h : k < xs.length) : (xs.map S8)[k]? = some (.string ⟨(xs[k]).toArray⟩) := by
  simp [h, S8]

set_option maxRecDepth 100000 in
set_option maxHeartbeats 400000 in
theorem same_any (xs ys : List (List UInt8)) (va vb : Value) (w : World) (hlx : xs.length ≤ 1048576) (hly : ys.length ≤ 1048576) (hx : Rd w w.heap.size 1 va xs.length (xs.map S8)) (hy : Rd w w.heap.size 1 vb ys.length (ys.map S8)) :
    Calls Try.prog 22 #[va, vb] w fun e w' => e = .returned (.bool (decide (xs = ys))) ∧ Below w.heap.size w w' := by
  obtain ⟨A, c, rfl, hc⟩ := hx.form
  obtain ⟨B, d, rfl, hd⟩ := hy.form
  by_cases hl : xs.length = ys.length
  · have HL := Lib.hid hl
    have h1 : ((xs.length : Int) != (ys.length : Int)) = false := by simp [hl]
    have hl' : (xs.length : Int) ≤ ys.length := by omega
    clear hl
    go_enter Try.func22, Try.ntmps22
    go_wp2
    go_loopw [5] (fun i wr => ∃ k : Nat, k ≤ xs.length ∧ i = .int .i64 k ∧ xs.take k = ys.take k ∧ Below w.heap.size w wr) (fun i _ => xs.length - (intOf i).toNat)
    case atStart => exact ⟨0, by omega, rfl, rfl, Below.refl _ _⟩
    case round =>
      obtain ⟨k, hk, rfl, hp, hb⟩ := hrel
      have Hp := Lib.hid hp
      clear hp
      by_cases hlt : k < xs.length
      · obtain ⟨b, o, rfl, hbb, hcell⟩ := (hx.below hb).at_ (by omega)
        obtain ⟨b', o', rfl, hbb', hcell'⟩ := (hy.below hb).at_ (by omega)
        have hlt' : k < ys.length := by omega
        have hc1 : wr.cell? ⟨b, o + k, none⟩ = some (.string ⟨(xs[k]).toArray⟩) := hcell k _ (s8_get xs k hlt)
        have hc2 : wr.cell? ⟨b', o' + k, none⟩ = some (.string ⟨(ys[k]).toArray⟩) := hcell' k _ (s8_get ys k hlt')
        clear hcell hcell'
        have hi1 : (k : Int) < xs.length := by omega
        have hi2 : (k : Int) < ys.length := by omega
        have Hx : Hid (xs.take (k+1) = xs.take k ++ [xs[k]]) := List.take_succ_eq_append_getElem hlt
        have Hy : Hid (ys.take (k+1) = ys.take k ++ [ys[k]]) := List.take_succ_eq_append_getElem hlt'
        have Hne : Hid (xs[k] ≠ ys[k] → xs ≠ ys) := fun h e => h (by subst e; rfl)
        generalize xs[k] = x at *
        generalize ys[k] = y at *
        go_wp2
        go_quiet (fail)
        go_wp2
        · go_ret
          have hne : ¬ x = y := by
            have := ‹(!x == y) = true›
            simpa using this
          exact ⟨ret_bool (decide_eq_false (Hne.out hne)).symm, below_drewN hb _⟩
        · have he : x = y := by
            have := ‹(!x == y) = false›
            simpa using this
          go_roundw
          case rel => exact ⟨k + 1, by omega, by go_num, by rw [Hx.out, Hy.out, Hp.out, he], below_drewN hb _⟩
          case measure => simp [intOf]; omega
      · go_wp2
        go_ret
        refine ⟨ret_bool ?_, hb⟩
        have e1 := Hp.out
        rw [List.take_of_length_le (by omega), List.take_of_length_le (by have := HL.out; omega)] at e1
        exact (decide_eq_true e1).symm
  · have h1 : ((xs.length : Int) != (ys.length : Int)) = true := by rw [bne_iff_ne]; omega
    have HL := Lib.hid hl
    clear hl
    go_enter Try.func22, Try.ntmps22
    go_wp2
    go_ret
    refine ⟨ret_bool ?_, Below.refl _ _⟩
    exact (decide_eq_false fun e => HL.out (by rw [e])).symm
end Go.Proofs.Ytcnpihilbpaljaa

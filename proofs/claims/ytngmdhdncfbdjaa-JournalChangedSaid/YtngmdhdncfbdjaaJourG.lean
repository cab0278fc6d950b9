/- What few, Good and Log compute. No condition. -/
import Derived.Test.YtngmdhdncfbdjaaJourF
namespace Go.Proofs.Ytngmdhdncfbdjaa
open Go.ChangeShapes Go.WideShapes Go.ChangeAt Go.RowKit

def fits (x : Ent) : Bool := validB x && decide ((fmtE x).length ≤ 65535)
def goodJ (xs : List Ent) : List Ent := xs.filter fits
def logF : List Ent → List UInt8 → List Nat → List UInt8 × List Nat
  | [], log, ends => (log, ends)
  | x :: r, log, ends => if (appendJ log x).2 = 0 then logF r (appendJ log x).1 (ends ++ [(appendJ log x).1.length]) else logF r log ends
def logJ (xs : List Ent) : List UInt8 × List Nat := logF xs [] [0]
def sumJ (xs : List Ent) : Nat := (xs.map fun x => x.2.2.2.length).sum
def fewB (xs : List Ent) : Bool := decide (xs.length ≤ 10 ∧ sumJ xs ≤ 500)
theorem sumJ_take (xs : List Ent) (k : Nat) (h : k < xs.length) : sumJ (xs.take (k+1)) = sumJ (xs.take k) + xs[k].2.2.2.length := by
  unfold sumJ
  rw [List.take_succ_eq_append_getElem h, List.map_append, List.sum_append]
  simp
theorem sumJ_le (xs : List Ent) (h : ∀ x ∈ xs, EntIn x) : sumJ xs ≤ xs.length * 140737488351232 := by
  induction xs with
  | nil => simp [sumJ]
  | cons x r ih =>
    have h1 := (h x (by simp)).2
    have h2 := ih fun y hy => h y (by simp [hy])
    simp only [sumJ, List.map_cons, List.sum_cons, List.length_cons, Nat.succ_mul] at *
    omega
theorem ents_at {w : World} {b o : Nat} {xs : List Ent} (hcell : ∀ j u, (entsV xs)[j]? = some u → w.cell? ⟨b, o + j, none⟩ = some u) (k : Nat) (h : k < xs.length) {x0 x1 x2 : Int} {x3 : List UInt8} (hx : xs[k] = (x0, x1, x2, x3)) :
    w.cell? ⟨b, o + k * 4, none⟩ = some (.int .i64 x0) ∧ w.cell? ⟨b, o + k * 4 + 1, none⟩ = some (.int .i64 x1) ∧ w.cell? ⟨b, o + k * 4 + 2, none⟩ = some (.int .i64 x2) ∧ w.cell? ⟨b, o + k * 4 + 3, none⟩ = some (.string ⟨x3.toArray⟩) := by
  have := entsV_at hcell k h
  rw [hx] at this
  exact this

set_option maxRecDepth 100000 in
set_option maxHeartbeats 400000 in
theorem few_any (xs : List Ent) (v : Value) (w : World) (hlen : xs.length ≤ 140737488351232) (hin : ∀ x ∈ xs, EntIn x) (hr : Rd w w.heap.size 4 v xs.length (entsV xs)) :
    Calls Try.prog 18 #[v] w fun e w' => e = .returned (.bool (fewB xs)) ∧ Below w.heap.size w w' := by
  obtain ⟨A, c, rfl, hc⟩ := hr.form
  have hfew : Hid (fewB xs = decide (xs.length ≤ 10 ∧ sumJ xs ≤ 500)) := by show _ = _; rfl
  have Hin := Lib.hid hin
  by_cases h10 : (xs.length : Int) ≤ 10
  · have hsl := sumJ_le xs hin
    clear hin
    go_enter Try.func18, Try.ntmps18
    go_wp2
    go_loopw [3, 8] (fun m i wr => ∃ k s : Nat, k ≤ xs.length ∧ i = .int .i64 k ∧ m = .int .i64 (s : Nat) ∧ s = sumJ (xs.take k) ∧ s ≤ k * 140737488351232 ∧ Below w.heap.size w wr)
       (fun _ i _ => xs.length - (intOf i).toNat)
    case atStart => exact ⟨0, 0, by omega, rfl, rfl, rfl, by omega, Below.refl _ _⟩
    case round =>
      obtain ⟨k, s, hk, rfl, rfl, hs, hsk, hb⟩ := hrel
      have Hs := Lib.hid hs
      clear hs
      by_cases hlt : k < xs.length
      · obtain ⟨b, o, rfl, hbb, hcell⟩ := (hr.below hb).at_ (by omega)
        have htk := sumJ_take xs k hlt
        have hxi := Hin.out xs[k] (List.getElem_mem hlt)
        obtain ⟨x, hx⟩ : ∃ x, xs[k] = x := ⟨_, rfl⟩
        obtain ⟨x0, x1, x2, x3⟩ := x
        obtain ⟨hc0, hc1, hc2, hc3⟩ := ents_at hcell k hlt hx
        rw [hx] at htk hxi
        have hx3 := hxi.2
        simp only at htk hx3
        have Htk := Lib.hid htk
        clear hcell hx hxi htk
        go_wp2
        go_roundw
        case rel => exact ⟨k + 1, s + x3.length, by omega, by go_num, by go_num, by rw [Htk.out, Hs.out], by omega, hb.alloc hb.size _⟩
        case measure => simp [intOf]; omega
      · have hk2 : k = xs.length := by omega
        have hs2 := Hs.out
        rw [List.take_of_length_le (by omega)] at hs2
        by_cases h500 : (s : Int) ≤ 500
        all_goals
          clear hk2 hs2
          go_wp2
          go_ret
          refine ⟨ret_bool ?_, hb⟩
          have hs2 := Hs.out
          rw [List.take_of_length_le (by omega)] at hs2
          rw [hfew.out]
          first | exact (decide_eq_true (by omega)).symm | exact (decide_eq_false (by omega)).symm
  · clear hin
    go_enter Try.func18, Try.ntmps18
    go_wp2
    go_loopw [3, 8] (fun m i wr => ∃ (k : Nat) (s : Int), k ≤ xs.length ∧ i = .int .i64 k ∧ m = .int .i64 s ∧ Below w.heap.size w wr)
       (fun _ i _ => xs.length - (intOf i).toNat)
    case atStart => exact ⟨0, 0, by omega, rfl, rfl, Below.refl _ _⟩
    case round =>
      obtain ⟨k, s, hk, rfl, rfl, hb⟩ := hrel
      by_cases hlt : k < xs.length
      · obtain ⟨b, o, rfl, hbb, hcell⟩ := (hr.below hb).at_ (by omega)
        have hxi := Hin.out xs[k] (List.getElem_mem hlt)
        obtain ⟨x, hx⟩ : ∃ x, xs[k] = x := ⟨_, rfl⟩
        obtain ⟨x0, x1, x2, x3⟩ := x
        obtain ⟨hc0, hc1, hc2, hc3⟩ := ents_at hcell k hlt hx
        rw [hx] at hxi
        have hx3 := hxi.2
        simp only at hx3
        clear hcell hx hxi
        go_wp2
        go_roundw
        case rel => exact ⟨k + 1, _, by omega, by go_num, rfl, hb.alloc hb.size _⟩
        case measure => simp [intOf]; omega
      · go_wp2
        go_ret
        refine ⟨ret_bool ?_, hb⟩
        rw [hfew.out]
        exact (decide_eq_false (by omega)).symm

theorem goodJ_take (xs : List Ent) (k : Nat) (h : k < xs.length) : goodJ (xs.take (k+1)) = if fits xs[k] then goodJ (xs.take k) ++ [xs[k]] else goodJ (xs.take k) := by
  unfold goodJ
  rw [List.take_succ_eq_append_getElem h, List.filter_append]
  by_cases hf : fits xs[k] = true
  · rw [if_pos hf]; simp [hf]
  · rw [if_neg hf]; simp [hf]
theorem goodJ_len (xs : List Ent) (k : Nat) : (goodJ (xs.take k)).length ≤ k := by
  have h1 : (goodJ (xs.take k)).length ≤ (xs.take k).length := List.length_filter_le _ _
  rw [List.length_take] at h1
  omega

set_option maxRecDepth 100000 in
set_option maxHeartbeats 400000 in
theorem good_any (xs : List Ent) (v : Value) (w : World) (hlen : xs.length ≤ 1000000) (hin : ∀ x ∈ xs, EntIn x) (hr : Rd w w.heap.size 4 v xs.length (entsV xs)) :
    Calls Try.prog 24 #[v] w fun e w' => ∃ v, e = .returned v ∧ w'.ownsRow w.heap.size 23 4 v (goodJ xs).length (entsV (goodJ xs)) ∧ Below w.heap.size w w' := by
  obtain ⟨A, c, rfl, hc⟩ := hr.form
  have Hin := Lib.hid hin
  clear hin
  go_enter Try.func24, Try.ntmps24
  go_wp2
  go_loopw [3, 4] (fun v i wr => ∃ k n : Nat, k ≤ xs.length ∧ i = .int .i64 k ∧ n = (goodJ (xs.take k)).length ∧ n ≤ k ∧ wr.ownsRow w.heap.size 23 4 v n (entsV (goodJ (xs.take k))) ∧ Below w.heap.size w wr)
     (fun _ i _ => xs.length - (intOf i).toNat)
  case atStart => exact ⟨0, 0, by omega, rfl, rfl, by omega, World.ownsRow_nil _ _ _ _, Below.refl _ _⟩
  case round =>
    obtain ⟨k, n, hk, rfl, hn, hnk, hown, hb⟩ := hrel
    by_cases hlt : k < xs.length
    · obtain ⟨b, o, rfl, hbb, hcell⟩ := (hr.below hb).at_ (by omega)
      have Hn := Lib.hid hn
      clear hn
      have htk := goodJ_take xs k hlt
      have hxi := Hin.out xs[k] (List.getElem_mem hlt)
      obtain ⟨x, hx⟩ : ∃ x, xs[k] = x := ⟨_, rfl⟩
      obtain ⟨x0, x1, x2, x3⟩ := x
      obtain ⟨hc0, hc1, hc2, hc3⟩ := ents_at hcell k hlt hx
      rw [hx] at htk hxi
      obtain ⟨hxo, hx3⟩ := hxi
      simp only at hx3
      have hva := fun W => rvalid_any x0 x1 x2 x3 W
      have hfo := Lib.hid (fun W => rformat_any x0 x1 x2 x3 hxo (by omega) W)
      have hfl := fmtE_len (x0, x1, x2, x3)
      have hfi : Hid (fits (x0, x1, x2, x3) = (validB (x0, x1, x2, x3) && decide ((fmtE (x0, x1, x2, x3)).length ≤ 65535))) := by show _ = _; rfl
      simp only at hfl
      have Htk := Lib.hid htk
      have Hxo := Lib.hid hxo
      clear hcell hx htk hxo
      have hbs := hb.size
      cases hvb : validB (x0, x1, x2, x3) with
      | false =>
        rw [hvb] at hva hfi
        have HV := Lib.hid hva
        clear hva hvb hfl
        go_wp2_with fail
        refine (HV.out _).mono ?_
        rintro e w1 ⟨rfl, hb1⟩
        have hown1 := own_below hown hb1
        clear hown
        go_wp2_with fail
        go_roundw
        case rel =>
          have hff : fits (x0, x1, x2, x3) = false := by rw [hfi.out]; rfl
          have := Htk.out
          rw [hff, if_neg (by simp)] at this
          exact ⟨k + 1, n, by omega, by go_num, by rw [this]; exact Hn.out, by omega, by rw [this]; exact hown1, hb.trans (hb1.mono hb.size)⟩
        case measure => simp [intOf]; omega
      | true =>
        rw [hvb] at hva hfi
        have HV := Lib.hid hva
        clear hva hvb
        generalize fmtE (x0, x1, x2, x3) = g at *
        by_cases hg : (g.length : Int) ≤ 65535
        · go_wp2_with fail
          refine (HV.out _).mono ?_
          rintro e w1 ⟨rfl, hb1⟩
          have hown1 := own_below hown hb1
          have hc0 := (hb1.cell (p := ⟨b, o + k * 4, none⟩) (show b < wr.heap.size by omega)).trans hc0
          have hc1 := (hb1.cell (p := ⟨b, o + k * 4 + 1, none⟩) (show b < wr.heap.size by omega)).trans hc1
          have hc2 := (hb1.cell (p := ⟨b, o + k * 4 + 2, none⟩) (show b < wr.heap.size by omega)).trans hc2
          have hc3 := (hb1.cell (p := ⟨b, o + k * 4 + 3, none⟩) (show b < wr.heap.size by omega)).trans hc3
          have h01 := hb.trans (hb1.mono hb.size)
          have hbs1 := h01.size
          clear hown hb1
          go_wp2_with fail
          refine (hfo.out _).mono ?_
          rintro e w2 ⟨rfl, hb2⟩
          have hown2 := own_below hown1 hb2
          have hc0 := (hb2.cell (p := ⟨b, o + k * 4, none⟩) (show b < w1.heap.size by omega)).trans hc0
          have hc1 := (hb2.cell (p := ⟨b, o + k * 4 + 1, none⟩) (show b < w1.heap.size by omega)).trans hc1
          have hc2 := (hb2.cell (p := ⟨b, o + k * 4 + 2, none⟩) (show b < w1.heap.size by omega)).trans hc2
          have hc3 := (hb2.cell (p := ⟨b, o + k * 4 + 3, none⟩) (show b < w1.heap.size by omega)).trans hc3
          have h02 := h01.trans (hb2.mono h01.size)
          clear hown1 hb2
          go_wp2_with (at_builtin; refine wpList_append_at rfl _ _ _ rfl w.heap.size 23 _ 4 40 Try.underlying31 info_ent rfl (by decide) _ n (entsV (goodJ (xs.take k))) rfl hown2 [_, _, _, _] _ 1 _ rfl rfl rfl (by simp [Value.oneCell']) (by omega) (by omega) h02.size ?_; intro v' w3 hown3 hb3)
          go_roundw
          case rel =>
            have hff : fits (x0, x1, x2, x3) = true := by rw [hfi.out]; simp; omega
            have := Htk.out
            rw [hff, if_pos rfl] at this
            refine ⟨k + 1, n + 1, by omega, by go_num, by rw [this, List.length_append]; have := Hn.out; simp; omega, by omega, ?_, h02.trans hb3⟩
            rw [this, entsV_snoc]
            exact hown3
          case measure => simp [intOf]; omega
        · go_wp2_with fail
          refine (HV.out _).mono ?_
          rintro e w1 ⟨rfl, hb1⟩
          have hown1 := own_below hown hb1
          have hc0 := (hb1.cell (p := ⟨b, o + k * 4, none⟩) (show b < wr.heap.size by omega)).trans hc0
          have hc1 := (hb1.cell (p := ⟨b, o + k * 4 + 1, none⟩) (show b < wr.heap.size by omega)).trans hc1
          have hc2 := (hb1.cell (p := ⟨b, o + k * 4 + 2, none⟩) (show b < wr.heap.size by omega)).trans hc2
          have hc3 := (hb1.cell (p := ⟨b, o + k * 4 + 3, none⟩) (show b < wr.heap.size by omega)).trans hc3
          have h01 := hb.trans (hb1.mono hb.size)
          clear hown hb1
          go_wp2_with fail
          refine (hfo.out _).mono ?_
          rintro e w2 ⟨rfl, hb2⟩
          have hown2 := own_below hown1 hb2
          have h02 := h01.trans (hb2.mono h01.size)
          clear hown1 hb2
          go_wp2_with fail
          go_roundw
          case rel =>
            have hff : fits (x0, x1, x2, x3) = false := by rw [hfi.out]; simp; omega
            have := Htk.out
            rw [hff, if_neg (by simp)] at this
            exact ⟨k + 1, n, by omega, by go_num, by rw [this]; exact Hn.out, by omega, by rw [this]; exact hown2, h02⟩
          case measure => simp [intOf]; omega
    · have Hn := Lib.hid hn
      clear hn
      go_wp2
      go_ret
      refine ⟨_, rfl, ?_, hb⟩
      have hn2 := Hn.out
      rw [List.take_of_length_le (by omega)] at hown hn2
      rw [← hn2]
      exact hown
end Go.Proofs.Ytngmdhdncfbdjaa

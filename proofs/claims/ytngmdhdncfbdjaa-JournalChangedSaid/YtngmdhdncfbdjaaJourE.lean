/- What Repair, Write and their references compute. No condition. -/
import Derived.Test.YtngmdhdncfbdjaaJourD
namespace Go.Proofs.Ytngmdhdncfbdjaa
open Go.ChangeShapes Go.WideShapes Go.ChangeAt Go.RowKit

theorem readJF_le : ∀ (f : Nat) (l : List UInt8) (p : Nat) (acc : List Ent), p ≤ l.length → acc.length ≤ p → (readJF f l p acc).2.1 ≤ l.length ∧ (readJF f l p acc).1.length ≤ (readJF f l p acc).2.1 := by
  intro f
  induction f with
  | zero => intro l p acc h h2; exact ⟨h, h2⟩
  | succ f ih =>
    intro l p acc h h2
    rw [readJF]
    split
    · exact ⟨h, h2⟩
    split
    · next h3 h4 =>
      have := unframe_ok _ h4.1
      rw [List.length_drop] at this
      exact ih l _ _ (by omega) (by simp; omega)
    · exact ⟨h, h2⟩
theorem readJ_le (l : List UInt8) : (readJ l).2.1 ≤ l.length ∧ (readJ l).1.length ≤ (readJ l).2.1 := readJF_le _ l 0 [] (by omega) (by simp)

set_option maxRecDepth 100000 in
set_option maxHeartbeats 400000 in
theorem repair_any (l : List UInt8) (hlen : l.length ≤ 1000000) (w : World) :
    Calls Try.prog 27 #[.string ⟨l.toArray⟩] w fun e w' => e = .returned (.string ⟨(repairJ l).toArray⟩) ∧ Below w.heap.size w w' := by
  have hr := fun W => read_any l hlen W
  have hle := (readJ_le l).1
  have Hre : Hid (repairJ l = l.take (readJ l).2.1) := by show _ = _; rfl
  generalize readJ l = x at *
  obtain ⟨xs, n, e⟩ := x
  simp only at hr hle Hre
  have HR := Lib.hid hr
  clear hr
  go_enter Try.func27, Try.ntmps27
  go_wp2_with fail
  refine (HR.out _).mono ?_
  rintro e w1 ⟨v, rfl, hown, hb1⟩
  clear hown
  go_wp2_with fail
  go_ret
  refine ⟨?_, hb1⟩
  rw [Hre.out]
  exact ret_str_of' (by rw [str_cut]; simp)
set_option maxRecDepth 100000 in
set_option maxHeartbeats 400000 in
theorem rrepair_any (l : List UInt8) (hlen : l.length ≤ 1000000) (w : World) :
    Calls Try.prog 28 #[.string ⟨l.toArray⟩] w fun e w' => e = .returned (.string ⟨(repairJ l).toArray⟩) ∧ Below w.heap.size w w' := by
  have hr := fun W => rread_any l hlen W
  have hle := (readJ_le l).1
  have Hre : Hid (repairJ l = l.take (readJ l).2.1) := by show _ = _; rfl
  generalize readJ l = x at *
  obtain ⟨xs, n, e⟩ := x
  simp only at hr hle Hre
  have HR := Lib.hid hr
  clear hr
  go_enter Try.func28, Try.ntmps28
  go_wp2_with fail
  refine (HR.out _).mono ?_
  rintro e w1 ⟨v, rfl, hown, hb1⟩
  clear hown
  go_wp2_with fail
  go_ret
  refine ⟨?_, hb1⟩
  rw [Hre.out]
  exact ret_str_of' (by rw [str_cut]; simp)

set_option maxRecDepth 100000 in
set_option maxHeartbeats 800000 in
theorem write_any (log : List UInt8) (k t i : Int) (d : List UInt8) (hx : EntOk (k, t, i, d)) (hl : log.length ≤ 1000000) (hd : d.length ≤ 140737488355328) (w : World) :
    Calls Try.prog 25 #[.string ⟨log.toArray⟩, .agg #[.int .i64 k, .int .i64 t, .int .i64 i, .string ⟨d.toArray⟩]] w fun e w' => e = .returned (.tuple #[.string ⟨(writeJ log (k, t, i, d)).1.toArray⟩, .int .i64 (writeJ log (k, t, i, d)).2]) ∧ Below w.heap.size w w' := by
  have hva := fun W => valid_any k t i d W
  have hr := fun W => read_any log hl W
  have hle := readJ_le log
  have hap := fun W => append_any (log.take (readJ log).2.1) k t i d hx (by rw [List.length_take]; omega) hd W
  have htk := fun v W h => token_any (readJ log).1 v W (by omega) h
  have hw : Hid (writeJ log (k, t, i, d) = if validB (k, t, i, d) then (if t < tokenJ (readJ log).1 then ([], 16) else appendJ (log.take (readJ log).2.1) (k, t, i, d)) else ([], 1)) := by show _ = _; rfl
  have HX := Lib.hid hx
  clear hx
  generalize readJ log = x at *
  obtain ⟨xs, n, e⟩ := x
  simp only at hr hle hap htk hw
  generalize tokenJ xs = m at *
  have hcut : ({ data := log.toArray } : ByteArray).extract 0 n = { data := (log.take n).toArray } := by rw [str_cut]; simp
  obtain ⟨hn, hxn⟩ := hle
  generalize log.take n = lg at *
  generalize appendJ lg (k, t, i, d) = q at *
  obtain ⟨q, qe⟩ := q
  simp only at hap hw
  have HR := Lib.hid hr
  have HA := Lib.hid hap
  have HT := Lib.hid htk
  clear hr hap htk
  cases hb : validB (k, t, i, d) with
  | false =>
    rw [hb] at hva hw
    have HV := Lib.hid hva
    clear hva hb
    go_enter Try.func25, Try.ntmps25
    go_wp2_with fail
    refine (HV.out _).mono ?_
    rintro e w1 ⟨rfl, hb1⟩
    go_wp2_with fail
    go_ret2
    rw [hw.out]
    exact ⟨rfl, ((Below.refl _ _).alloc (Nat.le_refl _) _).trans (hb1.mono (by simp))⟩
  | true =>
    rw [hb] at hva hw
    have HV := Lib.hid hva
    clear hva hb
    by_cases hlt : t < m
    all_goals
      go_enter Try.func25, Try.ntmps25
      go_wp2_with fail
      refine (HV.out _).mono ?_
      rintro e w1 ⟨rfl, hb1⟩
      have h01 := ((Below.refl w.heap.size w).alloc (Nat.le_refl _) _).trans (hb1.mono (by simp))
      have H1 := (Has.made w 23 #[.int .i64 k, .int .i64 t, .int .i64 i, .string ⟨d.toArray⟩]).below hb1 (by simp)
      have hz1 : w.heap.size < w1.heap.size := by have := hb1.size; simp at this; omega
      clear hb1
      go_wp2_with fail
      refine (HR.out _).mono ?_
      rintro e w2 ⟨v, rfl, hown, hb2⟩
      have HRD := Lib.hid (Rd.of_own hown)
      clear hown
      have h02 := h01.trans (hb2.mono h01.size)
      have H2 := H1.below hb2 hz1
      have hz2 : w.heap.size < w2.heap.size := Nat.lt_of_lt_of_le hz1 hb2.size
      clear hb2 H1
      obtain ⟨c0, c1, c2, c3⟩ := has4 H2
      have H2 := Lib.hid H2
      go_wp2_with fail
      go_region_held3 (fun w' => w'.cell? ⟨w.heap.size, 0, none⟩ = some (.int .i64 k) ∧ w'.cell? ⟨w.heap.size, 1, none⟩ = some (.int .i64 t) ∧ w'.cell? ⟨w.heap.size, 2, none⟩ = some (.int .i64 i) ∧ w'.cell? ⟨w.heap.size, 3, none⟩ = some (.string ⟨d.toArray⟩)) (first | go_keep | exact ⟨q0, q1, q2, q3⟩)
        (first
          | (go_at_call 19; refine (HT.out _ _ (by exact HRD.out)).mono ?_; rintro e w3 ⟨rfl, hb3⟩; have hq := Cells4.below ⟨‹_›, ‹_›, ‹_›, ‹_›⟩ hb3 hz2; obtain ⟨q0, q1, q2, q3⟩ := hq; have hz3 : w.heap.size < w3.heap.size := Nat.lt_of_lt_of_le hz2 hb3.size))
      have h03 := h02.drew.trans (hb3.mono h02.size)
      clear hb3
      go_wp2_with fail
    · go_ret2
      refine ⟨?_, h03⟩
      rw [hw.out, if_pos trivial, if_pos hlt]
      rfl
    · have hn1 : (n : Int) ≤ log.length := by omega
      go_region_held3 (fun w' => w'.cell? ⟨w.heap.size, 0, none⟩ = some (.int .i64 k) ∧ w'.cell? ⟨w.heap.size, 1, none⟩ = some (.int .i64 t) ∧ w'.cell? ⟨w.heap.size, 2, none⟩ = some (.int .i64 i) ∧ w'.cell? ⟨w.heap.size, 3, none⟩ = some (.string ⟨d.toArray⟩)) (first | go_keep | exact ⟨q0, q1, q2, q3⟩)
        (first
          | (go_at_call 30; refine (HA.out _).mono ?_; rintro e w4 ⟨rfl, hb4⟩; have hq := Cells4.below ⟨‹_›, ‹_›, ‹_›, ‹_›⟩ hb4 hz3; obtain ⟨q0, q1, q2, q3⟩ := hq))
      go_wp2_with fail
      go_ret2
      refine ⟨?_, h03.drew.trans (hb4.mono h03.size)⟩
      rw [hw.out, if_pos trivial, if_neg (by omega)]
      rfl
set_option maxRecDepth 100000 in
set_option maxHeartbeats 800000 in
theorem rwrite_any (log : List UInt8) (k t i : Int) (d : List UInt8) (hx : EntOk (k, t, i, d)) (hl : log.length ≤ 1000000) (hd : d.length ≤ 140737488355328) (w : World) :
    Calls Try.prog 32 #[.string ⟨log.toArray⟩, .agg #[.int .i64 k, .int .i64 t, .int .i64 i, .string ⟨d.toArray⟩]] w fun e w' => e = .returned (.tuple #[.string ⟨(writeJ log (k, t, i, d)).1.toArray⟩, .int .i64 (writeJ log (k, t, i, d)).2]) ∧ Below w.heap.size w w' := by
  have hva := fun W => rvalid_any k t i d W
  have hr := fun W => rread_any log hl W
  have hle := readJ_le log
  have hap := fun W => rappend_any (log.take (readJ log).2.1) k t i d hx (by rw [List.length_take]; omega) hd W
  have htk := fun v W h => rtoken_any (readJ log).1 v W (by omega) h
  have hw : Hid (writeJ log (k, t, i, d) = if validB (k, t, i, d) then (if t < tokenJ (readJ log).1 then ([], 16) else appendJ (log.take (readJ log).2.1) (k, t, i, d)) else ([], 1)) := by show _ = _; rfl
  have HX := Lib.hid hx
  clear hx
  generalize readJ log = x at *
  obtain ⟨xs, n, e⟩ := x
  simp only at hr hle hap htk hw
  generalize tokenJ xs = m at *
  have hcut : ({ data := log.toArray } : ByteArray).extract 0 n = { data := (log.take n).toArray } := by rw [str_cut]; simp
  obtain ⟨hn, hxn⟩ := hle
  generalize log.take n = lg at *
  generalize appendJ lg (k, t, i, d) = q at *
  obtain ⟨q, qe⟩ := q
  simp only at hap hw
  have HR := Lib.hid hr
  have HA := Lib.hid hap
  have HT := Lib.hid htk
  clear hr hap htk
  cases hb : validB (k, t, i, d) with
  | false =>
    rw [hb] at hva hw
    have HV := Lib.hid hva
    clear hva hb
    go_enter Try.func32, Try.ntmps32
    go_wp2_with fail
    refine (HV.out _).mono ?_
    rintro e w1 ⟨rfl, hb1⟩
    go_wp2_with fail
    go_ret2
    rw [hw.out]
    exact ⟨rfl, ((Below.refl _ _).alloc (Nat.le_refl _) _).trans (hb1.mono (by simp))⟩
  | true =>
    rw [hb] at hva hw
    have HV := Lib.hid hva
    clear hva hb
    by_cases hlt : t < m
    all_goals
      go_enter Try.func32, Try.ntmps32
      go_wp2_with fail
      refine (HV.out _).mono ?_
      rintro e w1 ⟨rfl, hb1⟩
      have h01 := ((Below.refl w.heap.size w).alloc (Nat.le_refl _) _).trans (hb1.mono (by simp))
      have H1 := (Has.made w 23 #[.int .i64 k, .int .i64 t, .int .i64 i, .string ⟨d.toArray⟩]).below hb1 (by simp)
      have hz1 : w.heap.size < w1.heap.size := by have := hb1.size; simp at this; omega
      clear hb1
      go_wp2_with fail
      refine (HR.out _).mono ?_
      rintro e w2 ⟨v, rfl, hown, hb2⟩
      have HRD := Lib.hid (Rd.of_own hown)
      clear hown
      have h02 := h01.trans (hb2.mono h01.size)
      have H2 := H1.below hb2 hz1
      have hz2 : w.heap.size < w2.heap.size := Nat.lt_of_lt_of_le hz1 hb2.size
      clear hb2 H1
      obtain ⟨c0, c1, c2, c3⟩ := has4 H2
      have H2 := Lib.hid H2
      go_wp2_with fail
      go_region_held3 (fun w' => w'.cell? ⟨w.heap.size, 0, none⟩ = some (.int .i64 k) ∧ w'.cell? ⟨w.heap.size, 1, none⟩ = some (.int .i64 t) ∧ w'.cell? ⟨w.heap.size, 2, none⟩ = some (.int .i64 i) ∧ w'.cell? ⟨w.heap.size, 3, none⟩ = some (.string ⟨d.toArray⟩)) (first | go_keep | exact ⟨q0, q1, q2, q3⟩)
        (first
          | (go_at_call 20; refine (HT.out _ _ (by exact HRD.out)).mono ?_; rintro e w3 ⟨rfl, hb3⟩; have hq := Cells4.below ⟨‹_›, ‹_›, ‹_›, ‹_›⟩ hb3 hz2; obtain ⟨q0, q1, q2, q3⟩ := hq; have hz3 : w.heap.size < w3.heap.size := Nat.lt_of_lt_of_le hz2 hb3.size))
      have h03 := h02.drew.trans (hb3.mono h02.size)
      clear hb3
      go_wp2_with fail
    · go_ret2
      refine ⟨?_, h03⟩
      rw [hw.out, if_pos trivial, if_pos hlt]
      rfl
    · have hn1 : (n : Int) ≤ log.length := by omega
      go_region_held3 (fun w' => w'.cell? ⟨w.heap.size, 0, none⟩ = some (.int .i64 k) ∧ w'.cell? ⟨w.heap.size, 1, none⟩ = some (.int .i64 t) ∧ w'.cell? ⟨w.heap.size, 2, none⟩ = some (.int .i64 i) ∧ w'.cell? ⟨w.heap.size, 3, none⟩ = some (.string ⟨d.toArray⟩)) (first | go_keep | exact ⟨q0, q1, q2, q3⟩)
        (first
          | (go_at_call 31; refine (HA.out _).mono ?_; rintro e w4 ⟨rfl, hb4⟩; have hq := Cells4.below ⟨‹_›, ‹_›, ‹_›, ‹_›⟩ hb4 hz3; obtain ⟨q0, q1, q2, q3⟩ := hq))
      go_wp2_with fail
      go_ret2
      refine ⟨?_, h03.drew.trans (hb4.mono h03.size)⟩
      rw [hw.out, if_pos trivial, if_neg (by omega)]
      rfl
end Go.Proofs.Ytngmdhdncfbdjaa

/- What valid, Format, Token and their references compute. No condition. -/
import Derived.Test.YtngmdhdncfbdjaaJourPlain
import Derived.Test.YtngmdhdncfbdjaaVarPutAll
import Derived.Test.YtngmdhdncfbdjaaBlk
namespace Go.Proofs.Ytngmdhdncfbdjaa
open Go.ChangeShapes Go.WideShapes Go.ChangeAt Go.RowKit

set_option maxRecDepth 100000 in
set_option maxHeartbeats 400000 in
theorem valid_any (k t i : Int) (d : List UInt8) (w : World) :
    Calls Try.prog 33 #[.agg #[.int .i64 k, .int .i64 t, .int .i64 i, .string ⟨d.toArray⟩]] w fun e w' => e = .returned (.bool (validB (k, t, i, d))) ∧ Below w.heap.size w w' := by
  have hv : Hid (validB (k, t, i, d) = decide (0 ≤ k ∧ 0 ≤ t ∧ 0 ≤ i)) := by show _ = _; rfl
  by_cases hk : 0 ≤ k
  · by_cases ht : 0 ≤ t
    · by_cases hi : 0 ≤ i
      all_goals
        go_enter Try.func33, Try.ntmps33
        go_wp2
        go_ret
        exact ⟨ret_bool (by rw [hv.out]; first | exact (decide_eq_false (by omega)).symm | exact (decide_eq_true (by omega)).symm), (Below.refl _ _).alloc (Nat.le_refl _) _⟩
    · go_enter Try.func33, Try.ntmps33
      go_wp2
      go_ret
      exact ⟨ret_bool (by rw [hv.out]; first | exact (decide_eq_false (by omega)).symm | exact (decide_eq_true (by omega)).symm), (Below.refl _ _).alloc (Nat.le_refl _) _⟩
  · go_enter Try.func33, Try.ntmps33
    go_wp2
    go_ret
    exact ⟨ret_bool (by rw [hv.out]; first | exact (decide_eq_false (by omega)).symm | exact (decide_eq_true (by omega)).symm), (Below.refl _ _).alloc (Nat.le_refl _) _⟩
set_option maxRecDepth 100000 in
set_option maxHeartbeats 400000 in
theorem rvalid_any (k t i : Int) (d : List UInt8) (w : World) :
    Calls Try.prog 15 #[.agg #[.int .i64 k, .int .i64 t, .int .i64 i, .string ⟨d.toArray⟩]] w fun e w' => e = .returned (.bool (validB (k, t, i, d))) ∧ Below w.heap.size w w' := by
  have hv : Hid (validB (k, t, i, d) = decide (0 ≤ k ∧ 0 ≤ t ∧ 0 ≤ i)) := by show _ = _; rfl
  by_cases hk : 0 ≤ k
  · by_cases ht : 0 ≤ t
    · by_cases hi : 0 ≤ i
      all_goals
        go_enter Try.func15, Try.ntmps15
        go_wp2
        go_ret
        exact ⟨ret_bool (by rw [hv.out]; first | exact (decide_eq_false (by omega)).symm | exact (decide_eq_true (by omega)).symm), (Below.refl _ _).alloc (Nat.le_refl _) _⟩
    · go_enter Try.func15, Try.ntmps15
      go_wp2
      go_ret
      exact ⟨ret_bool (by rw [hv.out]; first | exact (decide_eq_false (by omega)).symm | exact (decide_eq_true (by omega)).symm), (Below.refl _ _).alloc (Nat.le_refl _) _⟩
  · go_enter Try.func15, Try.ntmps15
    go_wp2
    go_ret
    exact ⟨ret_bool (by rw [hv.out]; first | exact (decide_eq_false (by omega)).symm | exact (decide_eq_true (by omega)).symm), (Below.refl _ _).alloc (Nat.le_refl _) _⟩

theorem rd3_of (W : World) (b : Nat) (x y z : Value) (h0 : W.cell? ⟨b, 0, none⟩ = some x) (h1 : W.cell? ⟨b, 1, none⟩ = some y) (h2 : W.cell? ⟨b, 2, none⟩ = some z) (hb : b < W.heap.size) :
    Rd W W.heap.size 1 (.slice (some ⟨b, 0, none⟩) 3 3) 3 [x, y, z] :=
  ⟨rfl, _, _, rfl, Nat.le_refl _, .inr ⟨b, 0, rfl, hb, fun j u hu => by
    rw [Nat.zero_add]
    match j, hu with
    | 0, hu => rw [h0]; exact hu
    | 1, hu => rw [h1]; exact hu
    | 2, hu => rw [h2]; exact hu⟩⟩
/-- the four cells of an entry's block -/
def Cells4 (w : World) (b : Nat) (k t i : Int) (d : List UInt8) : Prop := w.cell? ⟨b, 0, none⟩ = some (.int .i64 k) ∧ w.cell? ⟨b, 1, none⟩ = some (.int .i64 t) ∧ w.cell? ⟨b, 2, none⟩ = some (.int .i64 i) ∧ w.cell? ⟨b, 3, none⟩ = some (.string ⟨d.toArray⟩)
theorem Cells4.below {w w' : World} {b B : Nat} {k t i : Int} {d : List UInt8} (h : Cells4 w b k t i d) (hb : Below B w w') (hlt : b < B) : Cells4 w' b k t i d :=
  ⟨(hb.cell hlt).trans h.1, (hb.cell hlt).trans h.2.1, (hb.cell hlt).trans h.2.2.1, (hb.cell hlt).trans h.2.2.2⟩
theorem ret_str_of' {a b : ByteArray} (h : a = b) : Ending.returned (.string a) = .returned (.string b) := by rw [h]
theorem ret_str_of {a b : List UInt8} (h : a = b) : Ending.returned (.string ⟨a.toArray⟩) = .returned (.string ⟨b.toArray⟩) := by rw [h]

set_option maxRecDepth 100000 in
set_option maxHeartbeats 400000 in
theorem format_any (k t i : Int) (d : List UInt8) (hx : EntOk (k, t, i, d)) (hd : d.length ≤ 140737488355328) (w : World) :
    Calls Try.prog 13 #[.agg #[.int .i64 k, .int .i64 t, .int .i64 i, .string ⟨d.toArray⟩]] w fun e w' => e = .returned (.string ⟨(fmtE (k, t, i, d)).toArray⟩) ∧ Below w.heap.size w w' := by
  have hva := fun W => valid_any k t i d W
  have hfm : Hid (fmtE (k, t, i, d) = if validB (k, t, i, d) then putAll [k.toNat, t.toNat, i.toNat] ++ d else []) := by
    show _ = _
    simp [fmtE, heads, putAll]
  have hvd : validB (k, t, i, d) = decide (0 ≤ k ∧ 0 ≤ t ∧ 0 ≤ i) := rfl
  simp only [EntOk, I64] at hx
  obtain ⟨⟨hk1, hk2⟩, ⟨ht1, ht2⟩, hi1, hi2⟩ := hx
  cases hb : validB (k, t, i, d) with
  | false =>
    rw [hb] at hva hfm
    have HV := Lib.hid hva
    clear hva hvd hb
    go_enter Try.func13, Try.ntmps13
    go_wp2_with fail
    refine (HV.out _).mono ?_
    rintro e w1 ⟨rfl, hb1⟩
    go_wp2_with fail
    go_ret
    exact ⟨ret_str_of hfm.out.symm, ((Below.refl _ _).alloc (Nat.le_refl _) _).trans (hb1.mono (by simp))⟩
  | true =>
    rw [hb] at hva hfm hvd
    have hval := of_decide_eq_true hvd.symm
    obtain ⟨hk, ht, hi⟩ := hval
    have HV := Lib.hid hva
    clear hva hvd hb
    obtain ⟨k, rfl⟩ := Int.eq_ofNat_of_zero_le hk
    obtain ⟨t, rfl⟩ := Int.eq_ofNat_of_zero_le ht
    obtain ⟨i, rfl⟩ := Int.eq_ofNat_of_zero_le hi
    have hp := fun v W hr => putall_any [k, t, i] (by simp [U64]; omega) (by simp) v W hr
    have hpl := putAll_len [k, t, i]
    simp only [List.length_cons, List.length_nil] at hpl
    simp only [Int.toNat_natCast] at hfm
    generalize putAll [k, t, i] = p at *
    have HP := Lib.hid hp
    have hsz : ¬ 9223372036854775807 < p.length + d.length := by omega
    clear hp
    go_enter Try.func13, Try.ntmps13
    go_wp2_with fail
    refine (HV.out _).mono ?_
    rintro e w1 ⟨rfl, hb1⟩
    go_wp2_with fail
    have hw0 : IntKind.u64.wrap (k : Int) = (k : Int) := by rw [IntKind.wrap_u64]; omega
    have hw1 : IntKind.u64.wrap (t : Int) = (t : Int) := by rw [IntKind.wrap_u64]; omega
    have hw2 : IntKind.u64.wrap (i : Int) = (i : Int) := by rw [IntKind.wrap_u64]; omega
    have hc0 : w1.cell? ⟨w.heap.size, 0, none⟩ = some (.int .i64 k) := by rw [hb1.cell (by simp)]; rw [new_cell]; rfl
    have hc1 : w1.cell? ⟨w.heap.size, 1, none⟩ = some (.int .i64 t) := by rw [hb1.cell (by simp)]; rw [new_cell]; rfl
    have hc2 : w1.cell? ⟨w.heap.size, 2, none⟩ = some (.int .i64 i) := by rw [hb1.cell (by simp)]; rw [new_cell]; rfl
    have hc3 : w1.cell? ⟨w.heap.size, 3, none⟩ = some (.string ⟨d.toArray⟩) := by rw [hb1.cell (by simp)]; rw [new_cell]; rfl
    have hz1 : w.heap.size < w1.heap.size := by have := hb1.size; simp at this; omega
    have hz2 : w.heap.size < w1.heap.size + 1 := by omega
    go_region_held3 (fun w' => w'.cell? ⟨w.heap.size, 0, none⟩ = some (.int .i64 k) ∧ w'.cell? ⟨w.heap.size, 1, none⟩ = some (.int .i64 t) ∧ w'.cell? ⟨w.heap.size, 2, none⟩ = some (.int .i64 i) ∧ w'.cell? ⟨w.heap.size, 3, none⟩ = some (.string ⟨d.toArray⟩)) (go_keep)
      (first | (go_at_call 34; refine (HP.out _ _ (rd3_of _ _ _ _ _ (by go_simp; rfl) (by go_simp; rfl) (by go_simp; rfl) (by go_simp))).mono ?_; rintro e w2 ⟨rfl, hb2⟩; obtain ⟨hbc, hbf⟩ := bcell hb2))
    go_wp2_with fail
    go_ret
    refine ⟨?_, ?_⟩
    · rw [hfm.out, if_pos trivial]
      exact ret_str_of' (str_app _ _)
    · have h01 := ((Below.refl w.heap.size w).alloc (Nat.le_refl _) _).trans (hb1.mono (by simp))
      exact ((h01.alloc h01.size _).drew).trans (hb2.mono (by simp; omega))

set_option maxRecDepth 100000 in
set_option maxHeartbeats 400000 in
theorem rformat_any (k t i : Int) (d : List UInt8) (hx : EntOk (k, t, i, d)) (hd : d.length ≤ 140737488355328) (w : World) :
    Calls Try.prog 14 #[.agg #[.int .i64 k, .int .i64 t, .int .i64 i, .string ⟨d.toArray⟩]] w fun e w' => e = .returned (.string ⟨(fmtE (k, t, i, d)).toArray⟩) ∧ Below w.heap.size w w' := by
  have hva := fun W => rvalid_any k t i d W
  have hfm : Hid (fmtE (k, t, i, d) = if validB (k, t, i, d) then putF 9 k.toNat ++ putF 9 t.toNat ++ putF 9 i.toNat ++ d else []) := by
    show _ = _
    simp [fmtE, heads]
  have hvd : validB (k, t, i, d) = decide (0 ≤ k ∧ 0 ≤ t ∧ 0 ≤ i) := rfl
  simp only [EntOk, I64] at hx
  obtain ⟨⟨hk1, hk2⟩, ⟨ht1, ht2⟩, hi1, hi2⟩ := hx
  cases hb : validB (k, t, i, d) with
  | false =>
    rw [hb] at hva hfm
    have HV := Lib.hid hva
    clear hva hvd hb
    go_enter Try.func14, Try.ntmps14
    go_wp2_with fail
    refine (HV.out _).mono ?_
    rintro e w1 ⟨rfl, hb1⟩
    go_wp2_with fail
    go_ret
    exact ⟨ret_str_of hfm.out.symm, ((Below.refl _ _).alloc (Nat.le_refl _) _).trans (hb1.mono (by simp))⟩
  | true =>
    rw [hb] at hva hfm hvd
    have hval := of_decide_eq_true hvd.symm
    obtain ⟨hk, ht, hi⟩ := hval
    have HV := Lib.hid hva
    clear hva hvd hb
    obtain ⟨k, rfl⟩ := Int.eq_ofNat_of_zero_le hk
    obtain ⟨t, rfl⟩ := Int.eq_ofNat_of_zero_le ht
    obtain ⟨i, rfl⟩ := Int.eq_ofNat_of_zero_le hi
    have hp1 := fun W => rput_any k (by unfold U64; omega) W
    have hp2 := fun W => rput_any t (by unfold U64; omega) W
    have hp3 := fun W => rput_any i (by unfold U64; omega) W
    have hl1 := putF_len 9 k
    have hl2 := putF_len 9 t
    have hl3 := putF_len 9 i
    simp only [Int.toNat_natCast] at hfm
    generalize putF 9 k = p1 at *
    generalize putF 9 t = p2 at *
    generalize putF 9 i = p3 at *
    have H1 := Lib.hid hp1
    have H2 := Lib.hid hp2
    have H3 := Lib.hid hp3
    have hs1 : ¬ 9223372036854775807 < p1.length + p2.length := by omega
    have hs2 : ¬ 9223372036854775807 < p1.length + p2.length + p3.length := by omega
    have hs3 : ¬ 9223372036854775807 < p1.length + p2.length + p3.length + d.length := by omega
    clear hp1 hp2 hp3
    go_enter Try.func14, Try.ntmps14
    go_wp2_with fail
    refine (HV.out _).mono ?_
    rintro e w1 ⟨rfl, hb1⟩
    go_wp2_with fail
    have hw0 : IntKind.u64.wrap (k : Int) = (k : Int) := by rw [IntKind.wrap_u64]; omega
    have hw1 : IntKind.u64.wrap (t : Int) = (t : Int) := by rw [IntKind.wrap_u64]; omega
    have hw2 : IntKind.u64.wrap (i : Int) = (i : Int) := by rw [IntKind.wrap_u64]; omega
    have hc0 : w1.cell? ⟨w.heap.size, 0, none⟩ = some (.int .i64 k) := by rw [hb1.cell (by simp)]; rw [new_cell]; rfl
    have hc1 : w1.cell? ⟨w.heap.size, 1, none⟩ = some (.int .i64 t) := by rw [hb1.cell (by simp)]; rw [new_cell]; rfl
    have hc2 : w1.cell? ⟨w.heap.size, 2, none⟩ = some (.int .i64 i) := by rw [hb1.cell (by simp)]; rw [new_cell]; rfl
    have hc3 : w1.cell? ⟨w.heap.size, 3, none⟩ = some (.string ⟨d.toArray⟩) := by rw [hb1.cell (by simp)]; rw [new_cell]; rfl
    have hz1 : w.heap.size < w1.heap.size := by have := hb1.size; simp at this; omega
    go_region_held3 (fun w' => w'.cell? ⟨w.heap.size, 0, none⟩ = some (.int .i64 k) ∧ w'.cell? ⟨w.heap.size, 1, none⟩ = some (.int .i64 t) ∧ w'.cell? ⟨w.heap.size, 2, none⟩ = some (.int .i64 i) ∧ w'.cell? ⟨w.heap.size, 3, none⟩ = some (.string ⟨d.toArray⟩)) (first | go_keep | exact ⟨q0, q1, q2, q3⟩)
      (first
        | (go_at_call 35; (with_reducible refine (H1.out _).mono ?_); rintro e w2 ⟨rfl, hb2⟩; obtain ⟨hbc2, hbf2⟩ := bcell hb2; have hq := Cells4.below ⟨‹_›, ‹_›, ‹_›, ‹_›⟩ hb2 hz1; obtain ⟨q0, q1, q2, q3⟩ := hq; have hz2 : w.heap.size < w2.heap.size := Nat.lt_of_lt_of_le hz1 hb2.size)
        | (go_at_call 35; (with_reducible refine (H2.out _).mono ?_); rintro e w3 ⟨rfl, hb3⟩; obtain ⟨hbc3, hbf3⟩ := bcell hb3; have hq := Cells4.below ⟨‹_›, ‹_›, ‹_›, ‹_›⟩ hb3 hz2; obtain ⟨q0, q1, q2, q3⟩ := hq; have hz3 : w.heap.size < w3.heap.size := Nat.lt_of_lt_of_le hz2 hb3.size)
        | (go_at_call 35; (with_reducible refine (H3.out _).mono ?_); rintro e w4 ⟨rfl, hb4⟩; obtain ⟨hbc4, hbf4⟩ := bcell hb4; have hq := Cells4.below ⟨‹_›, ‹_›, ‹_›, ‹_›⟩ hb4 hz3; obtain ⟨q0, q1, q2, q3⟩ := hq; have hz4 : w.heap.size < w4.heap.size := Nat.lt_of_lt_of_le hz3 hb4.size))
    go_wp2_with fail
    go_ret
    refine ⟨?_, ?_⟩
    · rw [hfm.out, if_pos trivial]
      exact ret_str_of' (by rw [str_app, str_app, str_app])
    · have h01 := ((Below.refl w.heap.size w).alloc (Nat.le_refl _) _).trans (hb1.mono (by simp))
      have h02 := h01.drew.trans (hb2.mono h01.size)
      have h03 := h02.trans (hb3.mono h02.size)
      exact h03.trans (hb4.mono h03.size)
end Go.Proofs.Ytngmdhdncfbdjaa

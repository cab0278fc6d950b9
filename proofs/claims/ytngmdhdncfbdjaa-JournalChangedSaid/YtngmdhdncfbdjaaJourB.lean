/- What Token and its reference compute. No condition. -/
import Derived.Test.YtngmdhdncfbdjaaJourA
import Derived.Laws.StructEq
namespace Go.Proofs.Ytngmdhdncfbdjaa
open Go.ChangeShapes Go.WideShapes Go.ChangeAt Go.RowKit

theorem entsV_len (xs : List Ent) : (entsV xs).length = xs.length * 4 := by
  induction xs with
  | nil => rfl
  | cons x r ih => simp only [entsV, List.flatMap_cons, List.length_append, List.length_cons] at *; simp [entV] at *; omega
theorem entsV_get (xs : List Ent) : ∀ (k j : Nat) (h : k < xs.length), j < 4 → (entsV xs)[k * 4 + j]? = (entV xs[k])[j]? := by
  induction xs with
  | nil => intro k j h; simp at h
  | cons x r ih =>
    intro k j h hj
    have e : entsV (x :: r) = entV x ++ entsV r := rfl
    rw [e]
    cases k with
    | zero => rw [List.getElem?_append_left (by simp [entV]; omega)]; simp
    | succ k =>
      rw [List.getElem?_append_right (by simp [entV]; omega)]
      have e2 : (k + 1) * 4 + j - (entV x).length = k * 4 + j := by simp [entV]; omega
      rw [e2, ih k j (by simpa using h) hj]
      simp
theorem tokenJ_take (xs : List Ent) (k : Nat) (h : k < xs.length) : tokenJ (xs.take (k+1)) = max (tokenJ (xs.take k)) xs[k].2.1 := by
  unfold tokenJ
  rw [List.take_succ_eq_append_getElem h, List.foldl_append]
  rfl

set_option maxRecDepth 100000 in
set_option maxHeartbeats 400000 in
theorem token_any (xs : List Ent) (v : Value) (w : World) (hlen : xs.length ≤ 1000000) (hr : Rd w w.heap.size 4 v xs.length (entsV xs)) :
    Calls Try.prog 19 #[v] w fun e w' => e = .returned (.int .i64 (tokenJ xs)) ∧ Below w.heap.size w w' := by
  obtain ⟨A, c, rfl, hc⟩ := hr.form
  go_enter Try.func19, Try.ntmps19
  go_wp2
  go_loopw [3, 8] (fun m i wr => ∃ k : Nat, k ≤ xs.length ∧ i = .int .i64 k ∧ m = .int .i64 (tokenJ (xs.take k)) ∧ Below w.heap.size w wr)
     (fun _ i _ => xs.length - (intOf i).toNat)
  case atStart => exact ⟨0, by omega, rfl, rfl, Below.refl _ _⟩
  case round =>
    obtain ⟨k, hk, rfl, rfl, hb⟩ := hrel
    have Htk := Lib.hid (tokenJ_take xs k)
    generalize htk : tokenJ (xs.take k) = m at *
    by_cases hlt : k < xs.length
    · obtain ⟨b, o, rfl, hbb, hcell⟩ := (hr.below hb).at_ (by omega)
      have hc0 : wr.cell? ⟨b, o + k * 4, none⟩ = some (.int .i64 xs[k].1) := hcell (k * 4) _ (entsV_get xs k 0 hlt (by omega))
      have hc1 : wr.cell? ⟨b, o + k * 4 + 1, none⟩ = some (.int .i64 xs[k].2.1) := hcell (k * 4 + 1) _ (entsV_get xs k 1 hlt (by omega))
      have hc2 : wr.cell? ⟨b, o + k * 4 + 2, none⟩ = some (.int .i64 xs[k].2.2.1) := hcell (k * 4 + 2) _ (entsV_get xs k 2 hlt (by omega))
      have hc3 : wr.cell? ⟨b, o + k * 4 + 3, none⟩ = some (.string ⟨xs[k].2.2.2.toArray⟩) := hcell (k * 4 + 3) _ (entsV_get xs k 3 hlt (by omega))
      have Hcell := Lib.hid hcell
      have Hm := Lib.hid htk
      clear hcell htk
      have htok := Htk.out hlt
      generalize xs[k] = x at *
      obtain ⟨x0, x1, x2, x3⟩ := x
      simp only at hc0 hc1 hc2 hc3 htok
      have Htok := Lib.hid htok
      clear htok
      go_wp2
      go_roundw
      case rel => exact ⟨k + 1, by omega, by go_num, by rw [Htok.out]; go_num, hb.alloc hb.size _⟩
      case measure => simp [intOf]; omega
    · go_wp2
      go_ret
      exact ⟨ret_int (by rw [← htk, List.take_of_length_le (by omega)]), hb⟩

set_option maxRecDepth 100000 in
set_option maxHeartbeats 400000 in
theorem rtoken_any (xs : List Ent) (v : Value) (w : World) (hlen : xs.length ≤ 1000000) (hr : Rd w w.heap.size 4 v xs.length (entsV xs)) :
    Calls Try.prog 20 #[v] w fun e w' => e = .returned (.int .i64 (tokenJ xs)) ∧ Below w.heap.size w w' := by
  obtain ⟨A, c, rfl, hc⟩ := hr.form
  go_enter Try.func20, Try.ntmps20
  go_wp2
  go_loopw [3, 4] (fun m i wr => ∃ k : Nat, k ≤ xs.length ∧ i = .int .i64 k ∧ m = .int .i64 (tokenJ (xs.take k)) ∧ Below w.heap.size w wr)
     (fun _ i _ => xs.length - (intOf i).toNat)
  case atStart => exact ⟨0, by omega, rfl, rfl, Below.refl _ _⟩
  case round =>
    obtain ⟨k, hk, rfl, rfl, hb⟩ := hrel
    have Htk := Lib.hid (tokenJ_take xs k)
    generalize htk : tokenJ (xs.take k) = m at *
    by_cases hlt : k < xs.length
    · obtain ⟨b, o, rfl, hbb, hcell⟩ := (hr.below hb).at_ (by omega)
      have hc0 : wr.cell? ⟨b, o + k * 4, none⟩ = some (.int .i64 xs[k].1) := hcell (k * 4) _ (entsV_get xs k 0 hlt (by omega))
      have hc1 : wr.cell? ⟨b, o + k * 4 + 1, none⟩ = some (.int .i64 xs[k].2.1) := hcell (k * 4 + 1) _ (entsV_get xs k 1 hlt (by omega))
      have hc2 : wr.cell? ⟨b, o + k * 4 + 2, none⟩ = some (.int .i64 xs[k].2.2.1) := hcell (k * 4 + 2) _ (entsV_get xs k 2 hlt (by omega))
      have hc3 : wr.cell? ⟨b, o + k * 4 + 3, none⟩ = some (.string ⟨xs[k].2.2.2.toArray⟩) := hcell (k * 4 + 3) _ (entsV_get xs k 3 hlt (by omega))
      have Hcell := Lib.hid hcell
      have Hm := Lib.hid htk
      clear hcell htk
      have htok := Htk.out hlt
      generalize xs[k] = x at *
      obtain ⟨x0, x1, x2, x3⟩ := x
      simp only at hc0 hc1 hc2 hc3 htok
      have Htok := Lib.hid htok
      clear htok
      go_wp2
      go_roundw
      case rel => exact ⟨k + 1, by omega, by go_num, by rw [Htok.out]; go_num, hb⟩
      case measure => simp [intOf]; omega
    · go_wp2
      go_ret
      exact ⟨ret_int (by rw [← htk, List.take_of_length_le (by omega)]), hb⟩

def entA (x : Ent) : Value := .agg #[.int .i64 x.1, .int .i64 x.2.1, .int .i64 x.2.2.1, .string ⟨x.2.2.2.toArray⟩]
theorem bytes_beq (a b : List UInt8) : (({ data := a.toArray } : ByteArray).toList == ({ data := b.toArray } : ByteArray).toList) = decide (a = b) := by
  rw [ByteArray.toList_eq, ByteArray.toList_eq]
  by_cases h : a = b <;> simp [h]
theorem eq_ent (x y : Ent) (w : World) : (Op.equalIn 10000 23 (entA x) (entA y)).run Try.prog w = .ok (decide (x = y)) w := by
  obtain ⟨x0, x1, x2, x3⟩ := x
  obtain ⟨y0, y1, y2, y3⟩ := y
  have u0 := Try.underlying3
  have u1 := Try.underlying2
  have u2 := Try.underlying9
  have hS : Try.prog.underlying 23 = some (.struct (Try.prog.fieldsOf 23)) := by kernel_rfl
  have hp : Try.prog.stoodInHeld 23 = false := by kernel_rfl
  rw [show (10000 : Nat) = 9999 + 1 from rfl, entA, entA, run_equalIn_agg w 9999 23 _ _ hS hp]
  simp only [Program.fieldsOf, Try.underlying23]
  have hb := bytes_beq x3 y3
  go_simp
  by_cases h1 : x0 = y0 <;> by_cases h2 : x1 = y1 <;> by_cases h3 : x2 = y2 <;> by_cases h4 : x3 = y3 <;> simp [h1, h2, h3, h4]

theorem entsV_at {w : World} {b o : Nat} {xs : List Ent} (hcell : ∀ j u, (entsV xs)[j]? = some u → w.cell? ⟨b, o + j, none⟩ = some u) (k : Nat) (h : k < xs.length) :
    w.cell? ⟨b, o + k * 4, none⟩ = some (.int .i64 xs[k].1) ∧ w.cell? ⟨b, o + k * 4 + 1, none⟩ = some (.int .i64 xs[k].2.1) ∧ w.cell? ⟨b, o + k * 4 + 2, none⟩ = some (.int .i64 xs[k].2.2.1) ∧ w.cell? ⟨b, o + k * 4 + 3, none⟩ = some (.string ⟨xs[k].2.2.2.toArray⟩) :=
  ⟨hcell (k * 4) _ (entsV_get xs k 0 h (by omega)), hcell (k * 4 + 1) _ (entsV_get xs k 1 h (by omega)), hcell (k * 4 + 2) _ (entsV_get xs k 2 h (by omega)), hcell (k * 4 + 3) _ (entsV_get xs k 3 h (by omega))⟩

set_option maxRecDepth 100000 in
set_option maxHeartbeats 400000 in
theorem same_any (xs ys : List Ent) (va vb : Value) (w : World) (hlx : xs.length ≤ 1048576) (hly : ys.length ≤ 1048576) (hx : Rd w w.heap.size 4 va xs.length (entsV xs)) (hy : Rd w w.heap.size 4 vb ys.length (entsV ys)) :
    Calls Try.prog 23 #[va, vb] w fun e w' => e = .returned (.bool (decide (xs = ys))) ∧ Below w.heap.size w w' := by
  obtain ⟨A, c, rfl, hc⟩ := hx.form
  obtain ⟨B, d, rfl, hd⟩ := hy.form
  by_cases hl : xs.length = ys.length
  · have HL := Lib.hid hl
    have h1 : ((xs.length : Int) != (ys.length : Int)) = false := by simp [hl]
    have hl' : (xs.length : Int) ≤ ys.length := by omega
    clear hl
    go_enter Try.func23, Try.ntmps23
    go_wp2
    go_loopw [5] (fun i wr => ∃ k : Nat, k ≤ xs.length ∧ i = .int .i64 k ∧ xs.take k = ys.take k ∧ Below w.heap.size w wr) (fun i _ => xs.length - (intOf i).toNat)
    case atStart => exact ⟨0, by omega, rfl, rfl, Below.refl _ _⟩
    case round =>
      obtain ⟨k, hk, rfl, hp, hb⟩ := hrel
      have Hp := Lib.hid hp
      clear hp
      by_cases hlt : k < xs.length
      · obtain ⟨b, o, rfl, hbb, hcell⟩ := (hx.below hb).at_ (by omega)
        obtain ⟨b', o', rfl, hbb', hcell'⟩ := (hy.below hb).at_ (by omega)
        have hlt' : k < ys.length := by omega
        obtain ⟨hc0, hc1, hc2, hc3⟩ := entsV_at hcell k hlt
        obtain ⟨hd0, hd1, hd2, hd3⟩ := entsV_at hcell' k hlt'
        clear hcell hcell'
        have hi1 : (k : Int) < xs.length := by omega
        have hi2 : (k : Int) < ys.length := by omega
        have Hx : Hid (xs.take (k+1) = xs.take k ++ [xs[k]]) := List.take_succ_eq_append_getElem hlt
        have Hy : Hid (ys.take (k+1) = ys.take k ++ [ys[k]]) := List.take_succ_eq_append_getElem hlt'
        have Hne : Hid (xs[k] ≠ ys[k] → xs ≠ ys) := fun h e => h (by subst e; rfl)
        generalize xs[k] = x at *
        generalize ys[k] = y at *
        have hq : ∀ W, (binOp .neq 23 (entA x) (entA y)).run Try.prog W = .ok (.bool (!decide (x = y))) W := fun W => by
          rw [entA, entA, run_neq_struct, ← entA, ← entA, eq_ent]; rfl
        have hg : Try.prog.eqGuardType Try.prog.depth 23 = false := by kernel_rfl
        by_cases he : x = y
        · rw [decide_eq_true he] at hq
          have He := Lib.hid he
          clear he
          obtain ⟨x0, x1, x2, x3⟩ := x
          obtain ⟨y0, y1, y2, y3⟩ := y
          simp only [entA, Bool.not_true] at hc0 hc1 hc2 hc3 hd0 hd1 hd2 hd3 hq
          go_wp2
          go_quiet (fail)
          go_wp2
          go_roundw
          case rel => exact ⟨k + 1, by omega, by go_num, by rw [Hx.out, Hy.out, Hp.out, He.out], below_drewN hb _⟩
          case measure => simp [intOf]; omega
        · rw [decide_eq_false he] at hq
          have He := Lib.hid he
          clear he
          obtain ⟨x0, x1, x2, x3⟩ := x
          obtain ⟨y0, y1, y2, y3⟩ := y
          simp only [entA, Bool.not_false] at hc0 hc1 hc2 hc3 hd0 hd1 hd2 hd3 hq
          go_wp2
          go_quiet (fail)
          go_wp2
          go_ret
          exact ⟨ret_bool (decide_eq_false (Hne.out He.out)).symm, below_drewN hb _⟩
      · go_wp2
        go_ret
        refine ⟨ret_bool ?_, hb⟩
        have e1 := Hp.out
        rw [List.take_of_length_le (by omega), List.take_of_length_le (by have := HL.out; omega)] at e1
        exact (decide_eq_true e1).symm
  · have h1 : ((xs.length : Int) != (ys.length : Int)) = true := by rw [bne_iff_ne]; omega
    have HL := Lib.hid hl
    clear hl
    go_enter Try.func23, Try.ntmps23
    go_wp2
    go_ret
    refine ⟨ret_bool ?_, Below.refl _ _⟩
    exact (decide_eq_false fun e => HL.out (by rw [e])).symm
end Go.Proofs.Ytngmdhdncfbdjaa

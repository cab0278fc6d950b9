/- What Log computes. No condition. -/
import Derived.Test.YtngmdhdncfbdjaaJourG
namespace Go.Proofs.Ytngmdhdncfbdjaa
open Go.ChangeShapes Go.WideShapes Go.ChangeAt Go.RowKit

theorem info_int : (Try.prog.info? 3).map (fun i => (i.zero, i.size, i.bytes)) = some (some (.int .i64 0), 1, 8) := by kernel_rfl
theorem appendJ_len (log : List UInt8) (x : Ent) : (appendJ log x).1.length ≤ log.length + 65600 := by
  unfold appendJ
  have := frame_len (fmtE x)
  split
  · split
    · rw [List.length_append]; omega
    · simp
  · simp
/-- a slice of one element that the call has just made -/
theorem own_made (w : World) (base : Nat) (e : TypeId) (u : Value) (hb : base ≤ w.heap.size) : (w.alloc (.cells #[u] e)).ownsRow base e 1 (.slice (some ⟨w.heap.size, 0, none⟩) 1 1) 1 [u] :=
  ⟨rfl, .inr ⟨w.heap.size, 1, #[u], rfl, hb, heap_alloc_new w _, Nat.le_refl _, by decide, rfl, rfl⟩⟩

set_option maxRecDepth 100000 in
set_option maxHeartbeats 400000 in
theorem log_any (xs : List Ent) (v : Value) (w : World) (hlen : xs.length ≤ 10) (hin : ∀ x ∈ xs, EntIn x) (hr : Rd w w.heap.size 4 v xs.length (entsV xs)) :
    Calls Try.prog 21 #[v] w fun e w' => ∃ v, e = .returned (.tuple #[.string ⟨(logJ xs).1.toArray⟩, v]) ∧ w'.ownsRow w.heap.size 3 1 v (logJ xs).2.length ((logJ xs).2.map V63) ∧ Below w.heap.size w w' := by
  obtain ⟨A, c, rfl, hc⟩ := hr.form
  have Hin := Lib.hid hin
  clear hin
  go_enter Try.func21, Try.ntmps21
  go_wp2
  go_loopw [4, 5, 6] (fun s v i wr => ∃ (k : Nat) (log : List UInt8) (ends : List Nat), k ≤ xs.length ∧ i = .int .i64 k ∧ s = .string ⟨log.toArray⟩ ∧ log.length ≤ k * 65600 ∧ ends.length ≤ k + 1 ∧ logJ xs = logF (xs.drop k) log ends ∧ wr.ownsRow w.heap.size 3 1 v ends.length (ends.map V63) ∧ Below w.heap.size w wr)
     (fun _ _ i _ => xs.length - (intOf i).toNat)
  case atStart => exact ⟨0, [], [0], by omega, rfl, rfl, by simp, by simp, rfl, own_made _ _ _ _ (Nat.le_refl _), (Below.refl _ _).alloc (Nat.le_refl _) _⟩
  case round =>
    obtain ⟨k, log, ends, hk, rfl, rfl, hl1, hl2, hlg, hown, hb⟩ := hrel
    by_cases hlt : k < xs.length
    · obtain ⟨b, o, rfl, hbb, hcell⟩ := (hr.below hb).at_ (by omega)
      rw [List.drop_eq_getElem_cons hlt] at hlg
      have hxi := Hin.out xs[k] (List.getElem_mem hlt)
      obtain ⟨x, hx⟩ : ∃ x, xs[k] = x := ⟨_, rfl⟩
      obtain ⟨x0, x1, x2, x3⟩ := x
      obtain ⟨hc0, hc1, hc2, hc3⟩ := ents_at hcell k hlt hx
      rw [hx] at hlg hxi
      obtain ⟨hxo, hx3⟩ := hxi
      simp only at hx3
      rw [logF] at hlg
      have hap := fun W => rappend_any log x0 x1 x2 x3 hxo (by omega) (by omega) W
      have hal := appendJ_len log (x0, x1, x2, x3)
      clear hcell hx hxo
      have hbs := hb.size
      generalize appendJ log (x0, x1, x2, x3) = q at *
      obtain ⟨q, qe⟩ := q
      simp only at hap hal hlg
      have HA := Lib.hid hap
      clear hap
      by_cases hq : qe = 0
      · subst hq
        rw [if_pos rfl] at hlg
        have Hlg := Lib.hid hlg
        clear hlg
        go_wp2_with fail
        refine (HA.out _).mono ?_
        rintro e w1 ⟨rfl, hb1⟩
        have hown1 := own_below hown hb1
        have h01 := hb.trans (hb1.mono hb.size)
        clear hown hb1
        go_wp2_with (at_builtin; refine wpList_append_at rfl _ _ _ rfl w.heap.size 3 _ 1 8 Try.underlying35 info_int rfl (by decide) _ ends.length (ends.map V63) rfl hown1 [_] _ 1 _ rfl rfl rfl (by simp [Value.oneCell']) (by omega) (by omega) h01.size ?_; intro v' w3 hown3 hb3)
        go_roundw
        case rel =>
          refine ⟨k + 1, q, ends ++ [q.length], by omega, by go_num, rfl, by omega, by simp; omega, Hlg.out, ?_, h01.trans hb3⟩
          rw [List.length_append, List.map_append]
          exact hown3
        case measure => simp [intOf]; omega
      · rw [if_neg hq] at hlg
        have hl3 : log.length ≤ (k + 1) * 65600 := Nat.le_trans hl1 (Nat.mul_le_mul_right _ (Nat.le_succ k))
        have hl4 : ends.length ≤ k + 1 + 1 := by omega
        have hl5 : k + 1 ≤ xs.length := by omega
        have hq2 : ((qe : Int) == 0) = false := beq_eq_false_iff_ne.2 (by omega)
        have Hlg := Lib.hid hlg
        clear hlg hq
        go_wp2_with fail
        refine (HA.out _).mono ?_
        rintro e w1 ⟨rfl, hb1⟩
        have hown1 := own_below hown hb1
        have h01 := hb.trans (hb1.mono hb.size)
        clear hown hb1
        go_wp2_with fail
        go_roundw
        case rel => exact ⟨k + 1, log, ends, hl5, by go_num, rfl, hl3, hl4, Hlg.out, hown1, h01⟩
        case measure => simp [intOf]; omega
    · rw [List.drop_eq_nil_of_le (by omega), logF] at hlg
      have Hlg := Lib.hid hlg
      clear hlg
      go_wp2
      go_ret2
      refine ⟨u5, ?_, ?_, hb⟩
      · rw [Hlg.out]; rfl
      · rw [Hlg.out]; exact hown
end Go.Proofs.Ytngmdhdncfbdjaa

/- What free and id compute. No condition. -/
import Derived.Test.YtjcoeolconelmaaBare
import Derived.Test.YtjcoeolconelmaaEach
namespace Go.Proofs.Ytjcoeolconelmaa
open Go.ChangeShapes Go.WideShapes Go.ChangeAt Go.RowKit

def freeB (id : Int) : Bool := decide (1 ≤ id ∧ id ≤ 1000)
set_option maxRecDepth 100000 in
set_option maxHeartbeats 400000 in
theorem free_any (id : Int) (w : World) : Calls Try.prog 70 #[.int .i64 id] w fun e w' => e = .returned (.bool (freeB id)) ∧ w = w' := by
  have hf : Hid (freeB id = decide (1 ≤ id ∧ id ≤ 1000)) := by show _ = _; rfl
  by_cases h1 : 1 ≤ id
  · by_cases h2 : id ≤ 1000
    all_goals
      go_enter Try.func70, Try.ntmps70
      go_wp2
      go_ret
      exact ⟨ret_bool (by rw [hf.out]; first | exact (decide_eq_true (by omega)).symm | exact (decide_eq_false (by omega)).symm), rfl⟩
  · go_enter Try.func70, Try.ntmps70
    go_wp2
    go_ret
    exact ⟨ret_bool (by rw [hf.out]; first | exact (decide_eq_true (by omega)).symm | exact (decide_eq_false (by omega)).symm), rfl⟩
set_option maxRecDepth 100000 in
set_option maxHeartbeats 400000 in
theorem rid_any (id : Int) (kn : Bool) (w : World) : Calls Try.prog 74 #[.int .i64 id, .bool kn] w fun e w' => e = .returned (.bool (!kn && freeB id)) ∧ w = w' := by
  have hf : Hid (freeB id = decide (1 ≤ id ∧ id ≤ 1000)) := by show _ = _; rfl
  cases kn with
  | true =>
    go_enter Try.func74, Try.ntmps74
    go_wp2
    go_ret
    exact ⟨rfl, rfl⟩
  | false =>
    by_cases h1 : 1 ≤ id
    · by_cases h2 : id ≤ 1000
      all_goals
        go_enter Try.func74, Try.ntmps74
        go_wp2
        go_ret
        exact ⟨ret_bool (by rw [hf.out]; first | (rw [decide_eq_true (by omega)]; rfl) | rw [decide_eq_true (by omega)] | (rw [decide_eq_false (by omega)]; rfl) | rw [decide_eq_false (by omega)]), rfl⟩
    · go_enter Try.func74, Try.ntmps74
      go_wp2
      go_ret
      exact ⟨ret_bool (by rw [hf.out]; first | (rw [decide_eq_true (by omega)]; rfl) | rw [decide_eq_true (by omega)] | (rw [decide_eq_false (by omega)]; rfl) | rw [decide_eq_false (by omega)]), rfl⟩

end Go.Proofs.Ytjcoeolconelmaa

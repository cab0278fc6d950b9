/- The kinds of the types of a draft's schema. No condition. -/
import Derived.Test.YtjcoeolconelmaaFitsE
import Derived.Test.YtjcoeolconelmaaDraftQ
namespace Go.Proofs.Ytjcoeolconelmaa
open Go.ChangeShapes Go.WideShapes Go.ChangeAt Go.RowKit

theorem typN_kind (xs : List Nod) (i : Nat) (x : Nod) : 1 ≤ (typN xs i x).kind ∧ (typN xs i x).kind ≤ 9 := by
  have hk := kindN_in x
  unfold typN
  simp only
  split
  · simp only []; omega
  split
  · simp only []; omega
  split
  · simp only []; omega
  split
  · simp only []; omega
  split
  · split
    · simp only []; omega
    · simp only []; omega
  split
  · simp only []; omega
  split
  · cases keyN xs x.b with
    | none => simp only []; omega
    | some j => simp only []; omega
  split
  · simp only []; omega
  · simp only []; omega
theorem ofN_kinds (xs : List Nod) : Kinds (ofN xs) := by
  intro t ht
  unfold ofN at ht
  obtain ⟨i, hi, rfl⟩ := List.mem_mapIdx.1 ht
  have := typN_kind xs i xs[i]
  unfold KindIn
  omega

end Go.Proofs.Ytjcoeolconelmaa

/- What initial computes for a draft, for all kinds. No condition. -/
import Derived.Test.YtjcoeolconelmaaDraftD
namespace Go.Proofs.Ytjcoeolconelmaa
open Go.ChangeShapes Go.WideShapes Go.ChangeAt Go.RowKit

theorem initial_any (xs : List Nod) (vn : Value) (t code : Nat) (w : World) (hc : code < 256) (h5 : 0 < xs.length ∧ xs.length ≤ 5) (ht : t < xs.length) (hr : RdNods w w.heap.size vn xs) :
    Calls Try.prog 66 #[.agg #[vn], .int .i64 t, .int .u8 code] w fun e w' => e = .returned (.tuple #[valN (initialN xs t code).1, .bool (initialN xs t code).2]) ∧ Below w.heap.size w w' := by
  have hk : kindN xs[t] = 1 ∨ kindN xs[t] = 2 ∨ kindN xs[t] = 3 ∨ kindN xs[t] = 4 ∨ kindN xs[t] = 5 ∨ kindN xs[t] = 6 ∨ kindN xs[t] = 7 ∨ kindN xs[t] = 8 ∨ kindN xs[t] = 9 := by
    have := kindN_in xs[t]; omega
  rcases hk with hk | hk | hk | hk | hk | hk | hk | hk | hk
  · exact initial1 xs vn t code w h5 ht hk hr
  · exact initial2 xs vn t code w hc h5 ht hk hr
  · by_cases ha : xs[t].a % 4 = 0
    · exact initial3n xs vn t code w h5 ht hk ha hr
    · by_cases hb : code % 2 = 1
      · exact initial3y xs vn t code w h5 ht hk ⟨by omega, hb⟩ hr
      · exact initial3m xs vn t code w h5 ht hk (by omega) (by omega) hr
  · exact initial4 xs vn t code w hc h5 ht hk hr
  · exact initial5 xs vn t code w h5 ht hk hr
  · exact initial6 xs vn t code w h5 ht hk hr
  · exact initial7 xs vn t code w h5 ht hk hr
  · cases hj : keyN xs 0 with
    | none => exact initial8n xs vn t code w h5 ht hk hj hr
    | some j => exact initial8 xs vn t code w h5 ht hk j hj hr
  · exact initial9 xs vn t code w h5 ht hk hr
end Go.Proofs.Ytjcoeolconelmaa

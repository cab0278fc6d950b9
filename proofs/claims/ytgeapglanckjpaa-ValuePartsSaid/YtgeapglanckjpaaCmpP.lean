/- The order of keys: negation and transitivity. No condition. -/
import Derived.Test.YtgeapglanckjpaaGB
namespace Go.Proofs.Ytgeapglanckjpaa
open Go.ChangeShapes Go.WideShapes Go.ChangeAt Go.RowKit
theorem cmpI_neg (a b : Int) : cmpI b a = - cmpI a b := by
 unfold cmpI; by_cases h1 : a < b
 ·
  rw [if_neg (by omega), if_pos h1, if_pos h1]; omega
 by_cases h2 : b < a
 ·
  rw [if_pos h2, if_neg h1, if_pos h2]
 rw [if_neg h2, if_neg h1, if_neg h1, if_neg h2]; rfl
theorem cmpS_neg (a b : List UInt8) : cmpS b a = - cmpS a b := by
 unfold cmpS
 cases h1 : Op.bytesLess a b with
 | true => rw [less_asymm a b h1]; rfl
 | false => cases h2 : Op.bytesLess b a with
  | true => rfl
  | false => rfl
theorem comp_same (x y : Val) (h : x.kind = y.kind) : compareV x y = if y.kind = 1 then (if x.bool = y.bool then 0 else if y.bool then -1 else 1)
  else if y.kind = 2 then cmpI (zig x.num) (zig y.num)
  else if y.kind = 3 then (if x.str.length ≠ y.str.length then cmpI x.str.length y.str.length else cmpS x.str y.str)
  else if y.kind = 4 then cmpI x.id y.id
  else 0 := by
 unfold compareV
 rw [if_neg (fun e => e h), h]
theorem comp_neg (x y : Val) : compareV y x = - compareV x y := by
 by_cases hk : x.kind = y.kind
 ·
  rw [comp_same y x hk.symm, comp_same x y hk, hk]
  by_cases k1 : y.kind = 1
  ·
   rw [if_pos k1, if_pos k1]
   cases x.bool <;> cases y.bool <;> rfl
  rw [if_neg k1, if_neg k1]
  by_cases k2 : y.kind = 2
  ·
   rw [if_pos k2, if_pos k2]; exact cmpI_neg _ _
  rw [if_neg k2, if_neg k2]
  by_cases k3 : y.kind = 3
  ·
   rw [if_pos k3, if_pos k3]
   by_cases hl : x.str.length = y.str.length
   ·
    rw [if_neg (fun e => e hl.symm), if_neg (fun e => e hl)]; exact cmpS_neg _ _
   rw [if_pos (fun h => hl h.symm), if_pos hl]; exact cmpI_neg _ _
  rw [if_neg k3, if_neg k3]
  by_cases k4 : y.kind = 4
  ·
   rw [if_pos k4, if_pos k4]; exact cmpI_neg _ _
  rw [if_neg k4, if_neg k4]; rfl
 unfold compareV
 rw [if_pos (fun h => hk h.symm), if_pos hk]; rfl
end Go.Proofs.Ytgeapglanckjpaa

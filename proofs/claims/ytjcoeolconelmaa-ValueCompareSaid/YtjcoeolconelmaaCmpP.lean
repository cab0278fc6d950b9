/- The order of keys: negation and transitivity. No condition. -/
import Derived.Test.YtjcoeolconelmaaValC
namespace Go.Proofs.Ytjcoeolconelmaa
open Go.ChangeShapes Go.WideShapes Go.ChangeAt Go.RowKit

theorem cmpI_neg (a b : Int) : cmpI b a = - cmpI a b := by
  unfold cmpI; by_cases h1 : a < b
  · rw [if_neg (by omega), if_pos h1, if_pos h1]; omega
  · by_cases h2 : b < a
    · rw [if_pos h2, if_neg h1, if_pos h2]
    · rw [if_neg h2, if_neg h1, if_neg h1, if_neg h2]; rfl
theorem cmpI_le (a b : Int) : cmpI a b ≤ 0 ↔ a ≤ b := by
  unfold cmpI; by_cases h1 : a < b
  · rw [if_pos h1]; omega
  · by_cases h2 : b < a
    · rw [if_neg h1, if_pos h2]; omega
    · rw [if_neg h1, if_neg h2]; omega
theorem cmpI_rng (a b : Int) : -1 ≤ cmpI a b ∧ cmpI a b ≤ 1 := by
  unfold cmpI; split
  · omega
  · split <;> omega
theorem cmpS_neg (a b : List UInt8) : cmpS b a = - cmpS a b := by
  unfold cmpS
  cases h1 : Op.bytesLess a b with
  | true => rw [less_asymm a b h1]; rfl
  | false => cases h2 : Op.bytesLess b a with
    | true => rfl
    | false => rfl
theorem cmpS_le (a b : List UInt8) : cmpS a b ≤ 0 ↔ Op.bytesLess b a = false := by
  unfold cmpS
  cases h1 : Op.bytesLess a b with
  | true => rw [less_asymm a b h1]; simp
  | false => cases h2 : Op.bytesLess b a with
    | true => simp
    | false => simp
theorem cmpS_rng (a b : List UInt8) : -1 ≤ cmpS a b ∧ cmpS a b ≤ 1 := by
  unfold cmpS; split
  · omega
  · split <;> omega
theorem cmpS_tri (a b c : List UInt8) (h1 : cmpS a b ≤ 0) (h2 : cmpS b c ≤ 0) : cmpS a c ≤ 0 := by
  rw [cmpS_le] at h1 h2 ⊢
  cases h3 : Op.bytesLess c a with
  | false => rfl
  | true =>
    cases h4 : Op.bytesLess a b with
    | true => rw [less_trans c a b h3 h4] at h2; cases h2
    | false =>
      have := less_total a b h4 h1
      subst this
      rw [h3] at h2; cases h2
theorem comp_same (x y : Val) (h : x.kind = y.kind) : compareV x y = if y.kind = 1 then (if x.bool = y.bool then 0 else if y.bool then -1 else 1)
    else if y.kind = 2 then cmpI (zig x.num) (zig y.num)
    else if y.kind = 3 then (if x.str.length ≠ y.str.length then cmpI x.str.length y.str.length else cmpS x.str y.str)
    else if y.kind = 4 then cmpI x.id y.id
    else 0 := by
  unfold compareV
  rw [if_neg (fun e => e h), h]
theorem comp_neg (x y : Val) : compareV y x = - compareV x y := by
  by_cases hk : x.kind = y.kind
  · rw [comp_same y x hk.symm, comp_same x y hk, hk]
    by_cases k1 : y.kind = 1
    · rw [if_pos k1, if_pos k1]
      cases x.bool <;> cases y.bool <;> rfl
    · rw [if_neg k1, if_neg k1]
      by_cases k2 : y.kind = 2
      · rw [if_pos k2, if_pos k2]; exact cmpI_neg _ _
      · rw [if_neg k2, if_neg k2]
        by_cases k3 : y.kind = 3
        · rw [if_pos k3, if_pos k3]
          by_cases hl : x.str.length = y.str.length
          · rw [if_neg (fun e => e hl.symm), if_neg (fun e => e hl)]; exact cmpS_neg _ _
          · rw [if_pos (fun h => hl h.symm), if_pos hl]; exact cmpI_neg _ _
        · rw [if_neg k3, if_neg k3]
          by_cases k4 : y.kind = 4
          · rw [if_pos k4, if_pos k4]; exact cmpI_neg _ _
          · rw [if_neg k4, if_neg k4]; rfl
  · unfold compareV
    rw [if_pos (fun h => hk h.symm), if_pos hk]; rfl
theorem comp_rng (x y : Val) : -1 ≤ compareV x y ∧ compareV x y ≤ 1 := by
  unfold compareV
  split
  · omega
  · split
    · split
      · omega
      · split <;> omega
    · split
      · exact cmpI_rng _ _
      · split
        · split
          · exact cmpI_rng _ _
          · exact cmpS_rng _ _
        · split
          · exact cmpI_rng _ _
          · omega
theorem comp_tri (x y z : Val) (hxy : x.kind = y.kind) (hyz : y.kind = z.kind) (h1 : compareV x y ≤ 0) (h2 : compareV y z ≤ 0) : compareV x z ≤ 0 := by
  rw [comp_same x y hxy] at h1
  rw [comp_same y z hyz, ← hyz] at h2
  rw [comp_same x z (hxy.trans hyz), ← hyz]
  by_cases k1 : y.kind = 1
  · rw [if_pos k1] at h1 h2 ⊢
    revert h1 h2
    cases x.bool <;> cases y.bool <;> cases z.bool <;> simp
  · rw [if_neg k1] at h1 h2 ⊢
    by_cases k2 : y.kind = 2
    · rw [if_pos k2, cmpI_le] at h1 h2 ⊢; omega
    · rw [if_neg k2] at h1 h2 ⊢
      by_cases k3 : y.kind = 3
      · rw [if_pos k3] at h1 h2 ⊢
        by_cases l1 : x.str.length = y.str.length
        · rw [if_neg (by simp [l1])] at h1
          by_cases l2 : y.str.length = z.str.length
          · rw [if_neg (by simp [l2])] at h2
            rw [if_neg (by simp [l1, l2])]
            exact cmpS_tri _ _ _ h1 h2
          · rw [if_pos l2, cmpI_le] at h2
            rw [if_pos (by omega), cmpI_le]; omega
        · rw [if_pos l1, cmpI_le] at h1
          by_cases l2 : y.str.length = z.str.length
          · rw [if_pos (by omega), cmpI_le]; omega
          · rw [if_pos l2, cmpI_le] at h2
            rw [if_pos (by omega), cmpI_le]; omega
      · rw [if_neg k3] at h1 h2 ⊢
        by_cases k4 : y.kind = 4
        · rw [if_pos k4, cmpI_le] at h1 h2 ⊢; omega
        · rw [if_neg k4]; omega
end Go.Proofs.Ytjcoeolconelmaa

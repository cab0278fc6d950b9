/- Plain: what a reader sees in a chain of optionals. No condition. -/
import Derived.Test.YtccmmibkihbobaaDoorHAI
namespace Go.Proofs.YtccmmibkihbobaaDoor
open Go.ChangeShapes Go.WideShapes Go.ChangeAt Go.RowKit
def optT : List Typ := [⟨9, [], 0, 0, 0, [], [], 0, 0, false⟩]
theorem optT_valid : validE optT = 0 := by decide +kernel
theorem opt_dec (rec : Int → List UInt8 → List Int → Res) (p : List UInt8) (path : List Int) : decB rec ⟨9, [], 0, 0, 0, [], [], 0, 0, false⟩ p path = match p with
  | [] => .ok (leafV 9)
  | b :: r => if b.toNat ≠ 1 then .error (path, 1) else match rec 0 r (path ++ [0]) with
   | .error e => .error e
   | .ok v => .ok (.mk 9 false 0 [] 0 [] [v] []) := by
 unfold decB
 rw [if_neg (by decide), if_neg (by decide), if_neg (by decide), if_neg (by decide), if_neg (by decide), if_neg (by decide), if_neg (by decide), if_neg (by decide)]
 rfl
theorem opt_ok : ∀ (n k : Nat) (path : List Int), k < n → ∃ v, decP optT n 0 (List.replicate k 1) path = .ok v
 | 0, k, path, h => by omega
 | n+1, k, path, h => by
  rw [decP]
  simp only [show typAt optT 0 = some ⟨9, [], 0, 0, 0, [], [], 0, 0, false⟩ from rfl]
  rw [opt_dec]
  cases k with
  | zero => exact ⟨_, rfl⟩
  | succ k =>
   obtain ⟨v, hv⟩ := opt_ok n k (path ++ [0]) (by omega)
   rw [List.replicate_succ]
   simp only [hv]
   exact ⟨_, rfl⟩
theorem opt_err : ∀ (n k : Nat) (path : List Int), n ≤ k → decP optT n 0 (List.replicate k 1) path = .error (path ++ List.replicate n 0, 8)
 | 0, k, path, h => by rw [decP]; simp
 | n+1, k, path, h => by
  rw [decP]
  simp only [show typAt optT 0 = some ⟨9, [], 0, 0, 0, [], [], 0, 0, false⟩ from rfl]
  rw [opt_dec]
  cases k with
  | zero => omega
  | succ k =>
   rw [List.replicate_succ]
   simp only [opt_err n k (path ++ [0]) (by omega)]
   simp [List.replicate_succ]
theorem deep_ok {k : Nat} (h : k < 200) : ∃ v, readE optT 0 (List.replicate k 1) = .ok (.ok v) := by
 obtain ⟨v, hv⟩ := opt_ok 200 k [] h
 refine ⟨v, ?_⟩
 unfold readE
 rw [if_neg (by simp [optT_valid]), if_neg (by decide), if_neg (by simp; omega), hv]
theorem deep_err {k : Nat} (h : 200 ≤ k) (h2 : k ≤ 4096) : readE optT 0 (List.replicate k 1) = .ok (.error (List.replicate 200 0, 8)) := by
 unfold readE
 rw [if_neg (by simp [optT_valid]), if_neg (by decide), if_neg (by simp; omega), opt_err 200 k [] h, List.nil_append]
end Go.Proofs.YtccmmibkihbobaaDoor

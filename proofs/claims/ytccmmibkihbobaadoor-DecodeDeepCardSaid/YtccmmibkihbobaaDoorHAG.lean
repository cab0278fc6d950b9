/- What fits of the program computes for unions and maps. What fits of the program computes for maps. What fits, Fits and Plain of the program compute. No condition. -/
import Derived.Test.YtccmmibkihbobaaDoorHAE
import Derived.IntWalk
namespace Go.Proofs.YtccmmibkihbobaaDoor
open Go.ChangeShapes Go.WideShapes Go.ChangeAt Go.RowKit
theorem fitH_eq (ts : List Typ) (pl : Bool) (l : List Val) (t : Int) (h : 0 < l.length) : fitH ts pl l t = fitV ts pl l[0] t := by
 cases l with
 | nil => simp at h
 | cons a r => rw [fitH]; rfl
end Go.Proofs.YtccmmibkihbobaaDoor
namespace Go.Proofs.YtccmmibkihbobaaDoor
open Go.ChangeShapes Go.WideShapes Go.ChangeAt Go.RowKit
theorem ascB_at (l : List Val) (k : Nat) (h : k + 1 < l.length) : ascB (l.drop k) = (decide (compareV l[k] l[k+1] < 0) && ascB (l.drop (k+1))) := by
 rw [List.drop_eq_getElem_cons (show k < l.length by omega), List.drop_eq_getElem_cons h, ascB]
theorem ascB_end (l : List Val) (k : Nat) (h : l.length ≤ k + 1) : ascB (l.drop k) = true := by
 have h2 : (l.drop k).length ≤ 1 := by rw [List.length_drop]; omega
 match l.drop k, h2 with
 | [], _ => rfl
 | [_], _ => rfl
 | _ :: _ :: _, h2 => simp at h2
end Go.Proofs.YtccmmibkihbobaaDoor
namespace Go.Proofs.YtccmmibkihbobaaDoor
open Go.ChangeShapes Go.WideShapes Go.ChangeAt Go.RowKit
def KindIn (k : Int) : Prop := 1 ≤ k ∧ k ≤ 9
theorem kind_cases {k : Int} (h : KindIn k) : k = 1 ∨ k = 2 ∨ k = 3 ∨ k = 4 ∨ k = 5 ∨ k = 6 ∨ k = 7 ∨ k = 8 ∨ k = 9 := by
 unfold KindIn at h; omega
def Kinds (ts : List Typ) : Prop := ∀ x ∈ ts, KindIn x.kind
end Go.Proofs.YtccmmibkihbobaaDoor

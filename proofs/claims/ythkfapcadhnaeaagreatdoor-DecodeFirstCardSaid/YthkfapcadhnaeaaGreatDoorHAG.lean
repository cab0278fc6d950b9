/- What fits of the program computes for unions and maps. What fits of the program computes for maps. What fits, Fits and Plain of the program compute. No condition. -/
import Derived.Test.YthkfapcadhnaeaaGreatDoorHAE
import Derived.IntWalk
namespace Go.Proofs.YthkfapcadhnaeaaGreatDoor
open Go.ChangeShapes Go.WideShapes Go.ChangeAt Go.RowKit
end Go.Proofs.YthkfapcadhnaeaaGreatDoor
namespace Go.Proofs.YthkfapcadhnaeaaGreatDoor
open Go.ChangeShapes Go.WideShapes Go.ChangeAt Go.RowKit
theorem Xf (l:List Val) (k:Nat) (h:k+1 < l.length):uN (l.drop k)=(decide (je l[k] l[k+1] < 0) && uN (l.drop (k+1))):=by
 rw [List.drop_eq_getElem_cons (show k < l.length by omega),List.drop_eq_getElem_cons h,uN]
theorem U0 (l:List Val) (k:Nat) (h:l.length≤k+1):uN (l.drop k)=true:=by
 have h2:(l.drop k).length≤1:=by rw [List.length_drop];omega
 match l.drop k,h2 with
 | [],_ => rfl
 | [_],_ => rfl
 | _ :: _ :: _,h2 => simp at h2
end Go.Proofs.YthkfapcadhnaeaaGreatDoor
namespace Go.Proofs.YthkfapcadhnaeaaGreatDoor
open Go.ChangeShapes Go.WideShapes Go.ChangeAt Go.RowKit
def fJ (k:Int):Prop:=1≤k∧k≤9
theorem sN {k:Int} (h:fJ k):k=1∨k=2∨k=3∨k=4∨k=5∨k=6∨k=7∨k=8∨k=9:=by
 unfold fJ at h;omega
end Go.Proofs.YthkfapcadhnaeaaGreatDoor

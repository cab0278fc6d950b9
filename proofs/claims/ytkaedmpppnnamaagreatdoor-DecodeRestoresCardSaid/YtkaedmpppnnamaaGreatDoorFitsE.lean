/- What fits, Fits and Plain of the program compute. No condition. -/
import Derived.Test.YtkaedmpppnnamaaGreatDoorHAE
namespace Go.Proofs.YtkaedmpppnnamaaGreatDoor
open ChangeShapes WideShapes ChangeAt RowKit
def iP (k:Int):Prop:=1<=k/\k<=9
theorem vF {k:Int} (h:iP k):k=1\/k=2\/k=3\/k=4\/k=5\/k=6\/k=7\/k=8\/k=9:=by
 unfold iP at h;omega
def Kinds (ts:List ay):Prop := ∀ x ∈ ts,iP x.kind

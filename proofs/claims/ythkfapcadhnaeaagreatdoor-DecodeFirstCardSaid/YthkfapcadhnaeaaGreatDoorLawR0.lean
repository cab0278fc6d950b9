/- few of layer 10. No condition. -/
import Derived.Test.YthkfapcadhnaeaaGreatDoorHAL
import Derived.Test.YthkfapcadhnaeaaGreatDoorHAM
import Derived.Test.YthkfapcadhnaeaaGreatDoorHAR
set_option maxHeartbeats 800000
namespace Go.Proofs.YthkfapcadhnaeaaGreatDoor
open Go.ChangeShapes Go.WideShapes Go.ChangeAt Go.RowKit
set_option maxRecDepth 100000 in
theorem Rt (ts:List aC) (A:Option Addr) (c:Nat) (m:List UInt8) (w:World) (ht:bG w w.heap.size (.slice A ts.length c) ts) :
  Calls Tryz.prog 10 #[.agg #[.slice A ts.length c],.string ⟨m.toArray⟩] w (af4 w):=by
 have HT:=Lib.hid ht
 clear ht
 go_enter Tryz.func10,Tryz.ntmps10
 go_upto_region 1 with fail
 generalize dJ:w.alloc _=wd2
 have ⟨hb1,S⟩:=bH dJ
 clear dJ
 have hw4:=hb1
 clear hb1
 have ay:=S.out.e0
 go_wp2_with fail
 clear ay
 ((with_reducible refine (agU ts A c _ (HT.out.on hw4)).mono ?_);rintro e qM ⟨⟨fb,rfl⟩,hb6⟩)
 replace S:=b1 S hb6
 replace hw4:=dT hw4 hb6
 clear hb6
 cases fb with
 | false =>
  go_wp2_with fail
  go_ret
  exact ⟨⟨_,rfl⟩,hw4⟩
 | true =>
  by_cases h1:m.length≤400
  ·
   have h1i:(m.length:Int)≤400:=by omega
   go_wp2_with fail
   go_ret
   exact ⟨⟨_,rfl⟩,hw4⟩
  have h1i:¬ (m.length:Int)≤400:=by omega
  go_wp2_with fail
  go_ret
  exact ⟨⟨_,rfl⟩,hw4⟩
end Go.Proofs.YthkfapcadhnaeaaGreatDoor

/- What sheaveref07.sameMember computes. No condition. -/
import Derived.Test.YthkfapcadhnaeaaGreatDoorEqZ
set_option maxHeartbeats 8000000
namespace Go.Proofs.YthkfapcadhnaeaaGreatDoor
open Go.ChangeShapes Go.WideShapes Go.ChangeAt Go.RowKit
abbrev aiD (m:Mem) (vk vi vr:Value):Value:=.agg #[.int .i64 m.id,.string ⟨m.name.toArray⟩,.int .i64 m.ty,.bool m.jR,.bool m.iR,.int .i64 m.dflt.kind,.bool m.dflt.bool,.int .i64 m.dflt.num,.string ⟨m.dflt.str.toArray⟩,.int .i64 m.dflt.id,vk,vi,vr]
def qX (x y:Mem):Bool:=decide (x.id=y.id∧x.name=y.name∧x.ty=y.ty∧x.jR=y.jR∧x.iR=y.iR) && iH x.dflt y.dflt
theorem RH (x y:Mem):qX x y=true↔x=y:=by
 unfold qX
 rw [Bool.and_eq_true,decide_eq_true_eq,yE]
 cases x;cases y;simp [and_assoc]
set_option maxRecDepth 100000 in
theorem acv (x y:Mem) (vk vi vr uk ui ur:Value) (w:World) (hx:ValAt w w.heap.size x.dflt vk vi vr) (hy:ValAt w w.heap.size y.dflt uk ui ur) :
  Calls Tryz.prog 144 #[aiD x vk vi vr,aiD y uk ui ur] w fun e w' => e = .returned (.bool (qX x y))∧Below w.heap.size w w':=by
 obtain ⟨D1,dx1,D2,dx2,D3,dx3,rfl,rfl,rfl,-,-,-⟩:=hx.forms
 obtain ⟨E1,ex1,E2,ex2,E3,ex3,rfl,rfl,rfl,-,-,-⟩:=hy.forms
 have HX:=Lib.hid hx
 have HY:=Lib.hid hy
 clear hx hy
 by_cases e0:x.id=y.id
 ·
  have t0:(x.id == y.id)=true:=by simp [e0]
  by_cases e1:x.name=y.name
  ·
   have t1:(x.name == y.name)=true:=by simp [e1]
   by_cases e2:x.ty=y.ty
   ·
    have t2:(x.ty == y.ty)=true:=by simp [e2]
    by_cases e3:x.jR=y.jR
    ·
     have t3:(x.jR == y.jR)=true:=by simp [e3]
     by_cases e4:x.iR=y.iR
     ·
      have t4:(x.iR == y.iR)=true:=by simp [e4]
      have jy:Hid (qX x y=iH x.dflt y.dflt):=by show _=_;unfold qX;rw [decide_eq_true ⟨e0,e1,e2,e3,e4⟩];rfl
      clear e0 e1 e2 e3 e4
      go_enter Tryz.func144,Tryz.ntmps144
      go_upto_region 1 with fail
      generalize dJ:w.alloc _=wd2
      generalize jD:wd2.alloc _=wd4
      have ⟨hb1,X,Y⟩:=dN dJ jD
      clear dJ jD
      have hw6:=hb1
      clear hb1
      obtain ⟨aI,bI,bQ,bT,bW,dD,bK,bJ,bZ,bM,akH,akI,akJ⟩:=X.out.c13
      obtain ⟨kY,kZ,lg,lq,lu,nZ,mM,oh,ql,qm,akK,akL,akM⟩:=Y.out.c13
      go_wp2_with fail
      clear aI bI bQ bT bW dD bK bJ bZ bM akH akI akJ kY kZ lg lq lu nZ mM oh ql qm akK akL akM
      ((with_reducible refine (EG (nodes x.dflt+1) x.dflt y.dflt _ _ _ _ _ _ _ (by omega) (HX.out.on hw6) (HY.out.on hw6)).mono ?_);rintro e oW ⟨rfl,hb8⟩)
      obtain ⟨X,Y⟩:=b2 X Y hb8
      replace hw6:=dT hw6 hb8
      clear hb8
      go_wp2_with fail
      go_ret
      exact ⟨au jy.out.symm,hw6⟩
     have t4:(x.iR == y.iR)=false:=by simpa using e4
     have jy:Hid (qX x y=false):=by show _=_;unfold qX;rw [decide_eq_false (fun h => e4 (by simp [h]))];rfl
     clear e0 e1 e2 e3 e4
     go_enter Tryz.func144,Tryz.ntmps144
     go_upto_region 1 with fail
     generalize jZ:w.alloc _=kE
     generalize lU:kE.alloc _=xJ
     have ⟨zB,X,Y⟩:=dN jZ lU
     clear jZ lU
     have Wh:=zB
     clear zB
     obtain ⟨aI,bI,bQ,bT,bW,-,-,-,-,-,-,-,-⟩:=X.out.c13
     obtain ⟨kY,kZ,lg,lq,lu,-,-,-,-,-,-,-,-⟩:=Y.out.c13
     go_wp2_with fail
     go_ret
     exact ⟨au jy.out.symm,Wh⟩
    have t3:(x.jR == y.jR)=false:=by simpa using e3
    have jy:Hid (qX x y=false):=by show _=_;unfold qX;rw [decide_eq_false (fun h => e3 (by simp [h]))];rfl
    clear e0 e1 e2 e3
    go_enter Tryz.func144,Tryz.ntmps144
    go_upto_region 1 with fail
    generalize mZ:w.alloc _=qH
    generalize kV:qH.alloc _=qY
    have ⟨uV,X,Y⟩:=dN mZ kV
    clear mZ kV
    have anC:=uV
    clear uV
    obtain ⟨aI,bI,bQ,bT,bW,-,-,-,-,-,-,-,-⟩:=X.out.c13
    obtain ⟨kY,kZ,lg,lq,lu,-,-,-,-,-,-,-,-⟩:=Y.out.c13
    go_wp2_with fail
    go_ret
    exact ⟨au jy.out.symm,anC⟩
   have t2:(x.ty == y.ty)=false:=by simpa using e2
   have jy:Hid (qX x y=false):=by show _=_;unfold qX;rw [decide_eq_false (fun h => e2 (by simp [h]))];rfl
   clear e0 e1 e2
   go_enter Tryz.func144,Tryz.ntmps144
   go_upto_region 1 with fail
   generalize mV:w.alloc _=rC
   generalize jQ:rC.alloc _=kF
   have ⟨mQ,X,Y⟩:=dN mV jQ
   clear mV jQ
   have anD:=mQ
   clear mQ
   obtain ⟨aI,bI,bQ,bT,bW,-,-,-,-,-,-,-,-⟩:=X.out.c13
   obtain ⟨kY,kZ,lg,lq,lu,-,-,-,-,-,-,-,-⟩:=Y.out.c13
   go_wp2_with fail
   go_ret
   exact ⟨au jy.out.symm,anD⟩
  have t1:(x.name == y.name)=false:=by simpa using e1
  have jy:Hid (qX x y=false):=by show _=_;unfold qX;rw [decide_eq_false (fun h => e1 (by simp [h]))];rfl
  clear e0 e1
  go_enter Tryz.func144,Tryz.ntmps144
  go_upto_region 1 with fail
  generalize uU:w.alloc _=zQ
  generalize mO:zQ.alloc _=nX
  have ⟨oK,X,Y⟩:=dN uU mO
  clear uU mO
  have hw32:=oK
  clear oK
  obtain ⟨aI,bI,bQ,bT,bW,-,-,-,-,-,-,-,-⟩:=X.out.c13
  obtain ⟨kY,kZ,lg,lq,lu,-,-,-,-,-,-,-,-⟩:=Y.out.c13
  go_wp2_with fail
  go_ret
  exact ⟨au jy.out.symm,hw32⟩
 have t0:(x.id == y.id)=false:=by simpa using e0
 have jy:Hid (qX x y=false):=by show _=_;unfold qX;rw [decide_eq_false (fun h => e0 (by simp [h]))];rfl
 clear e0
 go_enter Tryz.func144,Tryz.ntmps144
 go_upto_region 1 with fail
 generalize wR:w.alloc _=tV
 generalize rD:tV.alloc _=o9
 have ⟨qK,X,Y⟩:=dN wR rD
 clear wR rD
 have Wj:=qK
 clear qK
 obtain ⟨aI,bI,bQ,bT,bW,-,-,-,-,-,-,-,-⟩:=X.out.c13
 obtain ⟨kY,kZ,lg,lq,lu,-,-,-,-,-,-,-,-⟩:=Y.out.c13
 go_wp2_with fail
 go_ret
 exact ⟨au jy.out.symm,Wj⟩
end Go.Proofs.YthkfapcadhnaeaaGreatDoor

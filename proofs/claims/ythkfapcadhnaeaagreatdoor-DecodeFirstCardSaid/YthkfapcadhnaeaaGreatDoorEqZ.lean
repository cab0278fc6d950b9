/- What schema.equal computes for a type whose lists are empty, and schema.blank. No condition. -/
import Derived.Test.YthkfapcadhnaeaaGreatDoorHAC
import Derived.Test.YthkfapcadhnaeaaGreatDoorHAF
set_option maxHeartbeats 8000000
namespace Go.Proofs.YthkfapcadhnaeaaGreatDoor
open Go.ChangeShapes Go.WideShapes Go.ChangeAt Go.RowKit
set_option maxRecDepth 100000 in
theorem YF (n:Nat) (A:Option Addr) (c:Nat) (w:World):Calls Tryz.prog 157 #[.slice A n c,.slice none 0 0] w fun e w' => e = .returned (.bool (decide (n=0)))∧w=w':=by
 by_cases h0:n=0
 ·
  subst h0
  go_enter Tryz.func157,Tryz.ntmps157
  go_wp2
  refine wp_loop_rounds 1 ?_
  rw [rounds_succ]
  go_wp2
  go_ret
  exact ⟨rfl,rfl⟩
 have Hd:Hid (decide (n=0)=false):=decide_eq_false h0
 have t:((n:Int) != 0)=true:=by simpa using h0
 go_enter Tryz.func157,Tryz.ntmps157
 go_wp2
 go_ret
 exact ⟨au Hd.out.symm,rfl⟩
set_option maxRecDepth 100000 in
theorem YG (n:Nat) (A:Option Addr) (c:Nat) (w:World):Calls Tryz.prog 158 #[.slice A n c,.slice none 0 0,.func (.func 159) #[] #[]] w fun e w' => e = .returned (.bool (decide (n=0)))∧w=w':=by
 by_cases h0:n=0
 ·
  subst h0
  go_enter Tryz.func158,Tryz.ntmps158
  go_wp2
  refine wp_loop_rounds 1 ?_
  rw [rounds_succ]
  go_wp2
  go_ret
  exact ⟨rfl,rfl⟩
 have Hd:Hid (decide (n=0)=false):=decide_eq_false h0
 have t:((n:Int) != 0)=true:=by simpa using h0
 go_enter Tryz.func158,Tryz.ntmps158
 go_wp2
 go_ret
 exact ⟨au Hd.out.symm,rfl⟩
theorem MP (w:World) (B:Nat):ValAt w B kJ (.slice none 0 0) (.slice none 0 0) (.slice none 0 0) :=
 ⟨⟨by simp [I64,kJ,Val.kind],by simp [I64,kJ,Val.num],by simp [I64,kJ,Val.id]⟩,by simp [kJ,Val.str],⟨by simp [kJ,Val.keys],by simp [kJ,Val.items],by simp [kJ,Val.rest]⟩,by simp [kJ,Val.rest],
  ⟨fun _ => [],⟨none,0,rfl,Nat.le_refl _,.inl rfl⟩,fun i h => by simp [kJ,Val.keys] at h⟩,⟨fun _ => [],⟨none,0,rfl,Nat.le_refl _,.inl rfl⟩,fun i h => by simp [kJ,Val.items] at h⟩,Rd.nil_ w B 2⟩
def gy (x y:aC):Bool:=decide (x.kind=y.kind∧x.name=y.name∧x.low=y.low∧x.high=y.high∧x.max=y.max∧x.key=y.key∧x.elem=y.elem∧x.opn=y.opn) && (decide (x.syms.length=0) && decide (x.aj.length=0))
set_option maxRecDepth 100000 in
theorem lI (x y:aC) (A1 A2:Option Addr) (c1 c2:Nat) (w:World) :
  Calls Tryz.prog 129 #[aS x (.slice A1 x.syms.length c1) (.slice A2 x.aj.length c2),aS y (.slice none 0 0) (.slice none 0 0)] w fun e w' => e = .returned (.bool (gy x y))∧Below w.heap.size w w':=by
 by_cases e0:x.kind=y.kind
 ·
  have t0:(x.kind == y.kind)=true:=by simp [e0]
  by_cases e1:x.name=y.name
  ·
   have t1:(x.name == y.name)=true:=by simp [e1]
   by_cases e2:x.low=y.low
   ·
    have t2:(x.low == y.low)=true:=by simp [e2]
    by_cases e3:x.high=y.high
    ·
     have t3:(x.high == y.high)=true:=by simp [e3]
     by_cases e4:x.max=y.max
     ·
      have t4:(x.max == y.max)=true:=by simp [e4]
      by_cases e5:x.key=y.key
      ·
       have t5:(x.key == y.key)=true:=by simp [e5]
       by_cases e6:x.elem=y.elem
       ·
        have t6:(x.elem == y.elem)=true:=by simp [e6]
        by_cases e7:x.opn=y.opn
        ·
         have t7:(x.opn == y.opn)=true:=by simp [e7]
         have jy:Hid (gy x y=(decide (x.syms.length=0) && decide (x.aj.length=0))):=by show _=_;unfold gy;rw [decide_eq_true ⟨e0,e1,e2,e3,e4,e5,e6,e7⟩];rfl
         clear e0 e1 e2 e3 e4 e5 e6 e7
         go_enter Tryz.func129,Tryz.ntmps129
         go_upto_region 1 with fail
         generalize dJ:w.alloc _=wd2
         generalize jD:wd2.alloc _=wd4
         have ⟨hb1,X,Y⟩:=dN dJ jD
         clear dJ jD
         have hw6:=hb1
         clear hb1
         obtain ⟨aI,bI,bQ,bT,bW,dD,bK,bJ,bZ,bM⟩:=X.out.c10
         obtain ⟨kY,kZ,lg,lq,lu,nZ,mM,oh,ql,qm⟩:=Y.out.c10
         go_wp2_with fail
         clear aI bI bQ bT bW dD bK bJ bZ bM kY kZ lg lq lu nZ mM oh ql qm
         ((with_reducible refine (YF _ _ _ _).mono ?_);rintro e oW ⟨rfl,rfl⟩)
         cases hs:decide (x.syms.length=0) with
         | false =>
          rw [hs] at jy
          clear hs
          go_wp2_with fail
          go_ret
          exact ⟨au jy.out.symm,hw6⟩
         | true =>
          rw [hs,Bool.true_and] at jy
          clear hs
          have bK:=X.out.e6
          have mM:=Y.out.e6
          go_wp2_with fail
          clear bK mM
          ((with_reducible refine (YG _ _ _ _).mono ?_);rintro e AY ⟨rfl,rfl⟩)
          generalize decide (x.aj.length=0)=bm at *
          go_wp2_with fail
          go_ret
          exact ⟨au jy.out.symm,hw6⟩
        have t7:(x.opn == y.opn)=false:=by simpa using e7
        have jy:Hid (gy x y=false):=by show _=_;unfold gy;rw [decide_eq_false (fun h => e7 (by simp [h]))];rfl
        clear e0 e1 e2 e3 e4 e5 e6 e7
        go_enter Tryz.func129,Tryz.ntmps129
        go_upto_region 1 with fail
        generalize lU:w.alloc _=xJ
        generalize ng:xJ.alloc _=xP
        have ⟨qc,X,Y⟩:=dN lU ng
        clear lU ng
        have hw16:=qc
        clear qc
        obtain ⟨aI,bI,bQ,bT,bW,dD,bK,bJ,bZ,bM⟩:=X.out.c10
        obtain ⟨kY,kZ,lg,lq,lu,nZ,mM,oh,ql,qm⟩:=Y.out.c10
        go_wp2_with fail
        go_ret
        exact ⟨au jy.out.symm,hw16⟩
       have t6:(x.elem == y.elem)=false:=by simpa using e6
       have jy:Hid (gy x y=false):=by show _=_;unfold gy;rw [decide_eq_false (fun h => e6 (by simp [h]))];rfl
       clear e0 e1 e2 e3 e4 e5 e6
       go_enter Tryz.func129,Tryz.ntmps129
       go_upto_region 1 with fail
       generalize kV:w.alloc _=qY
       generalize kD:qY.alloc _=nS
       have ⟨kW,X,Y⟩:=dN kV kD
       clear kV kD
       have Vp:=kW
       clear kW
       obtain ⟨aI,bI,bQ,bT,bW,dD,bK,bJ,bZ,bM⟩:=X.out.c10
       obtain ⟨kY,kZ,lg,lq,lu,nZ,mM,oh,ql,qm⟩:=Y.out.c10
       go_wp2_with fail
       go_ret
       exact ⟨au jy.out.symm,Vp⟩
      have t5:(x.key == y.key)=false:=by simpa using e5
      have jy:Hid (gy x y=false):=by show _=_;unfold gy;rw [decide_eq_false (fun h => e5 (by simp [h]))];rfl
      clear e0 e1 e2 e3 e4 e5
      go_enter Tryz.func129,Tryz.ntmps129
      go_upto_region 1 with fail
      generalize jQ:w.alloc _=kF
      generalize oJ:kF.alloc _=qZ
      have ⟨jB,X,Y⟩:=dN jQ oJ
      clear jQ oJ
      have Aa:=jB
      clear jB
      obtain ⟨aI,bI,bQ,bT,bW,dD,bK,bJ,bZ,bM⟩:=X.out.c10
      obtain ⟨kY,kZ,lg,lq,lu,nZ,mM,oh,ql,qm⟩:=Y.out.c10
      go_wp2_with fail
      go_ret
      exact ⟨au jy.out.symm,Aa⟩
     have t4:(x.max == y.max)=false:=by simpa using e4
     have jy:Hid (gy x y=false):=by show _=_;unfold gy;rw [decide_eq_false (fun h => e4 (by simp [h]))];rfl
     clear e0 e1 e2 e3 e4
     go_enter Tryz.func129,Tryz.ntmps129
     go_upto_region 1 with fail
     generalize mO:w.alloc _=nX
     generalize DW:nX.alloc _=zC
     have ⟨yZ,X,Y⟩:=dN mO DW
     clear mO DW
     have vw:=yZ
     clear yZ
     obtain ⟨aI,bI,bQ,bT,bW,dD,bK,bJ,bZ,bM⟩:=X.out.c10
     obtain ⟨kY,kZ,lg,lq,lu,nZ,mM,oh,ql,qm⟩:=Y.out.c10
     go_wp2_with fail
     go_ret
     exact ⟨au jy.out.symm,vw⟩
    have t3:(x.high == y.high)=false:=by simpa using e3
    have jy:Hid (gy x y=false):=by show _=_;unfold gy;rw [decide_eq_false (fun h => e3 (by simp [h]))];rfl
    clear e0 e1 e2 e3
    go_enter Tryz.func129,Tryz.ntmps129
    go_upto_region 1 with fail
    generalize rD:w.alloc _=o9
    generalize vC:o9.alloc _=sD
    have ⟨jL,X,Y⟩:=dN rD vC
    clear rD vC
    have fV:=jL
    clear jL
    obtain ⟨aI,bI,bQ,bT,bW,dD,bK,bJ,bZ,bM⟩:=X.out.c10
    obtain ⟨kY,kZ,lg,lq,lu,nZ,mM,oh,ql,qm⟩:=Y.out.c10
    go_wp2_with fail
    go_ret
    exact ⟨au jy.out.symm,fV⟩
   have t2:(x.low == y.low)=false:=by simpa using e2
   have jy:Hid (gy x y=false):=by show _=_;unfold gy;rw [decide_eq_false (fun h => e2 (by simp [h]))];rfl
   clear e0 e1 e2
   go_enter Tryz.func129,Tryz.ntmps129
   go_upto_region 1 with fail
   generalize zS:w.alloc _=P7
   generalize mF:P7.alloc _=wI
   have ⟨G6,X,Y⟩:=dN zS mF
   clear zS mF
   have Vq:=G6
   clear G6
   obtain ⟨aI,bI,bQ,bT,bW,dD,bK,bJ,bZ,bM⟩:=X.out.c10
   obtain ⟨kY,kZ,lg,lq,lu,nZ,mM,oh,ql,qm⟩:=Y.out.c10
   go_wp2_with fail
   go_ret
   exact ⟨au jy.out.symm,Vq⟩
  have t1:(x.name == y.name)=false:=by simpa using e1
  have jy:Hid (gy x y=false):=by show _=_;unfold gy;rw [decide_eq_false (fun h => e1 (by simp [h]))];rfl
  clear e0 e1
  go_enter Tryz.func129,Tryz.ntmps129
  go_upto_region 1 with fail
  generalize rZ:w.alloc _=yL
  generalize qg:yL.alloc _=Dp
  have ⟨FB,X,Y⟩:=dN rZ qg
  clear rZ qg
  have al7:=FB
  clear FB
  obtain ⟨aI,bI,bQ,bT,bW,dD,bK,bJ,bZ,bM⟩:=X.out.c10
  obtain ⟨kY,kZ,lg,lq,lu,nZ,mM,oh,ql,qm⟩:=Y.out.c10
  go_wp2_with fail
  go_ret
  exact ⟨au jy.out.symm,al7⟩
 have t0:(x.kind == y.kind)=false:=by simpa using e0
 have jy:Hid (gy x y=false):=by show _=_;unfold gy;rw [decide_eq_false (fun h => e0 (by simp [h]))];rfl
 clear e0
 go_enter Tryz.func129,Tryz.ntmps129
 go_upto_region 1 with fail
 generalize Je:w.alloc _=GH
 generalize tK:GH.alloc _=Bq
 have ⟨xX,X,Y⟩:=dN Je tK
 clear Je tK
 have al8:=xX
 clear xX
 obtain ⟨aI,bI,bQ,bT,bW,dD,bK,bJ,bZ,bM⟩:=X.out.c10
 obtain ⟨kY,kZ,lg,lq,lu,nZ,mM,oh,ql,qm⟩:=Y.out.c10
 go_wp2_with fail
 go_ret
 exact ⟨au jy.out.symm,al8⟩
set_option maxRecDepth 100000 in
theorem Jj (x:Val) (vk vi vr:Value) (w:World) (hv:ValAt w w.heap.size x vk vi vr) :
  Calls Tryz.prog 156 #[iC x vk vi vr] w fun e w' => e = .returned (.bool (iH x kJ))∧Below w.heap.size w w':=by
 obtain ⟨A1,n1,A2,n2,A3,n3,rfl,rfl,rfl,-,-,-⟩:=hv.forms
 have HV:=Lib.hid hv
 have hc:∀ W,ValAt W W.heap.size x (.slice A1 x.keys.length n1) (.slice A2 x.items.length n2) (.slice A3 x.rest.length n3)→Calls Tryz.prog 160 #[iC x (.slice A1 x.keys.length n1) (.slice A2 x.items.length n2) (.slice A3 x.rest.length n3),.agg #[.int .i64 0,.bool false,.int .i64 0,.string ⟨#[]⟩,.int .i64 0,.slice none 0 0,.slice none 0 0,.slice none 0 0]] W fun e w' => e = .returned (.bool (iH x kJ))∧Below W.heap.size W w' :=
  fun W h => abj (nodes x+1) x kJ _ _ _ (.slice none 0 0) (.slice none 0 0) (.slice none 0 0) W (by omega) h (MP _ _)
 have HC:=Lib.hid hc
 clear hv hc
 go_enter Tryz.func156,Tryz.ntmps156
 go_upto_region 1 with fail
 generalize vg:w.alloc _=zW
 have ⟨yX,X⟩:=bH vg
 clear vg
 have oN:=yX
 clear yX
 obtain ⟨aI,bI,bQ,bT,bW,dD,bK,bJ⟩:=X.out.c8
 go_wp2_with fail
 clear aI bI bQ bT bW dD bK bJ
 ((with_reducible refine (HC.out _ (HV.out.on oN)).mono ?_);rintro e MH ⟨rfl,hb64⟩)
 replace X:=b1 X hb64
 replace oN:=dT oN hb64
 clear hb64
 go_wp2_with fail
 go_ret
 exact ⟨rfl,oN⟩
end Go.Proofs.YthkfapcadhnaeaaGreatDoor

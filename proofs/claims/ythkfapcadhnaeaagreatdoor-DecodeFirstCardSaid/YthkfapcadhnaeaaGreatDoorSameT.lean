/- What sheaveref07.SameType computes. No condition. -/
import Derived.Test.YthkfapcadhnaeaaGreatDoorSameM
import Derived.StillTailTactics
import Derived.Deep.QuietTactic
import Derived.BigQuiet
set_option maxHeartbeats 8000000
namespace Go.Proofs.YthkfapcadhnaeaaGreatDoor
open Go.ChangeShapes Go.WideShapes Go.ChangeAt Go.RowKit
instance ao8:DecidableEq Mem:=fun x y => decidable_of_iff (qX x y=true) (RH x y)
theorem aiE (x y:Raw) (w:World):(Op.equalIn 10000 109 (ni x) (ni y)).run Tryz.prog w = .ok (decide (x=y)) w:=by
 obtain ⟨x0,x3⟩:=x
 obtain ⟨y0,y3⟩:=y
 have u0:=Tryz.underlying3
 have u2:=Tryz.underlying9
 have hS:Tryz.prog.underlying 109=some (.struct (Tryz.prog.fieldsOf 109)):=by kernel_rfl
 have hp:Tryz.prog.stoodInHeld 109=false:=by kernel_rfl
 rw [show (10000:Nat)=9999+1 from rfl,ni,ni,run_equalIn_agg w 9999 109 _ _ hS hp]
 simp only [Program.fieldsOf,Tryz.underlying109]
 have hb:=bytes_beq x3 y3
 go_simp
 by_cases h1:x0=y0 <;> by_cases h4:x3=y3 <;> simp [h1,h4]
theorem ag2 (x y:Raw):∀ W,(binOp .neq 109 (ni x) (ni y)).run Tryz.prog W = .ok (.bool (!decide (x=y))) W:=fun W => by
 rw [ni,ni,run_neq_struct,← ni,← ni,aiE];rfl
def jO (x y:aC):Bool:=decide (x.kind=y.kind∧x.name=y.name∧x.low=y.low∧x.high=y.high∧x.max=y.max∧x.key=y.key∧x.elem=y.elem∧x.opn=y.opn) && (decide (x.syms=y.syms) && decide (x.aj=y.aj))
set_option maxRecDepth 100000 in
theorem ab4 (x y:aC) (vs vm us um:Value) (w:World) (hx:eX w w.heap.size x vs vm) (hy:eX w w.heap.size y us um) :
  Calls Tryz.prog 119 #[aS x vs vm,aS y us um] w fun e w' => e = .returned (.bool (jO x y))∧Below w.heap.size w w':=by
 obtain ⟨A1,m1,A2,m2,rfl,rfl,-,-⟩:=hx.forms
 obtain ⟨B1,k1,B2,k2,rfl,rfl,-,-⟩:=hy.forms
 have HX:=Lib.hid hx
 have HY:=Lib.hid hy
 have hxl:=hx.lens
 have hyl:=hy.lens
 clear hx hy
 by_cases e0:x.kind=y.kind
 ·
  skip
  by_cases e1:x.name=y.name
  ·
   skip
   by_cases e2:x.low=y.low
   ·
    skip
    by_cases e3:x.high=y.high
    ·
     skip
     by_cases e4:x.max=y.max
     ·
      skip
      by_cases e5:x.key=y.key
      ·
       skip
       by_cases e6:x.elem=y.elem
       ·
        skip
        by_cases e7:x.opn=y.opn
        ·
         skip
         have jy:Hid (jO x y=(decide (x.syms=y.syms) && decide (x.aj=y.aj))):=by show _=_;unfold jO;rw [decide_eq_true ⟨e0,e1,e2,e3,e4,e5,e6,e7⟩];rfl
         simp only [aS,← e0,← e1,← e2,← e3,← e4,← e5,← e6,← e7]
         clear e0 e1 e2 e3 e4 e5 e6 e7
         by_cases ls:x.syms.length=y.syms.length
         ·
          have ts:((x.syms.length:Int) != (y.syms.length:Int))=false:=by simp [ls]
          have hsl2:(x.syms.length:Int)≤y.syms.length:=by omega
          have LS:=Lib.hid ls
          clear ls
          by_cases lm:x.aj.length=y.aj.length
          ·
           have tm:((x.aj.length:Int) != (y.aj.length:Int))=false:=by simp [lm]
           have asP:(x.aj.length:Int)≤y.aj.length:=by omega
           have LM:=Lib.hid lm
           clear lm
           go_enter Tryz.func119,Tryz.ntmps119
           go_upto_region 1 with fail
           generalize dJ:w.alloc _=wd2
           generalize jD:wd2.alloc _=wd4
           have ⟨hb1,X,Y⟩:=dN dJ jD
           clear dJ jD
           have hw6:=hb1
           clear hb1
           obtain ⟨aI,bI,bQ,bT,bW,dD,bK,bJ,bZ,bM⟩:=X.out.c10
           obtain ⟨kY,kZ,lg,lq,lu,nZ,mM,oh,ql,qm⟩:=Y.out.c10
           have HX0:=Lib.hid X.out
           have Jo:=Lib.hid Y.out
           have HB0:=Lib.hid hw6
           go_wp2_with fail
           clear X Y
           go_loopw [5] (fun i wr => ∃ k:Nat,k≤x.syms.length∧i = .int .i64 k∧x.syms.take k=y.syms.take k∧Has wr w.heap.size 69 #[.int .i64 x.kind,.string ⟨x.name.toArray⟩,.int .i64 x.low,.int .i64 x.high,.int .i64 x.max,.slice A1 x.syms.length m1,.slice A2 x.aj.length m2,.int .i64 x.key,.int .i64 x.elem,.bool x.opn]∧Has wr (w.heap.size+1) 69 #[.int .i64 x.kind,.string ⟨x.name.toArray⟩,.int .i64 x.low,.int .i64 x.high,.int .i64 x.max,.slice B1 y.syms.length k1,.slice B2 y.aj.length k2,.int .i64 x.key,.int .i64 x.elem,.bool x.opn]∧Below w.heap.size w wr) (fun i _ => x.syms.length - (intOf i).toNat)
           case atStart => exact ⟨0,by omega,rfl,rfl,HX0.out,Jo.out,HB0.out⟩
           case round =>
            clear HX0 Jo HB0
            obtain ⟨k,hk,rfl,hp,X,Y,hb⟩:=hrel
            have Hp:=Lib.hid hp
            have cx5:=X.cell 5
            have cy5:=Y.cell 5
            have cx6:=X.cell 6
            have cy6:=Y.cell 6
            simp only [FW] at cx5 cy5 cx6 cy6
            have IL:=Lib.hid X
            have IQ:=Lib.hid Y
            clear hp X Y
            by_cases hlt:k < x.syms.length
            ·
             obtain ⟨b,o,rfl,hbb,hcell⟩:=(HX.out.on hb).syms.at_ (by omega)
             have hlt':k < y.syms.length:=by have:=LS.out;omega
             obtain ⟨b',o',rfl,Qd,hcell'⟩:=(HY.out.on hb).syms.at_ (by omega)
             obtain ⟨hc0,hc1⟩:=nP hcell k hlt
             obtain ⟨hd0,hd1⟩:=nP hcell' k hlt'
             clear hcell hcell'
             have hi1:(k:Int) < x.syms.length:=by omega
             have hi2:(k:Int) < y.syms.length:=by omega
             have Hx:Hid (x.syms.take (k+1)=x.syms.take k ++ [x.syms[k]]):=List.take_succ_eq_append_getElem hlt
             have Hy:Hid (y.syms.take (k+1)=y.syms.take k ++ [y.syms[k]]):=List.take_succ_eq_append_getElem hlt'
             have Jl:Hid (x.syms[k]≠y.syms[k]→jO x y=false):=fun h => by
              rw [jy.out,decide_eq_false (p:=x.syms=y.syms) (fun e => h (by simp [e]))];rfl
             generalize x.syms[k]=r at *
             generalize y.syms[k]=s at *
             have hq:=ag2 r s
             have hg:Tryz.prog.eqGuardType Tryz.prog.depth 109=false:=by kernel_rfl
             by_cases he:r=s
             ·
              rw [decide_eq_true he] at hq
              have He:=Lib.hid he
              clear he
              simp only [ni,Bool.not_true] at hq
              go_wp2_with fail
              go_quiet (fail)
              go_wp2_with fail
              go_roundw
              case rel => exact ⟨k+1,by omega,by go_num,by rw [Hx.out,Hy.out,Hp.out,He.out],IL.out.drewN _,IQ.out.drewN _,below_drewN hb _⟩
              case measure => simp [intOf];omega
             rw [decide_eq_false he] at hq
             have He:=Lib.hid he
             clear he
             simp only [ni,Bool.not_false] at hq
             go_wp2_with fail
             go_quiet (fail)
             go_wp2_with fail
             go_ret
             exact ⟨au (Jl.out He.out).symm,below_drewN hb _⟩
            have e1:=Hp.out
            rw [List.take_of_length_le (by omega),List.take_of_length_le (by have:=LS.out;omega)] at e1
            have aiF:Hid (jO x y=decide (x.aj=y.aj)):=by show _=_;rw [jy.out,decide_eq_true e1,Bool.true_and]
            have HB1:=Lib.hid hb
            clear e1 Hp jy hb
            go_wp2_with fail
            clear cx5 cy5 cx6 cy6
            go_loopw [6] (fun i wr => ∃ k:Nat,k≤x.aj.length∧i = .int .i64 k∧x.aj.take k=y.aj.take k∧Has wr w.heap.size 69 #[.int .i64 x.kind,.string ⟨x.name.toArray⟩,.int .i64 x.low,.int .i64 x.high,.int .i64 x.max,.slice A1 x.syms.length m1,.slice A2 x.aj.length m2,.int .i64 x.key,.int .i64 x.elem,.bool x.opn]∧Has wr (w.heap.size+1) 69 #[.int .i64 x.kind,.string ⟨x.name.toArray⟩,.int .i64 x.low,.int .i64 x.high,.int .i64 x.max,.slice B1 y.syms.length k1,.slice B2 y.aj.length k2,.int .i64 x.key,.int .i64 x.elem,.bool x.opn]∧Below w.heap.size w wr) (fun i _ => x.aj.length - (intOf i).toNat)
            case atStart => exact ⟨0,by omega,rfl,rfl,IL.out,IQ.out,HB1.out⟩
            case round =>
             clear IL IQ HB1
             obtain ⟨k,hk,rfl,hp,X,Y,hb⟩:=hrel
             have Hp:=Lib.hid hp
             have cx6:=X.cell 6
             have cy6:=Y.cell 6
             simp only [FW] at cx6 cy6
             have IL:=Lib.hid X
             have IQ:=Lib.hid Y
             clear hp X Y
             by_cases hlt:k < x.aj.length
             ·
              obtain ⟨b,o,rfl,hbb,hel⟩:=(HX.out.on hb).aj.elem (by omega)
              have hlt':k < y.aj.length:=by have:=LM.out;omega
              obtain ⟨b',o',rfl,Qd,Jm⟩:=(HY.out.on hb).aj.elem (by omega)
              obtain ⟨vk,vi,vr,hcm,hma⟩:=hel k hlt
              obtain ⟨uk,ui,ur,hdm,hmb⟩:=Jm k hlt'
              have hi1:(k:Int) < x.aj.length:=by omega
              have hi2:(k:Int) < y.aj.length:=by omega
              have Hx:Hid (x.aj.take (k+1)=x.aj.take k ++ [x.aj[k]]):=List.take_succ_eq_append_getElem hlt
              have Hy:Hid (y.aj.take (k+1)=y.aj.take k ++ [y.aj[k]]):=List.take_succ_eq_append_getElem hlt'
              have Jl:Hid (x.aj[k]≠y.aj[k]→jO x y=false):=fun h => by
               rw [aiF.out,decide_eq_false (fun e => h (by simp [e]))]
              generalize x.aj[k]=r at *
              generalize y.aj[k]=s at *
              have HR:=Lib.hid hma.dflt
              have HS:=Lib.hid hmb.dflt
              obtain ⟨V1,v1,V2,v2,V3,v3,rfl,rfl,rfl,-,-,-⟩:=hma.dflt.forms
              obtain ⟨U1,u1,U2,u2,U3,u3,rfl,rfl,rfl,-,-,-⟩:=hmb.dflt.forms
              obtain ⟨c0,c1,c2,c3,c4,c5,c6,c7,c8,c9,c10,c11,c12⟩:=hcm
              obtain ⟨d0,d1,d2,d3,d4,d5,d6,d7,d8,d9,d10,d11,d12⟩:=hdm
              clear hel Jm hma hmb
              go_wp2_with fail
              go_still_tail 10,(by kernel_rfl)
              change wpList _ _ _ _ _ wr.drew
              have HRD:=Lib.hid (HR.out.on (w':=wr.drew) (Below.refl _ _).drew)
              have HSD:=Lib.hid (HS.out.on (w':=wr.drew) (Below.refl _ _).drew)
              have hbd:=hb.drew
              have HXd:=Lib.hid IL.out.drew
              have HYd:=Lib.hid IQ.out.drew
              clear hb c0 c1 c2 c3 c4 c5 c6 c7 c8 c9 c10 c11 c12 d0 d1 d2 d3 d4 d5 d6 d7 d8 d9 d10 d11 d12 HR HS IL IQ cx6 cy6
              generalize wr.drew=w1 at *
              go_wp2_with fail
              refine (acv r s _ _ _ _ _ _ _ HRD.out HSD.out).mono ?_
              rintro e w2 ⟨rfl,hb2⟩
              have yR:=hbd.trans (hb2.mono hbd.size)
              have QU:=Lib.hid (HXd.out.below hb2 HXd.out.here)
              have QV:=Lib.hid (HYd.out.below hb2 HYd.out.here)
              clear hb2 hbd HXd HYd HRD HSD
              cases hsm:qX r s with
              | true =>
               have He:=Lib.hid ((RH r s).1 hsm)
               clear hsm
               go_wp2_with fail
               go_roundw
               case rel => exact ⟨k+1,by omega,by go_num,by rw [Hx.out,Hy.out,Hp.out,He.out],QU.out,QV.out,yR⟩
               case measure => simp [intOf];omega
              | false =>
               have Hn:=Lib.hid (Jl.out (fun e => by rw [(RH r s).2 e] at hsm;cases hsm))
               clear hsm
               go_wp2_with fail
               go_ret
               exact ⟨au Hn.out.symm,yR⟩
             have e2:=Hp.out
             rw [List.take_of_length_le (by omega),List.take_of_length_le (by have:=LM.out;omega)] at e2
             have anE:Hid (jO x y=true):=by show _=_;rw [aiF.out,decide_eq_true e2]
             clear e2 Hp
             go_wp2_with fail
             go_ret
             exact ⟨au anE.out.symm,hb⟩
          have tm:((x.aj.length:Int) != (y.aj.length:Int))=true:=bne_iff_ne.2 (by omega)
          have Hno:Hid (jO x y=false):=by show _=_;rw [jy.out,decide_eq_false (p:=x.aj=y.aj) (fun h => lm (by rw [h])),Bool.and_false]
          go_enter Tryz.func119,Tryz.ntmps119
          go_upto_region 1 with fail
          generalize Bc:w.alloc _=uJ
          generalize jZ:uJ.alloc _=kE
          have ⟨hb7,X,Y⟩:=dN Bc jZ
          clear Bc jZ
          have jS:=hb7
          clear hb7
          obtain ⟨aI,bI,bQ,bT,bW,dD,bK,bJ,bZ,bM⟩:=X.out.c10
          obtain ⟨kY,kZ,lg,lq,lu,nZ,mM,oh,ql,qm⟩:=Y.out.c10
          go_wp2_with fail
          go_ret
          exact ⟨au Hno.out.symm,jS⟩
         have ts:((x.syms.length:Int) != (y.syms.length:Int))=true:=bne_iff_ne.2 (by omega)
         have Hno:Hid (jO x y=false):=by show _=_;rw [jy.out,decide_eq_false (p:=x.syms=y.syms) (fun h => ls (by rw [h])),Bool.false_and]
         go_enter Tryz.func119,Tryz.ntmps119
         go_upto_region 1 with fail
         generalize ng:w.alloc _=xP
         generalize mZ:xP.alloc _=qH
         have ⟨qL,X,Y⟩:=dN ng mZ
         clear ng mZ
         have sJ:=qL
         clear qL
         obtain ⟨aI,bI,bQ,bT,bW,dD,bK,bJ,bZ,bM⟩:=X.out.c10
         obtain ⟨kY,kZ,lg,lq,lu,nZ,mM,oh,ql,qm⟩:=Y.out.c10
         go_wp2_with fail
         go_ret
         exact ⟨au Hno.out.symm,sJ⟩
        have t7:(x.opn != y.opn)=true:=by simpa using e7
        have t7':(!(x.opn == y.opn))=true:=by simpa using e7
        have Hno:Hid (jO x y=false):=by show _=_;unfold jO;rw [decide_eq_false (fun h => e7 (by simp [h]))];rfl
        simp only [aS,← e0,← e1,← e2,← e3,← e4,← e5,← e6]
        clear e0 e1 e2 e3 e4 e5 e6
        go_enter Tryz.func119,Tryz.ntmps119
        go_upto_region 1 with fail
        generalize kD:w.alloc _=nS
        generalize mV:nS.alloc _=rC
        have ⟨pz,X,Y⟩:=dN kD mV
        clear kD mV
        have anF:=pz
        clear pz
        obtain ⟨aI,bI,bQ,bT,bW,dD,bK,bJ,bZ,bM⟩:=X.out.c10
        obtain ⟨kY,kZ,lg,lq,lu,nZ,mM,oh,ql,qm⟩:=Y.out.c10
        go_wp2_with fail
        go_ret
        exact ⟨au Hno.out.symm,anF⟩
       have t6:(x.elem != y.elem)=true:=by simpa using e6
       have Hno:Hid (jO x y=false):=by show _=_;unfold jO;rw [decide_eq_false (fun h => e6 (by simp [h]))];rfl
       simp only [aS,← e0,← e1,← e2,← e3,← e4,← e5]
       clear e0 e1 e2 e3 e4 e5
       go_enter Tryz.func119,Tryz.ntmps119
       go_upto_region 1 with fail
       generalize oJ:w.alloc _=qZ
       generalize uU:qZ.alloc _=zQ
       have ⟨pY,X,Y⟩:=dN oJ uU
       clear oJ uU
       have Wi:=pY
       clear pY
       obtain ⟨aI,bI,bQ,bT,bW,dD,bK,bJ,bZ,bM⟩:=X.out.c10
       obtain ⟨kY,kZ,lg,lq,lu,nZ,mM,oh,ql,qm⟩:=Y.out.c10
       go_wp2_with fail
       go_ret
       exact ⟨au Hno.out.symm,Wi⟩
      have t5:(x.key != y.key)=true:=by simpa using e5
      have Hno:Hid (jO x y=false):=by show _=_;unfold jO;rw [decide_eq_false (fun h => e5 (by simp [h]))];rfl
      simp only [aS,← e0,← e1,← e2,← e3,← e4]
      clear e0 e1 e2 e3 e4
      go_enter Tryz.func119,Tryz.ntmps119
      go_upto_region 1 with fail
      generalize DW:w.alloc _=zC
      generalize wR:zC.alloc _=tV
      have ⟨DI,X,Y⟩:=dN DW wR
      clear DW wR
      have anG:=DI
      clear DI
      obtain ⟨aI,bI,bQ,bT,bW,dD,bK,bJ,bZ,bM⟩:=X.out.c10
      obtain ⟨kY,kZ,lg,lq,lu,nZ,mM,oh,ql,qm⟩:=Y.out.c10
      go_wp2_with fail
      go_ret
      exact ⟨au Hno.out.symm,anG⟩
     have t4:(x.max != y.max)=true:=by simpa using e4
     have Hno:Hid (jO x y=false):=by show _=_;unfold jO;rw [decide_eq_false (fun h => e4 (by simp [h]))];rfl
     simp only [aS,← e0,← e1,← e2,← e3]
     clear e0 e1 e2 e3
     go_enter Tryz.func119,Tryz.ntmps119
     go_upto_region 1 with fail
     generalize vC:w.alloc _=sD
     generalize Fh:sD.alloc _=MG
     have ⟨Ac,X,Y⟩:=dN vC Fh
     clear vC Fh
     have anH:=Ac
     clear Ac
     obtain ⟨aI,bI,bQ,bT,bW,dD,bK,bJ,bZ,bM⟩:=X.out.c10
     obtain ⟨kY,kZ,lg,lq,lu,nZ,mM,oh,ql,qm⟩:=Y.out.c10
     go_wp2_with fail
     go_ret
     exact ⟨au Hno.out.symm,anH⟩
    have t3:(x.high != y.high)=true:=by simpa using e3
    have Hno:Hid (jO x y=false):=by show _=_;unfold jO;rw [decide_eq_false (fun h => e3 (by simp [h]))];rfl
    simp only [aS,← e0,← e1,← e2]
    clear e0 e1 e2
    go_enter Tryz.func119,Tryz.ntmps119
    go_upto_region 1 with fail
    generalize mF:w.alloc _=wI
    generalize nU:wI.alloc _=wF
    have ⟨xZ,X,Y⟩:=dN mF nU
    clear mF nU
    have anI:=xZ
    clear xZ
    obtain ⟨aI,bI,bQ,bT,bW,dD,bK,bJ,bZ,bM⟩:=X.out.c10
    obtain ⟨kY,kZ,lg,lq,lu,nZ,mM,oh,ql,qm⟩:=Y.out.c10
    go_wp2_with fail
    go_ret
    exact ⟨au Hno.out.symm,anI⟩
   have t2:(x.low != y.low)=true:=by simpa using e2
   have Hno:Hid (jO x y=false):=by show _=_;unfold jO;rw [decide_eq_false (fun h => e2 (by simp [h]))];rfl
   simp only [aS,← e0,← e1]
   clear e0 e1
   go_enter Tryz.func119,Tryz.ntmps119
   go_upto_region 1 with fail
   generalize qg:w.alloc _=Dp
   generalize qh:Dp.alloc _=xO
   have ⟨vK,X,Y⟩:=dN qg qh
   clear qg qh
   have Wn:=vK
   clear vK
   obtain ⟨aI,bI,bQ,bT,bW,dD,bK,bJ,bZ,bM⟩:=X.out.c10
   obtain ⟨kY,kZ,lg,lq,lu,nZ,mM,oh,ql,qm⟩:=Y.out.c10
   go_wp2_with fail
   go_ret
   exact ⟨au Hno.out.symm,Wn⟩
  have t1:(x.name != y.name)=true:=by simpa using e1
  have t1':(!(x.name == y.name))=true:=by simpa using e1
  have Hno:Hid (jO x y=false):=by show _=_;unfold jO;rw [decide_eq_false (fun h => e1 (by simp [h]))];rfl
  simp only [aS,← e0]
  clear e0
  go_enter Tryz.func119,Tryz.ntmps119
  go_upto_region 1 with fail
  generalize tK:w.alloc _=Bq
  generalize kH:Bq.alloc _=oL
  have ⟨IG,X,Y⟩:=dN tK kH
  clear tK kH
  have jc:=IG
  clear IG
  obtain ⟨aI,bI,bQ,bT,bW,dD,bK,bJ,bZ,bM⟩:=X.out.c10
  obtain ⟨kY,kZ,lg,lq,lu,nZ,mM,oh,ql,qm⟩:=Y.out.c10
  go_wp2_with fail
  go_ret
  exact ⟨au Hno.out.symm,jc⟩
 have t0:(x.kind != y.kind)=true:=by simpa using e0
 have Hno:Hid (jO x y=false):=by show _=_;unfold jO;rw [decide_eq_false (fun h => e0 (by simp [h]))];rfl
 go_enter Tryz.func119,Tryz.ntmps119
 go_upto_region 1 with fail
 generalize nV:w.alloc _=wG
 generalize Ah:wG.alloc _=Qp
 have ⟨pF,X,Y⟩:=dN nV Ah
 clear nV Ah
 have anJ:=pF
 clear pF
 obtain ⟨aI,bI,bQ,bT,bW,dD,bK,bJ,bZ,bM⟩:=X.out.c10
 obtain ⟨kY,kZ,lg,lq,lu,nZ,mM,oh,ql,qm⟩:=Y.out.c10
 go_wp2_with fail
 go_ret
 exact ⟨au Hno.out.symm,anJ⟩
end Go.Proofs.YthkfapcadhnaeaaGreatDoor

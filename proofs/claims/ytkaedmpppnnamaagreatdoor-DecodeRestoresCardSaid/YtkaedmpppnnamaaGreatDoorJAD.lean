/- What sheaveref07.SameType computes, and what else is used with it. No condition. -/
import Derived.Test.YtkaedmpppnnamaaGreatDoorJAC
import Derived.StillTailTactics
import Derived.Deep.QuietTactic
import Derived.BigQuiet
import Derived.Test.YtkaedmpppnnamaaGreatDoorHAG
set_option maxHeartbeats 8000000
set_option maxRecDepth 100000
namespace Go.Proofs.YtkaedmpppnnamaaGreatDoor
open ChangeShapes WideShapes ChangeAt RowKit
instance aoI:DecidableEq Mem:=fun x y => decidable_of_iff (xq x y=true) (MG x y)
theorem ajm (x y:Raw) (w:World):(Op.equalIn 10000 86 (rU x) (rU y)).run Tryz.prog w = .ok (decide (x=y)) w:=by
 obtain ⟨x0,x3⟩:=x;obtain ⟨y0,y3⟩:=y;have u0:=Tryz.underlying3;have u2:=Tryz.underlying9;have hS:Tryz.prog.underlying 86=some (.struct (Tryz.prog.fieldsOf 86)):=by kernel_rfl
 have hp:Tryz.prog.stoodInHeld 86=false:=by kernel_rfl
 rw [show (10000:Nat)=9999+1 from rfl,rU,rU,run_equalIn_agg w 9999 86 _ _ hS hp];simp only [Program.fieldsOf,Tryz.underlying86];exact zHe
theorem ahf (x y:Raw):∀ W,(binOp .neq 86 (rU x) (rU y)).run Tryz.prog W = .ok (.bool (!decide (x=y))) W:=fun W => by
 rw [rU,rU,run_neq_struct,<- rU,<- rU,ajm];rfl
def oN (x y:ay):Bool:=decide (x.kind=y.kind/\x.name=y.name/\x.low=y.low/\x.high=y.high/\x.max=y.max/\x.key=y.key/\x.elem=y.elem/\x.opn=y.opn) && (decide (x.syms=y.syms) && decide (x.ah=y.ah))
theorem zCc {p:Prop} (h:p:=by
 go_enter Tryz.func94,Tryz.ntmps94
 go_upto_region 1 with fail;refine jg (fun wd2 hb1 X Y => ?_);have hw3:=hb1;clear hb1;obtain ⟨aK,bJ,bY,bZ,dL,eX,bU,dD,dM,dU⟩:=X.out.c10;obtain ⟨kT,kU,kV,kW,kX,mD,lJ,mF,wS,wU⟩:=Y.out.c10;go_wp2_with fail;go_ret;exact ⟨au Hno.out.symm,hw3⟩):p:=h
theorem acR (x y:ay) (vs vm us um:Value) (w:World) (hx:jc w w.heap.size x vs vm) (hy:jc w w.heap.size y us um) :
  Calls Tryz.prog 94 #[dA x vs vm,dA y us um] w (RT w (.bool (oN x y))):=by
 obtain ⟨A1,m1,A2,m2,rfl,rfl,-,-⟩:=hx.forms;obtain ⟨B1,k1,B2,k2,rfl,rfl,-,-⟩:=hy.forms;have HX:=hiQ hx;have HY:=hiQ hy;have hxl:=hx.lens;have hyl:=hy.lens;clear hx hy;by_cases e0:x.kind=y.kind
 .
  skip
  by_cases e1:x.name=y.name
  .
   skip
   by_cases e2:x.low=y.low
   .
    skip
    by_cases e3:x.high=y.high
    .
     skip
     by_cases e4:x.max=y.max
     .
      skip
      by_cases e5:x.key=y.key
      .
       skip
       by_cases e6:x.elem=y.elem
       .
        skip
        by_cases e7:x.opn=y.opn
        .
         skip
         have ny:Hid (oN x y=(decide (x.syms=y.syms) && decide (x.ah=y.ah))):=by show _=_;unfold oN;rw [n_ ⟨e0,e1,e2,e3,e4,e5,e6,e7⟩];rfl
         simp only [dA,<- e0,<- e1,<- e2,<- e3,<- e4,<- e5,<- e6,<- e7];clear e0 e1 e2 e3 e4 e5 e6 e7;by_cases ls:x.syms.length=y.syms.length
         .
          have ts:((x.syms.length:Int) != (y.syms.length:Int))=false:=by simp [ls]
          have hsl2:(x.syms.length:Int)<=y.syms.length:=by omega
          have LS:=hiQ ls;clear ls;by_cases lm:x.ah.length=y.ah.length
          .
           have tm:((x.ah.length:Int) != (y.ah.length:Int))=false:=by simp [lm]
           have ap7:(x.ah.length:Int)<=y.ah.length:=by omega
           have LM:=hiQ lm;clear lm;go_enter Tryz.func94,Tryz.ntmps94
           go_upto_region 1 with fail;refine jg (fun wd2 hb1 X Y => ?_);have hw3:=hb1;clear hb1;obtain ⟨aK,bJ,bY,bZ,dL,eX,bU,dD,dM,dU⟩:=X.out.c10;obtain ⟨kT,kU,kV,kW,kX,mD,lJ,mF,wS,wU⟩:=Y.out.c10;have HX0:=hiQ X.out;have Gz:=hiQ Y.out;have HB0:=hiQ hw3;go_wp2_with fail;clear X Y;go_loopw [5] (fun i wr => ∃ k:Nat,k<=x.syms.length/\i = .int .i64 k/\x.syms.take k=y.syms.take k/\Has wr w.heap.size 72 #[.int .i64 x.kind,.string ⟨x.name.toArray⟩,.int .i64 x.low,.int .i64 x.high,.int .i64 x.max,.slice A1 x.syms.length m1,.slice A2 x.ah.length m2,.int .i64 x.key,.int .i64 x.elem,.bool x.opn]/\Has wr (w.heap.size+1) 72 #[.int .i64 x.kind,.string ⟨x.name.toArray⟩,.int .i64 x.low,.int .i64 x.high,.int .i64 x.max,.slice B1 y.syms.length k1,.slice B2 y.ah.length k2,.int .i64 x.key,.int .i64 x.elem,.bool x.opn]/\Below w.heap.size w wr) (fun i _ => x.syms.length - (intOf i).toNat)
           case atStart => exact ⟨0,by omega,rfl,rfl,HX0.out,Gz.out,HB0.out⟩
           case round =>
            clear HX0 Gz HB0;obtain ⟨k,hk,rfl,hp,X,Y,hb⟩:=hrel;have Hp:=hiQ hp;have cx5:=X.cell 5;have cy5:=Y.cell 5;have cx6:=X.cell 6;have cy6:=Y.cell 6;simp only [qI] at cx5 cy5 cx6 cy6;have Dt:=hiQ X;have J4:=hiQ Y;clear hp X Y;by_cases hlt:k < x.syms.length
            .
             obtain ⟨b,o,rfl,hbb,hcell⟩:=(HX.out.on hb).syms.at_ (by omega);have hlt':k < y.syms.length:=by have:=LS.out;omega
             obtain ⟨b',o',rfl,SE,hcell'⟩:=(HY.out.on hb).syms.at_ (by omega);obtain ⟨hc0,hc1⟩:=qy hcell k hlt;obtain ⟨hd0,hd1⟩:=qy hcell' k hlt';clear hcell hcell';have hi1:(k:Int) < x.syms.length:=by omega
             have hi2:(k:Int) < y.syms.length:=by omega
             have Hx:Hid (x.syms.take (k+1)=x.syms.take k ++ [x.syms[k]]):=vK hlt;have Hy:Hid (y.syms.take (k+1)=y.syms.take k ++ [y.syms[k]]):=vK hlt';have C9:Hid (x.syms[k]≠y.syms[k]->oN x y=false):=fun h => by
              rw [ny.out,f_ (p:=x.syms=y.syms) (fun e => h (by simp [e]))];rfl
             generalize x.syms[k]=r at *;generalize y.syms[k]=s at *;have hq:=ahf r s;have hg:Tryz.prog.eqGuardType Tryz.prog.depth 86=false:=by kernel_rfl
             by_cases he:r=s
             .
              rw [n_ he] at hq;have He:=hiQ he;clear he;simp only [rU,Uu] at hq;go_wp2_with fail;go_quiet (fail)
              go_wp2_with fail;go_roundw
              case rel => exact ⟨k+1,by omega,by go_num,by rw [Hx.out,Hy.out,Hp.out,He.out],Dt.out.drewN _,J4.out.drewN _,below_drewN hb _⟩
              case measure => simp [intOf];omega
             rw [f_ he] at hq;have He:=hiQ he;clear he;simp only [rU,QI] at hq;go_wp2_with fail;go_quiet (fail)
             go_wp2_with fail;go_ret;exact ⟨au (C9.out He.out).symm,below_drewN hb _⟩
            have e1:=Hp.out;rw [yJ (by omega),yJ (by have:=LS.out;omega)] at e1;have ajn:Hid (oN x y=decide (x.ah=y.ah)):=by show _=_;rw [ny.out,n_ e1,CX]
            have HB1:=hiQ hb;clear e1 Hp ny hb;go_wp2_with fail;clear cx5 cy5 cx6 cy6;go_loopw [6] (fun i wr => ∃ k:Nat,k<=x.ah.length/\i = .int .i64 k/\x.ah.take k=y.ah.take k/\Has wr w.heap.size 72 #[.int .i64 x.kind,.string ⟨x.name.toArray⟩,.int .i64 x.low,.int .i64 x.high,.int .i64 x.max,.slice A1 x.syms.length m1,.slice A2 x.ah.length m2,.int .i64 x.key,.int .i64 x.elem,.bool x.opn]/\Has wr (w.heap.size+1) 72 #[.int .i64 x.kind,.string ⟨x.name.toArray⟩,.int .i64 x.low,.int .i64 x.high,.int .i64 x.max,.slice B1 y.syms.length k1,.slice B2 y.ah.length k2,.int .i64 x.key,.int .i64 x.elem,.bool x.opn]/\Below w.heap.size w wr) (fun i _ => x.ah.length - (intOf i).toNat)
            case atStart => exact ⟨0,by omega,rfl,rfl,Dt.out,J4.out,HB1.out⟩
            case round =>
             clear Dt J4 HB1;obtain ⟨k,hk,rfl,hp,X,Y,hb⟩:=hrel;have Hp:=hiQ hp;have cx6:=X.cell 6;have cy6:=Y.cell 6;simp only [qI] at cx6 cy6;have Dt:=hiQ X;have J4:=hiQ Y;clear hp X Y;by_cases hlt:k < x.ah.length
             .
              obtain ⟨b,o,rfl,hbb,hel⟩:=(HX.out.on hb).ah.elem (by omega);have hlt':k < y.ah.length:=by have:=LM.out;omega
              obtain ⟨b',o',rfl,SE,KO⟩:=(HY.out.on hb).ah.elem (by omega);obtain ⟨vk,vi,vr,hcm,hma⟩:=hel k hlt;obtain ⟨uk,ui,ur,hdm,hmb⟩:=KO k hlt';have hi1:(k:Int) < x.ah.length:=by omega
              have hi2:(k:Int) < y.ah.length:=by omega
              have Hx:Hid (x.ah.take (k+1)=x.ah.take k ++ [x.ah[k]]):=vK hlt;have Hy:Hid (y.ah.take (k+1)=y.ah.take k ++ [y.ah[k]]):=vK hlt';have C9:Hid (x.ah[k]≠y.ah[k]->oN x y=false):=fun h => by
               rw [ajn.out,f_ (fun e => h (by simp [e]))]
              generalize x.ah[k]=r at *;generalize y.ah[k]=s at *;have HR:=hiQ hma.dflt;have HS:=hiQ hmb.dflt;obtain ⟨V1,v1,V2,v2,V3,v3,rfl,rfl,rfl,-,-,-⟩:=hma.dflt.forms;obtain ⟨U1,u1,U2,u2,U3,u3,rfl,rfl,rfl,-,-,-⟩:=hmb.dflt.forms;obtain ⟨c0,c1,c2,c3,c4,c5,c6,c7,c8,c9,c10,c11,c12⟩:=hcm;obtain ⟨d0,d1,d2,d3,d4,d5,d6,d7,d8,d9,d10,d11,d12⟩:=hdm;clear hel KO hma hmb;go_wp2_with fail;go_still_tail 10,(by kernel_rfl)
              change wpList _ _ _ _ _ wr.drew
              have HRD:=hiQ (HR.out.on (w':=wr.drew) (g_ _ _).drew);have HSD:=hiQ (HS.out.on (w':=wr.drew) (g_ _ _).drew);have hbd:=hb.drew;have HXd:=hiQ Dt.out.drew;have HYd:=hiQ J4.out.drew;clear hb c0 c1 c2 c3 c4 c5 c6 c7 c8 c9 c10 c11 c12 d0 d1 d2 d3 d4 d5 d6 d7 d8 d9 d10 d11 d12 HR HS Dt J4 cx6 cy6;generalize wr.drew=w1 at *;go_wp2_with fail;refine (acQ r s _ _ _ _ _ _ _ HRD.out HSD.out).mono ?_;rintro e w2 ⟨rfl,hb2⟩;have Cm:=hbd.trans (hb2.mono hbd.size);have Ua:=hiQ (HXd.out.below hb2 HXd.out.here);have Oi:=hiQ (HYd.out.below hb2 HYd.out.here);clear hb2 hbd HXd HYd HRD HSD;cases hsm:xq r s with
              | true =>
               have He:=hiQ ((MG r s).1 hsm);clear hsm;go_wp2_with fail;go_roundw
               case rel => exact ⟨k+1,by omega,by go_num,by rw [Hx.out,Hy.out,Hp.out,He.out],Ua.out,Oi.out,Cm⟩
               case measure => simp [intOf];omega
              | false =>
               have Hn:=hiQ (C9.out (fun e => by rw [(MG r s).2 e] at hsm;cases hsm));clear hsm;go_wp2_with fail;go_ret;exact ⟨au Hn.out.symm,Cm⟩
             have e2:=Hp.out;rw [yJ (by omega),yJ (by have:=LM.out;omega)] at e2;have ana:Hid (oN x y=true):=by show _=_;rw [ajn.out,n_ e2]
             clear e2 Hp;go_wp2_with fail;go_ret;exact ⟨au ana.out.symm,hb⟩
          have tm:((x.ah.length:Int) != (y.ah.length:Int))=true:=TM.2 (by omega);have Hno:Hid (oN x y=false):=by show _=_;rw [ny.out,f_ (p:=x.ah=y.ah) (fun h => lm (by rw [h])),Bool.and_false]
          exact zCc
         have ts:((x.syms.length:Int) != (y.syms.length:Int))=true:=TM.2 (by omega);have Hno:Hid (oN x y=false):=by show _=_;rw [ny.out,f_ (p:=x.syms=y.syms) (fun h => ls (by rw [h])),QE]
         exact zCc
        have t7:(x.opn != y.opn)=true:=by simpa using e7
        have t7':(!(x.opn == y.opn))=true:=by simpa using e7
        have Hno:Hid (oN x y=false):=by show _=_;unfold oN;rw [f_ (fun h => e7 (by simp [h]))];rfl
        simp only [dA,<- e0,<- e1,<- e2,<- e3,<- e4,<- e5,<- e6];clear e0 e1 e2 e3 e4 e5 e6;exact zCc
       have t6:(x.elem != y.elem)=true:=by simpa using e6
       have Hno:Hid (oN x y=false):=by show _=_;unfold oN;rw [f_ (fun h => e6 (by simp [h]))];rfl
       simp only [dA,<- e0,<- e1,<- e2,<- e3,<- e4,<- e5];clear e0 e1 e2 e3 e4 e5;exact zCc
      have t5:(x.key != y.key)=true:=by simpa using e5
      have Hno:Hid (oN x y=false):=by show _=_;unfold oN;rw [f_ (fun h => e5 (by simp [h]))];rfl
      simp only [dA,<- e0,<- e1,<- e2,<- e3,<- e4];clear e0 e1 e2 e3 e4;exact zCc
     have t4:(x.max != y.max)=true:=by simpa using e4
     have Hno:Hid (oN x y=false):=by show _=_;unfold oN;rw [f_ (fun h => e4 (by simp [h]))];rfl
     simp only [dA,<- e0,<- e1,<- e2,<- e3];clear e0 e1 e2 e3;exact zCc
    have t3:(x.high != y.high)=true:=by simpa using e3
    have Hno:Hid (oN x y=false):=by show _=_;unfold oN;rw [f_ (fun h => e3 (by simp [h]))];rfl
    simp only [dA,<- e0,<- e1,<- e2];clear e0 e1 e2;exact zCc
   have t2:(x.low != y.low)=true:=by simpa using e2
   have Hno:Hid (oN x y=false):=by show _=_;unfold oN;rw [f_ (fun h => e2 (by simp [h]))];rfl
   simp only [dA,<- e0,<- e1];clear e0 e1;exact zCc
  have t1:(x.name != y.name)=true:=by simpa using e1
  have t1':(!(x.name == y.name))=true:=by simpa using e1
  have Hno:Hid (oN x y=false):=by show _=_;unfold oN;rw [f_ (fun h => e1 (by simp [h]))];rfl
  simp only [dA,<- e0];clear e0;exact zCc
 have t0:(x.kind != y.kind)=true:=by simpa using e0
 have Hno:Hid (oN x y=false):=by show _=_;unfold oN;rw [f_ (fun h => e0 (by simp [h]))];rfl
 exact zCc
def wG (x:ay):Bool :=
 if x.kind=2 then decide (x.low<=x.high)
 else if x.kind=3 then decide (0<=x.max) && decide (x.max<=200)
 else if x.kind=4 then wu x.syms
 else if x.kind=5 then jL true x.ah
 else if x.kind=6 then jL false x.ah
 else if x.kind=7\/x.kind=8 then decide (0<=x.max) && decide (x.max<=50)
 else true
def ownB (x:ay):Bool:=decide (1<=x.kind/\x.kind<=9) && (oN x (jM x) && ((!rY x.kind || nameB x.name) && wG x))
theorem aat (x:ay) (h:iP x.kind):oN x (jM x)=jy (gZ x) iC:=by
 rw [Bool.eq_iff_iff];unfold oN jy;rcases vF h with k | k | k | k | k | k | k | k | k <;>
  simp [jM,gZ,iC,k,List.length_eq_zero_iff] <;> (try constructor) <;> (try (intro hh;simp_all;done)) <;> (try (intro hh;grind))
theorem aeY (x:ay) (k:x.kind=5):jL true x.ah=iQ x:=by
 unfold jL iQ nP;rw [n_ k,f_ (show ¬ x.kind=6 by omega)];rw [Bool.eq_iff_iff];simp [and_assoc]
theorem aeZ (x:ay) (k:x.kind=6):jL false x.ah=iQ x:=by
 unfold jL iQ nP;rw [f_ (show ¬ x.kind=5 by omega),n_ k];rw [Bool.eq_iff_iff];simp [and_assoc];intro _
 constructor
 . rintro ⟨h1,h2,h3⟩;exact ⟨by omega,h1,h2⟩
 rintro ⟨h1,h2,h3⟩;exact ⟨h2,h3,by omega⟩
theorem X6 (x:ay):ownB x=dY x:=by
 unfold ownB dY;by_cases h:1<=x.kind/\x.kind<=9
 .
  rw [n_ h,CX,CX,aat x h,Bool.and_comm]
  congr 1
  unfold wG rD rY;rcases vF h with k | k | k | k | k | k | k | k | k <;> simp [k]
  . rw [aeY x k]
  rw [aeZ x k]
 rw [f_ h];rfl
theorem X7 (w:World) (B:Nat):rW w B (.slice none 0 0) []:=⟨fun _ => [],⟨none,0,rfl,b_ _,.inl rfl⟩,fun i h => by simp at h⟩
theorem akv:I64 0:=by simp [I64]
theorem X8 {w:World} {B:Nat} {x:ay} {vs vm:Value} (h:jc w B x vs vm) (hk:iP x.kind):jc w B (jM x) (lF x vs) (lG x vm):=by
 obtain ⟨⟨h1,h2,h3,h4,h5,h6⟩,hn,⟨hl1,hl2⟩,hsi,hs,hm⟩:=h;have n2:=Rd.nil_ w B 2;have nm:=X7 w B;have z:=akv;unfold jM lF lG;rcases vF hk with k | k | k | k | k | k | k | k | k <;> simp only [k] <;> rw [k] at h1 <;>
  exact ⟨⟨by first | assumption | exact h1,by first | exact h2 | exact z,by first | exact h3 | exact z,by first | exact h4 | exact z,by first | exact h5 | exact z,by first | exact h6 | exact z⟩,
   by first | exact hn | simp [iC],⟨by first | exact hl1 | simp [iC],by first | exact hl2 | simp [iC]⟩,by first | exact hsi | simp [iC],by first | exact hs | exact n2,by first | exact hm | exact nm⟩
theorem Rq (x:ay) (b:Bool) (h:ownB x=b):dY x=b:=by rw [<- X6];exact h
theorem zAn {p:Prop} (h:p:=by exact ⟨T.out.cell 0,⟨T.out.cell 1,⟨T.out.cell 2,⟨T.out.cell 3,⟨T.out.cell 4,⟨T.out.cell 5,⟨T.out.cell 6,⟨T.out.cell 7,⟨T.out.cell 8,T.out.cell 9⟩⟩⟩⟩⟩⟩⟩⟩⟩):p:=h
theorem zCy {p:Prop} (h:p:=by
 refine tk 14 ?_;refine tk 15 ?_;refine tks 16 ?_;simp only [aF];refine tks 17 ?_;simp only [aF];refine tks 18 ?_;simp only [aF];refine tks 19 ?_;simp only [aF];refine tks 20 ?_;simp only [aF];refine tks 21 ?_;simp only [aF];refine tks 22 ?_;simp only [aF];refine tks 23 ?_;simp only [aF];refine tks 24 ?_;simp only [aF];refine tk 25 ?_;refine Dl (by kernel_rfl) ?_ _;(try clear hHeld);go_wp2_with fail;go_ret;exact ⟨au Ho.out.symm,hw3⟩):p:=h
theorem zDb {p:Prop} (h:p:=by
 go_wp2_with fail;go_ret;exact ⟨au (EG.out.trans vO.out).symm,hw3⟩):p:=h
theorem zJi {p:Prop} (h:p:=by
 rw [d0,d1] at vO;have aC:=T.out.e0;have aW:=T.out.e4;exact zDb):p:=h
theorem zHm {p:Prop} (h:p:=by
 have vO:Hid (wG x=(decide (0<=x.max) && decide (x.max<=50))):=by show _=_;unfold wG;simp [h]
 by_cases h0:0<=x.max
 .
  have d0:decide (0<=x.max)=true:=n_ h0;by_cases h1:x.max<=50
  .
   have d1:decide (x.max<=50)=true:=n_ h1;exact zJi
  have d1:decide (x.max<=50)=false:=f_ h1;exact zJi
 have d0:decide (0<=x.max)=false:=f_ h0;rw [d0] at vO;have aC:=T.out.e0;have aW:=T.out.e4;exact zDb):p:=h
theorem zIy {p:Prop} (h:p:=by
 replace T:=b1 T o7;replace hw3:=dT hw3 o7;clear o7;exact zDb):p:=h
theorem ae0 (x:ay) (A1 A2:Option Addr) (c1 c2:Nat) (w:World) (MH:iP x.kind) (ht:jc w w.heap.size x (.slice A1 x.syms.length c1) (.slice A2 x.ah.length c2)) :
  Calls Tryz.prog 72 #[dA x (.slice A1 x.syms.length c1) (.slice A2 x.ah.length c2)] w (RT w (.bool (dY x))):=by
 have HP:=hiQ fun W => acP x (.slice A1 x.syms.length c1) (.slice A2 x.ah.length c2) W MH ⟨_,_,rfl⟩ ⟨_,_,rfl⟩;have hs:=fun W hW => acR x (jM x) _ _ _ _ W (ht.on (w':=W) hW) (X8 (ht.on (w':=W) hW) MH);have hn:=fun W => JF x.kind W;have HNM:=hiQ fun W => D5 x.name W;have hob:ownB x=(oN x (jM x) && ((!rY x.kind || nameB x.name) && wG x)):=by unfold ownB;rw [n_ (by unfold iP at MH;exact MH)];rfl
 have d1:decide (x.kind < 1)=false:=f_ (by unfold iP at MH;omega);have d9:decide (9 < x.kind)=false:=f_ (by unfold iP at MH;omega);have HT:=hiQ ht;have HKI:=hiQ (vF MH);clear ht MH;obtain ⟨nk,hnk⟩ : ∃ nk,rY x.kind=nk:=⟨_,rfl⟩
 simp only [hnk] at hn hob;generalize oN x (jM x)=st at *;have HS:=hiQ hs;have HN:=hiQ hn;have II:=hiQ hnk;clear hs hn hnk;cases st with
 | false =>
  have Ho:Hid (dY x=false):=by show _=_;exact Rq x _ (by rw [hob];rfl)
  clear hob;go_enter Tryz.func72,Tryz.ntmps72
  go_upto_region 1 with fail;refine aO (fun wd2 hb1 T => ?_);have hw3:=hb1;clear hb1;obtain ⟨aC,bH,bQ,acX,aW,bP,bf,bF,aV,aJ⟩:=T.out.c10;refine t_ (S:=(fun w' => w'.cell? ⟨w.heap.size,0,none⟩=some (.int .i64 x.kind)/\w'.cell? ⟨w.heap.size,1,none⟩=some (.string ⟨x.name.toArray⟩)/\w'.cell? ⟨w.heap.size,2,none⟩=some (.int .i64 x.low)/\w'.cell? ⟨w.heap.size,3,none⟩=some (.int .i64 x.high)/\w'.cell? ⟨w.heap.size,4,none⟩=some (.int .i64 x.max)/\w'.cell? ⟨w.heap.size,5,none⟩=some (.slice A1 x.syms.length c1)/\w'.cell? ⟨w.heap.size,6,none⟩=some (.slice A2 x.ah.length c2)/\w'.cell? ⟨w.heap.size,7,none⟩=some (.int .i64 x.key)/\w'.cell? ⟨w.heap.size,8,none⟩=some (.int .i64 x.elem)/\w'.cell? ⟨w.heap.size,9,none⟩=some (.bool x.opn))) (by kernel_rfl) ⟨aC,bH,bQ,acX,aW,bP,bf,bF,aV,aJ⟩ (fun hHeld => ?_);clear aC bH bQ acX aW bP bf bF aV aJ;have hb4:Below wd2.heap.size wd2 (wd2.drew):=(g_ _ _).drew;replace T:=b1 T hb4;replace hw3:=dT hw3 hb4;clear hb4;generalize wd2.drew=fG at *;refine tk 0 ?_;refine tk 1 ?_;refine tk 2 ?_;refine tk 3 ?_;refine tk 4 ?_;refine tk 5 ?_;refine tk 6 ?_;refine tk 7 ?_;refine tk 8 ?_;refine tk 9 ?_;refine tk 10 ?_;refine iE 11 fun K hK => ?_;go_simp;((with_reducible refine (HP.out _).mono ?_);rintro e wL ⟨rfl,hb7⟩);replace T:=b1 T hb7;replace hw3:=dT hw3 hb7;clear hb7;(try clear hHeld);refine hK.out _ _ zAn (fun hHeld => ?_);clear hK K;refine iE 12 fun K hK => ?_;go_simp;((with_reducible refine (HS.out _ hw3).mono ?_);rintro e qP ⟨rfl,zU⟩);replace T:=b1 T zU
  replace hw3:=dT hw3 zU;clear zU;(try clear hHeld);refine hK.out _ _ zAn (fun hHeld => ?_);clear hK K;refine tk 13 ?_;exact zCy
 | true =>
  rw [CX] at hob;cases nk with
  | false =>
   have EG:Hid (dY x=wG x):=by show _=_;exact Rq x _ (by rw [hob];rfl)
   clear hob;go_enter Tryz.func72,Tryz.ntmps72
   go_upto_region 1 with fail;refine aO (fun wd2 hb1 T => ?_);have hw3:=hb1;clear hb1;obtain ⟨aC,bH,bQ,acX,aW,bP,bf,bF,aV,aJ⟩:=T.out.c10;refine t_ (S:=(fun w' => w'.cell? ⟨w.heap.size,0,none⟩=some (.int .i64 x.kind)/\w'.cell? ⟨w.heap.size,1,none⟩=some (.string ⟨x.name.toArray⟩)/\w'.cell? ⟨w.heap.size,2,none⟩=some (.int .i64 x.low)/\w'.cell? ⟨w.heap.size,3,none⟩=some (.int .i64 x.high)/\w'.cell? ⟨w.heap.size,4,none⟩=some (.int .i64 x.max)/\w'.cell? ⟨w.heap.size,5,none⟩=some (.slice A1 x.syms.length c1)/\w'.cell? ⟨w.heap.size,6,none⟩=some (.slice A2 x.ah.length c2)/\w'.cell? ⟨w.heap.size,7,none⟩=some (.int .i64 x.key)/\w'.cell? ⟨w.heap.size,8,none⟩=some (.int .i64 x.elem)/\w'.cell? ⟨w.heap.size,9,none⟩=some (.bool x.opn))) (by kernel_rfl) ⟨aC,bH,bQ,acX,aW,bP,bf,bF,aV,aJ⟩ (fun hHeld => ?_);clear aC bH bQ acX aW bP bf bF aV aJ;have hb4:Below wd2.heap.size wd2 (wd2.drew):=(g_ _ _).drew;replace T:=b1 T hb4;replace hw3:=dT hw3 hb4;clear hb4;generalize wd2.drew=fG at *;refine tk 0 ?_;refine tk 1 ?_;refine tk 2 ?_;refine tk 3 ?_;refine tk 4 ?_;refine tk 5 ?_;refine tk 6 ?_;refine tk 7 ?_;refine tk 8 ?_;refine tk 9 ?_;refine tk 10 ?_;refine iE 11 fun K hK => ?_;go_simp;((with_reducible refine (HP.out _).mono ?_);rintro e wL ⟨rfl,hb7⟩);replace T:=b1 T hb7;replace hw3:=dT hw3 hb7;clear hb7;(try clear hHeld);refine hK.out _ _ zAn (fun hHeld => ?_);clear hK K;refine iE 12 fun K hK => ?_;go_simp;((with_reducible refine (HS.out _ hw3).mono ?_);rintro e qP ⟨rfl,zU⟩);replace T:=b1 T zU
   replace hw3:=dT hw3 zU;clear zU;(try clear hHeld);refine hK.out _ _ zAn (fun hHeld => ?_);clear hK K;refine tk 13 ?_;refine tk 14 ?_;refine tk 15 ?_;refine tk 16 ?_;refine tk 17 ?_;refine iE 18 fun K hK => ?_;go_simp;((with_reducible refine (HN.out _).mono ?_);rintro e kL ⟨rfl,rfl⟩);(try clear hHeld);refine hK.out _ _ zAn (fun hHeld => ?_);clear hK K;refine tk 19 ?_;refine tks 20 ?_;simp only [aF];refine tks 21 ?_;simp only [aF];refine tks 22 ?_;simp only [aF];refine tks 23 ?_;simp only [aF];refine tk 24 ?_;refine tk 25 ?_;refine Dl (by kernel_rfl) ?_ _;(try clear hHeld);have hkc:=HKI.out;rcases hkc with h | h | h | h | h | h | h | h | h
   .
    have vO:Hid (wG x=true):=by show _=_;unfold wG;simp [h]
    have aC:=T.out.e0;exact zDb
   .
    have vO:Hid (wG x=decide (x.low<=x.high)):=by show _=_;unfold wG;simp [h]
    obtain ⟨aC,-,bQ,acX,-,-,-,-,-,-⟩:=T.out.c10;exact zDb
   .
    skip
    have vO:Hid (wG x=(decide (0<=x.max) && decide (x.max<=200))):=by show _=_;unfold wG;simp [h]
    by_cases h0:0<=x.max
    .
     have d0:decide (0<=x.max)=true:=n_ h0;by_cases h1:x.max<=200
     .
      have d1:decide (x.max<=200)=true:=n_ h1;exact zJi
     have d1:decide (x.max<=200)=false:=f_ h1;exact zJi
    have d0:decide (0<=x.max)=false:=f_ h0;rw [d0] at vO;have aC:=T.out.e0;have aW:=T.out.e4;exact zDb
   . have:=II.out;simp [rY,h] at this
   . have:=II.out;simp [rY,h] at this
   . have:=II.out;simp [rY,h] at this
   .
    skip
    exact zHm
   .
    skip
    exact zHm
   have vO:Hid (wG x=true):=by show _=_;unfold wG;simp [h]
   have aC:=T.out.e0;exact zDb
  | true =>
   obtain ⟨nb,hnb⟩ : ∃ nb,nameB x.name=nb:=⟨_,rfl⟩
   rw [hnb] at hob HNM;clear hnb;cases nb with
   | false =>
    have Ho:Hid (dY x=false):=by show _=_;exact Rq x _ (by rw [hob];rfl)
    clear hob;go_enter Tryz.func72,Tryz.ntmps72
    go_upto_region 1 with fail;refine aO (fun wd2 hb1 T => ?_);have hw3:=hb1;clear hb1;obtain ⟨aC,bH,bQ,acX,aW,bP,bf,bF,aV,aJ⟩:=T.out.c10;refine t_ (S:=(fun w' => w'.cell? ⟨w.heap.size,0,none⟩=some (.int .i64 x.kind)/\w'.cell? ⟨w.heap.size,1,none⟩=some (.string ⟨x.name.toArray⟩)/\w'.cell? ⟨w.heap.size,2,none⟩=some (.int .i64 x.low)/\w'.cell? ⟨w.heap.size,3,none⟩=some (.int .i64 x.high)/\w'.cell? ⟨w.heap.size,4,none⟩=some (.int .i64 x.max)/\w'.cell? ⟨w.heap.size,5,none⟩=some (.slice A1 x.syms.length c1)/\w'.cell? ⟨w.heap.size,6,none⟩=some (.slice A2 x.ah.length c2)/\w'.cell? ⟨w.heap.size,7,none⟩=some (.int .i64 x.key)/\w'.cell? ⟨w.heap.size,8,none⟩=some (.int .i64 x.elem)/\w'.cell? ⟨w.heap.size,9,none⟩=some (.bool x.opn))) (by kernel_rfl) ⟨aC,bH,bQ,acX,aW,bP,bf,bF,aV,aJ⟩ (fun hHeld => ?_);clear aC bH bQ acX aW bP bf bF aV aJ;have hb4:Below wd2.heap.size wd2 (wd2.drew):=(g_ _ _).drew;replace T:=b1 T hb4;replace hw3:=dT hw3 hb4;clear hb4;generalize wd2.drew=fG at *;refine tk 0 ?_;refine tk 1 ?_;refine tk 2 ?_;refine tk 3 ?_;refine tk 4 ?_;refine tk 5 ?_;refine tk 6 ?_;refine tk 7 ?_;refine tk 8 ?_;refine tk 9 ?_;refine tk 10 ?_;refine iE 11 fun K hK => ?_;go_simp;((with_reducible refine (HP.out _).mono ?_);rintro e wL ⟨rfl,hb7⟩);replace T:=b1 T hb7;replace hw3:=dT hw3 hb7;clear hb7;(try clear hHeld);refine hK.out _ _ zAn (fun hHeld => ?_);clear hK K;refine iE 12 fun K hK => ?_;go_simp;((with_reducible refine (HS.out _ hw3).mono ?_);rintro e qP ⟨rfl,zU⟩);replace T:=b1 T zU
    replace hw3:=dT hw3 zU;clear zU;(try clear hHeld);refine hK.out _ _ zAn (fun hHeld => ?_);clear hK K;refine tk 13 ?_;refine tk 14 ?_;refine tk 15 ?_;refine tk 16 ?_;refine tk 17 ?_;refine iE 18 fun K hK => ?_;go_simp;((with_reducible refine (HN.out _).mono ?_);rintro e kL ⟨rfl,rfl⟩);(try clear hHeld);refine hK.out _ _ zAn (fun hHeld => ?_);clear hK K;refine tk 19 ?_;refine tk 20 ?_;refine tk 21 ?_;refine iE 22 fun K hK => ?_;go_simp;((with_reducible refine (HNM.out _).mono ?_);rintro e lZ ⟨rfl,rfl⟩);(try clear hHeld);refine hK.out _ _ zAn (fun hHeld => ?_);clear hK K;refine tk 23 ?_;refine tk 24 ?_;refine tk 25 ?_;refine Dl (by kernel_rfl) ?_ _;(try clear hHeld);go_wp2_with fail;go_ret;exact ⟨au Ho.out.symm,hw3⟩
   | true =>
    have EG:Hid (dY x=wG x):=by show _=_;exact Rq x _ (by rw [hob];rfl)
    clear hob;go_enter Tryz.func72,Tryz.ntmps72
    go_upto_region 1 with fail;refine aO (fun wd2 hb1 T => ?_);have hw3:=hb1;clear hb1;obtain ⟨aC,bH,bQ,acX,aW,bP,bf,bF,aV,aJ⟩:=T.out.c10;refine t_ (S:=(fun w' => w'.cell? ⟨w.heap.size,0,none⟩=some (.int .i64 x.kind)/\w'.cell? ⟨w.heap.size,1,none⟩=some (.string ⟨x.name.toArray⟩)/\w'.cell? ⟨w.heap.size,2,none⟩=some (.int .i64 x.low)/\w'.cell? ⟨w.heap.size,3,none⟩=some (.int .i64 x.high)/\w'.cell? ⟨w.heap.size,4,none⟩=some (.int .i64 x.max)/\w'.cell? ⟨w.heap.size,5,none⟩=some (.slice A1 x.syms.length c1)/\w'.cell? ⟨w.heap.size,6,none⟩=some (.slice A2 x.ah.length c2)/\w'.cell? ⟨w.heap.size,7,none⟩=some (.int .i64 x.key)/\w'.cell? ⟨w.heap.size,8,none⟩=some (.int .i64 x.elem)/\w'.cell? ⟨w.heap.size,9,none⟩=some (.bool x.opn))) (by kernel_rfl) ⟨aC,bH,bQ,acX,aW,bP,bf,bF,aV,aJ⟩ (fun hHeld => ?_);clear aC bH bQ acX aW bP bf bF aV aJ;have hb4:Below wd2.heap.size wd2 (wd2.drew):=(g_ _ _).drew;replace T:=b1 T hb4;replace hw3:=dT hw3 hb4;clear hb4;generalize wd2.drew=fG at *;refine tk 0 ?_;refine tk 1 ?_;refine tk 2 ?_;refine tk 3 ?_;refine tk 4 ?_;refine tk 5 ?_;refine tk 6 ?_;refine tk 7 ?_;refine tk 8 ?_;refine tk 9 ?_;refine tk 10 ?_;refine iE 11 fun K hK => ?_;go_simp;((with_reducible refine (HP.out _).mono ?_);rintro e wL ⟨rfl,hb7⟩);replace T:=b1 T hb7;replace hw3:=dT hw3 hb7;clear hb7;(try clear hHeld);refine hK.out _ _ zAn (fun hHeld => ?_);clear hK K;refine iE 12 fun K hK => ?_;go_simp;((with_reducible refine (HS.out _ hw3).mono ?_);rintro e qP ⟨rfl,zU⟩);replace T:=b1 T zU
    replace hw3:=dT hw3 zU;clear zU;(try clear hHeld);refine hK.out _ _ zAn (fun hHeld => ?_);clear hK K;refine tk 13 ?_;refine tk 14 ?_;refine tk 15 ?_;refine tk 16 ?_;refine tk 17 ?_;refine iE 18 fun K hK => ?_;go_simp;((with_reducible refine (HN.out _).mono ?_);rintro e kL ⟨rfl,rfl⟩);(try clear hHeld);refine hK.out _ _ zAn (fun hHeld => ?_);clear hK K;refine tk 19 ?_;refine tk 20 ?_;refine tk 21 ?_;refine iE 22 fun K hK => ?_;go_simp;((with_reducible refine (HNM.out _).mono ?_);rintro e lZ ⟨rfl,rfl⟩);(try clear hHeld);refine hK.out _ _ zAn (fun hHeld => ?_);clear hK K;refine tk 23 ?_;refine tk 24 ?_;refine tk 25 ?_;refine Dl (by kernel_rfl) ?_ _;(try clear hHeld);have hkc:=HKI.out;rcases hkc with h | h | h | h | h | h | h | h | h
    . have:=II.out;simp [rY,h] at this
    . have:=II.out;simp [rY,h] at this
    . have:=II.out;simp [rY,h] at this
    .
     have vO:Hid (wG x=wu x.syms):=by show _=_;unfold wG;simp [h]
     have aC:=T.out.e0;have bP:=T.out.e5;go_wp2_with fail;clear aC bP;((with_reducible refine (Xa x.syms _ _ HT.out.lens.1 ((HT.out.syms.below hw3).mono (hw3).size)).mono ?_);rintro e oZ ⟨rfl,o7⟩);exact zIy
    .
     have vO:Hid (wG x=jL true x.ah):=by show _=_;unfold wG;simp [h]
     have aC:=T.out.e0;have bf:=T.out.e6;go_wp2_with fail;clear aC bf;((with_reducible refine (PX x.ah _ _ HT.out.lens.2 (HT.out.ah.on hw3)).mono ?_);rintro e oZ ⟨rfl,o7⟩);exact zIy
    .
     have vO:Hid (wG x=jL false x.ah):=by show _=_;unfold wG;simp [h]
     have aC:=T.out.e0;have bf:=T.out.e6;go_wp2_with fail;clear aC bf;((with_reducible refine (NZ x.ah _ _ HT.out.lens.2 (HT.out.ah.on hw3)).mono ?_);rintro e oZ ⟨rfl,o7⟩);exact zIy
    . have:=II.out;simp [rY,h] at this
    . have:=II.out;simp [rY,h] at this
    have:=II.out;simp [rY,h] at this
theorem zIf {p:Prop} (h:p:=by
 refine tk 7 ?_;refine tk 8 ?_;refine tks 9 ?_;simp only [aF];refine tks 10 ?_;simp only [aF];refine tks 11 ?_;simp only [aF];refine tks 12 ?_;simp only [aF];refine tks 13 ?_;simp only [aF];exact zCy):p:=h
theorem ae1 (x:ay) (A1 A2:Option Addr) (c1 c2:Nat) (w:World) (h:¬ iP x.kind) :
  Calls Tryz.prog 72 #[dA x (.slice A1 x.syms.length c1) (.slice A2 x.ah.length c2)] w (RT w (.bool (dY x))):=by
 have Ho:Hid (dY x=false):=by show _=_;unfold dY;rw [f_ (by unfold iP at h;exact h)];rfl
 by_cases h1:x.kind < 1
 .
  have d1:decide (x.kind < 1)=true:=n_ h1;clear h h1;go_enter Tryz.func72,Tryz.ntmps72
  go_upto_region 1 with fail;refine aO (fun wd2 hb1 T => ?_);have hw3:=hb1;clear hb1;obtain ⟨aC,bH,bQ,acX,aW,bP,bf,bF,aV,aJ⟩:=T.out.c10;refine t_ (S:=(fun w' => w'.cell? ⟨w.heap.size,0,none⟩=some (.int .i64 x.kind)/\w'.cell? ⟨w.heap.size,1,none⟩=some (.string ⟨x.name.toArray⟩)/\w'.cell? ⟨w.heap.size,2,none⟩=some (.int .i64 x.low)/\w'.cell? ⟨w.heap.size,3,none⟩=some (.int .i64 x.high)/\w'.cell? ⟨w.heap.size,4,none⟩=some (.int .i64 x.max)/\w'.cell? ⟨w.heap.size,5,none⟩=some (.slice A1 x.syms.length c1)/\w'.cell? ⟨w.heap.size,6,none⟩=some (.slice A2 x.ah.length c2)/\w'.cell? ⟨w.heap.size,7,none⟩=some (.int .i64 x.key)/\w'.cell? ⟨w.heap.size,8,none⟩=some (.int .i64 x.elem)/\w'.cell? ⟨w.heap.size,9,none⟩=some (.bool x.opn))) (by kernel_rfl) ⟨aC,bH,bQ,acX,aW,bP,bf,bF,aV,aJ⟩ (fun hHeld => ?_);clear aC bH bQ acX aW bP bf bF aV aJ;have hb4:Below wd2.heap.size wd2 (wd2.drew):=(g_ _ _).drew;replace T:=b1 T hb4;replace hw3:=dT hw3 hb4;clear hb4;generalize wd2.drew=fG at *;refine tk 0 ?_;refine tk 1 ?_;refine tk 2 ?_;refine tk 3 ?_;refine tks 4 ?_;simp only [aF];refine tks 5 ?_;simp only [aF];refine tks 6 ?_;simp only [aF];exact zIf
 have d1:decide (x.kind < 1)=false:=f_ h1;have d9:decide (9 < x.kind)=true:=n_ (by unfold iP at h;omega);clear h h1;go_enter Tryz.func72,Tryz.ntmps72
 go_upto_region 1 with fail;refine aO (fun wd2 hb1 T => ?_);have hw3:=hb1;clear hb1;obtain ⟨aC,bH,bQ,acX,aW,bP,bf,bF,aV,aJ⟩:=T.out.c10;refine t_ (S:=(fun w' => w'.cell? ⟨w.heap.size,0,none⟩=some (.int .i64 x.kind)/\w'.cell? ⟨w.heap.size,1,none⟩=some (.string ⟨x.name.toArray⟩)/\w'.cell? ⟨w.heap.size,2,none⟩=some (.int .i64 x.low)/\w'.cell? ⟨w.heap.size,3,none⟩=some (.int .i64 x.high)/\w'.cell? ⟨w.heap.size,4,none⟩=some (.int .i64 x.max)/\w'.cell? ⟨w.heap.size,5,none⟩=some (.slice A1 x.syms.length c1)/\w'.cell? ⟨w.heap.size,6,none⟩=some (.slice A2 x.ah.length c2)/\w'.cell? ⟨w.heap.size,7,none⟩=some (.int .i64 x.key)/\w'.cell? ⟨w.heap.size,8,none⟩=some (.int .i64 x.elem)/\w'.cell? ⟨w.heap.size,9,none⟩=some (.bool x.opn))) (by kernel_rfl) ⟨aC,bH,bQ,acX,aW,bP,bf,bF,aV,aJ⟩ (fun hHeld => ?_);clear aC bH bQ acX aW bP bf bF aV aJ;have hb4:Below wd2.heap.size wd2 (wd2.drew):=(g_ _ _).drew;replace T:=b1 T hb4;replace hw3:=dT hw3 hb4;clear hb4;generalize wd2.drew=fG at *;refine tk 0 ?_;refine tk 1 ?_;refine tk 2 ?_;refine tk 3 ?_;refine tk 4 ?_;refine tk 5 ?_;refine tk 6 ?_;exact zIf
theorem ahg (x:ay) (vs vm:Value) (w:World) (ht:jc w w.heap.size x vs vm) :
  Calls Tryz.prog 72 #[dA x vs vm] w (RT w (.bool (dY x))):=by
 obtain ⟨A1,c1,A2,c2,rfl,rfl,-,-⟩:=ht.forms;by_cases hk:iP x.kind
 . exact ae0 x A1 A2 c1 c2 w hk ht
 exact ae1 x A1 A2 c1 c2 w hk

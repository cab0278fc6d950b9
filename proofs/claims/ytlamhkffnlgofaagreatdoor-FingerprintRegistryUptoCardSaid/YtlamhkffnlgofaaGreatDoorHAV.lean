/- What sheaveref18.Alike computes, without names. What sheaveref18.related computes: all uses of a pair are related. Condition: as many uses. No condition. -/
import Derived.Deep.QuietTactic
import Derived.BigQuiet
import Derived.Test.YtlamhkffnlgofaaGreatDoorHCB
set_option maxHeartbeats 8000000
set_option maxRecDepth 100000
namespace Go.Proofs.YtlamhkffnlgofaaGreatDoor
open Go.ChangeShapes Go.WideShapes Go.ChangeAt Go.RowKit
abbrev awn (w:World) (b o:Nat) (m:Mem) (vk vi vr:Value):Prop :=
 w.cell? ⟨b,o,none⟩=some (.int .i64 m.id)∧w.cell? ⟨b,o+1,none⟩=some (.string ⟨m.name.toArray⟩)∧w.cell? ⟨b,o+2,none⟩=some (.int .i64 m.ty)∧w.cell? ⟨b,o+3,none⟩=some (.bool m.akb)∧w.cell? ⟨b,o+4,none⟩=some (.bool m.eG) ∧
 w.cell? ⟨b,o+5,none⟩=some (.int .i64 m.dflt.kind)∧w.cell? ⟨b,o+6,none⟩=some (.bool m.dflt.bool)∧w.cell? ⟨b,o+7,none⟩=some (.int .i64 m.dflt.num)∧w.cell? ⟨b,o+8,none⟩=some (.string ⟨m.dflt.str.toArray⟩)∧w.cell? ⟨b,o+9,none⟩=some (.int .i64 m.dflt.id) ∧
 w.cell? ⟨b,o+10,none⟩=some vk∧w.cell? ⟨b,o+11,none⟩=some vi∧w.cell? ⟨b,o+12,none⟩=some vr
theorem zAm {p:Prop} (h:p:=by exact ⟨X.out.cell 6,⟨Y.out.cell 6,⟨(nG (w':=jC) HCM.out hb hbb),(nG (w':=jC) HDM.out hb SE)⟩⟩⟩):p:=h
theorem zAn {p:Prop} (h:p:=by exact ⟨X.out.cell 6,⟨Y.out.cell 6,⟨(nG (w':=dQ) HCM.out hb hbb),(nG (w':=dQ) HDM.out hb SE)⟩⟩⟩):p:=h
theorem zAo {p:Prop} (h:p:=by exact ⟨X.out.cell 6,⟨Y.out.cell 6,⟨(nG (w':=fZ) HCM.out hb hbb),(nG (w':=fZ) HDM.out hb SE)⟩⟩⟩):p:=h
theorem zAp {p:Prop} (h:p:=by exact ⟨X.out.cell 6,⟨Y.out.cell 6,⟨(nG (w':=jU) HCM.out hb hbb),(nG (w':=jU) HDM.out hb SE)⟩⟩⟩):p:=h
theorem zBk {p:Prop} (h:p:=by
 go_upto_region 1 with fail;refine jg (fun wd2 hb1 X Y => ?_);have hw3:=hb1;clear hb1;obtain ⟨aK,bJ,bY,bZ,dL,eX,bU,dD,dM,dU⟩:=X.out.c10;obtain ⟨kT,kU,kV,kW,kX,mD,lJ,mF,wS,wU⟩:=Y.out.c10;go_wp2_with fail;go_ret;exact ⟨au Hno.out.symm,hw3⟩):p:=h
theorem zDo {p:Prop} (h:p:=by
 replace hb:=dT hb vg;clear vg;cases hsm:iK r.dflt s.dflt with
 | true =>
  have he:Hid (Ar r s=true):=by show _=_;rw [JX.out,hsm]
  clear hsm;go_wp2_with fail;go_roundw
  case rel => exact ⟨k+1,by omega,by go_num,Y4.out he.out,X.out,Y.out,hb⟩
  case measure => simp [intOf];omega
 | false =>
  have he:Hid (Ar r s=false):=by show _=_;rw [JX.out,hsm]
  clear hsm;go_wp2_with fail;go_ret;exact ⟨au (HNE.out he.out).symm,hb⟩):p:=h
theorem zDs {p:Prop} (h:p:=by
 go_wp2_with fail;go_ret;exact ⟨au (HNE.out he.out).symm,hb⟩):p:=h
theorem zHu {p:Prop} (h:p:=by
 have t3:(r.eG != s.eG)=true:=by simpa using f3
 have t3':(!(r.eG == s.eG))=true:=by simpa using f3
 have he:Hid (Ar r s=false):=by show _=_;unfold Ar;simp [f3]
 clear f1 f2 f3;obtain ⟨iU,-,-,mQ,kK,-,-,-,-,-,-,-,-⟩:=M.out.c13;obtain ⟨P9,-,-,Qb,FZ,-,-,-,-,-,-,-,-⟩:=N.out.c13;exact zDs):p:=h
theorem zHw {p:Prop} (h:p:=by
 have t2:(r.akb != s.akb)=true:=by simpa using f2
 have t2':(!(r.akb == s.akb))=true:=by simpa using f2
 have he:Hid (Ar r s=false):=by show _=_;unfold Ar;simp [f2]
 clear f1 f2;have iU:=M.out.e0;have mQ:=M.out.e3;have P9:=N.out.e0;have Qb:=N.out.e3;exact zDs):p:=h
theorem zIa {p:Prop} (h:p:=by
 go_enter Tryz.func101,Tryz.ntmps101
 exact zBk):p:=h
theorem zIn {p:Prop} (h:p:=by
 have t1:(r.id != s.id)=true:=by simpa using f1
 have he:Hid (Ar r s=false):=by show _=_;unfold Ar;simp [f1]
 clear f1;have iU:=M.out.e0;have P9:=N.out.e0;exact zDs):p:=h
theorem axF (x y:ay) (vs vm us um:Value) (w:World) (hx:jc w w.heap.size x vs vm) (hy:jc w w.heap.size y us um) :
  Calls Tryz.prog 101 #[dA x vs vm,dA y us um,.bool false] w (RTq w (.bool (nT x y))):=by
 obtain ⟨A1,m1,A2,m2,rfl,rfl,-,-⟩:=hx.forms;obtain ⟨B1,k1,B2,k2,rfl,rfl,-,-⟩:=hy.forms;have HX:=hiQ hx;have HY:=hiQ hy;have hxl:=hx.lens;have hyl:=hy.lens;clear hx hy;by_cases e0:x.kind=y.kind
 ·
  skip
  by_cases e1:x.low=y.low
  ·
   skip
   by_cases e2:x.high=y.high
   ·
    skip
    by_cases e3:x.max=y.max
    ·
     skip
     by_cases e4:x.opn=y.opn
     ·
      skip
      have ny:Hid (nT x y=(eqL akL x.syms y.syms && eqL Ar x.ah y.ah)):=by show _=_;unfold nT alx;rw [decide_eq_true ⟨e0,e1,e2,e3,e4⟩];rfl
      simp only [dA,← e0,← e1,← e2,← e3,← e4];clear e0 e1 e2 e3 e4;by_cases ls:x.syms.length=y.syms.length
      ·
       have ts:((x.syms.length:Int) != (y.syms.length:Int))=false:=by simp [ls]
       have LS:=hiQ ls;clear ls;by_cases lm:x.ah.length=y.ah.length
       ·
        have tm:((x.ah.length:Int) != (y.ah.length:Int))=false:=by simp [lm]
        have LM:=hiQ lm;clear lm;go_enter Tryz.func101,Tryz.ntmps101
        go_upto_region 1 with fail;refine jg (fun wd2 hb1 X Y => ?_);have hw3:=hb1;clear hb1;obtain ⟨aK,bJ,bY,bZ,dL,eX,bU,dD,dM,dU⟩:=X.out.c10;obtain ⟨kT,kU,kV,kW,kX,mD,lJ,mF,wS,wU⟩:=Y.out.c10;go_upto_region 6 with fail;clear aK bJ bY bZ dL eX bU dD dM dU kT kU kV kW kX mD lJ mF wS wU;have hX0:=X.out;have hY0:=Y.out;have hB0:=hw3;go_loopw [7] (fun i wr => ∃ k:Nat,k≤x.syms.length∧i = .int .i64 k∧ajI akL x.syms y.syms k∧Has wr w.heap.size 71 #[.int .i64 x.kind,.string ⟨x.name.toArray⟩,.int .i64 x.low,.int .i64 x.high,.int .i64 x.max,.slice A1 x.syms.length m1,.slice A2 x.ah.length m2,.int .i64 x.key,.int .i64 x.elem,.bool x.opn]∧Has wr (w.heap.size+1) 71 #[.int .i64 x.kind,.string ⟨y.name.toArray⟩,.int .i64 x.low,.int .i64 x.high,.int .i64 x.max,.slice B1 y.syms.length k1,.slice B2 y.ah.length k2,.int .i64 y.key,.int .i64 y.elem,.bool x.opn]∧Below w.heap.size w wr) (fun i _ => x.syms.length - (intOf i).toNat)
        case atStart => exact ⟨0,by omega,rfl,ajI.zero,hX0,hY0,hB0⟩
        case round =>
         clear X Y hX0 hY0 hB0;obtain ⟨k,hk,rfl,hp,X,Y,hb⟩:=hrel;have HPU:=hiQ hp;clear hp;replace X:=hiQ X;replace Y:=hiQ Y;by_cases hlt:k < x.syms.length
         ·
          obtain ⟨b,o,rfl,hbb,hcell⟩:=HX.out.syms.at_ (by omega);have hlt':k < y.syms.length:=by have:=LS.out;omega
          obtain ⟨b',o',rfl,SE,hcell'⟩:=HY.out.syms.at_ (by omega);obtain ⟨hc0,-⟩:=qy hcell k hlt;obtain ⟨hd0,-⟩:=qy hcell' k hlt';replace hc0:=((hb).cell (p:=⟨b,_,none⟩) hbb).trans hc0;replace hd0:=((hb).cell (p:=⟨b',_,none⟩) SE).trans hd0;clear hcell hcell';have hi1:(k:Int) < x.syms.length:=by omega
          have hi2:(k:Int) < y.syms.length:=by omega
          have hnx:akL x.syms[k] y.syms[k]=true→ajI akL x.syms y.syms (k+1):=fun h => HPU.out.succ hlt hlt' h;have hne:akL x.syms[k] y.syms[k]=false→nT x y=false:=fun h => by rw [ny.out,aq4 hlt hlt' h];rfl
          have Y4:=hiQ hnx;have HNE:=hiQ hne;clear hnx hne;generalize x.syms[k]=r at *;generalize y.syms[k]=s at *;obtain ⟨ri,rn⟩:=r;obtain ⟨si,sn⟩:=s;simp only at hc0 hd0;have eX:=X.out.e5;have mD:=Y.out.e5;by_cases he:ri=si
          ·
           have tq:(ri != si)=false:=by simpa using he
           have hs:Hid (akL (ri,rn) (si,sn)=true):=by show _=_;unfold akL;simpa using he
           clear he;go_upto_region 8 with fail;go_quiet (fail)
           go_wp2_with fail;clear eX mD;go_roundw
           case rel => exact ⟨k+1,by omega,by go_num,Y4.out hs.out,X.out.drewN _,Y.out.drewN _,below_drewN hb _⟩
           case measure => simp [intOf];omega
          have tq:(ri != si)=true:=by simpa using he
          have hs:Hid (akL (ri,rn) (si,sn)=false):=by show _=_;unfold akL;simpa using he
          clear he;go_upto_region 8 with fail;go_quiet (fail)
          go_wp2_with fail;clear eX mD;go_ret;exact ⟨au (HNE.out hs.out).symm,below_drewN hb _⟩
         obtain rfl:k=x.syms.length:=by omega
         have hes:Hid (nT x y=eqL Ar x.ah y.ah):=by show _=_;rw [ny.out,aoR LS.out HPU.out,Bool.true_and]
         have eX:=X.out.e5;have bU:=X.out.e6;have mD:=Y.out.e5;have lJ:=Y.out.e6;go_upto_region 11 with fail;clear eX bU mD lJ;have hX0:=X.out;have hY0:=Y.out;have hB0:=hb;go_loopw [8] (fun i wr => ∃ k:Nat,k≤x.ah.length∧i = .int .i64 k∧ajI Ar x.ah y.ah k∧Has wr w.heap.size 71 #[.int .i64 x.kind,.string ⟨x.name.toArray⟩,.int .i64 x.low,.int .i64 x.high,.int .i64 x.max,.slice A1 x.syms.length m1,.slice A2 x.ah.length m2,.int .i64 x.key,.int .i64 x.elem,.bool x.opn]∧Has wr (w.heap.size+1) 71 #[.int .i64 x.kind,.string ⟨y.name.toArray⟩,.int .i64 x.low,.int .i64 x.high,.int .i64 x.max,.slice B1 y.syms.length k1,.slice B2 y.ah.length k2,.int .i64 y.key,.int .i64 y.elem,.bool x.opn]∧Below w.heap.size w wr) (fun i _ => x.ah.length - (intOf i).toNat)
         case atStart => exact ⟨0,by omega,rfl,ajI.zero,hX0,hY0,hB0⟩
         case round =>
          clear X Y hX0 hY0 hB0;obtain ⟨k,hk,rfl,hp,X,Y,hb⟩:=hrel;have HPV:=hiQ hp;clear hp;replace X:=hiQ X;replace Y:=hiQ Y;by_cases hlt:k < x.ah.length
          ·
           obtain ⟨b,o,rfl,hbb,hel⟩:=HX.out.ah.elem (by omega);have hlt':k < y.ah.length:=by have:=LM.out;omega
           obtain ⟨b',o',rfl,SE,KO⟩:=HY.out.ah.elem (by omega);obtain ⟨vk,vi,vr,hcm,hma⟩:=hel k hlt;obtain ⟨uk,ui,ur,hdm,hmb⟩:=KO k hlt';have hi1:(k:Int) < x.ah.length:=by omega
           have hi2:(k:Int) < y.ah.length:=by omega
           have hd0:decide ((k:Int) < 0)=false:=by simp
           have hd1:decide (x.ah.length≤k)=false:=by simpa using hlt
           have hd2:decide (y.ah.length≤k)=false:=by simpa using hlt'
           have hnx:Ar x.ah[k] y.ah[k]=true→ajI Ar x.ah y.ah (k+1):=fun h => HPV.out.succ hlt hlt' h;have hne:Ar x.ah[k] y.ah[k]=false→nT x y=false:=fun h => by rw [hes.out,aq4 hlt hlt' h]
           have Y4:=hiQ hnx;have HNE:=hiQ hne;clear hnx hne;generalize x.ah[k]=r at *;generalize y.ah[k]=s at *;have HR:=hiQ hma.dflt;have HS:=hiQ hmb.dflt;obtain ⟨V1,v1,V2,v2,V3,v3,rfl,rfl,rfl,-,-,-⟩:=hma.dflt.forms;obtain ⟨U1,u1,U2,u2,U3,u3,rfl,rfl,rfl,-,-,-⟩:=hmb.dflt.forms;have HSV:Hid (∀ W,ValAt W W.heap.size r.dflt (.slice V1 r.dflt.keys.length v1) (.slice V2 r.dflt.items.length v2) (.slice V3 r.dflt.rest.length v3)→ValAt W W.heap.size s.dflt (.slice U1 s.dflt.keys.length u1) (.slice U2 s.dflt.items.length u2) (.slice U3 s.dflt.rest.length u3)→Calls Tryz.prog 126 #[.agg #[.int .i64 r.dflt.kind,.bool r.dflt.bool,.int .i64 r.dflt.num,.string ⟨r.dflt.str.toArray⟩,.int .i64 r.dflt.id,.slice V1 r.dflt.keys.length v1,.slice V2 r.dflt.items.length v2,.slice V3 r.dflt.rest.length v3],.agg #[.int .i64 s.dflt.kind,.bool s.dflt.bool,.int .i64 s.dflt.num,.string ⟨s.dflt.str.toArray⟩,.int .i64 s.dflt.id,.slice U1 s.dflt.keys.length u1,.slice U2 s.dflt.items.length u2,.slice U3 s.dflt.rest.length u3]] W fun e w' => e = .returned (.bool (iK r.dflt s.dflt))∧Below W.heap.size W w'):=fun W h1 h2 => BI (nodes r.dflt+1) r.dflt s.dflt _ _ _ _ _ _ W (Nat.lt_succ_self _) h1 h2;have HCM:=hiQ hcm;have HDM:=hiQ hdm;clear hel KO hma hmb hcm hdm;have bU:=X.out.e6;have lJ:=Y.out.e6;go_upto_region 13 with fail;refine wp_region_held_drew (S:=(fun w' => w'.cell? ⟨w.heap.size,6,none⟩=some (.slice (some ⟨b,o,none⟩) x.ah.length m2)∧w'.cell? ⟨w.heap.size+1,6,none⟩=some (.slice (some ⟨b',o',none⟩) y.ah.length k2)∧(awn w' b (o+k*13) r (.slice V1 r.dflt.keys.length v1) (.slice V2 r.dflt.items.length v2) (.slice V3 r.dflt.rest.length v3))∧(awn w' b' (o'+k*13) s (.slice U1 s.dflt.keys.length u1) (.slice U2 s.dflt.items.length u2) (.slice U3 s.dflt.rest.length u3)))) (by kernel_rfl) ⟨bU,lJ,(nG (w':=wr) HCM.out hb hbb),(nG (w':=wr) HDM.out hb SE)⟩ (fun hHeld => ?_)
           clear bU lJ;have hb4:Below wr.heap.size wr (wr.drew):=(Below.refl _ _).drew;obtain ⟨X,Y⟩:=b2 X Y hb4;replace hb:=dT hb hb4;clear hb4;generalize wr.drew=fG at *;refine tk 0 ?_;refine tk 1 ?_;refine tk 2 ?_;refine tk 3 ?_;refine tk 4 ?_;refine tk 5 ?_;refine tk 6 ?_;refine tk 7 ?_;refine tk 8 ?_;refine tk 9 ?_;refine wpAnyH_ready (rs:=[10,11]) (by kernel_rfl) (by simp) ?_;refine AllReadyH.cons rfl (fun K hK => ?_) (AllReadyH.cons rfl (fun K hK => ?_) (AllReadyH.nil))
           ·
            go_simp;refine aO (fun jC hb6 M => ?_);have kH:=X.out.here;have oC:=Y.out.here;have sH:=hb.size;obtain ⟨X,Y⟩:=b2 X Y hb6;replace hb:=dT hb hb6;clear hb6;generalize fG.heap.size=g8 at *;(try clear hHeld);refine hK.out _ _ zAm (fun hHeld => ?_);clear hK K;refine iE 11 fun K hK => ?_;go_simp;refine aO (fun dQ fV N => ?_);have qA:=X.out.here;have alj:=Y.out.here;have sO:=M.out.here;have sW:=hb.size;obtain ⟨X,Y,M⟩:=b3 X Y M fV;replace hb:=dT hb fV;clear fV;generalize jC.heap.size=g14 at *;(try clear hHeld);refine hK.out _ _ zAn (fun hHeld => ?_);clear hK K;refine iE 12 fun K hK => ?_;refine eY (by rfl) 83 _ _ (by rfl) (g8) #[.int .i64 r.id,.string ⟨r.name.toArray⟩,.int .i64 r.ty,.bool r.akb,.bool r.eG,.int .i64 r.dflt.kind,.bool r.dflt.bool,.int .i64 r.dflt.num,.string ⟨r.dflt.str.toArray⟩,.int .i64 r.dflt.id,.slice V1 r.dflt.keys.length v1,.slice V2 r.dflt.items.length v2,.slice V3 r.dflt.rest.length v3] (by rfl) (by rfl) 83 _ M.out (by kernel_rfl) rfl (by first | assumption | simp [Value.oneCell']) ?_;generalize hE20:dQ.setRow _ _=fZ;obtain ⟨X,Y,N⟩:=f3 X Y N (eR hE20);replace M:=dV M hE20;replace hb:=tr hb hE20;clear hE20;(try clear hHeld);refine hK.out _ _ zAo (fun hHeld => ?_);clear hK K;refine iE 13 fun K hK => ?_;refine eY (by rfl) 83 _ _ (by rfl) (g14) #[.int .i64 s.id,.string ⟨s.name.toArray⟩,.int .i64 s.ty,.bool s.akb,.bool s.eG,.int .i64 s.dflt.kind,.bool s.dflt.bool,.int .i64 s.dflt.num,.string ⟨s.dflt.str.toArray⟩,.int .i64 s.dflt.id,.slice U1 s.dflt.keys.length u1,.slice U2 s.dflt.items.length u2,.slice U3 s.dflt.rest.length u3] (by rfl) (by rfl) 83 _ N.out (by kernel_rfl) rfl (by first | assumption | simp [Value.oneCell']) ?_
            generalize qj:fZ.setRow _ _=jU;obtain ⟨X,Y,M⟩:=f3 X Y M (eR qj);replace N:=dV N qj;replace hb:=tr hb qj;clear qj;(try clear hHeld);refine hK.out _ _ zAp (fun hHeld => ?_);clear hK K;refine wpAnyH_done (by kernel_rfl) ?_ _;(try clear hHeld);by_cases f1:r.id=s.id
            ·
             have t1:(r.id != s.id)=false:=by simpa using f1
             by_cases f2:r.akb=s.akb
             ·
              have t2:(r.akb != s.akb)=false:=by simpa using f2
              have t2':(!(r.akb == s.akb))=false:=by simpa using f2
              by_cases f3:r.eG=s.eG
              ·
               have t3:(r.eG != s.eG)=false:=by simpa using f3
               have t3':(!(r.eG == s.eG))=false:=by simpa using f3
               have hme:Ar r s=iK r.dflt s.dflt:=by unfold Ar;rw [f1,f2,f3];simp
               have JX:=hiQ hme;clear hme f1 f2 f3;obtain ⟨iU,-,-,mQ,kK,qU,qV,qW,qX,qY,oK,oL,oM⟩:=M.out.c13;obtain ⟨P9,-,-,Qb,FZ,aAv,aAw,aAx,aAy,aAz,axW,axX,axY⟩:=N.out.c13;go_wp2_with fail;clear iU mQ kK qU qV qW qX qY oK oL oM P9 Qb FZ aAv aAw aAx aAy aAz axW axX axY;((with_reducible refine (HSV.out _ (HR.out.keep (fun p hp => (hb).cell hp) (hb).size) (HS.out.keep (fun p hp => (hb).cell hp) (hb).size)).mono ?_);rintro e o9 ⟨rfl,vg⟩);obtain ⟨X,Y,M,N⟩:=b4 X Y M N vg;exact zDo
              exact zHu
             exact zHw
            exact zIn
           go_simp;refine aO (fun jC hb6 N => ?_);have kH:=X.out.here;have oC:=Y.out.here;have sH:=hb.size;obtain ⟨X,Y⟩:=b2 X Y hb6;replace hb:=dT hb hb6;clear hb6;generalize fG.heap.size=g8 at *;(try clear hHeld);refine hK.out _ _ zAm (fun hHeld => ?_);clear hK K;refine iE 10 fun K hK => ?_;go_simp;refine aO (fun dQ fV M => ?_);have qA:=X.out.here;have alj:=Y.out.here;have sO:=N.out.here;have sW:=hb.size;obtain ⟨X,Y,N⟩:=b3 X Y N fV;replace hb:=dT hb fV;clear fV;generalize jC.heap.size=g14 at *;(try clear hHeld);refine hK.out _ _ zAn (fun hHeld => ?_);clear hK K;refine iE 12 fun K hK => ?_;refine eY (by rfl) 83 _ _ (by rfl) (g14) #[.int .i64 r.id,.string ⟨r.name.toArray⟩,.int .i64 r.ty,.bool r.akb,.bool r.eG,.int .i64 r.dflt.kind,.bool r.dflt.bool,.int .i64 r.dflt.num,.string ⟨r.dflt.str.toArray⟩,.int .i64 r.dflt.id,.slice V1 r.dflt.keys.length v1,.slice V2 r.dflt.items.length v2,.slice V3 r.dflt.rest.length v3] (by rfl) (by rfl) 83 _ M.out (by kernel_rfl) rfl (by first | assumption | simp [Value.oneCell']) ?_;generalize hE20:dQ.setRow _ _=fZ;obtain ⟨X,Y,N⟩:=f3 X Y N (eR hE20);replace M:=dV M hE20;replace hb:=tr hb hE20;clear hE20;(try clear hHeld);refine hK.out _ _ zAo (fun hHeld => ?_);clear hK K;refine iE 13 fun K hK => ?_;refine eY (by rfl) 83 _ _ (by rfl) (g8) #[.int .i64 s.id,.string ⟨s.name.toArray⟩,.int .i64 s.ty,.bool s.akb,.bool s.eG,.int .i64 s.dflt.kind,.bool s.dflt.bool,.int .i64 s.dflt.num,.string ⟨s.dflt.str.toArray⟩,.int .i64 s.dflt.id,.slice U1 s.dflt.keys.length u1,.slice U2 s.dflt.items.length u2,.slice U3 s.dflt.rest.length u3] (by rfl) (by rfl) 83 _ N.out (by kernel_rfl) rfl (by first | assumption | simp [Value.oneCell']) ?_
           generalize qj:fZ.setRow _ _=jU;obtain ⟨X,Y,M⟩:=f3 X Y M (eR qj);replace N:=dV N qj;replace hb:=tr hb qj;clear qj;(try clear hHeld);refine hK.out _ _ zAp (fun hHeld => ?_);clear hK K;refine wpAnyH_done (by kernel_rfl) ?_ _;(try clear hHeld);by_cases f1:r.id=s.id
           ·
            have t1:(r.id != s.id)=false:=by simpa using f1
            by_cases f2:r.akb=s.akb
            ·
             have t2:(r.akb != s.akb)=false:=by simpa using f2
             have t2':(!(r.akb == s.akb))=false:=by simpa using f2
             by_cases f3:r.eG=s.eG
             ·
              have t3:(r.eG != s.eG)=false:=by simpa using f3
              have t3':(!(r.eG == s.eG))=false:=by simpa using f3
              have hme:Ar r s=iK r.dflt s.dflt:=by unfold Ar;rw [f1,f2,f3];simp
              have JX:=hiQ hme;clear hme f1 f2 f3;obtain ⟨iU,-,-,mQ,kK,qU,qV,qW,qX,qY,oK,oL,oM⟩:=M.out.c13;obtain ⟨P9,-,-,Qb,FZ,aAv,aAw,aAx,aAy,aAz,axW,axX,axY⟩:=N.out.c13;go_wp2_with fail;clear iU mQ kK qU qV qW qX qY oK oL oM P9 Qb FZ aAv aAw aAx aAy aAz axW axX axY;((with_reducible refine (HSV.out _ (HR.out.keep (fun p hp => (hb).cell hp) (hb).size) (HS.out.keep (fun p hp => (hb).cell hp) (hb).size)).mono ?_);rintro e o9 ⟨rfl,vg⟩);obtain ⟨X,Y,N,M⟩:=b4 X Y N M vg;exact zDo
             exact zHu
            exact zHw
           exact zIn
          obtain rfl:k=x.ah.length:=by omega
          have ana:Hid (nT x y=true):=by show _=_;rw [hes.out,aoR LM.out HPV.out]
          have bU:=X.out.e6;have lJ:=Y.out.e6;go_wp2_with fail;go_ret;exact ⟨au ana.out.symm,hb⟩
       have tm:((x.ah.length:Int) != (y.ah.length:Int))=true:=bne_iff_ne.2 (by omega);have Hno:Hid (nT x y=false):=by show _=_;rw [ny.out,aq5 lm,Bool.and_false]
       exact zIa
      have ts:((x.syms.length:Int) != (y.syms.length:Int))=true:=bne_iff_ne.2 (by omega);have Hno:Hid (nT x y=false):=by show _=_;rw [ny.out,aq5 ls,Bool.false_and]
      exact zIa
     have t4:(x.opn != y.opn)=true:=by simpa using e4
     have t4':(!(x.opn == y.opn))=true:=by simpa using e4
     have Hno:Hid (nT x y=false):=by show _=_;unfold nT alx;rw [decide_eq_false (fun h => e4 (by simp [h]))];rfl
     simp only [dA,← e0,← e1,← e2,← e3];clear e0 e1 e2 e3;exact zIa
    have t3:(x.max != y.max)=true:=by simpa using e3
    have Hno:Hid (nT x y=false):=by show _=_;unfold nT alx;rw [decide_eq_false (fun h => e3 (by simp [h]))];rfl
    simp only [dA,← e0,← e1,← e2];clear e0 e1 e2;exact zIa
   have t2:(x.high != y.high)=true:=by simpa using e2
   have Hno:Hid (nT x y=false):=by show _=_;unfold nT alx;rw [decide_eq_false (fun h => e2 (by simp [h]))];rfl
   simp only [dA,← e0,← e1];clear e0 e1;exact zIa
  have t1:(x.low != y.low)=true:=by simpa using e1
  have Hno:Hid (nT x y=false):=by show _=_;unfold nT alx;rw [decide_eq_false (fun h => e1 (by simp [h]))];rfl
  simp only [dA,← e0];clear e0;exact zIa
 have t0:(x.kind != y.kind)=true:=by simpa using e0
 have Hno:Hid (nT x y=false):=by show _=_;unfold nT alx;rw [decide_eq_false (fun h => e0 (by simp [h]))];rfl
 simp only [dA];exact zIa
theorem zAq {p:Prop} (h:p:=by exact ⟨X.out.cell 0,⟨X.out.cell 1,⟨X.out.cell 2,⟨X.out.cell 3,⟨X.out.cell 4,⟨X.out.cell 5,⟨X.out.cell 6,⟨X.out.cell 7,⟨X.out.cell 8,⟨X.out.cell 9,⟨Y.out.cell 0,⟨Y.out.cell 1,⟨Y.out.cell 2,⟨Y.out.cell 3,⟨Y.out.cell 4,⟨Y.out.cell 5,⟨Y.out.cell 6,⟨Y.out.cell 7,⟨Y.out.cell 8,Y.out.cell 9⟩⟩⟩⟩⟩⟩⟩⟩⟩⟩⟩⟩⟩⟩⟩⟩⟩⟩⟩):p:=h
theorem avO (M:Tab) (x y:ay) (vs vm us um:Value) (n m c L rb:Nat) (w:World) (hsh:M.shape n m) (hxm:x.ah.length≤1000) (hym:y.ah.length≤1000) (hlen:(bn x).length=(bn y).length)
  (h1:∀ u ∈ bn x,0≤u.2∧u.2 < n) (h2:∀ u ∈ bn y,0≤u.2∧u.2 < m) (hx:jc w w.heap.size x vs vm) (hy:jc w w.heap.size y us um) (ht:TabAt w L (.slice (some ⟨rb,0,none⟩) n c) M) :
  Calls Tryz.prog 102 #[dA x vs vm,dA y us um,.slice (some ⟨rb,0,none⟩) n c] w (RTq w (.bool (aoX M (outs x) (outs y)))):=by
 obtain ⟨C1,l1,C2,l2,rfl,rfl,-,-⟩:=hx.forms;obtain ⟨D1,m1,D2,m2,rfl,rfl,-,-⟩:=hy.forms;have HTB:=hiQ ht;have HS:=hiQ hsh;have HL:=hiQ hlen;have H1:=hiQ h1;have H2:=hiQ h2;have HE:=hiQ (awP M x y hlen);have hux:=arU hxm;clear hsh hlen h1 h2;have HX:=hiQ (Kept.rd (P:=fun w B => jc w B x (.slice C1 x.syms.length l1) (.slice C2 x.ah.length l2)) hx (Nat.le_refl _) (fun _ hk => hx.keep hk (Nat.le_refl _)));have HY:=hiQ (Kept.rd (P:=fun w B => jc w B y (.slice D1 y.syms.length m1) (.slice D2 y.ah.length m2)) hy (Nat.le_refl _) (fun _ hk => hy.keep hk (Nat.le_refl _)));clear hx hy ht;go_enter Tryz.func102,Tryz.ntmps102
 go_upto_region 1 with fail;refine jg (fun wd2 hb1 X Y => ?_);obtain ⟨HX,HY⟩:=b2 HX HY hb1;have hw3:=hb1;clear hb1;obtain ⟨aK,bJ,bY,bZ,dL,eX,bU,dD,dM,dU⟩:=X.out.c10;obtain ⟨kT,kU,kV,kW,kX,mD,lJ,mF,wS,wU⟩:=Y.out.c10;refine wp_region_held_drew (S:=(fun w' => w'.cell? ⟨w.heap.size,0,none⟩=some (.int .i64 x.kind)∧w'.cell? ⟨w.heap.size,1,none⟩=some (.string ⟨x.name.toArray⟩)∧w'.cell? ⟨w.heap.size,2,none⟩=some (.int .i64 x.low)∧w'.cell? ⟨w.heap.size,3,none⟩=some (.int .i64 x.high)∧w'.cell? ⟨w.heap.size,4,none⟩=some (.int .i64 x.max)∧w'.cell? ⟨w.heap.size,5,none⟩=some (.slice C1 x.syms.length l1)∧w'.cell? ⟨w.heap.size,6,none⟩=some (.slice C2 x.ah.length l2)∧w'.cell? ⟨w.heap.size,7,none⟩=some (.int .i64 x.key)∧w'.cell? ⟨w.heap.size,8,none⟩=some (.int .i64 x.elem)∧w'.cell? ⟨w.heap.size,9,none⟩=some (.bool x.opn)∧w'.cell? ⟨w.heap.size+1,0,none⟩=some (.int .i64 y.kind)∧w'.cell? ⟨w.heap.size+1,1,none⟩=some (.string ⟨y.name.toArray⟩)∧w'.cell? ⟨w.heap.size+1,2,none⟩=some (.int .i64 y.low)∧w'.cell? ⟨w.heap.size+1,3,none⟩=some (.int .i64 y.high)∧w'.cell? ⟨w.heap.size+1,4,none⟩=some (.int .i64 y.max)∧w'.cell? ⟨w.heap.size+1,5,none⟩=some (.slice D1 y.syms.length m1)∧w'.cell? ⟨w.heap.size+1,6,none⟩=some (.slice D2 y.ah.length m2)∧w'.cell? ⟨w.heap.size+1,7,none⟩=some (.int .i64 y.key)∧w'.cell? ⟨w.heap.size+1,8,none⟩=some (.int .i64 y.elem)∧w'.cell? ⟨w.heap.size+1,9,none⟩=some (.bool y.opn))) (by kernel_rfl) ⟨aK,bJ,bY,bZ,dL,eX,bU,dD,dM,dU,kT,kU,kV,kW,kX,mD,lJ,mF,wS,wU⟩ (fun hHeld => ?_);clear aK bJ bY bZ dL eX bU dD dM dU kT kU kV kW kX mD lJ mF wS wU
 have hb4:Below wd2.heap.size wd2 (wd2.drew):=(Below.refl _ _).drew;obtain ⟨X,Y,HX,HY⟩:=b4 X Y HX HY hb4;replace hw3:=dT hw3 hb4;clear hb4;generalize wd2.drew=fG at *;refine tk 0 ?_;refine tk 2 ?_;refine iE 1 fun K hK => ?_;go_simp;((with_reducible refine (asF x _ _ _ (by omega) (HX.out.now.up HX.out.le)).mono ?_);rintro e wL ⟨v1,rfl,hu1,hb7⟩);obtain ⟨X,Y,HX,HY⟩:=b4 X Y HX HY hb7;replace hw3:=dT hw3 hb7;clear hb7;have U1:=hiQ (Kept.rd (P:=fun w B => Rd w B 2 v1 (bn x).length (LY (bn x))) (Rd.uX hu1) (Nat.le_refl _) (fun _ hk => (Rd.uX hu1).keep hk));clear hu1;(try clear hHeld);refine hK.out _ _ zAq (fun hHeld => ?_);clear hK K;refine iE 3 fun K hK => ?_;go_simp;((with_reducible refine (asF y _ _ _ (by omega) (HY.out.now.up HY.out.le)).mono ?_);rintro e qP ⟨v2,rfl,hu2,zU⟩);obtain ⟨X,Y,HX,HY,U1⟩:=b5 X Y HX HY U1 zU;replace hw3:=dT hw3 zU;clear zU;have U2:=hiQ (Kept.rd (P:=fun w B => Rd w B 2 v2 (bn y).length (LY (bn y))) (Rd.uX hu2) (Nat.le_refl _) (fun _ hk => (Rd.uX hu2).keep hk));clear hu2;(try clear hHeld);refine hK.out _ _ zAq (fun hHeld => ?_);clear hK K;refine tk 4 ?_;refine tk 5 ?_;refine wpAnyH_done (by kernel_rfl) ?_ _;(try clear hHeld);have hR1:=U1.out.now.mono U1.out.le;have hR2:=U2.out.now.mono U2.out.le;have hB0:=hw3;clear U1 U2;obtain ⟨A,cx,rfl,hcx⟩:=hR1.form;obtain ⟨B,dy,rfl,hdy⟩:=hR2.form;go_upto_region 3 with fail;go_loopw [9] (fun i wr => ∃ k:Nat,k≤(bn x).length∧i = .int .i64 k∧ajI (relE M) (bn x) (bn y) k∧Rd wr wr.heap.size 2 (.slice A (bn x).length cx) (bn x).length (LY (bn x))∧Rd wr wr.heap.size 2 (.slice B (bn y).length dy) (bn y).length (LY (bn y))∧Below w.heap.size w wr) (fun i _ => (bn x).length - (intOf i).toNat)
 case atStart => exact ⟨0,by omega,rfl,ajI.zero,hR1,hR2,hB0⟩
 case round =>
  clear hR1 hR2 hB0 X Y HX HY;obtain ⟨k,hk,rfl,hup,hu1,hu2,hb⟩:=hrel;have Hup:=hiQ hup;have xZ:=hiQ hu1;have HU2:=hiQ hu2;clear hup hu1 hu2;by_cases hltk:k < (bn x).length
  ·
   have akf:k < (bn y).length:=by have:=HL.out;omega
   obtain ⟨bq1,o1,rfl,hbb,hcell⟩:=xZ.out.at_ (by omega);obtain ⟨-,c1⟩:=asn hcell k hltk;obtain ⟨bq2,o2,rfl,SE,hcell'⟩:=HU2.out.at_ (by omega);obtain ⟨-,d1⟩:=asn hcell' k akf;have Hs:=hiQ (fun h => ajI.succ Hup.out hltk akf h);have Hn:=hiQ (fun h => aq4 (f:=relE M) hltk akf h);have hu1:=H1.out _ (List.getElem_mem hltk);have hu2:=H2.out _ (List.getElem_mem akf);generalize (bn x)[k]=p at *;generalize (bn y)[k]=q at *;obtain ⟨x1,x2⟩:=p;obtain ⟨y1,y2⟩:=q;simp only at hu1 hu2 c1 d1;obtain ⟨xa,rfl⟩ : ∃ a:Nat,x2=(a:Int):=⟨x2.toNat,by omega⟩
   obtain ⟨ya,rfl⟩ : ∃ a:Nat,y2=(a:Int):=⟨y2.toNat,by omega⟩
   have hre:relE M (x1,(xa:Int)) (y1,(ya:Int))=M.at_ xa ya:=rfl;have HRE:=hiQ hre;clear hre hcell hcell';have hiM:xa < M.length:=by rw [HS.out.1];omega
   have hkM:ya < M[xa].length:=by rw [HS.out.2];omega
   have aoi:M.at_ xa ya=M[xa][ya]:=by simp [Tab.at_,List.getD,hiM,hkM]
   have HTW:TabAt wr L (.slice (some ⟨rb,0,none⟩) n c) M:=HTB.out.heap fun q _ h => (hb).block q h;obtain ⟨u,hrow⟩:=HTW.row hiM;obtain ⟨rg,cu,rfl,axo,axp,auW,hbc,hbf⟩:=hrow.pos hkM;have hrc:=hrow.cell;have asT:rb < wr.heap.size:=World.block_lt_of_cell? _ _ hrc;have hln:M[xa].length=m:=HS.out.2 xa hiM;have hi1:(k:Int) < (bn x).length:=by omega
   have hi2:(k:Int) < (bn y).length:=by omega
   clear hrow hbf HTW axo auW hltk akf;rw [hln] at hrc;obtain ⟨bt,hbt⟩ : ∃ bt,bt=M[xa][ya]:=⟨_,rfl⟩
   rw [← hbt] at hbc aoi;rw [aoi] at HRE;clear aoi hbt hln hkM hiM;have KR:=hiQ (Kept.rd (P:=fun w _ => w.cell? ⟨bq1,o1+k*2+1,none⟩=some (.int .i64 xa)∧w.cell? ⟨bq2,o2+k*2+1,none⟩=some (.int .i64 ya)∧w.cell? ⟨rb,xa,none⟩=some (.slice (some ⟨rg,0,none⟩) m cu)∧w.cell? ⟨rg,ya,none⟩=some (.bool bt)) ⟨c1,d1,hrc,hbc⟩ (Nat.le_refl _) (fun _ hk => ⟨(hk ⟨bq1,_,none⟩ hbb).trans c1,(hk ⟨bq2,_,none⟩ SE).trans d1,(hk ⟨rb,xa,none⟩ asT).trans hrc,(hk ⟨rg,ya,none⟩ axp).trans hbc⟩));have U1:=hiQ (Kept.rd (P:=fun w B => Rd w B 2 (.slice (some ⟨bq1,o1,none⟩) (bn x).length cx) (bn x).length (LY (bn x))) xZ.out (Nat.le_refl _) (fun _ hk => xZ.out.keep hk));have U2:=hiQ (Kept.rd (P:=fun w B => Rd w B 2 (.slice (some ⟨bq2,o2,none⟩) (bn y).length dy) (bn y).length (LY (bn y))) HU2.out (Nat.le_refl _) (fun _ hk => HU2.out.keep hk));clear c1 d1 hrc hbc;have hai:(xa:Int) < n:=by omega
   have hbi:(ya:Int) < m:=by omega
   have hd0:decide ((xa:Int) < 0)=false:=by simp
   have hd1:decide (n≤xa)=false:=by simpa using hu1.2
   have hd2:decide ((ya:Int) < 0)=false:=by simp
   have hd3:decide (m≤ya)=false:=by simpa using hu2.2
   go_upto_region 5 with fail;refine wp_region_held_drew (S:=(fun w' => (w'.cell? ⟨bq1,o1+k*2+1,none⟩=some (.int .i64 xa))∧(w'.cell? ⟨bq2,o2+k*2+1,none⟩=some (.int .i64 ya))∧(w'.cell? ⟨rb,xa,none⟩=some (.slice (some ⟨rg,0,none⟩) m cu))∧(w'.cell? ⟨rg,ya,none⟩=some (.bool bt)))) (by kernel_rfl) ⟨(KR.out.now.1),(KR.out.now.2.1),(KR.out.now.2.2.1),(KR.out.now.2.2.2)⟩ (fun hHeld => ?_);have aY:Below wr.heap.size wr (wr.drew):=(Below.refl _ _).drew;obtain ⟨KR,U1,U2⟩:=b3 KR U1 U2 aY;replace hb:=dT hb aY;clear aY;generalize wr.drew=dw at *;refine tk 0 ?_;refine tk 1 ?_;refine tk 2 ?_;refine tk 3 ?_;refine tk 4 ?_;refine tk 5 ?_;refine tk 6 ?_;refine tk 7 ?_;refine tk 8 ?_;refine tk 9 ?_;refine tk 10 ?_;refine tk 11 ?_;refine tk 12 ?_;refine tk 13 ?_;refine tk 14 ?_;refine tk 15 ?_;refine wpAnyH_done (by kernel_rfl) ?_ _;(try clear hHeld);cases bt with
   | true =>
    have VQ:=hiQ (Hs.out HRE.out);go_wp2_with fail;go_roundw
    case rel => exact ⟨k+1,by omega,by go_num,VQ.out,U1.out.now.mono U1.out.le,U2.out.now.mono U2.out.le,hb⟩
    case measure => simp [intOf];omega
   | false =>
    have VQ:=hiQ (Hn.out HRE.out);go_wp2_with fail;go_ret;exact ⟨au (HE.out.symm.trans VQ.out).symm,hb⟩
  have Hq:=hiQ (aoR HL.out (by rw [show (bn x).length=k by omega];exact Hup.out));go_wp2_with fail;go_ret;exact ⟨au (HE.out.symm.trans Hq.out).symm,hb⟩
end Go.Proofs.YtlamhkffnlgofaaGreatDoor

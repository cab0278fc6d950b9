/- What sheaveref19.Bytes computes: the canonical bytes, or an error. Condition: what sheaveref18.Canon computes. What sheaveref19.Of computes: the hash of the canonical bytes, or an error. No condition. -/
import Derived.Test.YtlamhkffnlgofaaGreatDoorHBG
import Derived.Test.YtlamhkffnlgofaaGreatDoorHBE
import Derived.Test.YtlamhkffnlgofaaGreatDoorHAQ
set_option maxHeartbeats 4000000
set_option maxRecDepth 100000
namespace Go.Proofs.YtlamhkffnlgofaaGreatDoor
open Go.ChangeShapes Go.WideShapes Go.ChangeAt Go.RowKit
theorem Kept.aIt {w:World} {L B:Nat} {v:Value} {xs:List ay} (h:Kept (fun w => aU w B v xs) w L B):aU w w.heap.size v xs:=h.now.keep (fun _ _ => rfl) h.le
theorem aGj (ts:List ay) (A:Option Addr) (c:Nat) (t:Int) (w:World) (hI:akg ts)
  (hcn:∀ W,Below w.heap.size w W→Calls Tryz.prog 29 #[.agg #[.slice A ts.length c,.int .i64 t]] W (at7 ts t W))
  (hlen:gV ts t=0→(Lp (jk ts t.toNat)).length≤1000000000000) :
  Calls Tryz.prog 23 #[.agg #[.slice A ts.length c,.int .i64 t]] w fun e w' => e = .returned (.tuple #[.string ⟨(aj2 ts t).1.toArray⟩,.int .i64 (aj2 ts t).2])∧Below w.heap.size w w':=by
 have HCN:=hiQ hcn;have HL:=hiQ hlen;have HI:=hiQ hI;unfold at7 at HCN;clear hcn hlen hI;go_enter Tryz.func23,Tryz.ntmps23
 go_upto_region 1 with fail;refine aO (fun wd2 hb1 P => ?_);have hw3:=hb1;clear hb1;obtain ⟨afM,XD⟩:=P.out.c2;go_wp2_with fail;clear afM XD;((with_reducible refine (HCN.out _ hw3).mono ?_);rintro e wd4 ⟨hb5,hpost⟩);replace P:=b1 P hb5;replace hw3:=dT hw3 hb5;clear hb5;rcases hpost with ⟨hr,rfl⟩ | ⟨hr,A2,c2,rfl,hus⟩
 ·
  have hb:Hid (aj2 ts t=([],gV ts t)):=by show _=_;unfold aj2;rw [if_pos hr]
  have t1:(gV ts t == 0)=false:=by simpa using hr
  clear hr;generalize gV ts t=re at *;go_upto_region 2 with fail;refine aO (fun jC hb6 Q => ?_);have kH:=P.out.here;have oC:=hw3.size;replace P:=b1 P hb6;replace hw3:=dT hw3 hb6;clear hb6;generalize wd4.heap.size=g8 at *;go_wp2_with fail;exact bodyPost_ret (v:=.tuple #[.string ⟨#[]⟩,.int .i64 re]) (by simp [results,Tryz.results23,go_sem]) rfl (⟨by rw [hb.out],hw3⟩)
 obtain ⟨hv,ht0,htl⟩:=aro hr;have anr:t.toNat < ts.length:=by omega
 have hvu:=akP hv anr;have hIu:=ari hv anr HI.out;have hpos:=(aqC (FP hv) anr).lt.2;have hlen:=HL.out hr;have hb0:(alu (jk ts t.toNat)).2.2≠0→aj2 ts t=([],(alu (jk ts t.toNat)).2.2):=fun h => by unfold aj2;rw [if_neg (by simpa using hr),if_pos h]
 have hb1:(alu (jk ts t.toNat)).2.2=0→aj2 ts t=(Lp (jk ts t.toNat),0):=fun h => by unfold aj2;rw [if_neg (by simpa using hr),if_neg (by simpa using h)]
 generalize jk ts t.toNat=us at *;have hD:=aw1 hvu;have hin:=anY hvu hIu;have h32:=(ni hvu).1;have hsz:Sizes us:=fun x hx => by have h:=hin x hx;have:=h.syms.1;have:=h.ah.1;exact ⟨by omega,by omega⟩
 have hfull:acM us→∀ x ∈ us,∀ m ∈ x.ah,m.eG=true→aq7 us m.dflt m.ty:=fun hD x hx m hm hd => aHW hvu (nodes m.dflt) m.dflt m.ty (Nat.le_refl _) (hD x hx m hm hd);have FI:=hiQ hin;have HLEN:=hiQ hlen;have aAT:=hiQ hfull;have HB0:=hiQ hb0;have HB1:=hiQ hb1;have HSZ:=hiQ hsz;have HD:=hiQ hD;obtain ⟨z,hz⟩ : ∃ z,z=wd4.heap.size:=⟨_,rfl⟩
 rw [← hz] at hus;have T:=hiQ (Kept.rd (P:=fun w B => aU w B (.slice A2 us.length c2) us) hus (Nat.le_of_eq hz) (fun w' hk => hus.keep hk (Nat.le_refl _)));clear hin hlen hfull hb0 hb1 hsz hD hvu hIu hv ht0 htl anr hr hus hz;go_upto_region 2 with fail;refine aO (fun jC hb6 Q => ?_);have kH:=P.out.here;have oC:=T.out.le;have sH:=hw3.size;obtain ⟨P,T⟩:=b2 P T hb6;replace hw3:=dT hw3 hb6;clear hb6;generalize wd4.heap.size=g8 at *;obtain ⟨gQ,rfl⟩ : ∃ g,g=g8:=⟨_,rfl⟩
 have arv:=Q.out.e0;go_wp2_with fail;clear arv;((with_reducible refine (aHT us A2 c2 _ HSZ.out T.out.aIt).mono ?_);rintro e lZ ⟨rfl,kR⟩);obtain ⟨P,Q,T⟩:=b3 P Q T kR;replace hw3:=dT hw3 kR;clear kR;generalize alu us=dq at *;obtain ⟨d1,d2,d3⟩:=dq;simp only at HB0 HB1 HD;by_cases h3:d3=0
 ·
  subst h3;have hbe:=HB1.out rfl;have hd0:=HD.out.2 rfl;have hfull:=aAT.out hd0;have HBE:=hiQ hbe;have HFU:=hiQ hfull;clear hbe hd0 hfull HB0 HB1 HD aAT;have hlen:=HLEN.out;have HLE:=hiQ hlen;clear hlen HLEN;obtain ⟨Di,hWS⟩ : ∃ x,x=lZ:=⟨_,rfl⟩
  subst hWS;have aDx:=hw3;clear hw3;have hW0:=aDx;have hQ0:=Q.out;have hT1:aU Di Di.heap.size (.slice A2 us.length c2) us:=T.out.aIt;obtain ⟨b,o,hA2,hbz,hel⟩:=hT1.elem hpos;subst hA2;have HT:=hiQ hT1;have Ez:=hiQ hel;clear hel hT1 Q T P;have Q:=hQ0;replace Q:=hiQ Q;clear hQ0;have arv:=Q.out.e0;go_wp2_with fail;clear arv;((with_reducible refine (alA us.length (by omega) _).mono ?_);rintro e Dj ⟨rfl,aGk⟩);replace Q:=b1 Q aGk;have aKa:=aGk;clear aGk;have hQ0:=Q.out;have aD4:=aKa;obtain ⟨p0,hp0⟩ : ∃ p,p=pJ 9 us.length:=⟨_,rfl⟩
  rw [← hp0];have HBY:Hid (Lp us=p0 ++ (us.flatMap dF ++ us.flatMap (BX us))):=by show _=_;rw [hp0];rfl
  have hbl:(Lp us).length=p0.length+((us.flatMap dF).length+(us.flatMap (BX us)).length):=by rw [HBY.out,List.length_append,List.length_append]
  clear hp0;go_upto_region 9 with fail;go_loopw [9,10] (fun s9 s10 wr => ∃ k:Nat,k≤us.length∧s10 = .int .i64 k∧s9 = .string ⟨(p0 ++ (us.take k).flatMap dF).toArray⟩∧Below Di.heap.size Di wr∧Has wr gQ 27 #[.slice (some ⟨b,o,none⟩) us.length c2,.int .i64 0]) (fun _ s10 _ => us.length - (intOf s10).toNat)
  case atStart => exact ⟨0,Nat.zero_le _,rfl,by simp,aD4,hQ0⟩
  case round =>
   clear Q hQ0 aD4;obtain ⟨k,hkl,rfl,rfl,hb0,Q⟩:=hrel;replace Q:=hiQ Q;by_cases hlt:k < us.length
   ·
    obtain ⟨vs,vm,hct,hat⟩:=Ez.out k hlt;have hti:=FI.out _ (List.getElem_mem hlt);have hnx:=aoG dF us k hlt;have hle:=ali dF us (k+1);have hle0:=HLE.out;generalize us[k]=x at *;obtain ⟨C1,l1,C2,l2,rfl,rfl,-,-⟩:=hat.forms;rw [hnx,List.length_append] at hle;have hkf:=Us hti.form;have hfo:=ayB hti;have hcd:∀ m ∈ x.ah,¬ (m.akb=true∧m.eG=true):=fun m hm => (hti.ah.2 m hm).2.2;have HSG:=hiQ (fun W h => aGh x (.slice C1 x.syms.length l1) (.slice C2 x.ah.length l2) hkf hfo hcd W h);have HAT:=hiQ hat;have Y4:=hiQ hnx;obtain ⟨pr,hpr⟩ : ∃ p,p=p0 ++ (us.take k).flatMap dF:=⟨_,rfl⟩
    have aHO:pr.length=p0.length+((us.take k).flatMap dF).length:=by rw [hpr,List.length_append]
    rw [← hpr];have HPR:=hiQ hpr;have Ic:¬ 9223372036854775807 < pr.length+(dF x).length:=by omega
    have hi1:(k:Int) < us.length:=by omega
    have hd0:decide ((k:Int) < 0)=false:=by simp
    have hd1:decide (us.length≤k)=false:=by simpa using hlt
    clear hti hnx hle hat hkf hfo hcd hpr aHO hle0;obtain ⟨x0,x1,x2,x3,x4,x5,x6,x7,x8,x9⟩:=hct.below hb0 hbz;clear hct;have arv:=Q.out.e0;go_wp2_with fail;clear x0 x1 x2 x3 x4 x5 x6 x7 x8 x9 arv;((with_reducible refine (HSG.out _ (HAT.out.on hb0)).mono ?_);rintro e aMr ⟨rfl,aGl⟩);replace Q:=b1 Q aGl;replace hb0:=dT hb0 aGl;clear aGl;go_wp2_with fail;go_roundw
    case rel => exact ⟨k+1,by omega,by go_num,by rw [Y4.out,← List.append_assoc,← HPR.out,qO],hb0,Q.out⟩
    case measure => simp [intOf];omega
   obtain rfl:k=us.length:=by omega
   rw [List.take_of_length_le (Nat.le_refl _)];obtain ⟨p1,hp1⟩ : ∃ p,p=p0 ++ us.flatMap dF:=⟨_,rfl⟩
   have aEV:p1.length+(us.flatMap (BX us)).length=(Lp us).length:=by rw [hp1,List.length_append];omega
   rw [← hp1];have HP1:=hiQ hp1;clear hp1 hbl;have hQ0:=Q.out;have aD4:=hb0;have arv:=Q.out.e0;go_upto_region 13 with fail;clear arv;go_loopw [9,11] (fun s9 s11 wr => ∃ k:Nat,k≤us.length∧s11 = .int .i64 k∧s9 = .string ⟨(p1 ++ (us.take k).flatMap (BX us)).toArray⟩∧Below Di.heap.size Di wr∧Has wr gQ 27 #[.slice (some ⟨b,o,none⟩) us.length c2,.int .i64 0]) (fun _ s11 _ => us.length - (intOf s11).toNat)
   case atStart => exact ⟨0,Nat.zero_le _,rfl,by simp,aD4,hQ0⟩
   case round =>
    clear Q hQ0 aD4 hb0;obtain ⟨k,hkl,rfl,rfl,hb0,Q⟩:=hrel;replace Q:=hiQ Q;by_cases hlt:k < us.length
    ·
     obtain ⟨vs,vm,hct,hat⟩:=Ez.out k hlt;have hxm:=List.getElem_mem hlt;have hml:=(FI.out _ hxm).ah.1;have hnx:=aoG (BX us) us k hlt;have hle:=ali (BX us) us (k+1);have hle0:=HLE.out;generalize us[k]=x at *;obtain ⟨C1,l1,C2,l2,rfl,rfl,-,-⟩:=hat.forms;rw [hnx,List.length_append] at hle;have HAT:=hiQ hat;have Y4:=hiQ hnx;have HXM:=hiQ hxm;obtain ⟨q,hq⟩ : ∃ p,p=p1 ++ (us.take k).flatMap (BX us):=⟨_,rfl⟩
     have tV:q.length+(BX us x).length≤1000000000000:=by rw [hq,List.length_append];omega
     rw [← hq];have HQ:=hiQ hq;have hi1:(k:Int) < us.length:=by omega
     have hd0:decide ((k:Int) < 0)=false:=by simp
     have hd1:decide (us.length≤k)=false:=by simpa using hlt
     have x6:=(hct.below hb0 hbz).2.2.2.2.2.2.1;clear hnx hle hat hq hct hle0 hxm;have hQ0:=Q.out;have aD4:=hb0;have arv:=Q.out.e0;go_upto_region 17 with fail;clear arv x6;go_loopw [9,13] (fun s9 s13 wr => ∃ j:Nat,j≤x.ah.length∧s13 = .int .i64 j∧s9 = .string ⟨(q ++ (x.ah.take j).flatMap (Ap us)).toArray⟩∧Below Di.heap.size Di wr∧Has wr gQ 27 #[.slice (some ⟨b,o,none⟩) us.length c2,.int .i64 0]) (fun _ s13 _ => x.ah.length - (intOf s13).toNat)
     case atStart => exact ⟨0,Nat.zero_le _,rfl,by simp,aD4,hQ0⟩
     case round =>
      clear Q hQ0 aD4 hb0;obtain ⟨j,hjl,rfl,rfl,hb0,Q⟩:=hrel;replace Q:=hiQ Q;by_cases hlj:j < x.ah.length
      ·
       obtain ⟨bb1,o3,hC2,hb1,aCl⟩:=HAT.out.ah.elem (by omega);obtain ⟨dk,di,dr,hcells,hma⟩:=aCl j hlj;have hmm:=List.getElem_mem hlj;have hnx:=aoG (Ap us) x.ah j hlj;have hle:=ali (Ap us) x.ah (j+1);have hfm:=HFU.out _ HXM.out _ hmm;generalize x.ah[j]=m at *;rw [hnx,List.length_append,show (x.ah.flatMap (Ap us)).length=(BX us x).length from rfl] at hle;obtain ⟨D1,e1,D2,e2,D3,e3,rfl,rfl,rfl,-,-,-⟩:=hma.dflt.forms;have HMA:=hiQ hma.dflt;have aCm:=hiQ hnx;obtain ⟨q2,hq2⟩ : ∃ p,p=q ++ (x.ah.take j).flatMap (Ap us):=⟨_,rfl⟩
       have axz:q2.length+(Ap us m).length≤1000000000000:=by rw [hq2,List.length_append];omega
       rw [← hq2];have HQ2:=hiQ hq2;have HFM:=hiQ hfm;have hi2:(j:Int) < x.ah.length:=by omega
       have hd2:decide ((j:Int) < 0)=false:=by simp
       have hd3:decide (x.ah.length≤j)=false:=by simpa using hlj
       clear hnx hle hq2 hma hfm aCl hmm;subst hC2;obtain ⟨y0,y1,y2,y3,y4,y5,y6,y7,y8,y9,GN,GR,GU⟩:=hcells;cases hdd:m.eG with
       | false =>
        have hdm:Hid (Ap us m = []):=by show _=_;unfold Ap;rw [hdd];rfl
        have x4:=((hb0).cell (p:=⟨bb1,_,none⟩) hb1).trans y4;rw [hdd] at x4;clear hdd y0 y1 y2 y3 y4 y5 y6 y7 y8 y9 GN GR GU;go_wp2_with fail;clear x4;go_roundw
        case rel => exact ⟨j+1,by omega,by go_num,by rw [aCm.out,hdm.out,List.append_nil,HQ2.out],hb0,Q.out⟩
        case measure => simp [intOf];omega
       | true =>
        have hdm:Ap us m=gI us m.dflt m.ty:=by unfold Ap;rw [hdd];rfl
        rw [hdm] at axz;have HFC:=hiQ (HFM.out hdd);have HDM:=hiQ hdm;have Ic:¬ 9223372036854775807 < q2.length+(gI us m.dflt m.ty).length:=by omega
        have hq9:(gI us m.dflt m.ty).length≤10000000000000:=by omega
        have x4:=((hb0).cell (p:=⟨bb1,_,none⟩) hb1).trans y4;rw [hdd] at x4;clear hdd hdm y0 y1 y3 y4;go_upto_region 20 with fail;clear x4;have arv:=Q.out.e0;refine wp_region_held_drew (S:=(fun w' => w'.cell? ⟨gQ,0,none⟩=some (.slice (some ⟨b,o,none⟩) us.length c2)∧(∀ (b o:Nat),b < Di.heap.size→w'.cell? ⟨b,o,none⟩=Di.cell? ⟨b,o,none⟩))) (by kernel_rfl) ⟨arv,(fun b o hlt => hb0.cell (p:=⟨b,o,none⟩) hlt)⟩ (fun hHeld => ?_);clear arv;have aGm:Below wr.heap.size wr (wr.drew):=(Below.refl _ _).drew;replace Q:=b1 Q aGm;replace hb0:=dT hb0 aGm;clear aGm;generalize wr.drew=yF at *;refine tk 0 ?_;refine tk 1 ?_;refine tk 2 ?_;refine tk 3 ?_;refine tk 4 ?_;refine tk 5 ?_;refine tk 6 ?_;refine tk 7 ?_;refine tk 8 ?_;refine tk 9 ?_;refine tk 10 ?_;refine tk 11 ?_;refine tk 12 ?_;refine iE 13 fun K hK => ?_;go_simp;((with_reducible refine (HFC.out _ _ _ _ _ _ (HT.out.on hb0) (HMA.out.on hb0) hq9).mono ?_);rintro e aMs ⟨rfl,yG⟩);replace Q:=b1 Q yG;replace hb0:=dT hb0 yG;clear yG;(try clear hHeld);refine hK.out _ _ (⟨Q.out.cell 0,(fun b o hlt => hb0.cell (p:=⟨b,o,none⟩) hlt)⟩) (fun hHeld => ?_);clear hK K;refine tk 14 ?_;refine tk 15 ?_;refine wpAnyH_done (by kernel_rfl) ?_ _;(try clear hHeld);clear y2 y5 y6 y7 y8 y9 GN GR GU;rw [qO];go_wp2_with fail;go_roundw
        case rel => exact ⟨j+1,by omega,by go_num,by rw [aCm.out,HDM.out,← List.append_assoc,← HQ2.out],hb0,Q.out⟩
        case measure => simp [intOf];omega
      obtain rfl:j=x.ah.length:=by omega
      rw [List.take_of_length_le (Nat.le_refl _)];have hfin:Hid (p1 ++ (us.take (k+1)).flatMap (BX us)=q ++ x.ah.flatMap (Ap us)):=by show _=_;rw [Y4.out,← List.append_assoc,← HQ.out];rfl
      go_wp2_with fail;go_roundw
      case rel => exact ⟨k+1,by omega,by go_num,by rw [hfin.out],hb0,Q.out⟩
      case measure => simp [intOf];omega
    obtain rfl:k=us.length:=by omega
    rw [List.take_of_length_le (Nat.le_refl _)];have hby:p1 ++ us.flatMap (BX us)=Lp us:=by rw [HP1.out,HBY.out,List.append_assoc]
    rw [hby];have hfb:Below w.heap.size w wr:=hW0.trans ((hb0).mono (by have:=hW0.size;omega));have arv:=Q.out.e0;go_wp2_with fail;exact bodyPost_ret (v:=.tuple #[.string ⟨(Lp us).toArray⟩,.int .i64 0]) (by simp [results,Tryz.results23,go_sem]) rfl (⟨by rw [HBE.out],hfb⟩)
 have hbe:=HB0.out h3;have HBE:=hiQ hbe;have t1:(d3 == 0)=false:=by simpa using h3
 clear hbe h3 HB0 HB1 HD;go_wp2_with fail;exact bodyPost_ret (v:=.tuple #[.string ⟨#[]⟩,.int .i64 d3]) (by simp [results,Tryz.results23,go_sem]) rfl (⟨by rw [HBE.out],hw3⟩)
theorem aHY (ts:List ay) (A:Option Addr) (c:Nat) (t:Int) (w:World) (hl:(aj2 ts t).1.length≤1000000000000)
  (hb:∀ W,Below w.heap.size w W→Calls Tryz.prog 23 #[.agg #[.slice A ts.length c,.int .i64 t]] W fun e w' => e = .returned (.tuple #[.string ⟨(aj2 ts t).1.toArray⟩,.int .i64 (aj2 ts t).2])∧Below W.heap.size W w') :
  Calls Tryz.prog 24 #[.agg #[.slice A ts.length c,.int .i64 t]] w fun e w' => e = .returned (.tuple #[.int .u64 ((fpE ts t).1:Nat),.int .i64 (fpE ts t).2])∧Below w.heap.size w w':=by
 have hf:fpE ts t=if (aj2 ts t).2≠0 then (0,(aj2 ts t).2) else (ak1 ak4 (aj2 ts t).1,0):=rfl
 generalize fpE ts t=q at *;generalize aj2 ts t=p at *;obtain ⟨l,n⟩:=p;simp only at hf hb hl;have HB:=hiQ hb;clear hb;go_enter Tryz.func24,Tryz.ntmps24
 go_upto_region 1 with fail;refine aO (fun wd2 hb1 P => ?_);have hw3:=hb1;clear hb1;obtain ⟨afM,XD⟩:=P.out.c2;go_wp2_with fail;clear afM XD;((with_reducible refine (HB.out _ hw3).mono ?_);rintro e wd4 ⟨rfl,hb5⟩);replace P:=b1 P hb5;replace hw3:=dT hw3 hb5;clear hb5;by_cases hn:n=0
 ·
  subst hn;rw [if_neg (by simp)] at hf;subst hf;go_wp2_with fail;((with_reducible refine (azn l (by omega) _).mono ?_);rintro e wL ⟨rfl,rfl⟩);go_wp2_with fail;exact bodyPost_ret (v:=.tuple #[.int .u64 (ak1 ak4 l:Nat),.int .i64 0]) (by simp [results,Tryz.results24,go_sem]) rfl (⟨rfl,hw3⟩)
 rw [if_pos hn] at hf;have t1:(n == 0)=false:=by simpa using hn
 subst hf;clear hn;go_wp2_with fail;exact bodyPost_ret (v:=.tuple #[.int .u64 0,.int .i64 n]) (by simp [results,Tryz.results24,go_sem]) rfl (⟨rfl,hw3⟩)
end Go.Proofs.YtlamhkffnlgofaaGreatDoor

/- The statement DecodeRestores, and what else is used with it. No condition. -/
import Derived.Test.YtkaedmpppnnamaaGreatDoorJAR
import Derived.Test.YtkaedmpppnnamaaGreatDoorOf8
import Derived.Test.YtkaedmpppnnamaaGreatDoorJAS
import Derived.Test.YtkaedmpppnnamaaGreatDoorRPar
set_option maxHeartbeats 3200000
set_option maxRecDepth 100000
namespace Go.Proofs.YtkaedmpppnnamaaGreatDoor
open Go.ChangeMaps (open_string shut_string)
open ChangeShapes WideShapes ChangeAt RowKit
theorem aDT {us:List ay} {t:Int} {m:List UInt8} (hv:fF us=0) (ht:(bM us t).isSome=true) (hm:m.length<=4096):nX us t m = .ok (decP us 200 t m []):=by
 unfold nX;rw [gB (by simp [hv]),gB (by rw [Option.isNone_iff_eq_none];intro h;rw [h] at ht;cases ht),gB (by omega)]
theorem aD6 {g:Nat} {T:TypeId} {x y:Val} {xk xi xr yk yi yr:Value} {Q:Val->Value->Value->Value->Prop} (hx:Q x xk xi xr) (hy:Q y yk yi yr) (k:Nat) (hk:k < 2) :
  ∃ v vk vi vr,Q v vk vi vr/\∀ W,Has W g T #[.int .i64 x.kind,.bool x.bool,.int .i64 x.num,.string ⟨x.str.toArray⟩,.int .i64 x.id,xk,xi,xr,.int .i64 y.kind,.bool y.bool,.int .i64 y.num,.string ⟨y.str.toArray⟩,.int .i64 y.id,yk,yi,yr]->Cells8 W g (k*8) v vk vi vr:=by
 rcases (show k=0\/k=1 by omega) with rfl | rfl
 . exact ⟨x,xk,xi,xr,hx,fun W h => ⟨h.cell 0,h.cell 1,h.cell 2,h.cell 3,h.cell 4,h.cell 5,h.cell 6,h.cell 7⟩⟩
 exact ⟨y,yk,yi,yr,hy,fun W h => ⟨h.cell 8,h.cell 9,h.cell 10,h.cell 11,h.cell 12,h.cell 13,h.cell 14,h.cell 15⟩⟩
structure Back (ts:List ay) (t:Nat) (v:Val) (m:List UInt8) (n:Int) (pb:Bool):Prop where
 read:nX ts t m = .ok (.ok v)
 parts:wrap64 (uz ts v t)=n
 pl:cO ts true v t=pb
 zero:(n == 0)=pb
 aIk:decide (n=0)=pb
theorem aFI {ts:List ay} {t:Nat} {v:Val} {m:List UInt8} (hv:fF ts=0) (hI:∀ x ∈ ts,I64 x.low/\I64 x.high) (ht:t < ts.length) (hz:I8 v<=40000000000) (he:Je ts t v=(m,0)):∃ n pb,Back ts t v m n pb:=by
 obtain ⟨h1,h2,h3,h4⟩:=agR he;have hs:(bM ts t).isSome=true:=by unfold bM;rw [o_ (by omega)];simp [List.getElem?_eq_getElem ht]
 have h5:=Yv ts hv hI (nodes v) v t 200 [] (b_ _) h1 h3 (by omega);rw [h4] at h5 h2;obtain ⟨p1,p2⟩:=aCU ts (nodes v) v t (b_ _) h1;have p3:=aD5 ts (ae5 hv) (nodes v) v t (b_ _) h1;have p4:wrap64 (uz ts v t)=uz ts v t:=by unfold wrap64;omega
 refine ⟨_,_,by rw [aDT hv hs h2,h5],p4,rfl,?_,?_⟩
 . rw [Bool.eq_iff_iff,TL];exact p2
 rw [Bool.eq_iff_iff,decide_eq_true_iff];exact p2
theorem zGa {p:Prop} (h:p:=by
 go_wp2_with fail;go_roundw
 case rel => exact ⟨k+1,by go_num,by omega,S.out,M.out,HT.out,HV.out,HY.out,hbr⟩
 case measure => simp [intOf];omega):p:=h
theorem Ak (xs:List fJ) (vn:Value) (t0:Nat) (ht0:t0 < 256) (l:List UInt8) (hl:l.length<=140737488351232) (vl:Value) (_:xs.length<=4398046510976) (w:World) (hL:DX w) (hr:jR w w.heap.size vn xs) (hb:Rd w w.heap.size 1 vl l.length (l.map B8)) :
  Calls Tryz.prog 3 #[.agg #[vn,.int .u8 t0,vl]] w fun e w' => e = .returned (.bool true)/\Below w.heap.size w w':=by
 obtain ⟨A,c,rfl,hcap⟩:=hr.form;obtain ⟨A2,c2,rfl,hcap2⟩:=hb.form;have HR:=hiQ hr;have HB0:=hiQ hb;have HL:=hiQ hL;clear hr hb hL;cases hok:Vu xs with
 | false =>
  have HNO:=hiQ (fun W h1 h2 => akd xs (.slice A xs.length c) t0 l (.slice A2 l.length c2) W hok h1 h2);clear hok;go_enter Tryz.func3,Tryz.ntmps3
  go_upto_region 1 with fail;refine aO (fun wd2 hb1 D => ?_);have hw3:=hb1;clear hb1;obtain ⟨dW,Vl,RY⟩:=D.out.c3;go_wp2_with fail;clear dW Vl RY;((with_reducible refine (HNO.out _ (HR.out.on hw3) ((HB0.out.below hw3).mono (hw3).size)).mono ?_);rintro e wd4 ⟨rfl,hb5⟩);replace D:=b1 D hb5;replace hw3:=dT hw3 hb5;clear hb5;go_upto_region 2 with fail;refine Fj (fun jC hb6 S V U => ?_);have kH:=D.out.here;have oC:=hw3.size;replace D:=b1 D hb6;replace hw3:=dT hw3 hb6;clear hb6;generalize wd4.heap.size=g8 at *;obtain ⟨P7,aEQ,SA,TB,XC,aou,aoy,aoB⟩:=U.out.c8;go_wp2_with fail;clear P7 aEQ SA TB XC aou aoy aoB;((with_reducible refine (Eb _ (HL.out.on hw3)).mono ?_);rintro e dw ⟨rfl,fV⟩);obtain ⟨D,S,V,U⟩:=b4 D S V U fV;replace hw3:=dT hw3 fV;clear fV;go_wp2_with fail;((with_reducible refine (Eb _ (HL.out.on hw3)).mono ?_);rintro e dQ ⟨rfl,jh⟩);obtain ⟨D,S,V,U⟩:=b4 D S V U jh;replace hw3:=dT hw3 jh;clear jh;go_wp2_with fail;go_ret;exact ⟨rfl,hw3⟩
 | true =>
  have hok2:0 < xs.length/\xs.length<=5:=by unfold Vu at hok;simp at hok;omega
  have HO8:=hiQ (fun W h1 h2 => ahF xs (.slice A xs.length c) t0 ht0 l hl (.slice A2 l.length c2) W hok2 h1 h2);have htl:t0 % xs.length < (jw xs).length:=by rw [EW];exact Qo _ hok2.1
  have hval:=ac7 xs hok2.2;have hsz:=ac8 xs;have hI:=aht xs;generalize jw xs=ts at *;generalize t0 % xs.length=t at *;have aCC:=hiQ hval;have HSZ:=hiQ hsz;have HI:=hiQ hI;clear hok hval hsz hI;go_enter Tryz.func3,Tryz.ntmps3
  go_upto_region 1 with fail;refine aO (fun wd2 hb1 D => ?_);have hw3:=hb1;clear hb1;obtain ⟨dW,Vl,RY⟩:=D.out.c3;go_wp2_with fail;clear dW Vl RY;((with_reducible refine (HO8.out _ (HR.out.on hw3) ((HB0.out.below hw3).mono (hw3).size)).mono ?_);rintro e wd4 ⟨vt,x,xk,xi,xr,y,yk,yi,yr,rfl,htr,hx,hy,Vm,hyf,hxz,hyz,hb5⟩);replace D:=b1 D hb5;replace hw3:=dT hw3 hb5;clear hb5;obtain ⟨At,ct,rfl,_⟩:=htr.form;obtain ⟨X1,d1,X2,d2,X3,d3,rfl,rfl,rfl,-,-,-⟩:=hx.forms;obtain ⟨Y1,g1,Y2,g2,Y3,g3,rfl,rfl,rfl,-,-,-⟩:=hy.forms;have hxg:=BZ ts x t Vm;have HXG:=hiQ hxg;have HYG:=hiQ hyf;have HXZ:=hiQ hxz;have HYZ:=hiQ hyz;have HT:=hiQ (Kept.rd (P:=fun w B => aU w B (.slice At ts.length ct) ts) htr (b_ _) (fun _ hk => htr.keep hk (b_ _)));have HV:=hiQ (Kept.rd (P:=fun w B => ValAt w B x (.slice X1 x.keys.length d1) (.slice X2 x.items.length d2) (.slice X3 x.rest.length d3)) hx (b_ _) (fun _ hk => hx.keep hk (b_ _)));have HY:=hiQ (Kept.rd (P:=fun w B => ValAt w B y (.slice Y1 y.keys.length g1) (.slice Y2 y.items.length g2) (.slice Y3 y.rest.length g3)) hy (b_ _) (fun _ hk => hy.keep hk (b_ _)));clear htr hx hy hyf Vm hxg hxz hyz;simp only [aS];go_upto_region 2 with fail;refine Fj (fun jC hb6 S V U => ?_);have kH:=D.out.here;have oC:=HT.out.le;have sH:=HV.out.le;have hl12:=HY.out.le;have alh:=hw3.size;obtain ⟨D,HT,HV,HY⟩:=b4 D HT HV HY hb6;replace hw3:=dT hw3 hb6;clear hb6;generalize wd4.heap.size=g8 at *;obtain ⟨gS,rfl⟩ : ∃ g,g=g8:=⟨_,rfl⟩
  obtain ⟨P7,aEQ,SA,TB,XC,aou,aoy,aoB⟩:=U.out.c8;go_wp2_with fail;clear P7 aEQ SA TB XC aou aoy aoB;((with_reducible refine (Eb _ (HL.out.on hw3)).mono ?_);rintro e oZ ⟨rfl,o7⟩);obtain ⟨D,S,V,U,HT,HV,HY⟩:=b7 D S V U HT HV HY o7;replace hw3:=dT hw3 o7;clear o7;obtain ⟨P7,aEQ,SA,TB,XC,aou,aoy,aoB⟩:=U.out.c8;go_wp2_with fail;clear P7 aEQ SA TB XC aou aoy aoB;((with_reducible refine (Zr y _ _ _ _ HY.out.adF).mono ?_);rintro e yN ⟨⟨sb,rfl,hsb⟩,mG⟩);obtain ⟨D,S,V,U,HT,HV,HY⟩:=b7 D S V U HT HV HY mG;replace hw3:=dT hw3 mG;clear mG hsb;cases sb with
  | false =>
   go_wp2_with fail;((with_reducible refine (Eb _ (HL.out.on hw3)).mono ?_);rintro e yx ⟨rfl,aln⟩);obtain ⟨D,S,V,U,HT,HV,HY⟩:=b7 D S V U HT HV HY aln;replace hw3:=dT hw3 aln;clear aln;go_wp2_with fail;go_ret;exact ⟨rfl,hw3⟩
  | true =>
   obtain ⟨bK,dh,dn,dI,bG,aQ,aP,dJ⟩:=V.out.c8;obtain ⟨P7,aEQ,SA,TB,XC,aou,aoy,aoB⟩:=U.out.c8;go_upto_region 5 with fail;clear bK dh dn dI bG aQ aP dJ P7 aEQ SA TB XC aou aoy aoB;refine aO (fun fZ nU M => ?_);have Dv:=D.out.here;have Dw:=S.out.here;have Es:=V.out.here;have sJ:=U.out.here;have uP:=HT.out.le;have sN:=HV.out.le;have uQ:=HY.out.le;have sK:=hw3.size;obtain ⟨D,S,V,U,HT,HV,HY⟩:=b7 D S V U HT HV HY nU;replace hw3:=dT hw3 nU;clear nU;generalize yN.heap.size=g20 at *;obtain ⟨gM,rfl⟩ : ∃ g,g=g20:=⟨_,rfl⟩
   clear D V U;have ahZ:=HT.out;have ah0:=HV.out;have aHZ:=HY.out;go_loopw [40] (fun si wr => ∃ k:Nat,si = .int .i64 k/\k<=2/\Has wr gS 30 #[.slice At ts.length ct]/\Has wr gM 34 #[.int .i64 x.kind,.bool x.bool,.int .i64 x.num,.string ⟨x.str.toArray⟩,.int .i64 x.id,.slice X1 x.keys.length d1,.slice X2 x.items.length d2,.slice X3 x.rest.length d3,.int .i64 y.kind,.bool y.bool,.int .i64 y.num,.string ⟨y.str.toArray⟩,.int .i64 y.id,.slice Y1 y.keys.length g1,.slice Y2 y.items.length g2,.slice Y3 y.rest.length g3]/\Kept (fun w => aU w gS (.slice At ts.length ct) ts) wr 0 gS/\Kept (fun w => ValAt w gS x (.slice X1 x.keys.length d1) (.slice X2 x.items.length d2) (.slice X3 x.rest.length d3)) wr 0 gS/\Kept (fun w => ValAt w gS y (.slice Y1 y.keys.length g1) (.slice Y2 y.items.length g2) (.slice Y3 y.rest.length g3)) wr 0 gS/\Below w.heap.size w wr) (fun si _ => 2 - (intOf si).toNat)
   case atStart => exact ⟨0,rfl,by omega,S.out,M.out,ahZ,ah0,aHZ,hw3⟩
   case round =>
    clear ahZ ah0 aHZ S M HT HV HY hw3;obtain ⟨k,rfl,hk1,S,M,hHT,hHV,hHY,hbr⟩:=hrel;replace S:=hiQ S;replace M:=hiQ M;have HT:=hiQ (hHT);by_cases hlt:k < 2
    .
     obtain ⟨v,vk,vi,vr,⟨hvf,hvz,hKv⟩,hC⟩:=aD6 (g:=gM) (T:=34) (Q:=fun v vk vi vr => cO ts false v t=true/\I8 v<=40000000000/\Kept (fun w => ValAt w gS v vk vi vr) wr 0 gS) ⟨HXG.out,HXZ.out,hHV⟩ ⟨HYG.out,HYZ.out,hHY⟩ k hlt;obtain ⟨P1,q1,P2,q2,P3,q3,rfl,rfl,rfl,-,-,-⟩:=hKv.now.forms;have HV:=hiQ (hHV);have HY:=hiQ (hHY);have HZ:=hiQ (hKv);obtain ⟨y0,y1,y2,y3,y4,y5,y6,y7⟩:=hC _ M.out;have xO:(k:Int) < 2:=by omega
     have hd0:decide ((k:Int) < 0)=false:=by simp
     have hd1:decide (2<=k)=false:=by simpa using hlt
     clear hC hHT hHV hHY hKv;go_upto_region 7 with fail;clear y0 y1 y2 y3 y4 y5 y6 y7 hd0 hd1 xO;refine aO (fun ank afk E => ?_);have Et:=S.out.here;have J8:=M.out.here;have J9:=HT.out.le;have RJ:=HV.out.le;have aFJ:=HY.out.le;have RN:=HZ.out.le;have Vb:=hbr.size;obtain ⟨S,M,HT,HV,HY,HZ⟩:=b6 S M HT HV HY HZ afk;replace hbr:=dT hbr afk;clear afk;generalize wr.heap.size=g31 at *;have aH:=S.out.e0;obtain ⟨aoC,aoL,aoM,aqs,aqS,aqU,aqX,arb⟩:=E.out.c8;have hpz:=abv ts aCC.out (nodes v) v t (b_ _) hvf;have hnz:=Vo v;have HPZ:Hid (cO ts false v t=true->(fE ts v t).length<=140737488355328):=hiQ fun _ => by omega
     have HNZ:Hid (nodes v<=1000000000000):=hiQ (by omega);clear hpz hnz;go_wp2_with fail;clear aH aoC aoL aoM aqs aqS aqU aqX arb;((with_reducible refine (XV ts _ ct t v _ _ _ _ HSZ.out HNZ.out HPZ.out HT.out.NC HZ.out.adF).mono ?_);rintro e E5 ⟨rfl,aEn⟩);obtain ⟨S,M,E,HT,HV,HY,HZ⟩:=b7 S M E HT HV HY HZ aEn;replace hbr:=dT hbr aEn;clear aEn;obtain ⟨⟨m,er⟩,HEM⟩ : ∃ em,Hid (Je ts t v=em):=⟨_,hiQ rfl⟩
     rw [HEM.out];by_cases he:er=0
     .
      subst he;obtain ⟨n,pb,hbk⟩:=aFI aCC.out HI.out htl hvz HEM.out;have hkn:=ae5 aCC.out;have HD:=hiQ (fun W h => decode_any ts At ct t m W HSZ.out h);rw [hbk.read] at HD;have HK:=hiQ (fun W h => Yd ts At ct t m W HSZ.out (fun v2 h2 W vk vi vr h3 h4 => by
       rw [hbk.read] at h2;injection h2 with h2;injection h2 with h2;subst h2;exact aFK ts At ct hkn (nodes v+1) v t vk vi vr W (MX _) hvf h3 h4) h)
      rw [hbk.read,show afh ts t (.ok (.ok v))=(n,0) by unfold afh;simp only [hbk.parts]] at HK;have HP:=hiQ (fun (vk vi vr:Value) W h1 h2 => avT ts At ct hkn (nodes v+1) v t vk vi vr W (MX _) hvf h1 h2);rw [hbk.parts] at HP;have HQ:=hiQ (fun (vk vi vr:Value) W h1 h2 => aGg v ts At ct t vk vi vr W hkn h1 h2);rw [hbk.pl] at HQ;have hz1:=hbk.zero;have hz2:=hbk.aIk;clear hbk hkn HEM;have aH:=S.out.e0;go_wp2_with fail;clear aH;((with_reducible refine (HD.out _ HT.out.NC).mono ?_);rintro e amm ⟨aD7,ek,ei,er,rfl,hvb⟩);obtain ⟨S,M,E,HT,HV,HY,HZ⟩:=b7 S M E HT HV HY HZ aD7;replace hbr:=dT hbr aD7;clear aD7;obtain ⟨R1,j1,R2,j2,R3,j3,rfl,rfl,rfl⟩ : ∃ R1 j1 R2 j2 R3 j3,ek = .slice R1 v.keys.length j1/\ei = .slice R2 v.items.length j2/\er = .slice R3 v.rest.length j3:=by
       obtain ⟨_,⟨R1,j1,h1,_⟩,_⟩:=hvb.keys;obtain ⟨_,⟨R2,j2,h2,_⟩,_⟩:=hvb.items;obtain ⟨_,R3,j3,h3,_⟩:=hvb.rest;exact ⟨R1,j1,R2,j2,R3,j3,h1,h2,h3⟩
      have HW:=hiQ (Kept.BU hvb rfl);clear hvb;simp only [aS];have MZV:=Has.made amm 34 #[.int .i64 0,.bool false,.int .i64 0,.string ⟨#[]⟩,.int .i64 0,.slice none 0 0,.slice none 0 0,.slice none 0 0];go_upto_region 10 with (refine yH rfl 34 _ _ rfl amm.heap.size _ rfl rfl 34 _ MZV (by kernel_rfl) rfl (by simp [Value.oneCell']) ?_)
      clear MZV;generalize Zu:amm.alloc _=Vq;have ⟨adJ,KN⟩:=uj Zu;clear Zu;have alX:=S.out.here;have alY:=M.out.here;have alZ:=E.out.here;have aGX:=HT.out.le;have amb:=HV.out.le;have amc:=HY.out.le;have aia:=HZ.out.le;have aib:=HW.out.le;have aic:=hbr.size;obtain ⟨S,M,E,HT,HV,HY,HZ,HW⟩:=b8 S M E HT HV HY HZ HW adJ;replace hbr:=dT hbr adJ;clear adJ;generalize amm.heap.size=g46 at *;generalize awD:Vq.setRow _ _=ajg;obtain ⟨S,M,E,HT,HV,HY,HZ,HW⟩:=f8 S M E HT HV HY HZ HW (eR awD);replace KN:=dV KN awD;replace hbr:=tr hbr awD;clear awD;obtain ⟨gA,rfl⟩ : ∃ g,g=g46:=⟨_,rfl⟩
      have aH:=S.out.e0;go_wp2_with fail;clear aH;((with_reducible refine (HK.out _ HT.out.NC).mono ?_);rintro e aJv ⟨rfl,aD9⟩);obtain ⟨S,M,E,KN,HT,HV,HY,HZ,HW⟩:=b9 S M E KN HT HV HY HZ HW aD9;replace hbr:=dT hbr aD9;clear aD9;obtain ⟨aIa,aIb,aIc,aId,aIe,aIf,aIg,aIh⟩:=KN.out.c8;obtain ⟨aoC,aoL,aoM,aqs,aqS,aqU,aqX,arb⟩:=E.out.c8;go_wp2_with fail;have TN:=hiQ (fun W h1 h2 => Ji v v (.slice R1 v.keys.length j1) (.slice R2 v.items.length j2) (.slice R3 v.rest.length j3) (.slice P1 v.keys.length q1) (.slice P2 v.items.length q2) (.slice P3 v.rest.length q3) W h1 h2);simp only [aS,(vM v v).2 rfl] at TN HP HQ;clear aIa aIb aIc aId aIe aIf aIg aIh aoC aoL aoM aqs aqS aqU aqX arb;((with_reducible refine (TN.out _ HW.out.adF HZ.out.adF).mono ?_);rintro e aio ⟨rfl,adP⟩);obtain ⟨S,M,E,KN,HT,HV,HY,HZ,HW⟩:=b9 S M E KN HT HV HY HZ HW adP;replace hbr:=dT hbr adP;clear adP;have aH:=S.out.e0;obtain ⟨aoC,aoL,aoM,aqs,aqS,aqU,aqX,arb⟩:=E.out.c8;go_wp2_with fail;clear aH aoC aoL aoM aqs aqS aqU aqX arb;((with_reducible refine (HP.out _ _ _ _ HZ.out.adF HT.out.NC).mono ?_);rintro e al9 ⟨rfl,aEa⟩);obtain ⟨S,M,E,KN,HT,HV,HY,HZ,HW⟩:=b9 S M E KN HT HV HY HZ HW aEa;replace hbr:=dT hbr aEa;clear aEa;have aH:=S.out.e0;obtain ⟨aoC,aoL,aoM,aqs,aqS,aqU,aqX,arb⟩:=E.out.c8;go_wp2_with fail;clear aH aoC aoL aoM aqs aqS aqU aqX arb;((with_reducible refine (HQ.out _ _ _ _ HT.out.NC HZ.out.adF).mono ?_);rintro e ama ⟨rfl,O1⟩);obtain ⟨S,M,E,KN,HT,HV,HY,HZ,HW⟩:=b9 S M E KN HT HV HY HZ HW O1;replace hbr:=dT hbr O1;clear O1
      exact zGa
     have he2:¬ er=0:=he;exact zGa
    have xO:¬ (k:Int) < 2:=by omega
    go_wp2_with fail;go_ret;exact ⟨rfl,hbr⟩

namespace fr_DecodeRestores
theorem lifted (os:Os) (started:os.Started) (H:Type) (enc:TypeId × Value->H) :
    ReturnsInHanded {} Tryz.checked os 3 .any (fun w args => (Rows.decodeRestoresSpec.pre enc Tryz.prog Tryz.f3 [] false w args/\laidMetH Tryz.prog Ry w)/\sizedMet enc Tryz.prog Tryz.f3 (OpenSpec.ofChange Rows.decodeRestoresSpec) false w args) (Rows.decodeRestoresSpec.post enc Tryz.prog Tryz.f3 false true false false):=by
  refine returnsInHanded_of_change_and (C:=Tryz.checked) (X:=fun w _ => laidMetH Tryz.prog Ry w) (fun _ _ _ hh h => h.of_heap hh) ad3 started (by kernel_rfl) Tryz.func3
    (ChangeSpec.witness_shaped (enc:=enc) (C:=Tryz.checked) (os:=os) (X:=fun w _ => laidMetH Tryz.prog Ry w) false (World.doorLaid Tryz.prog 400 os) #[.agg #[.slice none 0 0,.int .u8 0,.slice none 0 0]] 8 rfl (World.shaped_of_RefB (by kernel_rfl) (by kernel_rfl)) (by kernel_rfl) (by kernel_rfl) (by kernel_rfl) (door_met os _)) ?_
  intro W base args ds gs before hval0 hW hcnd hsz0 hLd _;have hsz:(DataW.weightsEach Tryz.prog (Tryz.f3.params.toList ++ Rows.decodeRestoresSpec.plain.varTypes Tryz.prog) (ds ++ gs)).all (· <= reachBytes)=true:=hsz0;have hval:∀ (j:Nat) t v,Tryz.f3.params[j]?=some t->args[j]?=some v->Value.okWide Tryz.prog W .any base t v:=hval0;have hW':=hW;have hlt:∀ p ∈ before,p.block < W.heap.size:=fun p hp => hW.lt p hp;obtain ⟨p,q,hA0,hV,rfl,hfz,hnd⟩:=hW;have hA:DataW.TrodAll enc Tryz.prog W 0 (fun _ => true) true Tryz.f3.params.toList args.toList ds p:=hA0;have hA2:=hA;rw [Tryz.params3] at hA hval hsz;obtain ⟨v0,vs0,d0,ds0,p0,q0,hargs,rfl,hpq,h0,r0⟩:=trodAll_cons hA;obtain ⟨rfl,rfl,rfl⟩:=trodAll_nil r0;obtain rfl:args = #[v0]:=by cases args;simp_all
  obtain ⟨rfl,rfl⟩:=trodVars_none hV;obtain ⟨a0,n0,t0,b0,c0,rfl,s0,m0,k0,u0,z0⟩:=Ym (hval 0 27 v0 rfl rfl) h0 (ZG hsz (j:=0) rfl (by simp));clear hA0 hval0;refine (Ak a0 n0 t0 s0 b0 m0 c0 k0 W (aho hLd) u0 z0).mono fun e W' ⟨he,bel⟩ => ?_;subst he;exact ⟨_,rfl,_,_,_,[],_,[],hW',trodAll_mk1 (shut_bool Tryz.underlying4 _),UN ad4 bel _ _ _ _ (by kernel_rfl) hA2 (fun x hx => hlt x (by simpa using hx)),rfl,bel.frame _,fun h => by cases h⟩
theorem proved:Rows.DecodeRestoresSaid :=
  OpenClaim.holds_of_wide 3 Tryz.f3 rfl rfl rfl rfl rfl rfl rfl ⟨rfl,rfl,rfl,rfl,rfl⟩ rfl rfl rfl rfl rfl (by kernel_rfl) Tryz.func3 (by kernel_rfl)
    (of_decide_eq_true (by kernel_rfl)) (by unfold Func.isWrapper;first | (rw [o_ (by decide +kernel)];kernel_rfl) | (rw [gB (by decide +kernel)];exact ⟨rfl,rfl⟩))
    (fun os started H enc _ => lifted os started H enc)
#print axioms proved
theorem card:Rows.DecodeRestoresCardSaid :=
  Claim7.holds_tied_plain_at .later [] [.data,.data,.data,.data] true _ false proved (fun _ h => by cases h) (by kernel_rfl) (fun _ h => by cases h) decodeRestores_row_tie rfl ⟨rfl,rfl⟩ (by kernel_rfl) rfl
    (fun f fn hf hfn => by
      obtain rfl:f=3:=Option.some.inj ((show Tryz.prog.funcNamed "sheave/sheavelaw10.DecodeRestores" = some 3 by kernel_rfl).symm.trans hf) |>.symm;obtain rfl:fn=Tryz.f3:=(Option.some.inj (Tryz.func3.symm.trans hfn)).symm;exact ⟨by kernel_rfl,fun j t ht => by
        rw [Tryz.params3] at ht;have hm:t ∈ [27]:=by simpa using Array.mem_of_getElem? ht
        have hall:([27].all fun u => !Tryz.prog.wantsStandIn u)=true:=by kernel_rfl
        exact (show Tryz.prog.wantsStandIn t=false by simpa using QD.1 hall t hm)⟩)
    (by kernel_rfl)
#print axioms card
end fr_DecodeRestores

/- union. No condition. -/
import Derived.Test.YtkaedmpppnnamaaGreatDoorHAI
set_option maxHeartbeats 800000
set_option maxRecDepth 100000
namespace Go.Proofs.YtkaedmpppnnamaaGreatDoor
open ChangeShapes WideShapes ChangeAt RowKit
theorem acH {l r:List UInt8} {n:Nat} (h:Jv l=some (n,r)):1<=n/\n<=1000/\r.length<=l.length:=by
 unfold Jv at h;split at h
 . cases h
 rename_i m q hq;split at h
 . cases h
 injection h with h;injection h with h1 h2;subst h1;subst h2;obtain ⟨k,_,_,h3,_⟩:=EN hq;subst h3;refine ⟨by omega,by omega,by simp⟩
theorem acI
 (ts:List ay) (tv:Value) (gr:Nat) (fp:Value) (fn:Int) (path:List Int) (p:List UInt8) (rec:Int->List UInt8->List Int->mX) (x:ay) (vs vm:Value) (w:World) (hk:x.kind=6) (hp:path.length < 200) (hpl:p.length<=800000)
 (R:lC w gr tv fp fn path) (ht:aU w gr tv ts) (hx:jc w gr x vs vm) (HP:Iq ts gr tv rec path) (hm:∀ m ∈ x.ah,(bM ts m.ty).isSome=true) :
 Calls Tryz.prog 80 #[.pointer (some ⟨gr,0,none⟩),dA x vs vm,.string ⟨p.toArray⟩] w (eu gr tv path w (fH rec x p path)):=by
 have HA:=hiQ (fun W => ag4 p W);obtain ⟨C1,l1,C2,l2,rfl,rfl,-,-⟩:=hx.forms;have HX:=hiQ hx;have HT:=hiQ ht;have Tt:=hiQ HP;have HM:=hiQ hm;have mY:=hiQ hk;have hxs:=hx.lens;clear hx ht HP hm;have hgr:=R.here;replace R:=hiQ (nS.of R);have KP:=cZ.refl w gr;go_enter Tryz.func80,Tryz.ntmps80
 go_upto_region 1 with fail;refine jg (fun wd2 hb1 X Z => ?_);replace R:=rB R hb1;replace KP:=kB KP hgr hb1;clear hb1;cases ha:Jv p with
 | none =>
  have HR:Hid (fH rec x p path = .error (path,1)):=by show _=_;simp [fH,mY.out,ha]
  simp only [ha] at HA;clear ha;go_wp2_with fail;((with_reducible refine (HA.out _).mono ?_);rintro e wd3 ⟨rfl,hb4⟩);obtain ⟨X,Z⟩:=b2 X Z hb4;replace R:=rB R hb4;replace KP:=kB KP hgr hb4;clear hb4;go_upto_region 3 with fail;have hz:=Z.out.here;go_wp2_with fail;((with_reducible refine (kD gr _ _ _ path 1 _ (by omega) R.out.at_).mono ?_);rintro e fG hp);obtain ⟨c0,c1,c2,c3,c4,c5,c6,c7,bb,h1',rfl⟩:=hp.form;have Z2:=lK Z hp.keep (by omega) (by decide);go_wp2_with (refine yH rfl 34 _ _ rfl (w.heap.size+1) _ rfl rfl 34 _ Z2.out (by kernel_rfl) rfl (by simpa using h1') ?_)
  obtain ⟨z0,z1,z2,z3,z4,z5,z6,z7⟩:=(kF Z2.out #[c0,c1,c2,c3,c4,c5,c6,c7]).c8;exact vJ (v:=.tuple #[.agg #[c0,c1,c2,c3,c4,c5,c6,c7],.bool bb]) (by simp [results,Tryz.results80,go_sem,z0,z1,z2,z3,z4,z5,z6,z7]) rfl (by rw [HR.out];exact hp.tail KP hgr (by omega) hz Z2.out (by decide))
 | some g =>
  obtain ⟨id,r⟩:=g;obtain ⟨hi1,hi2,hrl⟩:=acH ha;simp only [ha] at HA;have HD:Hid (fH rec x p path=match dN x id with
   | none => if x.opn then .ok (.mk 6 false 0 [] id [] [] [((id:Int),r)]) else .error (path,5)
   | some i => aeB (fun v => .mk 6 false 0 [] id [] [v] []) (rec ((x.ah[i]?.map Mem.ty).getD 0) r (path ++ [(id:Int)]))):=by
   show _=_;simp only [fH,mY.out,ha];rw [gB (by decide),gB (by decide),gB (by decide),gB (by decide),gB (by decide),o_ trivial];cases dN x id with
   | none => rfl
   | some i => simp only [];cases rec ((x.ah[i]?.map Mem.ty).getD 0) r (path ++ [(id:Int)]) <;> rfl
  clear ha;go_wp2_with fail;((with_reducible refine (HA.out _).mono ?_);rintro e wd3 ⟨rfl,hb4⟩);obtain ⟨X,Z⟩:=b2 X Z hb4;replace R:=rB R hb4;replace KP:=kB KP hgr hb4;clear hb4;obtain ⟨aK,bJ,bY,bZ,dL,eX,bU,dD,dM,dU⟩:=X.out.c10;go_upto_region 5 with fail;clear aK bJ bY bZ dL eX bU dD dM dU;refine aO (fun wL hb5 V => ?_);have mO:=X.out.here;have kH:=Z.out.here;have oC:=KP.size;obtain ⟨X,Z⟩:=b2 X Z hb5;replace R:=rB R hb5;replace KP:=kB KP hgr hb5;clear hb5;generalize wd3.heap.size=g7 at *;have HS:=hiQ (fun W h => Qn x (.slice C1 x.syms.length l1) (.slice C2 x.ah.length l2) id W h);simp only [dA,hk] at HS;obtain ⟨aK,bJ,bY,bZ,dL,eX,bU,dD,dM,dU⟩:=X.out.c10;go_wp2_with fail;clear aK bJ bY bZ dL eX bU dD dM dU;((with_reducible refine (HS.out _ (HX.out.keep (fun _ hp => KP.low.cell hp) (Qy (u_ hgr KP.size)))).mono ?_);rintro e dw ⟨rfl,fV⟩);obtain ⟨X,Z,V⟩:=b3 X Z V fV;replace R:=rB R fV;replace KP:=kB KP hgr fV;clear fV HS;cases lY:dN x id with
  | none =>
   simp only [lY] at HD;simp only [xg,OU];clear lY;cases hop:x.opn with
   | false =>
    simp only [hop] at HD;have dU:=X.out.e9;rw [hop] at dU;have Hop:=hiQ hop;clear hop;go_upto_region 11 with fail;have hz:=Z.out.here;go_wp2_with fail;clear dU;((with_reducible refine (kD gr _ _ _ path 5 _ (by omega) R.out.at_).mono ?_);rintro e dQ hp);obtain ⟨c0,c1,c2,c3,c4,c5,c6,c7,bb,h1',rfl⟩:=hp.form;have Z2:=lK Z hp.keep (by omega) (by decide);go_wp2_with (refine yH rfl 34 _ _ rfl (w.heap.size+1) _ rfl rfl 34 _ Z2.out (by kernel_rfl) rfl (by simpa using h1') ?_)
    obtain ⟨z0,z1,z2,z3,z4,z5,z6,z7⟩:=(kF Z2.out #[c0,c1,c2,c3,c4,c5,c6,c7]).c8;exact vJ (v:=.tuple #[.agg #[c0,c1,c2,c3,c4,c5,c6,c7],.bool bb]) (by simp [results,Tryz.results80,go_sem,z0,z1,z2,z3,z4,z5,z6,z7]) rfl (by rw [HD.out];exact hp.tail KP hgr (by omega) hz Z2.out (by decide))
   | true =>
    simp only [hop] at HD;have dU:=X.out.e9;rw [hop] at dU;have Hop:=hiQ hop;clear hop;have fa:=SL V 7;have ca:=Pv (V.out.cell 7);go_upto_region 13 with fail;clear fa ca dU;generalize lW:dw.alloc _=oZ;have ⟨kR,G⟩:=uj lW;clear lW;have sO:=X.out.here;have sW:=Z.out.here;have Az:=V.out.here;have BQ:=KP.size;obtain ⟨X,Z,V⟩:=b3 X Z V kR;replace R:=rB R kR;replace KP:=kB KP hgr kR;clear kR;generalize dw.heap.size=g16 at *;generalize qj:oZ.setCell _ _=jU;obtain ⟨X,Z,G⟩:=f3 X Z G (eF qj);replace R:=rF R V qj.symm (by decide) (by omega);replace KP:=kS KP hgr qj.symm (by omega);replace V:=Ky V qj;clear qj;obtain ⟨bK,dh,dn,dI,bG,aQ,aP,dJ⟩:=V.out.c8;go_wp2_with (refine sR Z.out ?_)
    clear bK dh dn dI bG aQ aP dJ;generalize o8:jU.setRow _ _=o9;obtain ⟨X,V,G⟩:=f3 X V G (eR o8);replace R:=rR R Z o8.symm (by decide) (by omega);replace KP:=vU KP hgr o8.symm (by omega);replace Z:=dV Z o8;clear o8;exact vJ (v:=.tuple #[.agg #[.int .i64 6,.bool false,.int .i64 0,.string ⟨#[]⟩,.int .i64 id,.slice none 0 0,.slice none 0 0,.slice (some ⟨g16,0,none⟩) 1 1],.bool true]) (by simp [results,Tryz.results80,go_sem,Z.out.c8]) rfl (eu.good (v:=.mk 6 false 0 [] id [] [] [((id:Int),r)]) HD.out R KP (aew G.out (by decide) (by omega) (by unfold I64;omega) (by unfold I64;omega) (by omega)))
  | some i =>
   have hlt:=zG x id i lY;have HM1:=hiQ (HM.out x.ah[i] (jl hlt));simp only [lY,m_ hlt,Option.map_some,V8] at HD;simp only [xg,M_];clear lY;obtain ⟨b2,o2,rfl,Ew,hel⟩:=HX.out.ah.elem (by omega);obtain ⟨vk,vi,vr,hcells,_⟩:=hel i hlt;have hm2:=(KP.low.cell (p:=⟨b2,o2+i*13+2,none⟩) Ew).trans hcells.2.2.1;clear hel hcells;have HPQ:=hiQ (fun (W:World) (fp':Value) (fn':Int) h1 h2 => Tt.out W fp' fn' id x.ah[i].ty r h1 h2 HM1.out (by omega));generalize rec x.ah[i].ty r (path ++ [(id:Int)])=q at *;generalize x.ah[i].ty=mt at *;have bU:=X.out.e6;have xO:(i:Int) < x.ah.length:=by omega
   have hd0:decide ((i:Int) < 0)=false:=by simp
   have hd1:decide (x.ah.length<=i)=false:=by simpa using hlt
   go_wp2_with fail;clear bU;have BQ:=X.out.here;have Dv:=Z.out.here;have Dw:=V.out.here;have Es:=KP.size;((with_reducible refine (HPQ.out _ _ _ R.out.at_ (HT.out.keep (fun _ hp => KP.low.cell hp) (b_ _))).mono ?_);rintro e dQ amQ);obtain ⟨ap5,ap6,pR,pU,pV,pW,pX,pY,qc,qg,EZ,rE,rfl,amR,WL,N⟩:=amQ.take;replace X:=lK X WL (by omega) (by decide);replace Z:=lK Z WL (by omega) (by decide);replace V:=lK V WL (by omega) (by decide);replace R:=hiQ amR;replace KP:=KP.trans WL;replace N:=hiQ N;clear WL;have zh:(#[pR,pU,pV,pW,pX,pY,qc,qg] : Array Value).all (·.oneCell')=true:=by simpa using rE
   generalize dw.heap.size=L14 at *;have M5:=Has.made dQ 34 #[.int .i64 0,.bool false,.int .i64 0,.string ⟨#[]⟩,.int .i64 0,.slice none 0 0,.slice none 0 0,.slice none 0 0];go_upto_region 8 with (refine yH rfl 34 _ _ rfl dQ.heap.size _ rfl rfl 34 _ M5 (by kernel_rfl) rfl zh ?_)
   clear M5;generalize CZ:dQ.alloc _=pF;have ⟨vg,I⟩:=uj CZ;clear CZ;have sK:=X.out.here;have uO:=Z.out.here;have uh:=V.out.here;have Bc:=N.out.le;have Et:=KP.size;obtain ⟨X,Z,V,N⟩:=b4 X Z V N vg;replace R:=rB R vg;replace KP:=kB KP hgr vg;clear vg;generalize dQ.heap.size=N9 at *;generalize jD:pF.setRow _ _=wR;obtain ⟨X,Z,V,N⟩:=f4 X Z V N (eR jD);replace R:=rR R I jD.symm (by decide) (by omega);replace KP:=vU KP hgr jD.symm (by omega);replace I:=dV I jD;clear jD;obtain ⟨iF,iG,iH,iI,bT,gU,dH,bV⟩:=I.out.c8;have fa:=SL V 6;have ca:=Pv (V.out.cell 6);go_upto_region 9 with fail;clear fa ca iF iG iH iI bT gU dH bV;generalize aaM:wR.alloc _=aqg;have ⟨afl,G⟩:=uj aaM;clear aaM;have ah2:=X.out.here;have ah3:=Z.out.here;have ah4:=V.out.here;have Zo:=I.out.here;have ahK:=N.out.le;have alU:=KP.size;obtain ⟨X,Z,V,I,N⟩:=b5 X Z V I N afl;replace R:=rB R afl;replace KP:=kB KP hgr afl;clear afl;generalize wR.heap.size=g38 at *;generalize WO:aqg.setCell _ _=ah5;obtain ⟨X,Z,I,G,N⟩:=f5 X Z I G N (eF WO);replace R:=rF R V WO.symm (by decide) (by omega);replace KP:=kS KP hgr WO.symm (by omega);replace V:=qM V WO;clear WO;obtain ⟨bK,dh,dn,dI,bG,aQ,aP,dJ⟩:=V.out.c8;go_wp2_with (refine sR Z.out ?_)
   clear bK dh dn dI bG aQ aP dJ;generalize ab3:ah5.setRow _ _=ah6;obtain ⟨X,V,I,G,N⟩:=f5 X V I G N (eR ab3);replace R:=rR R Z ab3.symm (by decide) (by omega);replace KP:=vU KP hgr ab3.symm (by omega);replace Z:=dV Z ab3;clear ab3;have hNl:=N.out.le;have HF:Hid (eu gr tv path w (fH rec x p path) (.returned (.tuple #[.agg #[.int .i64 6,.bool false,.int .i64 0,.string ⟨#[]⟩,.int .i64 id,.slice none 0 0,.slice (some ⟨g38,0,none⟩) 1 1,.slice none 0 0],.bool EZ])) ah6):=by
    show eu _ _ _ _ _ _ _;have hN:=N.out.now;cases q with
    | ok v =>
     obtain ⟨rfl,vk,vi,vr,hc,hv⟩:=hN;exact eu.good (v:=.mk 6 false 0 [] id [] [v] []) (by rw [HD.out];rfl) R KP (Wx hv (by omega) hNl (by rw [<- hc];exact G.out) (by decide) (by omega) (by unfold I64;omega) (by unfold I64;omega))
    | error pn =>
     exact zGp
   exact vJ (v:=.tuple #[.agg #[.int .i64 6,.bool false,.int .i64 0,.string ⟨#[]⟩,.int .i64 id,.slice none 0 0,.slice (some ⟨g38,0,none⟩) 1 1,.slice none 0 0],.bool EZ]) (by simp [results,Tryz.results80,go_sem,Z.out.c8]) rfl (HF.out)

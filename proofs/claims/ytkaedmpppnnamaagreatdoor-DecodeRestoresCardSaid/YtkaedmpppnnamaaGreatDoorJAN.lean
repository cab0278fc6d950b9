/- What the maker's value leaves, kind 5, and what else is used with it. No condition. -/
import Derived.Test.YtkaedmpppnnamaaGreatDoorValueD
import Derived.Test.YtkaedmpppnnamaaGreatDoorJAK
set_option maxHeartbeats 3200000
set_option maxRecDepth 100000
namespace Go.Proofs.YtkaedmpppnnamaaGreatDoor
open ChangeShapes WideShapes ChangeAt RowKit
theorem Hw (ts:List ay) (pl:Bool) (y:Val) (m:Mem) (hy:cO ts pl y m.ty=true):∀ (xs:List Val) (ms:List Mem),qL ts pl xs ms=true->qL ts pl (xs ++ [y]) (ms ++ [m])=true
 | [],[],_ => by simp [qL,hy]
 | x :: xs,q :: ms,h => by
  rw [qL,j_] at h;rw [Qu,Qu,qL,h.1,Hw ts pl y m hy xs ms h.2];rfl
 | [],_ :: _,h => by rw [qL] at h;cases h
 | _ :: _,[],h => by rw [qL] at h;cases h
theorem XB (w:World) (S:Nat->Prop) (A:Option Addr) (c:Nat):lM w S (.slice A 0 c) []:=⟨fun _ => [],⟨A,c,rfl,VZ _,.inl rfl⟩,fun i h => by simp at h⟩
theorem ahB {w:World} {B:Nat} {x:Val} {vk vi vr:Value} (h:ValAt w B x vk vi vr) (hb:x.keys = []/\x.items = []/\x.rest = []) (W:World):jq W (fun _ => False) x vk vi vr:=by
 obtain ⟨A1,c1,A2,c2,A3,c3,rfl,rfl,rfl,-,-,-⟩:=h.forms;refine ⟨h.ints,h.AL,h.FH,h.Ie,?_,?_,?_⟩
 . rw [hb.1];exact XB _ _ _ _
 . rw [hb.2.1];exact XB _ _ _ _
 rw [hb.2.2];exact ⟨rfl,A3,c3,rfl,VZ _,.inl rfl⟩
theorem agK {w:World} {S:Nat->Prop} (xs:List Val) (v:Value) (rs:List Raw) (vr:Value) (hl:xs.length<=1172812402926) (h:lM w S v xs) (hrl:rs.length<=5864062014634) (hr:∀ r ∈ rs,yR r) (h2:IB w S 2 vr rs.length (jO rs)):jq w S (.mk 5 false 0 [] 0 [] xs rs) (.slice none 0 0) v vr :=
 ⟨⟨by simp [Val.kind,I64],by simp [Val.num,I64],by simp [Val.id,I64]⟩,by simp [Val.str],⟨by simp [Val.keys],by simpa [Val.items] using hl,by simpa [Val.rest] using hrl⟩,hr,
  ⟨fun _ => [],⟨none,0,rfl,b_ _,.inl rfl⟩,fun i h => by simp [Val.keys] at h⟩,h,h2⟩
theorem aBo {r:Nat} {lc m l':List UInt8} {y:Val} (hm:m.length<=lc.length) (h:l7 r m l' y):I8 y+600000000*l'.length<=600000000*lc.length+szB r:=by unfold l7 at h;omega
theorem aHv {r:Nat} {lc l':List UInt8} {y:Val} (hm:l'.length<=lc.length) (h:I8 y<=20):I8 y+600000000*l'.length<=600000000*lc.length+szB r:=by have:=tq r;omega
theorem arZ {a b c n y s q:Nat} (h:a+600000000*b<=c+n*s) (hy:y+600000000*q<=600000000*b+s):a+y+600000000*q<=c+(n+1)*s:=by have:=Nat.add_mul n 1 s;omega
theorem avq {r n:Nat} {l m l':List UInt8} {xs:List Val} {rs:List Raw} (h:uK xs+600000000*m.length<=600000000*l.length+n*szB r) (hn:n<=12) (hm:l'.length<=m.length) (hr:rs.length+qx rs<=10):l7 (r+1) l l' (.mk 5 false 0 [] 0 [] xs rs):=by
 have h1:=tq r;have h2:=P_ (szB r) hn;unfold l7;rw [Vp,szB];simp [Val.str,Val.rest,Val.keys,Val.items,uK];omega
theorem aFE {v:Val} (h:v.keys = []/\v.items = []/\v.rest = []) (hs:v.str.length<=10):I8 v<=20:=by
 rw [Vp,h.1,h.2.1,h.2.2];simp [uK,qx];omega
def ajX (sb:Nat) (w wr:World) (B gm gX gV:Nat) (vt:Value) (odd:Bool) (ts:List ay) (l:List UInt8) (cx cr:Array Value) (ms:List Mem) (n:Value):Prop :=
 ∃ (xs:List Val) (lc:List UInt8) (S:Nat->Prop) (AV:Option Addr) (cv:Nat),xs.length<=ms.length/\n = .int .i64 xs.length/\lc.length<=l.length /\
  Has wr gV 34 #[.int .i64 5,.bool false,.int .i64 0,.string ⟨#[]⟩,.int .i64 0,.slice none 0 0,.slice AV xs.length cv,.slice none 0 0]/\Has wr gX 72 cx/\Has wr w.heap.size 34 cr /\
  kC w B gm vt odd l lc wr/\aG wr (gV+1) S (.slice AV xs.length cv) xs/\(∀ b,S b->gV+1<=b)/\qL ts (!odd) xs (ms.take xs.length)=true/\uK xs+600000000*lc.length<=600000000*l.length+xs.length*sb
theorem zBf {p:Prop} (h:p:=by exact ⟨V.out.cell 6,⟨X.out.cell 6,(fun b o hlt => TK.out.low (p:=⟨b,o,none⟩) hlt)⟩⟩):p:=h
theorem zDu {p:Prop} (h:p:=by
 refine hK.out _ _ ?_;clear hK K;refine akJ (by kernel_rfl) ?_ _;(try clear hHeld);go_wp2_with fail;go_roundw
 case rel =>
  refine ⟨xs ++ [y0],Ep,_,Aq,cq,by rw [h_];exact hp,by simp,by omega,by simpa using V.out,X.out,R.out,TK.out,O.out.now TK.out.mJ,KZ.out,?_,by rw [uy,h_];exact arZ HZ.out (aBo (by omega) qH.out)⟩;rw [show (xs ++ [y0]).length=xs.length+1 by simp,List.take_add_one,Nv.out];exact Hw ts _ y0 y (zZ.out) xs _ HF.out
 case measure => simp [intOf];omega):p:=h
theorem aaN (B gm:Nat) (A:Option Addr) (c:Nat) (odd:Bool) (l:List UInt8) (ts:List ay) (i:Nat) (hi:i < ts.length) (w:World) (hk:ts[i].kind=5) (hml:ts[i].ah.length<=12) (hu:∀ n:Nat,15<=n->yC ts[i] n=false)
  (hdp:∀ m ∈ ts[i].ah,m.dflt.keys = []/\m.dflt.items = []/\m.dflt.rest = []) (hdf:∀ m ∈ ts[i].ah,m.eG=true->cO ts (!odd) m.dflt m.ty=true) (hds:∀ m ∈ ts[i].ah,m.dflt.str.length<=10) (him:aaO B gm (.slice A ts.length c) odd ts ts[i].ah l.length i) (hM:uG w B gm (.slice A ts.length c) odd l) (hT:aU w B (.slice A ts.length c) ts) :
  Calls Tryz.prog 40 #[.pointer (some ⟨gm,0,none⟩),.int .i64 i] w (uV w B gm (.slice A ts.length c) odd l (i+1) fun x => cO ts (!odd) x i=true):=by
 have HU:=hiQ hu;have Zf:=hiQ him;have Oo:=hiQ hdf;have HDP:=hiQ hdp;have HDS:=hiQ hds;clear hu him hdf hdp hds;have hgw:=hM.here;have hBg:=hM.le;obtain ⟨b,o,rfl,hb,hcs⟩:=hT.elem (by omega);obtain ⟨vs,vm,⟨y0,y1,y2,y3,y4,y5,y6,y7,y8,y9⟩,hty⟩:=hcs i hi;obtain ⟨C1,m1,C2,m2,rfl,rfl,-,-⟩:=hty.forms;have hi1:(i:Int) < ts.length:=by omega
 have hi0:(0:Int)<=(i:Int):=by omega
 rw [hk] at y0;have HM:=hiQ hM;have Hg:=hiQ hty;have HT:=hiQ hT;clear hcs hty hT;obtain ⟨⟨A1,c1,M,_⟩,_,_⟩:=hM;replace M:=hiQ M;obtain ⟨iU,iD,je⟩:=M.out.c3;go_enter Tryz.func40,Tryz.ntmps40
 go_upto_region 1 with fail;clear iU iD je;refine aO (fun wd2 hb1 R => ?_);replace M:=b1 M hb1;have hw3:=hb1;clear hb1;have hbl:b < w.heap.size:=by omega
 have z0:=((hw3).cell (p:=⟨b,o+i*10,none⟩) hbl).trans y0;have z1:=((hw3).cell (p:=⟨b,o+i*10+1,none⟩) hbl).trans y1;have z2:=((hw3).cell (p:=⟨b,o+i*10+2,none⟩) hbl).trans y2;have z3:=((hw3).cell (p:=⟨b,o+i*10+3,none⟩) hbl).trans y3;have z4:=((hw3).cell (p:=⟨b,o+i*10+4,none⟩) hbl).trans y4;have z5:=((hw3).cell (p:=⟨b,o+i*10+5,none⟩) hbl).trans y5;have z6:=((hw3).cell (p:=⟨b,o+i*10+6,none⟩) hbl).trans y6;have z7:=((hw3).cell (p:=⟨b,o+i*10+7,none⟩) hbl).trans y7;have z8:=((hw3).cell (p:=⟨b,o+i*10+8,none⟩) hbl).trans y8;have z9:=((hw3).cell (p:=⟨b,o+i*10+9,none⟩) hbl).trans y9;obtain ⟨iU,iD,je⟩:=M.out.c3;go_upto_region 2 with fail;clear iU iD je;refine aO (fun fG hb4 X => ?_);have nI:=M.out.here;have mO:=R.out.here;have kH:=hw3.size;obtain ⟨M,R⟩:=b2 M R hb4;replace hw3:=dT hw3 hb4;clear hb4;generalize wd2.heap.size=g6 at *;clear y0 y1 y2 y3 y4 y5 y6 y7 y8 y9 z0 z1 z2 z3 z4 z5 z6 z7 z8 z9;have aK:=X.out.e0;go_upto_region 3 with fail;clear aK;refine aO (fun dw aY V => ?_);have alh:=M.out.here;have akV:=R.out.here;have qA:=X.out.here;have alj:=hw3.size;obtain ⟨M,R,X⟩:=b3 M R X aY;replace hw3:=dT hw3 aY;clear aY;generalize fG.heap.size=g12 at *;have aK:=X.out.e0;clear M;have uq:=kC.below (kC.refl HM.out) (hw3);have TK:=hiQ (uq);clear HM uq;have HR0:=hiQ R.out;have HX0:=hiQ X.out;have Nr:=hiQ V.out;have Ns:=hiQ TK.out;have hXV:g6 < g12:=by omega
 have hRX:w.heap.size < g6:=by omega
 clear R X V TK;generalize g6=gX at *;generalize g12=gV at *;go_wp2_with fail;go_loopw [7] (fun n wr => ajX (szB i) w wr B gm gX gV (.slice (some ⟨b,o,none⟩) ts.length c) odd ts l #[.int .i64 5,.string ⟨ts[i].name.toArray⟩,.int .i64 ts[i].low,.int .i64 ts[i].high,.int .i64 ts[i].max,.slice C1 ts[i].syms.length m1,.slice C2 ts[i].ah.length m2,.int .i64 ts[i].key,.int .i64 ts[i].elem,.bool ts[i].opn] #[.int .i64 0,.bool false,.int .i64 0,.string ⟨#[]⟩,.int .i64 0,.slice none 0 0,.slice none 0 0,.slice none 0 0] ts[i].ah n) (fun n _ => ts[i].ah.length - (intOf n).toNat)
 case atStart => exact ⟨[],l,fun _ => False,none,0,by simp,rfl,b_ _,Nr.out,HX0.out,HR0.out,Ns.out,aG.nil _ _,fun _ h => h.elim,by simp [qL],by simp [uK]⟩
 case round =>
  clear Nr HX0 HR0 Ns;obtain ⟨xs,lc,S,AV,cv,hq,rfl,hlc,V,X,R,hK,hO,hS,hF,hz⟩:=hrel;have HF:=hiQ hF;have HZ:=hiQ hz;clear hF hz;replace R:=hiQ R;replace X:=hiQ X;replace V:=hiQ V;have TK:=hiQ (hK);obtain ⟨U0,Nu⟩ : ∃ U,U=wr.heap.size:=⟨_,rfl⟩
  have O:=hiQ ((show Kept (OVB w B (gV+1) S (.slice AV xs.length cv) xs) wr (gV+1) U0 from by rw [Nu];exact hO.ug (w0:=w) (B:=B) (fun q hq => .inr (hS q hq)) TK.out.mJ));have HS:=hiQ hS;have hZ1:∀ q,(Value.slice AV xs.length cv).ownBlock=some q->gV+1<=q:=fun q h => (hO.lt q h).1;have hZ2:∀ q,(Value.slice AV xs.length cv).ownBlock=some q->q < U0:=fun q h => Nu ▸ (hO.lt q h).2;have HZ1:=hiQ hZ1;have HZ2:=hiQ hZ2;clear hK hO hS Nu hZ1 hZ2;have bU:=X.out.e6;by_cases hp:xs.length < ts[i].ah.length
  .
   have hp1:(xs.length:Int) < ts[i].ah.length:=by omega
   have hp0:(0:Int)<=(xs.length:Int):=by omega
   obtain ⟨xb2,o2,rfl,hb2,hmc⟩:=Hg.out.ah.elem (by omega);obtain ⟨dk,di,dr,hc13,hma⟩:=hmc _ hp;obtain ⟨c0,c1',c2,c3,c4,c5,c6,c7,c8,c9,c10,c11,c12⟩:=hc13;obtain ⟨D1,xf1,D2,Hz,D3,yc,rfl,rfl,rfl,-,-,-⟩:=hma.dflt.forms;have H9:=m_ hp;have hmm:=jl hp;have hic:=Zf.out _ hmm;have ajY:=Oo.out _ hmm;have hdz:=aFE (HDP.out _ hmm) (HDS.out _ hmm);have ajZ:=fun {vk vi vr} (h:ValAt w B ts[i].ah[xs.length].dflt vk vi vr) W => (ahB h (HDP.out _ hmm) W).rd;generalize ts[i].ah[xs.length]=y at *;have Nv:Hid (ts[i].ah[xs.length]?.toList = [y]):=hiQ (by rw [H9];rfl);have OM:=hiQ hic;have anp:=hiQ ajY;have HDZ:=hiQ hdz;have hda:=ajZ hma.dflt;have HDA:=hiQ hda;clear hma H9 hmm hic hmc ajY hda ajZ hdz;have c4w:=(TK.out.low (p:=⟨xb2,o2+xs.length*13+4,none⟩) hb2).trans c4;cases hd:y.eG with
   | false =>
    rw [hd] at c4w c4;go_upto_region 22 with fail;have aP:=V.out.e6;refine l9 (S:=(fun w' => w'.cell? ⟨gV,6,none⟩=some (.slice AV xs.length cv)/\w'.cell? ⟨gX,6,none⟩=some (.slice (some ⟨xb2,o2,none⟩) ts[i].ah.length m2)/\(∀ (b o:Nat),b < B->w'.cell? ⟨b,o,none⟩=w.cell? ⟨b,o,none⟩))) (fun j => j == 13) (by kernel_rfl) ⟨aP,bU,(fun b o hlt => TK.out.low (p:=⟨b,o,none⟩) hlt)⟩ (fun hHeld => ?_);clear bU aP;have mG:Below wr.heap.size wr (wr.drew):=(g_ _ _).drew;obtain ⟨R,X,V,O⟩:=b4 R X V O mG;replace TK:=hiQ (TK.out.below mG);clear mG;generalize wr.drew=yx at *;refine eH 0 ?_;refine eH 1 ?_;refine eH 2 ?_;refine eH 3 ?_;refine eH 4 ?_;refine eH 5 ?_;refine eH 6 ?_;refine eH 7 ?_;refine eH 8 ?_;refine gJ 9 fun K hK => ?_;go_simp;have UJ:=O.out.le;obtain ⟨L0,hL0⟩ : ∃ L,L=yx.heap.size:=⟨_,rfl⟩
    rw [<- hL0] at UJ;have Nj:gX < L0:=hL0 ▸ X.out.here;have Nk:gV < L0:=hL0 ▸ V.out.here;have Nl:w.heap.size < L0:=hL0 ▸ R.out.here;have Np:gm < L0:=by have:=R.out.here;omega
    ((with_reducible refine (OM.out lc _ (by omega) TK.out.at_ (HT.out.keep (fun p hp => TK.out.low hp) (b_ _))).mono ?_);rintro e fZ ⟨y0,UF,UG,UH,Ep,rfl,lX,uH,hT,arf⟩);rw [<- hL0] at lX;have Nq:=hT.len;replace R:=hiQ (R.out.gr hT.gr (show w.heap.size≠gm by omega));replace X:=hiQ (X.out.gr hT.gr (show gX≠gm by omega));replace V:=hiQ (V.out.gr hT.gr (show gV≠gm by omega));replace O:=hiQ (O.out.gr hT.gr (show U0<=gm\/gm < gV+1 by omega));replace TK:=hiQ (TK.out.trans hT);clear hT;obtain ⟨OH,z10,OI,z20,OJ,z30,rfl,rfl,rfl,-,-,-⟩:=lX.forms;have uI:=lX.ug (w0:=w) (B:=B) (L:=L0) (fun _ h => .inr h) TK.out.mJ;have zZ:=hiQ uH;have qH:=hiQ arf;have Y0:=hiQ (uI);clear lX uI hL0 uH arf;(try clear hHeld);refine hK.out _ _ zBf (fun hHeld => ?_);clear hK K;refine gJ 10 fun K hK => ?_;go_simp;refine aO (fun lq gq N => ?_);have sJ:=R.out.here;have uP:=X.out.here;have sN:=V.out.here;have uQ:=O.out.le;have sK:=Y0.out.le;have uO:=TK.out.gr.size;obtain ⟨R,X,V,O,Y0⟩:=b5 R X V O Y0 gq;replace TK:=hiQ (TK.out.below gq);clear gq;generalize fZ.heap.size=g23 at *;(try clear hHeld);refine hK.out _ _ zBf (fun hHeld => ?_);clear hK K;refine gJ 11 fun K hK => ?_;refine eU (by rfl) _ _ (by rfl) (O.out.now TK.out.mJ) (by rfl) N.out (by rfl) (Y0.out.now TK.out.mJ).rd (fun q hq => ⟨by have:=N.out.here;omega,fun e => by have:=HZ1.out q e;have:=HZ2.out q e;omega⟩) (by omega) (by have:=N.out.here;omega) ?_;intro v1 w1 aI hat hbB hkk;obtain ⟨Aq,cq,rfl⟩:=aI.form;have hS3:∀ q,(S q\/(fun q => L0<=q/\q < g23) q)->gV+1<=q:=fun q hq => hq.elim (HS.out q) (fun h => by omega)
    clear O N Y0;replace R:=dG R hkk (fun hh => by have:=HZ1.out _ hh;omega);replace X:=dG X hkk (fun hh => by have:=HZ1.out _ hh;omega);replace V:=dG V hkk (fun hh => by have:=HZ1.out _ hh;omega);replace TK:=hiQ (TK.out.iw hbB (show w.heap.size<=gV+1 by omega));have O:=hiQ (aI.ug (w0:=w) (B:=B) (fun q hq => .inr (hS3 q hq)) TK.out.mJ);have KZ:=hiQ hS3;clear aI hbB hkk hat hS3;(try clear hHeld);refine hK.out _ _ zBf (fun hHeld => ?_);clear hK K;refine eH 12 ?_;refine pG 13 fun K hK => ?_;have aP:=V.out.e6;have sZ:=V.out.free 6;go_simp;clear aP sZ;generalize aaP:w1.setCell _ _=ank;obtain ⟨R,X,O⟩:=f3 R X O (eF aaP);replace V:=qM V aaP;replace TK:=hiQ (TK.out.iw (aaP ▸ jS (g_ (gV) w1) (b_ _) 6 (.slice Aq (xs.length+1) cq)) (show w.heap.size<=gV by omega));clear aaP;(try clear hHeld);exact zDu
   | true =>
    rw [hd] at c4w c4;go_wp2_with fail;clear bU;((with_reducible refine (oQ B gm (.slice (some ⟨b,o,none⟩) ts.length c) odd lc 3 3 _ rfl (by omega) (by omega) TK.out.at_).mono ?_);rintro e ji ⟨k,l',hk2,hk0,hkl,rfl,hT⟩);have hTl:=hT.len;clear hk0 hkl c4w;replace R:=hiQ (R.out.gr hT.gr (show w.heap.size≠gm by omega));replace X:=hiQ (X.out.gr hT.gr (show gX≠gm by omega));replace V:=hiQ (V.out.gr hT.gr (show gV≠gm by omega));replace O:=hiQ (O.out.gr hT.gr (show U0<=gm\/gm < gV+1 by omega));replace TK:=hiQ (TK.out.trans hT);clear hT;by_cases hkz:k=0
    .
     subst hkz;have bU:=X.out.e6;go_upto_region 21 with fail;have aP:=V.out.e6;refine l9 (S:=(fun w' => w'.cell? ⟨gV,6,none⟩=some (.slice AV xs.length cv)/\w'.cell? ⟨gX,6,none⟩=some (.slice (some ⟨xb2,o2,none⟩) ts[i].ah.length m2)/\(∀ (b o:Nat),b < B->w'.cell? ⟨b,o,none⟩=w.cell? ⟨b,o,none⟩))) (fun j => j == 11) (by kernel_rfl) ⟨aP,bU,(fun b o hlt => TK.out.low (p:=⟨b,o,none⟩) hlt)⟩ (fun hHeld => ?_);clear bU aP;have aln:Below ji.heap.size ji (ji.drew):=(g_ _ _).drew;obtain ⟨R,X,V,O⟩:=b4 R X V O aln;replace TK:=hiQ (TK.out.below aln);clear aln;generalize ji.drew=yO at *;refine eH 0 ?_;refine eH 1 ?_;refine eH 2 ?_;refine eH 3 ?_;refine eH 4 ?_;refine eH 5 ?_;refine eH 6 ?_;refine eH 7 ?_;refine gJ 8 fun K hK => ?_;have UJ:=O.out.le;go_simp;refine aO (fun lq gq N => ?_);have sJ:=R.out.here;have uP:=X.out.here;have sN:=V.out.here;have uQ:=O.out.le;have sK:=TK.out.gr.size;obtain ⟨R,X,V,O⟩:=b4 R X V O gq;replace TK:=hiQ (TK.out.below gq);clear gq;generalize yO.heap.size=g23 at *;(try clear hHeld);refine hK.out _ _ zBf (fun hHeld => ?_);clear hK K;refine gJ 9 fun K hK => ?_;refine eU (by rfl) _ _ (by rfl) (O.out.now TK.out.mJ) (by rfl) N.out (by rfl) (HDA.out lq) (fun q hq => hq.elim) (by omega) (by have:=N.out.here;omega) ?_;intro v1 w1 aI hat hbB hkk;obtain ⟨Aq,cq,rfl⟩:=aI.form;have hS3:∀ q,(S q\/(fun (_:Nat) => False) q)->gV+1<=q:=fun q hq => hq.elim (HS.out q) (fun h => by exact h.elim);clear O N;replace R:=dG R hkk (fun hh => by have:=HZ1.out _ hh;omega);replace X:=dG X hkk (fun hh => by have:=HZ1.out _ hh;omega)
     replace V:=dG V hkk (fun hh => by have:=HZ1.out _ hh;omega);replace TK:=hiQ (TK.out.iw hbB (show w.heap.size<=gV+1 by omega));have O:=hiQ (aI.ug (w0:=w) (B:=B) (fun q hq => .inr (hS3 q hq)) TK.out.mJ);have KZ:=hiQ hS3;clear aI hbB hkk hat hS3;(try clear hHeld);refine hK.out _ _ zBf (fun hHeld => ?_);clear hK K;refine eH 10 ?_;refine pG 11 fun K hK => ?_;have aP:=V.out.e6;have sZ:=V.out.free 6;go_simp;clear aP sZ;generalize ku:w1.setCell _ _=BR;obtain ⟨R,X,O⟩:=f3 R X O (eF ku);replace V:=qM V ku;replace TK:=hiQ (TK.out.iw (ku ▸ jS (g_ (gV) w1) (b_ _) 6 (.slice Aq (xs.length+1) cq)) (show w.heap.size<=gV by omega));clear ku;(try clear hHeld);refine hK.out _ _ ?_;clear hK K;refine akJ (by kernel_rfl) ?_ _;(try clear hHeld);go_wp2_with fail;go_roundw
     case rel =>
      refine ⟨xs ++ [y.dflt],l',_,Aq,cq,by rw [h_];exact hp,by simp,by omega,by simpa using V.out,X.out,R.out,TK.out,O.out.now TK.out.mJ,KZ.out,?_,by rw [uy,h_];exact arZ HZ.out (aHv (by omega) HDZ.out)⟩;rw [show (xs ++ [y.dflt]).length=xs.length+1 by simp,List.take_add_one,Nv.out];exact Hw ts _ y.dflt y (anp.out hd) xs _ HF.out
     case measure => simp [intOf];omega
    have hkf:((k:Int) == 0)=false:=by simpa using hkz
    have hkg:¬ (k:Int)=0:=by omega
    have bU:=X.out.e6;go_upto_region 22 with fail;have aP:=V.out.e6;refine l9 (S:=(fun w' => w'.cell? ⟨gV,6,none⟩=some (.slice AV xs.length cv)/\w'.cell? ⟨gX,6,none⟩=some (.slice (some ⟨xb2,o2,none⟩) ts[i].ah.length m2)/\(∀ (b o:Nat),b < B->w'.cell? ⟨b,o,none⟩=w.cell? ⟨b,o,none⟩))) (fun j => j == 13) (by kernel_rfl) ⟨aP,bU,(fun b o hlt => TK.out.low (p:=⟨b,o,none⟩) hlt)⟩ (fun hHeld => ?_);clear bU aP;have aln:Below ji.heap.size ji (ji.drew):=(g_ _ _).drew;obtain ⟨R,X,V,O⟩:=b4 R X V O aln;replace TK:=hiQ (TK.out.below aln);clear aln;generalize ji.drew=yO at *;refine eH 0 ?_;refine eH 1 ?_;refine eH 2 ?_;refine eH 3 ?_;refine eH 4 ?_;refine eH 5 ?_;refine eH 6 ?_;refine eH 7 ?_;refine eH 8 ?_;refine gJ 9 fun K hK => ?_;go_simp;have UJ:=O.out.le;obtain ⟨L0,hL0⟩ : ∃ L,L=yO.heap.size:=⟨_,rfl⟩
    rw [<- hL0] at UJ;have Nj:gX < L0:=hL0 ▸ X.out.here;have Nk:gV < L0:=hL0 ▸ V.out.here;have Nl:w.heap.size < L0:=hL0 ▸ R.out.here;have Np:gm < L0:=by have:=R.out.here;omega
    ((with_reducible refine (OM.out l' _ (by omega) TK.out.at_ (HT.out.keep (fun p hp => TK.out.low hp) (b_ _))).mono ?_);rintro e jU ⟨y0,UF,UG,UH,Ep,rfl,lX,uH,hT,arf⟩);rw [<- hL0] at lX;have Nq:=hT.len;replace R:=hiQ (R.out.gr hT.gr (show w.heap.size≠gm by omega));replace X:=hiQ (X.out.gr hT.gr (show gX≠gm by omega));replace V:=hiQ (V.out.gr hT.gr (show gV≠gm by omega));replace O:=hiQ (O.out.gr hT.gr (show U0<=gm\/gm < gV+1 by omega));replace TK:=hiQ (TK.out.trans hT);clear hT;obtain ⟨OH,z10,OI,z20,OJ,z30,rfl,rfl,rfl,-,-,-⟩:=lX.forms;have uI:=lX.ug (w0:=w) (B:=B) (L:=L0) (fun _ h => .inr h) TK.out.mJ;have zZ:=hiQ uH;have qH:=hiQ arf;have Y0:=hiQ (uI);clear lX uI hL0 uH arf;(try clear hHeld);refine hK.out _ _ zBf (fun hHeld => ?_);clear hK K;refine gJ 10 fun K hK => ?_;go_simp;refine aO (fun xP oG N => ?_);have sN:=R.out.here;have uQ:=X.out.here;have sK:=V.out.here;have uO:=O.out.le;have uh:=Y0.out.le;have Bc:=TK.out.gr.size;obtain ⟨R,X,V,O,Y0⟩:=b5 R X V O Y0 oG;replace TK:=hiQ (TK.out.below oG);clear oG;generalize jU.heap.size=OL at *;(try clear hHeld);refine hK.out _ _ zBf (fun hHeld => ?_);clear hK K;refine gJ 11 fun K hK => ?_;refine eU (by rfl) _ _ (by rfl) (O.out.now TK.out.mJ) (by rfl) N.out (by rfl) (Y0.out.now TK.out.mJ).rd (fun q hq => ⟨by have:=N.out.here;omega,fun e => by have:=HZ1.out q e;have:=HZ2.out q e;omega⟩) (by omega) (by have:=N.out.here;omega) ?_;intro v1 w1 aI hat hbB hkk;obtain ⟨Aq,cq,rfl⟩:=aI.form;have hS3:∀ q,(S q\/(fun q => L0<=q/\q < OL) q)->gV+1<=q:=fun q hq => hq.elim (HS.out q) (fun h => by omega)
    clear O N Y0;replace R:=dG R hkk (fun hh => by have:=HZ1.out _ hh;omega);replace X:=dG X hkk (fun hh => by have:=HZ1.out _ hh;omega);replace V:=dG V hkk (fun hh => by have:=HZ1.out _ hh;omega);replace TK:=hiQ (TK.out.iw hbB (show w.heap.size<=gV+1 by omega));have O:=hiQ (aI.ug (w0:=w) (B:=B) (fun q hq => .inr (hS3 q hq)) TK.out.mJ);have KZ:=hiQ hS3;clear aI hbB hkk hat hS3;(try clear hHeld);refine hK.out _ _ zBf (fun hHeld => ?_);clear hK K;refine eH 12 ?_;refine pG 13 fun K hK => ?_;have aP:=V.out.e6;have sZ:=V.out.free 6;go_simp;clear aP sZ;generalize xU:w1.setCell _ _=zy;obtain ⟨R,X,O⟩:=f3 R X O (eF xU);replace V:=qM V xU;replace TK:=hiQ (TK.out.iw (xU ▸ jS (g_ (gV) w1) (b_ _) 6 (.slice Aq (xs.length+1) cq)) (show w.heap.size<=gV by omega));clear xU;(try clear hHeld);exact zDu
  have he:xs.length=ts[i].ah.length:=by omega
  have hcond:(xs.length:Int)=ts[i].ah.length:=by omega
  clear hp hq;have HFA:Hid (qL ts (!odd) xs ts[i].ah=true):=hiQ (by have:=HF.out;rwa [he,List.take_length] at this);have HE:=hiQ he;have hnl:¬ ((xs.length:Int) < ts[i].ah.length):=by omega
  clear he;go_wp2_with fail;clear bU;((with_reducible refine (Tj B gm (.slice (some ⟨b,o,none⟩) ts.length c) odd lc _ TK.out.at_).mono ?_);rintro e ji ⟨bo,l1,hbo,rfl,hT⟩);have aqi:=hT.len;replace R:=hiQ (R.out.gr hT.gr (show w.heap.size≠gm by omega));replace X:=hiQ (X.out.gr hT.gr (show gX≠gm by omega));replace V:=hiQ (V.out.gr hT.gr (show gV≠gm by omega));replace O:=hiQ (O.out.gr hT.gr (show U0<=gm\/gm < gV+1 by omega));replace TK:=hiQ (TK.out.trans hT);clear hT;have hxl:xs.length<=12:=by have:=HE.out;omega
  cases bo with
  | false =>
   go_upto_region 44 with fail;obtain ⟨bK,dh,dn,dI,bG,aQ,aP,dJ⟩:=V.out.c8;go_wp2_with (refine sR R.out ?_)
   clear bK dh dn dI bG aQ aP dJ;generalize hE20:ji.setRow _ _=fZ;obtain ⟨X,V,O⟩:=f3 X V O (eR hE20);replace R:=dV R hE20;replace TK:=hiQ (TK.out.iw (hE20 ▸ jd (w.heap.size) ji #[.int .i64 5,.bool false,.int .i64 0,.string ⟨#[]⟩,.int .i64 0,.slice none 0 0,.slice AV xs.length cv,.slice none 0 0]) (show w.heap.size<=w.heap.size by omega));clear hE20;have ho:=O.out.now TK.out.mJ;have hr:=ho.row.keep (S':=fun q => w.heap.size<=q/\q < fZ.heap.size) (fun _ _ => rfl) (fun q hq => hq.elim (fun hq => by have:=HS.out q hq;have:=(ho.sep q hq).1;omega) (fun hq => by have:=ho.lt q hq;omega));exact vJ (v:=.agg #[.int .i64 5,.bool false,.int .i64 0,.string ⟨#[]⟩,.int .i64 0,.slice none 0 0,.slice AV xs.length cv,.slice none 0 0]) (by simp [results,Tryz.results40,go_sem,R.out.c8]) rfl (⟨.mk 5 false 0 [] 0 [] xs [],.slice none 0 0,.slice AV xs.length cv,.slice none 0 0,l1,rfl,agK _ _ [] _ (by omega) hr (by simp) (by simp) ⟨rfl,none,0,rfl,b_ _,.inl rfl⟩,(by show cO ts (!odd) _ _=true;rw [kG,oU ts i hi];simp [hk,HE.out,HFA.out,xK,aA,ig,Val.kind,Val.bool,Val.num,Val.str,Val.id,Val.keys,Val.items,Val.rest]),TK.out,avq HZ.out hxl aqi (by simp [qx])⟩)
  | true =>
   have ho:odd=true:=by cases odd with | true => rfl | false => cases hbo rfl
   subst ho;have hun:=P5 B gm (.slice (some ⟨b,o,none⟩) ts.length c) true l1 ts[i] (.slice C1 ts[i].syms.length m1) (.slice C2 ts[i].ah.length m2);simp only [dA,hk] at hun;have HUN:=hiQ hun;clear hun;obtain ⟨aK,bJ,bY,bZ,dL,eX,bU,dD,dM,dU⟩:=X.out.c10;go_wp2_with fail;clear aK bJ bY bZ dL eX bU dD dM dU;((with_reducible refine (HUN.out _ HU.out TK.out.at_ (Hg.out.keep (fun p hp => TK.out.low hp) hBg)).mono ?_);rintro e fZ ⟨n,l3,hn1,hn2,hnu,rfl,hT⟩);have aLw:=hT.len;replace R:=hiQ (R.out.gr hT.gr (show w.heap.size≠gm by omega));replace X:=hiQ (X.out.gr hT.gr (show gX≠gm by omega));replace V:=hiQ (V.out.gr hT.gr (show gV≠gm by omega));replace O:=hiQ (O.out.gr hT.gr (show U0<=gm\/gm < gV+1 by omega));replace TK:=hiQ (TK.out.trans hT);clear hT;have HNU:Hid (yC ts[i] n=false):=hiQ hnu;clear hnu;go_wp2_with fail;((with_reducible refine (Zd B gm (.slice (some ⟨b,o,none⟩) ts.length c) true l3 n _ TK.out.at_).mono ?_);rintro e jU ⟨s,l4,hs3,rfl,hT⟩);have aLx:=hT.len;replace R:=hiQ (R.out.gr hT.gr (show w.heap.size≠gm by omega));replace X:=hiQ (X.out.gr hT.gr (show gX≠gm by omega));replace V:=hiQ (V.out.gr hT.gr (show gV≠gm by omega));replace O:=hiQ (O.out.gr hT.gr (show U0<=gm\/gm < gV+1 by omega));replace TK:=hiQ (TK.out.trans hT);clear hT;simp only [rU];have aV7:∀ ob,(jU.alloc ob).cell? ⟨gV,7,none⟩=some (.slice none 0 0):=fun ob => (V.out.alloc ob).cell 7;have bV7:∀ ob,(jU.alloc ob).frozen? ⟨gV,7,none⟩=false:=fun ob => (V.out.alloc ob).free 7;go_upto_region 44 with fail;clear aV7 bV7;have hZ3:∀ q,(Value.slice AV xs.length cv).ownBlock=some q->q < jU.heap.size:=fun q h => ((O.out.now TK.out.mJ).lt q h).2
   generalize Bg:jU.alloc _=xP;have ⟨oG,N⟩:=uj Bg;clear Bg;have uQ:=R.out.here;have sK:=X.out.here;have uO:=V.out.here;have uh:=O.out.le;have Bc:=TK.out.gr.size;obtain ⟨R,X,V,O⟩:=b4 R X V O oG;replace TK:=hiQ (TK.out.below oG);clear oG;generalize jU.heap.size=g26 at *;generalize xU:xP.setCell _ _=zy;obtain ⟨R,X,N,O⟩:=f4 R X N O (eF xU);replace V:=Ky V xU;replace TK:=hiQ (TK.out.iw (xU ▸ jS (g_ (gV) xP) (b_ _) 7 (.slice (some ⟨g26,0,none⟩) 1 1)) (show w.heap.size<=gV by omega));clear xU;obtain ⟨bK,dh,dn,dI,bG,aQ,aP,dJ⟩:=V.out.c8;go_wp2_with (refine sR R.out ?_)
   clear bK dh dn dI bG aQ aP dJ;generalize abf:zy.setRow _ _=Jg;obtain ⟨X,V,N,O⟩:=f4 X V N O (eR abf);replace R:=dV R abf;replace TK:=hiQ (TK.out.iw (abf ▸ jd (w.heap.size) zy #[.int .i64 5,.bool false,.int .i64 0,.string ⟨#[]⟩,.int .i64 0,.slice none 0 0,.slice AV xs.length cv,.slice (some ⟨g26,0,none⟩) 1 1]) (show w.heap.size<=w.heap.size by omega));clear abf;have hgN:=N.out.here;have hnm:dN ts[i] n=none:=by
    exact zGq
   have ho:=O.out.now TK.out.mJ;have hr:=ho.row.keep (S':=fun q => w.heap.size<=q/\q < Jg.heap.size) (fun _ _ => rfl) (fun q hq => hq.elim (fun hq => by have:=HS.out q hq;have:=(ho.sep q hq).1;omega) (fun hq => by have:=ho.lt q hq;omega));have hfr:decide (1<=(n:Int)/\(n:Int)<=1000)=true:=n_ (by omega);exact vJ (v:=.agg #[.int .i64 5,.bool false,.int .i64 0,.string ⟨#[]⟩,.int .i64 0,.slice none 0 0,.slice AV xs.length cv,.slice (some ⟨g26,0,none⟩) 1 1]) (by simp [results,Tryz.results40,go_sem,R.out.c8]) rfl (⟨.mk 5 false 0 [] 0 [] xs [((n:Int),s)],.slice none 0 0,.slice AV xs.length cv,.slice (some ⟨g26,0,none⟩) 1 1,l4,rfl,agK _ _ [((n:Int),s)] _ (by omega) hr (by simp) (by intro r hr;simp at hr;subst hr;exact ⟨by simp [I64];omega,by show s.length<=_;omega⟩) (Zg N.out (by omega)),(by show cO ts (!true) _ _=true;rw [kG,oU ts i hi];have hz:=HFA.out;simp only [Uu] at hz;simp [hk,HE.out,hz,xK,xH,mM,hnm,hfr,aA,ig,Val.kind,Val.bool,Val.num,Val.str,Val.id,Val.keys,Val.items,Val.rest]),TK.out,avq HZ.out hxl (by omega) (by simp [qx];omega)⟩)
theorem XH (xs:List fJ) (i:Nat) (hi:i < xs.length) (rc:Bool) (ps:List Aw) (k:Nat):((lH xs i rc ps k).map Mem.id).Nodup:=by
 induction k with
 | zero => simp [lH]
 | succ k ih =>
  rw [lH,Qw,List.nodup_append];refine ⟨ih,?_,fun a ha b hb => ?_⟩
  .
   unfold tK;cases h:ps.findSome? (partOf xs i rc (k+1)) <;> simp
  simp only [Pe] at ha hb;obtain ⟨m,hm,rfl⟩:=ha;obtain ⟨q,hq,rfl⟩:=hb;obtain ⟨id,p,h1,h2,_,h3⟩:=CW xs i rc ps k m hm;have h4:=(AZ xs i hi rc id p m h3).1;unfold tK at hq;cases h:ps.findSome? (partOf xs i rc (k+1)) with
  | none => rw [h] at hq;simp at hq
  | some r =>
   rw [h] at hq;have hq2:q=r:=by simpa using hq
   subst hq2;obtain ⟨p2,_,h5⟩:=List.exists_of_findSome?_eq_some h;have h6:=(AZ xs i hi rc (k+1) p2 q h5).1;omega
theorem aaR (xs:List fJ) (i:Nat) (hi:i < xs.length):((iL xs i xs[i]).ah.map Mem.id).Nodup:=by
 have hp:∀ rc ps,((oH xs i rc ps).map Mem.id).Nodup:=fun rc ps => by
  unfold oH;generalize 12=n;exact XH xs i hi rc ps n
 unfold iL;simp only
 repeat' split
 all_goals first
  | (simp [iM];done)
  | (dsimp only;exact hp _ _)
  | exact hp _ _
theorem auq (xs:List fJ) (t code:Nat):(aT xs t code).1.str.length<=10:=by
 unfold aT;cases xs[t]? with
 | none => simp [jm,Val.str]
 | some x =>
  simp only
  repeat' split
  all_goals first | (simp [Val.str];done) | (simp [jm,Val.str];done)
theorem aD0 (xs:List fJ) (i:Nat) (hi:i < xs.length):∀ m ∈ (iL xs i xs[i]).ah,m.dflt.str.length<=10:=by
 have h0:∀ m ∈ ([] : List Mem),m.dflt.str.length<=10:=by simp
 have hp:∀ rc ps,∀ m ∈ oH xs i rc ps,m.dflt.str.length<=10:=fun rc ps m hm => by
  obtain ⟨id,p,_,_,_,h3⟩:=CW xs i rc ps 12 m hm;unfold partOf at h3;split at h3
  . cases h3
  split at h3
  .
   injection h3 with h3;subst h3;show (if _ then _ else _:Val × Bool).1.str.length<=10;split
   . exact auq _ _ _
   simp [jm,Val.str]
  cases h3
 unfold iL;simp only
 repeat' split
 all_goals first | exact h0 | exact hp _ _
theorem ahE {ts:List ay} (pl:Bool) {v:Val} {t:Int} (h:cO ts true v t=true):cO ts pl v t=true:=by
 cases pl with
 | true => exact h
 | false => exact BZ ts v t h
theorem yK.mono {B gm:Nat} {vt:Value} {odd:Bool} {ts:List ay} {N M:Nat} (h:yK B gm vt odd ts N) (hM:M<=N):yK B gm vt odd ts M :=
 ⟨fun l j w hm hj h1 h2 => h.at_ l j w (u_ hm hM) hj h1 h2⟩
theorem Qd (xs:List fJ) (h5:xs.length<=5) (B gm:Nat) (A:Option Addr) (c:Nat) (odd:Bool):∀ N:Nat,yK B gm (.slice A (jw xs).length c) odd (jw xs) N
 | 0 => ⟨fun _ _ _ h => absurd h (Nat.not_lt_zero _)⟩
 | N+1 => ⟨fun l i w hm hi h1 h2 => by
  have ih:yK B gm (.slice A (jw xs).length c) odd (jw xs) (7*l.length+xB (jw xs) i):=(Qd xs h5 B gm A c odd N).mono (by omega);have hlen:(jw xs).length=xs.length:=Bo xs;have hix:i < xs.length:=by omega
  have hty:(jw xs)[i]=iL xs i xs[i]:=FW xs i hix;have hmk:=MN xs i hix;have hkd:=ads xs i xs[i];have hdf:=ac4 xs i hix;have hnd:=aaR xs i hix;have htw:=Xu xs i xs[i];have hpl:=alm xs i xs[i] h5 hix;have hds:=aD0 xs i hix;rw [<- hty] at hmk hkd hdf hnd htw hpl hds;have h6:(jw xs).length<=6:=by omega
  have hu:∀ n:Nat,15<=n->yC (jw xs)[i] n=false:=fun n hn => by
   obtain ⟨h1,h2⟩:=hmk.free n (by omega);unfold yC;rw [h1,h2];rfl
  have hk:(jw xs)[i].kind=1\/(jw xs)[i].kind=2\/(jw xs)[i].kind=3\/(jw xs)[i].kind=4\/(jw xs)[i].kind=5\/(jw xs)[i].kind=6\/(jw xs)[i].kind=7\/(jw xs)[i].kind=8\/(jw xs)[i].kind=9:=by omega
  rcases hk with hk | hk | hk | hk | hk | hk | hk | hk | hk
  . exact aaS B gm A c odd l (jw xs) i hi w hk h1 h2
  . exact aaT B gm A c odd l (jw xs) i hi w hk (htw hk) h1 h2
  .
   obtain ⟨a1,a2⟩:=hmk.three hk;exact aaU B gm A c odd l (jw xs) i hi w hk (jw xs)[i].max.toNat (by omega) (by omega) h1 h2
  . exact aaV B gm A c odd l (jw xs) i hi w hk ⟨hmk.four hk,hmk.syms.1⟩ hmk.syms.2 hu h1 h2
  .
   rw [aaI _ i hi (by omega)];exact aaN B gm A c odd l (jw xs) i hi w hk hmk.ah.1 hu (fun m hm => (hpl.adr m hm).2.2.2.2.2.2.2) (fun m hm hd => ahE _ (hdf m hm hd)) hds (ih.mem hi (by omega) fun m hm => (hmk.ah.2 m hm).2) h1 h2
  .
   rw [aaI _ i hi (by omega)];exact aaW B gm A c odd l (jw xs) i hi w hk ⟨hmk.six hk,hmk.ah.1⟩ (fun m hm => (hmk.ah.2 m hm).1) hnd hu (ih.mem hi (by omega) fun m hm => (hmk.ah.2 m hm).2) h1 h2
  .
   obtain ⟨a1,a2⟩:=hmk.max (.inl hk);obtain ⟨j,hj1,hj2⟩:=hmk.elem (by omega);exact aaK B gm A c odd l (jw xs) i hi w hk j hj2 hj1 h6 (jw xs)[i].max.toNat (by omega) (by omega) ih h1 h2
  .
   obtain ⟨a1,a2⟩:=hmk.max (.inr hk);obtain ⟨j,hj1,hj2⟩:=hmk.elem (by omega);obtain ⟨jk,hk1,hk2,_⟩:=hmk.key hk;exact aaL B gm A c odd l (jw xs) i hi w hk j hj2 hj1 jk hk2 hk1 h6 (jw xs)[i].max.toNat (by omega) (by omega) ih h1 h2
  obtain ⟨j,hj1,hj2⟩:=hmk.elem (by omega);exact aaJ B gm A c odd l (jw xs) i hi w hk j hj2 hj1 h6 ih h1 h2⟩
theorem RH {w:World} {B n c:Nat} {A:Option Addr} {l:List UInt8} (h:Rd w B 1 (.slice A n c) n (l.map B8)) (m:Nat) (hm:m<=n) (hn:l.length=n):Rd w B 1 (.slice A m c) m ((l.take m).map B8):=by
 obtain ⟨h1,A',c',hv,hc,h2⟩:=h;injection hv with h3 h4 h5;subst h3 h5;refine ⟨by simp;omega,_,_,rfl,by omega,?_⟩;rcases h2 with h2 | ⟨b,o,hA,hb,hcell⟩
 . exact .inl (by omega)
 refine .inr ⟨b,o,hA,hb,fun j u hu => hcell j u ?_⟩;have hj:j < m:=by
  have:=(C_.1 hu).1;simp at this;omega
 rw [List.map_take,Uw hj] at hu;exact hu
def XI (w:World) (ts:List ay) (pl:Bool) (t:Int) (e:Ending) (w':World):Prop :=
 ∃ (x:Val) (vk vi vr:Value),e = .returned (aS x vk vi vr)/\jq w' (fun b => w.heap.size<=b/\b < w'.heap.size) x vk vi vr/\cO ts pl x t=true/\I8 x<=40000000000/\Below w.heap.size w w'
theorem avr {r:Nat} {l l':List UInt8} {x:Val} (h:l7 r l l' x) (hl:l.length<=60) (hr:r<=6):I8 x<=40000000000:=by
 have:=zS hr;unfold l7 at h;omega
theorem afP (xs:List fJ) (h5:xs.length<=5) (A:Option Addr) (c:Nat) (t:Nat) (ht:t < (jw xs).length) (l:List UInt8) (va:Value) (w:World) (hl:l.length<=140737488351232) (hr:Rd w w.heap.size 1 va l.length (l.map B8)) (hT:aU w w.heap.size (.slice A (jw xs).length c) (jw xs)) :
  Calls Tryz.prog 17 #[.agg #[.slice A (jw xs).length c],.int .i64 t,va] w (XI w (jw xs) true t):=by
 obtain ⟨A2,c2,rfl,hc2⟩:=hr.form;have hgt:=Qd xs h5;have h6:xB (jw xs) t<=6:=Jh (NV _ t ht) (by rw [Bo];omega);generalize jw xs=ts at *;obtain ⟨m,hm,hmin,akG,anA⟩ : ∃ m:Nat,m<=l.length/\(if (l.length:Int) < 60 then (l.length:Int) else 60)=(m:Int)/\min (60:Int) (l.length:Int)=(m:Int)/\m<=60:=⟨min 60 l.length,by omega,by split <;> omega,by omega,by omega⟩
 have hmc:(m:Int)<=c2:=by omega
 have hm0:(0:Int)<=(m:Int):=by omega
 have HR:=hiQ (RH hr m hm rfl);have HT:=hiQ hT;have HG:=hiQ hgt;clear hr hT hgt;go_enter Tryz.func17,Tryz.ntmps17
 go_upto_region 1 with fail;refine jg (fun wd2 hb1 S R => ?_);have hw3:=hb1;clear hb1;have aH:=S.out.e0;refine t_ (S:=(fun w' => w'.cell? ⟨w.heap.size,0,none⟩=some (.slice A ts.length c))) (by kernel_rfl) aH (fun hHeld => ?_);clear aH;have hb4:Below wd2.heap.size wd2 (wd2.drew):=(g_ _ _).drew;obtain ⟨S,R⟩:=b2 S R hb4;replace hw3:=dT hw3 hb4;clear hb4;generalize wd2.drew=fG at *;refine tk 0 ?_;refine tk 1 ?_;refine tk 2 ?_;refine tk 3 ?_;refine iE 4 fun K hK => ?_;go_simp;(try clear hHeld);refine hK.out _ _ (S.out.cell 0) (fun hHeld => ?_);clear hK K;refine tk 5 ?_;refine tk 6 ?_;refine iE 7 fun K hK => ?_;go_simp;refine aO (fun jC hb6 M => ?_);have kH:=S.out.here;have oC:=R.out.here;have sH:=hw3.size;obtain ⟨S,R⟩:=b2 S R hb6;replace hw3:=dT hw3 hb6;clear hb6;generalize fG.heap.size=g8 at *;(try clear hHeld);refine hK.out _ _ (S.out.cell 0) (fun hHeld => ?_);clear hK K;refine tk 8 ?_;refine Dl (by kernel_rfl) ?_ _;(try clear hHeld);obtain ⟨L0,hL0⟩ : ∃ L,L=jC.heap.size:=⟨_,rfl⟩
 have hLR:w.heap.size+1 < L0:=hL0 ▸ R.out.here;have hgm:=M.out.here;have hle:=(hw3).size;have hgw:w.heap.size<=g8:=by omega
 have hM:uG jC w.heap.size g8 (.slice A ts.length c) false (l.take m):=⟨⟨A2,c2,by rw [L_,Nat.min_eq_left hm];exact M.out,by rw [L_,Nat.min_eq_left hm];exact HR.out.below (hw3)⟩,hgw,by rw [L_];omega⟩
 have hcl:=(HG.out w.heap.size g8 A c false (7*(l.take m).length+xB ts t+1)).at_ (l.take m) t jC (by omega) ht hM (HT.out.keep (fun p hp => (hw3).cell hp) (b_ _));have HCL:=hiQ hcl;have HGM:=hiQ hgm;clear hcl hM;go_wp2_with fail;((with_reducible refine (HCL.out).mono ?_);rintro e lZ ⟨x,xk,xi,xr,l',rfl,hx,hf,hT,hsz⟩);have hb:=Xx hT.gr (Qy HGM.out);rw [<- hL0] at hx;clear M;replace S:=hiQ (S.out.below hb (show w.heap.size < g8 by omega));replace R:=hiQ (R.out.below hb (show w.heap.size+1 < g8 by omega));replace hw3:=hw3.trans (hb.mono (show w.heap.size<=g8 by omega));clear hb hL0;have HF:=hiQ hf;have HSZ:=hiQ (avr hsz (by rw [L_];omega) h6);clear hsz;obtain ⟨X1,d1,X2,d2,X3,d3,rfl,rfl,rfl,-,-,-⟩:=hx.forms;have hxk:=hx.ug (w0:=w) (B:=w.heap.size) (L:=L0) (fun _ h => .inr h) (fun k hk => (hw3).block k hk);have X:=hiQ (hxk);clear hx hxk hf;go_wp2_with (refine sR R.out ?_)
 generalize lW:lZ.setRow _ _=oZ;obtain ⟨S,X⟩:=f2 S X (eR lW);replace R:=dV R lW;replace hw3:=tr hw3 lW;clear lW;have hxn:=X.out.now (fun k hk => (hw3).block k hk);have hxl:=X.out.le;have hxz:=(hw3).size;exact vJ (v:=aS x (.slice X1 x.keys.length d1) (.slice X2 x.items.length d2) (.slice X3 x.rest.length d3)) (by simp [results,Tryz.results17,go_sem,R.out.c8]) rfl (⟨x,_,_,_,rfl,hxn.keep (fun _ _ => rfl) (fun q hq => by omega),HF.out,HSZ.out,hw3⟩)
theorem Yn (xs:List fJ) (h5:xs.length<=5) (A:Option Addr) (c:Nat) (t:Nat) (ht:t < (jw xs).length) (l:List UInt8) (va:Value) (w:World) (hl:l.length<=140737488351232) (hr:Rd w w.heap.size 1 va l.length (l.map B8)) (hT:aU w w.heap.size (.slice A (jw xs).length c) (jw xs)) :
  Calls Tryz.prog 18 #[.agg #[.slice A (jw xs).length c],.int .i64 t,va] w (XI w (jw xs) false t):=by
 obtain ⟨A2,c2,rfl,hc2⟩:=hr.form;have hgt:=Qd xs h5;have h6:xB (jw xs) t<=6:=Jh (NV _ t ht) (by rw [Bo];omega);generalize jw xs=ts at *;obtain ⟨m,hm,hmin,akG,anA⟩ : ∃ m:Nat,m<=l.length/\(if (l.length:Int) < 60 then (l.length:Int) else 60)=(m:Int)/\min (60:Int) (l.length:Int)=(m:Int)/\m<=60:=⟨min 60 l.length,by omega,by split <;> omega,by omega,by omega⟩
 have hmc:(m:Int)<=c2:=by omega
 have hm0:(0:Int)<=(m:Int):=by omega
 have HR:=hiQ (RH hr m hm rfl);have HT:=hiQ hT;have HG:=hiQ hgt;clear hr hT hgt;go_enter Tryz.func18,Tryz.ntmps18
 go_upto_region 1 with fail;refine jg (fun wd2 hb1 S R => ?_);have hw3:=hb1;clear hb1;have aH:=S.out.e0;refine t_ (S:=(fun w' => w'.cell? ⟨w.heap.size,0,none⟩=some (.slice A ts.length c))) (by kernel_rfl) aH (fun hHeld => ?_);clear aH;have hb4:Below wd2.heap.size wd2 (wd2.drew):=(g_ _ _).drew;obtain ⟨S,R⟩:=b2 S R hb4;replace hw3:=dT hw3 hb4;clear hb4;generalize wd2.drew=fG at *;refine tk 0 ?_;refine tk 1 ?_;refine tk 2 ?_;refine tk 3 ?_;refine iE 4 fun K hK => ?_;go_simp;(try clear hHeld);refine hK.out _ _ (S.out.cell 0) (fun hHeld => ?_);clear hK K;refine tk 5 ?_;refine tk 6 ?_;refine iE 7 fun K hK => ?_;go_simp;refine aO (fun jC hb6 M => ?_);have kH:=S.out.here;have oC:=R.out.here;have sH:=hw3.size;obtain ⟨S,R⟩:=b2 S R hb6;replace hw3:=dT hw3 hb6;clear hb6;generalize fG.heap.size=g8 at *;(try clear hHeld);refine hK.out _ _ (S.out.cell 0) (fun hHeld => ?_);clear hK K;refine tk 8 ?_;refine Dl (by kernel_rfl) ?_ _;(try clear hHeld);obtain ⟨L0,hL0⟩ : ∃ L,L=jC.heap.size:=⟨_,rfl⟩
 have hLR:w.heap.size+1 < L0:=hL0 ▸ R.out.here;have hgm:=M.out.here;have hle:=(hw3).size;have hgw:w.heap.size<=g8:=by omega
 have hM:uG jC w.heap.size g8 (.slice A ts.length c) true (l.take m):=⟨⟨A2,c2,by rw [L_,Nat.min_eq_left hm];exact M.out,by rw [L_,Nat.min_eq_left hm];exact HR.out.below (hw3)⟩,hgw,by rw [L_];omega⟩
 have hcl:=(HG.out w.heap.size g8 A c true (7*(l.take m).length+xB ts t+1)).at_ (l.take m) t jC (by omega) ht hM (HT.out.keep (fun p hp => (hw3).cell hp) (b_ _));have HCL:=hiQ hcl;have HGM:=hiQ hgm;clear hcl hM;go_wp2_with fail;((with_reducible refine (HCL.out).mono ?_);rintro e lZ ⟨x,xk,xi,xr,l',rfl,hx,hf,hT,hsz⟩);have hb:=Xx hT.gr (Qy HGM.out);rw [<- hL0] at hx;clear M;replace S:=hiQ (S.out.below hb (show w.heap.size < g8 by omega));replace R:=hiQ (R.out.below hb (show w.heap.size+1 < g8 by omega));replace hw3:=hw3.trans (hb.mono (show w.heap.size<=g8 by omega));clear hb hL0;have HF:=hiQ hf;have HSZ:=hiQ (avr hsz (by rw [L_];omega) h6);clear hsz;obtain ⟨X1,d1,X2,d2,X3,d3,rfl,rfl,rfl,-,-,-⟩:=hx.forms;have hxk:=hx.ug (w0:=w) (B:=w.heap.size) (L:=L0) (fun _ h => .inr h) (fun k hk => (hw3).block k hk);have X:=hiQ (hxk);clear hx hxk hf;go_wp2_with (refine sR R.out ?_)
 generalize lW:lZ.setRow _ _=oZ;obtain ⟨S,X⟩:=f2 S X (eR lW);replace R:=dV R lW;replace hw3:=tr hw3 lW;clear lW;have hxn:=X.out.now (fun k hk => (hw3).block k hk);have hxl:=X.out.le;have hxz:=(hw3).size;exact vJ (v:=aS x (.slice X1 x.keys.length d1) (.slice X2 x.items.length d2) (.slice X3 x.rest.length d3)) (by simp [results,Tryz.results18,go_sem,R.out.c8]) rfl (⟨x,_,_,_,rfl,hxn.keep (fun _ _ => rfl) (fun q hq => by omega),HF.out,HSZ.out,hw3⟩)

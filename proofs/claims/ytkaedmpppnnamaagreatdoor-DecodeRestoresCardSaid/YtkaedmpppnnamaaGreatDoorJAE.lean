/- What sheaveref07.uses computes, and what else is used with it. No condition. -/
import Derived.Test.YtkaedmpppnnamaaGreatDoorJAD
import Derived.Test.YtkaedmpppnnamaaGreatDoorJAH
set_option maxHeartbeats 4000000
set_option maxRecDepth 100000
namespace Go.Proofs.YtkaedmpppnnamaaGreatDoor
open ChangeShapes WideShapes ChangeAt RowKit
theorem zHw {p:Prop} (h:p:=by
 clear Ur;have aC:=T.out.e0;have aV:=T.out.e8;have hbase:w.heap.size+1<=wr.heap.size:=T.out.here;go_upto_region 10 with (at_builtin;refine fA rfl _ _ _ rfl (w.heap.size+1) 3 _ 1 8 Tryz.underlying57 oP rfl (by decide) _ (x.ah.length) _ rfl O.out.now [.int .i64 x.elem] _ 1 _ rfl rfl rfl (by simp [Value.oneCell']) (by omega) (by omega) hbase ?_;intro g cap w3 hown3 hg3 hgat hb3)
 exact zCo):p:=h
theorem Uo (x:ay) (vs vm:Value) (w:World) (hk:iP x.kind) (hl:x.ah.length<=6000000000000) (ht:jc w w.heap.size x vs vm) :
  Calls Tryz.prog 73 #[dA x vs vm] w (V9 (lg x) w):=by
 obtain ⟨C1,m1,C2,m2,rfl,rfl,-,-⟩:=ht.forms;have HT:=hiQ ht;have hk0:=hk;clear ht hk;go_enter Tryz.func73,Tryz.ntmps73
 go_upto_region 1 with fail;refine aO (fun wd2 hb1 T => ?_);have hw3:=hb1;clear hb1;generalize dA x (.slice C1 x.syms.length m1) (.slice C2 x.ah.length m2)=s0;have bf:=T.out.e6;have HT0:=hiQ T.out;have hB0:=hw3;go_wp2_with fail;go_loopw [3,4] (fun s3 i wr => ∃ k:Nat,k<=x.ah.length/\i = .int .i64 k/\wr.ownsRow (w.heap.size+1) 3 1 s3 k ((x.ah.take k).map FK)/\Has wr w.heap.size 72 #[.int .i64 x.kind,.string ⟨x.name.toArray⟩,.int .i64 x.low,.int .i64 x.high,.int .i64 x.max,.slice C1 x.syms.length m1,.slice C2 x.ah.length m2,.int .i64 x.key,.int .i64 x.elem,.bool x.opn]/\Below w.heap.size w wr) (fun _ i _ => x.ah.length - (intOf i).toNat)
 case atStart => exact ⟨0,by omega,rfl,K_ _ _ _ _,HT0.out,hB0⟩
 case round =>
  clear T hB0 HT0;obtain ⟨k,hk,rfl,hown,T,hb⟩:=hrel;obtain ⟨A0,c0,rfl⟩:=jF hown;replace T:=hiQ T;have O:=hiQ (Kept.own hown);clear hown;by_cases hlt:k < x.ah.length
  .
   obtain ⟨b,o,hC2,hb1,hel⟩:=HT.out.ah.elem (by omega);obtain ⟨dk,di,dr,hcells,hma⟩:=hel k hlt;have wO:Hid ((x.ah.take (k+1)).map FK=(x.ah.take k).map FK ++ [.int .i64 x.ah[k].ty]):=Bj FK x.ah k hlt;generalize x.ah[k]=m at *;obtain ⟨D1,d1,D2,d2,D3,d3,rfl,rfl,rfl,-,-,-⟩:=hma.dflt.forms;obtain ⟨y0,y1,y2,y3,y4,y5,y6,y7,y8,y9,GN,GR,GU⟩:=hcells;have x0:=(hb.cell (p:=⟨b,_,none⟩) hb1).trans y0;have x1:=(hb.cell (p:=⟨b,_,none⟩) hb1).trans y1;have x2:=(hb.cell (p:=⟨b,_,none⟩) hb1).trans y2;have x3:=(hb.cell (p:=⟨b,_,none⟩) hb1).trans y3;have x4:=(hb.cell (p:=⟨b,_,none⟩) hb1).trans y4;have x5:=(hb.cell (p:=⟨b,_,none⟩) hb1).trans y5;have x6:=(hb.cell (p:=⟨b,_,none⟩) hb1).trans y6;have x7:=(hb.cell (p:=⟨b,_,none⟩) hb1).trans y7;have x8:=(hb.cell (p:=⟨b,_,none⟩) hb1).trans y8;have x9:=(hb.cell (p:=⟨b,_,none⟩) hb1).trans y9;have x10:=(hb.cell (p:=⟨b,_,none⟩) hb1).trans GN;have x11:=(hb.cell (p:=⟨b,_,none⟩) hb1).trans GR;have x12:=(hb.cell (p:=⟨b,_,none⟩) hb1).trans GU;clear y0 y1 y2 y3 y4 y5 y6 y7 y8 y9 GN GR GU;have hi1:(k:Int) < x.ah.length:=by omega
   clear hel hma x0 x1 x3 x4 x5 x6 x7 x8 x9 x10 x11 x12;have bf:=T.out.e6;go_upto_region 5 with fail;have hbase:w.heap.size+1<=wr.heap.size:=T.out.here;go_upto_region 4 with (at_builtin;refine fA rfl _ _ _ rfl (w.heap.size+1) 3 _ 1 8 Tryz.underlying57 oP rfl (by decide) _ (k) _ rfl O.out.now [.int .i64 m.ty] _ 1 _ rfl rfl rfl (by simp [Value.oneCell']) (by omega) (by omega) hbase ?_;intro g cap w3 hown3 hg3 hgat hb3)
   clear hg3 hgat hbase bf O;replace T:=hiQ (T.out.below hb3 (show w.heap.size < w.heap.size+1 by omega));replace hb:=hb.trans (hb3.mono (show w.heap.size<=w.heap.size+1 by omega));have O:=hiQ (Kept.own hown3);clear hown3 hC2 x2;exact zFz
  obtain rfl:k=x.ah.length:=by omega
  rw [yJ (b_ _)] at O;have bf:=T.out.e6;go_upto_region 6 with fail;clear bf;by_cases h8:x.kind=8
  .
   have t8:(x.kind == 8)=true:=by simp [h8]
   have t7:(7:Int)<=x.kind:=by omega
   have u7:(x.kind == 7)=false:=r_.2 (by omega);have CG:Hid (lg x=x.ah.map Mem.ty ++ [x.key,x.elem]):=by show _=_;unfold lg;rw [o_ h8,o_ t7];rfl
   clear h8;have aC:=T.out.e0;have bF:=T.out.e7;have hbase:w.heap.size+1<=wr.heap.size:=T.out.here;go_upto_region 8 with (at_builtin;refine fA rfl _ _ _ rfl (w.heap.size+1) 3 _ 1 8 Tryz.underlying57 oP rfl (by decide) _ (x.ah.length) _ rfl O.out.now [.int .i64 x.key] _ 1 _ rfl rfl rfl (by simp [Value.oneCell']) (by omega) (by omega) hbase ?_;intro g cap w3 hown3 hg3 hgat hb3)
   clear hg3 hgat hbase aC bF O;replace T:=hiQ (T.out.below hb3 (show w.heap.size < w.heap.size+1 by omega));replace hb:=hb.trans (hb3.mono (show w.heap.size<=w.heap.size+1 by omega));have O:=hiQ (Kept.own hown3);clear hown3;have aC:=T.out.e0;have aV:=T.out.e8;have hbase:w.heap.size+1<=w3.heap.size:=T.out.here;go_upto_region 10 with (at_builtin;refine fA rfl _ _ _ rfl (w.heap.size+1) 3 _ 1 8 Tryz.underlying57 oP rfl (by decide) _ (x.ah.length+1) _ rfl O.out.now [.int .i64 x.elem] _ 1 _ rfl rfl rfl (by simp [Value.oneCell']) (by omega) (by omega) hbase ?_;intro g cap w3 hown3 hg3 hgat hb3)
   exact zCo
  have t8:(x.kind == 8)=false:=by simpa using h8
  by_cases h7:7<=x.kind
  .
   have Ur:x.kind=7\/x.kind=9:=by unfold iP at hk0;omega
   have CG:Hid (lg x=x.ah.map Mem.ty ++ [x.elem]):=by show _=_;unfold lg;rw [gB h8,o_ h7];rfl
   clear h8 h7;rcases Ur with Ur | Ur
   .
    have u7:(x.kind == 7)=true:=by simp [Ur]
    exact zHw
   have u7:(x.kind == 7)=false:=by simp [Ur]
   have u9:(x.kind == 9)=true:=by simp [Ur]
   exact zHw
  have CG:Hid (lg x=x.ah.map Mem.ty):=by show _=_;unfold lg;rw [gB h8,gB h7];simp
  have u7:(x.kind == 7)=false:=r_.2 (by omega);have u9:(x.kind == 9)=false:=r_.2 (by omega);clear h8 h7;have aC:=T.out.e0;exact zDi
theorem arq {x:ay} (h:dY x=true):iP x.kind:=by
 unfold dY at h;unfold iP;simp only [j_,w_] at h;exact h.1
theorem ahj {l:List UInt8} (h:nameB l=true):l≠[]:=by
 rintro rfl;rw [SC [] (.inl rfl)] at h;cases h
theorem acW {x:ay} (h:dY x=true):rY x.kind=true↔x.name≠[]:=by
 have hk:=arq h;rw [wW x hk] at h;simp only [j_] at h;obtain ⟨h1,h2⟩:=h;unfold rD at h1;unfold jy gZ at h2;unfold rY;rcases vF hk with k | k | k | k | k | k | k | k | k <;> simp [k] at h1 h2 ⊢ <;> first | exact ahj h1.1 | (simp [iC] at h2;simp [h2])
theorem Xe (L:List (List UInt8)) (q:Nat) (h:q < L.length) (n:List UInt8) (h1:(L.take q).contains n=false) (h2:¬ L[q]=n):(L.take (q+1)).contains n=false:=by
 rw [vK h,List.contains_eq_mem] at *;simp only [Dp,Qp,decide_eq_false_iff_not] at *;rintro (h3 | h3)
 . exact h1 h3
 exact h2 h3.symm
theorem ae4 (L:List (List UInt8)) (q k:Nat) (h:q < L.length) (hk:q < k) (n:List UInt8) (h2:L[q]=n):(L.take k).contains n=true:=by
 rw [List.contains_eq_mem,w_,<- h2];rw [List.mem_take_iff_getElem];exact ⟨q,by omega,rfl⟩
theorem zAo {p:Prop} (h:p:=by exact ⟨S.out.cell 0,⟨X.out.cell 0,⟨X.out.cell 1,(fun b o hlt => hb.cell (p:=⟨b,o,none⟩) hlt)⟩⟩⟩):p:=h
theorem zIu {p:Prop} (h:p:=by
 have aH:=S.out.e0;go_upto_region 18 with fail;go_quiet (fail)
 go_wp2_with fail;go_ret;exact ⟨bC Hr.out.symm,below_drewN hb _⟩):p:=h
theorem zBp {p:Prop} (h:p:=by
 clear hnc;obtain ⟨aK,bJ,bY,bZ,dL,eX,bU,dD,dM,dU⟩:=X.out.c10;go_wp2_with fail;clear aK bJ bY bZ dL eX bU dD dM dU;((with_reducible refine (Uo x _ _ _ HKI.out hsz.2 (Wj.out.on hb)).mono ?_);rintro e dw ⟨vu,rfl,gQ,fV⟩);obtain ⟨S,X⟩:=b2 S X fV;replace hb:=dT hb fV;clear fV;have Wn:=Jt x hsz.2;have FI:=hiQ (Ll x);obtain ⟨l,hlq⟩ : ∃ l,lg x=l:=⟨_,rfl⟩
 rw [hlq] at gQ Wn FI;have Lm:=hiQ hlq;obtain ⟨Au,cu,rfl,_⟩:=gQ.form;clear hlq;have HX0:=hiQ X.out;have Eh:=hiQ S.out;have hB0:=hb;have HU0:=hiQ gQ;clear gQ;go_wp2_with fail;go_loopw [7] (fun j ws => ∃ q:Nat,q<=l.length/\j = .int .i64 q/\(l.take q).all (inB ts.length)=true/\Has ws w.heap.size 30 #[.slice (some ⟨b,o,none⟩) ts.length c]/\Has ws gX 72 #[.int .i64 x.kind,.string ⟨x.name.toArray⟩,.int .i64 x.low,.int .i64 x.high,.int .i64 x.max,.slice C1 x.syms.length m1,.slice C2 x.ah.length m2,.int .i64 x.key,.int .i64 x.elem,.bool x.opn]/\Rd ws ws.heap.size 1 (.slice Au l.length cu) l.length (l.map (Value.int .i64))/\Below w.heap.size w ws) (fun j _ => l.length - (intOf j).toNat)
 case atStart => exact ⟨0,by omega,rfl,rfl,Eh.out,HX0.out,HU0.out,hB0⟩
 case round =>
  clear X S HX0 Eh HU0 hB0;obtain ⟨q,hq,rfl,hall,S,X,gQ,hb⟩:=hrel;replace S:=hiQ S;replace X:=hiQ X;by_cases tV:q < l.length
  .
   obtain ⟨bu,ou,rfl,hbu,Lr⟩:=gQ.at_ (by omega);have cu0:=ints_at Lr q tV;have hmem:=jl tV;have htk:(l.take (q+1)).all (inB ts.length)=((l.take q).all (inB ts.length) && inB ts.length l[q]):=by rw [vK tV,List.all_append];simp
   have hq1:(q:Int) < l.length:=by omega
   have hq0:(0:Int)<=(q:Int):=by omega
   generalize l[q]=u at *;clear Lr;cases hin:inB ts.length u with
   | true =>
    obtain ⟨un,rfl,hun⟩:=Ad hin;have yP:Hid ((l.take (q+1)).all (inB ts.length)=true):=by show _=_;rw [htk,hall,hin];rfl
    have hu0:decide ((un:Int) < 0)=false:=f_ (by omega);have hu1:decide (ts.length<=un)=false:=f_ (by omega);have hu2:decide ((ts.length:Int)<=(un:Int))=false:=f_ (by omega);have HRU:=hiQ gQ;clear hall htk hin hmem gQ;have aH:=S.out.e0;go_upto_region 18 with fail;go_quiet (fail)
    go_wp2_with fail;go_roundw
    case rel => exact ⟨q+1,by omega,by go_num,yP.out,S.out.drewN _,X.out.drewN _,HRU.out.keep (fun _ _ => rfl),below_drewN hb _⟩
    case measure => simp [intOf];omega
   | false =>
    have Hr:Hid (fF ts=4):=by show _=_;rw [Hv.out,zQ.out,YO ts _ x _ AU.out (by rw [Lm.out];exact NJ l _ u hmem hin)]
    by_cases hu0:u < 0
    .
     have hu1:decide (u < 0)=true:=n_ hu0;clear hall htk hin hmem gQ;exact zIu
    obtain ⟨un,rfl⟩ : ∃ un:Nat,u=un:=⟨u.toNat,by omega⟩
    have hu2:ts.length<=un:=by
     exact zJd
    have hu1:decide ((un:Int) < 0)=false:=f_ (by omega);have hu3:decide (ts.length<=un)=true:=n_ hu2;have hu4:decide ((ts.length:Int)<=(un:Int))=true:=n_ (by omega);clear hall htk hin hmem hu0 gQ;exact zIu
  obtain rfl:q=l.length:=by omega
  rw [yJ (b_ _)] at hall;have arP:Hid ((lg x).all (inB ts.length)=true):=by show _=_;rw [Lm.out];exact hall
  clear gQ;by_cases h8:x.kind=8
  .
   have t8:(x.kind == 8)=true:=by simp [h8]
   obtain ⟨kn,hkn,hkl⟩:=Ad (QD.1 hall x.key (FI.out h8));have hko:=Ju ts x kn hkl hkn;obtain ⟨ys,ym,GX,-⟩:=Ez.out kn hkl;have d0:=((hb).cell (p:=⟨b,_,none⟩) hbb).trans GX.1;have aeo:(kn:Int) < ts.length:=by omega
   have anb:(0:Int)<=(kn:Int):=by omega
   have H8:=hiQ h8;have aH:=S.out.e0;have aK:=X.out.e0;have dD:=X.out.e7;rw [hkn] at dD;have HK:=fun W => D8 ts[kn].kind W;generalize ts[kn].kind=yk at *;have HK:=hiQ HK;clear hall h8 GX hkn;cases hy:(decide (1<=yk) && decide (yk<=4)) with
   | false =>
    have Hr:Hid (fF ts=1):=by show _=_;rw [Hv.out,zQ.out,Lh ts _ x _ AU.out arP.out ⟨H8.out,by rw [hko,hy]⟩]
    rw [hy] at HK;clear hko hy;go_wp2_with fail;clear aH aK dD;((with_reducible refine (HK.out _).mono ?_);rintro e dQ ⟨rfl,rfl⟩);go_wp2_with fail;go_ret;exact ⟨bC Hr.out.symm,hb⟩
   | true =>
    have FN:Hid (¬ (x.kind=8/\akK ts x=false)):=fun h => by
     have h2:=h.2;rw [hko,hy] at h2;cases h2
    rw [hy] at HK;clear hko hy;go_wp2_with fail;clear aH aK dD;((with_reducible refine (HK.out _).mono ?_);rintro e dQ ⟨rfl,rfl⟩);go_wp2_with fail;go_roundw
    case rel => exact ⟨k+1,by omega,by go_num,S.out,by rw [zQ.out,Lj ts _ x _ AU.out arP.out FN.out,GV.out],hb⟩
    case measure => simp [intOf];omega
  have t8:(x.kind == 8)=false:=by simpa using h8
  have FN:Hid (¬ (x.kind=8/\akK ts x=false)):=fun h => h8 h.1;clear hall h8;have aK:=X.out.e0;go_wp2_with fail;go_roundw
  case rel => exact ⟨k+1,by omega,by go_num,S.out,by rw [zQ.out,Lj ts _ x _ AU.out arP.out FN.out,GV.out],hb⟩
  case measure => simp [intOf];omega):p:=h
theorem aaw (ts:List ay) (A:Option Addr) (c:Nat) (w:World) (hs:Sizes ts) (ht:aU w w.heap.size (.slice A ts.length c) ts) :
  Calls Tryz.prog 43 #[.agg #[.slice A ts.length c]] w (RT w (.int .i64 (fF ts))):=by
 have HT:=hiQ ht;have HS:=hiQ hs;by_cases h32:32 < ts.length
 .
  have Hv:Hid (fF ts=3):=by show _=_;unfold fF;rw [o_ h32]
  have hd:(32:Int) < ts.length:=by omega
  have hd2:decide ((32:Int) < ts.length)=true:=n_ hd;clear ht hs;go_enter Tryz.func43,Tryz.ntmps43
  go_upto_region 1 with fail;refine aO (fun wd2 hb1 S => ?_);have hw3:=hb1;clear hb1;have aH:=S.out.e0;go_wp2_with fail;go_ret;exact ⟨bC (Hv.out.symm),hw3⟩
 have Hv:Hid (fF ts=lU ts ts []):=by show _=_;unfold fF;rw [gB h32]
 have hd:(ts.length:Int)<=32:=by omega
 have hd2:decide ((32:Int) < ts.length)=false:=f_ (by omega);clear hs h32;by_cases hz:ts.length=0
 .
  have Uf:Hid (fF ts=0):=by show _=_;rw [Hv.out,yS hz,lU]
  rw [hz];clear ht hd hd2;go_enter Tryz.func43,Tryz.ntmps43
  go_upto_region 1 with fail;refine aO (fun wd2 hb1 S => ?_);have hw3:=hb1;clear hb1;have aH:=S.out.e0;go_wp2_with fail;refine wp_loop_rounds 1 ?_;rw [rounds_succ];go_wp2_with fail;go_ret;exact ⟨bC Uf.out.symm,hw3⟩
 obtain ⟨b,o,rfl,hbb,hel⟩:=ht.elem (by omega);have Ez:=hiQ hel;clear ht hel;go_enter Tryz.func43,Tryz.ntmps43
 go_upto_region 1 with fail;refine aO (fun wd2 hb1 S => ?_);have hw3:=hb1;clear hb1;have aH:=S.out.e0;have Eh:=hiQ S.out;have hB0:=hw3;go_wp2_with fail;clear aH;go_loopw [3] (fun i wr => ∃ k:Nat,k<=ts.length/\i = .int .i64 k/\Has wr w.heap.size 30 #[.slice (some ⟨b,o,none⟩) ts.length c]/\lU ts ts []=lU ts (ts.drop k) ((ts.take k).map ay.name)/\Below w.heap.size w wr) (fun i _ => ts.length - (intOf i).toNat)
 case atStart => exact ⟨0,by omega,rfl,Eh.out,rfl,hB0⟩
 case round =>
  clear S hB0 Eh;obtain ⟨k,hk,rfl,S,hvk,hw⟩:=hrel;replace S:=hiQ S;by_cases hlt:k < ts.length
  .
   obtain ⟨vs,vm,hcells,hxa⟩:=Ez.out k hlt;have hsz:=HS.out _ (jl hlt);have GV:=hiQ (Oq ts k hlt);rw [A_ hlt] at hvk;obtain ⟨x,hxq⟩ : ∃ x,ts[k]=x:=⟨_,rfl⟩
   rw [hxq] at hcells hxa hsz GV hvk;clear hxq;obtain ⟨C1,m1,C2,m2,rfl,rfl,-,-⟩:=hxa.forms;obtain ⟨c0,c1,c2,c3,c4,c5,c6,c7,c8,c9⟩:=hcells.below hw hbb;have Wj:=hiQ hxa;have zQ:=hiQ hvk;have hi1:(k:Int) < ts.length:=by omega
   have hi0:(0:Int)<=(k:Int):=by omega
   have hnl:=hxa.GI;clear hxa hvk hcells;have aH:=S.out.e0;go_upto_region 7 with fail;clear aH;refine aO (fun fG hb4 X => ?_);have nI:=S.out.here;have mO:=hw.size;replace S:=b1 S hb4;replace hw:=dT hw hb4;clear hb4;generalize wr.heap.size=g6 at *;clear c0 c1 c2 c3 c4 c5 c6 c7 c8 c9;obtain ⟨aK,bJ,bY,bZ,dL,eX,bU,dD,dM,dU⟩:=X.out.c10;go_wp2_with fail;clear aK bJ bY bZ dL eX bU dD dM dU;((with_reducible refine (ahg x _ _ _ (Wj.out.on hw)).mono ?_);rintro e nM ⟨rfl,aY⟩);obtain ⟨S,X⟩:=b2 S X aY;replace hw:=dT hw aY;clear aY;cases hf:dY x with
   | false =>
    have Hr:Hid (fF ts=1):=by show _=_;rw [Hv.out,zQ.out,JW ts _ x _ (.inl hf)]
    clear hf;go_wp2_with fail;go_ret;exact ⟨bC (Hr.out.symm),hw⟩
   | true =>
    have hfn:=acW hf;have HKI:=hiQ (arq hf);have Hf:=hiQ hf;clear hf;cases hnm:rY x.kind with
    | false =>
     have hnn:x.name = []:=by
      rcases Classical.em (x.name = []) with h | h
      . exact h
      rw [hfn.2 h] at hnm;cases hnm
     have AU:Hid (¬ (dY x=false\/(x.name≠[]/\((ts.take k).map ay.name).contains x.name=true))):=fun h => by
      rcases h with h | h
      . rw [Hf.out] at h;cases h
      exact h.1 hnn
     clear hnn hfn;have HN:=hiQ (fun W => JF x.kind W);rw [hnm] at HN;have HX0:=hiQ X.out;have Eh:=hiQ S.out;have hB0:=hw;obtain ⟨gX,zD⟩ : ∃ g,g=g6:=⟨_,rfl⟩
     subst zD;go_wp2_with fail;go_loopw [5] (fun j ws => ∃ q:Nat,q<=k/\j = .int .i64 q/\True/\Has ws w.heap.size 30 #[.slice (some ⟨b,o,none⟩) ts.length c]/\Has ws gX 72 #[.int .i64 x.kind,.string ⟨x.name.toArray⟩,.int .i64 x.low,.int .i64 x.high,.int .i64 x.max,.slice C1 x.syms.length m1,.slice C2 x.ah.length m2,.int .i64 x.key,.int .i64 x.elem,.bool x.opn]/\Below w.heap.size w ws) (fun j _ => k - (intOf j).toNat)
     case atStart => exact ⟨0,by omega,rfl,trivial,Eh.out,HX0.out,hB0⟩
     case round =>
      clear X S HX0 Eh hB0;obtain ⟨q,hq,rfl,hnc,S,X,hb⟩:=hrel;replace S:=hiQ S;replace X:=hiQ X;by_cases hqk:q < k
      .
       have tV:q < ts.length:=by omega
       have hq1:(q:Int) < k:=by omega
       have hq2:(q:Int) < ts.length:=by omega
       have hq0:(0:Int)<=(q:Int):=by omega
       have aK:=X.out.e0;go_upto_region 12 with fail;refine t_ (S:=(fun w' => w'.cell? ⟨gX,0,none⟩=some (.int .i64 x.kind)/\(∀ (b o:Nat),b < w.heap.size->w'.cell? ⟨b,o,none⟩=w.cell? ⟨b,o,none⟩))) (by kernel_rfl) ⟨aK,(fun b o hlt => hb.cell (p:=⟨b,o,none⟩) hlt)⟩ (fun hHeld => ?_);clear aK;have iR:Below wr.heap.size wr (wr.drew):=(g_ _ _).drew;obtain ⟨S,X⟩:=b2 S X iR;replace hb:=dT hb iR;clear iR;generalize wr.drew=lZ at *;refine tk 0 ?_;refine tk 1 ?_;refine iE 2 fun K hK => ?_;go_simp;((with_reducible refine (HN.out _).mono ?_);rintro e dQ ⟨rfl,rfl⟩);(try clear hHeld);refine hK.out _ _ (⟨X.out.cell 0,(fun b o hlt => hb.cell (p:=⟨b,o,none⟩) hlt)⟩) (fun hHeld => ?_);clear hK K;refine tk 3 ?_;refine tks 4 ?_;simp only [aF];refine tks 5 ?_;simp only [aF];refine tks 6 ?_;simp only [aF];refine tks 7 ?_;simp only [aF];refine tks 8 ?_;simp only [aF];refine tks 9 ?_;simp only [aF];refine tks 10 ?_;simp only [aF];refine tks 11 ?_;simp only [aF];refine tks 12 ?_;simp only [aF];refine tk 13 ?_;refine Dl (by kernel_rfl) ?_ _;(try clear hHeld);go_wp2_with fail;go_roundw
       case rel => exact ⟨q+1,by omega,by go_num,trivial,S.out,X.out,hb⟩
       case measure => simp [intOf];omega
      obtain rfl:k=q:=by omega
      exact zBp
    | true =>
     have hne:=hfn.1 hnm;clear hfn;have HN:=hiQ (fun W => JF x.kind W);rw [hnm] at HN;have HX0:=hiQ X.out;have Eh:=hiQ S.out;have hB0:=hw;obtain ⟨gX,zD⟩ : ∃ g,g=g6:=⟨_,rfl⟩
     subst zD;go_wp2_with fail;go_loopw [5] (fun j ws => ∃ q:Nat,q<=k/\j = .int .i64 q/\((ts.map ay.name).take q).contains x.name=false/\Has ws w.heap.size 30 #[.slice (some ⟨b,o,none⟩) ts.length c]/\Has ws gX 72 #[.int .i64 x.kind,.string ⟨x.name.toArray⟩,.int .i64 x.low,.int .i64 x.high,.int .i64 x.max,.slice C1 x.syms.length m1,.slice C2 x.ah.length m2,.int .i64 x.key,.int .i64 x.elem,.bool x.opn]/\Below w.heap.size w ws) (fun j _ => k - (intOf j).toNat)
     case atStart => exact ⟨0,by omega,rfl,rfl,Eh.out,HX0.out,hB0⟩
     case round =>
      clear X S HX0 Eh hB0;obtain ⟨q,hq,rfl,hnc,S,X,hb⟩:=hrel;replace S:=hiQ S;replace X:=hiQ X;by_cases hqk:q < k
      .
       have tV:q < ts.length:=by omega
       have hq1:(q:Int) < k:=by omega
       have hq2:(q:Int) < ts.length:=by omega
       have hq0:(0:Int)<=(q:Int):=by omega
       obtain ⟨ys,ym,GX,-⟩:=Ez.out q tV;have y1:=GX.2.1;obtain ⟨p,hp⟩ : ∃ p,ts[q].name=p:=⟨_,rfl⟩
       rw [hp] at y1;clear GX;by_cases hps:p=x.name
       .
        have ED:(p == x.name)=true:=by simp [hps]
        have hin:=ae4 (ts.map ay.name) q k (by simpa using tV) hqk x.name (by simpa [hp] using hps);rw [<- List.map_take] at hin;have Hr:Hid (fF ts=1):=by show _=_;rw [Hv.out,zQ.out,JW ts _ x _ (.inr ⟨hne,hin⟩)]
        have Hp:=hiQ hp;clear hin hps hnc hp;have aH:=S.out.e0;have aK:=X.out.e0;have bJ:=X.out.e1;go_upto_region 12 with fail;refine t_ (S:=(fun w' => w'.cell? ⟨w.heap.size,0,none⟩=some (.slice (some ⟨b,o,none⟩) ts.length c)/\w'.cell? ⟨gX,0,none⟩=some (.int .i64 x.kind)/\w'.cell? ⟨gX,1,none⟩=some (.string ⟨x.name.toArray⟩)/\(∀ (b o:Nat),b < w.heap.size->w'.cell? ⟨b,o,none⟩=w.cell? ⟨b,o,none⟩))) (by kernel_rfl) ⟨aH,aK,bJ,(fun b o hlt => hb.cell (p:=⟨b,o,none⟩) hlt)⟩ (fun hHeld => ?_);clear aH aK bJ;have iR:Below wr.heap.size wr (wr.drew):=(g_ _ _).drew;obtain ⟨S,X⟩:=b2 S X iR;replace hb:=dT hb iR;clear iR;generalize wr.drew=lZ at *;refine tk 0 ?_;refine tk 1 ?_;refine iE 2 fun K hK => ?_;go_simp;((with_reducible refine (HN.out _).mono ?_);rintro e dQ ⟨rfl,rfl⟩);(try clear hHeld);refine hK.out _ _ zAo (fun hHeld => ?_);clear hK K;refine tk 3 ?_;refine tk 4 ?_;refine tk 5 ?_;refine tk 6 ?_;refine tk 7 ?_;refine tk 8 ?_;refine tk 9 ?_;refine tk 10 ?_;refine tk 11 ?_;refine tk 12 ?_;refine tk 13 ?_;refine Dl (by kernel_rfl) ?_ _;(try clear hHeld);clear y1;go_wp2_with fail;go_ret;exact ⟨bC Hr.out.symm,hb⟩
       have ED:(p == x.name)=false:=by simpa using hps
       have Me:Hid (((ts.map ay.name).take (q+1)).contains x.name=false):=Xe (ts.map ay.name) q (by simpa using tV) x.name hnc (by simpa [hp] using hps);have Hp:=hiQ hp;clear hps hnc hp;have aH:=S.out.e0;have aK:=X.out.e0;have bJ:=X.out.e1;go_upto_region 12 with fail;refine t_ (S:=(fun w' => w'.cell? ⟨w.heap.size,0,none⟩=some (.slice (some ⟨b,o,none⟩) ts.length c)/\w'.cell? ⟨gX,0,none⟩=some (.int .i64 x.kind)/\w'.cell? ⟨gX,1,none⟩=some (.string ⟨x.name.toArray⟩)/\(∀ (b o:Nat),b < w.heap.size->w'.cell? ⟨b,o,none⟩=w.cell? ⟨b,o,none⟩))) (by kernel_rfl) ⟨aH,aK,bJ,(fun b o hlt => hb.cell (p:=⟨b,o,none⟩) hlt)⟩ (fun hHeld => ?_);clear aH aK bJ;have iR:Below wr.heap.size wr (wr.drew):=(g_ _ _).drew;obtain ⟨S,X⟩:=b2 S X iR;replace hb:=dT hb iR;clear iR;generalize wr.drew=lZ at *;refine tk 0 ?_;refine tk 1 ?_;refine iE 2 fun K hK => ?_;go_simp;((with_reducible refine (HN.out _).mono ?_);rintro e dQ ⟨rfl,rfl⟩);(try clear hHeld);refine hK.out _ _ zAo (fun hHeld => ?_);clear hK K;refine tk 3 ?_;refine tk 4 ?_;refine tk 5 ?_;refine tk 6 ?_;refine tk 7 ?_;refine tk 8 ?_;refine tk 9 ?_;refine tk 10 ?_;refine tk 11 ?_;refine tk 12 ?_;refine tk 13 ?_;refine Dl (by kernel_rfl) ?_ _;(try clear hHeld);clear y1;go_wp2_with fail;go_roundw
       case rel => exact ⟨q+1,by omega,by go_num,Me.out,S.out,X.out,hb⟩
       case measure => simp [intOf];omega
      obtain rfl:k=q:=by omega
      have AU:Hid (¬ (dY x=false\/(x.name≠[]/\((ts.take k).map ay.name).contains x.name=true))):=fun h => by
       rcases h with h | h
       . rw [Hf.out] at h;cases h
       rw [List.map_take,hnc] at h;cases h.2
      exact zBp
  obtain rfl:k=ts.length:=by omega
  have Hr:Hid (fF ts=0):=by show _=_;rw [Hv.out,hvk,G_ (b_ _),lU]
  clear hvk;have aH:=S.out.e0;exact zDv
def qx:List Raw->Nat
 | [] => 0
 | r :: l => r.2.length+qx l
mutual
def I8:Val->Nat
 | .mk _ _ _ s _ ks is rs => 10+s.length+rs.length+qx rs+uK ks+uK is
def uK:List Val->Nat
 | [] => 0
 | y :: r => I8 y+uK r
end
theorem Vp (v:Val):I8 v=10+v.str.length+v.rest.length+qx v.rest+uK v.keys+uK v.items:=by cases v;rw [I8];rfl
theorem Xf:∀ (a:List Raw) (r:Raw),qx (a ++ [r])=qx a+r.2.length
 | [],r => by simp [qx]
 | x :: l,r => by rw [Qu,qx,qx,Xf l r];omega
theorem ac0 (l:List Raw) (k:Nat) (h:k < l.length):qx (l.take (k+1))=qx (l.take k)+l[k].2.length:=by rw [vK h,Xf]
theorem uy:∀ (a:List Val) (r:Val),uK (a ++ [r])=uK a+I8 r
 | [],r => by simp [uK]
 | x :: l,r => by rw [Qu,uK,uK,uy l r];omega
theorem Xg (l:List Val) (k:Nat) (h:k < l.length):uK (l.take (k+1))=uK (l.take k)+I8 l[k]:=by rw [vK h,uy]
def ajv (v:Val) (n:Int) (w:World) (e:Ending) (w':World):Prop:=(∃ r:Int,e = .returned (.int .i64 r) /\ -300000000000000<=r/\r<=n/\(0<=r->(I8 v:Int)<=n - r))/\Below w.heap.size w w'
def JH (w:World) (cs:Array Value) (n a:Int) (m:Nat) (wr:World):Prop := -300000000000000<=a/\a<=n/\(0<=a->(m:Int)<=n - a)/\Has wr w.heap.size 34 cs/\Below w.heap.size w wr
theorem zDy {p:Prop} (h:p:=by
 ((with_reducible refine (IH.out y a _ _ _ _ (by omega) ha0 (by omega) HA.out).mono ?_);rintro e wd4 ⟨⟨z,rfl,hz1,hz2,hz3⟩,hb5⟩);replace V:=b1 V hb5;replace hb:=dT hb hb5;clear hb5;have HZ3:=hiQ hz3;clear d0 d1 d2 d3 d4 d5 d6 d7 hA hz3;go_wp2_with fail;go_roundw
 case rel => exact ⟨k+1,z,by omega,by go_num,rfl,hz1,by omega,fun h => by have e1:=HZ3.out h;have e2:=H3.out ha0;rw [Cb.out];omega,V.out,hb⟩
 case measure => simp [intOf];omega):p:=h
theorem zEf {p:Prop} (h:p:=by
 by_cases h2:0<=a
 .
  go_wp2_with fail;go_meet
  exact ⟨by rw [HG.out];simp [h1,h2],rfl⟩
 go_wp2_with fail;go_meet
 exact ⟨by rw [HG.out];simp [h1,h2],rfl⟩):p:=h
theorem zFr {p:Prop} (h:p:=by
 intro h;have h4:=HG.out.symm;simp only [Bool.and_eq_false_iff,decide_eq_false_iff_not] at h4;have e2:=H3.out h;rw [yJ (by omega)] at e2;exact e2):p:=h
theorem aay:∀ (N:Nat) (x:Val) (n:Int) (vk vi vr:Value) (w:World),nodes x<=N->0<=n->n<=3000->ValAt w w.heap.size x vk vi vr->Calls Tryz.prog 23 #[aS x vk vi vr,.int .i64 n] w (ajv x n w):=by
 intro N
 induction N with
 | zero => intro x n vk vi vr w h;have:=zJ x;omega
 | succ N ih =>
  intro x n vk vi vr w hN hn0 hn1 hv;have hle:=hv.FH;have hsl:=hv.AL;have HRW:=hiQ hv.Ie;obtain ⟨A1,n1,A2,n2,A3,n3,rfl,rfl,rfl,-,-,-⟩:=hv.forms;have hnn:lT x.keys+lT x.items<=N:=by have:=Jp x;omega
  have HV:=hiQ hv;have IH:=hiQ ih;clear hv ih hN;go_enter Tryz.func23,Tryz.ntmps23
  go_upto_region 1 with fail;refine aO (fun wd2 hb1 V => ?_);have hw3:=hb1;clear hb1;have dI:=V.out.e3;have dJ:=V.out.e7;have hw1:IntKind.i64.wrap (n - (10+(x.str.length:Int)+x.rest.length))=n - (10+(x.str.length:Int)+x.rest.length):=E_ _ (by omega);obtain ⟨m0,hm0,EF⟩ : ∃ m0:Int,n - (10+(x.str.length:Int)+x.rest.length)=m0/\Hid (m0=n - (10+(x.str.length:Int)+x.rest.length)):=⟨_,rfl,hiQ rfl⟩
  go_upto_region 3 with fail;have HI0:Hid (JH w #[.int .i64 x.kind,.bool x.bool,.int .i64 x.num,.string ⟨x.str.toArray⟩,.int .i64 x.id,.slice A1 x.keys.length n1,.slice A2 x.items.length n2,.slice A3 x.rest.length n3] n m0 (10+x.str.length+x.rest.length+qx (x.rest.take 0)) wd2):=hiQ ⟨by have:=EF.out;omega,by have:=EF.out;omega,fun h => by have:=EF.out;simp [qx];omega,V.out,hw3⟩;clear V hw3 hw1 hm0;go_loopw [1,5] (fun m i wr => ∃ (k:Nat) (a:Int),k<=x.rest.length/\i = .int .i64 k/\m = .int .i64 a/\JH w #[.int .i64 x.kind,.bool x.bool,.int .i64 x.num,.string ⟨x.str.toArray⟩,.int .i64 x.id,.slice A1 x.keys.length n1,.slice A2 x.items.length n2,.slice A3 x.rest.length n3] n a (10+x.str.length+x.rest.length+qx (x.rest.take k)) wr) (fun _ i _ => x.rest.length - (intOf i).toNat)
  case atStart => exact ⟨0,_,by omega,rfl,rfl,HI0.out⟩
  case round =>
   clear HI0 EF;obtain ⟨k,a,hk,rfl,rfl,h1a,Ob,Oc,V,hb⟩:=hrel;replace V:=hiQ V;have H3:=hiQ Oc;clear Oc;obtain ⟨gb,HG⟩ : ∃ gb:Bool,Hid (gb=(decide ((k:Int) < x.rest.length) && decide (0<=a))):=⟨_,hiQ rfl⟩
   have dJ:=V.out.e7;go_upto_region 3 with fail;go_cut [26] from 18 to 27 (fun sg wx => sg = .bool gb/\wx=wr)
   case first =>
    by_cases h1:(k:Int) < x.rest.length
    . exact zEf
    go_wp2_with fail;go_meet
    exact ⟨by rw [HG.out,f_ (show ¬ (k:Int) < x.rest.length by omega)];rfl,rfl⟩
   case rest =>
    obtain ⟨rfl,hwc⟩:=hcut;replace hwc:=hwc.symm;subst hwc;cases hg:gb with
    | true =>
     rw [hg] at HG;have h4:=HG.out.symm;simp only [j_,w_] at h4;obtain ⟨hki,ha0⟩:=h4;have hlt:k < x.rest.length:=by omega
     clear HG hg;obtain ⟨b,o,hA,hbb,hcell⟩:=(HV.out.on hb).rest.at_ (by omega);obtain ⟨d0,d1⟩:=qy hcell k hlt;have gy:=(HRW.out x.rest[k] (jl hlt)).2;have Cb:=hiQ (ac0 x.rest k hlt);generalize x.rest[k]=r at *;have hz1 : -300000000000000<=a - (r.2.length:Int):=by omega
     clear hcell;go_wp2_with fail;clear hA;go_roundw
     case rel => exact ⟨k+1,a - (r.2.length:Int),by omega,by go_num,by go_num,hz1,by omega,fun h => by have e2:=H3.out ha0;rw [Cb.out];omega,V.out,hb⟩
     case measure => simp [intOf];omega
    | false =>
     rw [hg] at HG;have H4:Hid (0<=a->((10+x.str.length+x.rest.length+qx x.rest+uK (x.keys.take 0):Nat):Int)<=n - a):=by
      intro h;have h4:=HG.out.symm;simp only [Bool.and_eq_false_iff,decide_eq_false_iff_not] at h4;have e2:=H3.out h;rw [yJ (by omega)] at e2;simp [uK];omega
     have HI0:Hid (JH w #[.int .i64 x.kind,.bool x.bool,.int .i64 x.num,.string ⟨x.str.toArray⟩,.int .i64 x.id,.slice A1 x.keys.length n1,.slice A2 x.items.length n2,.slice A3 x.rest.length n3] n a (10+x.str.length+x.rest.length+qx x.rest+uK (x.keys.take 0)) wr):=hiQ ⟨h1a,Ob,H4.out,V.out,hb⟩;clear HG hg H3;go_upto_region 7 with fail;clear V hb H4;go_loopw [1,6] (fun m i wr => ∃ (k:Nat) (a:Int),k<=x.keys.length/\i = .int .i64 k/\m = .int .i64 a/\JH w #[.int .i64 x.kind,.bool x.bool,.int .i64 x.num,.string ⟨x.str.toArray⟩,.int .i64 x.id,.slice A1 x.keys.length n1,.slice A2 x.items.length n2,.slice A3 x.rest.length n3] n a (10+x.str.length+x.rest.length+qx x.rest+uK (x.keys.take k)) wr) (fun _ i _ => x.keys.length - (intOf i).toNat)
     case atStart => exact ⟨0,_,by omega,rfl,rfl,HI0.out⟩
     case round =>
      clear HI0 hk h1a Ob;obtain ⟨k,a,hk,rfl,rfl,h1a,Ob,Oc,V,hb⟩:=hrel;replace V:=hiQ V;have H3:=hiQ Oc;clear Oc;obtain ⟨gb,HG⟩ : ∃ gb:Bool,Hid (gb=(decide ((k:Int) < x.keys.length) && decide (0<=a))):=⟨_,hiQ rfl⟩
      have aQ:=V.out.e5;go_upto_region 7 with fail;go_cut [46] from 38 to 47 (fun sg wx => sg = .bool gb/\wx=wr)
      case first =>
       by_cases h1:(k:Int) < x.keys.length
       . exact zEf
       go_wp2_with fail;go_meet
       exact ⟨by rw [HG.out,f_ (show ¬ (k:Int) < x.keys.length by omega)];rfl,rfl⟩
      case rest =>
       obtain ⟨rfl,hwc⟩:=hcut;replace hwc:=hwc.symm;subst hwc;cases hg:gb with
       | true =>
        rw [hg] at HG;have h4:=HG.out.symm;simp only [j_,w_] at h4;obtain ⟨hki,ha0⟩:=h4;have hlt:k < x.keys.length:=by omega
        clear HG hg;obtain ⟨b,o,hA,hbb,hel⟩:=(HV.out.on hb).keys.elem (by omega);obtain ⟨yk,yi,yr,hcells,hva⟩:=hel k hlt;have hny:=tY x.keys x.keys[k] (jl hlt);have Cb:=hiQ (Xg x.keys k hlt);generalize x.keys[k]=y at *;obtain ⟨B1,k1,B2,k2,B3,k3,rfl,rfl,rfl,-,-,-⟩:=hva.forms;obtain ⟨d0,d1,d2,d3,d4,d5,d6,d7⟩:=hcells;have HA:=hiQ hva;clear hel hva;go_wp2_with fail;clear aQ;exact zDy
       | false =>
        rw [hg] at HG;have H4:Hid (0<=a->((10+x.str.length+x.rest.length+qx x.rest+uK x.keys:Nat):Int)<=n - a):=by
         exact zFr
        have HI0:Hid (JH w #[.int .i64 x.kind,.bool x.bool,.int .i64 x.num,.string ⟨x.str.toArray⟩,.int .i64 x.id,.slice A1 x.keys.length n1,.slice A2 x.items.length n2,.slice A3 x.rest.length n3] n a (10+x.str.length+x.rest.length+qx x.rest+uK x.keys) wr):=hiQ ⟨h1a,Ob,H4.out,V.out,hb⟩;clear HG hg H3;go_upto_region 11 with fail;clear V hb H4;go_loopw [1,7] (fun m i wr => ∃ (k:Nat) (a:Int),k<=x.items.length/\i = .int .i64 k/\m = .int .i64 a/\JH w #[.int .i64 x.kind,.bool x.bool,.int .i64 x.num,.string ⟨x.str.toArray⟩,.int .i64 x.id,.slice A1 x.keys.length n1,.slice A2 x.items.length n2,.slice A3 x.rest.length n3] n a (10+x.str.length+x.rest.length+qx x.rest+uK x.keys+uK (x.items.take k)) wr) (fun _ i _ => x.items.length - (intOf i).toNat)
        case atStart => exact ⟨0,_,by omega,rfl,rfl,HI0.out⟩
        case round =>
         clear HI0 hk h1a Ob;obtain ⟨k,a,hk,rfl,rfl,h1a,Ob,Oc,V,hb⟩:=hrel;replace V:=hiQ V;have H3:=hiQ Oc;clear Oc;obtain ⟨gb,HG⟩ : ∃ gb:Bool,Hid (gb=(decide ((k:Int) < x.items.length) && decide (0<=a))):=⟨_,hiQ rfl⟩
         have aP:=V.out.e6;go_upto_region 11 with fail;go_cut [64] from 56 to 65 (fun sg wx => sg = .bool gb/\wx=wr)
         case first =>
          by_cases h1:(k:Int) < x.items.length
          . exact zEf
          go_wp2_with fail;go_meet
          exact ⟨by rw [HG.out,f_ (show ¬ (k:Int) < x.items.length by omega)];rfl,rfl⟩
         case rest =>
          obtain ⟨rfl,hwc⟩:=hcut;replace hwc:=hwc.symm;subst hwc;cases hg:gb with
          | true =>
           rw [hg] at HG;have h4:=HG.out.symm;simp only [j_,w_] at h4;obtain ⟨hki,ha0⟩:=h4;have hlt:k < x.items.length:=by omega
           clear HG hg;obtain ⟨b,o,hA,hbb,hel⟩:=(HV.out.on hb).items.elem (by omega);obtain ⟨yk,yi,yr,hcells,hva⟩:=hel k hlt;have hny:=tY x.items x.items[k] (jl hlt);have Cb:=hiQ (Xg x.items k hlt);generalize x.items[k]=y at *;obtain ⟨B1,k1,B2,k2,B3,k3,rfl,rfl,rfl,-,-,-⟩:=hva.forms;obtain ⟨d0,d1,d2,d3,d4,d5,d6,d7⟩:=hcells;have HA:=hiQ hva;clear hel hva;go_wp2_with fail;clear aP;exact zDy
          | false =>
           rw [hg] at HG;have H4:Hid (0<=a->((10+x.str.length+x.rest.length+qx x.rest+uK x.keys+uK x.items:Nat):Int)<=n - a):=by
            exact zFr
           have HI0:Hid (JH w #[.int .i64 x.kind,.bool x.bool,.int .i64 x.num,.string ⟨x.str.toArray⟩,.int .i64 x.id,.slice A1 x.keys.length n1,.slice A2 x.items.length n2,.slice A3 x.rest.length n3] n a (10+x.str.length+x.rest.length+qx x.rest+uK x.keys+uK x.items) wr):=hiQ ⟨h1a,Ob,H4.out,V.out,hb⟩;clear HG hg H3 HI0;go_wp2_with fail;go_ret;exact ⟨⟨a,rfl,h1a,Ob,by rw [Vp x];exact H4.out⟩,hb⟩
theorem ae7 {r:Int} {z:Nat} (h:0<=r) (h3:0<=r->(z:Int)<=3000 - r):z<=3000:=by have:=h3 h;omega
theorem Zr (x:Val) (vk vi vr:Value) (w:World) (hv:ValAt w w.heap.size x vk vi vr) :
  Calls Tryz.prog 7 #[aS x vk vi vr] w fun e w' => (∃ b:Bool,e = .returned (.bool b)/\(b=true->I8 x<=3000))/\Below w.heap.size w w':=by
 obtain ⟨A1,n1,A2,n2,A3,n3,rfl,rfl,rfl,-,-,-⟩:=hv.forms;have HZ:=hiQ (fun W h => aay (nodes x) x 3000 (.slice A1 x.keys.length n1) (.slice A2 x.items.length n2) (.slice A3 x.rest.length n3) W (b_ _) (by omega) (by omega) h);have HV:=hiQ hv;simp only [aS] at HZ ⊢;clear hv;go_enter Tryz.func7,Tryz.ntmps7
 go_upto_region 1 with fail;refine aO (fun wd2 hb1 V => ?_);have hw3:=hb1;clear hb1;obtain ⟨bK,dh,dn,dI,bG,aQ,aP,dJ⟩:=V.out.c8;go_wp2_with fail;clear bK dh dn dI bG aQ aP dJ;((with_reducible refine (HZ.out _ (HV.out.on hw3)).mono ?_);rintro e wd4 ⟨⟨r,rfl,h1,h2,h3⟩,hb5⟩);replace V:=b1 V hb5;replace hw3:=dT hw3 hb5;clear hb5;have H3:=hiQ h3;clear h3;go_wp2_with fail;go_ret;exact ⟨⟨decide (0<=r),by first | rfl | (congr 2),fun h => ae7 (by simpa using h) H3.out⟩,hw3⟩
theorem ac1 (x:ay) (v:Val) (K K' I I' H H':Int->Bool) (Z Z':List Mem->Bool) (hK:∀ t,K t=true->K' t=true) (hI:∀ t,I t=true->I' t=true) (hZ:∀ m,Z m=true->Z' m=true) (hH:∀ t,H t=true->H' t=true)
  (h:ig true x v K I Z H=true):ig false x v K' I' Z' H'=true:=by
 unfold ig at h ⊢;by_cases k2:x.kind=2
 . rw [o_ k2] at h ⊢; exact h
 rw [gB k2] at h ⊢;by_cases k3:x.kind=3
 . rw [o_ k3] at h ⊢; exact h
 rw [gB k3] at h ⊢;by_cases k4:x.kind=4
 .
  rw [o_ k4] at h ⊢;rw [Uu,QE,Bool.and_false,Bool.or_false] at h;rw [h];rfl
 rw [gB k4] at h ⊢;by_cases k5:x.kind=5
 .
  rw [o_ k5] at h ⊢;simp only [j_] at h;obtain ⟨h1,_,h3,h4⟩:=h;rw [h1,h3,hZ _ h4];rfl
 rw [gB k5] at h ⊢;by_cases k6:x.kind=6
 .
  rw [o_ k6] at h ⊢;cases hm:dN x v.id with
  | none =>
   rw [hm] at h;simp only [Uu,QE,Bool.and_false] at h;cases h
  | some i =>
   rw [hm] at h;simp only [j_] at h ⊢;refine ⟨h.1,h.2.1,?_⟩;have h3:=h.2.2;cases hx:x.ah[i]? with
   | none => rw [hx] at h3;cases h3
   | some m => rw [hx] at h3;exact hH _ h3
 rw [gB k6] at h ⊢;by_cases k7:x.kind=7
 .
  rw [o_ k7] at h ⊢;simp only [j_] at h ⊢;exact ⟨h.1,hI _ h.2⟩
 rw [gB k7] at h ⊢;by_cases k8:x.kind=8
 .
  rw [o_ k8] at h ⊢;simp only [j_] at h ⊢;exact ⟨h.1,h.2.1,hK _ h.2.2.1,h.2.2.2.1,hI _ h.2.2.2.2⟩
 rw [gB k8] at h ⊢;by_cases k9:x.kind=9
 .
  rw [o_ k9] at h ⊢;simp only [j_] at h ⊢;exact ⟨h.1,hI _ h.2⟩
 rw [gB k9]
mutual
theorem BZ (ts:List ay):∀ (v:Val) (t:Int),cO ts true v t=true->cO ts false v t=true
 | .mk k b n s id ks is rs,t,h => by
  rw [cO] at h ⊢;cases hx:bM ts t with
  | none => rw [hx] at h;cases h
  | some x =>
   rw [hx] at h;simp only [j_] at h ⊢;exact ⟨h.1,h.2.1,ac1 x _ _ _ _ _ _ _ _ _ (Io ts ks) (Io ts is) (OA ts is) (X9 ts is) h.2.2⟩
theorem Io (ts:List ay):∀ (l:List Val) (t:Int),rC ts true l t=true->rC ts false l t=true
 | [],_,_ => by rw [rC]
 | y :: r,t,h => by
  rw [rC,j_] at h ⊢;exact ⟨BZ ts y t h.1,Io ts r t h.2⟩
theorem OA (ts:List ay):∀ (l:List Val) (ms:List Mem),qL ts true l ms=true->qL ts false l ms=true
 | [],[],_ => by rw [qL]
 | y :: r,m :: ms,h => by
  rw [qL,j_] at h ⊢;exact ⟨BZ ts y m.ty h.1,OA ts r ms h.2⟩
 | [],_ :: _,h => by rw [qL] at h;cases h
 | _ :: _,[],h => by rw [qL] at h;cases h
theorem X9 (ts:List ay):∀ (l:List Val) (t:Int),zM ts true l t=true->zM ts false l t=true
 | [],_,h => by rw [zM] at h;cases h
 | y :: _,t,h => by
  rw [zM] at h ⊢;exact BZ ts y t h
end

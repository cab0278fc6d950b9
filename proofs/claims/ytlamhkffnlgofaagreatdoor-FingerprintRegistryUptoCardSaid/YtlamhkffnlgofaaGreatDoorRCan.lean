/- What sheaveref18.Canon computes of a valid schema's root. No condition. -/
import Derived.Test.YtlamhkffnlgofaaGreatDoorHBA
set_option maxHeartbeats 40000000
set_option maxRecDepth 100000
namespace Go.Proofs.YtlamhkffnlgofaaGreatDoor
open Go.ChangeShapes Go.WideShapes Go.ChangeAt Go.RowKit
structure avv (w wr:World) (A:Option Addr) (n c i gc cc:Nat) (cls:List Value):Prop where
 r:Has wr w.heap.size 27 #[.slice A n c,.int .i64 (i:Nat)]
 z:Has wr (w.heap.size+1) 27 #[.slice none 0 0,.int .i64 0]
 cl:Kept (fun w' => w'.ownsRow (w.heap.size+2) 3 1 (.slice (some ⟨gc,0,none⟩) n cc) n cls) wr gc (gc+1)
 b:Below w.heap.size w wr
structure avh (w wx:World) (A:Option Addr) (n c i gc cc:Nat) (cls:List Value) (GB gO gX gY zT:Nat) (vo:Value) (nf:Nat) (fv:List Value) (va:Value) (tk:List ay) (xc yc:Array Value):Prop where
 h:avv w wx A n c i gc cc cls
 out:Has wx gO 27 #[va,.int .i64 0]
 o:Kept (fun w => w.ownsRow GB 3 1 vo nf fv) wx GB gO
 ot:Kept (fun W => Below w.heap.size w W→alf W w.heap.size (gO+1) zT va tk) wx (gO+1) zT
 x:Has wx gX 71 xc
 y:Has wx gY 71 yc
theorem aHB {W w1:World} {o:Obj} {r:Option Nat} (h:(W.alloc o).grownBy w1 r):W.grownBy w1 r :=
 ⟨h.os,h.tape,h.output,by have:=h.size;simp only [tH] at this;omega,fun k hk hn => (h.block k (by rw [tH];omega) hn).trans (Below.heap_alloc W o k hk)⟩
theorem zAz {p:Prop} (h:p:=by exact ⟨R.out.cell 0,⟨(KN.out.now),(KX.out.now.2)⟩⟩):p:=h
theorem zBa {p:Prop} (h:p:=by exact ⟨Y.out.cell 5,⟨X.out.cell 5,(KC.out.now)⟩⟩):p:=h
theorem zBc {p:Prop} (h:p:=by
 subst hWS;have aDA:=hb0;clear hb0;have hsl:=SY.out.le;have hml:=MA.out.le;have hts:=arO k (by omega) ix HIB.out Wj.out (S:=fun b => b < w.heap.size∨(gY+1≤b∧b < aoP.heap.size)) ((IB.aAE SY.out.now).keep (fun _ _ => rfl) (fun b h => .inr h)) ((MA.out.now.all aDA).keep (fun _ _ => rfl) (fun b h => by
  rcases h with h | h
  · exact .inl h
  exact .inr ⟨by omega,h.2⟩))
 rw [← Gz.out] at hts;have hyv:Pq y (.slice A5 x.syms.length c5) (.slice A6 x.ah.length c6) = [.int .i64 x.kind,.string ⟨y.name.toArray⟩,.int .i64 x.low,.int .i64 x.high,.int .i64 x.max,.slice A5 x.syms.length c5,.slice A6 x.ah.length c6,.int .i64 y.key,.int .i64 y.elem,.bool x.opn]:=by
  have h1:y.kind=x.kind:=by rw [Gz.out];rfl
  have h2:y.low=x.low:=by rw [Gz.out];rfl
  have h3:y.high=x.high:=by rw [Gz.out];rfl
  have h4:y.max=x.max:=by rw [Gz.out];rfl
  have h5:y.opn=x.opn:=by rw [Gz.out];rfl
  unfold Pq;rw [h1,h2,h3,h4,h5]
 obtain ⟨cs,hown,hvb,happ⟩:=(OT.out.now aDA).row (by omega);rw [HTL.out] at hown happ;have aC4:=OT.out.le;have ara:=OUT.out.e0;obtain ⟨kT,kU,kV,kW,kX,mD,lJ,mF,wS,wU⟩:=Y.out.c10;go_upto_region 18 with (at_builtin;refine fA rfl _ _ _ rfl (gO+1) 71 _ 10 120 Tryz.underlying23 auu rfl (by decide) (.slice Ak k ck) k _ rfl hown [_,_,_,_,_,_,_,_,_,_] _ 1 _ rfl rfl rfl (by simp [Value.oneCell']) (by omega) (by omega) (by omega) ?_;intro g2 cap2 w3 hown3 hg3 ak6 hb3;have OU3:=OUT.out.below hb3 (by omega);have o36:w3.cell? ⟨gO,0,none⟩=some (.slice Ak k ck):=OU3.cell 0;have f36:=OU3.free 0)
 have hgr:=aHB hg3;have hy1:alC aoP (fun b => b < w.heap.size∨(gO+1≤b∧b < w3.heap.size∧b < aoP.heap.size∧(Value.slice Ak k ck).ownBlock≠some b∧(Value.slice (some ⟨g2,0,none⟩) (k+1) cap2).ownBlock≠some b)) y (.slice A5 x.syms.length c5) (.slice A6 x.ah.length c6):=hts.keep (fun _ _ => rfl) fun b hb => by
  rcases hb with hb | hb
  · exact .inl hb
  have h1:=hgr.size;refine .inr ⟨by omega,by omega,by omega,fun e => ?_,fun e => ?_⟩
  · have:=hvb b e;omega
  simp only [Value.ownBlock,Option.some.injEq] at e;rcases ak6 with h4 | h4
  · have:=hvb g2 h4;omega
  omega
 have hT1:=happ w3 (.slice (some ⟨g2,0,none⟩) (k+1) cap2) y _ _ w3.heap.size hgr (by rw [hyv];exact hown3) (fun b hb => by
  simp only [Value.ownBlock,Option.some.injEq] at hb;rcases ak6 with h4 | h4
  · exact .inl (hb ▸ h4)
  · exact .inr (by omega)) aC4 (fun b hb => by
  have h4:=hown3.lt g2 rfl;simp only [Value.ownBlock,Option.some.injEq] at hb;omega) (Nat.le_trans aC4 hgr.size) hy1 aDA.size
 rw [← wO.out] at hT1;clear hy1 hown happ hown3 hg3 hgr ak6 hvb hts hyv OU3 o36 f36 aC4 hsl hml OT X Y SY MA ara kT kU kV kW kX mD lJ mF wS wU;replace R:=hiQ (R.out.below hb3 (show w.heap.size < gO+1 by omega));replace Z:=hiQ (Z.out.below hb3 (show w.heap.size+1 < gO+1 by omega));replace OUT:=hiQ (OUT.out.below hb3 (show gO < gO+1 by omega));replace CL:=hiQ (CL.out.iJ hb3 (show gc+1≤gO+1 by omega));replace O:=hiQ (O.out.iJ hb3 (show gO≤gO+1 by omega));replace aDA:=aDA.trans (hb3.mono (show w.heap.size≤gO+1 by omega));have OT:=hiQ (hT1.kept (Nat.le_refl _) aDA);clear hT1 hb3;generalize aog:w3.setCell _ _=aDO;obtain ⟨R,Z,CL,O,OT⟩:=f5 R Z CL O OT (eF aog);replace OUT:=xR OUT aog;replace aDA:=tf aDA aog;clear aog;go_wp2_with fail;go_roundw
 case rel => exact ⟨k+1,some ⟨g2,0,none⟩,cap2,by go_num,by omega,OUT.out,(OT.out.now aDA).mono OT.out.le,O.out,⟨R.out,Z.out,CL.out,aDA⟩⟩
 case measure => simp [intOf];omega):p:=h
theorem zJj {p:Prop} (h:p:=by
 obtain ⟨aoP,hWS⟩ : ∃ x,x=atq:=⟨_,rfl⟩
 exact zBc):p:=h
theorem aFW (ts:List ay) (A:Option Addr) (c i:Nat) (w:World) (hs:Sizes ts) (hv:fF ts=0) (hil:i < ts.length) (ht:aU w w.heap.size (.slice A ts.length c) ts) (hp:aj0 w) :
  Calls Tryz.prog 29 #[.agg #[.slice A ts.length c,.int .i64 (i:Nat)]] w (at7 ts (i:Nat) w):=by
 have HT:=hiQ ht;have HP:=hiQ hp;have hE:=fun W h => atY ts A c (i:Nat) W hs h;rw [awf hv hil] at hE;have H1:=hiQ hE;have HCL:=hiQ (fun W h => aBq ts A c W hs hv h);have hlen:=(akN hv).len;have FI:=hiQ (FP hv);have HGM:=hiQ (akN hv).ah;have HGS:=hiQ (fun x (hx:x ∈ ts) => avm ((ni hv).2 x hx).1);have HGI:=hiQ (akN hv).inu;have HFB:=hiQ (fun x (hx:x ∈ ts) => ((ni hv).2 x hx).1);have hpost:∀ w' A' c',Below w.heap.size w w'→aU w' w'.heap.size (.slice A' (jk ts i).length c') (jk ts i)→at7 ts i w (.returned (.tuple #[.agg #[.slice A' (jk ts i).length c',.int .i64 0],.int .i64 0])) w':=fun w' A' c' h2 h3 => ⟨h2,.inr ⟨awf hv hil,A',c',rfl,h3⟩⟩
 have Xb:=hiQ hpost;clear ht hp hs hv hE hpost;go_enter Tryz.func29,Tryz.ntmps29
 go_upto_region 1 with fail;refine jg (fun wd2 hb1 R Z => ?_);have hw3:=hb1;clear hb1;obtain ⟨iV,iW⟩:=R.out.c2;go_wp2_with fail;clear iV iW;((with_reducible refine (H1.out _ (HT.out.on hw3)).mono ?_);rintro e wd4 ⟨rfl,hb5⟩);obtain ⟨R,Z⟩:=b2 R Z hb5;replace hw3:=dT hw3 hb5;clear hb5;have iV:=R.out.e0;go_wp2_with fail;have hZ1:=Z.out.here;clear iV;((with_reducible refine (HCL.out _ (HT.out.on hw3)).mono ?_);rintro e wL ⟨cv,rfl,hcls,hb7⟩);obtain ⟨R,Z⟩:=b2 R Z hb7;replace hw3:=dT hw3 hb7;clear hb7;obtain ⟨Ac,cc,rfl⟩:=jF hcls;obtain ⟨gc,rfl⟩ : ∃ g,Ac=some ⟨g,0,none⟩:=by
  exact zGs
 have aua:wL.ownsRow (w.heap.size+2) 3 1 (.slice (some ⟨gc,0,none⟩) ts.length cc) ts.length (arn ts):=own_base hcls hZ1;have CL:=hiQ (Kept.ai9 aua);have hgc:=aua.lt gc rfl;have HGC:Hid (w.heap.size+2≤gc):=hgc.1;have hcc:=aua.cellAt i (by omega);rw [at1 ts i hil] at hcc;clear aua hcls;obtain ⟨q,hq⟩ : ∃ q,q=dR ts i:=⟨_,rfl⟩
 rw [← hq] at hcc;have HQ:=hiQ hq;have hd0:decide ((i:Int) < 0)=false:=by simp
 have hd1:decide (ts.length≤i)=false:=by simpa using hil
 clear hq;have iW:=R.out.e1;go_upto_region 6 with fail;clear iW hcc hd0 hd1;obtain ⟨GB,hGB⟩ : ∃ g,g=wL.heap.size:=⟨_,rfl⟩
 have hGl:gc < GB:=by omega
 refine aO (fun nM hb8 ON => ?_);have sH:=R.out.here;have hl12:=Z.out.here;have alh:=CL.out.le;have akV:=hw3.size;obtain ⟨R,Z,CL⟩:=b3 R Z CL hb8;replace hw3:=dT hw3 hb8;clear hb8;generalize wL.heap.size=g10 at *;have hO:=azJ (base:=GB) ON.out (by omega);have hGW:GB≤nM.heap.size:=by have:=ON.out.here;omega
 clear ON;have hst:Hid (bfs (dR ts) (og ts) ts.length 0 [q]=Ht ts i∧aj1 ts [q]):=by show _∧_;rw [HQ.out];exact ⟨rfl,arp FI.out hil⟩
 have hH:avv w nM A ts.length c i gc cc (arn ts):=⟨R.out,Z.out,CL.out,hw3⟩
 clear HQ hgc hGB;go_upto_region 7 with fail;go_loopw [7,8] (fun s7 s8 wr => ∃ (n k:Nat) (f:List Nat),s8 = .int .i64 n∧n≤f.length∧bfs (dR ts) (og ts) k n f=Ht ts i∧ts.length≤k+n∧aj1 ts f∧wr.ownsRow GB 3 1 s7 f.length (f.map nV)∧GB≤wr.heap.size∧avv w wr A ts.length c i gc cc (arn ts)) (fun _ s8 _ => 1000 - (intOf s8).toNat)
 case atStart => exact ⟨0,ts.length,[q],rfl,Nat.zero_le _,hst.out.1,by omega,hst.out.2,hO,hGW,hH⟩
 case round =>
  clear R Z CL hO hH hst hGW;obtain ⟨n,k,f,rfl,hnl,axt,hkn,an9,hown,hGW,hH⟩:=hrel;obtain ⟨A8,c8,rfl⟩:=jF hown;have hfl:=an9.len;have hb0:=hH.b;have R:=hH.r;have Z:=hH.z;have hCL:=hH.cl;replace R:=hiQ R;replace Z:=hiQ Z;have CL:=hiQ (hCL);clear hCL hH;have O:=hiQ (Kept.own hown);by_cases hlt:n < f.length
  ·
   obtain ⟨k,rfl⟩ : ∃ q,k=q+1:=⟨k - 1,by omega⟩
   have hfn:f[n]?=some f[n]:=List.getElem?_eq_getElem hlt;have hal:=(an9.lt _ (List.getElem_mem hlt)).1;have hbn:=azI (c:=dR ts) (o:=og ts) (k:=k) hfn;rw [axt] at hbn;obtain ⟨g8,rfl⟩ : ∃ g,A8=some ⟨g,0,none⟩:=by
    exact zCx
   have hcn:=(hown.cellAt n (by omega)).trans (by rw [List.getElem?_map,hfn];rfl:(f.map nV)[n]?=some (nV f[n]));have hg8:=hown.lt g8 rfl;obtain ⟨a,ha⟩ : ∃ a,a=f[n]:=⟨_,rfl⟩
   rw [← ha] at hal hbn hcn;obtain ⟨bT,oT,hAe,RX,hel⟩:=HT.out.elem (by omega);obtain ⟨vs,vm,hcells,hxa⟩:=hel a hal;have hxm:ts[a] ∈ ts:=List.getElem_mem hal;have hmx:=HGM.out _ hxm;have hux:=HGI.out _ hxm;have hlu:=axr _ hmx;have hox:og ts a=(bn ts[a]).map fun u => u.2.toNat:=by unfold og;rw [List.getElem?_eq_getElem hal];rfl
   rw [hox] at hbn;have HBN:=hiQ hbn;have HUX:=hiQ hux;have hal2:=hal;replace hcells:=hcells.below hb0 RX;replace hxa:=hxa.keep (w':=wr) (fun p hp => (hb0).cell hp) (Nat.le_refl _);generalize ts[a]=x at *;obtain ⟨C1,l1,C2,l2,rfl,rfl,-,-⟩:=hxa.forms;have KX:=hiQ (Kept.rd (P:=fun w B => jc w B x (.slice C1 x.syms.length l1) (.slice C2 x.ah.length l2)∧NI w bT (oT+a*10) x (.slice C1 x.syms.length l1) (.slice C2 x.ah.length l2)) ⟨hxa,hcells⟩ (hb0).size (fun _ hk => ⟨hxa.keep hk (Nat.le_refl _),hcells.on RX hk⟩));have axu:wr.cell? ⟨g8,n,none⟩=some (.int .i64 (a:Nat)):=hcn;have KN:=hiQ (Af axu);have hi1:(n:Int) < f.length:=by omega
   have hd0:decide ((n:Int) < 0)=false:=by simp
   have hd1:decide (f.length≤n)=false:=by simpa using hlt
   have hd2:decide ((a:Int) < 0)=false:=by simp
   have hd3:decide (ts.length≤a)=false:=by simpa using hal2
   have aEP:=hiQ an9;clear hcells hxa hcn axu hfn hbn hux hox ha an9 axt hown hxm hel;subst hAe;go_upto_region 9 with fail;have iV:=R.out.e0;refine wp_region_held_drew (S:=(fun w' => w'.cell? ⟨w.heap.size,0,none⟩=some (.slice (some ⟨bT,oT,none⟩) ts.length c)∧(w'.cell? ⟨g8,n,none⟩=some (.int .i64 (a:Nat)))∧(aoj w' bT (oT+a*10) x (.slice C1 x.syms.length l1) (.slice C2 x.ah.length l2)))) (by kernel_rfl) ⟨iV,(KN.out.now),(KX.out.now.2)⟩ (fun hHeld => ?_);clear iV;have o7:Below wr.heap.size wr (wr.drew):=(Below.refl _ _).drew;obtain ⟨R,Z,CL,O,KX,KN⟩:=b6 R Z CL O KX KN o7;replace hb0:=dT hb0 o7;clear o7;generalize wr.drew=yN at *;refine tk 0 ?_;refine tk 1 ?_;refine tk 2 ?_;refine tk 3 ?_;refine tk 4 ?_;refine tk 5 ?_;refine tk 6 ?_;refine tk 7 ?_;refine tk 8 ?_;refine iE 9 fun K hK => ?_;go_simp;have aHC:GB≤yN.heap.size:=Nat.le_trans hGW O.out.le;((with_reducible refine (asF x _ _ _ (by omega) (KX.out.now.1.up KX.out.le)).mono ?_);rintro e ji ⟨vu,rfl,hus,nU⟩);obtain ⟨R,Z,CL,O,KX,KN⟩:=b6 R Z CL O KX KN nU;replace hb0:=dT hb0 nU;clear nU;obtain ⟨Au,cu,rfl⟩:=jF hus;have hUb:=own_base hus aHC;have US:=hiQ (Kept.own hUb);clear hus hUb;(try clear hHeld);refine hK.out _ _ zAz (fun hHeld => ?_);clear hK K;refine tk 10 ?_;refine wpAnyH_done (by kernel_rfl) ?_ _;(try clear hHeld);clear KX KN;have hH:avv w ji (some ⟨bT,oT,none⟩) ts.length c i gc cc (arn ts):=⟨R.out,Z.out,CL.out,hb0⟩
   have hO:=O.out.now;have hU:=US.out.now;have aFX:GB≤ji.heap.size:=Nat.le_trans hGW O.out.le;go_upto_region 11 with fail;go_loopw [7,10] (fun s7 s10 wr => ∃ (j:Nat) (g:List Nat),s10 = .int .i64 j∧j≤(bn x).length∧ajJ (dR ts) g (((bn x).map fun u => u.2.toNat).drop j)=ajJ (dR ts) f ((bn x).map fun u => u.2.toNat)∧aj1 ts g∧wr.ownsRow GB 3 1 s7 g.length (g.map nV)∧wr.ownsRow GB 123 2 (.slice Au (bn x).length cu) (bn x).length (LY (bn x))∧GB≤wr.heap.size∧avv w wr (some ⟨bT,oT,none⟩) ts.length c i gc cc (arn ts)) (fun _ s10 _ => (bn x).length - (intOf s10).toNat)
   case atStart => exact ⟨0,f,rfl,Nat.zero_le _,rfl,aEP.out,hO,hU,aFX,hH⟩
   case round =>
    clear R Z CL O US hO hU hH hb0 hGW aFX hg8;obtain ⟨j,g,rfl,hjl,hadd,an9,hown,hus,hGW,hH⟩:=hrel;obtain ⟨A9,c9,rfl⟩:=jF hown;have hgl:=an9.len;have hb0:=hH.b;have R:=hH.r;have Z:=hH.z;have hCL:=hH.cl;replace R:=hiQ R;replace Z:=hiQ Z;have CL:=hiQ (hCL);have O:=hiQ (Kept.own hown);have US:=hiQ (Kept.own hus);clear hCL hH;by_cases hju:j < (bn x).length
    ·
     obtain ⟨gu,rfl⟩ : ∃ g,Au=some ⟨g,0,none⟩:=by
      exact zGu
     have hux:=HUX.out _ (List.getElem_mem hju);have cu1:=(hus.cellAt (j*2+1) (by omega)).trans (flat_get ark (bn x) j 1 hju (by omega));have hgu:=hus.lt gu rfl;simp only [arl] at cu1;rw [List.drop_eq_getElem_cons (by simpa using hju),List.getElem_map,ajJ] at hadd;generalize (bn x)[j]=y at *;obtain ⟨yi,yt⟩:=y;simp only at hux cu1 hadd;obtain ⟨u,rfl⟩ : ∃ u:Nat,yt=(u:Int):=⟨yt.toNat,by omega⟩
     simp only [Int.toNat_natCast] at hadd;have Wn:u < ts.length:=by omega
     simp only [List.getElem?_cons_zero,List.getElem?_cons_succ] at cu1;have hi1:(j:Int) < (bn x).length:=by omega
     have hd0:decide ((j:Int) < 0)=false:=by simp
     have hd1:decide ((bn x).length≤j)=false:=by simpa using hju
     have hd2:decide ((u:Int) < 0)=false:=by simp
     have hd3:decide (ts.length≤u)=false:=by simpa using Wn
     have hcq:dR ts u≤32:=by have:=aqA FI.out Wn;omega
     have hra:=an9.add1 FI.out Wn;have hcc:=(CL.out.now.cellAt u (by omega)).trans (at1 ts u Wn);obtain ⟨q2,hq⟩ : ∃ q,q=dR ts u:=⟨_,rfl⟩
     rw [← hq] at hadd hcq hra hcc;have axv:=hiQ hadd;have HRA:=hiQ hra;have KC:=hiQ (Af hcc);have KU:=hiQ (Af cu1);clear hq hadd hra an9 hus hown hux;go_upto_region 13 with fail;go_wp2_with fail;clear hcc cu1;((with_reducible refine (ayb g q2 _ _ (by omega) (Rd.uX O.out.now)).mono ?_);rintro e fZ ⟨rfl,iO⟩);obtain ⟨R,Z,CL,O,US,KC,KU⟩:=b7 R Z CL O US KC KU iO;replace hb0:=dT hb0 iO;clear iO;by_cases hm:q2 ∈ g
     ·
      rw [if_pos hm] at axv HRA;have hx:auO g q2=(g.idxOf q2:Int):=by unfold auO;rw [if_pos hm]
      rw [hx];clear hm hx;generalize g.idxOf q2=iq;have hlz:¬ ((iq:Int) < 0):=by omega
      go_wp2_with fail;go_roundw
      case rel => exact ⟨j+1,g,by go_num,by omega,axv.out,HRA.out,O.out.now,US.out.now,by have:=O.out.le;omega,R.out,Z.out,CL.out,hb0⟩
      case measure => simp [intOf];omega
     rw [if_neg hm] at axv HRA;have hx:auO g q2 = -1:=by unfold auO;rw [if_neg hm]
     rw [hx];clear hm hx;have hcc:=KC.out.now;have cu1:=KU.out.now;have hbase:GB≤fZ.heap.size:=by have:=O.out.le;omega
     have aHD:=HGC.out;go_upto_region 14 with fail;go_upto_region 12 with (at_builtin;refine fA rfl _ _ _ rfl GB 3 _ 1 8 Tryz.underlying39 oP rfl (by decide) _ g.length _ rfl O.out.now [.int .i64 (q2:Nat)] _ 1 _ rfl rfl rfl (by simp [Value.oneCell']) (by omega) (by omega) hbase ?_;intro g2 cap w4 hown4 hg4 hgat hb4)
     have hU4:=qo US.out.now (w':=w4) (fun k hk => (hg4.block k (by have:=(US.out.now.lt k hk).2;simp;omega) (fun e => akR US.out.now O.out.now (by decide) hk e.symm)).trans ((jY (Below.refl fZ.heap.size fZ) (Nat.le_refl _) _).block k (US.out.now.lt k hk).2));clear hg4 hgat hcc cu1 O US KC KU;replace R:=hiQ (R.out.below hb4 (show w.heap.size < GB by omega));replace Z:=hiQ (Z.out.below hb4 (show w.heap.size+1 < GB by omega));replace CL:=hiQ (CL.out.iJ hb4 (show gc+1≤GB by omega));replace hb0:=hb0.trans (hb4.mono (show w.heap.size≤GB by omega));have O:=hiQ (Kept.own hown4);have US:=hiQ (Kept.own hU4);clear hown4 hU4;go_wp2_with fail;go_roundw
     case rel => exact ⟨j+1,g ++ [q2],by go_num,by omega,axv.out,HRA.out,by rw [List.length_append,List.map_append];exact O.out.now,US.out.now,by have:=hb4.size;omega,R.out,Z.out,CL.out,hb0⟩
     case measure => simp [intOf];omega
    obtain rfl:j=(bn x).length:=by omega
    rw [List.drop_eq_nil_of_le (by simp),ajJ] at hadd;have hgf:f.length≤g.length:=by
     obtain ⟨r,hr⟩:=aok (dR ts) ((bn x).map fun u => u.2.toNat) f;rw [hadd,hr];simp
    have hbf:=HBN.out;rw [← hadd] at hbf;have HBF:=hiQ hbf;have HRE:=hiQ an9;clear hadd an9 hbf hown hus US;go_wp2_with fail;go_roundw
    case rel => exact ⟨n+1,k,g,by go_num,by omega,HBF.out.symm,by omega,HRE.out,O.out.now,hGW,R.out,Z.out,CL.out,hb0⟩
    case measure => simp [intOf];omega
  obtain rfl:n=f.length:=by omega
  rw [aBt (Nat.le_refl _)] at axt;subst axt;obtain ⟨hre,-,hcls⟩:=akS FI.out hil;have aER:=hiQ hcls;have HRE:=hiQ hre;have azL:(jk ts i).length=(Ht ts i).length:=aoS ts i;have aES:=hiQ (aq9 ts i);have azM:∀ u,ixN ts i u=(Ht ts i).idxOf (dR ts u):=fun u => rfl;have HIX:=hiQ azM;generalize Ht ts i=f at *;generalize ixN ts i=ix at *;have hib:∀ u,ix u≤1000:=fun u => by rw [HIX.out u];have:=List.idxOf_le_length (a:=dR ts u) (l:=f);omega
  have HIB:=hiQ hib;clear an9 hre hcls azM hib hown;go_upto_region 16 with fail;refine aO (fun yN o7 OUT => ?_);have sW:=R.out.here;have Az:=Z.out.here;have BQ:=CL.out.le;have Dv:=O.out.le;have Dw:=hb0.size;obtain ⟨R,Z,CL,O⟩:=b4 R Z CL O o7;replace hb0:=dT hb0 o7;clear o7;generalize wr.heap.size=g17 at *;obtain ⟨gO,rfl⟩ : ∃ g,g=g17:=⟨_,rfl⟩
  have hgO:GB≤gO:=by omega
  have hOT:=alf.nil yN w.heap.size (gO+1) yN.heap.size;have hH:avv w yN A ts.length c i gc cc (arn ts):=⟨R.out,Z.out,CL.out,hb0⟩
  have hO:=O.out;have hOU:=OUT.out;go_upto_region 17 with fail;have hT0:Hid ((jk ts i).take 0 = []):=hiQ (List.take_zero);rw [← hT0.out] at hOT;go_loopw [12] (fun s12 wr => ∃ (k:Nat) (Ak:Option Addr) (ck:Nat),s12 = .int .i64 k∧k≤f.length∧Has wr gO 27 #[.slice Ak k ck,.int .i64 0]∧alf wr w.heap.size (gO+1) wr.heap.size (.slice Ak k ck) ((jk ts i).take k)∧Kept (fun w => w.ownsRow GB 3 1 (.slice A8 f.length c8) f.length (f.map nV)) wr GB gO∧avv w wr A ts.length c i gc cc (arn ts)) (fun s12 _ => f.length - (intOf s12).toNat)
  case atStart => exact ⟨0,none,0,rfl,Nat.zero_le _,hOU,hOT,hO,hH⟩
  case round =>
   clear R Z CL O OUT hO hOU hH hb0 hOT hGW;obtain ⟨k,Ak,ck,rfl,hkl,OUT,hOT,hO,hH⟩:=hrel;have hb0:=hH.b;have R:=hH.r;have Z:=hH.z;have hCL:=hH.cl;replace R:=hiQ R;replace Z:=hiQ Z;have CL:=hiQ (hCL);clear hCL hH;replace OUT:=hiQ OUT;have O:=hiQ (hO);obtain ⟨zT,hzT⟩ : ∃ z,z=wr.heap.size:=⟨_,rfl⟩
   rw [← hzT] at hOT;have OT:=hiQ (hOT.kept (by omega) hb0);have hgz:gO+1≤zT:=by have:=OUT.out.here;omega
   clear hO hOT hzT;by_cases hlt:k < f.length
   ·
    have hfk:f[k]?=some f[k]:=List.getElem?_eq_getElem hlt;have hown:=O.out.now;obtain ⟨g8,rfl⟩ : ∃ g,A8=some ⟨g,0,none⟩:=by
     exact zCx
    have hcn:=(hown.cellAt k (by omega)).trans (by rw [List.getElem?_map,hfk];rfl:(f.map nV)[k]?=some (nV f[k]));have hfm:f[k] ∈ f:=List.getElem_mem hlt;have hal:=(HRE.out.lt _ hfm).1;have hget:=aES.out k _ hfk;have hcls:=aER.out _ hfm;generalize f[k]=a at *;obtain ⟨bT,oT,hAe,RX,hel⟩:=HT.out.elem (by omega);obtain ⟨vs,vm,hcells,hxa⟩:=hel a hal;have hxm:ts[a] ∈ ts:=List.getElem_mem hal;have hmx:=HGM.out _ hxm;have hsx:=HGS.out _ hxm;have hux:=HGI.out _ hxm;have hfb:=HFB.out _ hxm;have Wj:=hiQ hxa;have hox:og ts a=outs ts[a]:=by unfold og;rw [List.getElem?_eq_getElem hal]
    rw [hox] at hcls;rw [List.getD_eq_getElem?_getD,List.getElem?_eq_getElem hal,Option.getD_some] at hget;have hal2:=hal;replace hcells:=hcells.below hb0 RX;replace hxa:=hxa.keep (w':=wr) (fun p hp => (hb0).cell hp) (Nat.le_refl _);generalize ts[a]=x at *;obtain ⟨C1,l1,C2,l2,rfl,rfl,-,-⟩:=hxa.forms;have KX:=hiQ (Kept.rd (P:=fun w B => jc w B x (.slice C1 x.syms.length l1) (.slice C2 x.ah.length l2)∧NI w bT (oT+a*10) x (.slice C1 x.syms.length l1) (.slice C2 x.ah.length l2)) ⟨hxa,hcells⟩ (hb0).size (fun _ hk => ⟨hxa.keep hk (Nat.le_refl _),hcells.on RX hk⟩));have axu:wr.cell? ⟨g8,k,none⟩=some (.int .i64 (a:Nat)):=hcn;have KN:=hiQ (Af axu);have wO:=hiQ (azK hget);have HTL:Hid (((jk ts i).take k).length=k):=by show _=_;rw [List.length_take];omega
    have HZK:=hiQ (show (x.kind≠8→x.key=0)∧(¬ (x.kind=7∨x.kind=8∨x.kind=9)→x.elem=0) from ⟨(U0 hfb).2.1,(U0 hfb).2.2.1⟩);have HUX:=hiQ (fun u hu => (hux u hu).1);have aua:∀ u ∈ outs x,dR ts u ∈ f∧u < ts.length:=fun u hu => ⟨hcls u hu,by obtain ⟨y,hy,rfl⟩:=List.mem_map.1 hu;have:=hux y hy;omega⟩
    have aET:=hiQ aua;obtain ⟨y,hy⟩ : ∃ y,y=Aq k ix x:=⟨_,rfl⟩
    rw [← hy] at wO;have Gz:=hiQ hy;have hi1:(k:Int) < f.length:=by omega
    have hd0:decide ((k:Int) < 0)=false:=by simp
    have hd1:decide (f.length≤k)=false:=by simpa using hlt
    have hd2:decide ((a:Int) < 0)=false:=by simp
    have hd3:decide (ts.length≤a)=false:=by simpa using hal2
    clear hcells hxa hcn axu hown hfk hfm hal hget hcls aua hux hox hxm hy hel;subst hAe;go_upto_region 19 with fail;have iV:=R.out.e0;refine wp_region_held_drew (S:=(fun w' => w'.cell? ⟨w.heap.size,0,none⟩=some (.slice (some ⟨bT,oT,none⟩) ts.length c)∧(w'.cell? ⟨g8,k,none⟩=some (.int .i64 (a:Nat)))∧(aoj w' bT (oT+a*10) x (.slice C1 x.syms.length l1) (.slice C2 x.ah.length l2)))) (by kernel_rfl) ⟨iV,(KN.out.now),(KX.out.now.2)⟩ (fun hHeld => ?_);clear iV;have oG:Below wr.heap.size wr (wr.drew):=(Below.refl _ _).drew;obtain ⟨R,Z,OUT,CL,O,OT,KX,KN⟩:=b8 R Z OUT CL O OT KX KN oG;replace hb0:=dT hb0 oG;clear oG;generalize wr.drew=xP at *;refine tk 0 ?_;refine tk 1 ?_;refine tk 2 ?_;refine tk 3 ?_;refine tk 4 ?_;refine tk 5 ?_;refine tk 6 ?_;refine tk 7 ?_;refine tk 8 ?_;refine iE 9 fun K hK => ?_;go_simp;refine aO (fun yg rH X => ?_);have sK:=R.out.here;have uO:=Z.out.here;have uh:=OUT.out.here;have Bc:=CL.out.le;have Et:=O.out.le;have J8:=OT.out.le;have J9:=KX.out.le;have RJ:=KN.out.le;have aFJ:=hb0.size;obtain ⟨R,Z,OUT,CL,O,OT,KX,KN⟩:=b8 R Z OUT CL O OT KX KN rH;replace hb0:=dT hb0 rH;clear rH;generalize xP.heap.size=N9 at *;(try clear hHeld);refine hK.out _ _ zAz (fun hHeld => ?_);clear hK K;refine iE 10 fun K hK => ?_;refine eY (by rfl) 71 _ _ (by rfl) (N9) #[.int .i64 x.kind,.string ⟨x.name.toArray⟩,.int .i64 x.low,.int .i64 x.high,.int .i64 x.max,.slice C1 x.syms.length l1,.slice C2 x.ah.length l2,.int .i64 x.key,.int .i64 x.elem,.bool x.opn] (by rfl) (by rfl) 71 _ X.out (by kernel_rfl) rfl (by first | assumption | simp [Value.oneCell']) ?_
    generalize akW:yg.setRow _ _=zl;obtain ⟨R,Z,OUT,CL,O,OT,KX,KN⟩:=f8 R Z OUT CL O OT KX KN (eR akW);replace X:=dV X akW;replace hb0:=tr hb0 akW;clear akW;(try clear hHeld);refine hK.out _ _ zAz (fun hHeld => ?_);clear hK K;refine wpAnyH_done (by kernel_rfl) ?_ _;(try clear hHeld);clear KN KX;obtain ⟨gX,rfl⟩ : ∃ g,g=N9:=⟨_,rfl⟩
    obtain ⟨aK,bJ,bY,bZ,dL,eX,bU,dD,dM,dU⟩:=X.out.c10;go_upto_region 21 with fail;clear aK bJ bY bZ dL eX bU dD dM dU;refine aO (fun alT Zn Y => ?_);have Zo:=R.out.here;have ahK:=Z.out.here;have alU:=OUT.out.here;have alV:=X.out.here;have alW:=CL.out.le;have alX:=O.out.le;have alY:=OT.out.le;have alZ:=hb0.size;obtain ⟨R,Z,OUT,X,CL,O,OT⟩:=b7 R Z OUT X CL O OT Zn;replace hb0:=dT hb0 Zn;clear Zn;generalize zl.heap.size=g41 at *;obtain ⟨gY,rfl⟩ : ∃ g,g=g41:=⟨_,rfl⟩
    have hnm:=acW hfb;obtain ⟨bq,hbq⟩ : ∃ b,b=rY x.kind:=⟨_,rfl⟩
    have HN:Hid (∀ W,Calls Tryz.prog 55 #[.int .i64 x.kind] W fun e w' => e = .returned (.bool (rY x.kind))∧Below W.heap.size W w'):=fun W => (JF x.kind W).mono fun e w' h => ⟨h.1,h.2 ▸ Below.refl _ _⟩
    rw [← hbq] at HN hnm;have HB1:=hiQ (show bq=false→x.name = [] from fun h => by rw [h] at hnm;simpa using hnm);have HB2:=hiQ (show bq=true→x.name≠[] from fun h => hnm.1 h);clear hnm hbq hfb;have aK:=X.out.e0;go_wp2_with fail;clear aK;((with_reducible refine (HN.out _).mono ?_);rintro e al0 ⟨rfl,agq⟩);obtain ⟨R,Z,OUT,X,Y,CL,O,OT⟩:=b8 R Z OUT X Y CL O OT agq;replace hb0:=dT hb0 agq;clear agq HN;have hRR:avh w al0 (some ⟨bT,oT,none⟩) ts.length c i gc cc (arn ts) GB gO gX gY zT (.slice (some ⟨g8,0,none⟩) f.length c8) f.length (f.map nV) (.slice Ak k ck) ((jk ts i).take k) #[.int .i64 x.kind,.string ⟨x.name.toArray⟩,.int .i64 x.low,.int .i64 x.high,.int .i64 x.max,.slice C1 x.syms.length l1,.slice C2 x.ah.length l2,.int .i64 x.key,.int .i64 x.elem,.bool x.opn] #[.int .i64 x.kind,.string ⟨#[]⟩,.int .i64 x.low,.int .i64 x.high,.int .i64 x.max,.slice none 0 0,.slice none 0 0,.int .i64 0,.int .i64 0,.bool x.opn]:=⟨⟨R.out,Z.out,CL.out,hb0⟩,OUT.out,O.out,OT.out,X.out,Y.out⟩
    go_upto_if 108 with fail
    go_cut [] from 109 to 112 (fun wx => avh w wx (some ⟨bT,oT,none⟩) ts.length c i gc cc (arn ts) GB gO gX gY zT (.slice (some ⟨g8,0,none⟩) f.length c8) f.length (f.map nV) (.slice Ak k ck) ((jk ts i).take k) #[.int .i64 x.kind,.string ⟨x.name.toArray⟩,.int .i64 x.low,.int .i64 x.high,.int .i64 x.max,.slice C1 x.syms.length l1,.slice C2 x.ah.length l2,.int .i64 x.key,.int .i64 x.elem,.bool x.opn] #[.int .i64 x.kind,.string ⟨y.name.toArray⟩,.int .i64 x.low,.int .i64 x.high,.int .i64 x.max,.slice none 0 0,.slice none 0 0,.int .i64 0,.int .i64 0,.bool x.opn])
    case first =>
     cases bq with
     | false =>
      have hq:y.name = []:=by rw [Gz.out];unfold Aq;simp [HB1.out rfl]
      have HQ:=hiQ hq;clear hq;go_wp2_with fail;go_meet
      case rel => rw [HQ.out];exact hRR
     | true =>
      have hq:y.name=rF 84 k:=by rw [Gz.out];unfold Aq;simp [HB2.out rfl]
      have HQ:=hiQ hq;have hni:I64 (k:Int):=by unfold I64;omega
      have hnl:=af5 84 k hni;have hil:(Lib.itoa k).length≤30:=by unfold rF at hnl;rw [List.length_cons] at hnl;omega
      clear hq hnl hRR;go_wp2_with fail;((with_reducible refine (arN k hni _ (HP.out.on hb0)).mono ?_);rintro e anZ ⟨rfl,aje⟩);obtain ⟨R,Z,OUT,X,Y,CL,O,OT⟩:=b8 R Z OUT X Y CL O OT aje;replace hb0:=dT hb0 aje;clear aje;obtain ⟨q,hq⟩ : ∃ q,Lib.itoa (k:Int)=q:=⟨_,rfl⟩
      have hstr:Hid (rF 84 k=84 :: q):=by show _=_;rw [← hq];rfl
      rw [hq] at hil ⊢;clear hq;have kU:=Y.out.e1;have aHE:=Y.out.free 1;go_wp2_with fail;rw [qO [84] q];clear kU aHE;generalize aCg:anZ.setCell _ _=atq;obtain ⟨R,Z,OUT,X,CL,O,OT⟩:=f7 R Z OUT X CL O OT (eF aCg);replace Y:=yT Y aCg;replace hb0:=tf hb0 aCg;clear aCg;go_meet
      case rel => rw [HQ.out,hstr.out];exact ⟨⟨R.out,Z.out,CL.out,hb0⟩,OUT.out,O.out,OT.out,X.out,Y.out⟩
    case rest =>
     have hRR:=hcut;clear hcut HB1 HB2 R Z CL OUT O OT X Y hb0;have hH:=hRR.h;have hb0:=hH.b;have R:=hH.r;have Z:=hH.z;have hCL:=hH.cl;replace R:=hiQ R;replace Z:=hiQ Z;have CL:=hiQ (hCL);clear hCL hH;have OUT:=hRR.out;have X:=hRR.x;have Y:=hRR.y;replace OUT:=hiQ OUT;replace X:=hiQ X;replace Y:=hiQ Y;have O:=hiQ (hRR.o);have OT:=hiQ (hRR.ot);clear hRR;have aJh:zT≤gX∧gX < gY:=by omega
     have hN0:wc.ownsRow (gY+1) 105 2 (.slice none 0 0) 0 []:=World.ownsRow_nil _ _ _ _;have hRR:avh w wc (some ⟨bT,oT,none⟩) ts.length c i gc cc (arn ts) GB gO gX gY zT (.slice (some ⟨g8,0,none⟩) f.length c8) f.length (f.map nV) (.slice Ak k ck) ((jk ts i).take k) #[.int .i64 x.kind,.string ⟨x.name.toArray⟩,.int .i64 x.low,.int .i64 x.high,.int .i64 x.max,.slice C1 x.syms.length l1,.slice C2 x.ah.length l2,.int .i64 x.key,.int .i64 x.elem,.bool x.opn] #[.int .i64 x.kind,.string ⟨y.name.toArray⟩,.int .i64 x.low,.int .i64 x.high,.int .i64 x.max,.slice none 0 0,.slice none 0 0,.int .i64 0,.int .i64 0,.bool x.opn]:=⟨⟨R.out,Z.out,CL.out,hb0⟩,OUT.out,O.out,OT.out,X.out,Y.out⟩
     go_upto_region 24 with fail;go_loopw [15] (fun s15 wr => ∃ (j:Nat) (A5:Option Addr) (c5:Nat),s15 = .int .i64 j∧j≤x.syms.length∧wr.ownsRow (gY+1) 105 2 (.slice A5 j c5) j (jO ((x.syms.take j).map anL))∧avh w wr (some ⟨bT,oT,none⟩) ts.length c i gc cc (arn ts) GB gO gX gY zT (.slice (some ⟨g8,0,none⟩) f.length c8) f.length (f.map nV) (.slice Ak k ck) ((jk ts i).take k) #[.int .i64 x.kind,.string ⟨x.name.toArray⟩,.int .i64 x.low,.int .i64 x.high,.int .i64 x.max,.slice C1 x.syms.length l1,.slice C2 x.ah.length l2,.int .i64 x.key,.int .i64 x.elem,.bool x.opn] #[.int .i64 x.kind,.string ⟨y.name.toArray⟩,.int .i64 x.low,.int .i64 x.high,.int .i64 x.max,.slice A5 j c5,.slice none 0 0,.int .i64 0,.int .i64 0,.bool x.opn]) (fun s15 _ => x.syms.length - (intOf s15).toNat)
     case atStart => exact ⟨0,none,0,rfl,Nat.zero_le _,hN0,hRR⟩
     case round =>
      clear R Z CL OUT O OT X Y hb0 hRR hN0;obtain ⟨j,A5,c5,rfl,hjl,hown,hRR⟩:=hrel;have hH:=hRR.h;have hb0:=hH.b;have R:=hH.r;have Z:=hH.z;have hCL:=hH.cl;replace R:=hiQ R;replace Z:=hiQ Z;have CL:=hiQ (hCL);clear hCL hH;have OUT:=hRR.out;have X:=hRR.x;have Y:=hRR.y;replace OUT:=hiQ OUT;replace X:=hiQ X;replace Y:=hiQ Y;have O:=hiQ (hRR.o);have OT:=hiQ (hRR.ot);clear hRR;by_cases aCh:j < x.syms.length
      ·
       obtain ⟨b5,o5,hC1,hb5,hc5⟩:=Wj.out.syms.at_ (by omega);have hid:=(Wj.out.QL _ (List.getElem_mem aCh)).1;have hk5:wr.cell? ⟨b5,o5+j*2,none⟩=some (.int .i64 x.syms[j].1):=((hb0).cell (p:=⟨b5,o5+j*2,none⟩) hb5).trans (hc5 (j*2) _ (flat_get Jl x.syms j 0 aCh (by decide)));have htk:jO ((x.syms.take (j+1)).map anL)=jO ((x.syms.take j).map anL) ++ [.int .i64 x.syms[j].1,.string ⟨(rF 115 x.syms[j].1).toArray⟩]:=by
        rw [List.take_succ_eq_append_getElem aCh,List.map_append,aoz];rfl
       generalize x.syms[j].1=yi at *;have HTS:=hiQ htk;have SY:=hiQ (Kept.own hown);have KC:=hiQ (Af hk5);have hnl:=af5 115 yi hid;have hil:(Lib.itoa yi).length≤30:=by unfold rF at hnl;rw [List.length_cons] at hnl;omega
       have hi1:(j:Int) < x.syms.length:=by omega
       have hd0:decide ((j:Int) < 0)=false:=by simp
       have hd1:decide (x.syms.length≤j)=false:=by simpa using aCh
       clear hc5 hk5 htk hown hnl;subst hC1;have eX:=X.out.e5;go_upto_region 26 with fail;clear eX;have mD:=Y.out.e5;have eX:=X.out.e5;refine l9 (S:=(fun w' => w'.cell? ⟨gY,5,none⟩=some (.slice A5 j c5)∧w'.cell? ⟨gX,5,none⟩=some (.slice (some ⟨b5,o5,none⟩) x.syms.length l1)∧(w'.cell? ⟨b5,o5+j*2,none⟩=some (.int .i64 yi)))) (fun j => j == 20) (by kernel_rfl) ⟨mD,eX,(KC.out.now)⟩ (fun hHeld => ?_);clear mD eX;have ar7:Below wr.heap.size wr (wr.drew):=(Below.refl _ _).drew;obtain ⟨R,Z,OUT,X,Y,CL,O,OT,SY⟩:=b9 R Z OUT X Y CL O OT SY ar7;replace KC:=b1 KC ar7;replace hb0:=dT hb0 ar7;clear ar7;generalize wr.drew=aHF at *;refine eH 0 ?_;refine eH 1 ?_;refine eH 2 ?_;refine eH 3 ?_;refine eH 4 ?_;refine eH 5 ?_;refine eH 6 ?_;refine eH 7 ?_;refine eH 8 ?_;refine eH 9 ?_;refine eH 10 ?_;refine eH 11 ?_;refine eH 12 ?_;refine eH 13 ?_;refine gJ 14 fun K hK => ?_;go_simp;((with_reducible refine (arN yi hid _ (HP.out.on hb0)).mono ?_);rintro e atq ⟨rfl,ajf⟩);obtain ⟨R,Z,OUT,X,Y,CL,O,OT,SY⟩:=b9 R Z OUT X Y CL O OT SY ajf;replace KC:=b1 KC ajf;replace hb0:=dT hb0 ajf;clear ajf;(try clear hHeld);refine hK.out _ _ zBa (fun hHeld => ?_);clear hK K;obtain ⟨q1,hq⟩ : ∃ q,Lib.itoa yi=q:=⟨_,rfl⟩
       have hstr:Hid (rF 115 yi=115 :: q1):=by show _=_;rw [← hq];rfl
       rw [hq] at hil ⊢;have Ic:¬ 9223372036854775807 < 1+q1.length:=by omega
       clear hq;refine eH 15 ?_;refine eH 16 ?_;refine gJ 17 fun K hK => ?_;go_simp;refine aO (fun aCi aCj N => ?_);have al8:=R.out.here;have Zv:=Z.out.here;have apo:=OUT.out.here;have aqG:=X.out.here;have hl63:=Y.out.here;have atr:=CL.out.le;have att:=O.out.le;have atu:=OT.out.le;have atv:=SY.out.le;have atw:=KC.out.le;have atx:=hb0.size;obtain ⟨R,Z,OUT,X,Y,CL,O,OT,SY⟩:=b9 R Z OUT X Y CL O OT SY aCj;replace KC:=b1 KC aCj;replace hb0:=dT hb0 aCj;clear aCj;generalize atq.heap.size=g58 at *;(try clear hHeld);refine hK.out _ _ zBa (fun hHeld => ?_);clear hK K;refine gJ 18 fun K hK => ?_;obtain ⟨i0,hi,hz0,hz1,hz2⟩:=info_parts auF;have hNh:=N.out.here;have hOn:=SY.out.now;have hYh:=Y.out.here;refine step_append_lies (P:=Tryz.prog) aCi (by rfl) _ _ _ (by rfl) (gY+1) 105 i0 _ 2 24 Tryz.underlying68 hi hz0 hz1 hz2 rfl (by decide) (.slice A5 j c5) j _ rfl hOn ⟨g58,0,none⟩ 1 1 ([.int .i64 yi,.string ((⟨#[115]⟩ : ByteArray) ++ (⟨q1.toArray⟩ : ByteArray))] : List Value) rfl rfl (World.news_of_block N.out) (by simp [Value.oneCell']) (by omega) (by simp only [maxLen];omega) (by omega) (by omega) aCi.heap.size rfl ?_;intro g cap w1 hown1 hgrow hat hgl;have hb4:Below (gY+1) aCi w1:=(Below.refl _ aCi).grown hgrow (by omega) (fun q hq => (hOn.lt q hq).1);have hsy:w1.ownsRow (gY+1) 105 2 (.slice (some ⟨g,0,none⟩) (j+1) cap) (j+1) (jO ((x.syms.take (j+1)).map anL)):=by
        rw [HTS.out,hstr.out,show (⟨(115 :: q1).toArray⟩ : ByteArray)=(⟨#[115]⟩ : ByteArray) ++ (⟨q1.toArray⟩ : ByteArray) from (qO [115] q1).symm];exact hown1
       clear hown1 hgrow hat hgl hOn hi hz0 hz1 hz2 hNh hYh SY N;replace R:=hiQ (R.out.below hb4 (show w.heap.size < gY+1 by omega));replace Z:=hiQ (Z.out.below hb4 (show w.heap.size+1 < gY+1 by omega));replace OUT:=hiQ (OUT.out.below hb4 (show gO < gY+1 by omega));replace X:=hiQ (X.out.below hb4 (show gX < gY+1 by omega));replace Y:=hiQ (Y.out.below hb4 (show gY < gY+1 by omega));replace CL:=hiQ (CL.out.iJ hb4 (show gc+1≤gY+1 by omega));replace O:=hiQ (O.out.iJ hb4 (show gO≤gY+1 by omega));replace OT:=hiQ (OT.out.iJ hb4 (show zT≤gY+1 by omega));replace KC:=hiQ (KC.out.iJ hb4 (show b5+1≤gY+1 by omega));replace hb0:=hb0.trans (hb4.mono (show w.heap.size≤gY+1 by omega));have SY:=hiQ (Kept.own hsy);clear hsy hb4;(try clear hHeld);refine hK.out _ _ zBa (fun hHeld => ?_);clear hK K;refine eH 19 ?_;refine pG 20 fun K hK => ?_;have mD:=Y.out.e5;have aHG:=Y.out.free 5;go_simp;clear mD aHG;generalize aCk:w1.setCell _ _=aJi;obtain ⟨R,Z,OUT,X,CL,O,OT,KC,SY⟩:=f9 R Z OUT X CL O OT KC SY (eF aCk);replace Y:=Ea Y aCk;replace hb0:=tf hb0 aCk;clear aCk;(try clear hHeld);refine hK.out _ _ ?_;clear hK K;refine akJ (by kernel_rfl) ?_ _;(try clear hHeld);clear KC;go_wp2_with fail;go_roundw
       case rel => exact ⟨j+1,some ⟨g,0,none⟩,cap,by go_num,by omega,SY.out.now,⟨⟨R.out,Z.out,CL.out,hb0⟩,OUT.out,O.out,OT.out,X.out,Y.out⟩⟩
       case measure => simp [intOf];omega
      obtain rfl:j=x.syms.length:=by omega
      rw [List.take_of_length_le (Nat.le_refl _)] at hown;obtain ⟨zS,hzS⟩ : ∃ z,z=wr.heap.size:=⟨_,rfl⟩
      have hSY:Kept (fun W => W.ownsRow (gY+1) 105 2 (.slice A5 x.syms.length c5) x.syms.length (jO (x.syms.map anL))) wr (gY+1) zS:=by rw [hzS];exact Kept.own hown
      have hYz:gY+1≤zS:=by have:=Y.out.here;omega
      clear hown hzS;have hN0:=aoh.nil w wr zS;have hRR:avh w wr (some ⟨bT,oT,none⟩) ts.length c i gc cc (arn ts) GB gO gX gY zT (.slice (some ⟨g8,0,none⟩) f.length c8) f.length (f.map nV) (.slice Ak k ck) ((jk ts i).take k) #[.int .i64 x.kind,.string ⟨x.name.toArray⟩,.int .i64 x.low,.int .i64 x.high,.int .i64 x.max,.slice C1 x.syms.length l1,.slice C2 x.ah.length l2,.int .i64 x.key,.int .i64 x.elem,.bool x.opn] #[.int .i64 x.kind,.string ⟨y.name.toArray⟩,.int .i64 x.low,.int .i64 x.high,.int .i64 x.max,.slice A5 x.syms.length c5,.slice none 0 0,.int .i64 0,.int .i64 0,.bool x.opn]:=⟨⟨R.out,Z.out,CL.out,hb0⟩,OUT.out,O.out,OT.out,X.out,Y.out⟩
      have eX:=X.out.e5;go_upto_region 28 with fail;clear eX;go_loopw [16] (fun s16 wr => ∃ (j:Nat) (A6:Option Addr) (c6:Nat),s16 = .int .i64 j∧j≤x.ah.length∧aoh w wr zS (.slice A6 j c6) ((x.ah.take j).map (aoc ix))∧Kept (fun W => W.ownsRow (gY+1) 105 2 (.slice A5 x.syms.length c5) x.syms.length (jO (x.syms.map anL))) wr (gY+1) zS∧avh w wr (some ⟨bT,oT,none⟩) ts.length c i gc cc (arn ts) GB gO gX gY zT (.slice (some ⟨g8,0,none⟩) f.length c8) f.length (f.map nV) (.slice Ak k ck) ((jk ts i).take k) #[.int .i64 x.kind,.string ⟨x.name.toArray⟩,.int .i64 x.low,.int .i64 x.high,.int .i64 x.max,.slice C1 x.syms.length l1,.slice C2 x.ah.length l2,.int .i64 x.key,.int .i64 x.elem,.bool x.opn] #[.int .i64 x.kind,.string ⟨y.name.toArray⟩,.int .i64 x.low,.int .i64 x.high,.int .i64 x.max,.slice A5 x.syms.length c5,.slice A6 j c6,.int .i64 0,.int .i64 0,.bool x.opn]) (fun s16 _ => x.ah.length - (intOf s16).toNat)
      case atStart => exact ⟨0,none,0,rfl,Nat.zero_le _,hN0,hSY,hRR⟩
      case round =>
       clear R Z CL OUT O OT X Y hb0 hRR hN0 hSY;obtain ⟨j,A6,c6,rfl,hjl,hma,hSY,hRR⟩:=hrel;have hH:=hRR.h;have hb0:=hH.b;have R:=hH.r;have Z:=hH.z;have hCL:=hH.cl;replace R:=hiQ R;replace Z:=hiQ Z;have CL:=hiQ (hCL);clear hCL hH;have OUT:=hRR.out;have X:=hRR.x;have Y:=hRR.y;replace OUT:=hiQ OUT;replace X:=hiQ X;replace Y:=hiQ Y;have O:=hiQ (hRR.o);have OT:=hiQ (hRR.ot);clear hRR;have SY:=hiQ (hSY);have MA:=hiQ (hma.kept);clear hSY hma;by_cases aBP:j < x.ah.length
       ·
        obtain ⟨b6,o6,hC2,hb6,hc6⟩:=Wj.out.ah.elem (by omega);obtain ⟨vk,vi,vr,hck,aCp⟩:=hc6 j aBP;have hmu:(x.ah[j].ty).toNat ∈ outs x:=List.mem_map_of_mem (f:=fun u => u.2.toNat) (List.mem_append_left _ (List.mem_map_of_mem (f:=fun m => (m.id,m.ty)) (List.getElem_mem aBP)));have hty:0≤x.ah[j].ty:=HUX.out _ (List.mem_append_left _ (List.mem_map_of_mem (f:=fun m => (m.id,m.ty)) (List.getElem_mem aBP)));obtain ⟨hcm,hcl⟩:=aET.out _ hmu;have htk:(x.ah.take (j+1)).map (aoc ix)=(x.ah.take j).map (aoc ix) ++ [aoc ix x.ah[j]]:=by
         rw [List.take_succ_eq_append_getElem aBP,List.map_append];rfl
        have htl:((x.ah.take j).map (aoc ix)).length=j:=by rw [List.length_map,List.length_take];omega
        have aB0:ix (x.ah[j].ty).toNat≤1000:=HIB.out _;replace hck:=nG hck hb0 hb6;generalize x.ah[j]=m at *;obtain ⟨mi,mn,mt,mc,mh,mf⟩:=m;simp only at hmu hty hcm hcl aB0;obtain ⟨u,rfl⟩ : ∃ u:Nat,mt=(u:Int):=⟨mt.toNat,by omega⟩
        simp only [Int.toNat_natCast] at hmu hcm hcl aB0;have hid:I64 mi:=aCp.ints.1;have hmr:∀ q,rF 102 mi=102 :: q→GH w w.heap.size (aoc ix ⟨mi,mn,(u:Int),mc,mh,mf⟩) vk vi vr∧ZK (aoc ix ⟨mi,mn,(u:Int),mc,mh,mf⟩) vk vi vr = [.int .i64 mi,.string ⟨([102] ++ q).toArray⟩,.int .i64 (ix u:Nat),.bool mc,.bool mh,.int .i64 mf.kind,.bool mf.bool,.int .i64 mf.num,.string ⟨mf.str.toArray⟩,.int .i64 mf.id,vk,vi,vr]:=fun q hq => by
         have hnl:=af5 102 mi hid;refine ⟨⟨⟨hid,by show I64 (ix u:Nat);unfold I64;omega⟩,by show (rF 102 mi).length≤_;omega,aCp.dflt⟩,?_⟩;show ([.int .i64 mi,.string ⟨(rF 102 mi).toArray⟩,.int .i64 (ix u:Nat),.bool mc,.bool mh,.int .i64 mf.kind,.bool mf.bool,.int .i64 mf.num,.string ⟨mf.str.toArray⟩,.int .i64 mf.id,vk,vi,vr] : List Value)=_;rw [hq];rfl
        obtain ⟨D1,d1,D2,d2,D3,d3,rfl,rfl,rfl,-,-,-⟩:=aCp.dflt.forms;obtain ⟨a0,a1,a2,a3,a4,a5,a6,a7,a8,a9,a10,a11,a12⟩:=hck;have hcc:=(CL.out.now.cellAt u (by omega)).trans (at1 ts u hcl);have hx:auO f (dR ts u)=((ix u:Nat):Int):=by unfold auO;rw [if_pos hcm,HIX.out u]
        obtain ⟨q2,hq2⟩ : ∃ q,q=dR ts u:=⟨_,rfl⟩
        rw [← hq2] at hx hcc;have KC:=hiQ (Af hcc);have HMR:=hiQ hmr;have HTM:=hiQ htk;have HTL:=hiQ htl;have HX:=hiQ hx;have hnl:=af5 102 mi hid;have hil:(Lib.itoa mi).length≤30:=by unfold rF at hnl;rw [List.length_cons] at hnl;omega
        have hi1:(j:Int) < x.ah.length:=by omega
        have hd0:decide ((j:Int) < 0)=false:=by simp
        have hd1:decide (x.ah.length≤j)=false:=by simpa using aBP
        have hd2:decide ((u:Int) < 0)=false:=by simp
        have hd3:decide (ts.length≤u)=false:=by simpa using hcl
        clear hc6 hmu hcm hmr htk htl hx hnl aCp hcc hq2 hb6;subst hC2;have bU:=X.out.e6;go_upto_region 31 with fail;clear bU a0 a1 a2 a3 a4 a5 a6 a7 a8 a9 a10 a11 a12;refine aO (fun aHF ar7 M => ?_);have aic:=R.out.here;have aie:=Z.out.here;have aif:=OUT.out.here;have aii:=X.out.here;have al8:=Y.out.here;have Zv:=CL.out.le;have apo:=O.out.le;have aqG:=OT.out.le;have hl63:=SY.out.le;have atr:=MA.out.le;have att:=KC.out.le;have atu:=hb0.size;obtain ⟨R,Z,OUT,X,Y,CL,O,OT,SY⟩:=b9 R Z OUT X Y CL O OT SY ar7;obtain ⟨MA,KC⟩:=b2 MA KC ar7;replace hb0:=dT hb0 ar7;clear ar7;generalize wr.heap.size=g54 at *;have iU:=M.out.e0;go_wp2_with fail;clear iU;((with_reducible refine (arN mi hid _ (HP.out.on hb0)).mono ?_);rintro e aHH ⟨rfl,aCz⟩);obtain ⟨R,Z,OUT,X,Y,M,CL,O,OT⟩:=b9 R Z OUT X Y M CL O OT aCz;obtain ⟨SY,MA,KC⟩:=b3 SY MA KC aCz;replace hb0:=dT hb0 aCz;clear aCz;obtain ⟨q1,hq⟩ : ∃ q,Lib.itoa mi=q:=⟨_,rfl⟩
        have hstr:Hid (rF 102 mi=102 :: q1):=by show _=_;rw [← hq];rfl
        rw [hq] at hil ⊢;have Ic:¬ 9223372036854775807 < 1+q1.length:=by omega
        clear hq;have iD:=M.out.e1;have ap8:=M.out.free 1;go_upto_region 32 with fail;rw [qO [102] q1];clear iD ap8;generalize aBR:aHH.setCell _ _=aJj;obtain ⟨R,Z,OUT,X,Y,CL,O,OT,SY⟩:=f9 R Z OUT X Y CL O OT SY (eF aBR);obtain ⟨MA,KC⟩:=f2 MA KC (eF aBR);replace M:=yT M aBR;replace hb0:=tf hb0 aBR;clear aBR;have hcc:=KC.out.now;have je:=M.out.e2;go_wp2_with fail;clear hcc je;((with_reducible refine (ayb f q2 _ _ (by omega) (Rd.uX O.out.now)).mono ?_);rintro e aHI ⟨rfl,aCA⟩);obtain ⟨R,Z,OUT,X,Y,M,CL,O,OT⟩:=b9 R Z OUT X Y M CL O OT aCA;obtain ⟨SY,MA,KC⟩:=b3 SY MA KC aCA;replace hb0:=dT hb0 aCA;clear aCA;rw [HX.out];have je:=M.out.e2;have aAd:=M.out.free 2;go_upto_region 33 with fail;clear je aAd;generalize aBS:aHI.setCell _ _=aJk;obtain ⟨R,Z,OUT,X,Y,CL,O,OT,SY⟩:=f9 R Z OUT X Y CL O OT SY (eF aBS);obtain ⟨MA,KC⟩:=f2 MA KC (eF aBS);replace M:=Yx M aBS;replace hb0:=tf hb0 aBS;clear aBS;have lJ:=Y.out.e6;obtain ⟨iU,iD,je,mQ,kK,qU,qV,qW,qX,qY,oK,oL,oM⟩:=M.out.c13;obtain ⟨cs,hown,happ⟩:=MA.out.now.row;rw [HTL.out] at hown happ;have hMh:=MA.out.le;go_upto_region 29 with (at_builtin;refine fA rfl _ _ _ rfl zS 83 _ 13 160 Tryz.underlying69 ar8 rfl (by decide) (.slice A6 j c6) j _ rfl hown [_,_,_,_,_,_,_,_,_,_,_,_,_] _ 1 _ rfl rfl rfl (by simp [Value.oneCell']) (by omega) (by omega) (by omega) ?_;intro g2 cap2 w3 hown3 hg3 RQ hb3;have Y3:=Y.out.below hb3 (by omega);have y36:w3.cell? ⟨gY,6,none⟩=some (.slice A6 j c6):=Y3.cell 6;have f36:=Y3.free 6)
        have aFZ:aoh w w3 zS (.slice (some ⟨g2,0,none⟩) (j+1) cap2) ((x.ah.take (j+1)).map (aoc ix)):=by
         obtain ⟨h1,h2⟩:=HMR.out q1 hstr.out;rw [HTM.out];exact happ w3 _ _ _ _ _ (by rw [h2];exact hown3) h1
        clear hown3 hg3 RQ Y3 y36 f36 hown happ hMh MA M KC lJ iU iD je mQ kK qU qV qW qX qY oK oL oM;replace R:=hiQ (R.out.below hb3 (show w.heap.size < zS by omega));replace Z:=hiQ (Z.out.below hb3 (show w.heap.size+1 < zS by omega));replace OUT:=hiQ (OUT.out.below hb3 (show gO < zS by omega));replace X:=hiQ (X.out.below hb3 (show gX < zS by omega));replace Y:=hiQ (Y.out.below hb3 (show gY < zS by omega));replace CL:=hiQ (CL.out.iJ hb3 (show gc+1≤zS by omega));replace O:=hiQ (O.out.iJ hb3 (show gO≤zS by omega));replace OT:=hiQ (OT.out.iJ hb3 (show zT≤zS by omega));replace SY:=hiQ (SY.out.iJ hb3 (show zS≤zS by omega));replace hb0:=hb0.trans (hb3.mono (show w.heap.size≤zS by omega));have MA:=hiQ (aFZ.kept);clear aFZ hb3;generalize aCB:w3.setCell _ _=aJl;obtain ⟨R,Z,OUT,X,CL,O,OT,SY,MA⟩:=f9 R Z OUT X CL O OT SY MA (eF aCB);replace Y:=qM Y aCB;replace hb0:=tf hb0 aCB;clear aCB;go_wp2_with fail;go_roundw
        case rel => exact ⟨j+1,some ⟨g2,0,none⟩,cap2,by go_num,by omega,MA.out.now,SY.out,⟨⟨R.out,Z.out,CL.out,hb0⟩,OUT.out,O.out,OT.out,X.out,Y.out⟩⟩
        case measure => simp [intOf];omega
       obtain rfl:j=x.ah.length:=by omega
       obtain ⟨zMm,hzM⟩ : ∃ z,z=wr.heap.size:=⟨_,rfl⟩
       have hMA:Kept (fun W => aoh w W zS (.slice A6 x.ah.length c6) (x.ah.map (aoc ix))) wr zS zMm:=by
        have h:=MA.out;rw [List.take_of_length_le (Nat.le_refl _)] at h;rw [hzM];exact h
       clear hzM MA;have MA:=hiQ (hMA);clear hMA;have bU:=X.out.e6;go_upto_region 34 with fail;clear bU;obtain ⟨hyk,hye⟩ : y.key=(if x.kind=8 then ((ix x.key.toNat:Nat):Int) else 0)∧y.elem=(if x.kind=7∨x.kind=8∨x.kind=9 then ((ix x.elem.toNat:Nat):Int) else 0):=by
        rw [Gz.out];refine ⟨?_,?_⟩
        ·
         show (if x.kind=8 then ((ix x.key.toNat:Nat):Int) else x.key)=_;split
         · rfl
         exact HZK.out.1 ‹_›
        show (if x.kind=7∨x.kind=8∨x.kind=9 then ((ix x.elem.toNat:Nat):Int) else x.elem)=_;split
        · rfl
        exact HZK.out.2 ‹_›
       have HKK:=hiQ hyk;have HEE:=hiQ hye;clear hyk hye;have aK:=X.out.e0;go_upto_if 173 with fail
       clear aK;go_cut [] from 171 to 181 (fun wx => Kept (fun W => W.ownsRow (gY+1) 105 2 (.slice A5 x.syms.length c5) x.syms.length (jO (x.syms.map anL))) wx (gY+1) zS∧Kept (fun W => aoh w W zS (.slice A6 x.ah.length c6) (x.ah.map (aoc ix))) wx zS zMm∧avh w wx (some ⟨bT,oT,none⟩) ts.length c i gc cc (arn ts) GB gO gX gY zT (.slice (some ⟨g8,0,none⟩) f.length c8) f.length (f.map nV) (.slice Ak k ck) ((jk ts i).take k) #[.int .i64 x.kind,.string ⟨x.name.toArray⟩,.int .i64 x.low,.int .i64 x.high,.int .i64 x.max,.slice C1 x.syms.length l1,.slice C2 x.ah.length l2,.int .i64 x.key,.int .i64 x.elem,.bool x.opn] #[.int .i64 x.kind,.string ⟨y.name.toArray⟩,.int .i64 x.low,.int .i64 x.high,.int .i64 x.max,.slice A5 x.syms.length c5,.slice A6 x.ah.length c6,.int .i64 y.key,.int .i64 0,.bool x.opn])
       case first =>
        have hyk:=HKK.out;by_cases h8:x.kind=8
        ·
         have hk8:(0,x.key) ∈ bn x:=by rw [asr h8];simp
         rw [if_pos h8] at hyk;have HYK:=hiQ hyk;have t8:(x.kind == 8)=true:=by simp [h8]
         clear h8 hyk;obtain ⟨kuu,hku⟩ : ∃ u:Nat,x.key=(u:Int):=⟨(x.key).toNat,by have:=HUX.out _ hk8;omega⟩
         have hkt:(x.key).toNat=kuu:=by omega
         obtain ⟨hm1,hm2⟩ : dR ts (x.key).toNat ∈ f∧(x.key).toNat < ts.length:=aET.out _ (List.mem_map_of_mem (f:=fun u => u.2.toNat) hk8);have hx:auO f (dR ts (x.key).toNat)=y.key:=by rw [HYK.out];unfold auO;rw [if_pos hm1,HIX.out]
         rw [hkt] at hm2 hx;have hcc:=(CL.out.now.cellAt kuu (by omega)).trans (at1 ts kuu hm2);obtain ⟨q2,hq2⟩ : ∃ q,q=dR ts kuu:=⟨_,rfl⟩
         rw [← hq2] at hx hcc;have HX:=hiQ hx;have hd2:decide ((kuu:Int) < 0)=false:=by simp
         have hd3:decide (ts.length≤kuu)=false:=by simpa using hm2
         clear hm1 hx hq2 hkt;have aK:=X.out.e0;have dD:=X.out.e7;rw [hku] at dD;clear hku;go_wp2_with fail;clear hcc hd2 hd3 hm2 aK dD;((with_reducible refine (ayb f q2 _ _ (by omega) (Rd.uX O.out.now)).mono ?_);rintro e anZ ⟨rfl,aje⟩);obtain ⟨R,Z,OUT,X,Y,CL,O,OT,SY⟩:=b9 R Z OUT X Y CL O OT SY aje;replace MA:=b1 MA aje;replace hb0:=dT hb0 aje;clear aje;rw [HX.out];clear HX;have aK:=X.out.e0;have mF:=Y.out.e7;have aHR:=Y.out.free 7;go_wp2_with fail;clear aK mF aHR;generalize aCg:anZ.setCell _ _=atq;obtain ⟨R,Z,OUT,X,CL,O,OT,SY,MA⟩:=f9 R Z OUT X CL O OT SY MA (eF aCg);replace Y:=Ky Y aCg;replace hb0:=tf hb0 aCg;clear aCg;go_meet
         case rel => exact ⟨SY.out,MA.out,⟨⟨R.out,Z.out,CL.out,hb0⟩,OUT.out,O.out,OT.out,X.out,Y.out⟩⟩
        rw [if_neg h8] at hyk;have HYK:=hiQ hyk;have t8:(x.kind == 8)=false:=by simpa using h8
        clear h8 hyk;go_wp2_with fail;go_meet
        case rel => rw [HYK.out];exact ⟨SY.out,MA.out,⟨⟨R.out,Z.out,CL.out,hb0⟩,OUT.out,O.out,OT.out,X.out,Y.out⟩⟩
       case rest =>
        obtain ⟨hSY,hMA,hRR⟩:=hcut;clear R Z CL OUT O OT X Y SY MA hb0;have hH:=hRR.h;have hb0:=hH.b;have R:=hH.r;have Z:=hH.z;have hCL:=hH.cl;replace R:=hiQ R;replace Z:=hiQ Z;have CL:=hiQ (hCL);clear hCL hH;have OUT:=hRR.out;have X:=hRR.x;have Y:=hRR.y;replace OUT:=hiQ OUT;replace X:=hiQ X;replace Y:=hiQ Y;have O:=hiQ (hRR.o);have OT:=hiQ (hRR.ot);clear hRR;have SY:=hiQ (hSY);have MA:=hiQ (hMA);clear hSY hMA;have hye:=HEE.out;by_cases h8:x.kind=8
        ·
         have he8:(-1,x.elem) ∈ bn x:=by rw [asr h8];simp
         rw [if_pos (.inr (.inl h8))] at hye;have HYE:=hiQ hye;have t8:(x.kind == 8)=true:=by simp [h8]
         clear h8 hye;obtain ⟨kuu,hku⟩ : ∃ u:Nat,x.elem=(u:Int):=⟨(x.elem).toNat,by have:=HUX.out _ he8;omega⟩
         have hkt:(x.elem).toNat=kuu:=by omega
         obtain ⟨hm1,hm2⟩ : dR ts (x.elem).toNat ∈ f∧(x.elem).toNat < ts.length:=aET.out _ (List.mem_map_of_mem (f:=fun u => u.2.toNat) he8);have hx:auO f (dR ts (x.elem).toNat)=y.elem:=by rw [HYE.out];unfold auO;rw [if_pos hm1,HIX.out]
         rw [hkt] at hm2 hx;have hcc:=(CL.out.now.cellAt kuu (by omega)).trans (at1 ts kuu hm2);obtain ⟨q2,hq2⟩ : ∃ q,q=dR ts kuu:=⟨_,rfl⟩
         rw [← hq2] at hx hcc;have HX:=hiQ hx;have hd2:decide ((kuu:Int) < 0)=false:=by simp
         have hd3:decide (ts.length≤kuu)=false:=by simpa using hm2
         clear hm1 hx hq2 hkt;have aK:=X.out.e0;have dM:=X.out.e8;rw [hku] at dM;clear hku;go_wp2_with fail;clear hcc hd2 hd3 hm2 aK dM;((with_reducible refine (ayb f q2 _ _ (by omega) (Rd.uX O.out.now)).mono ?_);rintro e anZ ⟨rfl,aje⟩);obtain ⟨R,Z,OUT,X,Y,CL,O,OT,SY⟩:=b9 R Z OUT X Y CL O OT SY aje;replace MA:=b1 MA aje;replace hb0:=dT hb0 aje;clear aje;rw [HX.out];clear HX;have aK:=X.out.e0;have wS:=Y.out.e8;have aBY:=Y.out.free 8;go_upto_region 38 with fail;clear aK wS aBY;generalize aCg:anZ.setCell _ _=atq;obtain ⟨R,Z,OUT,X,CL,O,OT,SY,MA⟩:=f9 R Z OUT X CL O OT SY MA (eF aCg);replace Y:=JZ Y aCg;replace hb0:=tf hb0 aCg;clear aCg t8 HYE;exact zJj
        have t8:(x.kind == 8)=false:=by simpa using h8
        by_cases Ur:x.kind=7∨x.kind=9
        ·
         have he8:(-1,x.elem) ∈ bn x:=by rw [asX Ur];simp
         rw [if_pos (by omega)] at hye;have HYE:=hiQ hye;obtain ⟨p7,p9,hp,h7,h9⟩ : ∃ p7 p9:Bool,(p7 || p9)=true∧(x.kind == 7)=p7∧(x.kind == 9)=p9:=⟨_,_,by simpa using Ur,rfl,rfl⟩
         clear h8 hye Ur;cases p7 with
         | true =>
          clear h9;obtain ⟨kuu,hku⟩ : ∃ u:Nat,x.elem=(u:Int):=⟨(x.elem).toNat,by have:=HUX.out _ he8;omega⟩
          have hkt:(x.elem).toNat=kuu:=by omega
          obtain ⟨hm1,hm2⟩ : dR ts (x.elem).toNat ∈ f∧(x.elem).toNat < ts.length:=aET.out _ (List.mem_map_of_mem (f:=fun u => u.2.toNat) he8);have hx:auO f (dR ts (x.elem).toNat)=y.elem:=by rw [HYE.out];unfold auO;rw [if_pos hm1,HIX.out]
          rw [hkt] at hm2 hx;have hcc:=(CL.out.now.cellAt kuu (by omega)).trans (at1 ts kuu hm2);obtain ⟨q2,hq2⟩ : ∃ q,q=dR ts kuu:=⟨_,rfl⟩
          rw [← hq2] at hx hcc;have HX:=hiQ hx;have hd2:decide ((kuu:Int) < 0)=false:=by simp
          have hd3:decide (ts.length≤kuu)=false:=by simpa using hm2
          clear hm1 hx hq2 hkt;have aK:=X.out.e0;have dM:=X.out.e8;rw [hku] at dM;clear hku;go_wp2_with fail;clear hcc hd2 hd3 hm2 aK dM;((with_reducible refine (ayb f q2 _ _ (by omega) (Rd.uX O.out.now)).mono ?_);rintro e anZ ⟨rfl,aje⟩);obtain ⟨R,Z,OUT,X,Y,CL,O,OT,SY⟩:=b9 R Z OUT X Y CL O OT SY aje;replace MA:=b1 MA aje;replace hb0:=dT hb0 aje;clear aje;rw [HX.out];clear HX;have aK:=X.out.e0;have wS:=Y.out.e8;have aBY:=Y.out.free 8;go_upto_region 38 with fail;clear aK wS aBY;generalize aCg:anZ.setCell _ _=atq;obtain ⟨R,Z,OUT,X,CL,O,OT,SY,MA⟩:=f9 R Z OUT X CL O OT SY MA (eF aCg);replace Y:=JZ Y aCg;replace hb0:=tf hb0 aCg;clear aCg t8 HYE h7 hp;exact zJj
         | false =>
          obtain rfl:p9=true:=by simpa using hp
          obtain ⟨kuu,hku⟩ : ∃ u:Nat,x.elem=(u:Int):=⟨(x.elem).toNat,by have:=HUX.out _ he8;omega⟩
          have hkt:(x.elem).toNat=kuu:=by omega
          obtain ⟨hm1,hm2⟩ : dR ts (x.elem).toNat ∈ f∧(x.elem).toNat < ts.length:=aET.out _ (List.mem_map_of_mem (f:=fun u => u.2.toNat) he8);have hx:auO f (dR ts (x.elem).toNat)=y.elem:=by rw [HYE.out];unfold auO;rw [if_pos hm1,HIX.out]
          rw [hkt] at hm2 hx;have hcc:=(CL.out.now.cellAt kuu (by omega)).trans (at1 ts kuu hm2);obtain ⟨q2,hq2⟩ : ∃ q,q=dR ts kuu:=⟨_,rfl⟩
          rw [← hq2] at hx hcc;have HX:=hiQ hx;have hd2:decide ((kuu:Int) < 0)=false:=by simp
          have hd3:decide (ts.length≤kuu)=false:=by simpa using hm2
          clear hm1 hx hq2 hkt;have aK:=X.out.e0;have dM:=X.out.e8;rw [hku] at dM;clear hku;go_wp2_with fail;clear hcc hd2 hd3 hm2 aK dM;((with_reducible refine (ayb f q2 _ _ (by omega) (Rd.uX O.out.now)).mono ?_);rintro e anZ ⟨rfl,aje⟩);obtain ⟨R,Z,OUT,X,Y,CL,O,OT,SY⟩:=b9 R Z OUT X Y CL O OT SY aje;replace MA:=b1 MA aje;replace hb0:=dT hb0 aje;clear aje;rw [HX.out];clear HX;have aK:=X.out.e0;have wS:=Y.out.e8;have aBY:=Y.out.free 8;go_upto_region 38 with fail;clear aK wS aBY;generalize aCg:anZ.setCell _ _=atq;obtain ⟨R,Z,OUT,X,CL,O,OT,SY,MA⟩:=f9 R Z OUT X CL O OT SY MA (eF aCg);replace Y:=JZ Y aCg;replace hb0:=tf hb0 aCg;clear aCg t8 HYE h7 h9 hp;exact zJj
        rw [if_neg (by omega)] at hye;have t7:(x.kind == 7)=false:=by simpa using fun h => Ur (.inl h)
        have t9:(x.kind == 9)=false:=by simpa using fun h => Ur (.inr h)
        have HYE:=hiQ hye;clear h8 hye Ur;have aK:=X.out.e0;go_upto_region 38 with fail;clear aK;have Y:Has wc gY 71 #[.int .i64 x.kind,.string ⟨y.name.toArray⟩,.int .i64 x.low,.int .i64 x.high,.int .i64 x.max,.slice A5 x.syms.length c5,.slice A6 x.ah.length c6,.int .i64 y.key,.int .i64 y.elem,.bool x.opn]:=by rw [HYE.out];exact Y.out
        replace Y:=hiQ Y;clear t8 t7 t9 HYE;obtain ⟨aoP,hWS⟩ : ∃ x,x=wc:=⟨_,rfl⟩
        exact zBc
   obtain rfl:k=f.length:=by omega
   have aHD:=HGC.out;obtain ⟨ara,aB3⟩:=OUT.out.c2;go_wp2_with (refine sR Z.out ?_)
   clear ara aB3;generalize o8:wr.setRow _ _=o9;obtain ⟨R,OUT,CL,O,OT⟩:=f5 R OUT CL O OT (eR o8);replace Z:=dV Z o8;replace hb0:=tr hb0 o8;clear o8;have hT2:=(OT.out.now hb0).rd OT.out.le hb0.size;rw [List.take_of_length_le (by omega),← azL] at hT2;have hfin:=Xb.out _ Ak ck hb0 hT2;rw [azL] at hfin;clear hT2;exact bodyPost_ret (v:=.tuple #[.agg #[.slice Ak f.length ck,.int .i64 0],.int .i64 0]) (by simp [results,Tryz.results29,go_sem,Z.out.c2]) rfl (hfin)
end Go.Proofs.YtlamhkffnlgofaaGreatDoor

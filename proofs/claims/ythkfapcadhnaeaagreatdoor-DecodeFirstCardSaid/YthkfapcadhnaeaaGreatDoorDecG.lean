/- payload: optionals. No condition. -/
import Derived.Test.YthkfapcadhnaeaaGreatDoorHAK
set_option maxHeartbeats 800000
namespace Go.Proofs.YthkfapcadhnaeaaGreatDoor
open Go.ChangeShapes Go.WideShapes Go.ChangeAt Go.RowKit
def FK (ts:List aC) (gr:Nat) (tv:Value) (rec:Int→List UInt8→List Int→fO) (path:List Int):Prop :=
 ∀ (W:World) (fp:Value) (fn s t:Int) (q:List UInt8),jf W gr tv fp fn path→bG W gr tv ts→(fB ts t).isSome=true→q.length≤800000 →
  Calls Tryz.prog 94 #[.pointer (some ⟨gr,0,none⟩),.int .i64 s,.int .i64 t,.string ⟨q.toArray⟩] W (cO gr tv path W (rec t q (path ++ [s])))
def Po (f:Val→Val):fO→fO
 | .error e => .error e
 | .ok v => .ok (f v)
set_option maxRecDepth 100000 in
theorem acA
 (ts:List aC) (A:Option Addr) (c n gr:Nat) (fp:Value) (fn:Int) (path:List Int) (p:List UInt8) (rec:Int→List UInt8→List Int→fO) (w:World) (hn:n < ts.length) (hk:ts[n].kind=9) (hp:path.length < 200) (hpl:p.length≤800000)
 (R:jf w gr (.slice A ts.length c) fp fn path) (ht:bG w gr (.slice A ts.length c) ts) (HP:FK ts gr (.slice A ts.length c) rec path) (he:(fB ts ts[n].elem).isSome=true) :
 Calls Tryz.prog 69 #[.pointer (some ⟨gr,0,none⟩),.int .i64 n,.string ⟨p.toArray⟩] w (cO gr (.slice A ts.length c) path w (aG rec ts[n] p path)):=by
 have HP:=Lib.hid HP
 rcases p with _ | ⟨b0,p⟩
 ·
  skip
  obtain ⟨b,o,rfl,hbb,hel⟩:=ht.elem (by omega)
  obtain ⟨vs,vm,hcells,hx⟩:=hel n hn
  clear hel
  generalize ts[n]=x at *
  obtain ⟨C1,l1,C2,l2,rfl,rfl,-,-⟩:=hx.forms
  have hlt:(n:Int) < ts.length:=by omega
  have hd0:decide ((n:Int) < 0)=false:=by simp
  have hd1:decide (ts.length≤n)=false:=by simpa using hn
  have hlp:¬ (200:Int)≤path.length:=by omega
  have HX:=Lib.hid hx
  have HT:=Lib.hid ht
  have HC:=Lib.hid hcells
  have iq:=Lib.hid hk
  have hN:Hid (n < ts.length):=Lib.hid hn
  have hxs:=hx.lens
  clear hx ht hcells hn
  have hgr:=R.here
  replace R:=Lib.hid (jF.of R)
  have KP:=aP.refl w gr
  go_enter Tryz.func69,Tryz.ntmps69
  go_upto_region 1 with fail
  generalize dJ:w.alloc _=wd2
  have ⟨hb1,Z⟩:=bH dJ
  clear dJ
  replace R:=rB R hb1
  replace KP:=kB KP hgr hb1
  clear hb1
  obtain ⟨Ap,cp,hcp,r0,r1,-,-⟩:=R.out.at_.cells
  obtain ⟨c0,c1,c2,c3,c4,c5,c6,c7,c8,c9⟩:=HC.out.below KP.low hbb
  rw [hk] at c0
  go_upto_region 31 with fail
  clear c0 c1 c2 c3 c4 c5 c6 c7 c8 c9 r0 r1 hd0 hd1 hlp hcp
  generalize oV:wd2.alloc _=qM
  generalize yI:qM.alloc _=oW
  have ⟨hb4,X,V⟩:=dN oV yI
  clear oV yI
  have Ls:=Z.out.here
  have Pq:=KP.size
  replace Z:=b1 Z hb4
  replace R:=rB R hb4
  replace KP:=kB KP hgr hb4
  clear hb4
  generalize wd2.heap.size=g9 at *
  have HR:Hid (aG rec x [] path = .ok (.mk 9 false 0 [] 0 [] [] [])):=by show _=_;simp [aG,iq.out,XF]
  go_upto_region 32 with fail
  obtain ⟨eH,dP,eP,eU,dY,dW,dK,eG⟩:=V.out.c8
  go_wp2_with (refine sR Z.out ?_)
  clear eH dP eP eU dY dW dK eG
  generalize lU:oW.setRow _ _=xJ
  obtain ⟨X,V⟩:=f2 X V (eR lU)
  replace R:=rR R Z lU.symm (by decide) (by omega)
  replace KP:=oZ KP hgr lU.symm (by omega)
  replace Z:=aK Z lU
  clear lU
  exact bodyPost_ret (v:=.tuple #[.agg #[.int .i64 9,.bool false,.int .i64 0,.string ⟨#[]⟩,.int .i64 0,.slice none 0 0,.slice none 0 0,.slice none 0 0],.bool true]) (by simp [results,Tryz.results69,go_sem,Z.out.c8]) rfl (cO.good (v:=.mk 9 false 0 [] 0 [] [] []) HR.out R KP (iY _ _ _ _ _ _ _ (by unfold I64;omega) (by unfold I64;omega) (by unfold I64;omega) (by simp)))
 skip
 obtain ⟨b,o,rfl,hbb,hel⟩:=ht.elem (by omega)
 obtain ⟨vs,vm,hcells,hx⟩:=hel n hn
 clear hel
 generalize ts[n]=x at *
 obtain ⟨C1,l1,C2,l2,rfl,rfl,-,-⟩:=hx.forms
 have hlt:(n:Int) < ts.length:=by omega
 have hd0:decide ((n:Int) < 0)=false:=by simp
 have hd1:decide (ts.length≤n)=false:=by simpa using hn
 have hlp:¬ (200:Int)≤path.length:=by omega
 have HX:=Lib.hid hx
 have HT:=Lib.hid ht
 have HC:=Lib.hid hcells
 have iq:=Lib.hid hk
 have hN:Hid (n < ts.length):=Lib.hid hn
 have hxs:=hx.lens
 clear hx ht hcells hn
 have hgr:=R.here
 replace R:=Lib.hid (jF.of R)
 have KP:=aP.refl w gr
 go_enter Tryz.func69,Tryz.ntmps69
 go_upto_region 1 with fail
 generalize qB:w.alloc _=lD
 have ⟨o7,Z⟩:=bH qB
 clear qB
 replace R:=rB R o7
 replace KP:=kB KP hgr o7
 clear o7
 obtain ⟨Ap,cp,hcp,r0,r1,-,-⟩:=R.out.at_.cells
 obtain ⟨c0,c1,c2,c3,c4,c5,c6,c7,c8,c9⟩:=HC.out.below KP.low hbb
 rw [hk] at c0
 go_upto_region 31 with fail
 clear c0 c1 c2 c3 c4 c5 c6 c7 c8 c9 r0 r1 hd0 hd1 hlp hcp
 generalize kV:lD.alloc _=qY
 generalize kD:qY.alloc _=nS
 have ⟨kW,X,V⟩:=dN kV kD
 clear kV kD
 have Pv:=Z.out.here
 have Gf:=KP.size
 replace Z:=b1 Z kW
 replace R:=rB R kW
 replace KP:=kB KP hgr kW
 clear kW
 generalize lD.heap.size=g22 at *
 have hpe:(b0 :: p).length=p.length+1:=rfl
 have hi0:∀ h,(({ data:=(b0 :: p).toArray } : ByteArray)[0]'h)=b0:=fun _ => rfl
 have HE:=Lib.hid he
 clear he
 by_cases h1:b0.toNat=1
 ·
  obtain rfl:b0=1:=UInt8.toNat_inj.1 h1
  have HD:Hid (aG rec x (1 :: p) path=Po (fun v => .mk 9 false 0 [] 0 [] [v] []) (rec x.elem p (path ++ [0]))):=by show _=_;cases hq:rec x.elem p (path ++ [0]) <;> simp [aG,iq.out,h1,Po,hq]
  clear h1
  go_upto_region 35 with fail
  have h1p:(1:Int)≤(p.length:Int)+1:=by omega
  have hcut:({ data:=(1 :: p).toArray } : ByteArray).extract 1 (p.length+1) = { data:=p.toArray }:=xK _ _ _ rfl
  obtain ⟨gX,rfl⟩ : ∃ g,g=g22:=⟨_,rfl⟩
  have HPQ:=Lib.hid (fun (W:World) (fp':Value) (fn':Int) h1 h2 => HP.out W fp' fn' 0 x.elem p h1 h2 HE.out (by omega))
  generalize rec x.elem p (path ++ [0])=q at *
  go_cut [16,17] from 162 to 170 (fun s16 s17 wx => NQ wx gr (.slice (some ⟨b,o,none⟩) ts.length c) path q (gX+1) s16 s17∧aP w gr wx∧Has wx w.heap.size 30 #[.int .i64 0,.bool false,.int .i64 0,.string ⟨#[]⟩,.int .i64 0,.slice none 0 0,.slice none 0 0,.slice none 0 0]∧Has wx (gX+1) 30 #[.int .i64 9,.bool false,.int .i64 0,.string ⟨#[]⟩,.int .i64 0,.slice none 0 0,.slice none 0 0,.slice none 0 0])
  case first =>
   have bZ:=X.out.e8
   refine wp_region_held_drew (S:=(fun w' => w'.cell? ⟨gX,8,none⟩=some (.int .i64 x.elem))) (by kernel_rfl) bZ (fun hHeld => ?_)
   clear bZ
   have pY:Below nS.heap.size nS (nS.drew):=(Below.refl _ _).drew
   obtain ⟨Z,X,V⟩:=b3 Z X V pY
   replace R:=rB R pY
   replace KP:=kB KP hgr pY
   clear pY
   generalize nS.drew=qZ at *
   refine tk (i:=0) (v := ?k27) ?_
   simp only [ah]
   refine tk (i:=1) (v := ?k28) ?_
   simp only [ah]
   refine tk (i:=2) (v := ?k29) ?_
   simp only [ah]
   refine tk (i:=3) (v := ?k30) ?_
   simp only [ah]
   refine tk (i:=4) (v := ?k31) ?_
   simp only [ah]
   refine wpAnyH_ready (rs:=[5,9]) (by kernel_rfl) (by simp) ?_
   refine AllReadyH.cons rfl (fun K hK => ?_) (AllReadyH.cons rfl (fun K hK => ?_) (AllReadyH.nil))
   ·
    skip
    go_simp
    have acB:=Z.out.here
    have ag3:=X.out.here
    have XG:=V.out.here
    have Lu:=KP.size
    ((with_reducible refine (HPQ.out _ _ _ R.out.at_ (HT.out.keep (fun _ hp => KP.low.cell hp) (Nat.le_refl _))).mono ?_);rintro e zC alj)
    obtain ⟨aqA,aqB,aW,aX,aY,bf,bn,bC,bD,bF,Dl,aQ,rfl,alk,Uy,N⟩:=alj.take
    replace Z:=ji Z Uy (by omega) (by decide)
    replace X:=ji X Uy (by omega) (by decide)
    replace V:=ji V Uy (by omega) (by decide)
    replace R:=Lib.hid alk
    replace KP:=KP.trans Uy
    replace N:=Lib.hid N
    clear Uy
    have iF:(#[aW,aX,aY,bf,bn,bC,bD,bF] : Array Value).all (·.oneCell')=true:=by simpa using aQ
    generalize qZ.heap.size=L33 at *
    try clear hHeld
    refine hK.out _ _ (X.out.cell 8) (fun hHeld => ?_)
    clear hK K
    refine tk (i:=6) (v := ?k43) ?_
    simp only [ah]
    refine tk (i:=7) (v := ?k44) ?_
    simp only [ah]
    refine tk (i:=8) (v := ?k45) ?_
    simp only [ah]
    refine fH (i:=9) (fun K hK => ?_)
    go_simp
    generalize xM:zC.alloc _=E8
    have ⟨qC,I⟩:=bH xM
    clear xM
    have Uz:=Z.out.here
    have Px:=X.out.here
    have LC:=V.out.here
    have LD:=N.out.le
    have Fa:=KP.size
    obtain ⟨Z,X,V,N⟩:=b4 Z X V N qC
    replace R:=rB R qC
    replace KP:=kB KP hgr qC
    clear qC
    generalize zC.heap.size=g49 at *
    try clear hHeld
    refine hK.out _ _ (X.out.cell 8) (fun hHeld => ?_)
    clear hK K
    refine fH (i:=10) (fun K hK => ?_)
    refine aU (by rfl) 30 _ _ (by rfl) (g49) #[aW,aX,aY,bf,bn,bC,bD,bF] (by rfl) (by rfl) 30 _ I.out (by kernel_rfl) rfl (by first | assumption | simp [Value.oneCell']) ?_
    generalize jk:E8.setRow _ _=qE
    obtain ⟨Z,X,V,N⟩:=f4 Z X V N (eR jk)
    replace R:=rR R I jk.symm (by decide) (by omega)
    replace KP:=oZ KP hgr jk.symm (by omega)
    replace I:=aK I jk
    clear jk
    try clear hHeld
    refine hK.out _ _ (X.out.cell 8) (fun hHeld => ?_)
    clear hK K
    refine tk (i:=11) (v := ?k57) ?_
    simp only [ah]
    refine wpAnyH_done (by kernel_rfl) ?_ _
    try clear hHeld
    go_wp2_with fail
    go_meet
    have hBl:=N.out.le
    exact ⟨⟨_,_,_,_,_,_,_,_,_,_,_,_,_,_,rfl,rfl,aQ,I.out,R.out,N.out,by omega,by omega,by omega⟩,KP,Z.out,V.out⟩
   skip
   go_simp
   generalize UA:qZ.alloc _=acC
   have ⟨Bh,I⟩:=bH UA
   clear UA
   have XH:=Z.out.here
   have hl63:=X.out.here
   have UC:=V.out.here
   have IW:=KP.size
   obtain ⟨Z,X,V⟩:=b3 Z X V Bh
   replace R:=rB R Bh
   replace KP:=kB KP hgr Bh
   clear Bh
   generalize qZ.heap.size=g61 at *
   try clear hHeld
   refine hK.out _ _ (X.out.cell 8) (fun hHeld => ?_)
   clear hK K
   refine fH (i:=5) (fun K hK => ?_)
   go_simp
   have LG:=Z.out.here
   have UD:=X.out.here
   have Py:=V.out.here
   have XI:=I.out.here
   have Pz:=KP.size
   ((with_reducible refine (HPQ.out _ _ _ R.out.at_ (HT.out.keep (fun _ hp => KP.low.cell hp) (Nat.le_refl _))).mono ?_);rintro e Gg alm)
   obtain ⟨aqC,aqD,aW,aX,aY,bf,bn,bC,bD,bF,Dl,aQ,rfl,aln,PD,N⟩:=alm.take
   replace Z:=ji Z PD (by omega) (by decide)
   replace X:=ji X PD (by omega) (by decide)
   replace V:=ji V PD (by omega) (by decide)
   replace I:=ji I PD (by omega) (by decide)
   replace R:=Lib.hid aln
   replace KP:=KP.trans PD
   replace N:=Lib.hid N
   clear PD
   have iF:(#[aW,aX,aY,bf,bn,bC,bD,bF] : Array Value).all (·.oneCell')=true:=by simpa using aQ
   generalize acC.heap.size=L67 at *
   try clear hHeld
   refine hK.out _ _ (X.out.cell 8) (fun hHeld => ?_)
   clear hK K
   refine tk (i:=6) (v := ?k78) ?_
   simp only [ah]
   refine tk (i:=7) (v := ?k79) ?_
   simp only [ah]
   refine tk (i:=8) (v := ?k80) ?_
   simp only [ah]
   refine fH (i:=10) (fun K hK => ?_)
   refine aU (by rfl) 30 _ _ (by rfl) (g61) #[aW,aX,aY,bf,bn,bC,bD,bF] (by rfl) (by rfl) 30 _ I.out (by kernel_rfl) rfl (by first | assumption | simp [Value.oneCell']) ?_
   generalize tu:Gg.setRow _ _=Gh
   obtain ⟨Z,X,V,N⟩:=f4 Z X V N (eR tu)
   replace R:=rR R I tu.symm (by decide) (by omega)
   replace KP:=oZ KP hgr tu.symm (by omega)
   replace I:=aK I tu
   clear tu
   try clear hHeld
   refine hK.out _ _ (X.out.cell 8) (fun hHeld => ?_)
   clear hK K
   refine tk (i:=11) (v := ?k83) ?_
   simp only [ah]
   refine wpAnyH_done (by kernel_rfl) ?_ _
   try clear hHeld
   go_wp2_with fail
   go_meet
   have hBl:=N.out.le
   exact ⟨⟨_,_,_,_,_,_,_,_,_,_,_,_,_,_,rfl,rfl,aQ,I.out,R.out,N.out,by omega,by omega,by omega⟩,KP,Z.out,V.out⟩
  case rest =>
   obtain ⟨⟨gI,fp',fn',c0,c1,c2,c3,c4,c5,c6,c7,bb,L,B,rfl,rfl,h1',I,R,hN,hL,NR,NS⟩,KP,Z,V⟩:=hcut
   replace R:=Lib.hid R
   replace Z:=Lib.hid Z
   replace V:=Lib.hid V
   replace I:=Lib.hid I
   have N:=Lib.hid (hN)
   clear hN
   obtain ⟨iI,iJ,iK,iL,iM,iO,iw,iP⟩:=I.out.c8
   have fa:=JU V 6
   have ca:=Gi (V.out.cell 6)
   go_upto_region 37 with fail
   clear fa ca
   clear iI iJ iK iL iM iO iw iP
   generalize tC:wc.alloc _=Gj
   have ⟨wC,G⟩:=bH tC
   clear tC
   have XJ:=Z.out.here
   have acD:=V.out.here
   have XK:=I.out.here
   have XL:=N.out.le
   have UE:=KP.size
   obtain ⟨Z,V,I,N⟩:=b4 Z V I N wC
   replace R:=rB R wC
   replace KP:=kB KP hgr wC
   clear wC
   generalize wc.heap.size=g87 at *
   generalize tH:Gj.setCell _ _=PE
   obtain ⟨Z,I,G,N⟩:=f4 Z I G N (eF tH)
   replace R:=rF R V tH.symm (by decide) (by omega)
   replace KP:=kS KP hgr tH.symm (by omega)
   replace V:=uf V tH
   clear tH
   obtain ⟨eH,dP,eP,eU,dY,dW,dK,eG⟩:=V.out.c8
   go_wp2_with (refine sR Z.out ?_)
   clear eH dP eP eU dY dW dK eG
   generalize wE:PE.setRow _ _=acE
   obtain ⟨V,I,G,N⟩:=f4 V I G N (eR wE)
   replace R:=rR R Z wE.symm (by decide) (by omega)
   replace KP:=oZ KP hgr wE.symm (by omega)
   replace Z:=aK Z wE
   clear wE
   have hNl:=N.out.le
   have HF:Hid (cO gr (.slice (some ⟨b,o,none⟩) ts.length c) path w (aG rec x (1 :: p) path) (.returned (.tuple #[.agg #[.int .i64 9,.bool false,.int .i64 0,.string ⟨#[]⟩,.int .i64 0,.slice none 0 0,.slice (some ⟨g87,0,none⟩) 1 1,.slice none 0 0],.bool bb])) acE):=by
    show cO _ _ _ _ _ _ _
    have hN:=N.out.now
    cases q with
    | ok v =>
     obtain ⟨rfl,vk,vi,vr,hc,hv⟩:=hN
     exact cO.good (v:=.mk 9 false 0 [] 0 [] [v] []) (by rw [HD.out];rfl) R KP (UF hv (by omega) hNl (by rw [← hc];exact G.out) (by decide) (by omega) (by unfold I64;omega) (by unfold I64;omega))
    | error pn =>
     obtain ⟨p',n'⟩:=pn
     obtain ⟨rfl,hf⟩:=hN
     exact cO.bad (by rw [HD.out];rfl) R KP hf (by simp [Value.oneCell'])
   exact bodyPost_ret (v:=.tuple #[.agg #[.int .i64 9,.bool false,.int .i64 0,.string ⟨#[]⟩,.int .i64 0,.slice none 0 0,.slice (some ⟨g87,0,none⟩) 1 1,.slice none 0 0],.bool bb]) (by simp [results,Tryz.results69,go_sem,Z.out.c8]) rfl (HF.out)
 have HR:Hid (aG rec x (b0 :: p) path = .error (path,1)):=by show _=_;simp [aG,iq.out,h1]
 have h1i:¬ (b0.toNat:Int)=1:=by omega
 have h1n:¬ b0=1:=fun e => h1 (by rw [e];rfl)
 have h1b:(b0 != 1)=true:=by simpa using h1n
 have h1c:((b0.toNat:Int) != 1)=true:=by simpa using h1i
 go_upto_region 34 with fail
 have hz:=Z.out.here
 go_wp2_with fail
 ((with_reducible refine (iG gr _ _ _ path 1 _ (by omega) R.out.at_).mono ?_);rintro e acF hp)
 obtain ⟨c0,c1,c2,c3,c4,c5,c6,c7,bb,h1',rfl⟩:=hp.form
 have Z2:=ji Z hp.keep (by omega) (by decide)
 go_wp2_with (refine wpList_store_row rfl 30 _ _ rfl w.heap.size _ rfl rfl 30 _ Z2.out (by kernel_rfl) rfl (by simpa using h1') ?_)
 obtain ⟨z0,z1,z2,z3,z4,z5,z6,z7⟩:=(iU Z2.out #[c0,c1,c2,c3,c4,c5,c6,c7]).c8
 exact bodyPost_ret (v:=.tuple #[.agg #[c0,c1,c2,c3,c4,c5,c6,c7],.bool bb]) (by simp [results,Tryz.results69,go_sem,z0,z1,z2,z3,z4,z5,z6,z7]) rfl (by rw [HR.out];exact hp.tail KP hgr (Nat.le_refl _) hz Z2.out (by decide))
end Go.Proofs.YthkfapcadhnaeaaGreatDoor

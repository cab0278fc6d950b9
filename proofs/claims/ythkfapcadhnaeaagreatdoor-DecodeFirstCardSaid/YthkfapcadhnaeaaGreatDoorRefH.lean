/- Payload of the reference: kinds with parts. No condition. -/
import Derived.Test.YthkfapcadhnaeaaGreatDoorRefE
import Derived.Test.YthkfapcadhnaeaaGreatDoorRefF
import Derived.Test.YthkfapcadhnaeaaGreatDoorRefG
import Derived.Test.YthkfapcadhnaeaaGreatDoorDecS
set_option maxHeartbeats 1600000
namespace Go.Proofs.YthkfapcadhnaeaaGreatDoor
open Go.ChangeShapes Go.WideShapes Go.ChangeAt Go.RowKit
set_option maxRecDepth 100000 in
theorem aci
 (ts:List aC) (A:Option Addr) (c n C:Nat) (vp:Value) (path:List Int) (p:List UInt8) (rec:Int→List UInt8→List Int→fO) (w:World) (hn:n < ts.length) (hk:ts[n].kind=5) (hp:path.length < 200) (hpl:p.length≤800000)
 (hC:C≤w.heap.size) (ht:bG w C (.slice A ts.length c) ts) (hvp:w.ownsRow 0 3 1 vp path.length (path.map iZ)) (iW:p.length≤800000→∀ (W:World) (vs vm vp:Value),C≤W.heap.size→bG W C (.slice A ts.length c) ts→eX W C ts[n] vs vm→W.ownsRow 0 3 1 vp path.length (path.map iZ)→Calls Tryz.prog 105 #[.agg #[.slice A ts.length c],aS ts[n] vs vm,.string ⟨p.toArray⟩,.int .i64 ((path.length:Int)+1),vp] W (fG C W (aG rec ts[n] p path))) :
 Calls Tryz.prog 71 #[.agg #[.slice A ts.length c],.int .i64 n,.string ⟨p.toArray⟩,.int .i64 ((path.length:Int)+1),vp] w (fG C w (aG rec ts[n] p path)):=by
 replace iW:=iW hpl
 obtain ⟨b,o,rfl,hbb,hel⟩:=ht.elem (by omega)
 obtain ⟨vs,vm,hcells,hx⟩:=hel n hn
 clear hel
 obtain ⟨Ap,cp,rfl⟩:=aF hvp
 generalize ts[n]=x at *
 obtain ⟨C1,l1,C2,l2,rfl,rfl,-,-⟩:=hx.forms
 have hlt:(n:Int) < ts.length:=by omega
 have hd0:decide ((n:Int) < 0)=false:=by simp
 have hd1:decide (ts.length≤n)=false:=by simpa using hn
 have hlp:¬ (200:Int) < (path.length:Int)+1:=by omega
 have HX:=Lib.hid hx
 have HT:=Lib.hid ht
 have HC:=Lib.hid hcells
 have iq:=Lib.hid hk
 have aT:=Lib.hid hC
 have hxs:=hx.lens
 clear hx ht hcells hn
 have PA:=Lib.hid (Kept.own hvp)
 clear hvp
 go_enter Tryz.func71,Tryz.ntmps71
 go_upto_region 1 with fail
 generalize dJ:w.alloc _=wd2
 generalize jD:wd2.alloc _=wd4
 have ⟨hb1,S,Z⟩:=dN dJ jD
 clear dJ jD
 replace PA:=b1 PA hb1
 have hw6:=hb1
 clear hb1
 obtain ⟨c0,c1,c2,c3,c4,c5,c6,c7,c8,c9⟩:=HC.out.below (hw6) (by omega)
 rw [hk] at c0
 have ay:=S.out.e0
 go_upto_region 42 with fail
 clear c0 c1 c2 c3 c4 c5 c6 c7 c8 c9 hd0 hd1 hlp
 clear ay
 generalize Bc:wd4.alloc _=uJ
 generalize jZ:uJ.alloc _=kE
 have ⟨hb7,X,V⟩:=dN Bc jZ
 clear Bc jZ
 have ahT:=S.out.here
 have ahU:=Z.out.here
 have ahz:=PA.out.le
 have Yg:=hw6.size
 obtain ⟨S,Z,PA⟩:=b3 S Z PA hb7
 replace hw6:=dT hw6 hb7
 clear hb7
 generalize wd4.heap.size=g12 at *
 have uT:=Lib.hid (fun W vp h0 h1 h2 h3 => iW W (.slice C1 x.syms.length l1) (.slice C2 x.aj.length l2) vp h0 h1 h2 h3)
 simp only [aS,hk] at uT
 clear iW
 have hz:=Z.out.here
 have ay:=S.out.e0
 obtain ⟨aI,bI,bQ,bT,bW,dD,bK,bJ,bZ,bM⟩:=X.out.c10
 go_wp2_with fail
 clear ay aI bI bQ bT bW dD bK bJ bZ bM
 have LH:=S.out.here
 have UK:=Z.out.here
 have Pv:=X.out.here
 have Gf:=V.out.here
 have PW:=PA.out.le
 have Vb:=hw6.size
 ((with_reducible refine (uT.out _ _ (Nat.le_trans aT.out (hw6).size) (HT.out.keep (fun _ hp => (hw6).cell (Nat.lt_of_lt_of_le hp aT.out)) (Nat.le_refl _)) (HX.out.keep (fun _ hp => (hw6).cell (Nat.lt_of_lt_of_le hp aT.out)) (Nat.le_refl _)) PA.out.now).mono ?_);rintro e rE aew)
 have jw:=aew.1
 obtain ⟨aW,aX,aY,bf,bn,bC,bD,bF,dL,dM,bY,aQ,rfl,N⟩:=aew.take (w0:=w) (Old.of (hw6.trans (jw.mono hw6.size)) aT.out)
 obtain ⟨S,Z,X,V,PA⟩:=b5 S Z X V PA jw
 replace hw6:=dT hw6 jw
 clear jw aew
 replace N:=Lib.hid N
 have iF:(#[aW,aX,aY,bf,bn,bC,bD,bF,dL,dM,bY] : Array Value).all (·.oneCell')=true:=by simpa using aQ
 generalize kE.heap.size=L18 at *
 have hNl:=N.out.le
 go_wp2_with (refine sR Z.out ?_)
 generalize tY:rE.setRow _ _=uX
 obtain ⟨S,X,V,PA,N⟩:=f5 S X V PA N (eR tY)
 replace Z:=aK Z tY
 replace hw6:=tr hw6 tY
 clear tY
 exact bodyPost_ret (v:=.agg #[aW,aX,aY,bf,bn,bC,bD,bF,dL,dM,bY]) (by simp [results,Tryz.results71,go_sem,Z.out.c11]) rfl (N.out.now.post hw6 aT.out (by omega) N.out.le)
set_option maxRecDepth 100000 in
theorem acj
 (ts:List aC) (A:Option Addr) (c n C:Nat) (vp:Value) (path:List Int) (p:List UInt8) (rec:Int→List UInt8→List Int→fO) (w:World) (hn:n < ts.length) (hk:ts[n].kind=6) (hp:path.length < 200) (hpl:p.length≤800000)
 (hC:C≤w.heap.size) (ht:bG w C (.slice A ts.length c) ts) (hvp:w.ownsRow 0 3 1 vp path.length (path.map iZ)) (iW:p.length≤800000→∀ (W:World) (vs vm vp:Value),C≤W.heap.size→bG W C (.slice A ts.length c) ts→eX W C ts[n] vs vm→W.ownsRow 0 3 1 vp path.length (path.map iZ)→Calls Tryz.prog 102 #[.agg #[.slice A ts.length c],aS ts[n] vs vm,.string ⟨p.toArray⟩,.int .i64 ((path.length:Int)+1),vp] W (fG C W (aG rec ts[n] p path))) :
 Calls Tryz.prog 71 #[.agg #[.slice A ts.length c],.int .i64 n,.string ⟨p.toArray⟩,.int .i64 ((path.length:Int)+1),vp] w (fG C w (aG rec ts[n] p path)):=by
 replace iW:=iW hpl
 obtain ⟨b,o,rfl,hbb,hel⟩:=ht.elem (by omega)
 obtain ⟨vs,vm,hcells,hx⟩:=hel n hn
 clear hel
 obtain ⟨Ap,cp,rfl⟩:=aF hvp
 generalize ts[n]=x at *
 obtain ⟨C1,l1,C2,l2,rfl,rfl,-,-⟩:=hx.forms
 have hlt:(n:Int) < ts.length:=by omega
 have hd0:decide ((n:Int) < 0)=false:=by simp
 have hd1:decide (ts.length≤n)=false:=by simpa using hn
 have hlp:¬ (200:Int) < (path.length:Int)+1:=by omega
 have HX:=Lib.hid hx
 have HT:=Lib.hid ht
 have HC:=Lib.hid hcells
 have iq:=Lib.hid hk
 have aT:=Lib.hid hC
 have hxs:=hx.lens
 clear hx ht hcells hn
 have PA:=Lib.hid (Kept.own hvp)
 clear hvp
 go_enter Tryz.func71,Tryz.ntmps71
 go_upto_region 1 with fail
 generalize mO:w.alloc _=nX
 generalize DW:nX.alloc _=zC
 have ⟨yZ,S,Z⟩:=dN mO DW
 clear mO DW
 replace PA:=b1 PA yZ
 have vw:=yZ
 clear yZ
 obtain ⟨c0,c1,c2,c3,c4,c5,c6,c7,c8,c9⟩:=HC.out.below (vw) (by omega)
 rw [hk] at c0
 have ay:=S.out.e0
 go_upto_region 36 with fail
 clear c0 c1 c2 c3 c4 c5 c6 c7 c8 c9 hd0 hd1 hlp
 clear ay
 generalize rD:zC.alloc _=o9
 generalize vC:o9.alloc _=sD
 have ⟨jL,X,V⟩:=dN rD vC
 clear rD vC
 have XG:=S.out.here
 have Lu:=Z.out.here
 have PL:=PA.out.le
 have XQ:=vw.size
 obtain ⟨S,Z,PA⟩:=b3 S Z PA jL
 replace vw:=dT vw jL
 clear jL
 generalize zC.heap.size=g40 at *
 have uT:=Lib.hid (fun W vp h0 h1 h2 h3 => iW W (.slice C1 x.syms.length l1) (.slice C2 x.aj.length l2) vp h0 h1 h2 h3)
 simp only [aS,hk] at uT
 clear iW
 have hz:=Z.out.here
 have ay:=S.out.e0
 obtain ⟨aI,bI,bQ,bT,bW,dD,bK,bJ,bZ,bM⟩:=X.out.c10
 go_wp2_with fail
 clear ay aI bI bQ bT bW dD bK bJ bZ bM
 have Yn:=S.out.here
 have Uz:=Z.out.here
 have Px:=X.out.here
 have LC:=V.out.here
 have LD:=PA.out.le
 have Fa:=vw.size
 ((with_reducible refine (uT.out _ _ (Nat.le_trans aT.out (vw).size) (HT.out.keep (fun _ hp => (vw).cell (Nat.lt_of_lt_of_le hp aT.out)) (Nat.le_refl _)) (HX.out.keep (fun _ hp => (vw).cell (Nat.lt_of_lt_of_le hp aT.out)) (Nat.le_refl _)) PA.out.now).mono ?_);rintro e zT NM)
 have hb48:=NM.1
 obtain ⟨aW,aX,aY,bf,bn,bC,bD,bF,dL,dM,bY,aQ,rfl,N⟩:=NM.take (w0:=w) (Old.of (vw.trans (hb48.mono vw.size)) aT.out)
 obtain ⟨S,Z,X,V,PA⟩:=b5 S Z X V PA hb48
 replace vw:=dT vw hb48
 clear hb48 NM
 replace N:=Lib.hid N
 have iF:(#[aW,aX,aY,bf,bn,bC,bD,bF,dL,dM,bY] : Array Value).all (·.oneCell')=true:=by simpa using aQ
 generalize sD.heap.size=L46 at *
 have hNl:=N.out.le
 go_wp2_with (refine sR Z.out ?_)
 generalize jk:zT.setRow _ _=qE
 obtain ⟨S,X,V,PA,N⟩:=f5 S X V PA N (eR jk)
 replace Z:=aK Z jk
 replace vw:=tr vw jk
 clear jk
 exact bodyPost_ret (v:=.agg #[aW,aX,aY,bf,bn,bC,bD,bF,dL,dM,bY]) (by simp [results,Tryz.results71,go_sem,Z.out.c11]) rfl (N.out.now.post vw aT.out (by omega) N.out.le)
set_option maxRecDepth 100000 in
theorem acn
 (ts:List aC) (A:Option Addr) (c n C:Nat) (vp:Value) (path:List Int) (p:List UInt8) (rec:Int→List UInt8→List Int→fO) (w:World) (hn:n < ts.length) (hk:ts[n].kind=7) (hp:path.length < 200) (hpl:p.length≤800000)
 (hC:C≤w.heap.size) (ht:bG w C (.slice A ts.length c) ts) (hvp:w.ownsRow 0 3 1 vp path.length (path.map iZ)) (iW:p.length≤800000→∀ (W:World) (vs vm vp:Value),C≤W.heap.size→bG W C (.slice A ts.length c) ts→eX W C ts[n] vs vm→W.ownsRow 0 3 1 vp path.length (path.map iZ)→Calls Tryz.prog 103 #[.agg #[.slice A ts.length c],aS ts[n] vs vm,.string ⟨p.toArray⟩,.int .i64 ((path.length:Int)+1),vp] W (fG C W (aG rec ts[n] p path))) :
 Calls Tryz.prog 71 #[.agg #[.slice A ts.length c],.int .i64 n,.string ⟨p.toArray⟩,.int .i64 ((path.length:Int)+1),vp] w (fG C w (aG rec ts[n] p path)):=by
 replace iW:=iW hpl
 obtain ⟨b,o,rfl,hbb,hel⟩:=ht.elem (by omega)
 obtain ⟨vs,vm,hcells,hx⟩:=hel n hn
 clear hel
 obtain ⟨Ap,cp,rfl⟩:=aF hvp
 generalize ts[n]=x at *
 obtain ⟨C1,l1,C2,l2,rfl,rfl,-,-⟩:=hx.forms
 have hlt:(n:Int) < ts.length:=by omega
 have hd0:decide ((n:Int) < 0)=false:=by simp
 have hd1:decide (ts.length≤n)=false:=by simpa using hn
 have hlp:¬ (200:Int) < (path.length:Int)+1:=by omega
 have HX:=Lib.hid hx
 have HT:=Lib.hid ht
 have HC:=Lib.hid hcells
 have iq:=Lib.hid hk
 have aT:=Lib.hid hC
 have hxs:=hx.lens
 clear hx ht hcells hn
 have PA:=Lib.hid (Kept.own hvp)
 clear hvp
 go_enter Tryz.func71,Tryz.ntmps71
 go_upto_region 1 with fail
 generalize kH:w.alloc _=oL
 generalize vg:oL.alloc _=zW
 have ⟨qI,S,Z⟩:=dN kH vg
 clear kH vg
 replace PA:=b1 PA qI
 have oN:=qI
 clear qI
 obtain ⟨c0,c1,c2,c3,c4,c5,c6,c7,c8,c9⟩:=HC.out.below (oN) (by omega)
 rw [hk] at c0
 have ay:=S.out.e0
 go_upto_region 38 with fail
 clear c0 c1 c2 c3 c4 c5 c6 c7 c8 c9 hd0 hd1 hlp
 clear ay
 generalize Ah:zW.alloc _=Qp
 generalize Dq:Qp.alloc _=Gg
 have ⟨Nz,X,V⟩:=dN Ah Dq
 clear Ah Dq
 have XW:=S.out.here
 have UN:=Z.out.here
 have UO:=PA.out.le
 have PO:=oN.size
 obtain ⟨S,Z,PA⟩:=b3 S Z PA Nz
 replace oN:=dT oN Nz
 clear Nz
 generalize zW.heap.size=g68 at *
 have uT:=Lib.hid (fun W vp h0 h1 h2 h3 => iW W (.slice C1 x.syms.length l1) (.slice C2 x.aj.length l2) vp h0 h1 h2 h3)
 simp only [aS,hk] at uT
 clear iW
 have hz:=Z.out.here
 have ay:=S.out.e0
 obtain ⟨aI,bI,bQ,bT,bW,dD,bK,bJ,bZ,bM⟩:=X.out.c10
 go_wp2_with fail
 clear ay aI bI bQ bT bW dD bK bJ bZ bM
 have Pz:=S.out.here
 have Qq:=Z.out.here
 have WG:=X.out.here
 have PX:=V.out.here
 have Vf:=PA.out.le
 have UQ:=oN.size
 ((with_reducible refine (uT.out _ _ (Nat.le_trans aT.out (oN).size) (HT.out.keep (fun _ hp => (oN).cell (Nat.lt_of_lt_of_le hp aT.out)) (Nat.le_refl _)) (HX.out.keep (fun _ hp => (oN).cell (Nat.lt_of_lt_of_le hp aT.out)) (Nat.le_refl _)) PA.out.now).mono ?_);rintro e Jb aex)
 have qG:=aex.1
 obtain ⟨aW,aX,aY,bf,bn,bC,bD,bF,dL,dM,bY,aQ,rfl,N⟩:=aex.take (w0:=w) (Old.of (oN.trans (qG.mono oN.size)) aT.out)
 obtain ⟨S,Z,X,V,PA⟩:=b5 S Z X V PA qG
 replace oN:=dT oN qG
 clear qG aex
 replace N:=Lib.hid N
 have iF:(#[aW,aX,aY,bf,bn,bC,bD,bF,dL,dM,bY] : Array Value).all (·.oneCell')=true:=by simpa using aQ
 generalize Gg.heap.size=L74 at *
 have hNl:=N.out.le
 go_wp2_with (refine sR Z.out ?_)
 generalize zf:Jb.setRow _ _=MW
 obtain ⟨S,X,V,PA,N⟩:=f5 S X V PA N (eR zf)
 replace Z:=aK Z zf
 replace oN:=tr oN zf
 clear zf
 exact bodyPost_ret (v:=.agg #[aW,aX,aY,bf,bn,bC,bD,bF,dL,dM,bY]) (by simp [results,Tryz.results71,go_sem,Z.out.c11]) rfl (N.out.now.post oN aT.out (by omega) N.out.le)
set_option maxRecDepth 100000 in
theorem aco
 (ts:List aC) (A:Option Addr) (c n C:Nat) (vp:Value) (path:List Int) (p:List UInt8) (rec:Int→List UInt8→List Int→fO) (w:World) (hn:n < ts.length) (hk:ts[n].kind=8) (hp:path.length < 200) (hpl:p.length≤800000)
 (hC:C≤w.heap.size) (ht:bG w C (.slice A ts.length c) ts) (hvp:w.ownsRow 0 3 1 vp path.length (path.map iZ)) (iW:p.length≤800000→∀ (W:World) (vs vm vp:Value),C≤W.heap.size→bG W C (.slice A ts.length c) ts→eX W C ts[n] vs vm→W.ownsRow 0 3 1 vp path.length (path.map iZ)→Calls Tryz.prog 104 #[.agg #[.slice A ts.length c],aS ts[n] vs vm,.string ⟨p.toArray⟩,.int .i64 ((path.length:Int)+1),vp] W (fG C W (aG rec ts[n] p path))) :
 Calls Tryz.prog 71 #[.agg #[.slice A ts.length c],.int .i64 n,.string ⟨p.toArray⟩,.int .i64 ((path.length:Int)+1),vp] w (fG C w (aG rec ts[n] p path)):=by
 replace iW:=iW hpl
 obtain ⟨b,o,rfl,hbb,hel⟩:=ht.elem (by omega)
 obtain ⟨vs,vm,hcells,hx⟩:=hel n hn
 clear hel
 obtain ⟨Ap,cp,rfl⟩:=aF hvp
 generalize ts[n]=x at *
 obtain ⟨C1,l1,C2,l2,rfl,rfl,-,-⟩:=hx.forms
 have hlt:(n:Int) < ts.length:=by omega
 have hd0:decide ((n:Int) < 0)=false:=by simp
 have hd1:decide (ts.length≤n)=false:=by simpa using hn
 have hlp:¬ (200:Int) < (path.length:Int)+1:=by omega
 have HX:=Lib.hid hx
 have HT:=Lib.hid ht
 have HC:=Lib.hid hcells
 have iq:=Lib.hid hk
 have aT:=Lib.hid hC
 have hxs:=hx.lens
 clear hx ht hcells hn
 have PA:=Lib.hid (Kept.own hvp)
 clear hvp
 go_enter Tryz.func71,Tryz.ntmps71
 go_upto_region 1 with fail
 generalize MJ:w.alloc _=adq
 generalize MK:adq.alloc _=P9
 have ⟨NP,S,Z⟩:=dN MJ MK
 clear MJ MK
 replace PA:=b1 PA NP
 have yw:=NP
 clear NP
 obtain ⟨c0,c1,c2,c3,c4,c5,c6,c7,c8,c9⟩:=HC.out.below (yw) (by omega)
 rw [hk] at c0
 have ay:=S.out.e0
 go_upto_region 40 with fail
 clear c0 c1 c2 c3 c4 c5 c6 c7 c8 c9 hd0 hd1 hlp
 clear ay
 generalize zG:P9.alloc _=acQ
 generalize zY:acQ.alloc _=DV
 have ⟨JR,X,V⟩:=dN zG zY
 clear zG zY
 have ac8:=S.out.here
 have ac9:=Z.out.here
 have ada:=PA.out.le
 have ae7:=yw.size
 obtain ⟨S,Z,PA⟩:=b3 S Z PA JR
 replace yw:=dT yw JR
 clear JR
 generalize P9.heap.size=g96 at *
 have uT:=Lib.hid (fun W vp h0 h1 h2 h3 => iW W (.slice C1 x.syms.length l1) (.slice C2 x.aj.length l2) vp h0 h1 h2 h3)
 simp only [aS,hk] at uT
 clear iW
 have hz:=Z.out.here
 have ay:=S.out.e0
 obtain ⟨aI,bI,bQ,bT,bW,dD,bK,bJ,bZ,bM⟩:=X.out.c10
 go_wp2_with fail
 clear ay aI bI bQ bT bW dD bK bJ bZ bM
 have agu:=S.out.here
 have Z8:=Z.out.here
 have O1:=X.out.here
 have J6:=V.out.here
 have Ol:=PA.out.le
 have Om:=yw.size
 ((with_reducible refine (uT.out _ _ (Nat.le_trans aT.out (yw).size) (HT.out.keep (fun _ hp => (yw).cell (Nat.lt_of_lt_of_le hp aT.out)) (Nat.le_refl _)) (HX.out.keep (fun _ hp => (yw).cell (Nat.lt_of_lt_of_le hp aT.out)) (Nat.le_refl _)) PA.out.now).mono ?_);rintro e XZ aaD)
 have Ul:=aaD.1
 obtain ⟨aW,aX,aY,bf,bn,bC,bD,bF,dL,dM,bY,aQ,rfl,N⟩:=aaD.take (w0:=w) (Old.of (yw.trans (Ul.mono yw.size)) aT.out)
 obtain ⟨S,Z,X,V,PA⟩:=b5 S Z X V PA Ul
 replace yw:=dT yw Ul
 clear Ul aaD
 replace N:=Lib.hid N
 have iF:(#[aW,aX,aY,bf,bn,bC,bD,bF,dL,dM,bY] : Array Value).all (·.oneCell')=true:=by simpa using aQ
 generalize DV.heap.size=asI at *
 have hNl:=N.out.le
 go_wp2_with (refine sR Z.out ?_)
 generalize oM:XZ.setRow _ _=EC
 obtain ⟨S,X,V,PA,N⟩:=f5 S X V PA N (eR oM)
 replace Z:=aK Z oM
 replace yw:=tr yw oM
 clear oM
 exact bodyPost_ret (v:=.agg #[aW,aX,aY,bf,bn,bC,bD,bF,dL,dM,bY]) (by simp [results,Tryz.results71,go_sem,Z.out.c11]) rfl (N.out.now.post yw aT.out (by omega) N.out.le)
set_option maxRecDepth 100000 in
theorem acp
 (ts:List aC) (A:Option Addr) (c n C:Nat) (vp:Value) (path:List Int) (p:List UInt8) (rec:Int→List UInt8→List Int→fO) (w:World) (hn:n < ts.length) (hk:ts[n].kind=9) (hp:path.length < 200) (hpl:p.length≤800000)
 (hC:C≤w.heap.size) (ht:bG w C (.slice A ts.length c) ts) (hvp:w.ownsRow 0 3 1 vp path.length (path.map iZ)) (HP:F9 ts C (.slice A ts.length c) ((path.length:Int)+1) rec path) (he:(fB ts ts[n].elem).isSome=true) :
 Calls Tryz.prog 71 #[.agg #[.slice A ts.length c],.int .i64 n,.string ⟨p.toArray⟩,.int .i64 ((path.length:Int)+1),vp] w (fG C w (aG rec ts[n] p path)):=by
 have HP:=Lib.hid HP
 rcases p with _ | ⟨b0,p⟩
 ·
  have HR:Hid (∀ x:aC,x.kind=9→aG rec x [] path = .ok (.mk 9 false 0 [] 0 [] [] [])):=Lib.hid fun x h => by simp [aG,h,XF]
  obtain ⟨b,o,rfl,hbb,hel⟩:=ht.elem (by omega)
  obtain ⟨vs,vm,hcells,hx⟩:=hel n hn
  clear hel
  obtain ⟨Ap,cp,rfl⟩:=aF hvp
  generalize ts[n]=x at *
  obtain ⟨C1,l1,C2,l2,rfl,rfl,-,-⟩:=hx.forms
  have hlt:(n:Int) < ts.length:=by omega
  have hd0:decide ((n:Int) < 0)=false:=by simp
  have hd1:decide (ts.length≤n)=false:=by simpa using hn
  have hlp:¬ (200:Int) < (path.length:Int)+1:=by omega
  have HX:=Lib.hid hx
  have HT:=Lib.hid ht
  have HC:=Lib.hid hcells
  have iq:=Lib.hid hk
  have aT:=Lib.hid hC
  have hxs:=hx.lens
  clear hx ht hcells hn
  have PA:=Lib.hid (Kept.own hvp)
  clear hvp
  go_enter Tryz.func71,Tryz.ntmps71
  go_upto_region 1 with fail
  generalize AQ:w.alloc _=EZ
  generalize O8:EZ.alloc _=BR
  have ⟨qO,S,Z⟩:=dN AQ O8
  clear AQ O8
  replace PA:=b1 PA qO
  have Dj:=qO
  clear qO
  obtain ⟨c0,c1,c2,c3,c4,c5,c6,c7,c8,c9⟩:=HC.out.below (Dj) (by omega)
  rw [hk] at c0
  have ay:=S.out.e0
  go_upto_region 28 with fail
  clear c0 c1 c2 c3 c4 c5 c6 c7 c8 c9 hd0 hd1 hlp
  clear ay
  generalize agC:BR.alloc _=Oe
  generalize O9:Oe.alloc _=af9
  have ⟨E5,X,V⟩:=dN agC O9
  clear agC O9
  have aeK:=S.out.here
  have X5:=Z.out.here
  have RS:=PA.out.le
  have RU:=Dj.size
  obtain ⟨S,Z,PA⟩:=b3 S Z PA E5
  replace Dj:=dT Dj E5
  clear E5
  generalize BR.heap.size=asJ at *
  have aI:=X.out.e0
  obtain ⟨eH,dP,eP,eU,dY,dW,dK,eG⟩:=V.out.c8
  go_upto_region 43 with fail
  go_wp2_with fail
  clear aI eH dP eP eU dY dW dK eG
  ((with_reducible refine (oU 9 false 0 [] 0 [] [] [] _ _ _ (fun _ => False) _ (iY _ _ _ _ _ _ _ (by unfold I64;omega) (by unfold I64;omega) (by unfold I64;omega) (by simp))).mono ?_);rintro e ZF ⟨rfl,xI⟩)
  obtain ⟨S,Z,X,V,PA⟩:=b5 S Z X V PA xI
  replace Dj:=dT Dj xI
  clear xI
  go_wp2_with (refine sR Z.out ?_)
  generalize uo:ZF.setRow _ _=G5
  obtain ⟨S,X,V,PA⟩:=f4 S X V PA (eR uo)
  replace Z:=aK Z uo
  replace Dj:=tr Dj uo
  clear uo
  exact bodyPost_ret (v:=.agg #[.int .i64 9,.bool false,.int .i64 0,.string ⟨#[]⟩,.int .i64 0,.slice none 0 0,.slice none 0 0,.slice none 0 0,.slice none 0 0,.int .i64 0,.bool true]) (by simp [results,Tryz.results71,go_sem,Z.out.c11]) rfl ((by rw [(HR.out x iq.out)];exact ⟨Dj,_,_,_,rfl,iY _ _ _ _ _ _ _ (by unfold I64;omega) (by unfold I64;omega) (by unfold I64;omega) (by simp)⟩))
 skip
 obtain ⟨b,o,rfl,hbb,hel⟩:=ht.elem (by omega)
 obtain ⟨vs,vm,hcells,hx⟩:=hel n hn
 clear hel
 obtain ⟨Ap,cp,rfl⟩:=aF hvp
 generalize ts[n]=x at *
 obtain ⟨C1,l1,C2,l2,rfl,rfl,-,-⟩:=hx.forms
 have hlt:(n:Int) < ts.length:=by omega
 have hd0:decide ((n:Int) < 0)=false:=by simp
 have hd1:decide (ts.length≤n)=false:=by simpa using hn
 have hlp:¬ (200:Int) < (path.length:Int)+1:=by omega
 have HX:=Lib.hid hx
 have HT:=Lib.hid ht
 have HC:=Lib.hid hcells
 have iq:=Lib.hid hk
 have aT:=Lib.hid hC
 have hxs:=hx.lens
 clear hx ht hcells hn
 have PA:=Lib.hid (Kept.own hvp)
 clear hvp
 go_enter Tryz.func71,Tryz.ntmps71
 go_upto_region 1 with fail
 generalize Ej:w.alloc _=NV
 generalize OY:NV.alloc _=ER
 have ⟨xA,S,Z⟩:=dN Ej OY
 clear Ej OY
 replace PA:=b1 PA xA
 have dX:=xA
 clear xA
 obtain ⟨c0,c1,c2,c3,c4,c5,c6,c7,c8,c9⟩:=HC.out.below (dX) (by omega)
 rw [hk] at c0
 have ay:=S.out.e0
 go_upto_region 28 with fail
 clear c0 c1 c2 c3 c4 c5 c6 c7 c8 c9 hd0 hd1 hlp
 clear ay
 generalize Ot:ER.alloc _=Sm
 generalize Pg:Sm.alloc _=Iz
 have ⟨Io,X,V⟩:=dN Ot Pg
 clear Ot Pg
 have aqa:=S.out.here
 have aqb:=Z.out.here
 have aqc:=PA.out.le
 have aqd:=dX.size
 obtain ⟨S,Z,PA⟩:=b3 S Z PA Io
 replace dX:=dT dX Io
 clear Io
 generalize ER.heap.size=anv at *
 have hpe:(b0 :: p).length=p.length+1:=rfl
 have hi0:∀ h,(({ data:=(b0 :: p).toArray } : ByteArray)[0]'h)=b0:=fun _ => rfl
 have HE:=Lib.hid he
 clear he
 by_cases h1:b0.toNat=1
 ·
  obtain rfl:b0=1:=UInt8.toNat_inj.1 h1
  have HD:Hid (aG rec x (1 :: p) path=Po (fun v => .mk 9 false 0 [] 0 [] [v] []) (rec x.elem p (path ++ [0]))):=by show _=_;cases hq:rec x.elem p (path ++ [0]) <;> simp [aG,iq.out,h1,Po,hq]
  clear h1
  have aI:=X.out.e0
  go_upto_region 31 with fail
  have h1p:(1:Int)≤(p.length:Int)+1:=by omega
  have hcut:({ data:=(1 :: p).toArray } : ByteArray).extract 1 (p.length+1) = { data:=p.toArray }:=xK _ _ _ rfl
  obtain ⟨gX,rfl⟩ : ∃ g,g=anv:=⟨_,rfl⟩
  have HPQ:=Lib.hid (fun (W:World) (vp:Value) h1 h2 h3 => HP.out W x.elem 0 p vp h1 h2 h3 HE.out (by omega))
  generalize rec x.elem p (path ++ [0])=q at *
  have hw1:IntKind.i64.wrap ((path.length:Int)+1+1)=(path.length:Int)+1+1:=IntWalk.i64_in _ (by omega)
  have hgz:=X.out.here
  go_cut [19] from 138 to 148 (fun sa wx => KF w C wx q (gX+1) sa∧Has wx gX 69 #[.int .i64 9,.string ⟨x.name.toArray⟩,.int .i64 x.low,.int .i64 x.high,.int .i64 x.max,.slice C1 x.syms.length l1,.slice C2 x.aj.length l2,.int .i64 x.key,.int .i64 x.elem,.bool x.opn]∧Has wx (w.heap.size+1) 91 #[.int .i64 0,.bool false,.int .i64 0,.string ⟨#[]⟩,.int .i64 0,.slice none 0 0,.slice none 0 0,.slice none 0 0,.slice none 0 0,.int .i64 0,.bool false]∧Has wx (gX+1) 30 #[.int .i64 9,.bool false,.int .i64 0,.string ⟨#[]⟩,.int .i64 0,.slice none 0 0,.slice none 0 0,.slice none 0 0])
  case first =>
   have ay:=S.out.e0
   have bZ:=X.out.e8
   refine wp_region_held_drew (S:=(fun w' => w'.cell? ⟨w.heap.size,0,none⟩=some (.slice (some ⟨b,o,none⟩) ts.length c)∧w'.cell? ⟨gX,8,none⟩=some (.int .i64 x.elem))) (by kernel_rfl) ⟨ay,bZ⟩ (fun hHeld => ?_)
   clear aI ay bZ
   have aaE:Below Iz.heap.size Iz (Iz.drew):=(Below.refl _ _).drew
   obtain ⟨S,Z,X,V,PA⟩:=b5 S Z X V PA aaE
   replace dX:=dT dX aaE
   clear aaE
   generalize Iz.drew=Ph at *
   refine tk (i:=0) (v := ?anh) ?_
   simp only [ah]
   refine tk (i:=1) (v := ?ani) ?_
   simp only [ah]
   refine tk (i:=2) (v := ?anj) ?_
   simp only [ah]
   refine tk (i:=3) (v := ?ank) ?_
   simp only [ah]
   refine tk (i:=4) (v := ?anl) ?_
   simp only [ah]
   refine tk (i:=5) (v := ?aio) ?_
   simp only [ah]
   refine tk (i:=6) (v := ?aip) ?_
   simp only [ah]
   refine tk (i:=7) (v := ?am4) ?_
   simp only [ah]
   refine wpAnyH_ready (rs:=[8,10]) (by kernel_rfl) (by simp) ?_
   refine AllReadyH.cons rfl (fun K hK => ?_) (AllReadyH.cons rfl (fun K hK => ?_) (AllReadyH.nil))
   ·
    skip
    go_simp
    obtain ⟨LT,kC⟩ : ∃ n,n=(Ph).heap.size:=⟨_,rfl⟩
    have hzT:=(dX).size
    rw [← kC] at hzT
    ((with_reducible refine (qA path _ 0 _ (by omega) PA.out.now).mono ?_);rintro e yN ⟨aaF,vt,rfl,hown⟩)
    obtain ⟨S,Z,X,V,PA⟩:=b5 S Z X V PA aaF
    replace dX:=dT dX aaF
    clear aaF
    rw [show (path ++ [(0:Int)]).length=path.length+1 by simp] at hown
    obtain ⟨Ao,co,rfl⟩:=aF hown
    rw [← kC] at hown
    obtain ⟨LU,nJ⟩ : ∃ n,n=(yN).heap.size:=⟨_,rfl⟩
    have TP:=Lib.hid (Kept.kM hown nJ)
    clear hown kC nJ
    try clear hHeld
    refine hK.out _ _ (⟨S.out.cell 0,X.out.cell 8⟩) (fun hHeld => ?_)
    clear hK K
    refine wpAnyH_ready (rs:=[9,10]) (by kernel_rfl) (by simp) ?_
    refine AllReadyH.cons rfl (fun K hK => ?_) (AllReadyH.cons rfl (fun K hK => ?_) (AllReadyH.nil))
    ·
     skip
     go_simp
     have afb:=S.out.here
     have aeP:=Z.out.here
     have aeQ:=X.out.here
     have aeR:=V.out.here
     have aeS:=PA.out.le
     have aeT:=TP.out.le
     have aeU:=dX.size
     ((with_reducible refine (HPQ.out _ _ (Nat.le_trans aT.out (dX).size) (HT.out.keep (fun _ hp => (dX).cell (Nat.lt_of_lt_of_le hp aT.out)) (Nat.le_refl _)) (aH TP.out.now (Nat.zero_le _))).mono ?_);rintro e Sr aaG)
     have EF:=aaG.1
     obtain ⟨aW,aX,aY,bf,bn,bC,bD,bF,dL,dM,bY,aQ,rfl,N⟩:=aaG.take (w0:=w) (Old.of (dX.trans (EF.mono dX.size)) aT.out)
     obtain ⟨S,Z,X,V,PA,TP⟩:=b6 S Z X V PA TP EF
     replace dX:=dT dX EF
     clear EF aaG
     replace N:=Lib.hid N
     have iF:(#[aW,aX,aY,bf,bn,bC,bD,bF,dL,dM,bY] : Array Value).all (·.oneCell')=true:=by simpa using aQ
     generalize yN.heap.size=asK at *
     clear TP
     try clear hHeld
     refine hK.out _ _ (⟨S.out.cell 0,X.out.cell 8⟩) (fun hHeld => ?_)
     clear hK K
     refine fH (i:=10) (fun K hK => ?_)
     go_simp
     generalize agD:Sr.alloc _=akx
     have ⟨aaH,I⟩:=bH agD
     clear agD
     have ajS:=S.out.here
     have ake:=Z.out.here
     have akf:=X.out.here
     have akg:=V.out.here
     have akh:=PA.out.le
     have aki:=N.out.le
     have afd:=dX.size
     obtain ⟨S,Z,X,V,PA,N⟩:=b6 S Z X V PA N aaH
     replace dX:=dT dX aaH
     clear aaH
     generalize Sr.heap.size=anw at *
     try clear hHeld
     refine hK.out _ _ (⟨S.out.cell 0,X.out.cell 8⟩) (fun hHeld => ?_)
     clear hK K
     refine fH (i:=11) (fun K hK => ?_)
     refine aU (by rfl) 91 _ _ (by rfl) (anw) #[aW,aX,aY,bf,bn,bC,bD,bF,dL,dM,bY] (by rfl) (by rfl) 91 _ I.out (by kernel_rfl) rfl (by first | assumption | simp [Value.oneCell']) ?_
     generalize CP:akx.setRow _ _=ajd
     obtain ⟨S,Z,X,V,PA,N⟩:=f6 S Z X V PA N (eR CP)
     replace I:=aK I CP
     replace dX:=tr dX CP
     clear CP
     try clear hHeld
     refine hK.out _ _ (⟨S.out.cell 0,X.out.cell 8⟩) (fun hHeld => ?_)
     clear hK K
     refine wpAnyH_done (by kernel_rfl) ?_ _
     try clear hHeld
     go_wp2_with fail
     go_meet
     have hBl:=N.out.le
     exact ⟨⟨⟨_,_,_,_,_,_,_,_,_,_,_,_,_,_,rfl,aQ,I.out,N.out,by omega,by omega,by omega,dX⟩⟩,X.out,Z.out,V.out⟩
    skip
    go_simp
    generalize vV:yN.alloc _=Yl
    have ⟨aaI,I⟩:=bH vV
    clear vV
    have aqe:=S.out.here
    have aqf:=Z.out.here
    have aqg:=X.out.here
    have akj:=V.out.here
    have agj:=PA.out.le
    have agk:=TP.out.le
    have agl:=dX.size
    obtain ⟨S,Z,X,V,PA,TP⟩:=b6 S Z X V PA TP aaI
    replace dX:=dT dX aaI
    clear aaI
    generalize yN.heap.size=anx at *
    try clear hHeld
    refine hK.out _ _ (⟨S.out.cell 0,X.out.cell 8⟩) (fun hHeld => ?_)
    clear hK K
    refine fH (i:=9) (fun K hK => ?_)
    go_simp
    have akk:=S.out.here
    have aqh:=Z.out.here
    have aku:=X.out.here
    have akv:=V.out.here
    have akw:=I.out.here
    have agy:=PA.out.le
    have agz:=TP.out.le
    have agA:=dX.size
    ((with_reducible refine (HPQ.out _ _ (Nat.le_trans aT.out (dX).size) (HT.out.keep (fun _ hp => (dX).cell (Nat.lt_of_lt_of_le hp aT.out)) (Nat.le_refl _)) (aH TP.out.now (Nat.zero_le _))).mono ?_);rintro e aky aaJ)
    have Um:=aaJ.1
    obtain ⟨aW,aX,aY,bf,bn,bC,bD,bF,dL,dM,bY,aQ,rfl,N⟩:=aaJ.take (w0:=w) (Old.of (dX.trans (Um.mono dX.size)) aT.out)
    obtain ⟨S,Z,X,V,I,PA,TP⟩:=b7 S Z X V I PA TP Um
    replace dX:=dT dX Um
    clear Um aaJ
    replace N:=Lib.hid N
    have iF:(#[aW,aX,aY,bf,bn,bC,bD,bF,dL,dM,bY] : Array Value).all (·.oneCell')=true:=by simpa using aQ
    generalize Yl.heap.size=asL at *
    clear TP
    try clear hHeld
    refine hK.out _ _ (⟨S.out.cell 0,X.out.cell 8⟩) (fun hHeld => ?_)
    clear hK K
    refine fH (i:=11) (fun K hK => ?_)
    refine aU (by rfl) 91 _ _ (by rfl) (anx) #[aW,aX,aY,bf,bn,bC,bD,bF,dL,dM,bY] (by rfl) (by rfl) 91 _ I.out (by kernel_rfl) rfl (by first | assumption | simp [Value.oneCell']) ?_
    generalize Un:aky.setRow _ _=aqi
    obtain ⟨S,Z,X,V,PA,N⟩:=f6 S Z X V PA N (eR Un)
    replace I:=aK I Un
    replace dX:=tr dX Un
    clear Un
    try clear hHeld
    refine hK.out _ _ (⟨S.out.cell 0,X.out.cell 8⟩) (fun hHeld => ?_)
    clear hK K
    refine wpAnyH_done (by kernel_rfl) ?_ _
    try clear hHeld
    go_wp2_with fail
    go_meet
    have hBl:=N.out.le
    exact ⟨⟨⟨_,_,_,_,_,_,_,_,_,_,_,_,_,_,rfl,aQ,I.out,N.out,by omega,by omega,by omega,dX⟩⟩,X.out,Z.out,V.out⟩
   skip
   go_simp
   generalize xH:Ph.alloc _=J9
   have ⟨aaK,I⟩:=bH xH
   clear xH
   have akm:=S.out.here
   have aqj:=Z.out.here
   have aqk:=X.out.here
   have aql:=V.out.here
   have aqm:=PA.out.le
   have aqn:=dX.size
   obtain ⟨S,Z,X,V,PA⟩:=b5 S Z X V PA aaK
   replace dX:=dT dX aaK
   clear aaK
   generalize Ph.heap.size=anz at *
   try clear hHeld
   refine hK.out _ _ (⟨S.out.cell 0,X.out.cell 8⟩) (fun hHeld => ?_)
   clear hK K
   refine fH (i:=8) (fun K hK => ?_)
   go_simp
   obtain ⟨LT,kC⟩ : ∃ n,n=(J9).heap.size:=⟨_,rfl⟩
   have hzT:=(dX).size
   rw [← kC] at hzT
   ((with_reducible refine (qA path _ 0 _ (by omega) PA.out.now).mono ?_);rintro e Pm ⟨aaL,vt,rfl,hown⟩)
   obtain ⟨S,Z,X,V,I,PA⟩:=b6 S Z X V I PA aaL
   replace dX:=dT dX aaL
   clear aaL
   rw [show (path ++ [(0:Int)]).length=path.length+1 by simp] at hown
   obtain ⟨Ao,co,rfl⟩:=aF hown
   rw [← kC] at hown
   obtain ⟨LU,nJ⟩ : ∃ n,n=(Pm).heap.size:=⟨_,rfl⟩
   have TP:=Lib.hid (Kept.kM hown nJ)
   clear hown kC nJ
   try clear hHeld
   refine hK.out _ _ (⟨S.out.cell 0,X.out.cell 8⟩) (fun hHeld => ?_)
   clear hK K
   refine fH (i:=9) (fun K hK => ?_)
   go_simp
   have akn:=S.out.here
   have ako:=Z.out.here
   have akp:=X.out.here
   have ajY:=V.out.here
   have ajZ:=I.out.here
   have aj0:=PA.out.le
   have aj1:=TP.out.le
   have aqo:=dX.size
   ((with_reducible refine (HPQ.out _ _ (Nat.le_trans aT.out (dX).size) (HT.out.keep (fun _ hp => (dX).cell (Nat.lt_of_lt_of_le hp aT.out)) (Nat.le_refl _)) (aH TP.out.now (Nat.zero_le _))).mono ?_);rintro e akz aaM)
   have Uo:=aaM.1
   obtain ⟨aW,aX,aY,bf,bn,bC,bD,bF,dL,dM,bY,aQ,rfl,N⟩:=aaM.take (w0:=w) (Old.of (dX.trans (Uo.mono dX.size)) aT.out)
   obtain ⟨S,Z,X,V,I,PA,TP⟩:=b7 S Z X V I PA TP Uo
   replace dX:=dT dX Uo
   clear Uo aaM
   replace N:=Lib.hid N
   have iF:(#[aW,aX,aY,bf,bn,bC,bD,bF,dL,dM,bY] : Array Value).all (·.oneCell')=true:=by simpa using aQ
   generalize Pm.heap.size=asM at *
   clear TP
   try clear hHeld
   refine hK.out _ _ (⟨S.out.cell 0,X.out.cell 8⟩) (fun hHeld => ?_)
   clear hK K
   refine fH (i:=11) (fun K hK => ?_)
   refine aU (by rfl) 91 _ _ (by rfl) (anz) #[aW,aX,aY,bf,bn,bC,bD,bF,dL,dM,bY] (by rfl) (by rfl) 91 _ I.out (by kernel_rfl) rfl (by first | assumption | simp [Value.oneCell']) ?_
   generalize Ur:akz.setRow _ _=aqp
   obtain ⟨S,Z,X,V,PA,N⟩:=f6 S Z X V PA N (eR Ur)
   replace I:=aK I Ur
   replace dX:=tr dX Ur
   clear Ur
   try clear hHeld
   refine hK.out _ _ (⟨S.out.cell 0,X.out.cell 8⟩) (fun hHeld => ?_)
   clear hK K
   refine wpAnyH_done (by kernel_rfl) ?_ _
   try clear hHeld
   go_wp2_with fail
   go_meet
   have hBl:=N.out.le
   exact ⟨⟨⟨_,_,_,_,_,_,_,_,_,_,_,_,_,_,rfl,aQ,I.out,N.out,by omega,by omega,by omega,dX⟩⟩,X.out,Z.out,V.out⟩
  case rest =>
   clear S X Z V PA hw1 dX
   obtain ⟨⟨gI,aW,aX,aY,bf,bn,bC,bD,bF,dL,dM,bY,LN,BN,rfl,aQ,I,hN,ug,NR,NS,hbr⟩,X,Z,V⟩:=hcut
   have iF:(#[aW,aX,aY,bf,bn,bC,bD,bF,dL,dM,bY] : Array Value).all (·.oneCell')=true:=by simpa using aQ
   replace X:=Lib.hid X
   replace Z:=Lib.hid Z
   replace V:=Lib.hid V
   replace I:=Lib.hid I
   have N:=Lib.hid (hN)
   clear hN
   have hNl:=N.out.le
   cases q with
   | error pn =>
    obtain ⟨p',n'⟩:=pn
    obtain rfl:bY = .bool false:=by
     obtain ⟨fp,hc,_⟩:=N.out.now
     have:=congrArg (fun l => l[10]?) hc;simpa using this
    obtain ⟨iI,iJ,iK,iL,iM,iO,iw,iP,pR,pU,lS⟩:=I.out.c11
    go_upto_region 33 with fail
    go_wp2_with (refine sR Z.out ?_)
    clear iI iJ iK iL iM iO iw iP pR pU lS
    generalize Us:wc.setRow _ _=aqr
    obtain ⟨X,V,I,N⟩:=f4 X V I N (eR Us)
    replace Z:=aK Z Us
    replace hbr:=tr hbr Us
    clear Us
    exact bodyPost_ret (v:=.agg #[aW,aX,aY,bf,bn,bC,bD,bF,dL,dM,.bool false]) (by simp [results,Tryz.results71,go_sem,Z.out.c11]) rfl ((by rw [HD.out];exact N.out.now.post hbr aT.out (by omega) N.out.le))
   | ok v =>
    obtain rfl:bY = .bool true:=by
     obtain ⟨_,_,_,hc,_⟩:=N.out.now
     have:=congrArg (fun l => l[10]?) hc;simpa using this
    obtain ⟨iI,iJ,iK,iL,iM,iO,iw,iP,pR,pU,lS⟩:=I.out.c11
    have dK:=V.out.e6
    have fa:=JU V 6
    have ca:=Gi (V.out.cell 6)
    go_upto_region 35 with fail
    clear fa ca
    clear iI iJ iK iL iM iO iw iP pR pU lS dK
    generalize agE:wc.alloc _=akA
    have ⟨aaN,G⟩:=bH agE
    clear agE
    have akq:=X.out.here
    have akr:=Z.out.here
    have aks:=V.out.here
    have ajp:=I.out.here
    have ajq:=N.out.le
    have aqs:=hbr.size
    obtain ⟨X,Z,V,I,N⟩:=b5 X Z V I N aaN
    replace hbr:=dT hbr aaN
    clear aaN
    generalize wc.heap.size=anA at *
    generalize Ut:akA.setCell _ _=akB
    obtain ⟨X,Z,I,G,N⟩:=f5 X Z I G N (eF Ut)
    replace V:=uf V Ut
    replace hbr:=tf hbr Ut
    clear Ut
    have aI:=X.out.e0
    obtain ⟨eH,dP,eP,eU,dY,dW,dK,eG⟩:=V.out.c8
    go_upto_region 43 with fail
    go_wp2_with fail
    clear aI eH dP eP eU dY dW dK eG
    ((with_reducible refine (oU 9 false 0 [] 0 [] [v] [] _ _ _ (oI C w akB) _ (N.out.now.one hbr aT.out (by omega) N.out.le G.out (by omega) (by unfold I64;omega) (by unfold I64;omega))).mono ?_);rintro e akC ⟨rfl,aaO⟩)
    obtain ⟨X,Z,V,I,G,N⟩:=b6 X Z V I G N aaO
    replace hbr:=dT hbr aaO
    clear aaO
    go_wp2_with (refine sR Z.out ?_)
    generalize Uu:akC.setRow _ _=aqt
    obtain ⟨X,V,I,G,N⟩:=f5 X V I G N (eR Uu)
    replace Z:=aK Z Uu
    replace hbr:=tr hbr Uu
    clear Uu
    exact bodyPost_ret (v:=.agg #[.int .i64 9,.bool false,.int .i64 0,.string ⟨#[]⟩,.int .i64 0,.slice none 0 0,.slice (some ⟨anA,0,none⟩) 1 1,.slice none 0 0,.slice none 0 0,.int .i64 0,.bool true]) (by simp [results,Tryz.results71,go_sem,Z.out.c11]) rfl ((by rw [HD.out];exact ⟨hbr,_,_,_,rfl,N.out.now.one hbr aT.out (by omega) N.out.le G.out (by omega) (by unfold I64;omega) (by unfold I64;omega)⟩))
 have HR:Hid (aG rec x (b0 :: p) path = .error (path,1)):=by show _=_;simp [aG,iq.out,h1]
 have h1i:¬ (b0.toNat:Int)=1:=by omega
 have h1n:¬ b0=1:=fun e => h1 (by rw [e];rfl)
 have h1b:(b0 != 1)=true:=by simpa using h1n
 have h1c:((b0.toNat:Int) != 1)=true:=by simpa using h1i
 have aI:=X.out.e0
 go_upto_region 30 with fail
 obtain ⟨LF,fD⟩ : ∃ n,n=(Iz).heap.size:=⟨_,rfl⟩
 have kU:=Z.out.here
 rw [← fD] at kU
 go_wp2_with fail
 clear aI
 ((with_reducible refine (gu C path _ 1 _ (by omega) PA.out.now).mono ?_);rintro e akD ⟨aaP,xu,rfl,hown⟩)
 obtain ⟨S,Z,X,V,PA⟩:=b5 S Z X V PA aaP
 replace dX:=dT dX aaP
 clear aaP
 obtain ⟨Af,cf,rfl⟩:=aF hown
 rw [← fD] at hown
 clear fD
 have FP:=Lib.hid (Kept.own hown)
 clear hown
 go_wp2_with (refine sR Z.out ?_)
 generalize Uw:akD.setRow _ _=aqu
 obtain ⟨S,X,V,PA,FP⟩:=f5 S X V PA FP (eR Uw)
 replace Z:=aK Z Uw
 replace dX:=tr dX Uw
 clear Uw
 exact bodyPost_ret (v:=.agg #[.int .i64 0,.bool false,.int .i64 0,.string ⟨#[]⟩,.int .i64 0,.slice none 0 0,.slice none 0 0,.slice none 0 0,.slice Af path.length cf,.int .i64 1,.bool false]) (by simp [results,Tryz.results71,go_sem,Z.out.c11]) rfl ((by rw [HR.out];exact ⟨dX,_,rfl,aH FP.out.now (by omega)⟩))
set_option maxRecDepth 100000 in
theorem acr (C:Nat) (tv vp:Value) (path:List Int) (p:List UInt8) (w:World) (hp:path.length=200) (hC:C≤w.heap.size) (hvp:w.ownsRow 0 3 1 vp path.length (path.map iZ)) (n:Nat) (ts:List aC) (ht:bG w C tv ts) (hn:n < ts.length) :
  Calls Tryz.prog 71 #[.agg #[tv],.int .i64 n,.string ⟨p.toArray⟩,.int .i64 ((path.length:Int)+1),vp] w (fG C w (.error (path,8))):=by
 obtain ⟨A,c,rfl,-⟩:=ht.form
 obtain ⟨b,o,rfl,hbb,hel⟩:=ht.elem (by omega)
 obtain ⟨vs,vm,hcells,hx⟩:=hel n hn
 clear hel
 obtain ⟨Ap,cp,rfl⟩:=aF hvp
 generalize ts[n]=x at *
 obtain ⟨C1,l1,C2,l2,rfl,rfl,-,-⟩:=hx.forms
 have hlt:(n:Int) < ts.length:=by omega
 have hd0:decide ((n:Int) < 0)=false:=by simp
 have hd1:decide (ts.length≤n)=false:=by simpa using hn
 have hlp:(200:Int) < (path.length:Int)+1:=by omega
 have HC:=Lib.hid hcells
 have aT:=Lib.hid hC
 have hp2:path.length≤1000:=by omega
 clear hx ht hcells hn hp
 have PA:=Lib.hid (Kept.own hvp)
 clear hvp
 go_enter Tryz.func71,Tryz.ntmps71
 go_upto_region 1 with fail
 generalize Hw:w.alloc _=Y5
 generalize Hz:Y5.alloc _=Y6
 have ⟨aaQ,S,Z⟩:=dN Hw Hz
 clear Hw Hz
 replace PA:=b1 PA aaQ
 have Dk:=aaQ
 clear aaQ
 obtain ⟨c0,c1,c2,c3,c4,c5,c6,c7,c8,c9⟩:=HC.out.below (Dk) (by omega)
 have ay:=S.out.e0
 go_upto_region 4 with fail
 clear c0 c1 c2 c3 c4 c5 c6 c7 c8 c9 hd0 hd1
 clear ay
 generalize agF:Y6.alloc _=akE
 generalize agG:akE.alloc _=akF
 have ⟨aaR,X,V⟩:=dN agF agG
 clear agF agG
 have aqv:=S.out.here
 have aju:=Z.out.here
 have ajv:=PA.out.le
 have aqw:=Dk.size
 obtain ⟨S,Z,PA⟩:=b3 S Z PA aaR
 replace Dk:=dT Dk aaR
 clear aaR
 generalize Y6.heap.size=asN at *
 go_upto_region 4 with fail
 obtain ⟨LF,fD⟩ : ∃ n,n=(akF).heap.size:=⟨_,rfl⟩
 have kU:=Z.out.here
 rw [← fD] at kU
 go_wp2_with fail
 ((with_reducible refine (gu C path _ 8 _ (by omega) PA.out.now).mono ?_);rintro e akG ⟨aaS,xu,rfl,hown⟩)
 obtain ⟨S,Z,X,V,PA⟩:=b5 S Z X V PA aaS
 replace Dk:=dT Dk aaS
 clear aaS
 obtain ⟨Af,cf,rfl⟩:=aF hown
 rw [← fD] at hown
 clear fD
 have FP:=Lib.hid (Kept.own hown)
 clear hown
 go_wp2_with (refine sR Z.out ?_)
 generalize Ux:akG.setRow _ _=aqx
 obtain ⟨S,X,V,PA,FP⟩:=f5 S X V PA FP (eR Ux)
 replace Z:=aK Z Ux
 replace Dk:=tr Dk Ux
 clear Ux
 exact bodyPost_ret (v:=.agg #[.int .i64 0,.bool false,.int .i64 0,.string ⟨#[]⟩,.int .i64 0,.slice none 0 0,.slice none 0 0,.slice none 0 0,.slice Af path.length cf,.int .i64 8,.bool false]) (by simp [results,Tryz.results71,go_sem,Z.out.c11]) rfl ((by rw [(rfl:(Except.error (path,8):fO)=Except.error (path,8))];exact ⟨Dk,_,rfl,aH FP.out.now (by omega)⟩))
theorem aey (ts:List aC) (A:Option Addr) (c C:Nat) (hs:Yo ts):∀ (lv:Nat) (path:List Int) (t:Int) (p:List UInt8) (w:World) (vp:Value),path.length+lv=200→(fB ts t).isSome=true→p.length≤800000→C≤w.heap.size →
  bG w C (.slice A ts.length c) ts→w.ownsRow 0 3 1 vp path.length (path.map iZ) →
  Calls Tryz.prog 71 #[.agg #[.slice A ts.length c],.int .i64 t,.string ⟨p.toArray⟩,.int .i64 ((path.length:Int)+1),vp] w (fG C w (decP ts lv t p path)):=by
 intro lv
 induction lv with
 | zero =>
  intro path t p w vp hl ht hp hC hT hv
  obtain ⟨n,rfl,hn,hx⟩:=AX ht
  exact acr C _ vp path p w (by omega) hC hv n ts hT hn
 | succ lv ih =>
  intro path t p w vp hl ht hp hC hT hv
  obtain ⟨n,rfl,hn,hx⟩:=AX ht
  have hP:F9 ts C (.slice A ts.length c) ((path.length:Int)+1) (decP ts lv) path:=fun W t s q vp hC hT hv ht hq => by
   have:=ih (path ++ [s]) t q W vp (by simp;omega) ht hq hC hT (by simpa using hv)
   simpa using this
  obtain ⟨hk,hml,hmm,hel,hky⟩:=hs ts[n] (List.getElem_mem hn)
  rw [decP,hx]
  simp only []
  have hlt:path.length < 200:=by omega
  have hL:0≤(path.length:Int)+1∧(path.length:Int)+1≤1000:=by omega
  rcases (show ts[n].kind=1∨ts[n].kind=2∨ts[n].kind=3∨ts[n].kind=4∨ts[n].kind=5∨ts[n].kind=6∨ts[n].kind=7∨ts[n].kind=8∨ts[n].kind=9 by omega) with h | h | h | h | h | h | h | h | h
  · exact ab8 ts A c n C vp path p _ w hn h hlt hp hC hT hv
  · exact ab9 ts A c n C vp path p _ w hn h hlt hp hC hT hv
  · exact acd ts A c n C vp path p _ w hn h hlt hp hC hT hv
  · exact ace ts A c n C vp path p _ w hn h hlt hp hC hT hv
  · exact aci ts A c n C vp path p _ w hn h hlt hp hC hT hv (fun _ W vs vm vp hC hT hx hv => Xb ts _ C _ vp path p _ _ vs vm W h hlt hL hp hC hT hx hv hP ⟨hml h,hmm⟩)
  · exact acj ts A c n C vp path p _ w hn h hlt hp hC hT hv (fun _ W vs vm vp hC hT hx hv => aah ts _ C _ vp path p _ _ vs vm W h hlt hL hp hC hT hx hv hP hmm)
  · exact acn ts A c n C vp path p _ w hn h hlt hp hC hT hv (fun _ W vs vm vp hC hT hx hv => acf ts _ C _ vp path p _ _ vs vm W h hlt hL hp hC hT hx hv hP (hel (.inl h)))
  · exact aco ts A c n C vp path p _ w hn h hlt hp hC hT hv (fun _ W vs vm vp hC hT hx hv => ach ts _ C _ vp path p _ _ vs vm W h hlt hL hp hC hT hx hv hP ⟨hky h,hel (.inr (.inr h))⟩)
  exact acp ts A c n C vp path p _ w hn h hlt hp hC hT hv hP (hel (.inr (.inl h)))
end Go.Proofs.YthkfapcadhnaeaaGreatDoor

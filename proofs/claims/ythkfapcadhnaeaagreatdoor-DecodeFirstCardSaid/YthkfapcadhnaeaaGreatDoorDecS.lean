/- payload. No condition. -/
import Derived.Test.YthkfapcadhnaeaaGreatDoorDecR
set_option maxHeartbeats 800000
namespace Go.Proofs.YthkfapcadhnaeaaGreatDoor
open Go.ChangeShapes Go.WideShapes Go.ChangeAt Go.RowKit
set_option maxRecDepth 100000 in
theorem adb
 (ts:List aC) (A:Option Addr) (c n gr:Nat) (fp:Value) (fn:Int) (path:List Int) (p:List UInt8) (rec:Int→List UInt8→List Int→fO) (w:World) (hn:n < ts.length) (hk:ts[n].kind=5) (hp:path.length < 200) (hpl:p.length≤800000)
 (R:jf w gr (.slice A ts.length c) fp fn path) (ht:bG w gr (.slice A ts.length c) ts) (iW:p.length≤800000→∀ (W:World) (fp:Value) (fn:Int) (vs vm:Value),jf W gr (.slice A ts.length c) fp fn path→bG W gr (.slice A ts.length c) ts→eX W gr ts[n] vs vm→Calls Tryz.prog 98 #[.pointer (some ⟨gr,0,none⟩),aS ts[n] vs vm,.string ⟨p.toArray⟩] W (cO gr (.slice A ts.length c) path W (aG rec ts[n] p path))) :
 Calls Tryz.prog 69 #[.pointer (some ⟨gr,0,none⟩),.int .i64 n,.string ⟨p.toArray⟩] w (cO gr (.slice A ts.length c) path w (aG rec ts[n] p path)):=by
 replace iW:=iW hpl
 obtain ⟨b,o,rfl,hbb,hel⟩:=ht.elem (by omega)
 obtain ⟨vs,vm,hcells,hx⟩:=hel n hn
 clear hel
 generalize ts[n]=x at *
 obtain ⟨C1,l1,C2,l2,rfl,rfl,-,-⟩:=hx.forms
 have hlt:(n:Int) < ts.length:=by omega
 have hd0:decide ((n:Int) < 0)=false:=by simp
 have hd1:decide (ts.length≤n)=false:=by simpa using hn
 have hlp:¬ (200:Int)≤path.length:=by omega
 have HX:=Lib.hid hx
 have HT:=Lib.hid ht
 have HC:=Lib.hid hcells
 have iq:=Lib.hid hk
 have hN:Hid (n < ts.length):=Lib.hid hn
 have hxs:=hx.lens
 clear hx ht hcells hn
 have hgr:=R.here
 replace R:=Lib.hid (jF.of R)
 have KP:=aP.refl w gr
 go_enter Tryz.func69,Tryz.ntmps69
 go_upto_region 1 with fail
 generalize dJ:w.alloc _=wd2
 have ⟨hb1,Z⟩:=bH dJ
 clear dJ
 replace R:=rB R hb1
 replace KP:=kB KP hgr hb1
 clear hb1
 obtain ⟨Ap,cp,hcp,r0,r1,-,-⟩:=R.out.at_.cells
 obtain ⟨c0,c1,c2,c3,c4,c5,c6,c7,c8,c9⟩:=HC.out.below KP.low hbb
 rw [hk] at c0
 go_upto_region 6 with fail
 clear c0 c1 c2 c3 c4 c5 c6 c7 c8 c9 r0 r1 hd0 hd1 hlp hcp
 generalize oV:wd2.alloc _=qM
 generalize yI:qM.alloc _=oW
 have ⟨hb4,X,V⟩:=dN oV yI
 clear oV yI
 have Ls:=Z.out.here
 have Pq:=KP.size
 replace Z:=b1 Z hb4
 replace R:=rB R hb4
 replace KP:=kB KP hgr hb4
 clear hb4
 generalize wd2.heap.size=g9 at *
 have uT:=Lib.hid (fun W fp fn h1 h2 h3 => iW W fp fn (.slice C1 x.syms.length l1) (.slice C2 x.aj.length l2) h1 h2 h3)
 simp only [aS,hk] at uT
 clear iW
 have hz:=Z.out.here
 obtain ⟨aI,bI,bQ,bT,bW,dD,bK,bJ,bZ,bM⟩:=X.out.c10
 go_wp2_with fail
 clear aI bI bQ bT bW dD bK bJ bZ bM
 ((with_reducible refine (uT.out _ _ _ R.out.at_ (HT.out.keep (fun _ hp => KP.low.cell hp) (Nat.le_refl _)) (HX.out.keep (fun _ hp => KP.low.cell hp) (Nat.le_refl _))).mono ?_);rintro e xJ hp)
 obtain ⟨c0,c1,c2,c3,c4,c5,c6,c7,bb,h1',rfl⟩:=hp.form
 have Z2:=ji Z hp.keep (by omega) (by decide)
 go_wp2_with (refine wpList_store_row rfl 30 _ _ rfl w.heap.size _ rfl rfl 30 _ Z2.out (by kernel_rfl) rfl (by simpa using h1') ?_)
 obtain ⟨z0,z1,z2,z3,z4,z5,z6,z7⟩:=(iU Z2.out #[c0,c1,c2,c3,c4,c5,c6,c7]).c8
 exact bodyPost_ret (v:=.tuple #[.agg #[c0,c1,c2,c3,c4,c5,c6,c7],.bool bb]) (by simp [results,Tryz.results69,go_sem,z0,z1,z2,z3,z4,z5,z6,z7]) rfl (hp.tail KP hgr (Nat.le_refl _) hz Z2.out (by decide))
set_option maxRecDepth 100000 in
theorem ade
 (ts:List aC) (A:Option Addr) (c n gr:Nat) (fp:Value) (fn:Int) (path:List Int) (p:List UInt8) (rec:Int→List UInt8→List Int→fO) (w:World) (hn:n < ts.length) (hk:ts[n].kind=6) (hp:path.length < 200) (hpl:p.length≤800000)
 (R:jf w gr (.slice A ts.length c) fp fn path) (ht:bG w gr (.slice A ts.length c) ts) (iW:p.length≤800000→∀ (W:World) (fp:Value) (fn:Int) (vs vm:Value),jf W gr (.slice A ts.length c) fp fn path→bG W gr (.slice A ts.length c) ts→eX W gr ts[n] vs vm→Calls Tryz.prog 95 #[.pointer (some ⟨gr,0,none⟩),aS ts[n] vs vm,.string ⟨p.toArray⟩] W (cO gr (.slice A ts.length c) path W (aG rec ts[n] p path))) :
 Calls Tryz.prog 69 #[.pointer (some ⟨gr,0,none⟩),.int .i64 n,.string ⟨p.toArray⟩] w (cO gr (.slice A ts.length c) path w (aG rec ts[n] p path)):=by
 replace iW:=iW hpl
 obtain ⟨b,o,rfl,hbb,hel⟩:=ht.elem (by omega)
 obtain ⟨vs,vm,hcells,hx⟩:=hel n hn
 clear hel
 generalize ts[n]=x at *
 obtain ⟨C1,l1,C2,l2,rfl,rfl,-,-⟩:=hx.forms
 have hlt:(n:Int) < ts.length:=by omega
 have hd0:decide ((n:Int) < 0)=false:=by simp
 have hd1:decide (ts.length≤n)=false:=by simpa using hn
 have hlp:¬ (200:Int)≤path.length:=by omega
 have HX:=Lib.hid hx
 have HT:=Lib.hid ht
 have HC:=Lib.hid hcells
 have iq:=Lib.hid hk
 have hN:Hid (n < ts.length):=Lib.hid hn
 have hxs:=hx.lens
 clear hx ht hcells hn
 have hgr:=R.here
 replace R:=Lib.hid (jF.of R)
 have KP:=aP.refl w gr
 go_enter Tryz.func69,Tryz.ntmps69
 go_upto_region 1 with fail
 generalize qB:w.alloc _=lD
 have ⟨o7,Z⟩:=bH qB
 clear qB
 replace R:=rB R o7
 replace KP:=kB KP hgr o7
 clear o7
 obtain ⟨Ap,cp,hcp,r0,r1,-,-⟩:=R.out.at_.cells
 obtain ⟨c0,c1,c2,c3,c4,c5,c6,c7,c8,c9⟩:=HC.out.below KP.low hbb
 rw [hk] at c0
 go_upto_region 39 with fail
 clear c0 c1 c2 c3 c4 c5 c6 c7 c8 c9 r0 r1 hd0 hd1 hlp hcp
 generalize kV:lD.alloc _=qY
 generalize kD:qY.alloc _=nS
 have ⟨kW,X,V⟩:=dN kV kD
 clear kV kD
 have Pv:=Z.out.here
 have Gf:=KP.size
 replace Z:=b1 Z kW
 replace R:=rB R kW
 replace KP:=kB KP hgr kW
 clear kW
 generalize lD.heap.size=g22 at *
 have uT:=Lib.hid (fun W fp fn h1 h2 h3 => iW W fp fn (.slice C1 x.syms.length l1) (.slice C2 x.aj.length l2) h1 h2 h3)
 simp only [aS,hk] at uT
 clear iW
 have hz:=Z.out.here
 obtain ⟨aI,bI,bQ,bT,bW,dD,bK,bJ,bZ,bM⟩:=X.out.c10
 go_wp2_with fail
 clear aI bI bQ bT bW dD bK bJ bZ bM
 ((with_reducible refine (uT.out _ _ _ R.out.at_ (HT.out.keep (fun _ hp => KP.low.cell hp) (Nat.le_refl _)) (HX.out.keep (fun _ hp => KP.low.cell hp) (Nat.le_refl _))).mono ?_);rintro e Bj hp)
 obtain ⟨c0,c1,c2,c3,c4,c5,c6,c7,bb,h1',rfl⟩:=hp.form
 have Z2:=ji Z hp.keep (by omega) (by decide)
 go_wp2_with (refine wpList_store_row rfl 30 _ _ rfl w.heap.size _ rfl rfl 30 _ Z2.out (by kernel_rfl) rfl (by simpa using h1') ?_)
 obtain ⟨z0,z1,z2,z3,z4,z5,z6,z7⟩:=(iU Z2.out #[c0,c1,c2,c3,c4,c5,c6,c7]).c8
 exact bodyPost_ret (v:=.tuple #[.agg #[c0,c1,c2,c3,c4,c5,c6,c7],.bool bb]) (by simp [results,Tryz.results69,go_sem,z0,z1,z2,z3,z4,z5,z6,z7]) rfl (hp.tail KP hgr (Nat.le_refl _) hz Z2.out (by decide))
set_option maxRecDepth 100000 in
theorem adf
 (ts:List aC) (A:Option Addr) (c n gr:Nat) (fp:Value) (fn:Int) (path:List Int) (p:List UInt8) (rec:Int→List UInt8→List Int→fO) (w:World) (hn:n < ts.length) (hk:ts[n].kind=7) (hp:path.length < 200) (hpl:p.length≤800000)
 (R:jf w gr (.slice A ts.length c) fp fn path) (ht:bG w gr (.slice A ts.length c) ts) (iW:p.length≤800000→∀ (W:World) (fp:Value) (fn:Int) (vs vm:Value),jf W gr (.slice A ts.length c) fp fn path→bG W gr (.slice A ts.length c) ts→eX W gr ts[n] vs vm→Calls Tryz.prog 96 #[.pointer (some ⟨gr,0,none⟩),aS ts[n] vs vm,.string ⟨p.toArray⟩] W (cO gr (.slice A ts.length c) path W (aG rec ts[n] p path))) :
 Calls Tryz.prog 69 #[.pointer (some ⟨gr,0,none⟩),.int .i64 n,.string ⟨p.toArray⟩] w (cO gr (.slice A ts.length c) path w (aG rec ts[n] p path)):=by
 replace iW:=iW hpl
 obtain ⟨b,o,rfl,hbb,hel⟩:=ht.elem (by omega)
 obtain ⟨vs,vm,hcells,hx⟩:=hel n hn
 clear hel
 generalize ts[n]=x at *
 obtain ⟨C1,l1,C2,l2,rfl,rfl,-,-⟩:=hx.forms
 have hlt:(n:Int) < ts.length:=by omega
 have hd0:decide ((n:Int) < 0)=false:=by simp
 have hd1:decide (ts.length≤n)=false:=by simpa using hn
 have hlp:¬ (200:Int)≤path.length:=by omega
 have HX:=Lib.hid hx
 have HT:=Lib.hid ht
 have HC:=Lib.hid hcells
 have iq:=Lib.hid hk
 have hN:Hid (n < ts.length):=Lib.hid hn
 have hxs:=hx.lens
 clear hx ht hcells hn
 have hgr:=R.here
 replace R:=Lib.hid (jF.of R)
 have KP:=aP.refl w gr
 go_enter Tryz.func69,Tryz.ntmps69
 go_upto_region 1 with fail
 generalize uU:w.alloc _=zQ
 have ⟨oK,Z⟩:=bH uU
 clear uU
 replace R:=rB R oK
 replace KP:=kB KP hgr oK
 clear oK
 obtain ⟨Ap,cp,hcp,r0,r1,-,-⟩:=R.out.at_.cells
 obtain ⟨c0,c1,c2,c3,c4,c5,c6,c7,c8,c9⟩:=HC.out.below KP.low hbb
 rw [hk] at c0
 go_upto_region 41 with fail
 clear c0 c1 c2 c3 c4 c5 c6 c7 c8 c9 r0 r1 hd0 hd1 hlp hcp
 generalize pG:zQ.alloc _=wP
 generalize mY:wP.alloc _=mW
 have ⟨wQ,X,V⟩:=dN pG mY
 clear pG mY
 have Ym:=Z.out.here
 have adg:=KP.size
 replace Z:=b1 Z wQ
 replace R:=rB R wQ
 replace KP:=kB KP hgr wQ
 clear wQ
 generalize zQ.heap.size=g35 at *
 have uT:=Lib.hid (fun W fp fn h1 h2 h3 => iW W fp fn (.slice C1 x.syms.length l1) (.slice C2 x.aj.length l2) h1 h2 h3)
 simp only [aS,hk] at uT
 clear iW
 have hz:=Z.out.here
 obtain ⟨aI,bI,bQ,bT,bW,dD,bK,bJ,bZ,bM⟩:=X.out.c10
 go_wp2_with fail
 clear aI bI bQ bT bW dD bK bJ bZ bM
 ((with_reducible refine (uT.out _ _ _ R.out.at_ (HT.out.keep (fun _ hp => KP.low.cell hp) (Nat.le_refl _)) (HX.out.keep (fun _ hp => KP.low.cell hp) (Nat.le_refl _))).mono ?_);rintro e sD hp)
 obtain ⟨c0,c1,c2,c3,c4,c5,c6,c7,bb,h1',rfl⟩:=hp.form
 have Z2:=ji Z hp.keep (by omega) (by decide)
 go_wp2_with (refine wpList_store_row rfl 30 _ _ rfl w.heap.size _ rfl rfl 30 _ Z2.out (by kernel_rfl) rfl (by simpa using h1') ?_)
 obtain ⟨z0,z1,z2,z3,z4,z5,z6,z7⟩:=(iU Z2.out #[c0,c1,c2,c3,c4,c5,c6,c7]).c8
 exact bodyPost_ret (v:=.tuple #[.agg #[c0,c1,c2,c3,c4,c5,c6,c7],.bool bb]) (by simp [results,Tryz.results69,go_sem,z0,z1,z2,z3,z4,z5,z6,z7]) rfl (hp.tail KP hgr (Nat.le_refl _) hz Z2.out (by decide))
set_option maxRecDepth 100000 in
theorem adh
 (ts:List aC) (A:Option Addr) (c n gr:Nat) (fp:Value) (fn:Int) (path:List Int) (p:List UInt8) (rec:Int→List UInt8→List Int→fO) (w:World) (hn:n < ts.length) (hk:ts[n].kind=8) (hp:path.length < 200) (hpl:p.length≤800000)
 (R:jf w gr (.slice A ts.length c) fp fn path) (ht:bG w gr (.slice A ts.length c) ts) (iW:p.length≤800000→∀ (W:World) (fp:Value) (fn:Int) (vs vm:Value),jf W gr (.slice A ts.length c) fp fn path→bG W gr (.slice A ts.length c) ts→eX W gr ts[n] vs vm→Calls Tryz.prog 97 #[.pointer (some ⟨gr,0,none⟩),aS ts[n] vs vm,.string ⟨p.toArray⟩] W (cO gr (.slice A ts.length c) path W (aG rec ts[n] p path))) :
 Calls Tryz.prog 69 #[.pointer (some ⟨gr,0,none⟩),.int .i64 n,.string ⟨p.toArray⟩] w (cO gr (.slice A ts.length c) path w (aG rec ts[n] p path)):=by
 replace iW:=iW hpl
 obtain ⟨b,o,rfl,hbb,hel⟩:=ht.elem (by omega)
 obtain ⟨vs,vm,hcells,hx⟩:=hel n hn
 clear hel
 generalize ts[n]=x at *
 obtain ⟨C1,l1,C2,l2,rfl,rfl,-,-⟩:=hx.forms
 have hlt:(n:Int) < ts.length:=by omega
 have hd0:decide ((n:Int) < 0)=false:=by simp
 have hd1:decide (ts.length≤n)=false:=by simpa using hn
 have hlp:¬ (200:Int)≤path.length:=by omega
 have HX:=Lib.hid hx
 have HT:=Lib.hid ht
 have HC:=Lib.hid hcells
 have iq:=Lib.hid hk
 have hN:Hid (n < ts.length):=Lib.hid hn
 have hxs:=hx.lens
 clear hx ht hcells hn
 have hgr:=R.here
 replace R:=Lib.hid (jF.of R)
 have KP:=aP.refl w gr
 go_enter Tryz.func69,Tryz.ntmps69
 go_upto_region 1 with fail
 generalize Jd:w.alloc _=kX
 have ⟨Md,Z⟩:=bH Jd
 clear Jd
 replace R:=rB R Md
 replace KP:=kB KP hgr Md
 clear Md
 obtain ⟨Ap,cp,hcp,r0,r1,-,-⟩:=R.out.at_.cells
 obtain ⟨c0,c1,c2,c3,c4,c5,c6,c7,c8,c9⟩:=HC.out.below KP.low hbb
 rw [hk] at c0
 go_upto_region 43 with fail
 clear c0 c1 c2 c3 c4 c5 c6 c7 c8 c9 r0 r1 hd0 hd1 hlp hcp
 generalize mF:kX.alloc _=wI
 generalize nU:wI.alloc _=wF
 have ⟨xZ,X,V⟩:=dN mF nU
 clear mF nU
 have Yn:=Z.out.here
 have Uz:=KP.size
 replace Z:=b1 Z xZ
 replace R:=rB R xZ
 replace KP:=kB KP hgr xZ
 clear xZ
 generalize kX.heap.size=g48 at *
 have uT:=Lib.hid (fun W fp fn h1 h2 h3 => iW W fp fn (.slice C1 x.syms.length l1) (.slice C2 x.aj.length l2) h1 h2 h3)
 simp only [aS,hk] at uT
 clear iW
 have hz:=Z.out.here
 obtain ⟨aI,bI,bQ,bT,bW,dD,bK,bJ,bZ,bM⟩:=X.out.c10
 go_wp2_with fail
 clear aI bI bQ bT bW dD bK bJ bZ bM
 ((with_reducible refine (uT.out _ _ _ R.out.at_ (HT.out.keep (fun _ hp => KP.low.cell hp) (Nat.le_refl _)) (HX.out.keep (fun _ hp => KP.low.cell hp) (Nat.le_refl _))).mono ?_);rintro e DL hp)
 obtain ⟨c0,c1,c2,c3,c4,c5,c6,c7,bb,h1',rfl⟩:=hp.form
 have Z2:=ji Z hp.keep (by omega) (by decide)
 go_wp2_with (refine wpList_store_row rfl 30 _ _ rfl w.heap.size _ rfl rfl 30 _ Z2.out (by kernel_rfl) rfl (by simpa using h1') ?_)
 obtain ⟨z0,z1,z2,z3,z4,z5,z6,z7⟩:=(iU Z2.out #[c0,c1,c2,c3,c4,c5,c6,c7]).c8
 exact bodyPost_ret (v:=.tuple #[.agg #[c0,c1,c2,c3,c4,c5,c6,c7],.bool bb]) (by simp [results,Tryz.results69,go_sem,z0,z1,z2,z3,z4,z5,z6,z7]) rfl (hp.tail KP hgr (Nat.le_refl _) hz Z2.out (by decide))
set_option maxRecDepth 100000 in
theorem adi (t:Int) (gr:Nat) (tv fp:Value) (fn:Int) (path:List Int) (p:List UInt8) (w:World) (hp:path.length=200) (R:jf w gr tv fp fn path) :
  Calls Tryz.prog 69 #[.pointer (some ⟨gr,0,none⟩),.int .i64 t,.string ⟨p.toArray⟩] w (cO gr tv path w (.error (path,8))):=by
 have hlp:(200:Int)≤path.length:=by omega
 have hgr:=R.here
 replace R:=Lib.hid (jF.of R)
 have KP:=aP.refl w gr
 go_enter Tryz.func69,Tryz.ntmps69
 go_upto_region 1 with fail
 generalize Je:w.alloc _=GH
 have ⟨xX,Z⟩:=bH Je
 clear Je
 replace R:=rB R xX
 replace KP:=kB KP hgr xX
 clear xX
 obtain ⟨Ap,cp,hcp,r0,r1,-,-⟩:=R.out.at_.cells
 go_upto_region 2 with fail
 clear r0 r1 hlp hcp
 have hz:=Z.out.here
 go_wp2_with fail
 ((with_reducible refine (iG gr _ _ _ path 8 _ (by omega) R.out.at_).mono ?_);rintro e Bq hp)
 obtain ⟨c0,c1,c2,c3,c4,c5,c6,c7,bb,h1',rfl⟩:=hp.form
 have Z2:=ji Z hp.keep (by omega) (by decide)
 go_wp2_with (refine wpList_store_row rfl 30 _ _ rfl w.heap.size _ rfl rfl 30 _ Z2.out (by kernel_rfl) rfl (by simpa using h1') ?_)
 obtain ⟨z0,z1,z2,z3,z4,z5,z6,z7⟩:=(iU Z2.out #[c0,c1,c2,c3,c4,c5,c6,c7]).c8
 exact bodyPost_ret (v:=.tuple #[.agg #[c0,c1,c2,c3,c4,c5,c6,c7],.bool bb]) (by simp [results,Tryz.results69,go_sem,z0,z1,z2,z3,z4,z5,z6,z7]) rfl (hp.tail KP hgr (Nat.le_refl _) hz Z2.out (by decide))
def Yo (ts:List aC):Prop := ∀ x ∈ ts,(1≤x.kind∧x.kind≤9)∧(x.kind=5→x.aj.length≤1000)∧(∀ m ∈ x.aj,(fB ts m.ty).isSome=true)∧(x.kind=7∨x.kind=9∨x.kind=8→(fB ts x.elem).isSome=true)∧(x.kind=8→(fB ts x.key).isSome=true)
theorem AX {ts:List aC} {t:Int} (h:(fB ts t).isSome=true):∃ n:Nat,t=n∧∃ hn:n < ts.length,fB ts t=some ts[n]:=by
 unfold fB at h ⊢
 split at h
 ·
  rename_i h0
  have h1:t.toNat < ts.length:=by simpa using h
  exact ⟨t.toNat,by omega,h1,by rw [if_pos h0,List.getElem?_eq_getElem h1]⟩
 cases h
theorem agJ (ts:List aC) (A:Option Addr) (c gr:Nat) (hs:Yo ts):∀ (lv:Nat) (path:List Int) (t:Int) (p:List UInt8) (w:World) (fp:Value) (fn:Int),path.length+lv=200→(fB ts t).isSome=true→p.length≤800000 →
  jf w gr (.slice A ts.length c) fp fn path→bG w gr (.slice A ts.length c) ts →
  Calls Tryz.prog 69 #[.pointer (some ⟨gr,0,none⟩),.int .i64 t,.string ⟨p.toArray⟩] w (cO gr (.slice A ts.length c) path w (decP ts lv t p path)):=by
 intro lv
 induction lv with
 | zero =>
  intro path t p w fp fn hl ht hp R hT
  exact adi t gr _ fp fn path p w (by omega) R
 | succ lv ih =>
  intro path t p w fp fn hl ht hp R hT
  obtain ⟨n,rfl,hn,hx⟩:=AX ht
  have hP:FK ts gr (.slice A ts.length c) (decP ts lv) path:=fun W fp fn s t q R hT ht hq =>
   aa9 gr _ fp fn path s t q _ W (by omega) R fun W' fp' fn' K R' => ih (path ++ [s]) t q W' fp' fn' (by simp;omega) ht hq R' (hT.keep (fun _ hp => K.low.cell hp) (Nat.le_refl _))
  obtain ⟨hk,hml,hmm,hel,hky⟩:=hs ts[n] (List.getElem_mem hn)
  rw [decP,hx]
  simp only []
  have hlt:path.length < 200:=by omega
  rcases (show ts[n].kind=1∨ts[n].kind=2∨ts[n].kind=3∨ts[n].kind=4∨ts[n].kind=5∨ts[n].kind=6∨ts[n].kind=7∨ts[n].kind=8∨ts[n].kind=9 by omega) with h | h | h | h | h | h | h | h | h
  · exact adk ts A c n gr fp fn path p _ w hn h hlt hp R hT
  · exact adl ts A c n gr fp fn path p _ w hn h hlt hp R hT
  · exact adn ts A c n gr fp fn path p _ w hn h hlt hp R hT
  · exact ado ts A c n gr fp fn path p _ w hn h hlt hp R hT
  · exact adb ts A c n gr fp fn path p _ w hn h hlt hp R hT (fun _ W fp fn vs vm R hT hx => Ye ts _ gr fp fn path p _ _ vs vm W h hlt hp R hT hx hP ⟨hml h,hmm⟩)
  · exact ade ts A c n gr fp fn path p _ w hn h hlt hp R hT (fun _ W fp fn vs vm R hT hx => abb ts _ gr fp fn path p _ _ vs vm W h hlt hp R hT hx hP hmm)
  · exact adf ts A c n gr fp fn path p _ w hn h hlt hp R hT (fun _ W fp fn vs vm R hT hx => acG ts _ gr fp fn path p _ _ vs vm W h hlt hp R hT hx hP (hel (.inl h)))
  · exact adh ts A c n gr fp fn path p _ w hn h hlt hp R hT (fun _ W fp fn vs vm R hT hx => WQ ts _ gr fp fn path p _ _ vs vm W h hlt hp R hT hx hP ⟨hky h,hel (.inr (.inr h))⟩)
  exact acA ts A c n gr fp fn path p _ w hn h hlt hp R hT hP (hel (.inr (.inl h)))
end Go.Proofs.YthkfapcadhnaeaaGreatDoor

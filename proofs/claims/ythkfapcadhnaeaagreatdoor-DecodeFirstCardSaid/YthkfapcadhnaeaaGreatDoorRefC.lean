/- Payload of the reference: kinds without parts. No condition. -/
import Derived.Test.YthkfapcadhnaeaaGreatDoorHAN
import Derived.Test.YthkfapcadhnaeaaGreatDoorDecG
set_option maxHeartbeats 800000
namespace Go.Proofs.YthkfapcadhnaeaaGreatDoor
open Go.ChangeShapes Go.WideShapes Go.ChangeAt Go.RowKit
def Old (w0:World) (C:Nat) (W:World):Prop := ∀ b,b < C→W.heap[b]?=w0.heap[b]?
theorem Old.of {w0 W:World} {C:Nat} (h:Below w0.heap.size w0 W) (hC:C≤w0.heap.size):Old w0 C W:=fun _ hb => h.block _ (Nat.lt_of_lt_of_le hb hC)
def Qr (w0:World) (C L B:Nat) (v:Val) (vk vi vr:Value) (W:World):Prop:=Old w0 C W→∃ S:Nat→Prop,jq W S v vk vi vr∧∀ k,S k→k < C∨(L≤k∧k < B)
theorem Qr.kept {w0:World} {C L B:Nat} {v:Val} {vk vi vr:Value} {W:World} {S:Nat→Prop} (h1:jq W S v vk vi vr) (h2:∀ k,S k→k < C∨(L≤k∧k < B)) (hO:Old w0 C W) (hB:B≤W.heap.size):Kept (Qr w0 C L B v vk vi vr) W L B :=
 ⟨fun _ => ⟨S,h1,h2⟩,fun w' hk hO' => ⟨S,h1.keep (fun p hp => World.cell?_of_block (by
  rcases h2 _ hp with h | h
  · exact (hO' _ h).trans (hO _ h).symm
  exact hk _ h.1 h.2)) (fun _ h => h),h2⟩,hB⟩
def jK (w0:World) (C L:Nat) (v:Value) (xs:List Val) (W:World):Prop:=Old w0 C W→∃ S:Nat→Prop,gQ W L S v xs∧∀ k,S k→k < C∨L≤k
theorem jK.nil (w0:World) (C L:Nat) (W:World):jK w0 C L (.slice none 0 0) [] W:=fun _ => ⟨_,gQ.nil W L,fun _ h => h.elim⟩
theorem oU (k:Int) (b:Bool) (n:Int) (s:List UInt8) (id:Int) (ks is:List Val) (rs:List Raw) (vk vi vr:Value) (S:Nat→Prop) (w:World) (hv:jq w S (.mk k b n s id ks is rs) vk vi vr) :
  Calls Tryz.prog 106 #[.agg #[.int .i64 k,.bool b,.int .i64 n,.string ⟨s.toArray⟩,.int .i64 id,vk,vi,vr]] w fun e w' => e = .returned (.agg #[.int .i64 k,.bool b,.int .i64 n,.string ⟨s.toArray⟩,.int .i64 id,vk,vi,vr,.slice none 0 0,.int .i64 0,.bool true])∧Below w.heap.size w w':=ad1 _ _ _ _ S w hv
theorem Ry (p:List UInt8) (w:World) (hlen:p.length≤1000000) (h:(dI p).2=0) :
  Calls Tryz.prog 99 #[.string ⟨p.toArray⟩] w fun e w' => e = .returned (.tuple #[.int .u64 (dI p).1,.bool true])∧w=w':=by
 have:=OT p w hlen
 rw [h] at this;exact this
theorem Rz (p:List UInt8) (w:World) (hlen:p.length≤1000000) (h:(dI p).2≠0) :
  Calls Tryz.prog 99 #[.string ⟨p.toArray⟩] w fun e w' => e = .returned (.tuple #[.int .u64 (dI p).1,.bool false])∧w=w':=by
 have:=OT p w hlen
 rw [show (((dI p).2:Int) == 0)=false by rw [beq_eq_false_iff_ne];omega] at this;exact this
set_option maxRecDepth 100000 in
theorem ab8
 (ts:List aC) (A:Option Addr) (c n C:Nat) (vp:Value) (path:List Int) (p:List UInt8) (rec:Int→List UInt8→List Int→fO) (w:World) (hn:n < ts.length) (hk:ts[n].kind=1) (hp:path.length < 200) (hpl:p.length≤800000)
 (hC:C≤w.heap.size) (ht:bG w C (.slice A ts.length c) ts) (hvp:w.ownsRow 0 3 1 vp path.length (path.map iZ)) :
 Calls Tryz.prog 71 #[.agg #[.slice A ts.length c],.int .i64 n,.string ⟨p.toArray⟩,.int .i64 ((path.length:Int)+1),vp] w (fG C w (aG rec ts[n] p path)):=by
 by_cases h1:p = [1]
 ·
  subst h1
  obtain ⟨b,o,rfl,hbb,hel⟩:=ht.elem (by omega)
  obtain ⟨vs,vm,hcells,hx⟩:=hel n hn
  clear hel
  obtain ⟨Ap,cp,rfl⟩:=aF hvp
  generalize ts[n]=x at *
  obtain ⟨C1,l1,C2,l2,rfl,rfl,-,-⟩:=hx.forms
  have hlt:(n:Int) < ts.length:=by omega
  have hd0:decide ((n:Int) < 0)=false:=by simp
  have hd1:decide (ts.length≤n)=false:=by simpa using hn
  have hlp:¬ (200:Int) < (path.length:Int)+1:=by omega
  have HX:=Lib.hid hx
  have HT:=Lib.hid ht
  have HC:=Lib.hid hcells
  have iq:=Lib.hid hk
  have aT:=Lib.hid hC
  have hxs:=hx.lens
  clear hx ht hcells hn
  have PA:=Lib.hid (Kept.own hvp)
  clear hvp
  go_enter Tryz.func71,Tryz.ntmps71
  go_upto_region 1 with fail
  generalize dJ:w.alloc _=wd2
  generalize jD:wd2.alloc _=wd4
  have ⟨hb1,S,Z⟩:=dN dJ jD
  clear dJ jD
  replace PA:=b1 PA hb1
  have hw6:=hb1
  clear hb1
  obtain ⟨c0,c1,c2,c3,c4,c5,c6,c7,c8,c9⟩:=HC.out.below (hw6) (by omega)
  rw [hk] at c0
  have ay:=S.out.e0
  go_upto_region 8 with fail
  clear c0 c1 c2 c3 c4 c5 c6 c7 c8 c9 hd0 hd1 hlp
  clear ay
  generalize Bc:wd4.alloc _=uJ
  generalize jZ:uJ.alloc _=kE
  have ⟨hb7,X,V⟩:=dN Bc jZ
  clear Bc jZ
  have ahT:=S.out.here
  have ahU:=Z.out.here
  have ahz:=PA.out.le
  have Yg:=hw6.size
  obtain ⟨S,Z,PA⟩:=b3 S Z PA hb7
  replace hw6:=dT hw6 hb7
  clear hb7
  generalize wd4.heap.size=g12 at *
  have dP:=V.out.e1
  have Ic:=V.out.free 1
  go_upto_region 9 with fail
  clear dP Ic
  generalize xQ:kE.setCell _ _=rE
  obtain ⟨S,Z,X,PA⟩:=f4 S Z X PA (eF xQ)
  replace V:=yC V xQ
  replace hw6:=tf hw6 xQ
  clear xQ
  have aI:=X.out.e0
  obtain ⟨eH,dP,eP,eU,dY,dW,dK,eG⟩:=V.out.c8
  go_upto_region 43 with fail
  go_wp2_with fail
  clear aI eH dP eP eU dY dW dK eG
  ((with_reducible refine (oU 1 true 0 [] 0 [] [] [] _ _ _ (fun _ => False) _ (iY _ _ _ _ _ _ _ (by unfold I64;omega) (by unfold I64;omega) (by unfold I64;omega) (by simp))).mono ?_);rintro e nY ⟨rfl,jw⟩)
  obtain ⟨S,Z,X,V,PA⟩:=b5 S Z X V PA jw
  replace hw6:=dT hw6 jw
  clear jw
  go_wp2_with (refine sR Z.out ?_)
  generalize qF:nY.setRow _ _=qj
  obtain ⟨S,X,V,PA⟩:=f4 S X V PA (eR qF)
  replace Z:=aK Z qF
  replace hw6:=tr hw6 qF
  clear qF
  exact bodyPost_ret (v:=.agg #[.int .i64 1,.bool true,.int .i64 0,.string ⟨#[]⟩,.int .i64 0,.slice none 0 0,.slice none 0 0,.slice none 0 0,.slice none 0 0,.int .i64 0,.bool true]) (by simp [results,Tryz.results71,go_sem,Z.out.c11]) rfl ((by rw [(show aG rec x [1] path = .ok (.mk 1 true 0 [] 0 [] [] []) by simp [aG,iq.out])];exact ⟨hw6,_,_,_,rfl,iY _ _ _ _ _ _ _ (by unfold I64;omega) (by unfold I64;omega) (by unfold I64;omega) (by simp)⟩))
 have h2:=Kv h1
 by_cases h0:p = []
 ·
  subst h0
  obtain ⟨b,o,rfl,hbb,hel⟩:=ht.elem (by omega)
  obtain ⟨vs,vm,hcells,hx⟩:=hel n hn
  clear hel
  obtain ⟨Ap,cp,rfl⟩:=aF hvp
  generalize ts[n]=x at *
  obtain ⟨C1,l1,C2,l2,rfl,rfl,-,-⟩:=hx.forms
  have hlt:(n:Int) < ts.length:=by omega
  have hd0:decide ((n:Int) < 0)=false:=by simp
  have hd1:decide (ts.length≤n)=false:=by simpa using hn
  have hlp:¬ (200:Int) < (path.length:Int)+1:=by omega
  have HX:=Lib.hid hx
  have HT:=Lib.hid ht
  have HC:=Lib.hid hcells
  have iq:=Lib.hid hk
  have aT:=Lib.hid hC
  have hxs:=hx.lens
  clear hx ht hcells hn
  have PA:=Lib.hid (Kept.own hvp)
  clear hvp
  go_enter Tryz.func71,Tryz.ntmps71
  go_upto_region 1 with fail
  generalize jQ:w.alloc _=kF
  generalize oJ:kF.alloc _=qZ
  have ⟨jB,S,Z⟩:=dN jQ oJ
  clear jQ oJ
  replace PA:=b1 PA jB
  have Aa:=jB
  clear jB
  obtain ⟨c0,c1,c2,c3,c4,c5,c6,c7,c8,c9⟩:=HC.out.below (Aa) (by omega)
  rw [hk] at c0
  have ay:=S.out.e0
  go_upto_region 8 with fail
  clear c0 c1 c2 c3 c4 c5 c6 c7 c8 c9 hd0 hd1 hlp
  clear ay
  generalize mO:qZ.alloc _=nX
  generalize DW:nX.alloc _=zC
  have ⟨yZ,X,V⟩:=dN mO DW
  clear mO DW
  have aik:=S.out.here
  have Ym:=Z.out.here
  have adg:=PA.out.le
  have aiu:=Aa.size
  obtain ⟨S,Z,PA⟩:=b3 S Z PA yZ
  replace Aa:=dT Aa yZ
  clear yZ
  generalize qZ.heap.size=g34 at *
  have dP:=V.out.e1
  have Ic:=V.out.free 1
  go_upto_region 9 with fail
  clear dP Ic
  generalize uY:zC.setCell _ _=MN
  obtain ⟨S,Z,X,PA⟩:=f4 S Z X PA (eF uY)
  replace V:=yC V uY
  replace Aa:=tf Aa uY
  clear uY
  have aI:=X.out.e0
  obtain ⟨eH,dP,eP,eU,dY,dW,dK,eG⟩:=V.out.c8
  go_upto_region 43 with fail
  go_wp2_with fail
  clear aI eH dP eP eU dY dW dK eG
  ((with_reducible refine (oU 1 false 0 [] 0 [] [] [] _ _ _ (fun _ => False) _ (iY _ _ _ _ _ _ _ (by unfold I64;omega) (by unfold I64;omega) (by unfold I64;omega) (by simp))).mono ?_);rintro e kX ⟨rfl,sF⟩)
  obtain ⟨S,Z,X,V,PA⟩:=b5 S Z X V PA sF
  replace Aa:=dT Aa sF
  clear sF
  go_wp2_with (refine sR Z.out ?_)
  generalize xW:kX.setRow _ _=uP
  obtain ⟨S,X,V,PA⟩:=f4 S X V PA (eR xW)
  replace Z:=aK Z xW
  replace Aa:=tr Aa xW
  clear xW
  exact bodyPost_ret (v:=.agg #[.int .i64 1,.bool false,.int .i64 0,.string ⟨#[]⟩,.int .i64 0,.slice none 0 0,.slice none 0 0,.slice none 0 0,.slice none 0 0,.int .i64 0,.bool true]) (by simp [results,Tryz.results71,go_sem,Z.out.c11]) rfl ((by rw [(show aG rec x [] path = .ok (.mk 1 false 0 [] 0 [] [] []) by simp [aG,iq.out])];exact ⟨Aa,_,_,_,rfl,iY _ _ _ _ _ _ _ (by unfold I64;omega) (by unfold I64;omega) (by unfold I64;omega) (by simp)⟩))
 have h3:=Kv h0
 have h2b:(p == [1])=false:=by simpa using h1
 have h3b:(!p.isEmpty)=true:=by cases p with | nil => exact absurd rfl h0 | cons => rfl
 obtain ⟨b,o,rfl,hbb,hel⟩:=ht.elem (by omega)
 obtain ⟨vs,vm,hcells,hx⟩:=hel n hn
 clear hel
 obtain ⟨Ap,cp,rfl⟩:=aF hvp
 generalize ts[n]=x at *
 obtain ⟨C1,l1,C2,l2,rfl,rfl,-,-⟩:=hx.forms
 have hlt:(n:Int) < ts.length:=by omega
 have hd0:decide ((n:Int) < 0)=false:=by simp
 have hd1:decide (ts.length≤n)=false:=by simpa using hn
 have hlp:¬ (200:Int) < (path.length:Int)+1:=by omega
 have HX:=Lib.hid hx
 have HT:=Lib.hid ht
 have HC:=Lib.hid hcells
 have iq:=Lib.hid hk
 have aT:=Lib.hid hC
 have hxs:=hx.lens
 clear hx ht hcells hn
 have PA:=Lib.hid (Kept.own hvp)
 clear hvp
 go_enter Tryz.func71,Tryz.ntmps71
 go_upto_region 1 with fail
 generalize nU:w.alloc _=wF
 generalize rZ:wF.alloc _=yL
 have ⟨Ns,S,Z⟩:=dN nU rZ
 clear nU rZ
 replace PA:=b1 PA Ns
 have Iu:=Ns
 clear Ns
 obtain ⟨c0,c1,c2,c3,c4,c5,c6,c7,c8,c9⟩:=HC.out.below (Iu) (by omega)
 rw [hk] at c0
 have ay:=S.out.e0
 go_upto_region 7 with fail
 clear c0 c1 c2 c3 c4 c5 c6 c7 c8 c9 hd0 hd1 hlp
 clear ay
 generalize qh:yL.alloc _=xO
 generalize Je:xO.alloc _=GH
 have ⟨IY,X,V⟩:=dN qh Je
 clear qh Je
 have UL:=S.out.here
 have XT:=Z.out.here
 have XU:=PA.out.le
 have XV:=Iu.size
 obtain ⟨S,Z,PA⟩:=b3 S Z PA IY
 replace Iu:=dT Iu IY
 clear IY
 generalize yL.heap.size=g56 at *
 have HR:Hid (aG rec x p path = .error (path,1)):=by show _=_;simp [aG,iq.out,h0,h1]
 go_upto_region 7 with fail
 obtain ⟨LF,fD⟩ : ∃ n,n=(GH).heap.size:=⟨_,rfl⟩
 have kU:=Z.out.here
 rw [← fD] at kU
 go_wp2_with fail
 ((with_reducible refine (gu C path _ 1 _ (by omega) PA.out.now).mono ?_);rintro e Ij ⟨yt,xu,rfl,hown⟩)
 obtain ⟨S,Z,X,V,PA⟩:=b5 S Z X V PA yt
 replace Iu:=dT Iu yt
 clear yt
 obtain ⟨Af,cf,rfl⟩:=aF hown
 rw [← fD] at hown
 clear fD
 have FP:=Lib.hid (Kept.own hown)
 clear hown
 go_wp2_with (refine sR Z.out ?_)
 generalize rQ:Ij.setRow _ _=MH
 obtain ⟨S,X,V,PA,FP⟩:=f5 S X V PA FP (eR rQ)
 replace Z:=aK Z rQ
 replace Iu:=tr Iu rQ
 clear rQ
 exact bodyPost_ret (v:=.agg #[.int .i64 0,.bool false,.int .i64 0,.string ⟨#[]⟩,.int .i64 0,.slice none 0 0,.slice none 0 0,.slice none 0 0,.slice Af path.length cf,.int .i64 1,.bool false]) (by simp [results,Tryz.results71,go_sem,Z.out.c11]) rfl ((by rw [HR.out];exact ⟨Iu,_,rfl,aH FP.out.now (by omega)⟩))
set_option maxRecDepth 100000 in
theorem ab9
 (ts:List aC) (A:Option Addr) (c n C:Nat) (vp:Value) (path:List Int) (p:List UInt8) (rec:Int→List UInt8→List Int→fO) (w:World) (hn:n < ts.length) (hk:ts[n].kind=2) (hp:path.length < 200) (hpl:p.length≤800000)
 (hC:C≤w.heap.size) (ht:bG w C (.slice A ts.length c) ts) (hvp:w.ownsRow 0 3 1 vp path.length (path.map iZ)) :
 Calls Tryz.prog 71 #[.agg #[.slice A ts.length c],.int .i64 n,.string ⟨p.toArray⟩,.int .i64 ((path.length:Int)+1),vp] w (fG C w (aG rec ts[n] p path)):=by
 have hu:=OL p
 by_cases h0:(dI p).2=0
 ·
  have HB:=Lib.hid (fun W => Ry p W (by omega) h0)
  have HD:Hid (∀ (x:aC),x.kind=2→aG rec x p path=(if nR (dI p).1 < x.low∨x.high < nR (dI p).1 then .error (path,2) else .ok (.mk 2 false (nR (dI p).1) [] 0 [] [] []))):=Lib.hid fun x h => by simp [aG,h,h0]
  clear h0
  generalize (dI p).1=q at *
  have hui:=Lc q hu
  have HZ:=Lib.hid (fun W => Zj q hu W)
  generalize nR (q:Int)=i at *
  obtain ⟨b,o,rfl,hbb,hel⟩:=ht.elem (by omega)
  obtain ⟨vs,vm,hcells,hx⟩:=hel n hn
  clear hel
  obtain ⟨Ap,cp,rfl⟩:=aF hvp
  generalize ts[n]=x at *
  obtain ⟨C1,l1,C2,l2,rfl,rfl,-,-⟩:=hx.forms
  have hlt:(n:Int) < ts.length:=by omega
  have hd0:decide ((n:Int) < 0)=false:=by simp
  have hd1:decide (ts.length≤n)=false:=by simpa using hn
  have hlp:¬ (200:Int) < (path.length:Int)+1:=by omega
  have HX:=Lib.hid hx
  have HT:=Lib.hid ht
  have HC:=Lib.hid hcells
  have iq:=Lib.hid hk
  have aT:=Lib.hid hC
  have hxs:=hx.lens
  clear hx ht hcells hn
  have PA:=Lib.hid (Kept.own hvp)
  clear hvp
  go_enter Tryz.func71,Tryz.ntmps71
  go_upto_region 1 with fail
  generalize Dq:w.alloc _=Gg
  generalize zX:Gg.alloc _=MO
  have ⟨Dt,S,Z⟩:=dN Dq zX
  clear Dq zX
  replace PA:=b1 PA Dt
  have oz:=Dt
  clear Dt
  obtain ⟨c0,c1,c2,c3,c4,c5,c6,c7,c8,c9⟩:=HC.out.below (oz) (by omega)
  rw [hk] at c0
  have ay:=S.out.e0
  go_upto_region 10 with fail
  clear c0 c1 c2 c3 c4 c5 c6 c7 c8 c9 hd0 hd1 hlp
  clear ay
  generalize JO:MO.alloc _=Ec
  generalize BI:Ec.alloc _=WI
  have ⟨yu,X,V⟩:=dN JO BI
  clear JO BI
  have Pz:=S.out.here
  have Qq:=Z.out.here
  have WG:=PA.out.le
  have PX:=oz.size
  obtain ⟨S,Z,PA⟩:=b3 S Z PA yu
  replace oz:=dT oz yu
  clear yu
  generalize MO.heap.size=g76 at *
  replace HD:=Lib.hid (HD.out x hk)
  have Hui:=Lib.hid hui
  clear hui hu
  go_upto_region 13 with (go_at_call 99;refine (HB.out _).mono ?_;rintro e w' ⟨rfl,rfl⟩)
  have eP:=V.out.e2
  have adP:=V.out.free 2
  go_upto_region 14 with (go_at_call 100;refine (HZ.out _).mono ?_;rintro e w' ⟨rfl,rfl⟩)
  clear eP adP
  generalize tu:WI.setCell _ _=Gh
  obtain ⟨S,Z,X,PA⟩:=f4 S Z X PA (eF tu)
  replace V:=dS2 V tu
  replace oz:=tf oz tu
  clear tu
  have eP:=V.out.e2
  obtain ⟨aI,-,bQ,bT,-,-,-,-,-,-⟩:=X.out.c10
  by_cases h1:i < x.low
  ·
   have HR:Hid (aG rec x p path = .error (path,2)):=by show _=_;rw [HD.out,if_pos (.inl h1)]
   go_upto_region 15 with fail
   obtain ⟨LF,fD⟩ : ∃ n,n=(Gh).heap.size:=⟨_,rfl⟩
   have kU:=Z.out.here
   rw [← fD] at kU
   go_wp2_with fail
   clear eP aI bQ bT
   ((with_reducible refine (gu C path _ 2 _ (by omega) PA.out.now).mono ?_);rintro e MW ⟨wC,xu,rfl,hown⟩)
   obtain ⟨S,Z,X,V,PA⟩:=b5 S Z X V PA wC
   replace oz:=dT oz wC
   clear wC
   obtain ⟨Af,cf,rfl⟩:=aF hown
   rw [← fD] at hown
   clear fD
   have FP:=Lib.hid (Kept.own hown)
   clear hown
   go_wp2_with (refine sR Z.out ?_)
   generalize tC:MW.setRow _ _=Gj
   obtain ⟨S,X,V,PA,FP⟩:=f5 S X V PA FP (eR tC)
   replace Z:=aK Z tC
   replace oz:=tr oz tC
   clear tC
   exact bodyPost_ret (v:=.agg #[.int .i64 0,.bool false,.int .i64 0,.string ⟨#[]⟩,.int .i64 0,.slice none 0 0,.slice none 0 0,.slice none 0 0,.slice Af path.length cf,.int .i64 2,.bool false]) (by simp [results,Tryz.results71,go_sem,Z.out.c11]) rfl ((by rw [HR.out];exact ⟨oz,_,rfl,aH FP.out.now (by omega)⟩))
  by_cases h2:x.high < i
  ·
   have HR:Hid (aG rec x p path = .error (path,2)):=by show _=_;rw [HD.out,if_pos (.inr h2)]
   go_upto_region 15 with fail
   obtain ⟨LF,fD⟩ : ∃ n,n=(Gh).heap.size:=⟨_,rfl⟩
   have kU:=Z.out.here
   rw [← fD] at kU
   go_wp2_with fail
   clear eP aI bQ bT
   ((with_reducible refine (gu C path _ 2 _ (by omega) PA.out.now).mono ?_);rintro e DJ ⟨Ed,xu,rfl,hown⟩)
   obtain ⟨S,Z,X,V,PA⟩:=b5 S Z X V PA Ed
   replace oz:=dT oz Ed
   clear Ed
   obtain ⟨Af,cf,rfl⟩:=aF hown
   rw [← fD] at hown
   clear fD
   have FP:=Lib.hid (Kept.own hown)
   clear hown
   go_wp2_with (refine sR Z.out ?_)
   generalize G9:DJ.setRow _ _=al9
   obtain ⟨S,X,V,PA,FP⟩:=f5 S X V PA FP (eR G9)
   replace Z:=aK Z G9
   replace oz:=tr oz G9
   clear G9
   exact bodyPost_ret (v:=.agg #[.int .i64 0,.bool false,.int .i64 0,.string ⟨#[]⟩,.int .i64 0,.slice none 0 0,.slice none 0 0,.slice none 0 0,.slice Af path.length cf,.int .i64 2,.bool false]) (by simp [results,Tryz.results71,go_sem,Z.out.c11]) rfl ((by rw [HR.out];exact ⟨oz,_,rfl,aH FP.out.now (by omega)⟩))
  have HR:Hid (aG rec x p path = .ok (.mk 2 false i [] 0 [] [] [])):=by show _=_;rw [HD.out,if_neg (by omega)]
  obtain ⟨eH,dP,-,eU,dY,dW,dK,eG⟩:=V.out.c8
  go_upto_region 43 with fail
  go_wp2_with fail
  clear eP aI bQ bT eH dP eU dY dW dK eG
  ((with_reducible refine (oU 2 false i [] 0 [] [] [] _ _ _ (fun _ => False) _ (iY _ _ _ _ _ _ _ (by unfold I64;omega) Hui.out (by unfold I64;omega) (by simp))).mono ?_);rintro e ahA ⟨rfl,DY⟩)
  obtain ⟨S,Z,X,V,PA⟩:=b5 S Z X V PA DY
  replace oz:=dT oz DY
  clear DY
  go_wp2_with (refine sR Z.out ?_)
  generalize tH:ahA.setRow _ _=PE
  obtain ⟨S,X,V,PA⟩:=f4 S X V PA (eR tH)
  replace Z:=aK Z tH
  replace oz:=tr oz tH
  clear tH
  exact bodyPost_ret (v:=.agg #[.int .i64 2,.bool false,.int .i64 i,.string ⟨#[]⟩,.int .i64 0,.slice none 0 0,.slice none 0 0,.slice none 0 0,.slice none 0 0,.int .i64 0,.bool true]) (by simp [results,Tryz.results71,go_sem,Z.out.c11]) rfl ((by rw [HR.out];exact ⟨oz,_,_,_,rfl,iY _ _ _ _ _ _ _ (by unfold I64;omega) Hui.out (by unfold I64;omega) (by simp)⟩))
 have HB:=Lib.hid (fun W => Rz p W (by omega) h0)
 have HR:Hid (∀ (x:aC),x.kind=2→aG rec x p path = .error (path,1)):=Lib.hid fun x h => by simp [aG,h,h0]
 clear h0
 generalize (dI p).1=q at *
 obtain ⟨b,o,rfl,hbb,hel⟩:=ht.elem (by omega)
 obtain ⟨vs,vm,hcells,hx⟩:=hel n hn
 clear hel
 obtain ⟨Ap,cp,rfl⟩:=aF hvp
 generalize ts[n]=x at *
 obtain ⟨C1,l1,C2,l2,rfl,rfl,-,-⟩:=hx.forms
 have hlt:(n:Int) < ts.length:=by omega
 have hd0:decide ((n:Int) < 0)=false:=by simp
 have hd1:decide (ts.length≤n)=false:=by simpa using hn
 have hlp:¬ (200:Int) < (path.length:Int)+1:=by omega
 have HX:=Lib.hid hx
 have HT:=Lib.hid ht
 have HC:=Lib.hid hcells
 have iq:=Lib.hid hk
 have aT:=Lib.hid hC
 have hxs:=hx.lens
 clear hx ht hcells hn
 have PA:=Lib.hid (Kept.own hvp)
 clear hvp
 go_enter Tryz.func71,Tryz.ntmps71
 go_upto_region 1 with fail
 generalize BA:w.alloc _=Yy
 generalize zZ:Yy.alloc _=Ji
 have ⟨aek,S,Z⟩:=dN BA zZ
 clear BA zZ
 replace PA:=b1 PA aek
 have CZ:=aek
 clear aek
 obtain ⟨c0,c1,c2,c3,c4,c5,c6,c7,c8,c9⟩:=HC.out.below (CZ) (by omega)
 rw [hk] at c0
 have ay:=S.out.e0
 go_upto_region 10 with fail
 clear c0 c1 c2 c3 c4 c5 c6 c7 c8 c9 hd0 hd1 hlp
 clear ay
 generalize af8:Ji.alloc _=ZJ
 generalize OZ:ZJ.alloc _=ZK
 have ⟨yY,X,V⟩:=dN af8 OZ
 clear af8 OZ
 have O1:=S.out.here
 have J6:=Z.out.here
 have Ol:=PA.out.le
 have Om:=CZ.size
 obtain ⟨S,Z,PA⟩:=b3 S Z PA yY
 replace CZ:=dT CZ yY
 clear yY
 generalize Ji.heap.size=aiv at *
 go_upto_region 12 with (go_at_call 99;refine (HB.out _).mono ?_;rintro e w' ⟨rfl,rfl⟩)
 go_upto_region 12 with fail
 obtain ⟨LF,fD⟩ : ∃ n,n=(ZK).heap.size:=⟨_,rfl⟩
 have kU:=Z.out.here
 rw [← fD] at kU
 go_wp2_with fail
 ((with_reducible refine (gu C path _ 1 _ (by omega) PA.out.now).mono ?_);rintro e EC ⟨ZL,xu,rfl,hown⟩)
 obtain ⟨S,Z,X,V,PA⟩:=b5 S Z X V PA ZL
 replace CZ:=dT CZ ZL
 clear ZL
 obtain ⟨Af,cf,rfl⟩:=aF hown
 rw [← fD] at hown
 clear fD
 have FP:=Lib.hid (Kept.own hown)
 clear hown
 go_wp2_with (refine sR Z.out ?_)
 generalize Cb:EC.setRow _ _=Oo
 obtain ⟨S,X,V,PA,FP⟩:=f5 S X V PA FP (eR Cb)
 replace Z:=aK Z Cb
 replace CZ:=tr CZ Cb
 clear Cb
 exact bodyPost_ret (v:=.agg #[.int .i64 0,.bool false,.int .i64 0,.string ⟨#[]⟩,.int .i64 0,.slice none 0 0,.slice none 0 0,.slice none 0 0,.slice Af path.length cf,.int .i64 1,.bool false]) (by simp [results,Tryz.results71,go_sem,Z.out.c11]) rfl ((by rw [HR.out x hk];exact ⟨CZ,_,rfl,aH FP.out.now (by omega)⟩))
set_option maxRecDepth 100000 in
theorem acd
 (ts:List aC) (A:Option Addr) (c n C:Nat) (vp:Value) (path:List Int) (p:List UInt8) (rec:Int→List UInt8→List Int→fO) (w:World) (hn:n < ts.length) (hk:ts[n].kind=3) (hp:path.length < 200) (hpl:p.length≤800000)
 (hC:C≤w.heap.size) (ht:bG w C (.slice A ts.length c) ts) (hvp:w.ownsRow 0 3 1 vp path.length (path.map iZ)) :
 Calls Tryz.prog 71 #[.agg #[.slice A ts.length c],.int .i64 n,.string ⟨p.toArray⟩,.int .i64 ((path.length:Int)+1),vp] w (fG C w (aG rec ts[n] p path)):=by
 obtain ⟨b,o,rfl,hbb,hel⟩:=ht.elem (by omega)
 obtain ⟨vs,vm,hcells,hx⟩:=hel n hn
 clear hel
 obtain ⟨Ap,cp,rfl⟩:=aF hvp
 generalize ts[n]=x at *
 obtain ⟨C1,l1,C2,l2,rfl,rfl,-,-⟩:=hx.forms
 have hlt:(n:Int) < ts.length:=by omega
 have hd0:decide ((n:Int) < 0)=false:=by simp
 have hd1:decide (ts.length≤n)=false:=by simpa using hn
 have hlp:¬ (200:Int) < (path.length:Int)+1:=by omega
 have HX:=Lib.hid hx
 have HT:=Lib.hid ht
 have HC:=Lib.hid hcells
 have iq:=Lib.hid hk
 have aT:=Lib.hid hC
 have hxs:=hx.lens
 clear hx ht hcells hn
 have PA:=Lib.hid (Kept.own hvp)
 clear hvp
 go_enter Tryz.func71,Tryz.ntmps71
 go_upto_region 1 with fail
 generalize O8:w.alloc _=BR
 generalize Oq:BR.alloc _=Yz
 have ⟨Iw,S,Z⟩:=dN O8 Oq
 clear O8 Oq
 replace PA:=b1 PA Iw
 have fP:=Iw
 clear Iw
 obtain ⟨c0,c1,c2,c3,c4,c5,c6,c7,c8,c9⟩:=HC.out.below (fP) (by omega)
 rw [hk] at c0
 have ay:=S.out.e0
 go_upto_region 17 with fail
 clear c0 c1 c2 c3 c4 c5 c6 c7 c8 c9 hd0 hd1 hlp
 clear ay
 generalize O9:Yz.alloc _=af9
 generalize Ak:af9.alloc _=J7
 have ⟨Eu,X,V⟩:=dN O9 Ak
 clear O9 Ak
 have RS:=S.out.here
 have RU:=Z.out.here
 have X6:=PA.out.le
 have ae9:=fP.size
 obtain ⟨S,Z,PA⟩:=b3 S Z PA Eu
 replace fP:=dT fP Eu
 clear Eu
 generalize Yz.heap.size=asa at *
 have aI:=X.out.e0
 have bW:=X.out.e4
 by_cases h1:x.max < p.length
 ·
  have HR:Hid (aG rec x p path = .error (path,3)):=by show _=_;simp [aG,iq.out,h1]
  go_upto_region 18 with fail
  obtain ⟨LF,fD⟩ : ∃ n,n=(J7).heap.size:=⟨_,rfl⟩
  have kU:=Z.out.here
  rw [← fD] at kU
  go_wp2_with fail
  clear aI bW
  ((with_reducible refine (gu C path _ 3 _ (by omega) PA.out.now).mono ?_);rintro e G5 ⟨Il,xu,rfl,hown⟩)
  obtain ⟨S,Z,X,V,PA⟩:=b5 S Z X V PA Il
  replace fP:=dT fP Il
  clear Il
  obtain ⟨Af,cf,rfl⟩:=aF hown
  rw [← fD] at hown
  clear fD
  have FP:=Lib.hid (Kept.own hown)
  clear hown
  go_wp2_with (refine sR Z.out ?_)
  generalize uq:G5.setRow _ _=YC
  obtain ⟨S,X,V,PA,FP⟩:=f5 S X V PA FP (eR uq)
  replace Z:=aK Z uq
  replace fP:=tr fP uq
  clear uq
  exact bodyPost_ret (v:=.agg #[.int .i64 0,.bool false,.int .i64 0,.string ⟨#[]⟩,.int .i64 0,.slice none 0 0,.slice none 0 0,.slice none 0 0,.slice Af path.length cf,.int .i64 3,.bool false]) (by simp [results,Tryz.results71,go_sem,Z.out.c11]) rfl ((by rw [HR.out];exact ⟨fP,_,rfl,aH FP.out.now (by omega)⟩))
 have HR:Hid (aG rec x p path = .ok (.mk 3 false 0 p 0 [] [] [])):=by show _=_;simp [aG,iq.out,h1]
 go_upto_region 19 with fail
 have eU:=V.out.e3
 have adQ:=V.out.free 3
 go_upto_region 20 with fail
 clear aI bW eU adQ
 generalize Aj:J7.setCell _ _=xB
 obtain ⟨S,Z,X,PA⟩:=f4 S Z X PA (eF Aj)
 replace V:=dS3 V Aj
 replace fP:=tf fP Aj
 clear Aj
 have aI:=X.out.e0
 obtain ⟨eH,dP,eP,eU,dY,dW,dK,eG⟩:=V.out.c8
 go_upto_region 43 with fail
 go_wp2_with fail
 clear aI eH dP eP eU dY dW dK eG
 ((with_reducible refine (oU 3 false 0 p 0 [] [] [] _ _ _ (fun _ => False) _ (iY _ _ _ _ _ _ _ (by unfold I64;omega) (by unfold I64;omega) (by unfold I64;omega) (by omega))).mono ?_);rintro e ZM ⟨rfl,Iy⟩)
 obtain ⟨S,Z,X,V,PA⟩:=b5 S Z X V PA Iy
 replace fP:=dT fP Iy
 clear Iy
 go_wp2_with (refine sR Z.out ?_)
 generalize CB:ZM.setRow _ _=SH
 obtain ⟨S,X,V,PA⟩:=f4 S X V PA (eR CB)
 replace Z:=aK Z CB
 replace fP:=tr fP CB
 clear CB
 exact bodyPost_ret (v:=.agg #[.int .i64 3,.bool false,.int .i64 0,.string ⟨p.toArray⟩,.int .i64 0,.slice none 0 0,.slice none 0 0,.slice none 0 0,.slice none 0 0,.int .i64 0,.bool true]) (by simp [results,Tryz.results71,go_sem,Z.out.c11]) rfl ((by rw [HR.out];exact ⟨fP,_,_,_,rfl,iY _ _ _ _ _ _ _ (by unfold I64;omega) (by unfold I64;omega) (by unfold I64;omega) (by omega)⟩))
set_option maxRecDepth 100000 in
theorem ace
 (ts:List aC) (A:Option Addr) (c n C:Nat) (vp:Value) (path:List Int) (p:List UInt8) (rec:Int→List UInt8→List Int→fO) (w:World) (hn:n < ts.length) (hk:ts[n].kind=4) (hp:path.length < 200) (hpl:p.length≤800000)
 (hC:C≤w.heap.size) (ht:bG w C (.slice A ts.length c) ts) (hvp:w.ownsRow 0 3 1 vp path.length (path.map iZ)) :
 Calls Tryz.prog 71 #[.agg #[.slice A ts.length c],.int .i64 n,.string ⟨p.toArray⟩,.int .i64 ((path.length:Int)+1),vp] w (fG C w (aG rec ts[n] p path)):=by
 have hu:=OL p
 by_cases h0:(dI p).2=0
 ·
  have HB:=Lib.hid (fun W => Ry p W (by omega) h0)
  have HD:Hid (∀ (x:aC),x.kind=4→aG rec x p path=(if (dI p).1 < 1∨1000 < (dI p).1 then .error (path,1) else if (vH x (dI p).1).isSome=false∧x.opn=false then .error (path,4) else .ok (.mk 4 false 0 [] (dI p).1 [] [] []))):=Lib.hid fun x h => by simp [aG,h,h0]
  clear h0
  generalize (dI p).1=q at *
  unfold yD at hu
  by_cases h1:q < 1
  ·
   have HR:Hid (∀ (x:aC),x.kind=4→aG rec x p path = .error (path,1)):=Lib.hid fun x h => by rw [HD.out x h,if_pos (.inl h1)]
   have h1i:(q:Int) < 1:=by omega
   clear HD
   obtain ⟨b,o,rfl,hbb,hel⟩:=ht.elem (by omega)
   obtain ⟨vs,vm,hcells,hx⟩:=hel n hn
   clear hel
   obtain ⟨Ap,cp,rfl⟩:=aF hvp
   generalize ts[n]=x at *
   obtain ⟨C1,l1,C2,l2,rfl,rfl,-,-⟩:=hx.forms
   have hlt:(n:Int) < ts.length:=by omega
   have hd0:decide ((n:Int) < 0)=false:=by simp
   have hd1:decide (ts.length≤n)=false:=by simpa using hn
   have hlp:¬ (200:Int) < (path.length:Int)+1:=by omega
   have HX:=Lib.hid hx
   have HT:=Lib.hid ht
   have HC:=Lib.hid hcells
   have iq:=Lib.hid hk
   have aT:=Lib.hid hC
   have hxs:=hx.lens
   clear hx ht hcells hn
   have PA:=Lib.hid (Kept.own hvp)
   clear hvp
   go_enter Tryz.func71,Tryz.ntmps71
   go_upto_region 1 with fail
   generalize Pg:w.alloc _=Iz
   generalize aga:Iz.alloc _=KD
   have ⟨ZN,S,Z⟩:=dN Pg aga
   clear Pg aga
   replace PA:=b1 PA ZN
   have C9:=ZN
   clear ZN
   obtain ⟨c0,c1,c2,c3,c4,c5,c6,c7,c8,c9⟩:=HC.out.below (C9) (by omega)
   rw [hk] at c0
   have ay:=S.out.e0
   go_upto_region 21 with fail
   clear c0 c1 c2 c3 c4 c5 c6 c7 c8 c9 hd0 hd1 hlp
   clear ay
   generalize Og:KD.alloc _=Yj
   generalize agb:Yj.alloc _=Ph
   have ⟨Gy,X,V⟩:=dN Og agb
   clear Og agb
   have aeN:=S.out.here
   have aeO:=Z.out.here
   have aiU:=PA.out.le
   have aiV:=C9.size
   obtain ⟨S,Z,PA⟩:=b3 S Z PA Gy
   replace C9:=dT C9 Gy
   clear Gy
   generalize KD.heap.size=asb at *
   go_upto_region 23 with (go_at_call 99;refine (HB.out _).mono ?_;rintro e w' ⟨rfl,rfl⟩)
   go_upto_region 23 with fail
   obtain ⟨LF,fD⟩ : ∃ n,n=(Ph).heap.size:=⟨_,rfl⟩
   have kU:=Z.out.here
   rw [← fD] at kU
   go_wp2_with fail
   ((with_reducible refine (gu C path _ 1 _ (by omega) PA.out.now).mono ?_);rintro e YQ ⟨ZO,xu,rfl,hown⟩)
   obtain ⟨S,Z,X,V,PA⟩:=b5 S Z X V PA ZO
   replace C9:=dT C9 ZO
   clear ZO
   obtain ⟨Af,cf,rfl⟩:=aF hown
   rw [← fD] at hown
   clear fD
   have FP:=Lib.hid (Kept.own hown)
   clear hown
   go_wp2_with (refine sR Z.out ?_)
   generalize uw:YQ.setRow _ _=yN
   obtain ⟨S,X,V,PA,FP⟩:=f5 S X V PA FP (eR uw)
   replace Z:=aK Z uw
   replace C9:=tr C9 uw
   clear uw
   exact bodyPost_ret (v:=.agg #[.int .i64 0,.bool false,.int .i64 0,.string ⟨#[]⟩,.int .i64 0,.slice none 0 0,.slice none 0 0,.slice none 0 0,.slice Af path.length cf,.int .i64 1,.bool false]) (by simp [results,Tryz.results71,go_sem,Z.out.c11]) rfl ((by rw [HR.out x hk];exact ⟨C9,_,rfl,aH FP.out.now (by omega)⟩))
  by_cases h2:1000 < q
  ·
   have HR:Hid (∀ (x:aC),x.kind=4→aG rec x p path = .error (path,1)):=Lib.hid fun x h => by rw [HD.out x h,if_pos (.inr h2)]
   have h1i:¬ (q:Int) < 1:=by omega
   have QK:(1000:Int) < q:=by omega
   clear HD
   obtain ⟨b,o,rfl,hbb,hel⟩:=ht.elem (by omega)
   obtain ⟨vs,vm,hcells,hx⟩:=hel n hn
   clear hel
   obtain ⟨Ap,cp,rfl⟩:=aF hvp
   generalize ts[n]=x at *
   obtain ⟨C1,l1,C2,l2,rfl,rfl,-,-⟩:=hx.forms
   have hlt:(n:Int) < ts.length:=by omega
   have hd0:decide ((n:Int) < 0)=false:=by simp
   have hd1:decide (ts.length≤n)=false:=by simpa using hn
   have hlp:¬ (200:Int) < (path.length:Int)+1:=by omega
   have HX:=Lib.hid hx
   have HT:=Lib.hid ht
   have HC:=Lib.hid hcells
   have iq:=Lib.hid hk
   have aT:=Lib.hid hC
   have hxs:=hx.lens
   clear hx ht hcells hn
   have PA:=Lib.hid (Kept.own hvp)
   clear hvp
   go_enter Tryz.func71,Tryz.ntmps71
   go_upto_region 1 with fail
   generalize agc:w.alloc _=ajQ
   generalize agd:ajQ.alloc _=agf
   have ⟨ZP,S,Z⟩:=dN agc agd
   clear agc agd
   replace PA:=b1 PA ZP
   have Dc:=ZP
   clear ZP
   obtain ⟨c0,c1,c2,c3,c4,c5,c6,c7,c8,c9⟩:=HC.out.below (Dc) (by omega)
   rw [hk] at c0
   have ay:=S.out.e0
   go_upto_region 21 with fail
   clear c0 c1 c2 c3 c4 c5 c6 c7 c8 c9 hd0 hd1 hlp
   clear ay
   generalize agh:agf.alloc _=ajR
   generalize Ox:ajR.alloc _=YR
   have ⟨Ey,X,V⟩:=dN agh Ox
   clear agh Ox
   have aeV:=S.out.here
   have ajb:=Z.out.here
   have apH:=PA.out.le
   have ajS:=Dc.size
   obtain ⟨S,Z,PA⟩:=b3 S Z PA Ey
   replace Dc:=dT Dc Ey
   clear Ey
   generalize agf.heap.size=amb at *
   go_upto_region 23 with (go_at_call 99;refine (HB.out _).mono ?_;rintro e w' ⟨rfl,rfl⟩)
   go_upto_region 23 with fail
   obtain ⟨LF,fD⟩ : ∃ n,n=(YR).heap.size:=⟨_,rfl⟩
   have kU:=Z.out.here
   rw [← fD] at kU
   go_wp2_with fail
   ((with_reducible refine (gu C path _ 1 _ (by omega) PA.out.now).mono ?_);rintro e NZ ⟨yT,xu,rfl,hown⟩)
   obtain ⟨S,Z,X,V,PA⟩:=b5 S Z X V PA yT
   replace Dc:=dT Dc yT
   clear yT
   obtain ⟨Af,cf,rfl⟩:=aF hown
   rw [← fD] at hown
   clear fD
   have FP:=Lib.hid (Kept.own hown)
   clear hown
   go_wp2_with (refine sR Z.out ?_)
   generalize xC:NZ.setRow _ _=J5
   obtain ⟨S,X,V,PA,FP⟩:=f5 S X V PA FP (eR xC)
   replace Z:=aK Z xC
   replace Dc:=tr Dc xC
   clear xC
   exact bodyPost_ret (v:=.agg #[.int .i64 0,.bool false,.int .i64 0,.string ⟨#[]⟩,.int .i64 0,.slice none 0 0,.slice none 0 0,.slice none 0 0,.slice Af path.length cf,.int .i64 1,.bool false]) (by simp [results,Tryz.results71,go_sem,Z.out.c11]) rfl ((by rw [HR.out x hk];exact ⟨Dc,_,rfl,aH FP.out.now (by omega)⟩))
  skip
  obtain ⟨b,o,rfl,hbb,hel⟩:=ht.elem (by omega)
  obtain ⟨vs,vm,hcells,hx⟩:=hel n hn
  clear hel
  obtain ⟨Ap,cp,rfl⟩:=aF hvp
  generalize ts[n]=x at *
  obtain ⟨C1,l1,C2,l2,rfl,rfl,-,-⟩:=hx.forms
  have hlt:(n:Int) < ts.length:=by omega
  have hd0:decide ((n:Int) < 0)=false:=by simp
  have hd1:decide (ts.length≤n)=false:=by simpa using hn
  have hlp:¬ (200:Int) < (path.length:Int)+1:=by omega
  have HX:=Lib.hid hx
  have HT:=Lib.hid ht
  have HC:=Lib.hid hcells
  have iq:=Lib.hid hk
  have aT:=Lib.hid hC
  have hxs:=hx.lens
  clear hx ht hcells hn
  have PA:=Lib.hid (Kept.own hvp)
  clear hvp
  go_enter Tryz.func71,Tryz.ntmps71
  go_upto_region 1 with fail
  generalize Em:w.alloc _=aeW
  generalize En:aeW.alloc _=JW
  have ⟨ZQ,S,Z⟩:=dN Em En
  clear Em En
  replace PA:=b1 PA ZQ
  have jr:=ZQ
  clear ZQ
  obtain ⟨c0,c1,c2,c3,c4,c5,c6,c7,c8,c9⟩:=HC.out.below (jr) (by omega)
  rw [hk] at c0
  have ay:=S.out.e0
  go_upto_region 21 with fail
  clear c0 c1 c2 c3 c4 c5 c6 c7 c8 c9 hd0 hd1 hlp
  clear ay
  generalize Ez:JW.alloc _=afe
  generalize agi:afe.alloc _=ajT
  have ⟨ZR,X,V⟩:=dN Ez agi
  clear Ez agi
  have agj:=S.out.here
  have agk:=Z.out.here
  have agl:=PA.out.le
  have ajU:=jr.size
  obtain ⟨S,Z,PA⟩:=b3 S Z PA ZR
  replace jr:=dT jr ZR
  clear ZR
  generalize JW.heap.size=asc at *
  have HD:=HD.out x hk
  rw [if_neg (by omega)] at HD
  replace HD:=Lib.hid HD
  have h1i:¬ (q:Int) < 1:=by omega
  have QK:¬ (1000:Int) < q:=by omega
  have hwr:IntKind.i64.wrap (q:Int)=q:=by rw [IntKind.wrap_i64];omega
  have HS:=Lib.hid (fun W h => WV x (.slice C1 x.syms.length l1) (.slice C2 x.aj.length l2) q W h)
  go_upto_region 24 with (go_at_call 99;refine (HB.out _).mono ?_;rintro e w' ⟨rfl,rfl⟩)
  have dY:=V.out.e4
  have adR:=V.out.free 4
  go_upto_region 25 with fail
  clear dY adR
  generalize CQ:ajT.setCell _ _=ajh
  obtain ⟨S,Z,X,PA⟩:=f4 S Z X PA (eF CQ)
  replace V:=Jk V CQ
  replace jr:=tf jr CQ
  clear CQ
  have dY:=V.out.e4
  obtain ⟨aI,bI,bQ,bT,bW,dD,bK,bJ,bZ,bM⟩:=X.out.c10
  cases hsy:vH x q with
  | some i =>
   have HR:Hid (aG rec x p path = .ok (.mk 4 false 0 [] q [] [] [])):=by show _=_;rw [HD.out,hsy];simp
   simp only [aS,hk,hsy,qU,Option.isSome_some] at HS
   clear hsy
   go_wp2_with fail
   clear dY aI bI bQ bT bW dD bK bJ bZ bM
   ((with_reducible refine (HS.out _ ((HX.out.keep (fun _ hp => (jr).cell (Nat.lt_of_lt_of_le hp aT.out)) (Nat.le_trans aT.out (jr).size)))).mono ?_);rintro e J8 ⟨rfl,Hu⟩)
   obtain ⟨S,Z,X,V,PA⟩:=b5 S Z X V PA Hu
   replace jr:=dT jr Hu
   clear Hu
   have aI:=X.out.e0
   obtain ⟨eH,dP,eP,eU,dY,dW,dK,eG⟩:=V.out.c8
   go_upto_region 43 with fail
   go_wp2_with fail
   clear aI eH dP eP eU dY dW dK eG
   ((with_reducible refine (oU 4 false 0 [] q [] [] [] _ _ _ (fun _ => False) _ (iY _ _ _ _ _ _ _ (by unfold I64;omega) (by unfold I64;omega) (by unfold I64;omega) (by simp))).mono ?_);rintro e ZT ⟨rfl,ZU⟩)
   obtain ⟨S,Z,X,V,PA⟩:=b5 S Z X V PA ZU
   replace jr:=dT jr ZU
   clear ZU
   go_wp2_with (refine sR Z.out ?_)
   generalize TT:ZT.setRow _ _=apI
   obtain ⟨S,X,V,PA⟩:=f4 S X V PA (eR TT)
   replace Z:=aK Z TT
   replace jr:=tr jr TT
   clear TT
   exact bodyPost_ret (v:=.agg #[.int .i64 4,.bool false,.int .i64 0,.string ⟨#[]⟩,.int .i64 q,.slice none 0 0,.slice none 0 0,.slice none 0 0,.slice none 0 0,.int .i64 0,.bool true]) (by simp [results,Tryz.results71,go_sem,Z.out.c11]) rfl ((by rw [HR.out];exact ⟨jr,_,_,_,rfl,iY _ _ _ _ _ _ _ (by unfold I64;omega) (by unfold I64;omega) (by unfold I64;omega) (by simp)⟩))
  | none =>
   simp only [aS,hk,hsy,qU,Option.isSome_none] at HS
   cases hop:x.opn with
   | true =>
    have HR:Hid (aG rec x p path = .ok (.mk 4 false 0 [] q [] [] [])):=by show _=_;rw [HD.out,hsy,hop];simp
    have Hop:=Lib.hid hop
    clear hsy hop
    go_wp2_with fail
    clear dY aI bI bQ bT bW dD bK bJ bZ bM
    ((with_reducible refine (HS.out _ ((HX.out.keep (fun _ hp => (jr).cell (Nat.lt_of_lt_of_le hp aT.out)) (Nat.le_trans aT.out (jr).size)))).mono ?_);rintro e apJ ⟨rfl,ZV⟩)
    obtain ⟨S,Z,X,V,PA⟩:=b5 S Z X V PA ZV
    replace jr:=dT jr ZV
    clear ZV
    have aI:=X.out.e0
    have bM:=X.out.e9
    rw [Hop.out] at bM
    obtain ⟨eH,dP,eP,eU,dY,dW,dK,eG⟩:=V.out.c8
    go_upto_region 43 with fail
    go_wp2_with fail
    clear aI bM eH dP eP eU dY dW dK eG
    ((with_reducible refine (oU 4 false 0 [] q [] [] [] _ _ _ (fun _ => False) _ (iY _ _ _ _ _ _ _ (by unfold I64;omega) (by unfold I64;omega) (by unfold I64;omega) (by simp))).mono ?_);rintro e ajV ⟨rfl,ZW⟩)
    obtain ⟨S,Z,X,V,PA⟩:=b5 S Z X V PA ZW
    replace jr:=dT jr ZW
    clear ZW
    go_wp2_with (refine sR Z.out ?_)
    generalize TU:ajV.setRow _ _=apK
    obtain ⟨S,X,V,PA⟩:=f4 S X V PA (eR TU)
    replace Z:=aK Z TU
    replace jr:=tr jr TU
    clear TU
    exact bodyPost_ret (v:=.agg #[.int .i64 4,.bool false,.int .i64 0,.string ⟨#[]⟩,.int .i64 q,.slice none 0 0,.slice none 0 0,.slice none 0 0,.slice none 0 0,.int .i64 0,.bool true]) (by simp [results,Tryz.results71,go_sem,Z.out.c11]) rfl ((by rw [HR.out];exact ⟨jr,_,_,_,rfl,iY _ _ _ _ _ _ _ (by unfold I64;omega) (by unfold I64;omega) (by unfold I64;omega) (by simp)⟩))
   | false =>
    have HR:Hid (aG rec x p path = .error (path,4)):=by show _=_;rw [HD.out,hsy,hop];simp
    have Hop:=Lib.hid hop
    clear hsy hop
    go_wp2_with fail
    clear dY aI bI bQ bT bW dD bK bJ bZ bM
    ((with_reducible refine (HS.out _ ((HX.out.keep (fun _ hp => (jr).cell (Nat.lt_of_lt_of_le hp aT.out)) (Nat.le_trans aT.out (jr).size)))).mono ?_);rintro e J9 ⟨rfl,ZX⟩)
    obtain ⟨S,Z,X,V,PA⟩:=b5 S Z X V PA ZX
    replace jr:=dT jr ZX
    clear ZX
    have aI:=X.out.e0
    have bM:=X.out.e9
    rw [Hop.out] at bM
    go_upto_region 27 with fail
    obtain ⟨LF,fD⟩ : ∃ n,n=(J9).heap.size:=⟨_,rfl⟩
    have kU:=Z.out.here
    rw [← fD] at kU
    go_wp2_with fail
    clear aI bM
    ((with_reducible refine (gu C path _ 4 _ (by omega) PA.out.now).mono ?_);rintro e SX ⟨IB,xu,rfl,hown⟩)
    obtain ⟨S,Z,X,V,PA⟩:=b5 S Z X V PA IB
    replace jr:=dT jr IB
    clear IB
    obtain ⟨Af,cf,rfl⟩:=aF hown
    rw [← fD] at hown
    clear fD
    have FP:=Lib.hid (Kept.own hown)
    clear hown
    go_wp2_with (refine sR Z.out ?_)
    generalize oO:SX.setRow _ _=SY
    obtain ⟨S,X,V,PA,FP⟩:=f5 S X V PA FP (eR oO)
    replace Z:=aK Z oO
    replace jr:=tr jr oO
    clear oO
    exact bodyPost_ret (v:=.agg #[.int .i64 0,.bool false,.int .i64 0,.string ⟨#[]⟩,.int .i64 0,.slice none 0 0,.slice none 0 0,.slice none 0 0,.slice Af path.length cf,.int .i64 4,.bool false]) (by simp [results,Tryz.results71,go_sem,Z.out.c11]) rfl ((by rw [HR.out];exact ⟨jr,_,rfl,aH FP.out.now (by omega)⟩))
 have HB:=Lib.hid (fun W => Rz p W (by omega) h0)
 have HR:Hid (∀ (x:aC),x.kind=4→aG rec x p path = .error (path,1)):=Lib.hid fun x h => by simp [aG,h,h0]
 clear h0
 generalize (dI p).1=q at *
 obtain ⟨b,o,rfl,hbb,hel⟩:=ht.elem (by omega)
 obtain ⟨vs,vm,hcells,hx⟩:=hel n hn
 clear hel
 obtain ⟨Ap,cp,rfl⟩:=aF hvp
 generalize ts[n]=x at *
 obtain ⟨C1,l1,C2,l2,rfl,rfl,-,-⟩:=hx.forms
 have hlt:(n:Int) < ts.length:=by omega
 have hd0:decide ((n:Int) < 0)=false:=by simp
 have hd1:decide (ts.length≤n)=false:=by simpa using hn
 have hlp:¬ (200:Int) < (path.length:Int)+1:=by omega
 have HX:=Lib.hid hx
 have HT:=Lib.hid ht
 have HC:=Lib.hid hcells
 have iq:=Lib.hid hk
 have aT:=Lib.hid hC
 have hxs:=hx.lens
 clear hx ht hcells hn
 have PA:=Lib.hid (Kept.own hvp)
 clear hvp
 go_enter Tryz.func71,Tryz.ntmps71
 go_upto_region 1 with fail
 generalize Pj:w.alloc _=ZY
 generalize agm:ZY.alloc _=Pm
 have ⟨IC,S,Z⟩:=dN Pj agm
 clear Pj agm
 replace PA:=b1 PA IC
 have Df:=IC
 clear IC
 obtain ⟨c0,c1,c2,c3,c4,c5,c6,c7,c8,c9⟩:=HC.out.below (Df) (by omega)
 rw [hk] at c0
 have ay:=S.out.e0
 go_upto_region 21 with fail
 clear c0 c1 c2 c3 c4 c5 c6 c7 c8 c9 hd0 hd1 hlp
 clear ay
 generalize agn:Pm.alloc _=ajW
 generalize agp:ajW.alloc _=ajX
 have ⟨Z5,X,V⟩:=dN agn agp
 clear agn agp
 have ajY:=S.out.here
 have ajZ:=Z.out.here
 have aj0:=PA.out.le
 have aj1:=Df.size
 obtain ⟨S,Z,PA⟩:=b3 S Z PA Z5
 replace Df:=dT Df Z5
 clear Z5
 generalize Pm.heap.size=ase at *
 go_upto_region 23 with (go_at_call 99;refine (HB.out _).mono ?_;rintro e w' ⟨rfl,rfl⟩)
 go_upto_region 23 with fail
 obtain ⟨LF,fD⟩ : ∃ n,n=(ajX).heap.size:=⟨_,rfl⟩
 have kU:=Z.out.here
 rw [← fD] at kU
 go_wp2_with fail
 ((with_reducible refine (gu C path _ 1 _ (by omega) PA.out.now).mono ?_);rintro e afC ⟨EU,xu,rfl,hown⟩)
 obtain ⟨S,Z,X,V,PA⟩:=b5 S Z X V PA EU
 replace Df:=dT Df EU
 clear EU
 obtain ⟨Af,cf,rfl⟩:=aF hown
 rw [← fD] at hown
 clear fD
 have FP:=Lib.hid (Kept.own hown)
 clear hown
 go_wp2_with (refine sR Z.out ?_)
 generalize TV:afC.setRow _ _=ajn
 obtain ⟨S,X,V,PA,FP⟩:=f5 S X V PA FP (eR TV)
 replace Z:=aK Z TV
 replace Df:=tr Df TV
 clear TV
 exact bodyPost_ret (v:=.agg #[.int .i64 0,.bool false,.int .i64 0,.string ⟨#[]⟩,.int .i64 0,.slice none 0 0,.slice none 0 0,.slice none 0 0,.slice Af path.length cf,.int .i64 1,.bool false]) (by simp [results,Tryz.results71,go_sem,Z.out.c11]) rfl ((by rw [HR.out x hk];exact ⟨Df,_,rfl,aH FP.out.now (by omega)⟩))
end Go.Proofs.YthkfapcadhnaeaaGreatDoor

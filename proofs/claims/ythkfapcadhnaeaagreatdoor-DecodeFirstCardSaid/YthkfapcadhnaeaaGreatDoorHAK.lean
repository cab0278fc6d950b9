/- payload: kinds without parts. payload: enums. A region that draws whose last operations may spoil what its loads read: loads first, S shown anew behind all but those last ones. No condition. -/
import Derived.Test.YthkfapcadhnaeaaGreatDoorHAJ
import Derived.Test.YthkfapcadhnaeaaGreatDoorHAI
set_option maxHeartbeats 800000
namespace Go.Proofs.YthkfapcadhnaeaaGreatDoor
open Go.ChangeShapes Go.WideShapes Go.ChangeAt Go.RowKit
theorem Kv {p:List UInt8} {q:List UInt8} (h:¬ p=q):¬ ({ data:=p.toArray } : ByteArray) = { data:=q.toArray }:=fun e => h (by injection e with e;simpa using congrArg Array.toList e)
set_option maxRecDepth 100000 in
theorem adk
 (ts:List aC) (A:Option Addr) (c n gr:Nat) (fp:Value) (fn:Int) (path:List Int) (p:List UInt8) (rec:Int→List UInt8→List Int→fO) (w:World) (hn:n < ts.length) (hk:ts[n].kind=1) (hp:path.length < 200) (hpl:p.length≤800000)
 (R:jf w gr (.slice A ts.length c) fp fn path) (ht:bG w gr (.slice A ts.length c) ts) :
 Calls Tryz.prog 69 #[.pointer (some ⟨gr,0,none⟩),.int .i64 n,.string ⟨p.toArray⟩] w (cO gr (.slice A ts.length c) path w (aG rec ts[n] p path)):=by
 obtain ⟨b,o,rfl,hbb,hel⟩:=ht.elem (by omega)
 obtain ⟨vs,vm,hcells,hx⟩:=hel n hn
 clear hel
 generalize ts[n]=x at *
 obtain ⟨C1,l1,C2,l2,rfl,rfl,-,-⟩:=hx.forms
 have hlt:(n:Int) < ts.length:=by omega
 have hd0:decide ((n:Int) < 0)=false:=by simp
 have hd1:decide (ts.length≤n)=false:=by simpa using hn
 have hlp:¬ (200:Int)≤path.length:=by omega
 have HX:=Lib.hid hx
 have HT:=Lib.hid ht
 have HC:=Lib.hid hcells
 have iq:=Lib.hid hk
 have hN:Hid (n < ts.length):=Lib.hid hn
 have hxs:=hx.lens
 clear hx ht hcells hn
 have hgr:=R.here
 replace R:=Lib.hid (jF.of R)
 have KP:=aP.refl w gr
 go_enter Tryz.func69,Tryz.ntmps69
 go_upto_region 1 with fail
 generalize dJ:w.alloc _=wd2
 have ⟨hb1,Z⟩:=bH dJ
 clear dJ
 replace R:=rB R hb1
 replace KP:=kB KP hgr hb1
 clear hb1
 obtain ⟨Ap,cp,hcp,r0,r1,-,-⟩:=R.out.at_.cells
 obtain ⟨c0,c1,c2,c3,c4,c5,c6,c7,c8,c9⟩:=HC.out.below KP.low hbb
 rw [hk] at c0
 go_upto_region 8 with fail
 clear c0 c1 c2 c3 c4 c5 c6 c7 c8 c9 r0 r1 hd0 hd1 hlp hcp
 generalize oV:wd2.alloc _=qM
 generalize yI:qM.alloc _=oW
 have ⟨hb4,X,V⟩:=dN oV yI
 clear oV yI
 have Ls:=Z.out.here
 have Pq:=KP.size
 replace Z:=b1 Z hb4
 replace R:=rB R hb4
 replace KP:=kB KP hgr hb4
 clear hb4
 generalize wd2.heap.size=g9 at *
 by_cases h1:p = [1]
 ·
  subst h1
  have dP:=V.out.e1
  have Ic:=V.out.free 1
  go_upto_region 9 with fail
  clear dP Ic
  generalize lU:oW.setCell _ _=xJ
  obtain ⟨Z,X⟩:=f2 Z X (eF lU)
  replace R:=rF R V lU.symm (by decide) (by omega)
  replace KP:=kS KP hgr lU.symm (by omega)
  replace V:=yC V lU
  clear lU
  have dP:=V.out.e1
  go_upto_region 44 with fail
  obtain ⟨eH,-,eP,eU,dY,dW,dK,eG⟩:=V.out.c8
  go_wp2_with (refine sR Z.out ?_)
  clear dP eH eP eU dY dW dK eG
  generalize ng:xJ.setRow _ _=xP
  obtain ⟨X,V⟩:=f2 X V (eR ng)
  replace R:=rR R Z ng.symm (by decide) (by omega)
  replace KP:=oZ KP hgr ng.symm (by omega)
  replace Z:=aK Z ng
  clear ng
  exact bodyPost_ret (v:=.tuple #[.agg #[.int .i64 1,.bool true,.int .i64 0,.string ⟨#[]⟩,.int .i64 0,.slice none 0 0,.slice none 0 0,.slice none 0 0],.bool true]) (by simp [results,Tryz.results69,go_sem,Z.out.c8]) rfl (cO.good (v:=.mk 1 true 0 [] 0 [] [] []) (by simp [aG,iq.out]) R KP (iY _ _ _ _ _ _ _ (by unfold I64;omega) (by unfold I64;omega) (by unfold I64;omega) (by simp)))
 have h2:=Kv h1
 by_cases h0:p = []
 ·
  subst h0
  have dP:=V.out.e1
  have Ic:=V.out.free 1
  go_upto_region 9 with fail
  clear dP Ic
  generalize mZ:oW.setCell _ _=qH
  obtain ⟨Z,X⟩:=f2 Z X (eF mZ)
  replace R:=rF R V mZ.symm (by decide) (by omega)
  replace KP:=kS KP hgr mZ.symm (by omega)
  replace V:=yC V mZ
  clear mZ
  have dP:=V.out.e1
  go_upto_region 44 with fail
  obtain ⟨eH,-,eP,eU,dY,dW,dK,eG⟩:=V.out.c8
  go_wp2_with (refine sR Z.out ?_)
  clear dP eH eP eU dY dW dK eG
  generalize kV:qH.setRow _ _=qY
  obtain ⟨X,V⟩:=f2 X V (eR kV)
  replace R:=rR R Z kV.symm (by decide) (by omega)
  replace KP:=oZ KP hgr kV.symm (by omega)
  replace Z:=aK Z kV
  clear kV
  exact bodyPost_ret (v:=.tuple #[.agg #[.int .i64 1,.bool false,.int .i64 0,.string ⟨#[]⟩,.int .i64 0,.slice none 0 0,.slice none 0 0,.slice none 0 0],.bool true]) (by simp [results,Tryz.results69,go_sem,Z.out.c8]) rfl (cO.good (v:=.mk 1 false 0 [] 0 [] [] []) (by simp [aG,iq.out]) R KP (iY _ _ _ _ _ _ _ (by unfold I64;omega) (by unfold I64;omega) (by unfold I64;omega) (by simp)))
 have h3:=Kv h0
 have h2b:(p == [1])=false:=by simpa using h1
 have h3b:(!p.isEmpty)=true:=by cases p with | nil => exact absurd rfl h0 | cons => rfl
 have HR:Hid (aG rec x p path = .error (path,1)):=by show _=_;simp [aG,iq.out,h0,h1]
 have dP:=V.out.e1
 have Ic:=V.out.free 1
 go_upto_region 9 with fail
 clear dP Ic
 generalize kD:oW.setCell _ _=nS
 obtain ⟨Z,X⟩:=f2 Z X (eF kD)
 replace R:=rF R V kD.symm (by decide) (by omega)
 replace KP:=kS KP hgr kD.symm (by omega)
 replace V:=yC V kD
 clear kD
 have dP:=V.out.e1
 go_upto_region 10 with fail
 have hz:=Z.out.here
 go_wp2_with fail
 clear dP
 ((with_reducible refine (iG gr _ _ _ path 1 _ (by omega) R.out.at_).mono ?_);rintro e rC hp)
 obtain ⟨c0,c1,c2,c3,c4,c5,c6,c7,bb,h1',rfl⟩:=hp.form
 have Z2:=ji Z hp.keep (by omega) (by decide)
 go_wp2_with (refine wpList_store_row rfl 30 _ _ rfl w.heap.size _ rfl rfl 30 _ Z2.out (by kernel_rfl) rfl (by simpa using h1') ?_)
 obtain ⟨z0,z1,z2,z3,z4,z5,z6,z7⟩:=(iU Z2.out #[c0,c1,c2,c3,c4,c5,c6,c7]).c8
 exact bodyPost_ret (v:=.tuple #[.agg #[c0,c1,c2,c3,c4,c5,c6,c7],.bool bb]) (by simp [results,Tryz.results69,go_sem,z0,z1,z2,z3,z4,z5,z6,z7]) rfl (by rw [HR.out];exact hp.tail KP hgr (Nat.le_refl _) hz Z2.out (by decide))
theorem Q8:∀ (l:List UInt8) (n k:Nat),n < 256 ^ k→zl l n < 256 ^ (k+l.length)
 | [],n,k,h => h
 | b :: r,n,k,h => by
  have hb:=b.toNat_lt
  have h1:n*256+b.toNat < 256 ^ (k+1):=by rw [Nat.pow_succ];omega
  have:=Q8 r _ _ h1
  rw [zl,List.length_cons,show k+(r.length+1)=k+1+r.length by omega];exact this
theorem OL (l:List UInt8):yD (dI l).1:=by
 unfold dI yD
 split
 · decide
 split
 · decide
 have h:=Q8 l 0 0 (by decide)
 have h8:256 ^ (0+l.length)≤256 ^ 8:=Nat.pow_le_pow_right (by omega) (by omega)
 have e:(256:Nat) ^ 8=18446744073709551616:=by decide
 show zl l 0 < _
 omega
set_option maxRecDepth 100000 in
theorem adl
 (ts:List aC) (A:Option Addr) (c n gr:Nat) (fp:Value) (fn:Int) (path:List Int) (p:List UInt8) (rec:Int→List UInt8→List Int→fO) (w:World) (hn:n < ts.length) (hk:ts[n].kind=2) (hp:path.length < 200) (hpl:p.length≤800000)
 (R:jf w gr (.slice A ts.length c) fp fn path) (ht:bG w gr (.slice A ts.length c) ts) :
 Calls Tryz.prog 69 #[.pointer (some ⟨gr,0,none⟩),.int .i64 n,.string ⟨p.toArray⟩] w (cO gr (.slice A ts.length c) path w (aG rec ts[n] p path)):=by
 have HB:=Lib.hid (fun W => La p W (by omega))
 have hu:=OL p
 have HD:Hid (∀ (x:aC),x.kind=2→aG rec x p path=(if (dI p).2≠0 then .error (path,1) else if nR (dI p).1 < x.low∨x.high < nR (dI p).1 then .error (path,2) else .ok (.mk 2 false (nR (dI p).1) [] 0 [] [] []))):=Lib.hid fun x h => by simp [aG,h]
 generalize dI p=g at *
 obtain ⟨q,er⟩:=g
 obtain ⟨b,o,rfl,hbb,hel⟩:=ht.elem (by omega)
 obtain ⟨vs,vm,hcells,hx⟩:=hel n hn
 clear hel
 generalize ts[n]=x at *
 obtain ⟨C1,l1,C2,l2,rfl,rfl,-,-⟩:=hx.forms
 have hlt:(n:Int) < ts.length:=by omega
 have hd0:decide ((n:Int) < 0)=false:=by simp
 have hd1:decide (ts.length≤n)=false:=by simpa using hn
 have hlp:¬ (200:Int)≤path.length:=by omega
 have HX:=Lib.hid hx
 have HT:=Lib.hid ht
 have HC:=Lib.hid hcells
 have iq:=Lib.hid hk
 have hN:Hid (n < ts.length):=Lib.hid hn
 have hxs:=hx.lens
 clear hx ht hcells hn
 have hgr:=R.here
 replace R:=Lib.hid (jF.of R)
 have KP:=aP.refl w gr
 go_enter Tryz.func69,Tryz.ntmps69
 go_upto_region 1 with fail
 generalize MQ:w.alloc _=Bj
 have ⟨IX,Z⟩:=bH MQ
 clear MQ
 replace R:=rB R IX
 replace KP:=kB KP hgr IX
 clear IX
 obtain ⟨Ap,cp,hcp,r0,r1,-,-⟩:=R.out.at_.cells
 obtain ⟨c0,c1,c2,c3,c4,c5,c6,c7,c8,c9⟩:=HC.out.below KP.low hbb
 rw [hk] at c0
 go_upto_region 12 with fail
 clear c0 c1 c2 c3 c4 c5 c6 c7 c8 c9 r0 r1 hd0 hd1 hlp hcp
 generalize uU:Bj.alloc _=zQ
 generalize mO:zQ.alloc _=nX
 have ⟨oK,X,V⟩:=dN uU mO
 clear uU mO
 have PK:=Z.out.here
 have XP:=KP.size
 replace Z:=b1 Z oK
 replace R:=rB R oK
 replace KP:=kB KP hgr oK
 clear oK
 generalize Bj.heap.size=g32 at *
 have HD:=HD.out x hk
 by_cases h0:er=0
 ·
  subst h0
  have hui:=Lc q hu
  have HZ:=Lib.hid (fun W => abI q hu W)
  simp only [ne_eq,not_true_eq_false,if_false] at HD
  generalize nR (q:Int)=i at *
  replace HD:=Lib.hid HD
  have Hui:=Lib.hid hui
  clear hui hu
  go_upto_region 15 with (go_at_call 92;refine (HB.out _).mono ?_;rintro e w' ⟨rfl,rfl⟩)
  have eP:=V.out.e2
  have adP:=V.out.free 2
  go_upto_region 16 with (go_at_call 93;refine (HZ.out _).mono ?_;rintro e w' ⟨rfl,rfl⟩)
  clear eP adP
  generalize yc:nX.setCell _ _=uO
  obtain ⟨Z,X⟩:=f2 Z X (eF yc)
  replace R:=rF R V yc.symm (by decide) (by omega)
  replace KP:=kS KP hgr yc.symm (by omega)
  replace V:=dS2 V yc
  clear yc
  have eP:=V.out.e2
  have bQ:=X.out.e2
  have bT:=X.out.e3
  by_cases h1:i < x.low
  ·
   have HR:Hid (aG rec x p path = .error (path,2)):=by show _=_;rw [HD.out,if_pos (.inl h1)]
   go_upto_region 17 with fail
   have hz:=Z.out.here
   go_wp2_with fail
   clear eP bQ bT
   ((with_reducible refine (iG gr _ _ _ path 2 _ (by omega) R.out.at_).mono ?_);rintro e Fg hp)
   obtain ⟨c0,c1,c2,c3,c4,c5,c6,c7,bb,h1',rfl⟩:=hp.form
   have Z2:=ji Z hp.keep (by omega) (by decide)
   go_wp2_with (refine wpList_store_row rfl 30 _ _ rfl w.heap.size _ rfl rfl 30 _ Z2.out (by kernel_rfl) rfl (by simpa using h1') ?_)
   obtain ⟨z0,z1,z2,z3,z4,z5,z6,z7⟩:=(iU Z2.out #[c0,c1,c2,c3,c4,c5,c6,c7]).c8
   exact bodyPost_ret (v:=.tuple #[.agg #[c0,c1,c2,c3,c4,c5,c6,c7],.bool bb]) (by simp [results,Tryz.results69,go_sem,z0,z1,z2,z3,z4,z5,z6,z7]) rfl (by rw [HR.out];exact hp.tail KP hgr (Nat.le_refl _) hz Z2.out (by decide))
  by_cases h2:x.high < i
  ·
   have HR:Hid (aG rec x p path = .error (path,2)):=by show _=_;rw [HD.out,if_pos (.inr h2)]
   go_upto_region 17 with fail
   have hz:=Z.out.here
   go_wp2_with fail
   clear eP bQ bT
   ((with_reducible refine (iG gr _ _ _ path 2 _ (by omega) R.out.at_).mono ?_);rintro e MN hp)
   obtain ⟨c0,c1,c2,c3,c4,c5,c6,c7,bb,h1',rfl⟩:=hp.form
   have Z2:=ji Z hp.keep (by omega) (by decide)
   go_wp2_with (refine wpList_store_row rfl 30 _ _ rfl w.heap.size _ rfl rfl 30 _ Z2.out (by kernel_rfl) rfl (by simpa using h1') ?_)
   obtain ⟨z0,z1,z2,z3,z4,z5,z6,z7⟩:=(iU Z2.out #[c0,c1,c2,c3,c4,c5,c6,c7]).c8
   exact bodyPost_ret (v:=.tuple #[.agg #[c0,c1,c2,c3,c4,c5,c6,c7],.bool bb]) (by simp [results,Tryz.results69,go_sem,z0,z1,z2,z3,z4,z5,z6,z7]) rfl (by rw [HR.out];exact hp.tail KP hgr (Nat.le_refl _) hz Z2.out (by decide))
  have HR:Hid (aG rec x p path = .ok (.mk 2 false i [] 0 [] [] [])):=by show _=_;rw [HD.out,if_neg (by omega)]
  go_upto_region 44 with fail
  obtain ⟨eH,dP,-,eU,dY,dW,dK,eG⟩:=V.out.c8
  go_wp2_with (refine sR Z.out ?_)
  clear eP bQ bT eH dP eU dY dW dK eG
  generalize Jd:uO.setRow _ _=kX
  obtain ⟨X,V⟩:=f2 X V (eR Jd)
  replace R:=rR R Z Jd.symm (by decide) (by omega)
  replace KP:=oZ KP hgr Jd.symm (by omega)
  replace Z:=aK Z Jd
  clear Jd
  exact bodyPost_ret (v:=.tuple #[.agg #[.int .i64 2,.bool false,.int .i64 i,.string ⟨#[]⟩,.int .i64 0,.slice none 0 0,.slice none 0 0,.slice none 0 0],.bool true]) (by simp [results,Tryz.results69,go_sem,Z.out.c8]) rfl (cO.good (v:=.mk 2 false i [] 0 [] [] []) HR.out R KP (iY _ _ _ _ _ _ _ (by unfold I64;omega) Hui.out (by unfold I64;omega) (by simp)))
 have HR:Hid (aG rec x p path = .error (path,1)):=by show _=_;rw [HD,if_pos h0]
 have h0i:¬ (er:Int)=0:=by omega
 clear HD
 go_upto_region 14 with (go_at_call 92;refine (HB.out _).mono ?_;rintro e w' ⟨rfl,rfl⟩)
 go_upto_region 14 with fail
 have hz:=Z.out.here
 go_wp2_with fail
 ((with_reducible refine (iG gr _ _ _ path 1 _ (by omega) R.out.at_).mono ?_);rintro e uP hp)
 obtain ⟨c0,c1,c2,c3,c4,c5,c6,c7,bb,h1',rfl⟩:=hp.form
 have Z2:=ji Z hp.keep (by omega) (by decide)
 go_wp2_with (refine wpList_store_row rfl 30 _ _ rfl w.heap.size _ rfl rfl 30 _ Z2.out (by kernel_rfl) rfl (by simpa using h1') ?_)
 obtain ⟨z0,z1,z2,z3,z4,z5,z6,z7⟩:=(iU Z2.out #[c0,c1,c2,c3,c4,c5,c6,c7]).c8
 exact bodyPost_ret (v:=.tuple #[.agg #[c0,c1,c2,c3,c4,c5,c6,c7],.bool bb]) (by simp [results,Tryz.results69,go_sem,z0,z1,z2,z3,z4,z5,z6,z7]) rfl (by rw [HR.out];exact hp.tail KP hgr (Nat.le_refl _) hz Z2.out (by decide))
set_option maxRecDepth 100000 in
theorem adn
 (ts:List aC) (A:Option Addr) (c n gr:Nat) (fp:Value) (fn:Int) (path:List Int) (p:List UInt8) (rec:Int→List UInt8→List Int→fO) (w:World) (hn:n < ts.length) (hk:ts[n].kind=3) (hp:path.length < 200) (hpl:p.length≤800000)
 (R:jf w gr (.slice A ts.length c) fp fn path) (ht:bG w gr (.slice A ts.length c) ts) :
 Calls Tryz.prog 69 #[.pointer (some ⟨gr,0,none⟩),.int .i64 n,.string ⟨p.toArray⟩] w (cO gr (.slice A ts.length c) path w (aG rec ts[n] p path)):=by
 obtain ⟨b,o,rfl,hbb,hel⟩:=ht.elem (by omega)
 obtain ⟨vs,vm,hcells,hx⟩:=hel n hn
 clear hel
 generalize ts[n]=x at *
 obtain ⟨C1,l1,C2,l2,rfl,rfl,-,-⟩:=hx.forms
 have hlt:(n:Int) < ts.length:=by omega
 have hd0:decide ((n:Int) < 0)=false:=by simp
 have hd1:decide (ts.length≤n)=false:=by simpa using hn
 have hlp:¬ (200:Int)≤path.length:=by omega
 have HX:=Lib.hid hx
 have HT:=Lib.hid ht
 have HC:=Lib.hid hcells
 have iq:=Lib.hid hk
 have hN:Hid (n < ts.length):=Lib.hid hn
 have hxs:=hx.lens
 clear hx ht hcells hn
 have hgr:=R.here
 replace R:=Lib.hid (jF.of R)
 have KP:=aP.refl w gr
 go_enter Tryz.func69,Tryz.ntmps69
 go_upto_region 1 with fail
 generalize nU:w.alloc _=wF
 have ⟨Ns,Z⟩:=bH nU
 clear nU
 replace R:=rB R Ns
 replace KP:=kB KP hgr Ns
 clear Ns
 obtain ⟨Ap,cp,hcp,r0,r1,-,-⟩:=R.out.at_.cells
 obtain ⟨c0,c1,c2,c3,c4,c5,c6,c7,c8,c9⟩:=HC.out.below KP.low hbb
 rw [hk] at c0
 go_upto_region 19 with fail
 clear c0 c1 c2 c3 c4 c5 c6 c7 c8 c9 r0 r1 hd0 hd1 hlp hcp
 generalize FC:wF.alloc _=G7
 generalize Fj:G7.alloc _=DL
 have ⟨hb48,X,V⟩:=dN FC Fj
 clear FC Fj
 have Fa:=Z.out.here
 have IZ:=KP.size
 replace Z:=b1 Z hb48
 replace R:=rB R hb48
 replace KP:=kB KP hgr hb48
 clear hb48
 generalize wF.heap.size=g53 at *
 have bW:=X.out.e4
 by_cases h1:x.max < p.length
 ·
  have HR:Hid (aG rec x p path = .error (path,3)):=by show _=_;simp [aG,iq.out,h1]
  go_upto_region 20 with fail
  have hz:=Z.out.here
  go_wp2_with fail
  clear bW
  ((with_reducible refine (iG gr _ _ _ path 3 _ (by omega) R.out.at_).mono ?_);rintro e Bq hp)
  obtain ⟨c0,c1,c2,c3,c4,c5,c6,c7,bb,h1',rfl⟩:=hp.form
  have Z2:=ji Z hp.keep (by omega) (by decide)
  go_wp2_with (refine wpList_store_row rfl 30 _ _ rfl w.heap.size _ rfl rfl 30 _ Z2.out (by kernel_rfl) rfl (by simpa using h1') ?_)
  obtain ⟨z0,z1,z2,z3,z4,z5,z6,z7⟩:=(iU Z2.out #[c0,c1,c2,c3,c4,c5,c6,c7]).c8
  exact bodyPost_ret (v:=.tuple #[.agg #[c0,c1,c2,c3,c4,c5,c6,c7],.bool bb]) (by simp [results,Tryz.results69,go_sem,z0,z1,z2,z3,z4,z5,z6,z7]) rfl (by rw [HR.out];exact hp.tail KP hgr (Nat.le_refl _) hz Z2.out (by decide))
 have HR:Hid (aG rec x p path = .ok (.mk 3 false 0 p 0 [] [] [])):=by show _=_;simp [aG,iq.out,h1]
 go_upto_region 21 with fail
 have eU:=V.out.e3
 have adQ:=V.out.free 3
 go_upto_region 44 with fail
 clear bW eU adQ
 generalize kH:DL.setCell _ _=oL
 obtain ⟨Z,X⟩:=f2 Z X (eF kH)
 replace R:=rF R V kH.symm (by decide) (by omega)
 replace KP:=kS KP hgr kH.symm (by omega)
 replace V:=dS3 V kH
 clear kH
 go_upto_region 44 with fail
 obtain ⟨eH,dP,eP,eU,dY,dW,dK,eG⟩:=V.out.c8
 go_wp2_with (refine sR Z.out ?_)
 clear eH dP eP eU dY dW dK eG
 generalize vg:oL.setRow _ _=zW
 obtain ⟨X,V⟩:=f2 X V (eR vg)
 replace R:=rR R Z vg.symm (by decide) (by omega)
 replace KP:=oZ KP hgr vg.symm (by omega)
 replace Z:=aK Z vg
 clear vg
 exact bodyPost_ret (v:=.tuple #[.agg #[.int .i64 3,.bool false,.int .i64 0,.string ⟨p.toArray⟩,.int .i64 0,.slice none 0 0,.slice none 0 0,.slice none 0 0],.bool true]) (by simp [results,Tryz.results69,go_sem,Z.out.c8]) rfl (cO.good (v:=.mk 3 false 0 p 0 [] [] []) HR.out R KP (iY _ _ _ _ _ _ _ (by unfold I64;omega) (by unfold I64;omega) (by unfold I64;omega) (by omega)))
end Go.Proofs.YthkfapcadhnaeaaGreatDoor
namespace Go.Proofs.YthkfapcadhnaeaaGreatDoor
open Go.ChangeShapes Go.WideShapes Go.ChangeAt Go.RowKit
set_option maxRecDepth 100000 in
theorem ado
 (ts:List aC) (A:Option Addr) (c n gr:Nat) (fp:Value) (fn:Int) (path:List Int) (p:List UInt8) (rec:Int→List UInt8→List Int→fO) (w:World) (hn:n < ts.length) (hk:ts[n].kind=4) (hp:path.length < 200) (hpl:p.length≤800000)
 (R:jf w gr (.slice A ts.length c) fp fn path) (ht:bG w gr (.slice A ts.length c) ts) :
 Calls Tryz.prog 69 #[.pointer (some ⟨gr,0,none⟩),.int .i64 n,.string ⟨p.toArray⟩] w (cO gr (.slice A ts.length c) path w (aG rec ts[n] p path)):=by
 have HB:=Lib.hid (fun W => La p W (by omega))
 have hu:=OL p
 have HD:Hid (∀ (x:aC),x.kind=4→aG rec x p path=(if (dI p).2≠0∨(dI p).1 < 1∨1000 < (dI p).1 then .error (path,1) else if (vH x (dI p).1).isSome=false∧x.opn=false then .error (path,4) else .ok (.mk 4 false 0 [] (dI p).1 [] [] []))):=Lib.hid fun x h => by simp [aG,h]
 generalize dI p=g at *
 obtain ⟨q,er⟩:=g
 obtain ⟨b,o,rfl,hbb,hel⟩:=ht.elem (by omega)
 obtain ⟨vs,vm,hcells,hx⟩:=hel n hn
 clear hel
 generalize ts[n]=x at *
 obtain ⟨C1,l1,C2,l2,rfl,rfl,-,-⟩:=hx.forms
 have hlt:(n:Int) < ts.length:=by omega
 have hd0:decide ((n:Int) < 0)=false:=by simp
 have hd1:decide (ts.length≤n)=false:=by simpa using hn
 have hlp:¬ (200:Int)≤path.length:=by omega
 have HX:=Lib.hid hx
 have HT:=Lib.hid ht
 have HC:=Lib.hid hcells
 have iq:=Lib.hid hk
 have hN:Hid (n < ts.length):=Lib.hid hn
 have hxs:=hx.lens
 clear hx ht hcells hn
 have hgr:=R.here
 replace R:=Lib.hid (jF.of R)
 have KP:=aP.refl w gr
 go_enter Tryz.func69,Tryz.ntmps69
 go_upto_region 1 with fail
 generalize dJ:w.alloc _=wd2
 have ⟨hb1,Z⟩:=bH dJ
 clear dJ
 replace R:=rB R hb1
 replace KP:=kB KP hgr hb1
 clear hb1
 obtain ⟨Ap,cp,hcp,r0,r1,-,-⟩:=R.out.at_.cells
 obtain ⟨c0,c1,c2,c3,c4,c5,c6,c7,c8,c9⟩:=HC.out.below KP.low hbb
 rw [hk] at c0
 go_upto_region 23 with fail
 clear c0 c1 c2 c3 c4 c5 c6 c7 c8 c9 r0 r1 hd0 hd1 hlp hcp
 generalize oV:wd2.alloc _=qM
 generalize yI:qM.alloc _=oW
 have ⟨hb4,X,V⟩:=dN oV yI
 clear oV yI
 have Ls:=Z.out.here
 have Pq:=KP.size
 replace Z:=b1 Z hb4
 replace R:=rB R hb4
 replace KP:=kB KP hgr hb4
 clear hb4
 generalize wd2.heap.size=g9 at *
 have HD:=HD.out x hk
 unfold yD at hu
 by_cases h0:er=0
 ·
  subst h0
  by_cases h1:q < 1
  ·
   have HR:Hid (aG rec x p path = .error (path,1)):=by show _=_;rw [HD,if_pos (.inr (.inl h1))]
   have h1i:(q:Int) < 1:=by omega
   clear HD
   go_upto_region 25 with (go_at_call 92;refine (HB.out _).mono ?_;rintro e w' ⟨rfl,rfl⟩)
   go_upto_region 25 with fail
   have hz:=Z.out.here
   go_wp2_with fail
   ((with_reducible refine (iG gr _ _ _ path 1 _ (by omega) R.out.at_).mono ?_);rintro e xJ hp)
   obtain ⟨c0,c1,c2,c3,c4,c5,c6,c7,bb,h1',rfl⟩:=hp.form
   have Z2:=ji Z hp.keep (by omega) (by decide)
   go_wp2_with (refine wpList_store_row rfl 30 _ _ rfl w.heap.size _ rfl rfl 30 _ Z2.out (by kernel_rfl) rfl (by simpa using h1') ?_)
   obtain ⟨z0,z1,z2,z3,z4,z5,z6,z7⟩:=(iU Z2.out #[c0,c1,c2,c3,c4,c5,c6,c7]).c8
   exact bodyPost_ret (v:=.tuple #[.agg #[c0,c1,c2,c3,c4,c5,c6,c7],.bool bb]) (by simp [results,Tryz.results69,go_sem,z0,z1,z2,z3,z4,z5,z6,z7]) rfl (by rw [HR.out];exact hp.tail KP hgr (Nat.le_refl _) hz Z2.out (by decide))
  by_cases h2:1000 < q
  ·
   have HR:Hid (aG rec x p path = .error (path,1)):=by show _=_;rw [HD,if_pos (.inr (.inr h2))]
   have h1i:¬ (q:Int) < 1:=by omega
   have QK:(1000:Int) < q:=by omega
   clear HD
   go_upto_region 25 with (go_at_call 92;refine (HB.out _).mono ?_;rintro e w' ⟨rfl,rfl⟩)
   go_upto_region 25 with fail
   have hz:=Z.out.here
   go_wp2_with fail
   ((with_reducible refine (iG gr _ _ _ path 1 _ (by omega) R.out.at_).mono ?_);rintro e xP hp)
   obtain ⟨c0,c1,c2,c3,c4,c5,c6,c7,bb,h1',rfl⟩:=hp.form
   have Z2:=ji Z hp.keep (by omega) (by decide)
   go_wp2_with (refine wpList_store_row rfl 30 _ _ rfl w.heap.size _ rfl rfl 30 _ Z2.out (by kernel_rfl) rfl (by simpa using h1') ?_)
   obtain ⟨z0,z1,z2,z3,z4,z5,z6,z7⟩:=(iU Z2.out #[c0,c1,c2,c3,c4,c5,c6,c7]).c8
   exact bodyPost_ret (v:=.tuple #[.agg #[c0,c1,c2,c3,c4,c5,c6,c7],.bool bb]) (by simp [results,Tryz.results69,go_sem,z0,z1,z2,z3,z4,z5,z6,z7]) rfl (by rw [HR.out];exact hp.tail KP hgr (Nat.le_refl _) hz Z2.out (by decide))
  rw [if_neg (by simp;omega)] at HD
  replace HD:=Lib.hid HD
  have h1i:¬ (q:Int) < 1:=by omega
  have QK:¬ (1000:Int) < q:=by omega
  have hwr:IntKind.i64.wrap (q:Int)=q:=by rw [IntKind.wrap_i64];omega
  have HS:=Lib.hid (fun W h => Zg x (.slice C1 x.syms.length l1) (.slice C2 x.aj.length l2) q W h)
  go_upto_region 26 with (go_at_call 92;refine (HB.out _).mono ?_;rintro e w' ⟨rfl,rfl⟩)
  have dY:=V.out.e4
  have adR:=V.out.free 4
  go_upto_region 27 with fail
  clear dY adR
  generalize mZ:oW.setCell _ _=qH
  obtain ⟨Z,X⟩:=f2 Z X (eF mZ)
  replace R:=rF R V mZ.symm (by decide) (by omega)
  replace KP:=kS KP hgr mZ.symm (by omega)
  replace V:=Jk V mZ
  clear mZ
  have dY:=V.out.e4
  obtain ⟨aI,bI,bQ,bT,bW,dD,bK,bJ,bZ,bM⟩:=X.out.c10
  cases hsy:vH x q with
  | some i =>
   have HR:Hid (aG rec x p path = .ok (.mk 4 false 0 [] q [] [] [])):=by show _=_;rw [HD.out,hsy];simp
   simp only [aS,hk,hsy,qU,Option.isSome_some] at HS
   clear hsy
   go_wp2_with fail
   clear dY aI bI bQ bT bW dD bK bJ bZ bM
   ((with_reducible refine (HS.out _ (HX.out.keep (fun _ hp => KP.low.cell hp) (Nat.le_of_lt (Nat.lt_of_lt_of_le hgr KP.size)))).mono ?_);rintro e qY ⟨rfl,pz⟩)
   obtain ⟨Z,X,V⟩:=b3 Z X V pz
   replace R:=rB R pz
   replace KP:=kB KP hgr pz
   clear pz
   go_upto_region 44 with fail
   obtain ⟨eH,dP,eP,eU,dY,dW,dK,eG⟩:=V.out.c8
   go_wp2_with (refine sR Z.out ?_)
   clear eH dP eP eU dY dW dK eG
   generalize kD:qY.setRow _ _=nS
   obtain ⟨X,V⟩:=f2 X V (eR kD)
   replace R:=rR R Z kD.symm (by decide) (by omega)
   replace KP:=oZ KP hgr kD.symm (by omega)
   replace Z:=aK Z kD
   clear kD
   exact bodyPost_ret (v:=.tuple #[.agg #[.int .i64 4,.bool false,.int .i64 0,.string ⟨#[]⟩,.int .i64 q,.slice none 0 0,.slice none 0 0,.slice none 0 0],.bool true]) (by simp [results,Tryz.results69,go_sem,Z.out.c8]) rfl (cO.good (v:=.mk 4 false 0 [] q [] [] []) HR.out R KP (iY _ _ _ _ _ _ _ (by unfold I64;omega) (by unfold I64;omega) (by unfold I64;omega) (by simp)))
  | none =>
   simp only [aS,hk,hsy,qU,Option.isSome_none] at HS
   cases hop:x.opn with
   | true =>
    have HR:Hid (aG rec x p path = .ok (.mk 4 false 0 [] q [] [] [])):=by show _=_;rw [HD.out,hsy,hop];simp
    have Hop:=Lib.hid hop
    clear hsy hop
    go_wp2_with fail
    clear dY aI bI bQ bT bW dD bK bJ bZ bM
    ((with_reducible refine (HS.out _ (HX.out.keep (fun _ hp => KP.low.cell hp) (Nat.le_of_lt (Nat.lt_of_lt_of_le hgr KP.size)))).mono ?_);rintro e rC ⟨rfl,jB⟩)
    obtain ⟨Z,X,V⟩:=b3 Z X V jB
    replace R:=rB R jB
    replace KP:=kB KP hgr jB
    clear jB
    have bM:=X.out.e9
    rw [Hop.out] at bM
    go_upto_region 44 with fail
    obtain ⟨eH,dP,eP,eU,dY,dW,dK,eG⟩:=V.out.c8
    go_wp2_with (refine sR Z.out ?_)
    clear bM eH dP eP eU dY dW dK eG
    generalize jQ:rC.setRow _ _=kF
    obtain ⟨X,V⟩:=f2 X V (eR jQ)
    replace R:=rR R Z jQ.symm (by decide) (by omega)
    replace KP:=oZ KP hgr jQ.symm (by omega)
    replace Z:=aK Z jQ
    clear jQ
    exact bodyPost_ret (v:=.tuple #[.agg #[.int .i64 4,.bool false,.int .i64 0,.string ⟨#[]⟩,.int .i64 q,.slice none 0 0,.slice none 0 0,.slice none 0 0],.bool true]) (by simp [results,Tryz.results69,go_sem,Z.out.c8]) rfl (cO.good (v:=.mk 4 false 0 [] q [] [] []) HR.out R KP (iY _ _ _ _ _ _ _ (by unfold I64;omega) (by unfold I64;omega) (by unfold I64;omega) (by simp)))
   | false =>
    have HR:Hid (aG rec x p path = .error (path,4)):=by show _=_;rw [HD.out,hsy,hop];simp
    have Hop:=Lib.hid hop
    clear hsy hop
    go_wp2_with fail
    clear dY aI bI bQ bT bW dD bK bJ bZ bM
    ((with_reducible refine (HS.out _ (HX.out.keep (fun _ hp => KP.low.cell hp) (Nat.le_of_lt (Nat.lt_of_lt_of_le hgr KP.size)))).mono ?_);rintro e qZ ⟨rfl,oK⟩)
    obtain ⟨Z,X,V⟩:=b3 Z X V oK
    replace R:=rB R oK
    replace KP:=kB KP hgr oK
    clear oK
    have bM:=X.out.e9
    rw [Hop.out] at bM
    go_upto_region 29 with fail
    have hz:=Z.out.here
    go_wp2_with fail
    clear bM
    ((with_reducible refine (iG gr _ _ _ path 4 _ (by omega) R.out.at_).mono ?_);rintro e zQ hp)
    obtain ⟨c0,c1,c2,c3,c4,c5,c6,c7,bb,h1',rfl⟩:=hp.form
    have Z2:=ji Z hp.keep (by omega) (by decide)
    go_wp2_with (refine wpList_store_row rfl 30 _ _ rfl w.heap.size _ rfl rfl 30 _ Z2.out (by kernel_rfl) rfl (by simpa using h1') ?_)
    obtain ⟨z0,z1,z2,z3,z4,z5,z6,z7⟩:=(iU Z2.out #[c0,c1,c2,c3,c4,c5,c6,c7]).c8
    exact bodyPost_ret (v:=.tuple #[.agg #[c0,c1,c2,c3,c4,c5,c6,c7],.bool bb]) (by simp [results,Tryz.results69,go_sem,z0,z1,z2,z3,z4,z5,z6,z7]) rfl (by rw [HR.out];exact hp.tail KP hgr (Nat.le_refl _) hz Z2.out (by decide))
 have HR:Hid (aG rec x p path = .error (path,1)):=by show _=_;rw [HD,if_pos (.inl h0)]
 have h0i:¬ (er:Int)=0:=by omega
 clear HD
 go_upto_region 25 with (go_at_call 92;refine (HB.out _).mono ?_;rintro e w' ⟨rfl,rfl⟩)
 go_upto_region 25 with fail
 have hz:=Z.out.here
 go_wp2_with fail
 ((with_reducible refine (iG gr _ _ _ path 1 _ (by omega) R.out.at_).mono ?_);rintro e nX hp)
 obtain ⟨c0,c1,c2,c3,c4,c5,c6,c7,bb,h1',rfl⟩:=hp.form
 have Z2:=ji Z hp.keep (by omega) (by decide)
 go_wp2_with (refine wpList_store_row rfl 30 _ _ rfl w.heap.size _ rfl rfl 30 _ Z2.out (by kernel_rfl) rfl (by simpa using h1') ?_)
 obtain ⟨z0,z1,z2,z3,z4,z5,z6,z7⟩:=(iU Z2.out #[c0,c1,c2,c3,c4,c5,c6,c7]).c8
 exact bodyPost_ret (v:=.tuple #[.agg #[c0,c1,c2,c3,c4,c5,c6,c7],.bool bb]) (by simp [results,Tryz.results69,go_sem,z0,z1,z2,z3,z4,z5,z6,z7]) rfl (by rw [HR.out];exact hp.tail KP hgr (Nat.le_refl _) hz Z2.out (by decide))
end Go.Proofs.YthkfapcadhnaeaaGreatDoor
namespace Go.Proofs.YthkfapcadhnaeaaGreatDoor
open Go.ChangeShapes Go.WideShapes Go.ChangeAt Go.RowKit
section
variable {P:Program} {ops:Array Oper} {Q:Exit→Act→World→Prop} {md:Region.Mode} {S:World→Prop} {T:Nat→Bool}
def oH (P:Program) (md:Region.Mode) (ops:Array Oper) (Q:Exit→Act→World→Prop) (S:World→Prop) (T:Nat→Bool):Nat→Array Bool→Act→World→Prop
 | 0,listed,a,w => Region.ready md ops listed = []∧Q .normal a w
 | f+1,listed,a,w => (Region.ready md ops listed = []→Q .normal a w) ∧
  ∀ i ∈ Region.ready md ops listed,wpOp P ops Q i (fun a' w' => (T i=false→S w')∧oH P md ops Q S T f (listed.setIfInBounds i true) a' w') a w
theorem OM:∀ (f:Nat) (listed:Array Bool) (a:Act) (w:World),oH P md ops Q S T f listed a w→wpAny P md ops Q f listed a w
 | 0,_,_,_,h => h
 | f+1,_,_,_,h => ⟨h.1,fun i hi => wpOp_mono (fun a' w' h' => OM f _ a' w' h'.2) (h.2 i hi)⟩
theorem abU {i j:Nat} {listed:Array Bool} (hr:i ∈ Region.ready md ops listed) (hj:j ∈ Region.ready md ops listed) {oj:Oper} (hoj:ops[j]?=some oj):∀ e ∈ oj.after,Region.binds md e=true→e.on≠i:=fun e he hb heq => by
 obtain ⟨_,o2,ho2,hall⟩:=mem_ready.1 hj
 obtain rfl:oj=o2:=by rw [hoj] at ho2;injection ho2
 have h1:=hall e he hb
 have h0:=(mem_ready.1 hr).1
 rw [heq] at h1
 rcases Nat.lt_or_ge i listed.size with h' | h'
 · simp [h'] at h0 h1;rw [h0] at h1;cases h1
 simp [Array.getElem?_eq_none h'] at h1
theorem V5 {i:Nat} {oi:Oper} {v:Value} (hi:ops[i]?=some oi) (hsel:∀ (j:Nat) (o:Oper) cs b,ops[j]?=some o→o.op≠.select cs b)
  (hQ:∀ c a w,Q (.panic c) (a.put oi.dst v) w→Q (.panic c) a w) (hT:∀ j oj,ops[j]?=some oj→T j=true→∃ e ∈ oj.after,Region.binds md e=true∧e.on=i) :
  ∀ (f:Nat) (listed:Array Bool) (a:Act) (w:World),
   (∀ j oj,ops[j]?=some oj→j≠i→listed.getD j true=false→(∀ e ∈ oj.after,Region.binds md e=true→e.on≠i)→oi.apart ops oj=true) →
   i ∈ Region.ready md ops listed→YieldsIf P ops S oi v a→S w →
   oH P md ops Q S T f (listed.setIfInBounds i true) (a.put oi.dst v) w→oH P md ops Q S T (f+1) listed a w:=by
 intro f
 induction f with
 | zero =>
  intro listed a w _ hr hy hS H
  refine ⟨fun h => (by rw [h] at hr;cases hr),fun j hj => ?_⟩
  by_cases hji:j=i
  · subst hji;exact hy.wpOp hi hS ⟨fun _ => hS,H⟩
  have:=ready_mono hj hji
  rw [H.1] at this;cases this
 | succ f ih =>
  intro listed a w hfree hr hy hS H
  refine ⟨fun h => (by rw [h] at hr;cases hr),fun j hj => ?_⟩
  by_cases hji:j=i
  · subst hji;exact hy.wpOp hi hS ⟨fun _ => hS,H⟩
  have h1:=H.2 j (ready_mono hj hji)
  obtain ⟨hjun,oj,hoj,_⟩:=mem_ready.1 hj
  have hnot:=abU hr hj hoj
  have hTj:T j=false:=by
   cases hq:T j with
   | false => rfl
   | true => obtain ⟨e,he,hb,hon⟩:=hT j oj hoj hq;exact absurd hon (hnot e he hb)
  have h2:=wpOp_putIf hoj (hfree j oj hoj hji hjun hnot) (fun cs b => hsel i oi cs b hi) (fun cs b => hsel j oj cs b hoj) hQ hy h1
  have hfree':∀ k ok,ops[k]?=some ok→k≠i→(listed.setIfInBounds j true).getD k true=false→(∀ e ∈ ok.after,Region.binds md e=true→e.on≠i)→oi.apart ops ok=true:=fun k ok hk hki hun hno => by
   refine hfree k ok hk hki ?_ hno
   by_cases hjk:j=k
   · subst hjk;exact hjun
   rw [getD_set_ne true hjk] at hun;exact hun
  refine wpOp_mono (fun a' w' h3 => ⟨h3.2.1,ih (listed.setIfInBounds j true) a' w' hfree' (ready_mono hr (Ne.symm hji)) h3.1 (h3.2.1 hTj) ?_⟩) h2
  rw [Array.setIfInBounds_comm _ _ hji]
  exact h3.2.2
def lastB (md:Region.Mode) (ops:Array Oper) (T:Nat→Bool) (i:Nat):Bool :=
 (List.range ops.size).all fun j => !T j || match ops[j]? with | some oj => oj.after.any (fun e => Region.binds md e && e.on == i) | none => true
theorem Zl {i:Nat} (h:lastB md ops T i=true):∀ j oj,ops[j]?=some oj→T j=true→∃ e ∈ oj.after,Region.binds md e=true∧e.on=i:=fun j oj hj hT => by
 simp only [lastB,List.all_eq_true,List.mem_range] at h
 have h1:=h j (Array.getElem?_eq_some_iff.1 hj).1
 simp only [hT,hj,Bool.not_true,Bool.false_or] at h1
 obtain ⟨e,he,hb⟩:=Array.any_eq_true'.1 h1
 simp only [Bool.and_eq_true,beq_iff_eq] at hb
 exact ⟨e,he,hb.1,hb.2⟩
theorem wW {id:Nat} {a:Act} {w:World} (T:Nat→Bool) (hm:P.follows .mixedOrders=true) (hS:S w.drew)
  (h:S w.drew→oH P .any ops Q S T ops.size (Array.replicate ops.size false) a w.drew):(Code.region id ops true).wp P Q a w :=
 wp_region_any hm (OM _ _ _ _ (h hS))
variable {f:Nat} {listed:Array Bool} {a:Act} {w:World} {oi:Oper}
theorem lC {i:Nat} {v:Value} (r:oH P md ops Q S T f (listed.setIfInBounds i true) (a.put oi.dst v) w) (hi:ops[i]?=some oi:=by rfl) (y:∀ w,S w→(execOp a.eval oi).run P w = .ok (.value v) w:=by (intro w hS;(try dsimp only at hS);go_simp;(first | done | with_reducible rfl)))
  (h1:Region.noSelect ops=true:=by kernel_rfl) (h2:Region.free md ops listed i=true:=by kernel_rfl) (h3:(Region.ready md ops listed).contains i=true:=by kernel_rfl) (h7:lastB md ops T i=true:=by kernel_rfl)
  (h4:∀ c a w,Q (.panic c) (a.put oi.dst v) w→Q (.panic c) a w:=by exact fun _ _ _ h => h) (h5:Region.wanted oi (yielded ops a.tmps)=true:=by rfl) (h6:S w:=by assumption):oH P md ops Q S T (f+1) listed a w :=
 V5 hi (Region.noSelect_spec h1) h4 (Zl h7) f listed a w (Region.free_spec hi h2) (by simpa using h3) (.inl ⟨h5,y⟩) h6 r
def nC (P:Program) (md:Region.Mode) (ops:Array Oper) (Q:Exit→Act→World→Prop) (S:World→Prop) (T:Nat→Bool) (f:Nat) (listed:Array Bool) (a:Act) (w:World) (rs:List Nat):Prop :=
 ∀ i ∈ rs,wpOp P ops Q i (fun a' w' => (T i=false→S w')∧oH P md ops Q S T f (listed.setIfInBounds i true) a' w') a w
theorem nC.nil:nC P md ops Q S T f listed a w []:=fun _ h => by cases h
theorem nC.cons {i:Nat} {o:Oper} {rs:List Nat} (ho:ops[i]?=some o)
  (h:∀ K':Act→World→Prop,Shut (∀ a w,S w→(S w→oH P md ops Q S T f (listed.setIfInBounds i true) a w)→K' a w)→if Region.wanted o (yielded ops a.tmps)=true then Oper.wp P o a w K' Q else K' (a.put o.dst undef) w)
  (hs:nC P md ops Q S T f listed a w rs):nC P md ops Q S T f listed a w (i :: rs):=fun j hj => by
 rcases List.mem_cons.1 hj with rfl | hj
 · exact wpOp_step ho (fun K' hK => h K' (fun a w hS hW => hK a w ⟨fun _ => hS,hW hS⟩))
 exact hs j hj
theorem nC.last {i:Nat} {o:Oper} (hT:T i=true) (ho:ops[i]?=some o)
  (h:∀ K':Act→World→Prop,Shut (∀ a w,oH P md ops Q S T f (listed.setIfInBounds i true) a w→K' a w)→if Region.wanted o (yielded ops a.tmps)=true then Oper.wp P o a w K' Q else K' (a.put o.dst undef) w) :
  nC P md ops Q S T f listed a w [i]:=fun j hj => by
 rcases List.mem_cons.1 hj with rfl | hj
 · exact wpOp_step ho (fun K' hK => h K' (fun a w hW => hK a w ⟨(fun h0 => by rw [hT] at h0;cases h0),hW⟩))
 cases hj
theorem JA {rs:List Nat} (hr:Region.ready md ops listed=rs) (hne:rs≠[]) (h:nC P md ops Q S T f listed a w rs):oH P md ops Q S T (f+1) listed a w :=
 ⟨fun h0 => absurd (hr ▸ h0) hne,hr ▸ h⟩
theorem wX (hr:Region.ready md ops listed = []) (h:Q .normal a w):∀ f,oH P md ops Q S T f listed a w
 | 0 => ⟨hr,h⟩
 | _+1 => ⟨fun _ => h,by rw [hr];simp⟩
theorem Bl {i:Nat} {o:Oper} (h:∀ K':Act→World→Prop,Shut (∀ a w,S w→(S w→oH P md ops Q S T f (listed.setIfInBounds i true) a w)→K' a w)→if Region.wanted o (yielded ops a.tmps)=true then Oper.wp P o a w K' Q else K' (a.put o.dst undef) w) (hr:Region.ready md ops listed = [i]:=by kernel_rfl) (ho:ops[i]?=some o:=by rfl):oH P md ops Q S T (f+1) listed a w :=
 JA hr (by simp) (nC.cons ho h nC.nil)
theorem zL {i:Nat} {o:Oper} (h:∀ K':Act→World→Prop,Shut (∀ a w,oH P md ops Q S T f (listed.setIfInBounds i true) a w→K' a w)→if Region.wanted o (yielded ops a.tmps)=true then Oper.wp P o a w K' Q else K' (a.put o.dst undef) w) (hr:Region.ready md ops listed = [i]:=by kernel_rfl) (hT:T i=true:=by rfl) (ho:ops[i]?=some o:=by rfl):oH P md ops Q S T (f+1) listed a w :=
 JA hr (by simp) (nC.last hT ho h)
end
end Go.Proofs.YthkfapcadhnaeaaGreatDoor

/- union. No condition. -/
import Derived.Test.YthkfapcadhnaeaaGreatDoorDecG
set_option maxHeartbeats 800000
namespace Go.Proofs.YthkfapcadhnaeaaGreatDoor
open Go.ChangeShapes Go.WideShapes Go.ChangeAt Go.RowKit
theorem QL {l r:List UInt8} {n:Nat} (h:DT l=some (n,r)):1≤n∧n≤1000∧r.length≤l.length:=by
 unfold DT at h
 split at h
 · cases h
 rename_i m q hq
 split at h
 · cases h
 injection h with h;injection h with h1 h2;subst h1;subst h2
 obtain ⟨k,_,_,h3,_⟩:=sG hq
 subst h3
 refine ⟨by omega,by omega,by simp⟩
/- the end by a failure -/
/- a part's answer is laid into a new block -/
set_option maxRecDepth 100000 in
theorem abb
 (ts:List aC) (tv:Value) (gr:Nat) (fp:Value) (fn:Int) (path:List Int) (p:List UInt8) (rec:Int→List UInt8→List Int→fO) (x:aC) (vs vm:Value) (w:World) (hk:x.kind=6) (hp:path.length < 200) (hpl:p.length≤800000)
 (R:jf w gr tv fp fn path) (ht:bG w gr tv ts) (hx:eX w gr x vs vm) (HP:FK ts gr tv rec path) (hm:∀ m ∈ x.aj,(fB ts m.ty).isSome=true) :
 Calls Tryz.prog 95 #[.pointer (some ⟨gr,0,none⟩),aS x vs vm,.string ⟨p.toArray⟩] w (cO gr tv path w (aG rec x p path)):=by
 have HA:=Lib.hid (fun W => agK p W)
 obtain ⟨C1,l1,C2,l2,rfl,rfl,-,-⟩:=hx.forms
 have HX:=Lib.hid hx
 have HT:=Lib.hid ht
 have AU:=Lib.hid HP
 have HM:=Lib.hid hm
 have iq:=Lib.hid hk
 have hxs:=hx.lens
 clear hx ht HP hm
 have hgr:=R.here
 replace R:=Lib.hid (jF.of R)
 have KP:=aP.refl w gr
 go_enter Tryz.func95,Tryz.ntmps95
 go_upto_region 1 with fail
 generalize dJ:w.alloc _=wd2
 generalize jD:wd2.alloc _=wd4
 have ⟨hb1,X,Z⟩:=dN dJ jD
 clear dJ jD
 replace R:=rB R hb1
 replace KP:=kB KP hgr hb1
 clear hb1
 cases ha:DT p with
 | none =>
  have HR:Hid (aG rec x p path = .error (path,1)):=by show _=_;simp [aG,iq.out,ha]
  simp only [ha] at HA
  clear ha
  go_wp2_with fail
  ((with_reducible refine (HA.out _).mono ?_);rintro e wV ⟨rfl,hb7⟩)
  obtain ⟨X,Z⟩:=b2 X Z hb7
  replace R:=rB R hb7
  replace KP:=kB KP hgr hb7
  clear hb7
  go_upto_region 3 with fail
  have hz:=Z.out.here
  go_wp2_with fail
  ((with_reducible refine (iG gr _ _ _ path 1 _ (by omega) R.out.at_).mono ?_);rintro e uJ hp)
  obtain ⟨c0,c1,c2,c3,c4,c5,c6,c7,bb,h1',rfl⟩:=hp.form
  have Z2:=ji Z hp.keep (by omega) (by decide)
  go_wp2_with (refine wpList_store_row rfl 30 _ _ rfl (w.heap.size+1) _ rfl rfl 30 _ Z2.out (by kernel_rfl) rfl (by simpa using h1') ?_)
  obtain ⟨z0,z1,z2,z3,z4,z5,z6,z7⟩:=(iU Z2.out #[c0,c1,c2,c3,c4,c5,c6,c7]).c8
  exact bodyPost_ret (v:=.tuple #[.agg #[c0,c1,c2,c3,c4,c5,c6,c7],.bool bb]) (by simp [results,Tryz.results95,go_sem,z0,z1,z2,z3,z4,z5,z6,z7]) rfl (by rw [HR.out];exact hp.tail KP hgr (by omega) hz Z2.out (by decide))
 | some g =>
  obtain ⟨id,r⟩:=g
  obtain ⟨hi1,hi2,hrl⟩:=QL ha
  simp only [ha] at HA
  have HD:Hid (aG rec x p path=match lH x id with
   | none => if x.opn then .ok (.mk 6 false 0 [] id [] [] [((id:Int),r)]) else .error (path,5)
   | some i => Po (fun v => .mk 6 false 0 [] id [] [v] []) (rec ((x.aj[i]?.map Mem.ty).getD 0) r (path ++ [(id:Int)]))):=by
   show _=_
   simp only [aG,iq.out,ha]
   rw [if_neg (by decide),if_neg (by decide),if_neg (by decide),if_neg (by decide),if_neg (by decide),if_pos trivial]
   cases lH x id with
   | none => rfl
   | some i => simp only [];cases rec ((x.aj[i]?.map Mem.ty).getD 0) r (path ++ [(id:Int)]) <;> rfl
  clear ha
  go_wp2_with fail
  ((with_reducible refine (HA.out _).mono ?_);rintro e kE ⟨rfl,qc⟩)
  obtain ⟨X,Z⟩:=b2 X Z qc
  replace R:=rB R qc
  replace KP:=kB KP hgr qc
  clear qc
  obtain ⟨aI,bI,bQ,bT,bW,dD,bK,bJ,bZ,bM⟩:=X.out.c10
  go_upto_region 5 with fail
  clear aI bI bQ bT bW dD bK bJ bZ bM
  generalize jY:kE.alloc _=tN
  have ⟨jl,V⟩:=bH jY
  clear jY
  have Yg:=X.out.here
  have PV:=Z.out.here
  have PG:=KP.size
  obtain ⟨X,Z⟩:=b2 X Z jl
  replace R:=rB R jl
  replace KP:=kB KP hgr jl
  clear jl
  generalize kE.heap.size=g15 at *
  have HS:=Lib.hid (fun W h => Oh x (.slice C1 x.syms.length l1) (.slice C2 x.aj.length l2) id W h)
  simp only [aS,hk] at HS
  obtain ⟨aI,bI,bQ,bT,bW,dD,bK,bJ,bZ,bM⟩:=X.out.c10
  go_wp2_with fail
  clear aI bI bQ bT bW dD bK bJ bZ bM
  ((with_reducible refine (HS.out _ (HX.out.keep (fun _ hp => KP.low.cell hp) (Nat.le_of_lt (Nat.lt_of_lt_of_le hgr KP.size)))).mono ?_);rintro e nY ⟨rfl,jw⟩)
  obtain ⟨X,Z,V⟩:=b3 X Z V jw
  replace R:=rB R jw
  replace KP:=kB KP hgr jw
  clear jw
  clear HS
  cases sW:lH x id with
  | none =>
   simp only [sW] at HD
   simp only [qU,Option.isSome_none]
   clear sW
   cases hop:x.opn with
   | false =>
    simp only [hop] at HD
    have bM:=X.out.e9
    rw [hop] at bM
    have Hop:=Lib.hid hop
    clear hop
    go_upto_region 11 with fail
    have hz:=Z.out.here
    go_wp2_with fail
    clear bM
    ((with_reducible refine (iG gr _ _ _ path 5 _ (by omega) R.out.at_).mono ?_);rintro e qj hp)
    obtain ⟨c0,c1,c2,c3,c4,c5,c6,c7,bb,h1',rfl⟩:=hp.form
    have Z2:=ji Z hp.keep (by omega) (by decide)
    go_wp2_with (refine wpList_store_row rfl 30 _ _ rfl (w.heap.size+1) _ rfl rfl 30 _ Z2.out (by kernel_rfl) rfl (by simpa using h1') ?_)
    obtain ⟨z0,z1,z2,z3,z4,z5,z6,z7⟩:=(iU Z2.out #[c0,c1,c2,c3,c4,c5,c6,c7]).c8
    exact bodyPost_ret (v:=.tuple #[.agg #[c0,c1,c2,c3,c4,c5,c6,c7],.bool bb]) (by simp [results,Tryz.results95,go_sem,z0,z1,z2,z3,z4,z5,z6,z7]) rfl (by rw [HD.out];exact hp.tail KP hgr (by omega) hz Z2.out (by decide))
   | true =>
    simp only [hop] at HD
    have bM:=X.out.e9
    rw [hop] at bM
    have Hop:=Lib.hid hop
    clear hop
    have fa:=JU V 7
    have ca:=Gi (V.out.cell 7)
    go_upto_region 13 with fail
    clear fa ca
    clear bM
    generalize jQ:nY.alloc _=kF
    have ⟨jB,G⟩:=bH jQ
    clear jQ
    have Gq:=X.out.here
    have Gs:=Z.out.here
    have Fb:=V.out.here
    have PI:=KP.size
    obtain ⟨X,Z,V⟩:=b3 X Z V jB
    replace R:=rB R jB
    replace KP:=kB KP hgr jB
    clear jB
    generalize nY.heap.size=Vm at *
    generalize pG:kF.setCell _ _=wP
    obtain ⟨X,Z,G⟩:=f3 X Z G (eF pG)
    replace R:=rF R V pG.symm (by decide) (by omega)
    replace KP:=kS KP hgr pG.symm (by omega)
    replace V:=U5 V pG
    clear pG
    obtain ⟨eH,dP,eP,eU,dY,dW,dK,eG⟩:=V.out.c8
    go_wp2_with (refine sR Z.out ?_)
    clear eH dP eP eU dY dW dK eG
    generalize mY:wP.setRow _ _=mW
    obtain ⟨X,V,G⟩:=f3 X V G (eR mY)
    replace R:=rR R Z mY.symm (by decide) (by omega)
    replace KP:=oZ KP hgr mY.symm (by omega)
    replace Z:=aK Z mY
    clear mY
    exact bodyPost_ret (v:=.tuple #[.agg #[.int .i64 6,.bool false,.int .i64 0,.string ⟨#[]⟩,.int .i64 id,.slice none 0 0,.slice none 0 0,.slice (some ⟨Vm,0,none⟩) 1 1],.bool true]) (by simp [results,Tryz.results95,go_sem,Z.out.c8]) rfl (cO.good (v:=.mk 6 false 0 [] id [] [] [((id:Int),r)]) HD.out R KP (adr G.out (by decide) (by omega) (by unfold I64;omega) (by unfold I64;omega) (by omega)))
  | some i =>
   have hlt:=QM x id i sW
   have HM1:=Lib.hid (HM.out x.aj[i] (List.getElem_mem hlt))
   simp only [sW,List.getElem?_eq_getElem hlt,Option.map_some,Option.getD_some] at HD
   simp only [qU,Option.isSome_some]
   clear sW
   obtain ⟨b2,o2,rfl,LW,hel⟩:=HX.out.aj.elem (by omega)
   obtain ⟨vk,vi,vr,hcells,_⟩:=hel i hlt
   have hm2:=(KP.low.cell (p:=⟨b2,o2+i*13+2,none⟩) LW).trans hcells.2.2.1
   clear hel hcells
   have HPQ:=Lib.hid (fun (W:World) (fp':Value) (fn':Int) h1 h2 => AU.out W fp' fn' id x.aj[i].ty r h1 h2 HM1.out (by omega))
   generalize rec x.aj[i].ty r (path ++ [(id:Int)])=q at *
   generalize x.aj[i].ty=mt at *
   have bK:=X.out.e6
   have yK:(i:Int) < x.aj.length:=by omega
   have hd0:decide ((i:Int) < 0)=false:=by simp
   have hd1:decide (x.aj.length≤i)=false:=by simpa using hlt
   go_wp2_with fail
   clear bK
   have Lu:=X.out.here
   have PL:=Z.out.here
   have XQ:=V.out.here
   have XR:=KP.size
   ((with_reducible refine (HPQ.out _ _ _ R.out.at_ (HT.out.keep (fun _ hp => KP.low.cell hp) (Nat.le_refl _))).mono ?_);rintro e uO acK)
   obtain ⟨alq,alr,aW,aX,aY,bf,bn,bC,bD,bF,Dl,aQ,rfl,acL,zF,N⟩:=acK.take
   replace X:=ji X zF (by omega) (by decide)
   replace Z:=ji Z zF (by omega) (by decide)
   replace V:=ji V zF (by omega) (by decide)
   replace R:=Lib.hid acL
   replace KP:=KP.trans zF
   replace N:=Lib.hid N
   clear zF
   have iF:(#[aW,aX,aY,bf,bn,bC,bD,bF] : Array Value).all (·.oneCell')=true:=by simpa using aQ
   generalize nY.heap.size=L36 at *
   have M5:=Has.made uO 30 #[.int .i64 0,.bool false,.int .i64 0,.string ⟨#[]⟩,.int .i64 0,.slice none 0 0,.slice none 0 0,.slice none 0 0]
   go_upto_region 8 with (refine wpList_store_row rfl 30 _ _ rfl uO.heap.size _ rfl rfl 30 _ M5 (by kernel_rfl) rfl iF ?_)
   clear M5
   generalize xM:uO.alloc _=E8
   have ⟨qC,I⟩:=bH xM
   clear xM
   have Uz:=X.out.here
   have Px:=Z.out.here
   have LC:=V.out.here
   have LD:=N.out.le
   have Fa:=KP.size
   obtain ⟨X,Z,V,N⟩:=b4 X Z V N qC
   replace R:=rB R qC
   replace KP:=kB KP hgr qC
   clear qC
   generalize uO.heap.size=g49 at *
   generalize jk:E8.setRow _ _=qE
   obtain ⟨X,Z,V,N⟩:=f4 X Z V N (eR jk)
   replace R:=rR R I jk.symm (by decide) (by omega)
   replace KP:=oZ KP hgr jk.symm (by omega)
   replace I:=aK I jk
   clear jk
   obtain ⟨iI,iJ,iK,iL,iM,iO,iw,iP⟩:=I.out.c8
   have fa:=JU V 6
   have ca:=Gi (V.out.cell 6)
   go_upto_region 9 with fail
   clear fa ca
   clear iI iJ iK iL iM iO iw iP
   generalize kH:qE.alloc _=oL
   have ⟨qI,G⟩:=bH kH
   clear kH
   have UM:=X.out.here
   have XH:=Z.out.here
   have hl63:=V.out.here
   have UC:=I.out.here
   have IW:=N.out.le
   have Gt:=KP.size
   obtain ⟨X,Z,V,I,N⟩:=b5 X Z V I N qI
   replace R:=rB R qI
   replace KP:=kB KP hgr qI
   clear qI
   generalize qE.heap.size=g60 at *
   generalize wS:oL.setCell _ _=MI
   obtain ⟨X,Z,I,G,N⟩:=f5 X Z I G N (eF wS)
   replace R:=rF R V wS.symm (by decide) (by omega)
   replace KP:=kS KP hgr wS.symm (by omega)
   replace V:=uf V wS
   clear wS
   obtain ⟨eH,dP,eP,eU,dY,dW,dK,eG⟩:=V.out.c8
   go_wp2_with (refine sR Z.out ?_)
   clear eH dP eP eU dY dW dK eG
   generalize tX:MI.setRow _ _=DU
   obtain ⟨X,V,I,G,N⟩:=f5 X V I G N (eR tX)
   replace R:=rR R Z tX.symm (by decide) (by omega)
   replace KP:=oZ KP hgr tX.symm (by omega)
   replace Z:=aK Z tX
   clear tX
   have hNl:=N.out.le
   have HF:Hid (cO gr tv path w (aG rec x p path) (.returned (.tuple #[.agg #[.int .i64 6,.bool false,.int .i64 0,.string ⟨#[]⟩,.int .i64 id,.slice none 0 0,.slice (some ⟨g60,0,none⟩) 1 1,.slice none 0 0],.bool Dl])) DU):=by
    show cO _ _ _ _ _ _ _
    have hN:=N.out.now
    cases q with
    | ok v =>
     obtain ⟨rfl,vk,vi,vr,hc,hv⟩:=hN
     exact cO.good (v:=.mk 6 false 0 [] id [] [v] []) (by rw [HD.out];rfl) R KP (UF hv (by omega) hNl (by rw [← hc];exact G.out) (by decide) (by omega) (by unfold I64;omega) (by unfold I64;omega))
    | error pn =>
     obtain ⟨p',n'⟩:=pn
     obtain ⟨rfl,hf⟩:=hN
     exact cO.bad (by rw [HD.out];rfl) R KP hf (by simp [Value.oneCell'])
   exact bodyPost_ret (v:=.tuple #[.agg #[.int .i64 6,.bool false,.int .i64 0,.string ⟨#[]⟩,.int .i64 id,.slice none 0 0,.slice (some ⟨g60,0,none⟩) 1 1,.slice none 0 0],.bool Dl]) (by simp [results,Tryz.results95,go_sem,Z.out.c8]) rfl (HF.out)
end Go.Proofs.YthkfapcadhnaeaaGreatDoor

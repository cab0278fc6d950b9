/- union of the reference. No condition. -/
import Derived.Test.YthkfapcadhnaeaaGreatDoorRefD
set_option maxHeartbeats 3200000
namespace Go.Proofs.YthkfapcadhnaeaaGreatDoor
open Go.ChangeShapes Go.WideShapes Go.ChangeAt Go.RowKit
theorem oI.new {C b:Nat} {w w':World} (h1:w.heap.size≤b) (h2:b < w'.heap.size):oI C w w' b:=by unfold oI;omega
theorem RD {W:World} {S:Nat→Prop} {G:Nat} {k id:Int} {d:List UInt8} {T:TypeId} (hG:Has W G T #[.int .i64 id,.string ⟨d.toArray⟩]) (hS:S G) (hk:I64 k) (hi:I64 id) (hd:d.length≤140737488351232) :
  jq W S (.mk k false 0 [] id [] [] [(id,d)]) (.slice none 0 0) (.slice none 0 0) (.slice (some ⟨G,0,none⟩) 1 1):=by
 refine ⟨⟨hk,by simp [I64,Val.num],hi⟩,by simp [Val.str],by simp [Val.keys,Val.items,Val.rest],fun r hr => by simp [Val.rest] at hr;subst hr;exact ⟨hi,hd⟩,qy _ _,qy _ _,by simp [Val.rest,iV,Bz],_,1,rfl,Nat.le_refl _,.inr ⟨G,0,rfl,hS,fun j u hu => ?_⟩⟩
 have:=hG.cell j
 rw [show 0+j=j by omega,this]
 simpa [Val.rest,iV,Bz] using hu
theorem acg {W:World} {S:Nat→Prop} {G:Nat} {k id:Int} {v:Val} {vk vi vr:Value} {T:TypeId} (h:jq W S v vk vi vr) (hG:Has W G T (iQ v vk vi vr).toArray) (hS:S G) (hk:I64 k) (hi:I64 id) :
  jq W S (.mk k false 0 [] id [] [v] []) (.slice none 0 0) (.slice (some ⟨G,0,none⟩) 1 1) (.slice none 0 0):=by
 have h1:=h.rd
 refine ⟨⟨hk,by simp [I64,Val.num],hi⟩,by simp [Val.str],by simp [Val.keys,Val.items,Val.rest],by simp [Val.rest],qy _ _,⟨fun _ => iQ v vk vi vr,⟨_,1,rfl,Nat.le_refl _,.inr ⟨G,0,rfl,hS,fun i hi j u hu => ?_⟩⟩,fun i hi => ?_⟩,by simp [Val.rest,iV],none,0,rfl,Nat.le_refl _,.inl rfl⟩
 ·
  have h0:i=0:=by simp [Val.items] at hi;omega
  subst h0
  have:=hG.cell j
  rw [show (0+0*8+j)=j by omega,this];simpa using hu
 have h0:i=0:=by simp [Val.items] at hi;omega
 subst h0
 exact h1
theorem KE.post {w W:World} {C L B:Nat} {r:fO} {c0 c1 c2 c3 c4 c5 c6 c7 c8 c9 c10:Value} (h:KE w C L B r [c0,c1,c2,c3,c4,c5,c6,c7,c8,c9,c10] W) (hb:Below w.heap.size w W) (hC:C≤w.heap.size) (hL:w.heap.size≤L) (hB:B≤W.heap.size) :
  fG C w r (.returned (.agg #[c0,c1,c2,c3,c4,c5,c6,c7,c8,c9,c10])) W:=by
 cases r with
 | ok v =>
  obtain ⟨vk,vi,vr,hc,hv⟩:=h
  obtain ⟨S,h1,h2⟩:=hv (Old.of hb hC)
  simp only [List.cons.injEq,and_true] at hc
  obtain ⟨rfl,rfl,rfl,rfl,rfl,rfl,rfl,rfl,rfl,rfl,rfl⟩:=hc
  exact ⟨hb,_,_,_,rfl,h1.keep (fun _ _ => rfl) (fun k hk => (h2 k hk).elim .inl (fun h => .inr ⟨by omega,by omega⟩))⟩
 | error pn =>
  obtain ⟨p',n'⟩:=pn
  obtain ⟨fp,hc,hfo⟩:=h
  simp only [List.cons.injEq,and_true] at hc
  obtain ⟨rfl,rfl,rfl,rfl,rfl,rfl,rfl,rfl,rfl,rfl,rfl⟩:=hc
  exact ⟨hb,_,rfl,aH hfo hL⟩
theorem KE.one {w W:World} {C L B G:Nat} {v:Val} {k id:Int} {T:TypeId} {c0 c1 c2 c3 c4 c5 c6 c7 c8 c9 c10:Value} (h:KE w C L B (.ok v) [c0,c1,c2,c3,c4,c5,c6,c7,c8,c9,c10] W) (hb:Below w.heap.size w W) (hC:C≤w.heap.size) (hL:w.heap.size≤L) (hB:B≤W.heap.size)
  (hG:Has W G T #[c0,c1,c2,c3,c4,c5,c6,c7]) (hw:w.heap.size≤G) (hk:I64 k) (hi:I64 id):jq W (oI C w W) (.mk k false 0 [] id [] [v] []) (.slice none 0 0) (.slice (some ⟨G,0,none⟩) 1 1) (.slice none 0 0):=by
 obtain ⟨vk,vi,vr,hc,hv⟩:=h
 obtain ⟨S,h1,h2⟩:=hv (Old.of hb hC)
 simp only [List.cons.injEq,and_true] at hc
 obtain ⟨rfl,rfl,rfl,rfl,rfl,rfl,rfl,rfl,rfl,rfl,rfl⟩:=hc
 exact acg (h1.keep (fun _ _ => rfl) (fun k hk => (h2 k hk).elim .inl (fun h => .inr ⟨by omega,by omega⟩))) hG (oI.new hw hG.here) hk hi
set_option maxRecDepth 100000 in
theorem aah
 (ts:List aC) (tv:Value) (C:Nat) (L:Int) (vp:Value) (path:List Int) (p:List UInt8) (rec:Int→List UInt8→List Int→fO) (x:aC) (vs vm:Value) (w:World) (hk:x.kind=6) (hp:path.length < 200) (hL:0≤L∧L≤1000) (hpl:p.length≤800000)
 (hC:C≤w.heap.size) (ht:bG w C tv ts) (hx:eX w C x vs vm) (hvp:w.ownsRow 0 3 1 vp path.length (path.map iZ)) (HP:F9 ts C tv L rec path) (hm:∀ m ∈ x.aj,(fB ts m.ty).isSome=true) :
 Calls Tryz.prog 102 #[.agg #[tv],aS x vs vm,.string ⟨p.toArray⟩,.int .i64 L,vp] w (fG C w (aG rec x p path)):=by
 have HA:=Lib.hid (fun W => adZ p (by omega) W)
 obtain ⟨C1,l1,C2,l2,rfl,rfl,-,-⟩:=hx.forms
 obtain ⟨At,ct,rfl,-⟩:=ht.form
 obtain ⟨Ap,cp,rfl⟩:=aF hvp
 have HX:=Lib.hid hx
 have HT:=Lib.hid ht
 have AU:=Lib.hid HP
 have HM:=Lib.hid hm
 have iq:=Lib.hid hk
 have aT:=Lib.hid hC
 have uH:=Lib.hid hvp
 have hxs:=hx.lens
 clear hx ht HP hm hvp
 go_enter Tryz.func102,Tryz.ntmps102
 go_upto_region 1 with fail
 generalize dJ:w.alloc _=wd2
 generalize jD:wd2.alloc _=wd4
 generalize iT:wd4.alloc _=wV
 have ⟨hb1,S,X,Z⟩:=an3 dJ jD iT
 clear dJ jD iT
 have hw8:=hb1
 clear hb1
 cases ha:DT p with
 | none =>
  have HR:Hid (aG rec x p path = .error (path,1)):=by show _=_;simp [aG,iq.out,ha]
  simp only [ha] at HA
  clear ha
  go_wp2_with fail
  ((with_reducible refine (HA.out _).mono ?_);rintro e AY ⟨rfl,mG⟩)
  obtain ⟨S,X,Z⟩:=b3 S X Z mG
  replace hw8:=dT hw8 mG
  clear mG
  go_upto_region 3 with fail
  obtain ⟨LF,fD⟩ : ∃ n,n=(AY).heap.size:=⟨_,rfl⟩
  have kU:=Z.out.here
  rw [← fD] at kU
  go_wp2_with fail
  ((with_reducible refine (gu C path _ 1 _ (by omega) (own_below uH.out hw8)).mono ?_);rintro e rO ⟨jl,xu,rfl,hown⟩)
  obtain ⟨S,X,Z⟩:=b3 S X Z jl
  replace hw8:=dT hw8 jl
  clear jl
  obtain ⟨Af,cf,rfl⟩:=aF hown
  rw [← fD] at hown
  clear fD
  have FP:=Lib.hid (Kept.own hown)
  clear hown
  go_wp2_with (refine sR Z.out ?_)
  generalize jY:rO.setRow _ _=tN
  obtain ⟨S,X,FP⟩:=f3 S X FP (eR jY)
  replace Z:=aK Z jY
  replace hw8:=tr hw8 jY
  clear jY
  exact bodyPost_ret (v:=.agg #[.int .i64 0,.bool false,.int .i64 0,.string ⟨#[]⟩,.int .i64 0,.slice none 0 0,.slice none 0 0,.slice none 0 0,.slice Af path.length cf,.int .i64 1,.bool false]) (by simp [results,Tryz.results102,go_sem,Z.out.c11]) rfl ((by rw [HR.out];exact ⟨hw8,_,rfl,aH FP.out.now (by omega)⟩))
 | some g =>
  obtain ⟨id,r⟩:=g
  obtain ⟨hi1,hi2,hrl⟩:=QL ha
  simp only [ha] at HA
  have HD:Hid (aG rec x p path=match lH x id with
   | none => if x.opn then .ok (.mk 6 false 0 [] id [] [] [((id:Int),r)]) else .error (path,5)
   | some i => Po (fun v => .mk 6 false 0 [] id [] [v] []) (rec ((x.aj[i]?.map Mem.ty).getD 0) r (path ++ [(id:Int)]))):=by
   show _=_
   simp only [aG,iq.out,ha]
   rw [if_neg (by decide),if_neg (by decide),if_neg (by decide),if_neg (by decide),if_neg (by decide),if_pos trivial]
   cases lH x id with
   | none => rfl
   | some i => simp only [];cases rec ((x.aj[i]?.map Mem.ty).getD 0) r (path ++ [(id:Int)]) <;> rfl
  clear ha
  go_wp2_with fail
  ((with_reducible refine (HA.out _).mono ?_);rintro e lD ⟨rfl,hb16⟩)
  obtain ⟨S,X,Z⟩:=b3 S X Z hb16
  replace hw8:=dT hw8 hb16
  clear hb16
  have HS:=Lib.hid (fun W h => KZ x (.slice C1 x.syms.length l1) (.slice C2 x.aj.length l2) id W h)
  simp only [aS,hk] at HS
  obtain ⟨aI,bI,bQ,bT,bW,dD,bK,bJ,bZ,bM⟩:=X.out.c10
  go_wp2_with fail
  clear aI bI bQ bT bW dD bK bJ bZ bM
  ((with_reducible refine (HS.out _ ((HX.out.keep (fun _ hp => (hw8).cell (Nat.lt_of_lt_of_le hp aT.out)) (Nat.le_trans aT.out (hw8).size)))).mono ?_);rintro e rE ⟨rfl,rV⟩)
  obtain ⟨S,X,Z⟩:=b3 S X Z rV
  replace hw8:=dT hw8 rV
  clear rV
  clear HS
  cases sW:lH x id with
  | none =>
   simp only [sW] at HD
   simp only [qU,Option.isSome_none]
   clear sW
   cases hop:x.opn with
   | false =>
    simp only [hop] at HD
    have bM:=X.out.e9
    rw [hop] at bM
    have Hop:=Lib.hid hop
    clear hop
    go_upto_region 6 with fail
    obtain ⟨LF,fD⟩ : ∃ n,n=(rE).heap.size:=⟨_,rfl⟩
    have kU:=Z.out.here
    rw [← fD] at kU
    go_wp2_with fail
    clear bM
    ((with_reducible refine (gu C path _ 5 _ (by omega) (own_below uH.out hw8)).mono ?_);rintro e nY ⟨jw,xu,rfl,hown⟩)
    obtain ⟨S,X,Z⟩:=b3 S X Z jw
    replace hw8:=dT hw8 jw
    clear jw
    obtain ⟨Af,cf,rfl⟩:=aF hown
    rw [← fD] at hown
    clear fD
    have FP:=Lib.hid (Kept.own hown)
    clear hown
    go_wp2_with (refine sR Z.out ?_)
    generalize qF:nY.setRow _ _=qj
    obtain ⟨S,X,FP⟩:=f3 S X FP (eR qF)
    replace Z:=aK Z qF
    replace hw8:=tr hw8 qF
    clear qF
    exact bodyPost_ret (v:=.agg #[.int .i64 0,.bool false,.int .i64 0,.string ⟨#[]⟩,.int .i64 0,.slice none 0 0,.slice none 0 0,.slice none 0 0,.slice Af path.length cf,.int .i64 5,.bool false]) (by simp [results,Tryz.results102,go_sem,Z.out.c11]) rfl ((by rw [HD.out];exact ⟨hw8,_,rfl,aH FP.out.now (by omega)⟩))
   | true =>
    simp only [hop] at HD
    have aI:=X.out.e0
    have bM:=X.out.e9
    rw [hop] at bM
    have Hop:=Lib.hid hop
    clear hop
    go_upto_region 8 with fail
    go_wp2_with fail
    clear aI bM
    generalize jQ:rE.alloc _=kF
    have ⟨jB,G⟩:=bH jQ
    clear jQ
    have Gq:=S.out.here
    have Gs:=X.out.here
    have Fb:=Z.out.here
    have PI:=hw8.size
    obtain ⟨S,X,Z⟩:=b3 S X Z jB
    replace hw8:=dT hw8 jB
    clear jB
    generalize rE.heap.size=Vm at *
    ((with_reducible refine (oU 6 false 0 [] id [] [] [((id:Int),r)] _ _ _ (oI C w kF) _ (RD G.out (oI.new (by omega) G.out.here) (by unfold I64;omega) (by unfold I64;omega) (by omega))).mono ?_);rintro e wP ⟨rfl,rJ⟩)
    obtain ⟨S,X,Z,G⟩:=b4 S X Z G rJ
    replace hw8:=dT hw8 rJ
    clear rJ
    go_wp2_with (refine sR Z.out ?_)
    generalize mY:wP.setRow _ _=mW
    obtain ⟨S,X,G⟩:=f3 S X G (eR mY)
    replace Z:=aK Z mY
    replace hw8:=tr hw8 mY
    clear mY
    exact bodyPost_ret (v:=.agg #[.int .i64 6,.bool false,.int .i64 0,.string ⟨#[]⟩,.int .i64 id,.slice none 0 0,.slice none 0 0,.slice (some ⟨Vm,0,none⟩) 1 1,.slice none 0 0,.int .i64 0,.bool true]) (by simp [results,Tryz.results102,go_sem,Z.out.c11]) rfl ((by rw [HD.out];exact ⟨hw8,_,_,_,rfl,RD G.out (oI.new (by omega) G.out.here) (by unfold I64;omega) (by unfold I64;omega) (by omega)⟩))
  | some i =>
   have hlt:=QM x id i sW
   have HM1:=Lib.hid (HM.out x.aj[i] (List.getElem_mem hlt))
   simp only [sW,List.getElem?_eq_getElem hlt,Option.map_some,Option.getD_some] at HD
   simp only [qU,Option.isSome_some]
   clear sW
   obtain ⟨b2,o2,rfl,LW,hel⟩:=HX.out.aj.elem (by omega)
   obtain ⟨vk,vi,vr,hcells,_⟩:=hel i hlt
   have IV:=Lib.hid hcells.2.2.1
   clear hel hcells
   have HPQ:=Lib.hid (fun (W:World) (vp:Value) h1 h2 h3 => AU.out W x.aj[i].ty id r vp h1 h2 h3 HM1.out (by omega))
   generalize rec x.aj[i].ty r (path ++ [(id:Int)])=q at *
   generalize x.aj[i].ty=mt at *
   have yK:(i:Int) < x.aj.length:=by omega
   have hd0:decide ((i:Int) < 0)=false:=by simp
   have hd1:decide (x.aj.length≤i)=false:=by simpa using hlt
   have hw1:IntKind.i64.wrap (L+1)=L+1:=IntWalk.i64_in _ (by omega)
   go_upto_region 9 with fail
   go_cut [16] from 53 to 66 (fun sa wx => KF w C wx q (w.heap.size+2) sa∧Has wx (w.heap.size+1) 69 #[.int .i64 6,.string ⟨x.name.toArray⟩,.int .i64 x.low,.int .i64 x.high,.int .i64 x.max,.slice C1 x.syms.length l1,.slice (some ⟨b2,o2,none⟩) x.aj.length l2,.int .i64 x.key,.int .i64 x.elem,.bool x.opn]∧Has wx (w.heap.size+1+1) 91 #[.int .i64 0,.bool false,.int .i64 0,.string ⟨#[]⟩,.int .i64 0,.slice none 0 0,.slice none 0 0,.slice none 0 0,.slice none 0 0,.int .i64 0,.bool false])
   case first =>
    have ay:=S.out.e0
    have bK:=X.out.e6
    refine wp_region_held_drew (S:=(fun w' => w'.cell? ⟨w.heap.size,0,none⟩=some (.slice At ts.length ct)∧w'.cell? ⟨w.heap.size+1,6,none⟩=some (.slice (some ⟨b2,o2,none⟩) x.aj.length l2)∧(w'.cell? ⟨b2,o2+i*13+2,none⟩=some (.int .i64 mt)))) (by kernel_rfl) ⟨ay,bK,(((hw8).cell (p:=⟨b2,o2+i*13+2,none⟩) (show b2 < w.heap.size by omega)).trans IV.out)⟩ (fun hHeld => ?_)
    clear ay bK
    have jL:Below rE.heap.size rE (rE.drew):=(Below.refl _ _).drew
    obtain ⟨S,X,Z⟩:=b3 S X Z jL
    replace hw8:=dT hw8 jL
    clear jL
    generalize rE.drew=o9 at *
    refine tk (i:=0) (v := ?k37) ?_
    simp only [ah]
    refine tk (i:=1) (v := ?k38) ?_
    simp only [ah]
    refine tk (i:=2) (v := ?k39) ?_
    simp only [ah]
    refine tk (i:=3) (v := ?k40) ?_
    simp only [ah]
    refine tk (i:=4) (v := ?Xk) ?_
    simp only [ah]
    refine tk (i:=5) (v := ?Xl) ?_
    simp only [ah]
    refine tk (i:=6) (v := ?k43) ?_
    simp only [ah]
    refine tk (i:=7) (v := ?k44) ?_
    simp only [ah]
    refine tk (i:=8) (v := ?k45) ?_
    simp only [ah]
    refine tk (i:=9) (v := ?k46) ?_
    simp only [ah]
    refine tk (i:=10) (v := ?k47) ?_
    simp only [ah]
    refine tk (i:=11) (v := ?k48) ?_
    simp only [ah]
    refine wpAnyH_ready (rs:=[12,14]) (by kernel_rfl) (by simp) ?_
    refine AllReadyH.cons rfl (fun K hK => ?_) (AllReadyH.cons rfl (fun K hK => ?_) (AllReadyH.nil))
    ·
     skip
     go_simp
     obtain ⟨LT,kC⟩ : ∃ n,n=(o9).heap.size:=⟨_,rfl⟩
     have hzT:=(hw8).size
     rw [← kC] at hzT
     ((with_reducible refine (qA path _ (id:Int) _ (by omega) (own_below uH.out hw8)).mono ?_);rintro e G7 ⟨NG,vt,rfl,hown⟩)
     obtain ⟨S,X,Z⟩:=b3 S X Z NG
     replace hw8:=dT hw8 NG
     clear NG
     rw [show (path ++ [(id:Int)]).length=path.length+1 by simp] at hown
     obtain ⟨Ao,co,rfl⟩:=aF hown
     rw [← kC] at hown
     obtain ⟨LU,nJ⟩ : ∃ n,n=(G7).heap.size:=⟨_,rfl⟩
     have TP:=Lib.hid (Kept.kM hown nJ)
     clear hown kC nJ
     try clear hHeld
     refine hK.out _ _ (⟨S.out.cell 0,⟨X.out.cell 6,(((hw8).cell (p:=⟨b2,o2+i*13+2,none⟩) (show b2 < w.heap.size by omega)).trans IV.out)⟩⟩) (fun hHeld => ?_)
     clear hK K
     refine wpAnyH_ready (rs:=[13,14]) (by kernel_rfl) (by simp) ?_
     refine AllReadyH.cons rfl (fun K hK => ?_) (AllReadyH.cons rfl (fun K hK => ?_) (AllReadyH.nil))
     ·
      skip
      go_simp
      have IZ:=S.out.here
      have PN:=X.out.here
      have UL:=Z.out.here
      have XT:=TP.out.le
      have XU:=hw8.size
      ((with_reducible refine (HPQ.out _ _ (Nat.le_trans aT.out (hw8).size) (HT.out.keep (fun _ hp => (hw8).cell (Nat.lt_of_lt_of_le hp aT.out)) (Nat.le_refl _)) (aH TP.out.now (Nat.zero_le _))).mono ?_);rintro e DL aen)
      have JQ:=aen.1
      obtain ⟨aW,aX,aY,bf,bn,bC,bD,bF,dL,dM,bY,aQ,rfl,N⟩:=aen.take (w0:=w) (Old.of (hw8.trans (JQ.mono hw8.size)) aT.out)
      obtain ⟨S,X,Z,TP⟩:=b4 S X Z TP JQ
      replace hw8:=dT hw8 JQ
      clear JQ aen
      replace N:=Lib.hid N
      have iF:(#[aW,aX,aY,bf,bn,bC,bD,bF,dL,dM,bY] : Array Value).all (·.oneCell')=true:=by simpa using aQ
      generalize G7.heap.size=L52 at *
      clear TP
      try clear hHeld
      refine hK.out _ _ (⟨S.out.cell 0,⟨X.out.cell 6,(((hw8).cell (p:=⟨b2,o2+i*13+2,none⟩) (show b2 < w.heap.size by omega)).trans IV.out)⟩⟩) (fun hHeld => ?_)
      clear hK K
      refine fH (i:=14) (fun K hK => ?_)
      go_simp
      generalize aiy:DL.alloc _=Ij
      have ⟨Ny,I⟩:=bH aiy
      clear aiy
      have UC:=S.out.here
      have IW:=X.out.here
      have Gt:=Z.out.here
      have L9:=N.out.le
      have Vd:=hw8.size
      obtain ⟨S,X,Z,N⟩:=b4 S X Z N Ny
      replace hw8:=dT hw8 Ny
      clear Ny
      generalize DL.heap.size=g63 at *
      try clear hHeld
      refine hK.out _ _ (⟨S.out.cell 0,⟨X.out.cell 6,(((hw8).cell (p:=⟨b2,o2+i*13+2,none⟩) (show b2 < w.heap.size by omega)).trans IV.out)⟩⟩) (fun hHeld => ?_)
      clear hK K
      refine fH (i:=15) (fun K hK => ?_)
      refine aU (by rfl) 91 _ _ (by rfl) (g63) #[aW,aX,aY,bf,bn,bC,bD,bF,dL,dM,bY] (by rfl) (by rfl) 91 _ I.out (by kernel_rfl) rfl (by first | assumption | simp [Value.oneCell']) ?_
      generalize tX:Ij.setRow _ _=DU
      obtain ⟨S,X,Z,N⟩:=f4 S X Z N (eR tX)
      replace I:=aK I tX
      replace hw8:=tr hw8 tX
      clear tX
      try clear hHeld
      refine hK.out _ _ (⟨S.out.cell 0,⟨X.out.cell 6,(((hw8).cell (p:=⟨b2,o2+i*13+2,none⟩) (show b2 < w.heap.size by omega)).trans IV.out)⟩⟩) (fun hHeld => ?_)
      clear hK K
      refine wpAnyH_done (by kernel_rfl) ?_ _
      try clear hHeld
      go_wp2_with fail
      go_meet
      have hBl:=N.out.le
      exact ⟨⟨⟨_,_,_,_,_,_,_,_,_,_,_,_,_,_,rfl,aQ,I.out,N.out,by omega,by omega,by omega,hw8⟩⟩,X.out,Z.out⟩
     skip
     go_simp
     generalize JO:G7.alloc _=Ec
     have ⟨yu,I⟩:=bH JO
     clear JO
     have Py:=S.out.here
     have XI:=X.out.here
     have Pz:=Z.out.here
     have Qq:=TP.out.le
     have WG:=hw8.size
     obtain ⟨S,X,Z,TP⟩:=b4 S X Z TP yu
     replace hw8:=dT hw8 yu
     clear yu
     generalize G7.heap.size=g74 at *
     try clear hHeld
     refine hK.out _ _ (⟨S.out.cell 0,⟨X.out.cell 6,(((hw8).cell (p:=⟨b2,o2+i*13+2,none⟩) (show b2 < w.heap.size by omega)).trans IV.out)⟩⟩) (fun hHeld => ?_)
     clear hK K
     refine fH (i:=13) (fun K hK => ?_)
     go_simp
     have acM:=S.out.here
     have acN:=X.out.here
     have acO:=Z.out.here
     have acP:=I.out.here
     have XJ:=TP.out.le
     have acD:=hw8.size
     ((with_reducible refine (HPQ.out _ _ (Nat.le_trans aT.out (hw8).size) (HT.out.keep (fun _ hp => (hw8).cell (Nat.lt_of_lt_of_le hp aT.out)) (Nat.le_refl _)) (aH TP.out.now (Nat.zero_le _))).mono ?_);rintro e Yr aeo)
     have Jh:=aeo.1
     obtain ⟨aW,aX,aY,bf,bn,bC,bD,bF,dL,dM,bY,aQ,rfl,N⟩:=aeo.take (w0:=w) (Old.of (hw8.trans (Jh.mono hw8.size)) aT.out)
     obtain ⟨S,X,Z,I,TP⟩:=b5 S X Z I TP Jh
     replace hw8:=dT hw8 Jh
     clear Jh aeo
     replace N:=Lib.hid N
     have iF:(#[aW,aX,aY,bf,bn,bC,bD,bF,dL,dM,bY] : Array Value).all (·.oneCell')=true:=by simpa using aQ
     generalize Ec.heap.size=L81 at *
     clear TP
     try clear hHeld
     refine hK.out _ _ (⟨S.out.cell 0,⟨X.out.cell 6,(((hw8).cell (p:=⟨b2,o2+i*13+2,none⟩) (show b2 < w.heap.size by omega)).trans IV.out)⟩⟩) (fun hHeld => ?_)
     clear hK K
     refine fH (i:=15) (fun K hK => ?_)
     refine aU (by rfl) 91 _ _ (by rfl) (g74) #[aW,aX,aY,bf,bn,bC,bD,bF,dL,dM,bY] (by rfl) (by rfl) 91 _ I.out (by kernel_rfl) rfl (by first | assumption | simp [Value.oneCell']) ?_
     generalize GU:Yr.setRow _ _=ahx
     obtain ⟨S,X,Z,N⟩:=f4 S X Z N (eR GU)
     replace I:=aK I GU
     replace hw8:=tr hw8 GU
     clear GU
     try clear hHeld
     refine hK.out _ _ (⟨S.out.cell 0,⟨X.out.cell 6,(((hw8).cell (p:=⟨b2,o2+i*13+2,none⟩) (show b2 < w.heap.size by omega)).trans IV.out)⟩⟩) (fun hHeld => ?_)
     clear hK K
     refine wpAnyH_done (by kernel_rfl) ?_ _
     try clear hHeld
     go_wp2_with fail
     go_meet
     have hBl:=N.out.le
     exact ⟨⟨⟨_,_,_,_,_,_,_,_,_,_,_,_,_,_,rfl,aQ,I.out,N.out,by omega,by omega,by omega,hw8⟩⟩,X.out,Z.out⟩
    skip
    go_simp
    generalize tH:o9.alloc _=PE
    have ⟨DY,I⟩:=bH tH
    clear tH
    have ac7:=S.out.here
    have ac8:=X.out.here
    have ac9:=Z.out.here
    have ada:=hw8.size
    obtain ⟨S,X,Z⟩:=b3 S X Z DY
    replace hw8:=dT hw8 DY
    clear DY
    generalize o9.heap.size=g95 at *
    try clear hHeld
    refine hK.out _ _ (⟨S.out.cell 0,⟨X.out.cell 6,(((hw8).cell (p:=⟨b2,o2+i*13+2,none⟩) (show b2 < w.heap.size by omega)).trans IV.out)⟩⟩) (fun hHeld => ?_)
    clear hK K
    refine fH (i:=12) (fun K hK => ?_)
    go_simp
    obtain ⟨LT,kC⟩ : ∃ n,n=(PE).heap.size:=⟨_,rfl⟩
    have hzT:=(hw8).size
    rw [← kC] at hzT
    ((with_reducible refine (qA path _ (id:Int) _ (by omega) (own_below uH.out hw8)).mono ?_);rintro e uh ⟨yY,vt,rfl,hown⟩)
    obtain ⟨S,X,Z,I⟩:=b4 S X Z I yY
    replace hw8:=dT hw8 yY
    clear yY
    rw [show (path ++ [(id:Int)]).length=path.length+1 by simp] at hown
    obtain ⟨Ao,co,rfl⟩:=aF hown
    rw [← kC] at hown
    obtain ⟨LU,nJ⟩ : ∃ n,n=(uh).heap.size:=⟨_,rfl⟩
    have TP:=Lib.hid (Kept.kM hown nJ)
    clear hown kC nJ
    try clear hHeld
    refine hK.out _ _ (⟨S.out.cell 0,⟨X.out.cell 6,(((hw8).cell (p:=⟨b2,o2+i*13+2,none⟩) (show b2 < w.heap.size by omega)).trans IV.out)⟩⟩) (fun hHeld => ?_)
    clear hK K
    refine fH (i:=13) (fun K hK => ?_)
    go_simp
    have Z8:=S.out.here
    have O1:=X.out.here
    have J6:=Z.out.here
    have Ol:=I.out.here
    have Om:=TP.out.le
    have aj9:=hw8.size
    ((with_reducible refine (HPQ.out _ _ (Nat.le_trans aT.out (hw8).size) (HT.out.keep (fun _ hp => (hw8).cell (Nat.lt_of_lt_of_le hp aT.out)) (Nat.le_refl _)) (aH TP.out.now (Nat.zero_le _))).mono ?_);rintro e ZJ aai)
    have BQ:=aai.1
    obtain ⟨aW,aX,aY,bf,bn,bC,bD,bF,dL,dM,bY,aQ,rfl,N⟩:=aai.take (w0:=w) (Old.of (hw8.trans (BQ.mono hw8.size)) aT.out)
    obtain ⟨S,X,Z,I,TP⟩:=b5 S X Z I TP BQ
    replace hw8:=dT hw8 BQ
    clear BQ aai
    replace N:=Lib.hid N
    have iF:(#[aW,aX,aY,bf,bn,bC,bD,bF,dL,dM,bY] : Array Value).all (·.oneCell')=true:=by simpa using aQ
    generalize uh.heap.size=asg at *
    clear TP
    try clear hHeld
    refine hK.out _ _ (⟨S.out.cell 0,⟨X.out.cell 6,(((hw8).cell (p:=⟨b2,o2+i*13+2,none⟩) (show b2 < w.heap.size by omega)).trans IV.out)⟩⟩) (fun hHeld => ?_)
    clear hK K
    refine fH (i:=15) (fun K hK => ?_)
    refine aU (by rfl) 91 _ _ (by rfl) (g95) #[aW,aX,aY,bf,bn,bC,bD,bF,dL,dM,bY] (by rfl) (by rfl) 91 _ I.out (by kernel_rfl) rfl (by first | assumption | simp [Value.oneCell']) ?_
    generalize Ub:ZJ.setRow _ _=Gv
    obtain ⟨S,X,Z,N⟩:=f4 S X Z N (eR Ub)
    replace I:=aK I Ub
    replace hw8:=tr hw8 Ub
    clear Ub
    try clear hHeld
    refine hK.out _ _ (⟨S.out.cell 0,⟨X.out.cell 6,(((hw8).cell (p:=⟨b2,o2+i*13+2,none⟩) (show b2 < w.heap.size by omega)).trans IV.out)⟩⟩) (fun hHeld => ?_)
    clear hK K
    refine wpAnyH_done (by kernel_rfl) ?_ _
    try clear hHeld
    go_wp2_with fail
    go_meet
    have hBl:=N.out.le
    exact ⟨⟨⟨_,_,_,_,_,_,_,_,_,_,_,_,_,_,rfl,aQ,I.out,N.out,by omega,by omega,by omega,hw8⟩⟩,X.out,Z.out⟩
   case rest =>
    clear S X Z hd0 hd1 hw1 hw8
    obtain ⟨⟨gI,aW,aX,aY,bf,bn,bC,bD,bF,dL,dM,bY,LN,BN,rfl,aQ,I,hN,ug,NR,NS,hbr⟩,X,Z⟩:=hcut
    have iF:(#[aW,aX,aY,bf,bn,bC,bD,bF,dL,dM,bY] : Array Value).all (·.oneCell')=true:=by simpa using aQ
    replace X:=Lib.hid X
    replace Z:=Lib.hid Z
    replace I:=Lib.hid I
    have N:=Lib.hid (hN)
    clear hN
    have hNl:=N.out.le
    cases q with
    | error pn =>
     obtain ⟨p',n'⟩:=pn
     obtain rfl:bY = .bool false:=by
      obtain ⟨fp,hc,_⟩:=N.out.now
      have:=congrArg (fun l => l[10]?) hc;simpa using this
     obtain ⟨iI,iJ,iK,iL,iM,iO,iw,iP,pR,pU,lS⟩:=I.out.c11
     go_upto_region 11 with fail
     go_wp2_with (refine sR Z.out ?_)
     clear iI iJ iK iL iM iO iw iP pR pU lS
     generalize AQ:wc.setRow _ _=EZ
     obtain ⟨X,I,N⟩:=f3 X I N (eR AQ)
     replace Z:=aK Z AQ
     replace hbr:=tr hbr AQ
     clear AQ
     have HF:Hid (fG C w (aG rec x p path) (.returned (.agg #[aW,aX,aY,bf,bn,bC,bD,bF,dL,dM,.bool false])) EZ):=by
      show fG _ _ _ _ _
      obtain ⟨fp,hc,hfo⟩:=N.out.now
      simp only [List.cons.injEq,and_true] at hc
      obtain ⟨rfl,rfl,rfl,rfl,rfl,rfl,rfl,rfl,rfl,rfl⟩:=hc
      rw [HD.out]
      exact ⟨hbr,_,rfl,aH hfo (by omega)⟩
     exact bodyPost_ret (v:=.agg #[aW,aX,aY,bf,bn,bC,bD,bF,dL,dM,.bool false]) (by simp [results,Tryz.results102,go_sem,Z.out.c11]) rfl (HF.out)
    | ok v =>
     obtain rfl:bY = .bool true:=by
      obtain ⟨_,_,_,hc,_⟩:=N.out.now
      have:=congrArg (fun l => l[10]?) hc;simpa using this
     obtain ⟨iI,iJ,iK,iL,iM,iO,iw,iP,pR,pU,lS⟩:=I.out.c11
     have aI:=X.out.e0
     go_upto_region 12 with fail
     go_wp2_with fail
     clear iI iJ iK iL iM iO iw iP pR pU lS aI
     generalize xG:wc.alloc _=Ou
     have ⟨aaj,G⟩:=bH xG
     clear xG
     have aac:=X.out.here
     have aad:=Z.out.here
     have aae:=I.out.here
     have RQ:=N.out.le
     have X4:=hbr.size
     obtain ⟨X,Z,I,N⟩:=b4 X Z I N aaj
     replace hbr:=dT hbr aaj
     clear aaj
     generalize wc.heap.size=ang at *
     ((with_reducible refine (oU 6 false 0 [] id [] [v] [] _ _ _ (oI C w Ou) _ (N.out.now.one hbr aT.out (by omega) N.out.le G.out (by omega) (by unfold I64;omega) (by unfold I64;omega))).mono ?_);rintro e Ov ⟨rfl,IE⟩)
     obtain ⟨X,Z,I,G,N⟩:=b5 X Z I G N IE
     replace hbr:=dT hbr IE
     clear IE
     go_wp2_with (refine sR Z.out ?_)
     generalize Uc:Ov.setRow _ _=YM
     obtain ⟨X,I,G,N⟩:=f4 X I G N (eR Uc)
     replace Z:=aK Z Uc
     replace hbr:=tr hbr Uc
     clear Uc
     exact bodyPost_ret (v:=.agg #[.int .i64 6,.bool false,.int .i64 0,.string ⟨#[]⟩,.int .i64 id,.slice none 0 0,.slice (some ⟨ang,0,none⟩) 1 1,.slice none 0 0,.slice none 0 0,.int .i64 0,.bool true]) (by simp [results,Tryz.results102,go_sem,Z.out.c11]) rfl ((by rw [HD.out];exact ⟨hbr,_,_,_,rfl,N.out.now.one hbr aT.out (by omega) N.out.le G.out (by omega) (by unfold I64;omega) (by unfold I64;omega)⟩))
end Go.Proofs.YthkfapcadhnaeaaGreatDoor

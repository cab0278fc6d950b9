/- The statement DecodeExplain: Explain returns the first failure, or the specified error, as the reference does. No condition. -/
import Derived.Test.YthkfapcadhnaeaaGreatDoorLawR0
import Derived.Test.YthkfapcadhnaeaaGreatDoorRefI
import Derived.Test.YthkfapcadhnaeaaGreatDoorHAR
import Derived.Test.YthkfapcadhnaeaaGreatDoorHAM
set_option maxHeartbeats 1600000
namespace Go.Proofs.YthkfapcadhnaeaaGreatDoor
open Go.ChangeMaps (open_string shut_string)
open Go.ChangeShapes Go.WideShapes Go.ChangeAt Go.RowKit
set_option maxRecDepth 100000 in
theorem JF (ts:List aC) (A:Option Addr) (c:Nat) (hs:Sizes ts) (t:Int) (_:I64 t) (m:List UInt8) (_:m.length≤140737488351232) (w:World) (hL:AP w) (ht:bG w w.heap.size (.slice A ts.length c) ts) :
  Calls Tryz.prog 4 #[.agg #[.slice A ts.length c],.int .i64 t,.string ⟨m.toArray⟩] w fun e w' => e = .returned (.bool true)∧Below w.heap.size w w':=by
 have HEx:=Lib.hid (fun W h => KT ts A c t m W hs h)
 have HRx:=Lib.hid (fun W h => WH ts A c t m W hs h)
 have hre:=fun er h => uZ (ts:=ts) (t:=t) (m:=m) (er:=er) h
 have hpl:=fun q h => ZC (ts:=ts) (t:=t) (m:=m) (q:=q) h
 generalize iE ts t m=r at *
 have HT:=Lib.hid ht
 have HL:=Lib.hid hL
 clear ht hs hL
 go_enter Tryz.func4,Tryz.ntmps4
 go_upto_region 1 with fail
 generalize dJ:w.alloc _=wd2
 have ⟨hb1,S⟩:=bH dJ
 clear dJ
 have hw4:=hb1
 clear hb1
 have ay:=S.out.e0
 go_wp2_with fail
 clear ay
 ((with_reducible refine (EM _ (HL.out.on hw4)).mono ?_);rintro e qM ⟨rfl,hb6⟩)
 replace S:=b1 S hb6
 replace hw4:=dT hw4 hb6
 clear hb6
 have ay:=S.out.e0
 go_wp2_with fail
 clear ay
 ((with_reducible refine (Rt ts A c m _ (HT.out.on hw4)).mono ?_);rintro e oW ⟨⟨fb,rfl⟩,hb8⟩)
 replace S:=b1 S hb8
 replace hw4:=dT hw4 hb8
 clear hb8
 cases fb with
 | false =>
  go_wp2_with fail
  ((with_reducible refine (EM _ (HL.out.on hw4)).mono ?_);rintro e AY ⟨rfl,mG⟩)
  replace S:=b1 S mG
  replace hw4:=dT hw4 mG
  clear mG
  go_wp2_with fail
  go_ret
  exact ⟨rfl,hw4⟩
 | true =>
  have ay:=S.out.e0
  rcases r with er | ⟨⟨p,n⟩ | v⟩
  ·
   clear hre hpl
   go_wp2_with fail
   clear ay
   ((with_reducible refine (HEx.out _ (HT.out.on hw4)).mono ?_);rintro e rO ⟨jl,rfl⟩)
   replace S:=b1 S jl
   replace hw4:=dT hw4 jl
   clear jl
   have MV:=Has.made rO 38 #[.slice none 0 0,.int .i64 0]
   go_upto_region 4 with (refine wpList_store_row rfl 38 _ _ rfl rO.heap.size _ rfl rfl 38 _ MV (by kernel_rfl) rfl (by simp [Value.oneCell']) ?_)
   clear MV
   generalize ng:rO.alloc _=xP
   have ⟨qL,V⟩:=bH ng
   clear ng
   have PV:=S.out.here
   have PG:=hw4.size
   replace S:=b1 S qL
   replace hw4:=dT hw4 qL
   clear qL
   generalize rO.heap.size=g16 at *
   generalize hE20:xP.setRow _ _=nY
   replace S:=f1 S (eR hE20)
   replace V:=aK V hE20
   replace hw4:=tr hw4 hE20
   clear hE20
   have ay:=S.out.e0
   go_wp2_with fail
   clear ay
   ((with_reducible refine (HRx.out _ (HT.out.on hw4)).mono ?_);rintro e qj ⟨yj,rfl⟩)
   obtain ⟨S,V⟩:=b2 S V yj
   replace hw4:=dT hw4 yj
   clear yj
   have MV:=Has.made qj 38 #[.slice none 0 0,.int .i64 0]
   go_upto_region 5 with (refine wpList_store_row rfl 38 _ _ rfl qj.heap.size _ rfl rfl 38 _ MV (by kernel_rfl) rfl (by simp [Value.oneCell']) ?_)
   clear MV
   generalize jQ:qj.alloc _=kF
   have ⟨jB,U⟩:=bH jQ
   clear jQ
   have Gq:=S.out.here
   have Gs:=V.out.here
   have Fb:=hw4.size
   obtain ⟨S,V⟩:=b2 S V jB
   replace hw4:=dT hw4 jB
   clear jB
   generalize qj.heap.size=Vm at *
   generalize mO:kF.setRow _ _=nX
   obtain ⟨S,V⟩:=f2 S V (eR mO)
   replace U:=aK U mO
   replace hw4:=tr hw4 mO
   clear mO
   have ay:=S.out.e0
   obtain ⟨eH,dP⟩:=V.out.c2
   obtain ⟨Ea,Eb⟩:=U.out.c2
   go_wp2_with fail
   clear ay eH dP Ea Eb
   ((with_reducible refine (Ii [] [] 0 0 _ _ _ (by simp) (by simp) (World.ownsRow_nil _ _ _ _) (World.ownsRow_nil _ _ _ _)).mono ?_);rintro e zC ⟨rfl,qK⟩)
   obtain ⟨S,V,U⟩:=b3 S V U qK
   replace hw4:=dT hw4 qK
   clear qK
   go_wp2_with fail
   go_ret
   exact ⟨au (by simp),hw4⟩
  ·
   have hp:=hpl _ rfl
   clear hre hpl
   have hp:=hp _ _ rfl
   obtain ⟨LX,rP⟩ : ∃ n,n=(oW).heap.size:=⟨_,rfl⟩
   have hzl:=(hw4).size
   have hsl:=S.out.here
   rw [← rP] at hzl hsl
   go_wp2_with fail
   clear ay
   ((with_reducible refine (HEx.out _ (HT.out.on hw4)).mono ?_);rintro e tV ⟨jL,fp,rfl,hown⟩)
   replace S:=b1 S jL
   replace hw4:=dT hw4 jL
   clear jL
   obtain ⟨A1,n1,rfl⟩:=aF hown
   rw [← rP] at hown
   clear rP
   obtain ⟨BX,yU⟩ : ∃ n,n=(tV).heap.size:=⟨_,rfl⟩
   have N:=Lib.hid (Kept.kM hown yU)
   clear hown yU
   have MV:=Has.made tV 38 #[.slice none 0 0,.int .i64 0]
   go_upto_region 4 with (refine wpList_store_row rfl 38 _ _ rfl tV.heap.size _ rfl rfl 38 _ MV (by kernel_rfl) rfl (by simp [Value.oneCell']) ?_)
   clear MV
   generalize ML:tV.alloc _=Fg
   have ⟨DN,V⟩:=bH ML
   clear ML
   have ag3:=S.out.here
   have XG:=N.out.le
   have Lu:=hw4.size
   obtain ⟨S,N⟩:=b2 S N DN
   replace hw4:=dT hw4 DN
   clear DN
   generalize tV.heap.size=g39 at *
   generalize xW:Fg.setRow _ _=uP
   obtain ⟨S,N⟩:=f2 S N (eR xW)
   replace V:=aK V xW
   replace hw4:=tr hw4 xW
   clear xW
   have ay:=S.out.e0
   obtain ⟨gV,rfl⟩ : ∃ g,g=g39:=⟨_,rfl⟩
   obtain ⟨LY,V7⟩ : ∃ n,n=(uP).heap.size:=⟨_,rfl⟩
   have hvl:=V.out.here
   have hsl2:=S.out.here
   have hBl:=N.out.le
   rw [← V7] at hvl hsl2 hBl
   go_wp2_with fail
   clear ay
   ((with_reducible refine (HRx.out _ (HT.out.on hw4)).mono ?_);rintro e zT ⟨qC,fp,rfl,hown⟩)
   obtain ⟨S,V,N⟩:=b3 S V N qC
   replace hw4:=dT hw4 qC
   clear qC
   obtain ⟨A2,n2,rfl⟩:=aF hown
   rw [← V7] at hown
   clear V7
   obtain ⟨BY,Q9⟩ : ∃ n,n=(zT).heap.size:=⟨_,rfl⟩
   have M:=Lib.hid (Kept.kM hown Q9)
   clear hown Q9
   have MV:=Has.made zT 38 #[.slice none 0 0,.int .i64 0]
   go_upto_region 5 with (refine wpList_store_row rfl 38 _ _ rfl zT.heap.size _ rfl rfl 38 _ MV (by kernel_rfl) rfl (by simp [Value.oneCell']) ?_)
   clear MV
   generalize rZ:zT.alloc _=yL
   have ⟨FB,U⟩:=bH rZ
   clear rZ
   have Px:=S.out.here
   have LC:=V.out.here
   have LD:=N.out.le
   have Fa:=M.out.le
   have IZ:=hw4.size
   obtain ⟨S,V,N,M⟩:=b4 S V N M FB
   replace hw4:=dT hw4 FB
   clear FB
   generalize zT.heap.size=g50 at *
   generalize tK:yL.setRow _ _=Bq
   obtain ⟨S,V,N,M⟩:=f4 S V N M (eR tK)
   replace U:=aK U tK
   replace hw4:=tr hw4 tK
   clear tK
   have ay:=S.out.e0
   obtain ⟨eH,dP⟩:=V.out.c2
   obtain ⟨Ea,Eb⟩:=U.out.c2
   go_wp2_with fail
   clear ay eH dP Ea Eb
   ((with_reducible refine (Ii p p n n _ _ _ hp hp (aH N.out.now (Nat.zero_le _)) (aH M.out.now (Nat.zero_le _))).mono ?_);rintro e oL ⟨rfl,yX⟩)
   obtain ⟨S,V,U,N,M⟩:=b5 S V U N M yX
   replace hw4:=dT hw4 yX
   clear yX
   go_wp2_with fail
   go_ret
   exact ⟨au (by simp),hw4⟩
  clear hre hpl
  go_wp2_with fail
  clear ay
  ((with_reducible refine (HEx.out _ (HT.out.on hw4)).mono ?_);rintro e zW ⟨pF,rfl⟩)
  replace S:=b1 S pF
  replace hw4:=dT hw4 pF
  clear pF
  have MV:=Has.made zW 38 #[.slice none 0 0,.int .i64 0]
  go_upto_region 4 with (refine wpList_store_row rfl 38 _ _ rfl zW.heap.size _ rfl rfl 38 _ MV (by kernel_rfl) rfl (by simp [Value.oneCell']) ?_)
  clear MV
  generalize rQ:zW.alloc _=MH
  have ⟨yt,V⟩:=bH rQ
  clear rQ
  have Gt:=S.out.here
  have L9:=hw4.size
  replace S:=b1 S yt
  replace hw4:=dT hw4 yt
  clear yt
  generalize zW.heap.size=g65 at *
  generalize zX:MH.setRow _ _=MO
  replace S:=f1 S (eR zX)
  replace V:=aK V zX
  replace hw4:=tr hw4 zX
  clear zX
  have ay:=S.out.e0
  go_wp2_with fail
  clear ay
  ((with_reducible refine (HRx.out _ (HT.out.on hw4)).mono ?_);rintro e GX ⟨yu,rfl⟩)
  obtain ⟨S,V⟩:=b2 S V yu
  replace hw4:=dT hw4 yu
  clear yu
  have MV:=Has.made GX 38 #[.slice none 0 0,.int .i64 0]
  go_upto_region 5 with (refine wpList_store_row rfl 38 _ _ rfl GX.heap.size _ rfl rfl 38 _ MV (by kernel_rfl) rfl (by simp [Value.oneCell']) ?_)
  clear MV
  generalize zN:GX.alloc _=Jb
  have ⟨ND,U⟩:=bH zN
  clear zN
  have XI:=S.out.here
  have Pz:=V.out.here
  have Qq:=hw4.size
  obtain ⟨S,V⟩:=b2 S V ND
  replace hw4:=dT hw4 ND
  clear ND
  generalize GX.heap.size=g75 at *
  generalize BD:Jb.setRow _ _=YI
  obtain ⟨S,V⟩:=f2 S V (eR BD)
  replace U:=aK U BD
  replace hw4:=tr hw4 BD
  clear BD
  have ay:=S.out.e0
  obtain ⟨eH,dP⟩:=V.out.c2
  obtain ⟨Ea,Eb⟩:=U.out.c2
  go_wp2_with fail
  clear ay eH dP Ea Eb
  ((with_reducible refine (Ii [] [] 0 0 _ _ _ (by simp) (by simp) (World.ownsRow_nil _ _ _ _) (World.ownsRow_nil _ _ _ _)).mono ?_);rintro e Gh ⟨rfl,aeb⟩)
  obtain ⟨S,V,U⟩:=b3 S V U aeb
  replace hw4:=dT hw4 aeb
  clear aeb
  go_wp2_with fail
  go_ret
  exact ⟨au (by simp),hw4⟩

namespace fr_DecodeExplain
set_option maxRecDepth 100000 in
theorem lifted (os:Os) (started:os.Started) (H:Type) (enc:TypeId × Value→H) :
    ReturnsInHanded {} Tryz.checked os 4 .any (fun w args => (Rows.decodeExplainSpec.pre enc Tryz.prog Tryz.f4 [] false w args∧laidMetH Tryz.prog EO w)∧sizedMet enc Tryz.prog Tryz.f4 (OpenSpec.ofChange Rows.decodeExplainSpec) false w args) (Rows.decodeExplainSpec.post enc Tryz.prog Tryz.f4 false true false false):=by
  refine returnsInHanded_of_change_and (C:=Tryz.checked) (X:=fun w _ => laidMetH Tryz.prog EO w) (fun _ _ _ hh h => h.of_heap hh) Vx started (by kernel_rfl) Tryz.func4
    (ChangeSpec.witness_shaped (enc:=enc) (C:=Tryz.checked) (os:=os) (X:=fun w _ => laidMetH Tryz.prog EO w) false (World.doorLaid Tryz.prog 400 os) #[.agg #[.slice none 0 0],.int .i64 0,.string ByteArray.empty] 8 rfl (World.shaped_of_RefB (by kernel_rfl) (by kernel_rfl)) (by kernel_rfl) (by kernel_rfl) (by kernel_rfl) (door_met os _)) ?_
  intro W base args ds gs before hval0 hW hcnd hsz0 hLd _
  have hsz:(DataW.weightsEach Tryz.prog (Tryz.f4.params.toList ++ Rows.decodeExplainSpec.plain.varTypes Tryz.prog) (ds ++ gs)).all (· ≤ reachBytes)=true:=hsz0
  have hval:∀ (j:Nat) t v,Tryz.f4.params[j]?=some t→args[j]?=some v→Value.okWide Tryz.prog W .any base t v:=hval0
  have hW':=hW
  have hlt:∀ p ∈ before,p.block < W.heap.size:=fun p hp => hW.lt p hp
  obtain ⟨p,q,hA0,hV,rfl,hfz,hnd⟩:=hW
  have hA:DataW.TrodAll enc Tryz.prog W 0 (fun _ => true) true Tryz.f4.params.toList args.toList ds p:=hA0
  have hA2:=hA
  rw [Tryz.params4] at hA hval hsz
  obtain ⟨v0,vs0,d0,ds0,p0,q0,hargs,rfl,hpq,h0,r0⟩:=trodAll_cons hA
  obtain ⟨v1,vs1,d1,ds1,p1,q1,rfl,rfl,rfl,h1,r1⟩:=trodAll_cons r0
  obtain ⟨v2,vs2,d2,ds2,p2,q2,rfl,rfl,rfl,h2,r2⟩:=trodAll_cons r1
  obtain ⟨rfl,rfl,rfl⟩:=trodAll_nil r2
  obtain rfl:args = #[v0,v1,v2]:=by cases args;simp_all
  obtain ⟨rfl,rfl⟩:=trodVars_none hV
  obtain ⟨a0,A0,c0,rfl,z0,u0⟩:=Le (hval 0 24 v0 rfl rfl) h0 (Oz hsz (j:=0) rfl (by simp))
  obtain ⟨a1,rfl,rfl,rfl,w1⟩:=open_int Tryz.underlying3 (hval 1 3 v1 rfl rfl) h1
  have u1:=wf_i64 w1
  obtain ⟨x2,rfl,rfl,rfl,w2⟩:=open_string Tryz.underlying9 (hval 2 9 v2 rfl rfl) h2
  obtain ⟨a2,rfl,u2⟩:=yg x2
  have s2:a2.length≤140737488351232:=by
    have h:=sized_string hsz (j:=2) (t:=9) (bytes:=a2) rfl (by simp)
    simpa [reachBytes] using h
  clear hA0 hval0
  refine (JF a0 A0 c0 z0 a1 u1 a2 s2 W (XB hLd) u0).mono fun e W' ⟨he,bel⟩ => ?_
  subst he
  exact ⟨_,rfl,_,_,_,[],_,[],hW',trodAll_mk1 (shut_bool Tryz.underlying4 _),IK Vy bel _ _ _ _ (by kernel_rfl) hA2 (fun x hx => hlt x (by simpa using hx)),rfl,bel.frame _,fun h => by cases h⟩
theorem proved:Rows.DecodeExplainSaid :=
  OpenClaim.holds_of_wide 4 Tryz.f4 rfl rfl rfl rfl rfl rfl rfl ⟨rfl,rfl,rfl,rfl,rfl⟩ rfl rfl rfl rfl rfl (by kernel_rfl) Tryz.func4 (by kernel_rfl)
    (of_decide_eq_true (by kernel_rfl)) (by unfold Func.isWrapper;first | (rw [if_pos (by decide +kernel)];kernel_rfl) | (rw [if_neg (by decide +kernel)];exact ⟨rfl,rfl⟩))
    (fun os started H enc _ => lifted os started H enc)
#print axioms proved
theorem card:Rows.DecodeExplainCardSaid :=
  Claim7.holds_tied_plain_at .later [] [.data,.data,.data,.data] true _ false proved (fun _ h => by cases h) (by kernel_rfl) (fun _ h => by cases h) decodeExplain_row_tie rfl ⟨rfl,rfl⟩ (by kernel_rfl) rfl
    (fun f fn hf hfn => by
      obtain rfl:f=4:=Option.some.inj ((show Tryz.prog.funcNamed "sheave/sheavelaw10.DecodeExplain" = some 4 by kernel_rfl).symm.trans hf) |>.symm
      obtain rfl:fn=Tryz.f4:=(Option.some.inj (Tryz.func4.symm.trans hfn)).symm
      exact ⟨by kernel_rfl,fun j t ht => by
        rw [Tryz.params4] at ht
        have hm:t ∈ [24,3,9]:=by simpa using Array.mem_of_getElem? ht
        have hall:([24,3,9].all fun u => !Tryz.prog.wantsStandIn u)=true:=by kernel_rfl
        exact (show Tryz.prog.wantsStandIn t=false by simpa using List.all_eq_true.1 hall t hm)⟩)
    (by kernel_rfl)
#print axioms card
end fr_DecodeExplain
end Go.Proofs.YthkfapcadhnaeaaGreatDoor

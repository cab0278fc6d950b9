/- The statement DecodeMessage: Decode returns the value that a reader sees in any message, or the specified error, and Accepts reports which it is, as the reference does. No condition. -/
import Derived.Test.YthkfapcadhnaeaaGreatDoorLawR0
import Derived.Test.YthkfapcadhnaeaaGreatDoorRefI
import Derived.Test.YthkfapcadhnaeaaGreatDoorHAM
set_option maxHeartbeats 1600000
namespace Go.Proofs.YthkfapcadhnaeaaGreatDoor
open Go.ChangeMaps (open_string shut_string)
open Go.ChangeShapes Go.WideShapes Go.ChangeAt Go.RowKit
theorem Kept.ajP {W:World} {v:Val} {vk vi vr:Value} {B:Nat} (h:ValAt W W.heap.size v vk vi vr) (hB:B=W.heap.size):Kept (ValAt · B v vk vi vr) W 0 B:=by
 subst hB;exact ⟨h,fun _ hk => h.keep (fun p hp => World.cell?_of_block (hk p.block (Nat.zero_le _) hp)) (Nat.le_refl _),Nat.le_refl _⟩
theorem XC (W:World):Calls Tryz.prog 13 #[.agg #[.int .i64 0,.bool false,.int .i64 0,.string ⟨#[]⟩,.int .i64 0,.slice none 0 0,.slice none 0 0,.slice none 0 0],.agg #[.int .i64 0,.bool false,.int .i64 0,.string ⟨#[]⟩,.int .i64 0,.slice none 0 0,.slice none 0 0,.slice none 0 0]] W fun e w' => e = .returned (.bool true)∧Below W.heap.size W w':=by
 have:=OD kJ kJ _ _ _ _ _ _ W (Kt W _) (Kt W _)
 rw [(yE _ _).2 rfl] at this
 exact this
set_option maxRecDepth 100000 in
theorem JE (ts:List aC) (A:Option Addr) (c:Nat) (hs:Sizes ts) (t:Int) (_:I64 t) (m:List UInt8) (_:m.length≤140737488351232) (w:World) (hL:AP w) (ht:bG w w.heap.size (.slice A ts.length c) ts) :
  Calls Tryz.prog 3 #[.agg #[.slice A ts.length c],.int .i64 t,.string ⟨m.toArray⟩] w fun e w' => e = .returned (.bool true)∧Below w.heap.size w w':=by
 have HDe:=Lib.hid (fun W h => decode_any ts A c t m W hs h)
 have rU:=Lib.hid (fun W h => Xa ts A c t m W hs h)
 have XD:=Lib.hid (fun W h => KU ts A c t m W hs h)
 have hre:=fun er h => uZ (ts:=ts) (t:=t) (m:=m) (er:=er) h
 generalize iE ts t m=r at *
 have HT:=Lib.hid ht
 have HL:=Lib.hid hL
 clear ht hs hL
 go_enter Tryz.func3,Tryz.ntmps3
 go_upto_region 1 with fail
 generalize dJ:w.alloc _=wd2
 have ⟨hb1,S⟩:=bH dJ
 clear dJ
 have hw4:=hb1
 clear hb1
 have ay:=S.out.e0
 go_wp2_with fail
 clear ay
 ((with_reducible refine (EM _ (HL.out.on hw4)).mono ?_);rintro e qM ⟨rfl,hb6⟩)
 replace S:=b1 S hb6
 replace hw4:=dT hw4 hb6
 clear hb6
 have ay:=S.out.e0
 go_wp2_with fail
 clear ay
 ((with_reducible refine (Rt ts A c m _ (HT.out.on hw4)).mono ?_);rintro e oW ⟨⟨fb,rfl⟩,hb8⟩)
 replace S:=b1 S hb8
 replace hw4:=dT hw4 hb8
 clear hb8
 cases fb with
 | false =>
  go_wp2_with fail
  ((with_reducible refine (EM _ (HL.out.on hw4)).mono ?_);rintro e AY ⟨rfl,mG⟩)
  replace S:=b1 S mG
  replace hw4:=dT hw4 mG
  clear mG
  go_wp2_with fail
  go_ret
  exact ⟨rfl,hw4⟩
 | true =>
  have ay:=S.out.e0
  rcases r with er | ⟨pn | v⟩
  ·
   have her:=hre er rfl
   have he1:(er == 0)=false:=by rw [beq_eq_false_iff_ne];omega
   clear hre her
   go_wp2_with fail
   clear ay
   ((with_reducible refine (HDe.out _ (HT.out.on hw4)).mono ?_);rintro e rO ⟨jl,rfl⟩)
   replace S:=b1 S jl
   replace hw4:=dT hw4 jl
   clear jl
   simp only [pW]
   have MV:=Has.made rO 30 #[.int .i64 0,.bool false,.int .i64 0,.string ⟨#[]⟩,.int .i64 0,.slice none 0 0,.slice none 0 0,.slice none 0 0]
   go_upto_region 4 with (refine wpList_store_row rfl 30 _ _ rfl rO.heap.size _ rfl rfl 30 _ MV (by kernel_rfl) rfl (by simp [Value.oneCell']) ?_)
   clear MV
   generalize ng:rO.alloc _=xP
   have ⟨qL,V⟩:=bH ng
   clear ng
   have PV:=S.out.here
   have PG:=hw4.size
   replace S:=b1 S qL
   replace hw4:=dT hw4 qL
   clear qL
   generalize rO.heap.size=g16 at *
   generalize hE20:xP.setRow _ _=nY
   replace S:=f1 S (eR hE20)
   replace V:=aK V hE20
   replace hw4:=tr hw4 hE20
   clear hE20
   have ay:=S.out.e0
   go_wp2_with fail
   clear ay
   ((with_reducible refine (rU.out _ (HT.out.on hw4)).mono ?_);rintro e qj ⟨yj,rfl⟩)
   obtain ⟨S,V⟩:=b2 S V yj
   replace hw4:=dT hw4 yj
   clear yj
   simp only [pW]
   have MV:=Has.made qj 30 #[.int .i64 0,.bool false,.int .i64 0,.string ⟨#[]⟩,.int .i64 0,.slice none 0 0,.slice none 0 0,.slice none 0 0]
   go_upto_region 5 with (refine wpList_store_row rfl 30 _ _ rfl qj.heap.size _ rfl rfl 30 _ MV (by kernel_rfl) rfl (by simp [Value.oneCell']) ?_)
   clear MV
   generalize jQ:qj.alloc _=kF
   have ⟨jB,U⟩:=bH jQ
   clear jQ
   have Gq:=S.out.here
   have Gs:=V.out.here
   have Fb:=hw4.size
   obtain ⟨S,V⟩:=b2 S V jB
   replace hw4:=dT hw4 jB
   clear jB
   generalize qj.heap.size=Vm at *
   generalize mO:kF.setRow _ _=nX
   obtain ⟨S,V⟩:=f2 S V (eR mO)
   replace U:=aK U mO
   replace hw4:=tr hw4 mO
   clear mO
   have ay:=S.out.e0
   obtain ⟨eH,dP,eP,eU,dY,dW,dK,eG⟩:=V.out.c8
   obtain ⟨Ea,Eb,Wx,Wy,WA,WB,WC,WE⟩:=U.out.c8
   go_wp2_with fail
   simp only [okR] at XD
   clear ay eH dP eP eU dY dW dK eG Ea Eb Wx Wy WA WB WC WE
   ((with_reducible refine (XC _).mono ?_);rintro e zC ⟨rfl,qK⟩)
   obtain ⟨S,V,U⟩:=b3 S V U qK
   replace hw4:=dT hw4 qK
   clear qK
   skip
   have ay:=S.out.e0
   go_wp2_with fail
   clear ay
   ((with_reducible refine (XD.out _ (HT.out.on hw4)).mono ?_);rintro e tV ⟨rfl,jL⟩)
   obtain ⟨S,V,U⟩:=b3 S V U jL
   replace hw4:=dT hw4 jL
   clear jL
   go_wp2_with fail
   go_ret
   exact ⟨rfl,hw4⟩
  ·
   clear hre
   go_wp2_with fail
   clear ay
   ((with_reducible refine (HDe.out _ (HT.out.on hw4)).mono ?_);rintro e o9 ⟨Ac,rfl⟩)
   replace S:=b1 S Ac
   replace hw4:=dT hw4 Ac
   clear Ac
   simp only [pW]
   have MV:=Has.made o9 30 #[.int .i64 0,.bool false,.int .i64 0,.string ⟨#[]⟩,.int .i64 0,.slice none 0 0,.slice none 0 0,.slice none 0 0]
   go_upto_region 4 with (refine wpList_store_row rfl 30 _ _ rfl o9.heap.size _ rfl rfl 30 _ MV (by kernel_rfl) rfl (by simp [Value.oneCell']) ?_)
   clear MV
   generalize uY:o9.alloc _=MN
   have ⟨ad9,V⟩:=bH uY
   clear uY
   have Lu:=S.out.here
   have PL:=hw4.size
   replace S:=b1 S ad9
   replace hw4:=dT hw4 ad9
   clear ad9
   generalize o9.heap.size=g41 at *
   generalize mF:MN.setRow _ _=wI
   replace S:=f1 S (eR mF)
   replace V:=aK V mF
   replace hw4:=tr hw4 mF
   clear mF
   have ay:=S.out.e0
   go_wp2_with fail
   clear ay
   ((with_reducible refine (rU.out _ (HT.out.on hw4)).mono ?_);rintro e wF ⟨FB,rfl⟩)
   obtain ⟨S,V⟩:=b2 S V FB
   replace hw4:=dT hw4 FB
   clear FB
   simp only [pW]
   have MV:=Has.made wF 30 #[.int .i64 0,.bool false,.int .i64 0,.string ⟨#[]⟩,.int .i64 0,.slice none 0 0,.slice none 0 0,.slice none 0 0]
   go_upto_region 5 with (refine wpList_store_row rfl 30 _ _ rfl wF.heap.size _ rfl rfl 30 _ MV (by kernel_rfl) rfl (by simp [Value.oneCell']) ?_)
   clear MV
   generalize FC:wF.alloc _=G7
   have ⟨hb48,U⟩:=bH FC
   clear FC
   have LC:=S.out.here
   have LD:=V.out.here
   have Fa:=hw4.size
   obtain ⟨S,V⟩:=b2 S V hb48
   replace hw4:=dT hw4 hb48
   clear hb48
   generalize wF.heap.size=g51 at *
   generalize jk:G7.setRow _ _=qE
   obtain ⟨S,V⟩:=f2 S V (eR jk)
   replace U:=aK U jk
   replace hw4:=tr hw4 jk
   clear jk
   have ay:=S.out.e0
   obtain ⟨eH,dP,eP,eU,dY,dW,dK,eG⟩:=V.out.c8
   obtain ⟨Ea,Eb,Wx,Wy,WA,WB,WC,WE⟩:=U.out.c8
   go_wp2_with fail
   simp only [okR] at XD
   clear ay eH dP eP eU dY dW dK eG Ea Eb Wx Wy WA WB WC WE
   ((with_reducible refine (XC _).mono ?_);rintro e al6 ⟨rfl,Bh⟩)
   obtain ⟨S,V,U⟩:=b3 S V U Bh
   replace hw4:=dT hw4 Bh
   clear Bh
   skip
   have ay:=S.out.e0
   go_wp2_with fail
   clear ay
   ((with_reducible refine (XD.out _ (HT.out.on hw4)).mono ?_);rintro e acC ⟨rfl,Ny⟩)
   obtain ⟨S,V,U⟩:=b3 S V U Ny
   replace hw4:=dT hw4 Ny
   clear Ny
   go_wp2_with fail
   go_ret
   exact ⟨rfl,hw4⟩
  clear hre
  obtain ⟨LX,rP⟩ : ∃ n,n=(oW).heap.size:=⟨_,rfl⟩
  have hzl:=(hw4).size
  have hsl:=S.out.here
  rw [← rP] at hzl hsl
  go_wp2_with fail
  clear ay
  ((with_reducible refine (HDe.out _ (HT.out.on hw4)).mono ?_);rintro e Ij ⟨yt,vk,vi,vr,rfl,hv⟩)
  replace S:=b1 S yt
  replace hw4:=dT hw4 yt
  clear yt
  obtain ⟨A1,n1,A2,n2,A3,n3,rfl,rfl,rfl⟩ : ∃ A1 n1 A2 n2 A3 n3,vk = .slice A1 v.keys.length n1∧vi = .slice A2 v.items.length n2∧vr = .slice A3 v.rest.length n3:=by
   obtain ⟨_,⟨A1,n1,h1,_⟩,_⟩:=hv.keys
   obtain ⟨_,⟨A2,n2,h2,_⟩,_⟩:=hv.items
   obtain ⟨_,A3,n3,h3,_⟩:=hv.rest
   exact ⟨A1,n1,A2,n2,A3,n3,h1,h2,h3⟩
  obtain ⟨BX,yU⟩ : ∃ n,n=(Ij).heap.size:=⟨_,rfl⟩
  have N:=Lib.hid (Kept.Yv hv rP yU)
  clear hv rP yU
  simp only [iC]
  have MV:=Has.made Ij 30 #[.int .i64 0,.bool false,.int .i64 0,.string ⟨#[]⟩,.int .i64 0,.slice none 0 0,.slice none 0 0,.slice none 0 0]
  go_upto_region 4 with (refine wpList_store_row rfl 30 _ _ rfl Ij.heap.size _ rfl rfl 30 _ MV (by kernel_rfl) rfl (by simp [Value.oneCell']) ?_)
  clear MV
  generalize Ah:Ij.alloc _=Qp
  have ⟨Nz,V⟩:=bH Ah
  clear Ah
  have L9:=S.out.here
  have Vd:=N.out.le
  have XW:=hw4.size
  obtain ⟨S,N⟩:=b2 S N Nz
  replace hw4:=dT hw4 Nz
  clear Nz
  generalize Ij.heap.size=g66 at *
  generalize Fv:Qp.setRow _ _=GX
  obtain ⟨S,N⟩:=f2 S N (eR Fv)
  replace V:=aK V Fv
  replace hw4:=tr hw4 Fv
  clear Fv
  have ay:=S.out.e0
  obtain ⟨gV,rfl⟩ : ∃ g,g=g66:=⟨_,rfl⟩
  go_wp2_with fail
  clear ay
  ((with_reducible refine (rU.out _ (HT.out.on hw4)).mono ?_);rintro e Ec ⟨aea,vk,vi,vr,rfl,hv⟩)
  obtain ⟨S,V,N⟩:=b3 S V N aea
  replace hw4:=dT hw4 aea
  clear aea
  obtain ⟨B1,k1,B2,k2,B3,k3,rfl,rfl,rfl,-,-,-⟩:=hv.forms
  obtain ⟨BY,Q9⟩ : ∃ n,n=(Ec).heap.size:=⟨_,rfl⟩
  have M:=Lib.hid (Kept.ajP hv Q9)
  clear hv Q9
  simp only [iC]
  have MV:=Has.made Ec 30 #[.int .i64 0,.bool false,.int .i64 0,.string ⟨#[]⟩,.int .i64 0,.slice none 0 0,.slice none 0 0,.slice none 0 0]
  go_upto_region 5 with (refine wpList_store_row rfl 30 _ _ rfl Ec.heap.size _ rfl rfl 30 _ MV (by kernel_rfl) rfl (by simp [Value.oneCell']) ?_)
  clear MV
  generalize MS:Ec.alloc _=UR
  have ⟨NC,U⟩:=bH MS
  clear MS
  have Qq:=S.out.here
  have WG:=V.out.here
  have PX:=N.out.le
  have Vf:=M.out.le
  have UQ:=hw4.size
  obtain ⟨S,V,N,M⟩:=b4 S V N M NC
  replace hw4:=dT hw4 NC
  clear NC
  generalize Ec.heap.size=g77 at *
  generalize zf:UR.setRow _ _=MW
  obtain ⟨S,V,N,M⟩:=f4 S V N M (eR zf)
  replace U:=aK U zf
  replace hw4:=tr hw4 zf
  clear zf
  have ay:=S.out.e0
  have hNl:=N.out.le
  have hMl:=M.out.le
  obtain ⟨eH,dP,eP,eU,dY,dW,dK,eG⟩:=V.out.c8
  obtain ⟨Ea,Eb,Wx,Wy,WA,WB,WC,WE⟩:=U.out.c8
  go_wp2_with fail
  simp only [okR] at XD
  clear ay eH dP eP eU dY dW dK eG Ea Eb Wx Wy WA WB WC WE
  ((with_reducible refine (OD v v _ _ _ _ _ _ _ ((N.out.now.Yw (w:=w) (by omega) hNl).at_ (fun b hb => by unfold Jg at hb;omega)) (M.out.now.keep (fun _ _ => rfl) hMl)).mono ?_);rintro e Gj ⟨rfl,BH⟩)
  obtain ⟨S,V,U,N,M⟩:=b5 S V U N M BH
  replace hw4:=dT hw4 BH
  clear BH
  rw [(yE _ _).2 rfl]
  have ay:=S.out.e0
  go_wp2_with fail
  clear ay
  ((with_reducible refine (XD.out _ (HT.out.on hw4)).mono ?_);rintro e DJ ⟨rfl,Ed⟩)
  obtain ⟨S,V,U,N,M⟩:=b5 S V U N M Ed
  replace hw4:=dT hw4 Ed
  clear Ed
  go_wp2_with fail
  go_ret
  exact ⟨rfl,hw4⟩

namespace fr_DecodeMessage
set_option maxRecDepth 100000 in
theorem lifted (os:Os) (started:os.Started) (H:Type) (enc:TypeId × Value→H) :
    ReturnsInHanded {} Tryz.checked os 3 .any (fun w args => (Rows.decodeMessageSpec.pre enc Tryz.prog Tryz.f3 [] false w args∧laidMetH Tryz.prog EO w)∧sizedMet enc Tryz.prog Tryz.f3 (OpenSpec.ofChange Rows.decodeMessageSpec) false w args) (Rows.decodeMessageSpec.post enc Tryz.prog Tryz.f3 false true false false):=by
  refine returnsInHanded_of_change_and (C:=Tryz.checked) (X:=fun w _ => laidMetH Tryz.prog EO w) (fun _ _ _ hh h => h.of_heap hh) Vx started (by kernel_rfl) Tryz.func3
    (ChangeSpec.witness_shaped (enc:=enc) (C:=Tryz.checked) (os:=os) (X:=fun w _ => laidMetH Tryz.prog EO w) false (World.doorLaid Tryz.prog 400 os) #[.agg #[.slice none 0 0],.int .i64 0,.string ByteArray.empty] 8 rfl (World.shaped_of_RefB (by kernel_rfl) (by kernel_rfl)) (by kernel_rfl) (by kernel_rfl) (by kernel_rfl) (door_met os _)) ?_
  intro W base args ds gs before hval0 hW hcnd hsz0 hLd _
  have hsz:(DataW.weightsEach Tryz.prog (Tryz.f3.params.toList ++ Rows.decodeMessageSpec.plain.varTypes Tryz.prog) (ds ++ gs)).all (· ≤ reachBytes)=true:=hsz0
  have hval:∀ (j:Nat) t v,Tryz.f3.params[j]?=some t→args[j]?=some v→Value.okWide Tryz.prog W .any base t v:=hval0
  have hW':=hW
  have hlt:∀ p ∈ before,p.block < W.heap.size:=fun p hp => hW.lt p hp
  obtain ⟨p,q,hA0,hV,rfl,hfz,hnd⟩:=hW
  have hA:DataW.TrodAll enc Tryz.prog W 0 (fun _ => true) true Tryz.f3.params.toList args.toList ds p:=hA0
  have hA2:=hA
  rw [Tryz.params3] at hA hval hsz
  obtain ⟨v0,vs0,d0,ds0,p0,q0,hargs,rfl,hpq,h0,r0⟩:=trodAll_cons hA
  obtain ⟨v1,vs1,d1,ds1,p1,q1,rfl,rfl,rfl,h1,r1⟩:=trodAll_cons r0
  obtain ⟨v2,vs2,d2,ds2,p2,q2,rfl,rfl,rfl,h2,r2⟩:=trodAll_cons r1
  obtain ⟨rfl,rfl,rfl⟩:=trodAll_nil r2
  obtain rfl:args = #[v0,v1,v2]:=by cases args;simp_all
  obtain ⟨rfl,rfl⟩:=trodVars_none hV
  obtain ⟨a0,A0,c0,rfl,z0,u0⟩:=Le (hval 0 24 v0 rfl rfl) h0 (Oz hsz (j:=0) rfl (by simp))
  obtain ⟨a1,rfl,rfl,rfl,w1⟩:=open_int Tryz.underlying3 (hval 1 3 v1 rfl rfl) h1
  have u1:=wf_i64 w1
  obtain ⟨x2,rfl,rfl,rfl,w2⟩:=open_string Tryz.underlying9 (hval 2 9 v2 rfl rfl) h2
  obtain ⟨a2,rfl,u2⟩:=yg x2
  have s2:a2.length≤140737488351232:=by
    have h:=sized_string hsz (j:=2) (t:=9) (bytes:=a2) rfl (by simp)
    simpa [reachBytes] using h
  clear hA0 hval0
  refine (JE a0 A0 c0 z0 a1 u1 a2 s2 W (XB hLd) u0).mono fun e W' ⟨he,bel⟩ => ?_
  subst he
  exact ⟨_,rfl,_,_,_,[],_,[],hW',trodAll_mk1 (shut_bool Tryz.underlying4 _),IK Vy bel _ _ _ _ (by kernel_rfl) hA2 (fun x hx => hlt x (by simpa using hx)),rfl,bel.frame _,fun h => by cases h⟩
theorem proved:Rows.DecodeMessageSaid :=
  OpenClaim.holds_of_wide 3 Tryz.f3 rfl rfl rfl rfl rfl rfl rfl ⟨rfl,rfl,rfl,rfl,rfl⟩ rfl rfl rfl rfl rfl (by kernel_rfl) Tryz.func3 (by kernel_rfl)
    (of_decide_eq_true (by kernel_rfl)) (by unfold Func.isWrapper;first | (rw [if_pos (by decide +kernel)];kernel_rfl) | (rw [if_neg (by decide +kernel)];exact ⟨rfl,rfl⟩))
    (fun os started H enc _ => lifted os started H enc)
#print axioms proved
theorem card:Rows.DecodeMessageCardSaid :=
  Claim7.holds_tied_plain_at .later [] [.data,.data,.data,.data] true _ false proved (fun _ h => by cases h) (by kernel_rfl) (fun _ h => by cases h) decodeMessage_row_tie rfl ⟨rfl,rfl⟩ (by kernel_rfl) rfl
    (fun f fn hf hfn => by
      obtain rfl:f=3:=Option.some.inj ((show Tryz.prog.funcNamed "sheave/sheavelaw10.DecodeMessage" = some 3 by kernel_rfl).symm.trans hf) |>.symm
      obtain rfl:fn=Tryz.f3:=(Option.some.inj (Tryz.func3.symm.trans hfn)).symm
      exact ⟨by kernel_rfl,fun j t ht => by
        rw [Tryz.params3] at ht
        have hm:t ∈ [24,3,9]:=by simpa using Array.mem_of_getElem? ht
        have hall:([24,3,9].all fun u => !Tryz.prog.wantsStandIn u)=true:=by kernel_rfl
        exact (show Tryz.prog.wantsStandIn t=false by simpa using List.all_eq_true.1 hall t hm)⟩)
    (by kernel_rfl)
#print axioms card
end fr_DecodeMessage
end Go.Proofs.YthkfapcadhnaeaaGreatDoor

/- Read, Decode, Explain, Error, Same of the reference. No condition. -/
import Derived.Test.YthkfapcadhnaeaaGreatDoorRefH
import Derived.Test.YthkfapcadhnaeaaGreatDoorRValid
import Derived.Test.YthkfapcadhnaeaaGreatDoorDecV
set_option maxHeartbeats 1600000
namespace Go.Proofs.YthkfapcadhnaeaaGreatDoor
open Go.ChangeShapes Go.WideShapes Go.ChangeAt Go.RowKit
def yx (ts:List aC) (t:Int):Int:=if eY ts≠0 then eY ts else if (fB ts t).isNone then 4 else 0
theorem aez (ts:List aC) (t:Int) (m:List UInt8):iE ts t m=if yx ts t≠0 then .error (yx ts t) else if 4096 < m.length then .ok (.error ([],3)) else .ok (decP ts 200 t m []):=by
 unfold iE yx
 by_cases h:eY ts≠0
 · simp only [if_pos h]
 simp only [if_neg h]
 by_cases h2:(fB ts t).isNone
 · simp only [if_pos h2];rfl
 simp only [if_neg h2];rfl
theorem acs {ts:List aC} {t:Int} (h1:¬ (fB ts t).isSome=true):t < 0∨(ts.length:Int)≤t:=by
 unfold fB at h1
 by_cases h3:0≤t
 ·
  rw [if_pos h3] at h1
  have:ts.length≤t.toNat:=by simpa using h1
  omega
 omega
set_option maxRecDepth 100000 in
theorem aaT (ts:List aC) (A:Option Addr) (c:Nat) (t:Int) (w:World) (hs:Sizes ts) (hT:bG w w.heap.size (.slice A ts.length c) ts) :
  Calls Tryz.prog 28 #[.agg #[.slice A ts.length c],.int .i64 t] w fun e w' => e = .returned (.int .i64 (yx ts t))∧Below w.heap.size w w':=by
 have HV:=Lib.hid (fun W h => ZI ts A c W hs h)
 have HT:=Lib.hid hT
 clear hT hs
 go_enter Tryz.func28,Tryz.ntmps28
 go_upto_region 1 with fail
 generalize dJ:w.alloc _=wd2
 have ⟨hb1,S⟩:=bH dJ
 clear dJ
 have hw4:=hb1
 clear hb1
 have ay:=S.out.e0
 go_wp2_with fail
 clear ay
 ((with_reducible refine (HV.out _ (HT.out.on hw4)).mono ?_);rintro e qM ⟨rfl,hb6⟩)
 replace S:=b1 S hb6
 replace hw4:=dT hw4 hb6
 clear hb6
 clear HV HT
 have ay:=S.out.e0
 by_cases h0:eY ts=0
 ·
  by_cases h1:(fB ts t).isSome=true
  ·
   have HR:Hid (yx ts t=0):=by show _=_;unfold yx;rw [if_neg (by simp [h0]),if_neg (by cases hq:fB ts t <;> simp_all)]
   obtain ⟨n,rfl,hn,hx⟩:=AX h1
   rw [h0]
   clear h0 h1 hx
   have hni:¬ ((ts.length:Int)≤n):=by omega
   have hn0:¬ ((n:Int) < 0):=by omega
   go_wp2_with fail
   go_ret
   exact ⟨aV (by rw [HR.out]),hw4⟩
  have HR:Hid (yx ts t=4):=by show _=_;unfold yx;rw [if_neg (by simp [h0]),if_pos (by cases hq:fB ts t <;> simp_all)]
  have h2:=acs h1
  rw [h0]
  clear h0 h1
  by_cases h3:t < 0
  ·
   clear h2
   go_wp2_with fail
   go_ret
   exact ⟨aV (by rw [HR.out]),hw4⟩
  have h4:(ts.length:Int)≤t:=by omega
  clear h2
  go_wp2_with fail
  go_ret
  exact ⟨aV (by rw [HR.out]),hw4⟩
 have HR:Hid (yx ts t=eY ts):=by show _=_;unfold yx;rw [if_pos h0]
 have hb:(eY ts != 0)=true:=by simpa using h0
 generalize eY ts=q at *
 go_wp2_with fail
 go_ret
 exact ⟨aV (by rw [HR.out]),hw4⟩
def acu (C:Nat) (w:World) (r:Except Int fO) (e:Ending) (w':World):Prop:=match r with
 | .error er => Below w.heap.size w w'∧e = .returned (.tuple #[.agg #[.int .i64 0,.bool false,.int .i64 0,.string ⟨#[]⟩,.int .i64 0,.slice none 0 0,.slice none 0 0,.slice none 0 0,.slice none 0 0,.int .i64 0,.bool false],.int .i64 er])
 | .ok q => ∃ u,e = .returned (.tuple #[u,.int .i64 0])∧fG C w q (.returned u) w'
set_option maxRecDepth 100000 in
theorem RG (ts:List aC) (A:Option Addr) (c:Nat) (t:Int) (m:List UInt8) (C:Nat) (w:World) (hs:Sizes ts) (hC:C≤w.heap.size) (hT:bG w C (.slice A ts.length c) ts) :
  Calls Tryz.prog 39 #[.agg #[.slice A ts.length c],.int .i64 t,.string ⟨m.toArray⟩] w (acu C w (iE ts t m)):=by
 have HE:=Lib.hid (fun W h => aaT ts A c t W hs h)
 have HT:=Lib.hid hT
 have Hq:=Lib.hid (aez ts t m)
 have aT:=Lib.hid hC
 clear hT hs hC
 go_enter Tryz.func39,Tryz.ntmps39
 go_upto_region 1 with fail
 generalize Bc:w.alloc _=uJ
 generalize jZ:uJ.alloc _=kE
 have ⟨hb7,S,Z⟩:=dN Bc jZ
 clear Bc jZ
 have jS:=hb7
 clear hb7
 have ay:=S.out.e0
 go_wp2_with fail
 clear ay
 ((with_reducible refine (HE.out _ (HT.out.keep (fun _ hp => (jS).cell (Nat.lt_of_lt_of_le hp aT.out)) (Nat.le_trans aT.out (jS).size))).mono ?_);rintro e tN ⟨rfl,o7⟩)
 obtain ⟨S,Z⟩:=b2 S Z o7
 replace jS:=dT jS o7
 clear o7
 clear HE
 by_cases h0:yx ts t=0
 ·
  have hq:=Hq.out
  rw [if_neg (by simp [h0])] at hq
  have HE0:=Lib.hid h0
  rw [h0]
  clear h0
  by_cases h2:4096 < m.length
  ·
   have HR:Hid (iE ts t m = .ok (.error ([],3))):=by show _=_;rw [hq,if_pos h2]
   have QK:(4096:Int) < m.length:=by omega
   clear hq h2
   go_upto_region 5 with fail
   have hz:=Z.out.here
   go_wp2_with fail
   have UG:=S.out.here
   have XO:=Z.out.here
   have LH:=jS.size
   ((with_reducible refine (gu C [] _ 3 _ (by simp) (World.ownsRow_nil _ _ _ _)).mono ?_);rintro e lD aeA)
   have rV:=aeA.1
   obtain ⟨aW,aX,aY,bf,bn,bC,bD,bF,dL,dM,bY,aQ,rfl,N⟩:=aeA.take (w0:=w) (Old.of (jS.trans (rV.mono jS.size)) aT.out)
   obtain ⟨S,Z⟩:=b2 S Z rV
   replace jS:=dT jS rV
   clear rV aeA
   replace N:=Lib.hid N
   have iF:(#[aW,aX,aY,bf,bn,bC,bD,bF,dL,dM,bY] : Array Value).all (·.oneCell')=true:=by simpa using aQ
   generalize tN.heap.size=L16 at *
   have hNl:=N.out.le
   go_wp2_with (refine sR Z.out ?_)
   generalize mV:lD.setRow _ _=rC
   obtain ⟨S,N⟩:=f2 S N (eR mV)
   replace Z:=aK Z mV
   replace jS:=tr jS mV
   clear mV
   exact bodyPost_ret (v:=.tuple #[.agg #[aW,aX,aY,bf,bn,bC,bD,bF,dL,dM,bY],.int .i64 0]) (by simp [results,Tryz.results39,go_sem,Z.out.c11]) rfl ((by rw [HR.out];exact ⟨_,rfl,N.out.now.post jS aT.out (by omega) N.out.le⟩))
  have HR:Hid (iE ts t m = .ok (decP ts 200 t m [])):=by show _=_;rw [hq,if_neg h2]
  have QK:¬ (4096:Int) < m.length:=by omega
  have hv:eY ts=0∧(fB ts t).isSome=true:=by
   have h:=HE0.out
   unfold yx at h
   by_cases h1:eY ts=0
   ·
    refine ⟨h1,?_⟩
    rw [if_neg (by simp [h1])] at h
    cases hq:fB ts t with
    | none => rw [hq] at h;simp at h
    | some x => rfl
   rw [if_pos h1] at h;exact absurd h h1
  have HP:Hid (∀ (W:World),C≤W.heap.size→bG W C (.slice A ts.length c) ts→Calls Tryz.prog 71 #[.agg #[.slice A ts.length c],.int .i64 t,.string ⟨m.toArray⟩,.int .i64 1,.slice none 0 0] W (fG C W (decP ts 200 t m []))):=Lib.hid (fun W h1 h2 => aey ts A c C (abe hv.1) 200 [] t m W (.slice none 0 0) rfl hv.2 (by omega) h1 h2 (World.ownsRow_nil _ _ _ _))
  generalize decP ts 200 t m []=q at *
  clear hq h2 hv
  go_upto_region 6 with fail
  have hz:=Z.out.here
  have ay:=S.out.e0
  go_wp2_with fail
  clear ay
  have Gs:=S.out.here
  have Fb:=Z.out.here
  have PI:=jS.size
  ((with_reducible refine (HP.out _ (Nat.le_trans aT.out (jS).size) (HT.out.keep (fun _ hp => (jS).cell (Nat.lt_of_lt_of_le hp aT.out)) (Nat.le_refl _))).mono ?_);rintro e kF aeB)
  have oK:=aeB.1
  obtain ⟨aW,aX,aY,bf,bn,bC,bD,bF,dL,dM,bY,aQ,rfl,N⟩:=aeB.take (w0:=w) (Old.of (jS.trans (oK.mono jS.size)) aT.out)
  obtain ⟨S,Z⟩:=b2 S Z oK
  replace jS:=dT jS oK
  clear oK aeB
  replace N:=Lib.hid N
  have iF:(#[aW,aX,aY,bf,bn,bC,bD,bF,dL,dM,bY] : Array Value).all (·.oneCell')=true:=by simpa using aQ
  generalize tN.heap.size=L25 at *
  have hNl:=N.out.le
  go_wp2_with (refine sR Z.out ?_)
  generalize pG:kF.setRow _ _=wP
  obtain ⟨S,N⟩:=f2 S N (eR pG)
  replace Z:=aK Z pG
  replace jS:=tr jS pG
  clear pG
  exact bodyPost_ret (v:=.tuple #[.agg #[aW,aX,aY,bf,bn,bC,bD,bF,dL,dM,bY],.int .i64 0]) (by simp [results,Tryz.results39,go_sem,Z.out.c11]) rfl ((by rw [HR.out];exact ⟨_,rfl,N.out.now.post jS aT.out (by omega) N.out.le⟩))
 have hq:=Hq.out
 rw [if_pos h0] at hq
 have HR:Hid (iE ts t m = .error (yx ts t)):=Lib.hid hq
 have hb:(yx ts t != 0)=true:=by simpa using h0
 clear hq h0
 generalize yx ts t=q at *
 go_upto_region 3 with fail
 go_wp2_with (refine sR Z.out ?_)
 generalize mY:tN.setRow _ _=mW
 replace S:=f1 S (eR mY)
 replace Z:=aK Z mY
 replace jS:=tr jS mY
 clear mY
 exact bodyPost_ret (v:=.tuple #[.agg #[.int .i64 0,.bool false,.int .i64 0,.string ⟨#[]⟩,.int .i64 0,.slice none 0 0,.slice none 0 0,.slice none 0 0,.slice none 0 0,.int .i64 0,.bool false],.int .i64 q]) (by simp [results,Tryz.results39,go_sem,Z.out.c11]) rfl ((by rw [HR.out];exact ⟨jS,rfl⟩))
def xw (w:World) (r:Except Int fO) (e:Ending) (w':World):Prop:=Below w.heap.size w w'∧match r with
 | .error er => e = .returned (.tuple #[pW,.int .i64 er])
 | .ok (.ok v) => ∃ vk vi vr,e = .returned (.tuple #[iC v vk vi vr,.int .i64 0])∧ValAt w' w'.heap.size v vk vi vr
 | .ok (.error _) => e = .returned (.tuple #[pW,.int .i64 12])
set_option maxRecDepth 100000 in
theorem Xa (ts:List aC) (A:Option Addr) (c:Nat) (t:Int) (m:List UInt8) (w:World) (hs:Sizes ts) (hT:bG w w.heap.size (.slice A ts.length c) ts) :
  Calls Tryz.prog 12 #[.agg #[.slice A ts.length c],.int .i64 t,.string ⟨m.toArray⟩] w (xw w (iE ts t m)):=by
 have hre:=fun er h => uZ (ts:=ts) (t:=t) (m:=m) (er:=er) h
 have HT:=Lib.hid hT
 have rU:=Lib.hid (fun W h1 h2 => RG ts A c t m w.heap.size W hs h1 h2)
 have aT:Hid (w.heap.size≤w.heap.size):=Lib.hid (Nat.le_refl _)
 generalize iE ts t m=r at *
 clear hT hs
 go_enter Tryz.func12,Tryz.ntmps12
 go_upto_region 1 with fail
 generalize rD:w.alloc _=o9
 generalize vC:o9.alloc _=sD
 have ⟨jL,S,Z⟩:=dN rD vC
 clear rD vC
 have fV:=jL
 clear jL
 have ay:=S.out.e0
 rcases r with er | ⟨pn | v⟩
 ·
  have her:=hre er rfl
  have he1:(er == 0)=false:=by rw [beq_eq_false_iff_ne];omega
  clear hre her
  go_wp2_with fail
  clear ay
  ((with_reducible refine (rU.out _ (fV).size (HT.out.keep (fun _ hp => (fV).cell hp) (Nat.le_refl _))).mono ?_);rintro e kX ⟨sF,rfl⟩)
  obtain ⟨S,Z⟩:=b2 S Z sF
  replace fV:=dT fV sF
  clear sF
  have MV:=Has.made kX 91 #[.int .i64 0,.bool false,.int .i64 0,.string ⟨#[]⟩,.int .i64 0,.slice none 0 0,.slice none 0 0,.slice none 0 0,.slice none 0 0,.int .i64 0,.bool false]
  go_upto_region 2 with (refine wpList_store_row rfl 91 _ _ rfl kX.heap.size _ rfl rfl 91 _ MV (by kernel_rfl) rfl (by first | assumption | simp [Value.oneCell']) ?_)
  clear MV
  generalize mF:kX.alloc _=wI
  have ⟨xZ,R⟩:=bH mF
  clear mF
  have acJ:=S.out.here
  have anB:=Z.out.here
  have Yn:=fV.size
  obtain ⟨S,Z⟩:=b2 S Z xZ
  replace fV:=dT fV xZ
  clear xZ
  generalize kX.heap.size=g46 at *
  generalize qg:wI.setRow _ _=Dp
  obtain ⟨S,Z⟩:=f2 S Z (eR qg)
  replace R:=aK R qg
  replace fV:=tr fV qg
  clear qg
  obtain ⟨dZ,dU,gY,gZ,fA,gG,eu,gJ,fE,dV,zu⟩:=R.out.c11
  go_upto_region 4 with fail
  go_wp2_with (refine sR Z.out ?_)
  clear dZ dU gY gZ fA gG eu gJ fE dV zu
  generalize qh:Dp.setRow _ _=xO
  obtain ⟨S,R⟩:=f2 S R (eR qh)
  replace Z:=aK Z qh
  replace fV:=tr fV qh
  clear qh
  exact bodyPost_ret (v:=.tuple #[.agg #[.int .i64 0,.bool false,.int .i64 0,.string ⟨#[]⟩,.int .i64 0,.slice none 0 0,.slice none 0 0,.slice none 0 0],.int .i64 er]) (by simp [results,Tryz.results12,go_sem,Z.out.c8]) rfl (⟨fV,rfl⟩)
 ·
  obtain ⟨p',n'⟩:=pn
  clear hre
  obtain ⟨LN,ug⟩ : ∃ n,n=(sD).heap.size:=⟨_,rfl⟩
  have hz:=Z.out.here
  rw [← ug] at hz
  go_wp2_with fail
  ((with_reducible refine (rU.out _ (fV).size (HT.out.keep (fun _ hp => (fV).cell hp) (Nat.le_refl _))).mono ?_);rintro e wx ⟨u,rfl,hp⟩)
  have hbx:=hp.1
  obtain ⟨aW,aX,aY,bf,bn,bC,bD,bF,dL,dM,bY,aQ,hu,hN⟩:=hp.take (w0:=w) (Old.of ((fV).trans (hbx.mono (fV).size)) aT.out)
  injection hu with hu
  subst hu
  rw [← ug] at hN
  clear hp ug
  clear ay
  obtain ⟨S,Z⟩:=b2 S Z hbx
  replace fV:=dT fV hbx
  have N:=Lib.hid (hN)
  clear hN
  have iF:(#[aW,aX,aY,bf,bn,bC,bD,bF,dL,dM,bY] : Array Value).all (·.oneCell')=true:=by simpa using aQ
  have h8N:(#[aW,aX,aY,bf,bn,bC,bD,bF] : Array Value).all (·.oneCell')=true:=by
   simp
   exact ⟨aQ _ (by simp),aQ _ (by simp),aQ _ (by simp),aQ _ (by simp),aQ _ (by simp),aQ _ (by simp),aQ _ (by simp),aQ _ (by simp)⟩
  have h2N:(#[dL,dM] : Array Value).all (·.oneCell')=true:=by
   simp
   exact ⟨aQ _ (by simp),aQ _ (by simp)⟩
  obtain rfl:bY = .bool false:=by
   obtain ⟨fp,hc,_⟩:=N.out.now
   have:=congrArg (fun l => l[10]?) hc;simpa using this
  have MV:=Has.made wx 91 #[.int .i64 0,.bool false,.int .i64 0,.string ⟨#[]⟩,.int .i64 0,.slice none 0 0,.slice none 0 0,.slice none 0 0,.slice none 0 0,.int .i64 0,.bool false]
  go_upto_region 2 with (refine wpList_store_row rfl 91 _ _ rfl wx.heap.size _ rfl rfl 91 _ MV (by kernel_rfl) rfl (by first | assumption | simp [Value.oneCell']) ?_)
  clear MV
  generalize jk:wx.alloc _=qE
  have ⟨JQ,R⟩:=bH jk
  clear jk
  have XT:=S.out.here
  have XU:=Z.out.here
  have XV:=N.out.le
  have UM:=fV.size
  obtain ⟨S,Z,N⟩:=b3 S Z N JQ
  replace fV:=dT fV JQ
  clear JQ
  generalize wx.heap.size=g57 at *
  generalize nV:qE.setRow _ _=wG
  obtain ⟨S,Z,N⟩:=f3 S Z N (eR nV)
  replace R:=aK R nV
  replace fV:=tr fV nV
  clear nV
  obtain ⟨dZ,dU,gY,gZ,fA,gG,eu,gJ,fE,dV,zu⟩:=R.out.c11
  go_upto_region 4 with fail
  go_wp2_with (refine sR Z.out ?_)
  clear dZ dU gY gZ fA gG eu gJ fE dV zu
  generalize Ah:wG.setRow _ _=Qp
  obtain ⟨S,R,N⟩:=f3 S R N (eR Ah)
  replace Z:=aK Z Ah
  replace fV:=tr fV Ah
  clear Ah
  have HF:Hid (xw w (.ok (.error (p',n'))) (.returned (.tuple #[.agg #[aW,aX,aY,bf,bn,bC,bD,bF],.int .i64 12])) Qp):=by
   show xw _ _ _ _
   obtain ⟨fp,hc,hfo⟩:=N.out.now
   simp only [List.cons.injEq,and_true] at hc
   obtain ⟨rfl,rfl,rfl,rfl,rfl,rfl,rfl,rfl,rfl,rfl⟩:=hc
   exact ⟨fV,rfl⟩
  exact bodyPost_ret (v:=.tuple #[.agg #[aW,aX,aY,bf,bn,bC,bD,bF],.int .i64 12]) (by simp [results,Tryz.results12,go_sem,Z.out.c8]) rfl (HF.out)
 clear hre
 obtain ⟨LN,ug⟩ : ∃ n,n=(sD).heap.size:=⟨_,rfl⟩
 have hz:=Z.out.here
 rw [← ug] at hz
 go_wp2_with fail
 ((with_reducible refine (rU.out _ (fV).size (HT.out.keep (fun _ hp => (fV).cell hp) (Nat.le_refl _))).mono ?_);rintro e wx ⟨u,rfl,hp⟩)
 have hbx:=hp.1
 obtain ⟨aW,aX,aY,bf,bn,bC,bD,bF,dL,dM,bY,aQ,hu,hN⟩:=hp.take (w0:=w) (Old.of ((fV).trans (hbx.mono (fV).size)) aT.out)
 injection hu with hu
 subst hu
 rw [← ug] at hN
 clear hp ug
 clear ay
 obtain ⟨S,Z⟩:=b2 S Z hbx
 replace fV:=dT fV hbx
 have N:=Lib.hid (hN)
 clear hN
 have iF:(#[aW,aX,aY,bf,bn,bC,bD,bF,dL,dM,bY] : Array Value).all (·.oneCell')=true:=by simpa using aQ
 have h8N:(#[aW,aX,aY,bf,bn,bC,bD,bF] : Array Value).all (·.oneCell')=true:=by
  simp
  exact ⟨aQ _ (by simp),aQ _ (by simp),aQ _ (by simp),aQ _ (by simp),aQ _ (by simp),aQ _ (by simp),aQ _ (by simp),aQ _ (by simp)⟩
 have h2N:(#[dL,dM] : Array Value).all (·.oneCell')=true:=by
  simp
  exact ⟨aQ _ (by simp),aQ _ (by simp)⟩
 obtain rfl:bY = .bool true:=by
  obtain ⟨_,_,_,hc,_⟩:=N.out.now
  have:=congrArg (fun l => l[10]?) hc;simpa using this
 have MV:=Has.made wx 91 #[.int .i64 0,.bool false,.int .i64 0,.string ⟨#[]⟩,.int .i64 0,.slice none 0 0,.slice none 0 0,.slice none 0 0,.slice none 0 0,.int .i64 0,.bool false]
 go_upto_region 2 with (refine wpList_store_row rfl 91 _ _ rfl wx.heap.size _ rfl rfl 91 _ MV (by kernel_rfl) rfl (by first | assumption | simp [Value.oneCell']) ?_)
 clear MV
 generalize wS:wx.alloc _=MI
 have ⟨DR,R⟩:=bH wS
 clear wS
 have UN:=S.out.here
 have UO:=Z.out.here
 have PO:=N.out.le
 have LG:=fV.size
 obtain ⟨S,Z,N⟩:=b3 S Z N DR
 replace fV:=dT fV DR
 clear DR
 generalize wx.heap.size=g69 at *
 generalize BI:MI.setRow _ _=WI
 obtain ⟨S,Z,N⟩:=f3 S Z N (eR BI)
 replace R:=aK R BI
 replace fV:=tr fV BI
 clear BI
 obtain ⟨dZ,dU,gY,gZ,fA,gG,eu,gJ,fE,dV,zu⟩:=R.out.c11
 go_upto_region 4 with fail
 go_wp2_with (refine sR Z.out ?_)
 clear dZ dU gY gZ fA gG eu gJ fE dV zu
 generalize yV:WI.setRow _ _=P8
 obtain ⟨S,R,N⟩:=f3 S R N (eR yV)
 replace Z:=aK Z yV
 replace fV:=tr fV yV
 clear yV
 have HF:Hid (xw w (.ok (.ok v)) (.returned (.tuple #[.agg #[aW,aX,aY,bf,bn,bC,bD,bF],.int .i64 0])) P8):=by
  show xw _ _ _ _
  obtain ⟨vk,vi,vr,hc,hv⟩:=N.out.now
  obtain ⟨S,h1,h2⟩:=hv (Old.of fV aT.out)
  have hl:=N.out.le
  have hsz:=(fV).size
  simp only [List.cons.injEq,and_true] at hc
  obtain ⟨rfl,rfl,rfl,rfl,rfl,rfl,rfl,rfl,rfl,rfl⟩:=hc
  exact ⟨fV,_,_,_,rfl,h1.at_ (fun b hb => (h2 b hb).elim (fun h => by omega) (fun h => by omega))⟩
 exact bodyPost_ret (v:=.tuple #[.agg #[aW,aX,aY,bf,bn,bC,bD,bF],.int .i64 0]) (by simp [results,Tryz.results12,go_sem,Z.out.c8]) rfl (HF.out)
set_option maxRecDepth 100000 in
theorem WH (ts:List aC) (A:Option Addr) (c:Nat) (t:Int) (m:List UInt8) (w:World) (hs:Sizes ts) (hT:bG w w.heap.size (.slice A ts.length c) ts) :
  Calls Tryz.prog 16 #[.agg #[.slice A ts.length c],.int .i64 t,.string ⟨m.toArray⟩] w (zV w (iE ts t m)):=by
 have hre:=fun er h => uZ (ts:=ts) (t:=t) (m:=m) (er:=er) h
 have HT:=Lib.hid hT
 have rU:=Lib.hid (fun W h1 h2 => RG ts A c t m w.heap.size W hs h1 h2)
 have aT:Hid (w.heap.size≤w.heap.size):=Lib.hid (Nat.le_refl _)
 generalize iE ts t m=r at *
 clear hT hs
 go_enter Tryz.func16,Tryz.ntmps16
 go_upto_region 1 with fail
 generalize BD:w.alloc _=YI
 generalize tu:YI.alloc _=Gh
 have ⟨FD,S,Z⟩:=dN BD tu
 clear BD tu
 have jC:=FD
 clear FD
 have ay:=S.out.e0
 rcases r with er | ⟨pn | v⟩
 ·
  have her:=hre er rfl
  have he1:(er == 0)=false:=by rw [beq_eq_false_iff_ne];omega
  clear hre her
  go_wp2_with fail
  clear ay
  ((with_reducible refine (rU.out _ (jC).size (HT.out.keep (fun _ hp => (jC).cell hp) (Nat.le_refl _))).mono ?_);rintro e Vo ⟨NP,rfl⟩)
  obtain ⟨S,Z⟩:=b2 S Z NP
  replace jC:=dT jC NP
  clear NP
  have MV:=Has.made Vo 91 #[.int .i64 0,.bool false,.int .i64 0,.string ⟨#[]⟩,.int .i64 0,.slice none 0 0,.slice none 0 0,.slice none 0 0,.slice none 0 0,.int .i64 0,.bool false]
  go_upto_region 2 with (refine wpList_store_row rfl 91 _ _ rfl Vo.heap.size _ rfl rfl 91 _ MV (by kernel_rfl) rfl (by first | assumption | simp [Value.oneCell']) ?_)
  clear MV
  generalize Fz:Vo.alloc _=DJ
  have ⟨BH,R⟩:=bH Fz
  clear Fz
  have XK:=S.out.here
  have XL:=Z.out.here
  have UE:=jC.size
  obtain ⟨S,Z⟩:=b2 S Z BH
  replace jC:=dT jC BH
  clear BH
  generalize Vo.heap.size=g89 at *
  generalize tH:DJ.setRow _ _=PE
  obtain ⟨S,Z⟩:=f2 S Z (eR tH)
  replace R:=aK R tH
  replace jC:=tr jC tH
  clear tH
  obtain ⟨dZ,dU,gY,gZ,fA,gG,eu,gJ,fE,dV,zu⟩:=R.out.c11
  go_upto_region 4 with fail
  go_wp2_with (refine sR Z.out ?_)
  clear dZ dU gY gZ fA gG eu gJ fE dV zu
  generalize wE:PE.setRow _ _=acE
  obtain ⟨S,R⟩:=f2 S R (eR wE)
  replace Z:=aK Z wE
  replace jC:=tr jC wE
  clear wE
  exact bodyPost_ret (v:=.tuple #[.agg #[.slice none 0 0,.int .i64 0],.int .i64 er]) (by simp [results,Tryz.results16,go_sem,Z.out.c2]) rfl (⟨jC,rfl⟩)
 ·
  obtain ⟨p',n'⟩:=pn
  clear hre
  obtain ⟨LN,ug⟩ : ∃ n,n=(Gh).heap.size:=⟨_,rfl⟩
  have hz:=Z.out.here
  rw [← ug] at hz
  go_wp2_with fail
  ((with_reducible refine (rU.out _ (jC).size (HT.out.keep (fun _ hp => (jC).cell hp) (Nat.le_refl _))).mono ?_);rintro e wx ⟨u,rfl,hp⟩)
  have hbx:=hp.1
  obtain ⟨aW,aX,aY,bf,bn,bC,bD,bF,dL,dM,bY,aQ,hu,hN⟩:=hp.take (w0:=w) (Old.of ((jC).trans (hbx.mono (jC).size)) aT.out)
  injection hu with hu
  subst hu
  rw [← ug] at hN
  clear hp ug
  clear ay
  obtain ⟨S,Z⟩:=b2 S Z hbx
  replace jC:=dT jC hbx
  have N:=Lib.hid (hN)
  clear hN
  have iF:(#[aW,aX,aY,bf,bn,bC,bD,bF,dL,dM,bY] : Array Value).all (·.oneCell')=true:=by simpa using aQ
  have h8N:(#[aW,aX,aY,bf,bn,bC,bD,bF] : Array Value).all (·.oneCell')=true:=by
   simp
   exact ⟨aQ _ (by simp),aQ _ (by simp),aQ _ (by simp),aQ _ (by simp),aQ _ (by simp),aQ _ (by simp),aQ _ (by simp),aQ _ (by simp)⟩
  have h2N:(#[dL,dM] : Array Value).all (·.oneCell')=true:=by
   simp
   exact ⟨aQ _ (by simp),aQ _ (by simp)⟩
  obtain rfl:bY = .bool false:=by
   obtain ⟨fp,hc,_⟩:=N.out.now
   have:=congrArg (fun l => l[10]?) hc;simpa using this
  have MV:=Has.made wx 91 #[.int .i64 0,.bool false,.int .i64 0,.string ⟨#[]⟩,.int .i64 0,.slice none 0 0,.slice none 0 0,.slice none 0 0,.slice none 0 0,.int .i64 0,.bool false]
  go_upto_region 2 with (refine wpList_store_row rfl 91 _ _ rfl wx.heap.size _ rfl rfl 91 _ MV (by kernel_rfl) rfl (by first | assumption | simp [Value.oneCell']) ?_)
  clear MV
  generalize zZ:wx.alloc _=Ji
  have ⟨DZ,R⟩:=bH zZ
  clear zZ
  have Yh:=S.out.here
  have YJ:=Z.out.here
  have ags:=N.out.le
  have agt:=jC.size
  obtain ⟨S,Z,N⟩:=b3 S Z N DZ
  replace jC:=dT jC DZ
  clear DZ
  generalize wx.heap.size=ama at *
  generalize vT:Ji.setRow _ _=Ob
  obtain ⟨S,Z,N⟩:=f3 S Z N (eR vT)
  replace R:=aK R vT
  replace jC:=tr jC vT
  clear vT
  obtain ⟨dZ,dU,gY,gZ,fA,gG,eu,gJ,fE,dV,zu⟩:=R.out.c11
  go_upto_region 4 with fail
  go_wp2_with (refine sR Z.out ?_)
  clear dZ dU gY gZ fA gG eu gJ fE dV zu
  generalize Cj:Ob.setRow _ _=YK
  obtain ⟨S,R,N⟩:=f3 S R N (eR Cj)
  replace Z:=aK Z Cj
  replace jC:=tr jC Cj
  clear Cj
  have HF:Hid (zV w (.ok (.error (p',n'))) (.returned (.tuple #[.agg #[dL,dM],.int .i64 0])) YK):=by
   show zV _ _ _ _
   obtain ⟨fp,hc,hfo⟩:=N.out.now
   simp only [List.cons.injEq,and_true] at hc
   obtain ⟨rfl,rfl,rfl,rfl,rfl,rfl,rfl,rfl,rfl,rfl⟩:=hc
   exact ⟨jC,_,rfl,aH hfo (by omega)⟩
  exact bodyPost_ret (v:=.tuple #[.agg #[dL,dM],.int .i64 0]) (by simp [results,Tryz.results16,go_sem,Z.out.c2]) rfl (HF.out)
 clear hre
 obtain ⟨LN,ug⟩ : ∃ n,n=(Gh).heap.size:=⟨_,rfl⟩
 have hz:=Z.out.here
 rw [← ug] at hz
 go_wp2_with fail
 ((with_reducible refine (rU.out _ (jC).size (HT.out.keep (fun _ hp => (jC).cell hp) (Nat.le_refl _))).mono ?_);rintro e wx ⟨u,rfl,hp⟩)
 have hbx:=hp.1
 obtain ⟨aW,aX,aY,bf,bn,bC,bD,bF,dL,dM,bY,aQ,hu,hN⟩:=hp.take (w0:=w) (Old.of ((jC).trans (hbx.mono (jC).size)) aT.out)
 injection hu with hu
 subst hu
 rw [← ug] at hN
 clear hp ug
 clear ay
 obtain ⟨S,Z⟩:=b2 S Z hbx
 replace jC:=dT jC hbx
 have N:=Lib.hid (hN)
 clear hN
 have iF:(#[aW,aX,aY,bf,bn,bC,bD,bF,dL,dM,bY] : Array Value).all (·.oneCell')=true:=by simpa using aQ
 have h8N:(#[aW,aX,aY,bf,bn,bC,bD,bF] : Array Value).all (·.oneCell')=true:=by
  simp
  exact ⟨aQ _ (by simp),aQ _ (by simp),aQ _ (by simp),aQ _ (by simp),aQ _ (by simp),aQ _ (by simp),aQ _ (by simp),aQ _ (by simp)⟩
 have h2N:(#[dL,dM] : Array Value).all (·.oneCell')=true:=by
  simp
  exact ⟨aQ _ (by simp),aQ _ (by simp)⟩
 obtain rfl:bY = .bool true:=by
  obtain ⟨_,_,_,hc,_⟩:=N.out.now
  have:=congrArg (fun l => l[10]?) hc;simpa using this
 have MV:=Has.made wx 91 #[.int .i64 0,.bool false,.int .i64 0,.string ⟨#[]⟩,.int .i64 0,.slice none 0 0,.slice none 0 0,.slice none 0 0,.slice none 0 0,.int .i64 0,.bool false]
 go_upto_region 2 with (refine wpList_store_row rfl 91 _ _ rfl wx.heap.size _ rfl rfl 91 _ MV (by kernel_rfl) rfl (by first | assumption | simp [Value.oneCell']) ?_)
 clear MV
 generalize Et:wx.alloc _=Yi
 have ⟨aaU,R⟩:=bH Et
 clear Et
 have akc:=S.out.here
 have aqy:=Z.out.here
 have aj2:=N.out.le
 have aj3:=jC.size
 obtain ⟨S,Z,N⟩:=b3 S Z N aaU
 replace jC:=dT jC aaU
 clear aaU
 generalize wx.heap.size=asO at *
 generalize xG:Yi.setRow _ _=Ou
 obtain ⟨S,Z,N⟩:=f3 S Z N (eR xG)
 replace R:=aK R xG
 replace jC:=tr jC xG
 clear xG
 obtain ⟨dZ,dU,gY,gZ,fA,gG,eu,gJ,fE,dV,zu⟩:=R.out.c11
 go_upto_region 4 with fail
 go_wp2_with (refine sR Z.out ?_)
 clear dZ dU gY gZ fA gG eu gJ fE dV zu
 generalize Cm:Ou.setRow _ _=YL
 obtain ⟨S,R,N⟩:=f3 S R N (eR Cm)
 replace Z:=aK Z Cm
 replace jC:=tr jC Cm
 clear Cm
 have HF:Hid (zV w (.ok (.ok v)) (.returned (.tuple #[.agg #[dL,dM],.int .i64 15])) YL):=by
  show zV _ _ _ _
  obtain ⟨vk,vi,vr,hc,hv⟩:=N.out.now
  simp only [List.cons.injEq,and_true] at hc
  obtain ⟨rfl,rfl,rfl,rfl,rfl,rfl,rfl,rfl,rfl,rfl⟩:=hc
  exact ⟨jC,rfl⟩
 exact bodyPost_ret (v:=.tuple #[.agg #[dL,dM],.int .i64 15]) (by simp [results,Tryz.results16,go_sem,Z.out.c2]) rfl (HF.out)
end Go.Proofs.YthkfapcadhnaeaaGreatDoor

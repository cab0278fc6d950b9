/- The statement FingerprintEqual: the canonical bytes of two roots are equal exactly if the roots are wire-equivalent. No condition. -/
import Derived.Test.YtlamhkffnlgofaaGreatDoorHAR
import Derived.Test.YtlamhkffnlgofaaGreatDoorHAW
set_option maxHeartbeats 1600000
set_option maxRecDepth 100000
namespace Go.Proofs.YtlamhkffnlgofaaGreatDoor
open Go.ChangeMaps (open_string shut_string)
open Go.ChangeShapes Go.WideShapes Go.ChangeAt Go.RowKit
theorem azC {ts us:List ay} (hv:fF ts=0) (hw:fF us=0) (hI:akg ts) (hJ:akg us) (hD:acM ts) (hE:acM us) {i k:Nat} (hi:i < ts.length) (hk:k < us.length):aot ts i us k=decide (BN (og ts i)=BN (og us k)):=by
 unfold aot;rw [if_pos ⟨awf hv hi,awf hw hk⟩,Bool.eq_iff_iff,decide_eq_true_iff];exact aop.trans (aza hv hw hI hJ hD hE hi hk).symm
theorem arj (xs:List fJ) (vn:Value) (cs:List Chg) (vl:Value) (p q:Nat) (hpb:p < 256) (JY:q < 256) (hnx:xs.length≤4398046510976) (hcs:cs.length≤140737488351232) (w:World) (hp:aj0 w) (hr:jR w w.heap.size vn xs) (hl:agN w w.heap.size vl cs) :
  Calls Tryz.prog 6 #[.agg #[vn,vl,.int .u8 p,.int .u8 q]] w (RT w (.bool true)):=by
 have HP:=hiQ hp;obtain ⟨A,c,rfl,hcap⟩:=hr.form;obtain ⟨A3,c3,rfl,atm⟩:=hl.1.form;have HRT:=hiQ (fun W h1 h2 => azw xs cs (.slice A xs.length c) (.slice A3 cs.length c3) p q hpb JY W hnx hcs h1 h2);have HR:=hiQ hr;have HC:=hiQ hl;clear hp hr hl hcs hnx;go_enter Tryz.func6,Tryz.ntmps6
 go_upto_region 1 with fail;refine aO (fun wd2 hb1 P => ?_);have hw3:=hb1;clear hb1;have afM:=P.out.e0;have XD:=P.out.e1;have afN:=P.out.e2;have axZ:=P.out.e3;go_wp2_with fail;clear afM XD afN axZ;((with_reducible refine (HRT.out _ (HR.out.on hw3) (auk HC.out hw3)).mono ?_);rintro e wd4 ⟨hb5,hpost⟩);replace P:=b1 P hb5;replace hw3:=dT hw3 hb5;clear hb5;rcases hpost with rfl | ⟨ys,A1,c1,A2,c2,hyl,hx0,hx5,rfl,ht1,ht2⟩
 ·
  go_upto_region 2 with fail;refine jg (fun jC hb6 R1 R2 => ?_);have kH:=P.out.here;have oC:=hw3.size;replace P:=b1 P hb6;replace hw3:=dT hw3 hb6;clear hb6;generalize wd4.heap.size=g8 at *;go_wp2_with fail;((with_reducible refine (Eb _ (HP.out.on hw3)).mono ?_);rintro e dw ⟨rfl,fV⟩);obtain ⟨P,R1,R2⟩:=b3 P R1 R2 fV;replace hw3:=dT hw3 fV;clear fV;go_wp2_with fail;((with_reducible refine (Eb _ (HP.out.on hw3)).mono ?_);rintro e dQ ⟨rfl,jh⟩);obtain ⟨P,R1,R2⟩:=b3 P R1 R2 jh;replace hw3:=dT hw3 jh;clear jh;exact zDl
 have hv1:=ac7 xs hx5;have hv2:=ac7 ys (by omega);have hs1:=auS xs;have hs2:=auS ys;have hD1:=axl xs;have hD2:=axl ys;have hI1:=axk xs;have hI2:=axk ys;have hZ1:=awp xs;have hZ2:=awp ys;have hl1:p % xs.length < (jw xs).length:=by rw [Bo];exact Nat.mod_lt _ hx0
 have hl2:q % xs.length < (jw ys).length:=by rw [Bo,hyl];exact Nat.mod_lt _ hx0
 generalize jw xs=ts at *;generalize jw ys=us at *;generalize p % xs.length=i at *;generalize q % xs.length=k at *;obtain ⟨e1,f1⟩:=aBn hv1 hl1 hD1 hZ1;obtain ⟨e2,f2⟩:=aBn hv2 hl2 hD2 hZ2;have hpl:=azC hv1 hv2 hI1 hI2 hD1 hD2 hl1 hl2;generalize BN (og ts i)=l at *;generalize BN (og us k)=m at *;have HB1:=hiQ (fun (W:World) (h1:aj0 W) (h2:aU W W.heap.size (.slice A1 ts.length c1) ts) => bytesOf hv1 hl1 hI1 hD1 hZ1 e1 f1 hs1 h1 h2);have HB2:=hiQ (fun (W:World) (h1:aj0 W) (h2:aU W W.heap.size (.slice A2 us.length c2) us) => bytesOf hv2 hl2 hI2 hD2 hZ2 e2 f2 hs2 h1 h2);have HWR:=hiQ (fun W h1 h2 => azz ts us A1 A2 c1 c2 (i:Nat) (k:Nat) W hs1 hs2 h1 h2);rw [hpl] at HWR;have T1:=hiQ (Kept.rd (P:=fun w B => aU w B (.slice A1 ts.length c1) ts) ht1 (Nat.le_refl _) (fun _ hk => ht1.keep hk (Nat.le_refl _)));have T2:=hiQ (Kept.rd (P:=fun w B => aU w B (.slice A2 us.length c2) us) ht2 (Nat.le_refl _) (fun _ hk => ht2.keep hk (Nat.le_refl _)));clear ht1 ht2 hv1 hv2 hs1 hs2 hD1 hD2 hI1 hI2 hZ1 hZ2 hl1 hl2 e1 e2 f1 f2 hpl hyl hx0 hx5 HRT;go_upto_region 2 with fail;refine jg (fun jC hb6 R1 R2 => ?_);have kH:=P.out.here;have oC:=T1.out.le;have sH:=T2.out.le;have hl12:=hw3.size;obtain ⟨P,T1,T2⟩:=b3 P T1 T2 hb6;replace hw3:=dT hw3 hb6;clear hb6;generalize wd4.heap.size=g8 at *;go_wp2_with fail;((with_reducible refine (Eb _ (HP.out.on hw3)).mono ?_);rintro e dQ ⟨rfl,jh⟩);obtain ⟨P,R1,R2,T1,T2⟩:=b5 P R1 R2 T1 T2 jh;replace hw3:=dT hw3 jh;clear jh;obtain ⟨ax1,ax2⟩:=R1.out.c2;go_wp2_with fail;clear ax1 ax2
 ((with_reducible refine (HB1.out _ (HP.out.on hw3) T1.out.ava).mono ?_);rintro e jA ⟨rfl,hb16⟩);obtain ⟨P,R1,R2,T1,T2⟩:=b5 P R1 R2 T1 T2 hb16;replace hw3:=dT hw3 hb16;clear hb16;obtain ⟨ax3,ax4⟩:=R2.out.c2;go_wp2_with fail;clear ax3 ax4;((with_reducible refine (HB2.out _ (HP.out.on hw3) T2.out.ava).mono ?_);rintro e ji ⟨rfl,nU⟩);obtain ⟨P,R1,R2,T1,T2⟩:=b5 P R1 R2 T1 T2 nU;replace hw3:=dT hw3 nU;clear nU;obtain ⟨ax1,ax2⟩:=R1.out.c2;obtain ⟨ax3,ax4⟩:=R2.out.c2;go_wp2_with fail;clear ax1 ax2 ax3 ax4;((with_reducible refine (HWR.out _ T1.out.ava T2.out.ava).mono ?_);rintro e fZ ⟨rfl,iO⟩);obtain ⟨P,R1,R2,T1,T2⟩:=b5 P R1 R2 T1 T2 iO;replace hw3:=dT hw3 iO;clear iO;go_wp2_with fail;go_ret;exact ⟨au (by by_cases h:l=m <;> simp [h]),hw3⟩

namespace fr_FingerprintEqual
theorem lifted (os:Os) (started:os.Started) (H:Type) (enc:TypeId × Value→H) :
    ReturnsInHanded {} Tryz.checked os 6 .any (fun w args => (Rows.fingerprintEqualSpec.pre enc Tryz.prog Tryz.f6 [] false w args∧laidMetH Tryz.prog Ry w)∧sizedMet enc Tryz.prog Tryz.f6 (OpenSpec.ofChange Rows.fingerprintEqualSpec) false w args) (Rows.fingerprintEqualSpec.post enc Tryz.prog Tryz.f6 false true false false):=by
  refine returnsInHanded_of_change_and (C:=Tryz.checked) (X:=fun w _ => laidMetH Tryz.prog Ry w) (fun _ _ _ hh h => h.of_heap hh) ad3 started (by kernel_rfl) Tryz.func6
    (ChangeSpec.witness_shaped (enc:=enc) (C:=Tryz.checked) (os:=os) (X:=fun w _ => laidMetH Tryz.prog Ry w) false (World.doorLaid Tryz.prog 400 os) #[.agg #[.slice none 0 0,.slice none 0 0,.int .u8 0,.int .u8 0]] 8 rfl (World.shaped_of_RefB (by kernel_rfl) (by kernel_rfl)) (by kernel_rfl) (by kernel_rfl) (by kernel_rfl) (door_met os _)) ?_
  intro W base args ds gs before hval0 hW hcnd hsz0 hLd _;have hsz:(DataW.weightsEach Tryz.prog (Tryz.f6.params.toList ++ Rows.fingerprintEqualSpec.plain.varTypes Tryz.prog) (ds ++ gs)).all (· ≤ reachBytes)=true:=hsz0;have hval:∀ (j:Nat) t v,Tryz.f6.params[j]?=some t→args[j]?=some v→Value.okWide Tryz.prog W .any base t v:=hval0;have hW':=hW;have hlt:∀ p ∈ before,p.block < W.heap.size:=fun p hp => hW.lt p hp;obtain ⟨p,q,hA0,hV,rfl,hfz,hnd⟩:=hW;have hA:DataW.TrodAll enc Tryz.prog W 0 (fun _ => true) true Tryz.f6.params.toList args.toList ds p:=hA0;have hA2:=hA;rw [Tryz.params6] at hA hval hsz;obtain ⟨v0,vs0,d0,ds0,p0,q0,hargs,rfl,hpq,h0,r0⟩:=trodAll_cons hA;obtain ⟨rfl,rfl,rfl⟩:=trodAll_nil r0;obtain rfl:args = #[v0]:=by cases args;simp_all
  obtain ⟨rfl,rfl⟩:=trodVars_none hV;obtain ⟨a0,n0,b0,c0,t0,q0,rfl,tm0,qm0,m0,k0,u0,z0⟩:=open_pair (hval 0 52 v0 rfl rfl) h0 (ZG hsz (j:=0) rfl (by simp));clear hA0 hval0;refine (arj a0 n0 b0 c0 t0 q0 tm0 qm0 m0 k0 W (aho hLd) u0 z0).mono fun e W' ⟨he,bel⟩ => ?_;subst he;exact ⟨_,rfl,_,_,_,[],_,[],hW',trodAll_mk1 (shut_bool Tryz.underlying4 _),UN ad4 bel _ _ _ _ (by kernel_rfl) hA2 (fun x hx => hlt x (by simpa using hx)),rfl,bel.frame _,fun h => by cases h⟩
theorem proved:Rows.FingerprintEqualSaid :=
  OpenClaim.holds_of_wide 6 Tryz.f6 rfl rfl rfl rfl rfl rfl rfl ⟨rfl,rfl,rfl,rfl,rfl⟩ rfl rfl rfl rfl rfl (by kernel_rfl) Tryz.func6 (by kernel_rfl)
    (of_decide_eq_true (by kernel_rfl)) (by unfold Func.isWrapper;first | (rw [if_pos (by decide +kernel)];kernel_rfl) | (rw [if_neg (by decide +kernel)];exact ⟨rfl,rfl⟩))
    (fun os started H enc _ => lifted os started H enc)
#print axioms proved
theorem card:Rows.FingerprintEqualCardSaid :=
  Claim7.holds_tied_plain_at .later [] [.data,.data,.data] true _ false proved (fun _ h => by cases h) (by kernel_rfl) (fun _ h => by cases h) fingerprintEqual_row_tie rfl ⟨rfl,rfl⟩ (by kernel_rfl) rfl
    (fun f fn hf hfn => by
      obtain rfl:f=6:=Option.some.inj ((show Tryz.prog.funcNamed "sheave/sheavelaw19.FingerprintEqual" = some 6 by kernel_rfl).symm.trans hf) |>.symm;obtain rfl:fn=Tryz.f6:=(Option.some.inj (Tryz.func6.symm.trans hfn)).symm;exact ⟨by kernel_rfl,fun j t ht => by
        rw [Tryz.params6] at ht;have hm:t ∈ [52]:=by simpa using Array.mem_of_getElem? ht
        have hall:([52].all fun u => !Tryz.prog.wantsStandIn u)=true:=by kernel_rfl
        exact (show Tryz.prog.wantsStandIn t=false by simpa using List.all_eq_true.1 hall t hm)⟩)
    (by kernel_rfl)
#print axioms card
end fr_FingerprintEqual
end Go.Proofs.YtlamhkffnlgofaaGreatDoor

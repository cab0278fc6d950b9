/- The statement DecodeDefaults: a field that is present with its default makes no difference. No condition. -/
import Derived.Test.YticejnbbonnniaaGreatDoorDefW
import Derived.Test.YticejnbbonnniaaGreatDoorOf8
set_option maxHeartbeats 1600000
set_option maxRecDepth 100000
namespace Go.Proofs.YticejnbbonnniaaGreatDoor
open Go.ChangeMaps (open_string shut_string)
open Go.ChangeShapes Go.WideShapes Go.ChangeAt Go.RowKit
theorem J5 (xs:List fJ) (vn:Value) (t0:Nat) (ht0:t0 < 256) (l:List UInt8) (hl:l.length≤140737488351232) (vl:Value) (_:xs.length≤140737488351232) (w:World) (hL:DX w) (hr:jR w w.heap.size vn xs) (hb:Rd w w.heap.size 1 vl l.length (l.map B8)) :
  Calls Tryz.prog 5 #[.agg #[vn,.int .u8 t0,vl]] w (RT w (.bool true)):=by
 obtain ⟨A,c,rfl,hcap⟩:=hr.form;obtain ⟨A2,c2,rfl,hcap2⟩:=hb.form;cases hok:Vu xs with
 | true =>
  have hok2:0 < xs.length∧xs.length≤5:=by unfold Vu at hok;simp at hok;omega
  exact adI (jw xs) (t0 % xs.length) (ac7 xs hok2.2) (ac8 xs) (aht xs) (afs xs) (by rw [EW];exact Nat.mod_lt _ hok2.1) A xs.length c t0 A2 l.length c2 w hL
   (fun W h => ahF xs (.slice A xs.length c) t0 ht0 l hl (.slice A2 l.length c2) W hok2 (hr.on h) ((hb.below h).mono h.size))
 | false =>
  have hno:=fun W h1 h2 => akd xs (.slice A xs.length c) t0 l (.slice A2 l.length c2) W hok h1 h2;have HNO:=hiQ hno;have HR:=hiQ hr;have HB0:=hiQ hb;have HL:=hiQ hL;clear hno hok hr hb hL;go_enter Tryz.func5,Tryz.ntmps5
  go_upto_region 1 with fail;refine aO (fun wd2 hb1 D => ?_);have hw3:=hb1;clear hb1;obtain ⟨dW,Vl,RY⟩:=D.out.c3;go_wp2_with fail;clear dW Vl RY;((with_reducible refine (HNO.out _ (HR.out.on hw3) ((HB0.out.below hw3).mono (hw3).size)).mono ?_);rintro e wd4 ⟨rfl,hb5⟩);replace D:=b1 D hb5;replace hw3:=dT hw3 hb5;clear hb5;go_upto_region 2 with fail;refine Fj (fun jC hb6 S V U => ?_);have kH:=D.out.here;have oC:=hw3.size;replace D:=b1 D hb6;replace hw3:=dT hw3 hb6;clear hb6;generalize wd4.heap.size=g8 at *;obtain ⟨bK,dh,dn,dI,bG,aQ,aP,dJ⟩:=V.out.c8;have aH:=S.out.e0;go_wp2_with fail;clear bK dh dn dI bG aQ aP dJ aH;((with_reducible refine (Eb _ (HL.out.on hw3)).mono ?_);rintro e dw ⟨rfl,fV⟩);obtain ⟨D,S,V,U⟩:=b4 D S V U fV;replace hw3:=dT hw3 fV;clear fV;go_wp2_with fail;((with_reducible refine (Eb _ (HL.out.on hw3)).mono ?_);rintro e dQ ⟨rfl,jh⟩);obtain ⟨D,S,V,U⟩:=b4 D S V U jh;replace hw3:=dT hw3 jh;clear jh;go_wp2_with fail;go_ret;exact ⟨rfl,hw3⟩

namespace fr_DecodeDefaults
theorem lifted (os:Os) (started:os.Started) (H:Type) (enc:TypeId × Value→H) :
    ReturnsInHanded {} Tryz.checked os 5 .any (fun w args => (Rows.decodeDefaultsSpec.pre enc Tryz.prog Tryz.f5 [] false w args∧laidMetH Tryz.prog Ry w)∧sizedMet enc Tryz.prog Tryz.f5 (OpenSpec.ofChange Rows.decodeDefaultsSpec) false w args) (Rows.decodeDefaultsSpec.post enc Tryz.prog Tryz.f5 false true false false):=by
  refine returnsInHanded_of_change_and (C:=Tryz.checked) (X:=fun w _ => laidMetH Tryz.prog Ry w) (fun _ _ _ hh h => h.of_heap hh) ad3 started (by kernel_rfl) Tryz.func5
    (ChangeSpec.witness_shaped (enc:=enc) (C:=Tryz.checked) (os:=os) (X:=fun w _ => laidMetH Tryz.prog Ry w) false (World.doorLaid Tryz.prog 400 os) #[.agg #[.slice none 0 0,.int .u8 0,.slice none 0 0]] 8 rfl (World.shaped_of_RefB (by kernel_rfl) (by kernel_rfl)) (by kernel_rfl) (by kernel_rfl) (by kernel_rfl) (door_met os _)) ?_
  intro W base args ds gs before hval0 hW hcnd hsz0 hLd _;have hsz:(DataW.weightsEach Tryz.prog (Tryz.f5.params.toList ++ Rows.decodeDefaultsSpec.plain.varTypes Tryz.prog) (ds ++ gs)).all (· ≤ reachBytes)=true:=hsz0;have hval:∀ (j:Nat) t v,Tryz.f5.params[j]?=some t→args[j]?=some v→Value.okWide Tryz.prog W .any base t v:=hval0;have hW':=hW;have hlt:∀ p ∈ before,p.block < W.heap.size:=fun p hp => hW.lt p hp;obtain ⟨p,q,hA0,hV,rfl,hfz,hnd⟩:=hW;have hA:DataW.TrodAll enc Tryz.prog W 0 (fun _ => true) true Tryz.f5.params.toList args.toList ds p:=hA0;have hA2:=hA;rw [Tryz.params5] at hA hval hsz;obtain ⟨v0,vs0,d0,ds0,p0,q0,hargs,rfl,hpq,h0,r0⟩:=trodAll_cons hA;obtain ⟨rfl,rfl,rfl⟩:=trodAll_nil r0;obtain rfl:args = #[v0]:=by cases args;simp_all
  obtain ⟨rfl,rfl⟩:=trodVars_none hV;obtain ⟨a0,n0,t0,b0,c0,rfl,s0,m0,k0,u0,z0⟩:=Ym (hval 0 27 v0 rfl rfl) h0 (ZG hsz (j:=0) rfl (by simp));clear hA0 hval0;refine (J5 a0 n0 t0 s0 b0 m0 c0 k0 W (aho hLd) u0 z0).mono fun e W' ⟨he,bel⟩ => ?_;subst he;exact ⟨_,rfl,_,_,_,[],_,[],hW',trodAll_mk1 (shut_bool Tryz.underlying4 _),UN ad4 bel _ _ _ _ (by kernel_rfl) hA2 (fun x hx => hlt x (by simpa using hx)),rfl,bel.frame _,fun h => by cases h⟩
theorem proved:Rows.DecodeDefaultsSaid :=
  OpenClaim.holds_of_wide 5 Tryz.f5 rfl rfl rfl rfl rfl rfl rfl ⟨rfl,rfl,rfl,rfl,rfl⟩ rfl rfl rfl rfl rfl (by kernel_rfl) Tryz.func5 (by kernel_rfl)
    (of_decide_eq_true (by kernel_rfl)) (by unfold Func.isWrapper;first | (rw [if_pos (by decide +kernel)];kernel_rfl) | (rw [if_neg (by decide +kernel)];exact ⟨rfl,rfl⟩))
    (fun os started H enc _ => lifted os started H enc)
#print axioms proved
theorem card:Rows.DecodeDefaultsCardSaid :=
  Claim7.holds_tied_plain_at .later [] [.data,.data,.data,.data] true _ false proved (fun _ h => by cases h) (by kernel_rfl) (fun _ h => by cases h) decodeDefaults_row_tie rfl ⟨rfl,rfl⟩ (by kernel_rfl) rfl
    (fun f fn hf hfn => by
      obtain rfl:f=5:=Option.some.inj ((show Tryz.prog.funcNamed "sheave/sheavelaw10.DecodeDefaults" = some 5 by kernel_rfl).symm.trans hf) |>.symm;obtain rfl:fn=Tryz.f5:=(Option.some.inj (Tryz.func5.symm.trans hfn)).symm;exact ⟨by kernel_rfl,fun j t ht => by
        rw [Tryz.params5] at ht;have hm:t ∈ [27]:=by simpa using Array.mem_of_getElem? ht
        have hall:([27].all fun u => !Tryz.prog.wantsStandIn u)=true:=by kernel_rfl
        exact (show Tryz.prog.wantsStandIn t=false by simpa using List.all_eq_true.1 hall t hm)⟩)
    (by kernel_rfl)
#print axioms card
end fr_DecodeDefaults
end Go.Proofs.YticejnbbonnniaaGreatDoor

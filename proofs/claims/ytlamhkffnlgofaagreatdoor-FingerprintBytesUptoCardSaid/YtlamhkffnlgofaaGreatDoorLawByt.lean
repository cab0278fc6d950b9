/- The statement FingerprintBytes, its second form: Bytes and Of return what their references return. No condition. -/
import Derived.Test.YtlamhkffnlgofaaGreatDoorHBM
import Derived.Deep.DeepHandedRow
import Derived.Deep.DeepWitnessRowRef
set_option maxHeartbeats 1600000
set_option maxRecDepth 100000
namespace Go.Proofs.YtlamhkffnlgofaaGreatDoor
open Go.ChangeMaps (open_string shut_string)
open Go.ChangeShapes Go.WideShapes Go.ChangeAt Go.RowKit
theorem aB5 (ts:List ay) (A:Option Addr) (c:Nat) (t:Int) (hs:Sizes ts) (_:I64 t) (hsm:aDS ts) (w:World) (hp:aj0 w) (ht:aU w w.heap.size (.slice A ts.length c) ts) :
  Calls Tryz.prog 5 #[.agg #[.slice A ts.length c,.int .i64 t]] w fun e w' => e = .returned (.bool true)∧Below w.heap.size w w':=by
 have hI:=aH4 ht;have hl:=aGf (t:=t) hsm;have HB1:=hiQ (fun (W:World) (h1:aj0 W) (h2:aU W W.heap.size (.slice A ts.length c) ts) => aJ3 (t:=t) hs hI hsm h1 h2);have HB2:=hiQ (fun (W:World) (h1:aj0 W) (h2:aU W W.heap.size (.slice A ts.length c) ts) => aIK (t:=t) hs hI hsm h1 h2);have HO1:=hiQ (fun (W:World) (h1:aj0 W) (h2:aU W W.heap.size (.slice A ts.length c) ts) => aAp ts A c t W hl (fun W2 h => HB1.out W2 (h1.on h) (h2.on h)));have HO2:=hiQ (fun (W:World) (h1:aj0 W) (h2:aU W W.heap.size (.slice A ts.length c) ts) => aHY ts A c t W hl (fun W2 h => HB2.out W2 (h1.on h) (h2.on h)));have HT:=hiQ ht;have HP:=hiQ hp;have HFW:=hiQ (fun W h => aIE ts A c W h);unfold aIn at HFW;clear ht hp hs hsm hI hl;generalize aj2 ts t=p at *;generalize fpE ts t=q at *;obtain ⟨l,n⟩:=p;obtain ⟨f,k⟩:=q;go_enter Tryz.func5,Tryz.ntmps5
 go_upto_region 1 with fail;refine aO (fun wd2 hb1 R => ?_);have hw3:=hb1;clear hb1;go_wp2_with fail;((with_reducible refine (Eb _ (HP.out.on hw3)).mono ?_);rintro e wd4 ⟨rfl,hb5⟩);replace R:=b1 R hb5;replace hw3:=dT hw3 hb5;clear hb5;obtain ⟨iV,iW⟩:=R.out.c2;go_wp2_with fail;clear iV iW;((with_reducible refine (HFW.out _ (HT.out.on hw3)).mono ?_);rintro e wL ⟨⟨b,rfl⟩,hb7⟩);replace R:=b1 R hb7;replace hw3:=dT hw3 hb7;clear hb7;cases b with
 | false =>
  go_wp2_with fail;((with_reducible refine (Eb _ (HP.out.on hw3)).mono ?_);rintro e qP ⟨rfl,zU⟩);replace R:=b1 R zU;replace hw3:=dT hw3 zU;clear zU;go_wp2_with fail;go_ret;exact ⟨rfl,hw3⟩
 | true =>
  obtain ⟨iV,iW⟩:=R.out.c2;go_wp2_with fail;clear iV iW;((with_reducible refine (HB1.out _ (HP.out.on hw3) (HT.out.on hw3)).mono ?_);rintro e qP ⟨rfl,zU⟩);replace R:=b1 R zU;replace hw3:=dT hw3 zU;clear zU;obtain ⟨iV,iW⟩:=R.out.c2;go_wp2_with fail;clear iV iW;((with_reducible refine (HB2.out _ (HP.out.on hw3) (HT.out.on hw3)).mono ?_);rintro e kL ⟨rfl,iR⟩);replace R:=b1 R iR;replace hw3:=dT hw3 iR;clear iR;obtain ⟨iV,iW⟩:=R.out.c2;go_wp2_with fail;clear iV iW;((with_reducible refine (HO1.out _ (HP.out.on hw3) (HT.out.on hw3)).mono ?_);rintro e lZ ⟨rfl,kR⟩);replace R:=b1 R kR;replace hw3:=dT hw3 kR;clear kR;obtain ⟨iV,iW⟩:=R.out.c2;go_wp2_with fail;clear iV iW;((with_reducible refine (HO2.out _ (HP.out.on hw3) (HT.out.on hw3)).mono ?_);rintro e oZ ⟨rfl,o7⟩);replace R:=b1 R o7;replace hw3:=dT hw3 o7;clear o7;go_wp2_with fail;go_ret;exact ⟨rfl,hw3⟩

namespace fr_FingerprintBytes
theorem reads (os:Os) {H:Type} (enc:TypeId × Value→H):∃ places,DataW.whole enc Tryz.prog ((World.doorLaid Tryz.prog 400 os).forCall (fun _ _ => 0) ⟨#[],#[.agg #[.slice none 0 0,.int .i64 0]],[]⟩).memory Tryz.f5.params.toList (Rows.OpenSpec.upto Rows.fingerprintBytesSpec).vars false (#[.agg #[.slice none 0 0,.int .i64 0]] : Array Value).toList 8=some ([.agg [.agg [.nil],.lit (.int .i64 0)]],[],places) :=
  ⟨[],by kernel_rfl⟩
theorem lifted (os:Os) (started:os.Started) (H:Type) (enc:TypeId × Value→H) (F:Stop.Interp) :
    ReturnsInHanded {} Tryz.checked os 5 .any ((Rows.OpenSpec.upto Rows.fingerprintBytesSpec).preRow enc Tryz.prog Tryz.f5 Rows.fingerprintBytesUptoRow.domain false Rows.fingerprintBytesUptoRow.laid) (((Rows.OpenSpec.upto Rows.fingerprintBytesSpec).at F).post enc Tryz.prog Tryz.f5 false true false false):=by
  obtain ⟨places,hx⟩:=reads os enc;refine returnsInHanded_of_row (C:=Tryz.checked) (s:=Rows.OpenSpec.upto Rows.fingerprintBytesSpec) ad3 started (by kernel_rfl) Tryz.func5
    (witness_row_atRef (enc:=enc) (C:=Tryz.checked) false (World.doorLaid Tryz.prog 400 os) #[.agg #[.slice none 0 0,.int .i64 0]] rfl (by kernel_rfl) (by kernel_rfl) (by kernel_rfl)
      (OpenSpec.preRow_of_cond 8 hx (by kernel_rfl) (fun k hk => by cases hk;kernel_rfl) (by kernel_rfl) (door_met os _))) ?_
  intro W base args ds gs before hval0 hW _ hcond hsz0 hLd _ _;have hsz:(DataW.weightsEach Tryz.prog (Tryz.f5.params.toList ++ Rows.fingerprintBytesSpec.plain.varTypes Tryz.prog) (ds ++ gs)).all (· ≤ reachBytes)=true:=hsz0;have hbk:Rows.uptoSmall H (ds ++ gs)=true:=hcond _ rfl;have hval:∀ (j:Nat) t v,Tryz.f5.params[j]?=some t→args[j]?=some v→Value.okWide Tryz.prog W .any base t v:=hval0;have hW':=hW;have hlt:∀ p ∈ before,p.block < W.heap.size:=fun p hp => hW.lt p hp;obtain ⟨p,q,hA0,hV,rfl,hfz,hnd⟩:=hW;have hA:DataW.TrodAll enc Tryz.prog W 0 (fun _ => true) true Tryz.f5.params.toList args.toList ds p:=hA0;have hA2:=hA;rw [Tryz.params5] at hA hval hsz;obtain ⟨v0,vs0,d0,ds0,p0,q0,hargs,rfl,hpq,h0,r0⟩:=trodAll_cons hA;obtain ⟨rfl,rfl,rfl⟩:=trodAll_nil r0;obtain rfl:args = #[v0]:=by cases args;simp_all
  obtain ⟨rfl,rfl⟩:=trodVars_none hV;have hb0:Rows.uptoBulk d0≤1048576:=by simp only [Rows.uptoSmall,Rows.uptoBulkAll,List.append_nil,decide_eq_true_eq] at hbk;omega
  obtain ⟨a0,A0,c0,t0,rfl,z0,i0,b0,u0⟩:=aGr (hval 0 27 v0 rfl rfl) h0 (ZG hsz (j:=0) rfl (by simp));have s0:aDS a0:=fun x hx m hm => Nat.le_trans (b0 x hx m hm) hb0;clear hA0 hval0;refine (aB5 a0 A0 c0 t0 z0 i0 s0 W (aho hLd) u0).mono fun e W' ⟨he,bel⟩ => ?_;subst he;have hpost:Rows.fingerprintBytesSpec.post enc Tryz.prog Tryz.f5 false true false false W _ (.bool true) W':=⟨_,_,_,[],_,[],hW',trodAll_mk1 (shut_bool Tryz.underlying4 _),UN ad4 bel _ _ _ _ (by kernel_rfl) hA2 (fun x hx => hlt x (by simpa using hx)),rfl,bel.frame _,fun h => by cases h⟩
  exact ⟨_,rfl,hpost⟩
theorem proved:Rows.FingerprintBytesUptoSaid :=
  OpenClaim.holds_of_cond 5 Tryz.f5 rfl rfl rfl rfl rfl rfl rfl ⟨rfl,rfl,rfl,rfl,rfl⟩ rfl rfl rfl rfl rfl (by kernel_rfl) Tryz.func5 (by kernel_rfl)
    (of_decide_eq_true (by kernel_rfl)) (by unfold Func.isWrapper;first | (rw [if_pos (by decide +kernel)];kernel_rfl) | (rw [if_neg (by decide +kernel)];exact ⟨rfl,rfl⟩))
    (fun os started H enc _ F => by rw [OpenClaim.pre_eq_preRow];exact lifted os started H enc F)
theorem card:Rows.FingerprintBytesUptoCardSaid :=
  Claim7.holds_tied_plain_at .later [] _ _ _ _ proved (fun _ h => by cases h) (by kernel_rfl) (fun _ h => by cases h) fingerprintBytesUpto_row_tie rfl ⟨rfl,rfl⟩ (by kernel_rfl) rfl
    (fun f fn hf hfn => by
      obtain rfl:f=5:=Option.some.inj ((show Tryz.prog.funcNamed "sheave/sheavelaw19.FingerprintBytes" = some 5 by kernel_rfl).symm.trans hf) |>.symm;obtain rfl:fn=Tryz.f5:=(Option.some.inj (Tryz.func5.symm.trans hfn)).symm;exact ⟨by kernel_rfl,fun j t ht => by
        rw [Tryz.params5] at ht;have hm:t ∈ [27]:=by simpa using Array.mem_of_getElem? ht
        have hall:([27].all fun u => !Tryz.prog.wantsStandIn u)=true:=by kernel_rfl
        exact (show Tryz.prog.wantsStandIn t=false by simpa using List.all_eq_true.1 hall t hm)⟩)
    (by kernel_rfl)
#print axioms card
end fr_FingerprintBytes
end Go.Proofs.YtlamhkffnlgofaaGreatDoor

/- The statement FingerprintAdd, its second form: Add returns what its reference returns. No condition. -/
import Derived.Test.YtlamhkffnlgofaaGreatDoorRAdd9
import Derived.Test.YtlamhkffnlgofaaGreatDoorHBM
import Derived.Deep.DeepHandedRow
import Derived.Deep.DeepWitnessRowRef
set_option maxHeartbeats 1600000
set_option maxRecDepth 100000
namespace Go.Proofs.YtlamhkffnlgofaaGreatDoor
open Go.ChangeMaps (open_string shut_string)
open Go.ChangeShapes Go.WideShapes Go.ChangeAt Go.RowKit
theorem aFS (rs:List OB) (cs:List Value) (vl:Value) (hn:rs.length≤140737488351232) (hS:∀ x ∈ rs,Sizes x.1) (ts:List ay) (A:Option Addr) (c:Nat) (t:Int) (hs:Sizes ts) (_:I64 t) (hsm:aDS ts) (w:World) (hp:aj0 w) (hr:Rd w w.heap.size 2 vl rs.length cs) (hrt:AV w w.heap.size cs rs) (ht:aU w w.heap.size (.slice A ts.length c) ts) :
  Calls Tryz.prog 3 #[vl,.agg #[.slice A ts.length c,.int .i64 t]] w fun e w' => e = .returned (.bool true)∧Below w.heap.size w w':=by
 have hI:=aH4 ht;have HP:=hiQ hp;have HT:=hiQ ht;have HR:=hiQ hr;have HRT:=hiQ hrt;have HF:=hiQ (fun (rs:List OB) (cs:List Value) (v:Value) W h1 h2 h3 => aIj rs cs v W h1 h2 h3);have HA:=hiQ (fun (h6:rs.length≤6) (W:World) (hb:Below w.heap.size w W) => aHM rs cs vl ts A c t W (by omega) hS hs (ayc hr hb) (hrt.on hb) (ht.on hb) (fun W2 h => aJ3 (t:=t) hs hI hsm ((hp.on hb).on h) ((ht.on hb).on h)));have HB:=hiQ (fun (h6:rs.length≤6) (W:World) (hb:Below w.heap.size w W) => aKh rs cs vl ts A c t W (by omega) hS hs (ayc hr hb) (hrt.on hb) (ht.on hb) (fun W2 h => aIK (t:=t) hs hI hsm ((hp.on hb).on h) ((ht.on hb).on h)));have aEJ:=aIL (t:=t) hrt ht;have aKK:(∀ x ∈ rs,x.1.length≤8)→ts.length≤8→∀ x ∈ (atd rs cs ts A c t).1,x.1.length≤1000:=fun h1 h2 x hx => by
  unfold atd at hx;split at hx
  · simp at hx
  split at hx
  · have:=h1 x hx;omega
  rcases List.mem_append.1 hx with hx | hx
  · have:=h1 x hx;omega
  rw [List.mem_singleton.1 hx];show ts.length≤_;omega
 have tV:=aKm rs cs ts A c t;have HQL:=hiQ tV;have HRS:=hiQ aEJ;have HK:=hiQ aKK;have HN:=hiQ hn;unfold azx at HA HB;clear hp ht hr hrt hs hsm hI aEJ aKK hn hS tV;generalize atd rs cs ts A c t=q at *;generalize (aj2 ts t).2=n at *;obtain ⟨qs,qc,qi⟩:=q;simp only at HA HB HRS HK HQL;obtain ⟨AVL,cL,rfl,_⟩:=HR.out.form;go_enter Tryz.func3,Tryz.ntmps3
 go_upto_region 1 with fail;refine aO (fun wd2 hb1 P => ?_);have hw3:=hb1;clear hb1;go_wp2_with fail;((with_reducible refine (Eb _ (HP.out.on hw3)).mono ?_);rintro e wd4 ⟨rfl,hb5⟩);replace P:=b1 P hb5;replace hw3:=dT hw3 hb5;clear hb5;go_wp2_with fail;((with_reducible refine (HF.out rs cs _ _ HN.out (ayc HR.out hw3) (HRT.out.on hw3)).mono ?_);rintro e wL ⟨⟨bo1,rfl,hb1⟩,hb7⟩);replace P:=b1 P hb7;replace hw3:=dT hw3 hb7;clear hb7;cases bo1 with
 | false =>
  go_wp2_with fail;((with_reducible refine (Eb _ (HP.out.on hw3)).mono ?_);rintro e qP ⟨rfl,zU⟩);replace P:=b1 P zU;replace hw3:=dT hw3 zU;clear zU;exact zCm
 | true =>
  obtain ⟨h6,h8⟩:=hb1 rfl;have H6:=hiQ h6;have H8:=hiQ h8;clear hb1 h6 h8;obtain ⟨afM,XD⟩:=P.out.c2;go_wp2_with fail;clear afM XD;refine an3 (fun nM hb8 G => ?_);have sH:=P.out.here;have hl12:=hw3.size;replace P:=b1 P hb8;replace hw3:=dT hw3 hb8;clear hb8;generalize wL.heap.size=g10 at *;((with_reducible refine (HF.out [(ts,t)] [.slice A ts.length c,.int .i64 t] _ _ (by simp) (aEA G.out (HT.out.on hw3)).1 (aEA G.out (HT.out.on hw3)).2).mono ?_);rintro e dQ ⟨⟨bo2,rfl,hb2⟩,jh⟩);obtain ⟨P,G⟩:=b2 P G jh;replace hw3:=dT hw3 jh;clear jh;cases bo2 with
  | false =>
   go_wp2_with fail;((with_reducible refine (Eb _ (HP.out.on hw3)).mono ?_);rintro e jA ⟨rfl,hb16⟩);obtain ⟨P,G⟩:=b2 P G hb16;replace hw3:=dT hw3 hb16;clear hb16;exact zCm
  | true =>
   have h82:ts.length≤8:=(hb2 rfl).2 (ts,t) (by simp);have I9:=hiQ (HK.out H8.out h82);have HA2:=hiQ (HA.out H6.out);have HB2:=hiQ (HB.out H6.out);clear hb2 h82 HA HB;obtain ⟨afM,XD⟩:=P.out.c2;go_wp2_with fail;clear afM XD;((with_reducible refine (HA2.out _ hw3).mono ?_);rintro e jA ⟨⟨va,rfl,hra⟩,hb16⟩);obtain ⟨P,G⟩:=b2 P G hb16;replace hw3:=dT hw3 hb16;clear hb16;have RA:=hiQ (Kept.rd (P:=fun w B => Rd w B 2 va qs.length qc) hra (Nat.le_refl _) (fun _ hk => hra.keep hk));clear hra;obtain ⟨afM,XD⟩:=P.out.c2;go_wp2_with fail;clear afM XD;((with_reducible refine (HB2.out _ hw3).mono ?_);rintro e ji ⟨⟨vb,rfl,hrb⟩,nU⟩);obtain ⟨P,G,RA⟩:=b3 P G RA nU;replace hw3:=dT hw3 nU;clear nU;have aI8:=aI9 qs qc va vb ji (by have:=HQL.out;have:=H6.out;omega) I9.out (RA.out.now.mono RA.out.le) hrb (HRS.out.on hw3);have HRO:=hiQ aI8;clear hrb aI8 RA;go_wp2_with fail;((with_reducible refine (HRO.out).mono ?_);rintro e fZ ⟨rfl,iO⟩);obtain ⟨P,G⟩:=b2 P G iO;replace hw3:=dT hw3 iO;clear iO;exact zCm

namespace fr_FingerprintAdd
theorem reads (os:Os) {H:Type} (enc:TypeId × Value→H):∃ places,DataW.whole enc Tryz.prog ((World.doorLaid Tryz.prog 400 os).forCall (fun _ _ => 0) ⟨#[],#[.slice none 0 0,.agg #[.slice none 0 0,.int .i64 0]],[]⟩).memory Tryz.f3.params.toList (Rows.OpenSpec.upto Rows.fingerprintAddSpec).vars false (#[.slice none 0 0,.agg #[.slice none 0 0,.int .i64 0]] : Array Value).toList 8=some ([.nil,.agg [.agg [.nil],.lit (.int .i64 0)]],[],places) :=
  ⟨[],by kernel_rfl⟩
theorem lifted (os:Os) (started:os.Started) (H:Type) (enc:TypeId × Value→H) (F:Stop.Interp) :
    ReturnsInHanded {} Tryz.checked os 3 .any ((Rows.OpenSpec.upto Rows.fingerprintAddSpec).preRow enc Tryz.prog Tryz.f3 Rows.fingerprintAddUptoRow.domain false Rows.fingerprintAddUptoRow.laid) (((Rows.OpenSpec.upto Rows.fingerprintAddSpec).at F).post enc Tryz.prog Tryz.f3 false true false false):=by
  obtain ⟨places,hx⟩:=reads os enc;refine returnsInHanded_of_row (C:=Tryz.checked) (s:=Rows.OpenSpec.upto Rows.fingerprintAddSpec) ad3 started (by kernel_rfl) Tryz.func3
    (witness_row_atRef (enc:=enc) (C:=Tryz.checked) false (World.doorLaid Tryz.prog 400 os) #[.slice none 0 0,.agg #[.slice none 0 0,.int .i64 0]] rfl (by kernel_rfl) (by kernel_rfl) (by kernel_rfl)
      (OpenSpec.preRow_of_cond 8 hx (by kernel_rfl) (fun k hk => by cases hk;kernel_rfl) (by kernel_rfl) (door_met os _))) ?_
  intro W base args ds gs before hval0 hW _ hcond hsz0 hLd _ _;have hsz:(DataW.weightsEach Tryz.prog (Tryz.f3.params.toList ++ Rows.fingerprintAddSpec.plain.varTypes Tryz.prog) (ds ++ gs)).all (· ≤ reachBytes)=true:=hsz0;have hbk:Rows.uptoSmall H (ds ++ gs)=true:=hcond _ rfl;have hval:∀ (j:Nat) t v,Tryz.f3.params[j]?=some t→args[j]?=some v→Value.okWide Tryz.prog W .any base t v:=hval0;have hW':=hW;have hlt:∀ p ∈ before,p.block < W.heap.size:=fun p hp => hW.lt p hp;obtain ⟨p,q,hA0,hV,rfl,hfz,hnd⟩:=hW;have hA:DataW.TrodAll enc Tryz.prog W 0 (fun _ => true) true Tryz.f3.params.toList args.toList ds p:=hA0;have hA2:=hA;rw [Tryz.params3] at hA hval hsz;obtain ⟨v0,vs0,d0,ds0,p0,q0,hargs,rfl,hpq,h0,r0⟩:=trodAll_cons hA;obtain ⟨v1,vs1,d1,ds1,p1,q1,rfl,rfl,rfl,h1,r1⟩:=trodAll_cons r0;obtain ⟨rfl,rfl,rfl⟩:=trodAll_nil r1;obtain rfl:args = #[v0,v1]:=by cases args;simp_all
  obtain ⟨rfl,rfl⟩:=trodVars_none hV;have hb0:Rows.uptoBulk d0≤1048576:=by simp only [Rows.uptoSmall,Rows.uptoBulkAll,List.append_nil,decide_eq_true_eq] at hbk;omega
  have hb1:Rows.uptoBulk d1≤1048576:=by simp only [Rows.uptoSmall,Rows.uptoBulkAll,List.append_nil,decide_eq_true_eq] at hbk;omega
  obtain ⟨a0,e0,m0,z0,b0,u0,y0⟩:=aHj (hval 0 22 v0 rfl rfl) h0 (ZG hsz (j:=0) rfl (by simp));obtain ⟨a1,A1,c1,t1,rfl,z1,i1,b1,u1⟩:=aGr (hval 1 27 v1 rfl rfl) h1 (ZG hsz (j:=1) rfl (by simp));have s1:aDS a1:=fun x hx m hm => Nat.le_trans (b1 x hx m hm) hb1;clear hA0 hval0;refine (aFS a0 e0 v0 m0 z0 a1 A1 c1 t1 z1 i1 s1 W (aho hLd) u0 y0 u1).mono fun e W' ⟨he,bel⟩ => ?_;subst he;have hpost:Rows.fingerprintAddSpec.post enc Tryz.prog Tryz.f3 false true false false W _ (.bool true) W':=⟨_,_,_,[],_,[],hW',trodAll_mk1 (shut_bool Tryz.underlying4 _),UN ad4 bel _ _ _ _ (by kernel_rfl) hA2 (fun x hx => hlt x (by simpa using hx)),rfl,bel.frame _,fun h => by cases h⟩
  exact ⟨_,rfl,hpost⟩
theorem proved:Rows.FingerprintAddUptoSaid :=
  OpenClaim.holds_of_cond 3 Tryz.f3 rfl rfl rfl rfl rfl rfl rfl ⟨rfl,rfl,rfl,rfl,rfl⟩ rfl rfl rfl rfl rfl (by kernel_rfl) Tryz.func3 (by kernel_rfl)
    (of_decide_eq_true (by kernel_rfl)) (by unfold Func.isWrapper;first | (rw [if_pos (by decide +kernel)];kernel_rfl) | (rw [if_neg (by decide +kernel)];exact ⟨rfl,rfl⟩))
    (fun os started H enc _ F => by rw [OpenClaim.pre_eq_preRow];exact lifted os started H enc F)
theorem card:Rows.FingerprintAddUptoCardSaid :=
  Claim7.holds_tied_plain_at .later [] _ _ _ _ proved (fun _ h => by cases h) (by kernel_rfl) (fun _ h => by cases h) fingerprintAddUpto_row_tie rfl ⟨rfl,rfl⟩ (by kernel_rfl) rfl
    (fun f fn hf hfn => by
      obtain rfl:f=3:=Option.some.inj ((show Tryz.prog.funcNamed "sheave/sheavelaw19.FingerprintAdd" = some 3 by kernel_rfl).symm.trans hf) |>.symm;obtain rfl:fn=Tryz.f3:=(Option.some.inj (Tryz.func3.symm.trans hfn)).symm;exact ⟨by kernel_rfl,fun j t ht => by
        rw [Tryz.params3] at ht;have hm:t ∈ [22,27]:=by simpa using Array.mem_of_getElem? ht
        have hall:([22,27].all fun u => !Tryz.prog.wantsStandIn u)=true:=by kernel_rfl
        exact (show Tryz.prog.wantsStandIn t=false by simpa using List.all_eq_true.1 hall t hm)⟩)
    (by kernel_rfl)
#print axioms card
end fr_FingerprintAdd
end Go.Proofs.YtlamhkffnlgofaaGreatDoor

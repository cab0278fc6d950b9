/- payload, and what else is used with it. No condition. -/
import Derived.Test.YtkaedmpppnnamaaGreatDoorHAH
set_option maxHeartbeats 800000
set_option maxRecDepth 100000
namespace Go.Proofs.YtkaedmpppnnamaaGreatDoor
open ChangeShapes WideShapes ChangeAt RowKit
theorem zDk {p:Prop} (h:p:=by
 generalize fU:kL.setRow _ _=lZ;obtain ⟨X,V⟩:=f2 X V (eR fU);replace R:=rR R Z fU.symm (by decide) (by omega);replace KP:=vU KP hgr fU.symm (by omega);replace Z:=dV Z fU;clear fU;exact vJ (v:=.tuple #[.agg #[.int .i64 4,.bool false,.int .i64 0,.string ⟨#[]⟩,.int .i64 q,.slice none 0 0,.slice none 0 0,.slice none 0 0],.bool true]) (by simp [results,Tryz.results50,go_sem,Z.out.c8]) rfl (eu.good (v:=.mk 4 false 0 [] q [] [] []) HR.out R KP (qB _ _ _ _ _ _ _ (by unfold I64;omega) (by unfold I64;omega) (by unfold I64;omega) (by simp)))):p:=h
theorem zJg {p:Prop} (h:p:=by
 clear HD;go_upto_region 25 with (go_at_call 77;refine (HB.out _).mono ?_;rintro e w' ⟨rfl,rfl⟩)
 go_upto_region 25 with fail;exact zHq):p:=h
theorem aeA
 (ts:List ay) (A:Option Addr) (c n gr:Nat) (fp:Value) (fn:Int) (path:List Int) (p:List UInt8) (rec:Int->List UInt8->List Int->mX) (w:World) (hn:n < ts.length) (hk:ts[n].kind=4) (hp:path.length < 200) (hpl:p.length<=800000)
 (R:lC w gr (.slice A ts.length c) fp fn path) (ht:aU w gr (.slice A ts.length c) ts) :
 Calls Tryz.prog 50 #[.pointer (some ⟨gr,0,none⟩),.int .i64 n,.string ⟨p.toArray⟩] w (eu gr (.slice A ts.length c) path w (fH rec ts[n] p path)):=by
 have HB:=hiQ (fun W => Og p W (by omega));have hu:=acv p;have HD:Hid (∀ (x:ay),x.kind=4->fH rec x p path=(if (jX p).2≠0\/(jX p).1 < 1\/1000 < (jX p).1 then .error (path,1) else if (qm x (jX p).1).isSome=false/\x.opn=false then .error (path,4) else .ok (.mk 4 false 0 [] (jX p).1 [] [] []))):=hiQ fun x h => by simp [fH,h]
 generalize jX p=g at *;obtain ⟨q,er⟩:=g;obtain ⟨b,o,rfl,hbb,hel⟩:=ht.elem (by omega);obtain ⟨vs,vm,hcells,hx⟩:=hel n hn;clear hel;generalize ts[n]=x at *;obtain ⟨C1,l1,C2,l2,rfl,rfl,-,-⟩:=hx.forms;have hlt:(n:Int) < ts.length:=by omega
 have hd0:decide ((n:Int) < 0)=false:=by simp
 have hd1:decide (ts.length<=n)=false:=by simpa using hn
 have hlp:¬ (200:Int)<=path.length:=by omega
 have HX:=hiQ hx;have HT:=hiQ ht;have HC:=hiQ hcells;have mY:=hiQ hk;have hN:Hid (n < ts.length):=hiQ hn;have hxs:=hx.lens;clear hx ht hcells hn;have hgr:=R.here;replace R:=hiQ (nS.of R);have KP:=cZ.refl w gr;go_enter Tryz.func50,Tryz.ntmps50
 go_upto_region 1 with fail;refine aO (fun wd2 hb1 Z => ?_);replace R:=rB R hb1;replace KP:=kB KP hgr hb1;clear hb1;obtain ⟨Ap,cp,hcp,r0,r1,-,-⟩:=R.out.at_.cells;obtain ⟨c0,c1,c2,c3,c4,c5,c6,c7,c8,c9⟩:=HC.out.below KP.low hbb;rw [hk] at c0;go_upto_region 23 with fail;clear c0 c1 c2 c3 c4 c5 c6 c7 c8 c9 r0 r1 hd0 hd1 hlp hcp;refine jg (fun wd4 hb3 X V => ?_);have Ox:=Z.out.here;have nI:=KP.size;replace Z:=b1 Z hb3;replace R:=rB R hb3;replace KP:=kB KP hgr hb3;clear hb3;generalize wd2.heap.size=g5 at *;have HD:=HD.out x hk;unfold oV at hu;by_cases h0:er=0
 .
  subst h0;by_cases h1:q < 1
  .
   have HR:Hid (fH rec x p path = .error (path,1)):=by show _=_;rw [HD,o_ (.inr (.inl h1))]
   have h1i:(q:Int) < 1:=by omega
   exact zJg
  by_cases h2:1000 < q
  .
   have HR:Hid (fH rec x p path = .error (path,1)):=by show _=_;rw [HD,o_ (.inr (.inr h2))]
   have h1i:¬ (q:Int) < 1:=by omega
   have h2i:(1000:Int) < q:=by omega
   exact zJg
  rw [gB (by simp;omega)] at HD;replace HD:=hiQ HD;have h1i:¬ (q:Int) < 1:=by omega
  have h2i:¬ (1000:Int) < q:=by omega
  have hwr:IntKind.i64.wrap (q:Int)=q:=by rw [Qz];omega
  have HS:=hiQ (fun W h => ZN x (.slice C1 x.syms.length l1) (.slice C2 x.ah.length l2) q W h);go_upto_region 26 with (go_at_call 77;refine (HB.out _).mono ?_;rintro e w' ⟨rfl,rfl⟩)
  have bG:=V.out.e4;have yQ:=V.out.free 4;go_upto_region 27 with fail;clear bG yQ;generalize kJ:wd4.setCell _ _=qP;obtain ⟨Z,X⟩:=f2 Z X (eF kJ);replace R:=rF R V kJ.symm (by decide) (by omega);replace KP:=kS KP hgr kJ.symm (by omega);replace V:=zB V kJ;clear kJ;have bG:=V.out.e4;obtain ⟨aK,bJ,bY,bZ,dL,eX,bU,dD,dM,dU⟩:=X.out.c10;cases hsy:qm x q with
  | some i =>
   have HR:Hid (fH rec x p path = .ok (.mk 4 false 0 [] q [] [] [])):=by show _=_;rw [HD.out,hsy];simp
   simp only [dA,hk,hsy,xg,M_] at HS;clear hsy;go_wp2_with fail;clear bG aK bJ bY bZ dL eX bU dD dM dU;((with_reducible refine (HS.out _ (HX.out.keep (fun _ hp => KP.low.cell hp) (Qy (u_ hgr KP.size)))).mono ?_);rintro e kL ⟨rfl,iR⟩);obtain ⟨Z,X,V⟩:=b3 Z X V iR;replace R:=rB R iR;replace KP:=kB KP hgr iR;clear iR;go_upto_region 44 with fail;obtain ⟨bK,dh,dn,dI,bG,aQ,aP,dJ⟩:=V.out.c8;go_wp2_with (refine sR Z.out ?_)
   clear bK dh dn dI bG aQ aP dJ;exact zDk
  | none =>
   simp only [dA,hk,hsy,xg,OU] at HS;cases hop:x.opn with
   | true =>
    have HR:Hid (fH rec x p path = .ok (.mk 4 false 0 [] q [] [] [])):=by show _=_;rw [HD.out,hsy,hop];simp
    have Hop:=hiQ hop;clear hsy hop;go_wp2_with fail;clear bG aK bJ bY bZ dL eX bU dD dM dU;((with_reducible refine (HS.out _ (HX.out.keep (fun _ hp => KP.low.cell hp) (Qy (u_ hgr KP.size)))).mono ?_);rintro e kL ⟨rfl,iR⟩);obtain ⟨Z,X,V⟩:=b3 Z X V iR;replace R:=rB R iR;replace KP:=kB KP hgr iR;clear iR;have dU:=X.out.e9;rw [Hop.out] at dU;go_upto_region 44 with fail;obtain ⟨bK,dh,dn,dI,bG,aQ,aP,dJ⟩:=V.out.c8;go_wp2_with (refine sR Z.out ?_)
    clear dU bK dh dn dI bG aQ aP dJ;exact zDk
   | false =>
    have HR:Hid (fH rec x p path = .error (path,4)):=by show _=_;rw [HD.out,hsy,hop];simp
    have Hop:=hiQ hop;clear hsy hop;go_wp2_with fail;clear bG aK bJ bY bZ dL eX bU dD dM dU;((with_reducible refine (HS.out _ (HX.out.keep (fun _ hp => KP.low.cell hp) (Qy (u_ hgr KP.size)))).mono ?_);rintro e kL ⟨rfl,iR⟩);obtain ⟨Z,X,V⟩:=b3 Z X V iR;replace R:=rB R iR;replace KP:=kB KP hgr iR;clear iR;have dU:=X.out.e9;rw [Hop.out] at dU;go_upto_region 29 with fail;have hz:=Z.out.here;go_wp2_with fail;clear dU;((with_reducible refine (kD gr _ _ _ path 4 _ (by omega) R.out.at_).mono ?_);rintro e lZ hp);exact zBr
 have HR:Hid (fH rec x p path = .error (path,1)):=by show _=_;rw [HD,o_ (.inl h0)]
 have h0i:¬ (er:Int)=0:=by omega
 exact zJg
section
variable {P:Program} {ops:Array Oper} {Q:Exit->Act->World->Prop} {md:Region.Mode} {S:World->Prop} {T:Nat->Bool}
def uZ (P:Program) (md:Region.Mode) (ops:Array Oper) (Q:Exit->Act->World->Prop) (S:World->Prop) (T:Nat->Bool):Nat->Array Bool->Act->World->Prop
 | 0,listed,a,w => Region.ready md ops listed = []/\Q .normal a w
 | f+1,listed,a,w => (Region.ready md ops listed = []->Q .normal a w) /\
  ∀ i ∈ Region.ready md ops listed,wpOp P ops Q i (fun a' w' => (T i=false->S w')/\uZ P md ops Q S T f (listed.setIfInBounds i true) a' w') a w
theorem QY:∀ (f:Nat) (listed:Array Bool) (a:Act) (w:World),uZ P md ops Q S T f listed a w->wpAny P md ops Q f listed a w
 | 0,_,_,_,h => h
 | f+1,_,_,_,h => ⟨h.1,fun i hi => wpOp_mono (fun a' w' h' => QY f _ a' w' h'.2) (h.2 i hi)⟩
theorem acw {i j:Nat} {listed:Array Bool} (hr:i ∈ Region.ready md ops listed) (hj:j ∈ Region.ready md ops listed) {oj:Oper} (hoj:ops[j]?=some oj):∀ e ∈ oj.after,Region.binds md e=true->e.on≠i:=fun e he hb heq => by
 obtain ⟨_,o2,ho2,hall⟩:=mem_ready.1 hj;obtain rfl:oj=o2:=by rw [hoj] at ho2;injection ho2
 have h1:=hall e he hb;have h0:=(mem_ready.1 hr).1;rw [heq] at h1;rcases QC i listed.size with h' | h'
 . simp [h'] at h0 h1;rw [h0] at h1;cases h1
 simp [Array.getElem?_eq_none h'] at h1
theorem WB {i:Nat} {oi:Oper} {v:Value} (hi:ops[i]?=some oi) (hsel:∀ (j:Nat) (o:Oper) cs b,ops[j]?=some o->o.op≠.select cs b)
  (hQ:∀ c a w,Q (.panic c) (a.put oi.dst v) w->Q (.panic c) a w) (hT:∀ j oj,ops[j]?=some oj->T j=true->∃ e ∈ oj.after,Region.binds md e=true/\e.on=i) :
  ∀ (f:Nat) (listed:Array Bool) (a:Act) (w:World),
   (∀ j oj,ops[j]?=some oj->j≠i->listed.getD j true=false->(∀ e ∈ oj.after,Region.binds md e=true->e.on≠i)->oi.apart ops oj=true) ->
   i ∈ Region.ready md ops listed->YieldsIf P ops S oi v a->S w ->
   uZ P md ops Q S T f (listed.setIfInBounds i true) (a.put oi.dst v) w->uZ P md ops Q S T (f+1) listed a w:=by
 intro f
 induction f with
 | zero =>
  intro listed a w _ hr hy hS H;refine ⟨fun h => (by rw [h] at hr;cases hr),fun j hj => ?_⟩;by_cases hji:j=i
  . subst hji;exact hy.wpOp hi hS ⟨fun _ => hS,H⟩
  have:=ready_mono hj hji;rw [H.1] at this;cases this
 | succ f ih =>
  intro listed a w hfree hr hy hS H;refine ⟨fun h => (by rw [h] at hr;cases hr),fun j hj => ?_⟩;by_cases hji:j=i
  . subst hji;exact hy.wpOp hi hS ⟨fun _ => hS,H⟩
  have h1:=H.2 j (ready_mono hj hji);obtain ⟨hjun,oj,hoj,_⟩:=mem_ready.1 hj;have hnot:=acw hr hj hoj;have hTj:T j=false:=by
   cases hq:T j with
   | false => rfl
   | true => obtain ⟨e,he,hb,hon⟩:=hT j oj hoj hq;exact absurd hon (hnot e he hb)
  have h2:=wpOp_putIf hoj (hfree j oj hoj hji hjun hnot) (fun cs b => hsel i oi cs b hi) (fun cs b => hsel j oj cs b hoj) hQ hy h1;have hfree':∀ k ok,ops[k]?=some ok->k≠i->(listed.setIfInBounds j true).getD k true=false->(∀ e ∈ ok.after,Region.binds md e=true->e.on≠i)->oi.apart ops ok=true:=fun k ok hk hki hun hno => by
   refine hfree k ok hk hki ?_ hno;by_cases hjk:j=k
   . subst hjk;exact hjun
   rw [getD_set_ne true hjk] at hun;exact hun
  refine wpOp_mono (fun a' w' h3 => ⟨h3.2.1,ih (listed.setIfInBounds j true) a' w' hfree' (ready_mono hr (Ne.symm hji)) h3.1 (h3.2.1 hTj) ?_⟩) h2;rw [Array.setIfInBounds_comm _ _ hji];exact h3.2.2
def lastB (md:Region.Mode) (ops:Array Oper) (T:Nat->Bool) (i:Nat):Bool :=
 (List.range ops.size).all fun j => !T j || match ops[j]? with | some oj => oj.after.any (fun e => Region.binds md e && e.on == i) | none => true
theorem ZY {i:Nat} (h:lastB md ops T i=true):∀ j oj,ops[j]?=some oj->T j=true->∃ e ∈ oj.after,Region.binds md e=true/\e.on=i:=fun j oj hj hT => by
 simp only [lastB,QD,List.mem_range] at h;have h1:=h j (Array.getElem?_eq_some_iff.1 hj).1;simp only [hT,hj,Uu,Bool.false_or] at h1;obtain ⟨e,he,hb⟩:=Array.any_eq_true'.1 h1;simp only [j_,TL] at hb;exact ⟨e,he,hb.1,hb.2⟩
theorem l9 {id:Nat} {a:Act} {w:World} (T:Nat->Bool) (hm:P.follows .mixedOrders=true) (hS:S w.drew)
  (h:S w.drew->uZ P .any ops Q S T ops.size (Array.replicate ops.size false) a w.drew):(Code.region id ops true).wp P Q a w :=
 wp_region_any hm (QY _ _ _ _ (h hS))
variable {f:Nat} {listed:Array Bool} {a:Act} {w:World} {oi:Oper}
theorem eH (i:Nat) {v:Value} {a2:Act} (r:uZ P md ops Q S T f (listed.setIfInBounds i true) a2 w) (hi:ops[i]?=some oi:=by rfl) (y:∀ w,S w->(execOp a.eval oi).run P w = .ok (.value v) w:=by (intro w hS;(try dsimp only at hS);go_simp;(first | done | with_reducible rfl)))
  (h1:Region.noSelect ops=true:=by kernel_rfl) (h2:Region.free md ops listed i=true:=by kernel_rfl) (h3:(Region.ready md ops listed).contains i=true:=by kernel_rfl) (h7:lastB md ops T i=true:=by kernel_rfl)
  (h4:∀ c a w,Q (.panic c) (a.put oi.dst v) w->Q (.panic c) a w:=by exact fun _ _ _ h => h) (h5:Region.wanted oi (yielded ops a.tmps)=true:=by rfl) (h6:S w:=by assumption) (e:a.put oi.dst v=a2:=by simp only [aF];exact rfl):uZ P md ops Q S T (f+1) listed a w :=
 WB hi (Region.noSelect_spec h1) h4 (ZY h7) f listed a w (Region.free_spec hi h2) (by simpa using h3) (.inl ⟨h5,y⟩) h6 (e ▸ r)
def dX (P:Program) (md:Region.Mode) (ops:Array Oper) (Q:Exit->Act->World->Prop) (S:World->Prop) (T:Nat->Bool) (f:Nat) (listed:Array Bool) (a:Act) (w:World) (rs:List Nat):Prop :=
 ∀ i ∈ rs,wpOp P ops Q i (fun a' w' => (T i=false->S w')/\uZ P md ops Q S T f (listed.setIfInBounds i true) a' w') a w
theorem dX.nil:dX P md ops Q S T f listed a w []:=fun _ h => by cases h
theorem dX.cons {i:Nat} {o:Oper} {rs:List Nat} (ho:ops[i]?=some o)
  (h:∀ K':Act->World->Prop,Shut (∀ a w,S w->(S w->uZ P md ops Q S T f (listed.setIfInBounds i true) a w)->K' a w)->if Region.wanted o (yielded ops a.tmps)=true then Oper.wp P o a w K' Q else K' (a.put o.dst undef) w)
  (hs:dX P md ops Q S T f listed a w rs):dX P md ops Q S T f listed a w (i :: rs):=fun j hj => by
 rcases N_.1 hj with rfl | hj
 . exact wpOp_step ho (fun K' hK => h K' (fun a w hS hW => hK a w ⟨fun _ => hS,hW hS⟩))
 exact hs j hj
theorem dX.last {i:Nat} {o:Oper} (hT:T i=true) (ho:ops[i]?=some o)
  (h:∀ K':Act->World->Prop,Shut (∀ a w,uZ P md ops Q S T f (listed.setIfInBounds i true) a w->K' a w)->if Region.wanted o (yielded ops a.tmps)=true then Oper.wp P o a w K' Q else K' (a.put o.dst undef) w) :
  dX P md ops Q S T f listed a w [i]:=fun j hj => by
 rcases N_.1 hj with rfl | hj
 . exact wpOp_step ho (fun K' hK => h K' (fun a w hW => hK a w ⟨(fun h0 => by rw [hT] at h0;cases h0),hW⟩))
 cases hj
theorem lV {rs:List Nat} (hr:Region.ready md ops listed=rs) (hne:rs≠[]) (h:dX P md ops Q S T f listed a w rs):uZ P md ops Q S T (f+1) listed a w :=
 ⟨fun h0 => absurd (hr ▸ h0) hne,hr ▸ h⟩
theorem akJ (hr:Region.ready md ops listed = []) (h:Q .normal a w):∀ f,uZ P md ops Q S T f listed a w
 | 0 => ⟨hr,h⟩
 | _+1 => ⟨fun _ => h,by rw [hr];simp⟩
theorem gJ (i:Nat) {o:Oper} (h:∀ K':Act->World->Prop,Shut (∀ a w,S w->(S w->uZ P md ops Q S T f (listed.setIfInBounds i true) a w)->K' a w)->if Region.wanted o (yielded ops a.tmps)=true then Oper.wp P o a w K' Q else K' (a.put o.dst undef) w) (hr:Region.ready md ops listed = [i]:=by kernel_rfl) (ho:ops[i]?=some o:=by rfl):uZ P md ops Q S T (f+1) listed a w :=
 lV hr (by simp) (dX.cons ho h dX.nil)
theorem pG (i:Nat) {o:Oper} (h:∀ K':Act->World->Prop,Shut (∀ a w,uZ P md ops Q S T f (listed.setIfInBounds i true) a w->K' a w)->if Region.wanted o (yielded ops a.tmps)=true then Oper.wp P o a w K' Q else K' (a.put o.dst undef) w) (hr:Region.ready md ops listed = [i]:=by kernel_rfl) (hT:T i=true:=by rfl) (ho:ops[i]?=some o:=by rfl):uZ P md ops Q S T (f+1) listed a w :=
 lV hr (by simp) (dX.last hT ho h)
end
def Iq (ts:List ay) (gr:Nat) (tv:Value) (rec:Int->List UInt8->List Int->mX) (path:List Int):Prop :=
 ∀ (W:World) (fp:Value) (fn s t:Int) (q:List UInt8),lC W gr tv fp fn path->aU W gr tv ts->(bM ts t).isSome=true->q.length<=800000 ->
  Calls Tryz.prog 79 #[.pointer (some ⟨gr,0,none⟩),.int .i64 s,.int .i64 t,.string ⟨q.toArray⟩] W (eu gr tv path W (rec t q (path ++ [s])))
def aeB (f:Val->Val):mX->mX
 | .error e => .error e
 | .ok v => .ok (f v)
theorem zDx {p:Prop} (h:p:=by
 obtain ⟨Z,X,V,N⟩:=f4 Z X V N (eR ku);replace R:=rR R I ku.symm (by decide) (by omega);replace KP:=vU KP hgr ku.symm (by omega);replace I:=dV I ku;clear ku;(try clear hHeld);refine hK.out _ _ (X.out.cell 8) (fun hHeld => ?_);clear hK K;refine tk 11 ?_;refine Dl (by kernel_rfl) ?_ _;(try clear hHeld);go_wp2_with fail;go_meet
 have hBl:=N.out.le;exact ⟨⟨_,_,_,_,_,_,_,_,_,_,_,_,_,_,rfl,rfl,rE,I.out,R.out,N.out,by omega,by omega,by omega⟩,KP,Z.out,V.out⟩):p:=h
theorem zGp {p:Prop} (h:p:=by
 obtain ⟨p',n'⟩:=pn;obtain ⟨rfl,hf⟩:=hN;exact eu.bad (by rw [HD.out];rfl) R KP hf (by simp [Value.oneCell'])):p:=h
theorem aeC
 (ts:List ay) (A:Option Addr) (c n gr:Nat) (fp:Value) (fn:Int) (path:List Int) (p:List UInt8) (rec:Int->List UInt8->List Int->mX) (w:World) (hn:n < ts.length) (hk:ts[n].kind=9) (hp:path.length < 200) (hpl:p.length<=800000)
 (R:lC w gr (.slice A ts.length c) fp fn path) (ht:aU w gr (.slice A ts.length c) ts) (HP:Iq ts gr (.slice A ts.length c) rec path) (he:(bM ts ts[n].elem).isSome=true) :
 Calls Tryz.prog 50 #[.pointer (some ⟨gr,0,none⟩),.int .i64 n,.string ⟨p.toArray⟩] w (eu gr (.slice A ts.length c) path w (fH rec ts[n] p path)):=by
 have HP:=hiQ HP;rcases p with _ | ⟨b0,p⟩
 .
  skip
  obtain ⟨b,o,rfl,hbb,hel⟩:=ht.elem (by omega);obtain ⟨vs,vm,hcells,hx⟩:=hel n hn;clear hel;generalize ts[n]=x at *;obtain ⟨C1,l1,C2,l2,rfl,rfl,-,-⟩:=hx.forms;have hlt:(n:Int) < ts.length:=by omega
  have hd0:decide ((n:Int) < 0)=false:=by simp
  have hd1:decide (ts.length<=n)=false:=by simpa using hn
  have hlp:¬ (200:Int)<=path.length:=by omega
  have HX:=hiQ hx;have HT:=hiQ ht;have HC:=hiQ hcells;have mY:=hiQ hk;have hN:Hid (n < ts.length):=hiQ hn;have hxs:=hx.lens;clear hx ht hcells hn;have hgr:=R.here;replace R:=hiQ (nS.of R);have KP:=cZ.refl w gr;go_enter Tryz.func50,Tryz.ntmps50
  go_upto_region 1 with fail;refine aO (fun wd2 hb1 Z => ?_);replace R:=rB R hb1;replace KP:=kB KP hgr hb1;clear hb1;obtain ⟨Ap,cp,hcp,r0,r1,-,-⟩:=R.out.at_.cells;obtain ⟨c0,c1,c2,c3,c4,c5,c6,c7,c8,c9⟩:=HC.out.below KP.low hbb;rw [hk] at c0;go_upto_region 31 with fail;clear c0 c1 c2 c3 c4 c5 c6 c7 c8 c9 r0 r1 hd0 hd1 hlp hcp;refine jg (fun wd4 hb3 X V => ?_);have Ox:=Z.out.here;have nI:=KP.size;replace Z:=b1 Z hb3;replace R:=rB R hb3;replace KP:=kB KP hgr hb3;clear hb3;generalize wd2.heap.size=g5 at *;have HR:Hid (fH rec x [] path = .ok (.mk 9 false 0 [] 0 [] [] [])):=by show _=_;simp [fH,mY.out,agc]
  go_upto_region 32 with fail;obtain ⟨bK,dh,dn,dI,bG,aQ,aP,dJ⟩:=V.out.c8;go_wp2_with (refine sR Z.out ?_)
  clear bK dh dn dI bG aQ aP dJ;generalize kJ:wd4.setRow _ _=qP;obtain ⟨X,V⟩:=f2 X V (eR kJ);replace R:=rR R Z kJ.symm (by decide) (by omega);replace KP:=vU KP hgr kJ.symm (by omega);replace Z:=dV Z kJ;clear kJ;exact vJ (v:=.tuple #[.agg #[.int .i64 9,.bool false,.int .i64 0,.string ⟨#[]⟩,.int .i64 0,.slice none 0 0,.slice none 0 0,.slice none 0 0],.bool true]) (by simp [results,Tryz.results50,go_sem,Z.out.c8]) rfl (eu.good (v:=.mk 9 false 0 [] 0 [] [] []) HR.out R KP (qB _ _ _ _ _ _ _ (by unfold I64;omega) (by unfold I64;omega) (by unfold I64;omega) (by simp)))
 skip
 obtain ⟨b,o,rfl,hbb,hel⟩:=ht.elem (by omega);obtain ⟨vs,vm,hcells,hx⟩:=hel n hn;clear hel;generalize ts[n]=x at *;obtain ⟨C1,l1,C2,l2,rfl,rfl,-,-⟩:=hx.forms;have hlt:(n:Int) < ts.length:=by omega
 have hd0:decide ((n:Int) < 0)=false:=by simp
 have hd1:decide (ts.length<=n)=false:=by simpa using hn
 have hlp:¬ (200:Int)<=path.length:=by omega
 have HX:=hiQ hx;have HT:=hiQ ht;have HC:=hiQ hcells;have mY:=hiQ hk;have hN:Hid (n < ts.length):=hiQ hn;have hxs:=hx.lens;clear hx ht hcells hn;have hgr:=R.here;replace R:=hiQ (nS.of R);have KP:=cZ.refl w gr;go_enter Tryz.func50,Tryz.ntmps50
 go_upto_region 1 with fail;refine aO (fun wd2 hb1 Z => ?_);replace R:=rB R hb1;replace KP:=kB KP hgr hb1;clear hb1;obtain ⟨Ap,cp,hcp,r0,r1,-,-⟩:=R.out.at_.cells;obtain ⟨c0,c1,c2,c3,c4,c5,c6,c7,c8,c9⟩:=HC.out.below KP.low hbb;rw [hk] at c0;go_upto_region 31 with fail;clear c0 c1 c2 c3 c4 c5 c6 c7 c8 c9 r0 r1 hd0 hd1 hlp hcp;refine jg (fun wd4 hb3 X V => ?_);have Ox:=Z.out.here;have nI:=KP.size;replace Z:=b1 Z hb3;replace R:=rB R hb3;replace KP:=kB KP hgr hb3;clear hb3;generalize wd2.heap.size=g5 at *;have hpe:(b0 :: p).length=p.length+1:=rfl;have hi0:∀ h,(({ data:=(b0 :: p).toArray } : ByteArray)[0]'h)=b0:=fun _ => rfl;have HE:=hiQ he;clear he;by_cases h1:b0.toNat=1
 .
  obtain rfl:b0=1:=UInt8.toNat_inj.1 h1;have HD:Hid (fH rec x (1 :: p) path=aeB (fun v => .mk 9 false 0 [] 0 [] [v] []) (rec x.elem p (path ++ [0]))):=by show _=_;cases hq:rec x.elem p (path ++ [0]) <;> simp [fH,mY.out,h1,aeB,hq]
  clear h1;go_upto_region 35 with fail;have h1p:(1:Int)<=(p.length:Int)+1:=by omega
  have hcut:({ data:=(1 :: p).toArray } : ByteArray).extract 1 (p.length+1) = { data:=p.toArray }:=Pg _ _ _ rfl;obtain ⟨gX,rfl⟩ : ∃ g,g=g5:=⟨_,rfl⟩
  have HPQ:=hiQ (fun (W:World) (fp':Value) (fn':Int) h1 h2 => HP.out W fp' fn' 0 x.elem p h1 h2 HE.out (by omega));generalize rec x.elem p (path ++ [0])=q at *;go_cut [16,17] from 162 to 170 (fun s16 s17 wx => Qk wx gr (.slice (some ⟨b,o,none⟩) ts.length c) path q (gX+1) s16 s17/\cZ w gr wx/\Has wx w.heap.size 34 #[.int .i64 0,.bool false,.int .i64 0,.string ⟨#[]⟩,.int .i64 0,.slice none 0 0,.slice none 0 0,.slice none 0 0]/\Has wx (gX+1) 34 #[.int .i64 9,.bool false,.int .i64 0,.string ⟨#[]⟩,.int .i64 0,.slice none 0 0,.slice none 0 0,.slice none 0 0])
  case first =>
   have dM:=X.out.e8;refine t_ (S:=(fun w' => w'.cell? ⟨gX,8,none⟩=some (.int .i64 x.elem))) (by kernel_rfl) dM (fun hHeld => ?_);clear dM;have hb8:Below wd4.heap.size wd4 (wd4.drew):=(g_ _ _).drew;obtain ⟨Z,X,V⟩:=b3 Z X V hb8;replace R:=rB R hb8;replace KP:=kB KP hgr hb8;clear hb8;generalize wd4.drew=nM at *;refine tk 0 ?_;refine tk 1 ?_;refine tk 2 ?_;refine tk 3 ?_;refine tk 4 ?_;refine I_ (rs:=[5,9]) (by kernel_rfl) (by simp) ?_;refine yI rfl (fun K hK => ?_) (yI rfl (fun K hK => ?_) (FB))
   .
    skip
    go_simp;have sO:=Z.out.here;have sW:=X.out.here;have Az:=V.out.here;have BQ:=KP.size;((with_reducible refine (HPQ.out _ _ _ R.out.at_ (HT.out.keep (fun _ hp => KP.low.cell hp) (b_ _))).mono ?_);rintro e kL amK);obtain ⟨ap0,ap1,pR,pU,pV,pW,pX,pY,qc,qg,EZ,rE,rfl,amL,WC,N⟩:=amK.take;replace Z:=lK Z WC (by omega) (by decide);replace X:=lK X WC (by omega) (by decide);replace V:=lK V WC (by omega) (by decide);replace R:=hiQ amL;replace KP:=KP.trans WC;replace N:=hiQ N;clear WC;have zh:(#[pR,pU,pV,pW,pX,pY,qc,qg] : Array Value).all (·.oneCell')=true:=by simpa using rE
    generalize nM.heap.size=L11 at *;(try clear hHeld);refine hK.out _ _ (X.out.cell 8) (fun hHeld => ?_);clear hK K;refine tk 6 ?_;refine tk 7 ?_;refine tk 8 ?_;refine iE 9 fun K hK => ?_;go_simp;refine aO (fun lq gq I => ?_);have sJ:=Z.out.here;have uP:=X.out.here;have sN:=V.out.here;have uQ:=N.out.le;have sK:=KP.size;obtain ⟨Z,X,V,N⟩:=b4 Z X V N gq;replace R:=rB R gq;replace KP:=kB KP hgr gq;clear gq;generalize kL.heap.size=g23 at *;(try clear hHeld);refine hK.out _ _ (X.out.cell 8) (fun hHeld => ?_);clear hK K;refine iE 10 fun K hK => ?_;refine eY (by rfl) 34 _ _ (by rfl) (g23) #[pR,pU,pV,pW,pX,pY,qc,qg] (by rfl) (by rfl) 34 _ I.out (by kernel_rfl) rfl (by first | assumption | simp [Value.oneCell']) ?_;generalize ku:lq.setRow _ _=BR;exact zDx
   skip
   go_simp;refine aO (fun dw aY I => ?_);have alh:=Z.out.here;have akV:=X.out.here;have qA:=V.out.here;have alj:=KP.size;obtain ⟨Z,X,V⟩:=b3 Z X V aY;replace R:=rB R aY;replace KP:=kB KP hgr aY;clear aY;generalize nM.heap.size=g12 at *;(try clear hHeld);refine hK.out _ _ (X.out.cell 8) (fun hHeld => ?_);clear hK K;refine iE 5 fun K hK => ?_;go_simp;have sJ:=Z.out.here;have uP:=X.out.here;have sN:=V.out.here;have uQ:=I.out.here;have sK:=KP.size;((with_reducible refine (HPQ.out _ _ _ R.out.at_ (HT.out.keep (fun _ hp => KP.low.cell hp) (b_ _))).mono ?_);rintro e ji amM);obtain ⟨ap2,ap3,pR,pU,pV,pW,pX,pY,qc,qg,EZ,rE,rfl,amN,SX,N⟩:=amM.take;replace Z:=lK Z SX (by omega) (by decide);replace X:=lK X SX (by omega) (by decide);replace V:=lK V SX (by omega) (by decide);replace I:=lK I SX (by omega) (by decide);replace R:=hiQ amN;replace KP:=KP.trans SX;replace N:=hiQ N;clear SX;have zh:(#[pR,pU,pV,pW,pX,pY,qc,qg] : Array Value).all (·.oneCell')=true:=by simpa using rE
   generalize dw.heap.size=L18 at *;(try clear hHeld);refine hK.out _ _ (X.out.cell 8) (fun hHeld => ?_);clear hK K;refine tk 6 ?_;refine tk 7 ?_;refine tk 8 ?_;refine iE 10 fun K hK => ?_;refine eY (by rfl) 34 _ _ (by rfl) (g12) #[pR,pU,pV,pW,pX,pY,qc,qg] (by rfl) (by rfl) 34 _ I.out (by kernel_rfl) rfl (by first | assumption | simp [Value.oneCell']) ?_;generalize ku:ji.setRow _ _=BR;exact zDx
  case rest =>
   obtain ⟨⟨gI,fp',fn',c0,c1,c2,c3,c4,c5,c6,c7,bb,L,B,rfl,rfl,h1',I,R,hN,hL,hgI,hLB⟩,KP,Z,V⟩:=hcut;replace R:=hiQ R;replace Z:=hiQ Z;replace V:=hiQ V;replace I:=hiQ I;have N:=hiQ (hN);clear hN;obtain ⟨iF,iG,iH,iI,bT,gU,dH,bV⟩:=I.out.c8;have fa:=SL V 6;have ca:=Pv (V.out.cell 6);go_upto_region 37 with fail;clear fa ca iF iG iH iI bT gU dH bV;generalize jE:wc.alloc _=nM;have ⟨hb8,G⟩:=uj jE;clear jE;have hl12:=Z.out.here;have alh:=V.out.here;have akV:=I.out.here;have qA:=N.out.le;have alj:=KP.size;obtain ⟨Z,V,I,N⟩:=b4 Z V I N hb8;replace R:=rB R hb8;replace KP:=kB KP hgr hb8;clear hb8;generalize wc.heap.size=g11 at *;generalize fQ:nM.setCell _ _=ji;obtain ⟨Z,I,G,N⟩:=f4 Z I G N (eF fQ);replace R:=rF R V fQ.symm (by decide) (by omega);replace KP:=kS KP hgr fQ.symm (by omega);replace V:=qM V fQ;clear fQ;obtain ⟨bK,dh,dn,dI,bG,aQ,aP,dJ⟩:=V.out.c8;go_wp2_with (refine sR Z.out ?_)
   clear bK dh dn dI bG aQ aP dJ;generalize hE20:ji.setRow _ _=fZ;obtain ⟨V,I,G,N⟩:=f4 V I G N (eR hE20);replace R:=rR R Z hE20.symm (by decide) (by omega);replace KP:=vU KP hgr hE20.symm (by omega);replace Z:=dV Z hE20;clear hE20;have hNl:=N.out.le;have HF:Hid (eu gr (.slice (some ⟨b,o,none⟩) ts.length c) path w (fH rec x (1 :: p) path) (.returned (.tuple #[.agg #[.int .i64 9,.bool false,.int .i64 0,.string ⟨#[]⟩,.int .i64 0,.slice none 0 0,.slice (some ⟨g11,0,none⟩) 1 1,.slice none 0 0],.bool bb])) fZ):=by
    show eu _ _ _ _ _ _ _;have hN:=N.out.now;cases q with
    | ok v =>
     obtain ⟨rfl,vk,vi,vr,hc,hv⟩:=hN;exact eu.good (v:=.mk 9 false 0 [] 0 [] [v] []) (by rw [HD.out];rfl) R KP (Wx hv (by omega) hNl (by rw [<- hc];exact G.out) (by decide) (by omega) (by unfold I64;omega) (by unfold I64;omega))
    | error pn =>
     exact zGp
   exact vJ (v:=.tuple #[.agg #[.int .i64 9,.bool false,.int .i64 0,.string ⟨#[]⟩,.int .i64 0,.slice none 0 0,.slice (some ⟨g11,0,none⟩) 1 1,.slice none 0 0],.bool bb]) (by simp [results,Tryz.results50,go_sem,Z.out.c8]) rfl (HF.out)
 have HR:Hid (fH rec x (b0 :: p) path = .error (path,1)):=by show _=_;simp [fH,mY.out,h1]
 have h1i:¬ (b0.toNat:Int)=1:=by omega
 have h1n:¬ b0=1:=fun e => h1 (by rw [e];rfl);have h1b:(b0 != 1)=true:=by simpa using h1n
 have h1c:((b0.toNat:Int) != 1)=true:=by simpa using h1i
 go_upto_region 34 with fail;exact zHq
def NH (ts:List ay) (tv:Value) (l:List Val):Prop := ∀ y ∈ l,∀ (t:Int) (yk yi yr:Value) (W:World),cO ts false y t=true->(fE ts y t).length<=140737488355328->ValAt W W.heap.size y yk yi yr->aU W W.heap.size tv ts ->
 Calls Tryz.prog 25 #[.agg #[tv],.int .i64 t,aS y yk yi yr] W fun e w' => e = .returned (.string ⟨(fE ts y t).toArray⟩)/\Below W.heap.size W w'
theorem acy
 (ts:List ay) (A:Option Addr) (c n:Nat) (v:Val) (A1 A2 A3:Option Addr) (n1 n2 n3:Nat) (w:World) (hn:n < ts.length) (hk:ts[n].kind=1) (hkv:v.kind=1)
 (ht:aU w w.heap.size (.slice A ts.length c) ts) (hv:ValAt w w.heap.size v (.slice A1 v.keys.length n1) (.slice A2 v.items.length n2) (.slice A3 v.rest.length n3)) (hz:(fE ts v n).length<=140737488355328) :
 Calls Tryz.prog 25 #[.agg #[.slice A ts.length c],.int .i64 n,aS v (.slice A1 v.keys.length n1) (.slice A2 v.items.length n2) (.slice A3 v.rest.length n3)] w (RT w (.string ⟨(fE ts v n).toArray⟩)):=by
 obtain ⟨b,o,rfl,hbb,hel⟩:=ht.elem (by omega);obtain ⟨vs,vm,hcells,hx⟩:=hel n hn;clear hel;have hxt:bM ts n=some ts[n]:=by unfold bM;rw [o_ (by omega)];simp [hn]
 have HE:=hiQ (tu ts v n ts[n] hxt)
 skip
 generalize ts[n]=x at *;obtain ⟨C1,l1,C2,l2,rfl,rfl,-,-⟩:=hx.forms;have hlt:(n:Int) < ts.length:=by omega
 have hd0:decide ((n:Int) < 0)=false:=by simp
 have hd1:decide (ts.length<=n)=false:=by simpa using hn
 have HX:=hiQ hx;have HT:=hiQ ht;have HV:=hiQ hv;have HC:=hiQ hcells;have mY:=hiQ hk;have HZ:=hiQ hz;have hxs:=hx.lens;have hvl:=hv.lens;have J3:=hv.ints;simp only [aS,hkv];clear hx ht hcells hn hv hxt hkv hz;go_enter Tryz.func25,Tryz.ntmps25
 go_upto_region 1 with fail;refine jg (fun wd2 hb1 S I => ?_);have hw3:=hb1;clear hb1;obtain ⟨c0,c1,c2,c3,c4,c5,c6,c7,c8,c9⟩:=HC.out.below (hw3) (by omega);rw [hk] at c0;have aH:=S.out.e0;obtain ⟨iF,iG,iH,iI,bT,gU,dH,bV⟩:=I.out.c8;go_upto_region 2 with fail;clear c0 c1 c2 c3 c4 c5 c6 c7 c8 c9 hd0 hd1 aH iF iG iH iI bT gU dH bV;refine aO (fun fG hb4 X => ?_);have nI:=S.out.here;have mO:=I.out.here;have kH:=hw3.size;obtain ⟨S,I⟩:=b2 S I hb4;replace hw3:=dT hw3 hb4;clear hb4;generalize wd2.heap.size=g6 at *;obtain ⟨gX,rfl⟩ : ∃ g,g=g6:=⟨_,rfl⟩
 have zD:w.heap.size+1 < gX:=by omega
 obtain ⟨iF,iG,iH,iI,bT,gU,dH,bV⟩:=I.out.c8;obtain ⟨aK,bJ,bY,bZ,dL,eX,bU,dD,dM,dU⟩:=X.out.c10;have HR:Hid (fE ts v n=if v.bool then [1] else []):=by show _=_;rw [HE.out];simp [Ce,mY.out]
 generalize v.bool=vb at *;cases vb
 .
  go_wp2_with fail;go_ret;exact ⟨Aa (by rw [HR.out];rfl),hw3⟩
 go_wp2_with fail;go_ret;exact ⟨Aa (by rw [HR.out];rfl),hw3⟩
theorem zEj {p:Prop} (h:p:=by
 go_wp2_with fail;clear iF iG iH iI bT gU dH bV aK bJ bY bZ dL eX bU dD dM dU;((with_reducible refine (Wu z (by unfold oV;omega) _).mono ?_);rintro e kL ⟨rfl,iR⟩);obtain ⟨S,I,X⟩:=b3 S I X iR;replace hw3:=dT hw3 iR;clear iR;go_wp2_with fail;go_ret;exact ⟨Aa (by rw [HR.out];rfl),hw3⟩):p:=h
theorem acz
 (ts:List ay) (A:Option Addr) (c n:Nat) (v:Val) (A1 A2 A3:Option Addr) (n1 n2 n3:Nat) (w:World) (hn:n < ts.length) (hk:ts[n].kind=2) (hkv:v.kind=2)
 (ht:aU w w.heap.size (.slice A ts.length c) ts) (hv:ValAt w w.heap.size v (.slice A1 v.keys.length n1) (.slice A2 v.items.length n2) (.slice A3 v.rest.length n3)) (hz:(fE ts v n).length<=140737488355328) :
 Calls Tryz.prog 25 #[.agg #[.slice A ts.length c],.int .i64 n,aS v (.slice A1 v.keys.length n1) (.slice A2 v.items.length n2) (.slice A3 v.rest.length n3)] w (RT w (.string ⟨(fE ts v n).toArray⟩)):=by
 obtain ⟨b,o,rfl,hbb,hel⟩:=ht.elem (by omega);obtain ⟨vs,vm,hcells,hx⟩:=hel n hn;clear hel;have hxt:bM ts n=some ts[n]:=by unfold bM;rw [o_ (by omega)];simp [hn]
 have HE:=hiQ (tu ts v n ts[n] hxt)
 skip
 generalize ts[n]=x at *;obtain ⟨C1,l1,C2,l2,rfl,rfl,-,-⟩:=hx.forms;have hlt:(n:Int) < ts.length:=by omega
 have hd0:decide ((n:Int) < 0)=false:=by simp
 have hd1:decide (ts.length<=n)=false:=by simpa using hn
 have HX:=hiQ hx;have HT:=hiQ ht;have HV:=hiQ hv;have HC:=hiQ hcells;have mY:=hiQ hk;have HZ:=hiQ hz;have hxs:=hx.lens;have hvl:=hv.lens;have J3:=hv.ints;simp only [aS,hkv];clear hx ht hcells hn hv hxt hkv hz;go_enter Tryz.func25,Tryz.ntmps25
 go_upto_region 1 with fail;refine jg (fun wd2 hb1 S I => ?_);have hw3:=hb1;clear hb1;obtain ⟨c0,c1,c2,c3,c4,c5,c6,c7,c8,c9⟩:=HC.out.below (hw3) (by omega);rw [hk] at c0;have aH:=S.out.e0;obtain ⟨iF,iG,iH,iI,bT,gU,dH,bV⟩:=I.out.c8;go_upto_region 2 with fail;clear c0 c1 c2 c3 c4 c5 c6 c7 c8 c9 hd0 hd1 aH iF iG iH iI bT gU dH bV;refine aO (fun fG hb4 X => ?_);have nI:=S.out.here;have mO:=I.out.here;have kH:=hw3.size;obtain ⟨S,I⟩:=b2 S I hb4;replace hw3:=dT hw3 hb4;clear hb4;generalize wd2.heap.size=g6 at *;obtain ⟨gX,rfl⟩ : ∃ g,g=g6:=⟨_,rfl⟩
 have zD:w.heap.size+1 < gX:=by omega
 obtain ⟨iF,iG,iH,iI,bT,gU,dH,bV⟩:=I.out.c8;obtain ⟨aK,bJ,bY,bZ,dL,eX,bU,dD,dM,dU⟩:=X.out.c10;have HR:Hid (fE ts v n=iq 8 (zig v.num).toNat []):=by show _=_;rw [HE.out];simp [Ce,mY.out]
 have hzr:=TT v.num J3.2.1;have hrz:=fun W => Ph v.num J3.2.1 W;obtain ⟨z,hze⟩ : ∃ z:Nat,zig v.num=(z:Int):=⟨(zig v.num).toNat,by omega⟩
 rw [hze] at hrz hzr HR;have HRZ:=hiQ hrz;clear hrz hze;go_wp2_with fail;refine (HRZ.out _).mono ?_;rintro e w1 ⟨rfl,rfl⟩;exact zEj
theorem acA
 (ts:List ay) (A:Option Addr) (c n:Nat) (v:Val) (A1 A2 A3:Option Addr) (n1 n2 n3:Nat) (w:World) (hn:n < ts.length) (hk:ts[n].kind=3) (hkv:v.kind=3)
 (ht:aU w w.heap.size (.slice A ts.length c) ts) (hv:ValAt w w.heap.size v (.slice A1 v.keys.length n1) (.slice A2 v.items.length n2) (.slice A3 v.rest.length n3)) (hz:(fE ts v n).length<=140737488355328) :
 Calls Tryz.prog 25 #[.agg #[.slice A ts.length c],.int .i64 n,aS v (.slice A1 v.keys.length n1) (.slice A2 v.items.length n2) (.slice A3 v.rest.length n3)] w (RT w (.string ⟨(fE ts v n).toArray⟩)):=by
 obtain ⟨b,o,rfl,hbb,hel⟩:=ht.elem (by omega);obtain ⟨vs,vm,hcells,hx⟩:=hel n hn;clear hel;have hxt:bM ts n=some ts[n]:=by unfold bM;rw [o_ (by omega)];simp [hn]
 have HE:=hiQ (tu ts v n ts[n] hxt)
 skip
 generalize ts[n]=x at *;obtain ⟨C1,l1,C2,l2,rfl,rfl,-,-⟩:=hx.forms;have hlt:(n:Int) < ts.length:=by omega
 have hd0:decide ((n:Int) < 0)=false:=by simp
 have hd1:decide (ts.length<=n)=false:=by simpa using hn
 have HX:=hiQ hx;have HT:=hiQ ht;have HV:=hiQ hv;have HC:=hiQ hcells;have mY:=hiQ hk;have HZ:=hiQ hz;have hxs:=hx.lens;have hvl:=hv.lens;have J3:=hv.ints;simp only [aS,hkv];clear hx ht hcells hn hv hxt hkv hz;go_enter Tryz.func25,Tryz.ntmps25
 go_upto_region 1 with fail;refine jg (fun wd2 hb1 S I => ?_);have hw3:=hb1;clear hb1;obtain ⟨c0,c1,c2,c3,c4,c5,c6,c7,c8,c9⟩:=HC.out.below (hw3) (by omega);rw [hk] at c0;have aH:=S.out.e0;obtain ⟨iF,iG,iH,iI,bT,gU,dH,bV⟩:=I.out.c8;go_upto_region 2 with fail;clear c0 c1 c2 c3 c4 c5 c6 c7 c8 c9 hd0 hd1 aH iF iG iH iI bT gU dH bV;refine aO (fun fG hb4 X => ?_);have nI:=S.out.here;have mO:=I.out.here;have kH:=hw3.size;obtain ⟨S,I⟩:=b2 S I hb4;replace hw3:=dT hw3 hb4;clear hb4;generalize wd2.heap.size=g6 at *;obtain ⟨gX,rfl⟩ : ∃ g,g=g6:=⟨_,rfl⟩
 have zD:w.heap.size+1 < gX:=by omega
 obtain ⟨iF,iG,iH,iI,bT,gU,dH,bV⟩:=I.out.c8;obtain ⟨aK,bJ,bY,bZ,dL,eX,bU,dD,dM,dU⟩:=X.out.c10;have HR:Hid (fE ts v n=v.str):=by show _=_;rw [HE.out];simp [Ce,mY.out]
 go_wp2_with fail;go_ret;exact ⟨Aa HR.out.symm,hw3⟩
theorem acB
 (ts:List ay) (A:Option Addr) (c n:Nat) (v:Val) (A1 A2 A3:Option Addr) (n1 n2 n3:Nat) (w:World) (hn:n < ts.length) (hk:ts[n].kind=4) (hkv:v.kind=4)
 (ht:aU w w.heap.size (.slice A ts.length c) ts) (hv:ValAt w w.heap.size v (.slice A1 v.keys.length n1) (.slice A2 v.items.length n2) (.slice A3 v.rest.length n3)) (hz:(fE ts v n).length<=140737488355328) (hid:1<=v.id/\v.id<=1000) :
 Calls Tryz.prog 25 #[.agg #[.slice A ts.length c],.int .i64 n,aS v (.slice A1 v.keys.length n1) (.slice A2 v.items.length n2) (.slice A3 v.rest.length n3)] w (RT w (.string ⟨(fE ts v n).toArray⟩)):=by
 obtain ⟨b,o,rfl,hbb,hel⟩:=ht.elem (by omega);obtain ⟨vs,vm,hcells,hx⟩:=hel n hn;clear hel;have hxt:bM ts n=some ts[n]:=by unfold bM;rw [o_ (by omega)];simp [hn]
 have HE:=hiQ (tu ts v n ts[n] hxt)
 skip
 generalize ts[n]=x at *;obtain ⟨C1,l1,C2,l2,rfl,rfl,-,-⟩:=hx.forms;have hlt:(n:Int) < ts.length:=by omega
 have hd0:decide ((n:Int) < 0)=false:=by simp
 have hd1:decide (ts.length<=n)=false:=by simpa using hn
 have HX:=hiQ hx;have HT:=hiQ ht;have HV:=hiQ hv;have HC:=hiQ hcells;have mY:=hiQ hk;have HZ:=hiQ hz;have hxs:=hx.lens;have hvl:=hv.lens;have J3:=hv.ints;simp only [aS,hkv];clear hx ht hcells hn hv hxt hkv hz;go_enter Tryz.func25,Tryz.ntmps25
 go_upto_region 1 with fail;refine jg (fun wd2 hb1 S I => ?_);have hw3:=hb1;clear hb1;obtain ⟨c0,c1,c2,c3,c4,c5,c6,c7,c8,c9⟩:=HC.out.below (hw3) (by omega);rw [hk] at c0;have aH:=S.out.e0;obtain ⟨iF,iG,iH,iI,bT,gU,dH,bV⟩:=I.out.c8;go_upto_region 2 with fail;clear c0 c1 c2 c3 c4 c5 c6 c7 c8 c9 hd0 hd1 aH iF iG iH iI bT gU dH bV;refine aO (fun fG hb4 X => ?_);have nI:=S.out.here;have mO:=I.out.here;have kH:=hw3.size;obtain ⟨S,I⟩:=b2 S I hb4;replace hw3:=dT hw3 hb4;clear hb4;generalize wd2.heap.size=g6 at *;obtain ⟨gX,rfl⟩ : ∃ g,g=g6:=⟨_,rfl⟩
 have zD:w.heap.size+1 < gX:=by omega
 obtain ⟨iF,iG,iH,iI,bT,gU,dH,bV⟩:=I.out.c8;obtain ⟨aK,bJ,bY,bZ,dL,eX,bU,dD,dM,dU⟩:=X.out.c10;have HR:Hid (fE ts v n=iq 8 v.id.toNat []):=by show _=_;rw [HE.out];simp [Ce,mY.out]
 obtain ⟨z,hze⟩ : ∃ z:Nat,v.id=(z:Int):=⟨v.id.toNat,by omega⟩
 rw [hze] at HR hid;have hw:IntKind.u64.wrap v.id=(z:Int):=by rw [hze,H_];omega
 exact zEj

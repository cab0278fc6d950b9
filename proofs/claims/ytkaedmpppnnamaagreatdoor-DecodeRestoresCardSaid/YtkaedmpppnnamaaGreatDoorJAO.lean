/- payload, and what else is used with it. No condition. -/
import Derived.Test.YtkaedmpppnnamaaGreatDoorDecR
set_option maxHeartbeats 1600000
set_option maxRecDepth 100000
namespace Go.Proofs.YtkaedmpppnnamaaGreatDoor
open ChangeShapes WideShapes ChangeAt RowKit
theorem zBt {p:Prop} (h:p:=by
 clear c0 c1 c2 c3 c4 c5 c6 c7 c8 c9 r0 r1 hd0 hd1 hlp hcp;refine jg (fun wd4 hb3 X V => ?_);have Ox:=Z.out.here;have nI:=KP.size;replace Z:=b1 Z hb3;replace R:=rB R hb3;replace KP:=kB KP hgr hb3;clear hb3;generalize wd2.heap.size=g5 at *;have LZ:=hiQ (fun W fp fn h1 h2 h3 => vG W fp fn (.slice C1 x.syms.length l1) (.slice C2 x.ah.length l2) h1 h2 h3);simp only [dA,hk] at LZ;clear vG;have hz:=Z.out.here;obtain ⟨aK,bJ,bY,bZ,dL,eX,bU,dD,dM,dU⟩:=X.out.c10;go_wp2_with fail;clear aK bJ bY bZ dL eX bU dD dM dU;((with_reducible refine (LZ.out _ _ _ R.out.at_ (HT.out.keep (fun _ hp => KP.low.cell hp) (b_ _)) (HX.out.keep (fun _ hp => KP.low.cell hp) (b_ _))).mono ?_);rintro e qP hp);obtain ⟨c0,c1,c2,c3,c4,c5,c6,c7,bb,h1',rfl⟩:=hp.form;have Z2:=lK Z hp.keep (by omega) (by decide);go_wp2_with (refine yH rfl 34 _ _ rfl w.heap.size _ rfl rfl 34 _ Z2.out (by kernel_rfl) rfl (by simpa using h1') ?_)
 obtain ⟨z0,z1,z2,z3,z4,z5,z6,z7⟩:=(kF Z2.out #[c0,c1,c2,c3,c4,c5,c6,c7]).c8;exact vJ (v:=.tuple #[.agg #[c0,c1,c2,c3,c4,c5,c6,c7],.bool bb]) (by simp [results,Tryz.results50,go_sem,z0,z1,z2,z3,z4,z5,z6,z7]) rfl (hp.tail KP hgr (b_ _) hz Z2.out (by decide))):p:=h
theorem aeL
 (ts:List ay) (A:Option Addr) (c n gr:Nat) (fp:Value) (fn:Int) (path:List Int) (p:List UInt8) (rec:Int->List UInt8->List Int->mX) (w:World) (hn:n < ts.length) (hk:ts[n].kind=5) (hp:path.length < 200) (hpl:p.length<=800000)
 (R:lC w gr (.slice A ts.length c) fp fn path) (ht:aU w gr (.slice A ts.length c) ts) (vG:p.length<=800000->∀ (W:World) (fp:Value) (fn:Int) (vs vm:Value),lC W gr (.slice A ts.length c) fp fn path->aU W gr (.slice A ts.length c) ts->jc W gr ts[n] vs vm->Calls Tryz.prog 83 #[.pointer (some ⟨gr,0,none⟩),dA ts[n] vs vm,.string ⟨p.toArray⟩] W (eu gr (.slice A ts.length c) path W (fH rec ts[n] p path))) :
 Calls Tryz.prog 50 #[.pointer (some ⟨gr,0,none⟩),.int .i64 n,.string ⟨p.toArray⟩] w (eu gr (.slice A ts.length c) path w (fH rec ts[n] p path)):=by
 replace vG:=vG hpl;obtain ⟨b,o,rfl,hbb,hel⟩:=ht.elem (by omega);obtain ⟨vs,vm,hcells,hx⟩:=hel n hn;clear hel;generalize ts[n]=x at *;obtain ⟨C1,l1,C2,l2,rfl,rfl,-,-⟩:=hx.forms;have hlt:(n:Int) < ts.length:=by omega
 have hd0:decide ((n:Int) < 0)=false:=by simp
 have hd1:decide (ts.length<=n)=false:=by simpa using hn
 have hlp:¬ (200:Int)<=path.length:=by omega
 have HX:=hiQ hx;have HT:=hiQ ht;have HC:=hiQ hcells;have mY:=hiQ hk;have hN:Hid (n < ts.length):=hiQ hn;have hxs:=hx.lens;clear hx ht hcells hn;have hgr:=R.here;replace R:=hiQ (nS.of R);have KP:=cZ.refl w gr;go_enter Tryz.func50,Tryz.ntmps50
 go_upto_region 1 with fail;refine aO (fun wd2 hb1 Z => ?_);replace R:=rB R hb1;replace KP:=kB KP hgr hb1;clear hb1;obtain ⟨Ap,cp,hcp,r0,r1,-,-⟩:=R.out.at_.cells;obtain ⟨c0,c1,c2,c3,c4,c5,c6,c7,c8,c9⟩:=HC.out.below KP.low hbb;rw [hk] at c0;go_upto_region 6 with fail;exact zBt
theorem aeM
 (ts:List ay) (A:Option Addr) (c n gr:Nat) (fp:Value) (fn:Int) (path:List Int) (p:List UInt8) (rec:Int->List UInt8->List Int->mX) (w:World) (hn:n < ts.length) (hk:ts[n].kind=6) (hp:path.length < 200) (hpl:p.length<=800000)
 (R:lC w gr (.slice A ts.length c) fp fn path) (ht:aU w gr (.slice A ts.length c) ts) (vG:p.length<=800000->∀ (W:World) (fp:Value) (fn:Int) (vs vm:Value),lC W gr (.slice A ts.length c) fp fn path->aU W gr (.slice A ts.length c) ts->jc W gr ts[n] vs vm->Calls Tryz.prog 80 #[.pointer (some ⟨gr,0,none⟩),dA ts[n] vs vm,.string ⟨p.toArray⟩] W (eu gr (.slice A ts.length c) path W (fH rec ts[n] p path))) :
 Calls Tryz.prog 50 #[.pointer (some ⟨gr,0,none⟩),.int .i64 n,.string ⟨p.toArray⟩] w (eu gr (.slice A ts.length c) path w (fH rec ts[n] p path)):=by
 replace vG:=vG hpl;obtain ⟨b,o,rfl,hbb,hel⟩:=ht.elem (by omega);obtain ⟨vs,vm,hcells,hx⟩:=hel n hn;clear hel;generalize ts[n]=x at *;obtain ⟨C1,l1,C2,l2,rfl,rfl,-,-⟩:=hx.forms;have hlt:(n:Int) < ts.length:=by omega
 have hd0:decide ((n:Int) < 0)=false:=by simp
 have hd1:decide (ts.length<=n)=false:=by simpa using hn
 have hlp:¬ (200:Int)<=path.length:=by omega
 have HX:=hiQ hx;have HT:=hiQ ht;have HC:=hiQ hcells;have mY:=hiQ hk;have hN:Hid (n < ts.length):=hiQ hn;have hxs:=hx.lens;clear hx ht hcells hn;have hgr:=R.here;replace R:=hiQ (nS.of R);have KP:=cZ.refl w gr;go_enter Tryz.func50,Tryz.ntmps50
 go_upto_region 1 with fail;refine aO (fun wd2 hb1 Z => ?_);replace R:=rB R hb1;replace KP:=kB KP hgr hb1;clear hb1;obtain ⟨Ap,cp,hcp,r0,r1,-,-⟩:=R.out.at_.cells;obtain ⟨c0,c1,c2,c3,c4,c5,c6,c7,c8,c9⟩:=HC.out.below KP.low hbb;rw [hk] at c0;go_upto_region 39 with fail;exact zBt
theorem aeN
 (ts:List ay) (A:Option Addr) (c n gr:Nat) (fp:Value) (fn:Int) (path:List Int) (p:List UInt8) (rec:Int->List UInt8->List Int->mX) (w:World) (hn:n < ts.length) (hk:ts[n].kind=7) (hp:path.length < 200) (hpl:p.length<=800000)
 (R:lC w gr (.slice A ts.length c) fp fn path) (ht:aU w gr (.slice A ts.length c) ts) (vG:p.length<=800000->∀ (W:World) (fp:Value) (fn:Int) (vs vm:Value),lC W gr (.slice A ts.length c) fp fn path->aU W gr (.slice A ts.length c) ts->jc W gr ts[n] vs vm->Calls Tryz.prog 81 #[.pointer (some ⟨gr,0,none⟩),dA ts[n] vs vm,.string ⟨p.toArray⟩] W (eu gr (.slice A ts.length c) path W (fH rec ts[n] p path))) :
 Calls Tryz.prog 50 #[.pointer (some ⟨gr,0,none⟩),.int .i64 n,.string ⟨p.toArray⟩] w (eu gr (.slice A ts.length c) path w (fH rec ts[n] p path)):=by
 replace vG:=vG hpl;obtain ⟨b,o,rfl,hbb,hel⟩:=ht.elem (by omega);obtain ⟨vs,vm,hcells,hx⟩:=hel n hn;clear hel;generalize ts[n]=x at *;obtain ⟨C1,l1,C2,l2,rfl,rfl,-,-⟩:=hx.forms;have hlt:(n:Int) < ts.length:=by omega
 have hd0:decide ((n:Int) < 0)=false:=by simp
 have hd1:decide (ts.length<=n)=false:=by simpa using hn
 have hlp:¬ (200:Int)<=path.length:=by omega
 have HX:=hiQ hx;have HT:=hiQ ht;have HC:=hiQ hcells;have mY:=hiQ hk;have hN:Hid (n < ts.length):=hiQ hn;have hxs:=hx.lens;clear hx ht hcells hn;have hgr:=R.here;replace R:=hiQ (nS.of R);have KP:=cZ.refl w gr;go_enter Tryz.func50,Tryz.ntmps50
 go_upto_region 1 with fail;refine aO (fun wd2 hb1 Z => ?_);replace R:=rB R hb1;replace KP:=kB KP hgr hb1;clear hb1;obtain ⟨Ap,cp,hcp,r0,r1,-,-⟩:=R.out.at_.cells;obtain ⟨c0,c1,c2,c3,c4,c5,c6,c7,c8,c9⟩:=HC.out.below KP.low hbb;rw [hk] at c0;go_upto_region 41 with fail;exact zBt
theorem aeO
 (ts:List ay) (A:Option Addr) (c n gr:Nat) (fp:Value) (fn:Int) (path:List Int) (p:List UInt8) (rec:Int->List UInt8->List Int->mX) (w:World) (hn:n < ts.length) (hk:ts[n].kind=8) (hp:path.length < 200) (hpl:p.length<=800000)
 (R:lC w gr (.slice A ts.length c) fp fn path) (ht:aU w gr (.slice A ts.length c) ts) (vG:p.length<=800000->∀ (W:World) (fp:Value) (fn:Int) (vs vm:Value),lC W gr (.slice A ts.length c) fp fn path->aU W gr (.slice A ts.length c) ts->jc W gr ts[n] vs vm->Calls Tryz.prog 82 #[.pointer (some ⟨gr,0,none⟩),dA ts[n] vs vm,.string ⟨p.toArray⟩] W (eu gr (.slice A ts.length c) path W (fH rec ts[n] p path))) :
 Calls Tryz.prog 50 #[.pointer (some ⟨gr,0,none⟩),.int .i64 n,.string ⟨p.toArray⟩] w (eu gr (.slice A ts.length c) path w (fH rec ts[n] p path)):=by
 replace vG:=vG hpl;obtain ⟨b,o,rfl,hbb,hel⟩:=ht.elem (by omega);obtain ⟨vs,vm,hcells,hx⟩:=hel n hn;clear hel;generalize ts[n]=x at *;obtain ⟨C1,l1,C2,l2,rfl,rfl,-,-⟩:=hx.forms;have hlt:(n:Int) < ts.length:=by omega
 have hd0:decide ((n:Int) < 0)=false:=by simp
 have hd1:decide (ts.length<=n)=false:=by simpa using hn
 have hlp:¬ (200:Int)<=path.length:=by omega
 have HX:=hiQ hx;have HT:=hiQ ht;have HC:=hiQ hcells;have mY:=hiQ hk;have hN:Hid (n < ts.length):=hiQ hn;have hxs:=hx.lens;clear hx ht hcells hn;have hgr:=R.here;replace R:=hiQ (nS.of R);have KP:=cZ.refl w gr;go_enter Tryz.func50,Tryz.ntmps50
 go_upto_region 1 with fail;refine aO (fun wd2 hb1 Z => ?_);replace R:=rB R hb1;replace KP:=kB KP hgr hb1;clear hb1;obtain ⟨Ap,cp,hcp,r0,r1,-,-⟩:=R.out.at_.cells;obtain ⟨c0,c1,c2,c3,c4,c5,c6,c7,c8,c9⟩:=HC.out.below KP.low hbb;rw [hk] at c0;go_upto_region 43 with fail;exact zBt
theorem aeP (t:Int) (gr:Nat) (tv fp:Value) (fn:Int) (path:List Int) (p:List UInt8) (w:World) (hp:path.length=200) (R:lC w gr tv fp fn path) :
  Calls Tryz.prog 50 #[.pointer (some ⟨gr,0,none⟩),.int .i64 t,.string ⟨p.toArray⟩] w (eu gr tv path w (.error (path,8))):=by
 have hlp:(200:Int)<=path.length:=by omega
 have hgr:=R.here;replace R:=hiQ (nS.of R);have KP:=cZ.refl w gr;go_enter Tryz.func50,Tryz.ntmps50
 go_upto_region 1 with fail;refine aO (fun wd2 hb1 Z => ?_);replace R:=rB R hb1;replace KP:=kB KP hgr hb1;clear hb1;obtain ⟨Ap,cp,hcp,r0,r1,-,-⟩:=R.out.at_.cells;go_upto_region 2 with fail;clear r0 r1 hlp hcp;have hz:=Z.out.here;go_wp2_with fail;((with_reducible refine (kD gr _ _ _ path 8 _ (by omega) R.out.at_).mono ?_);rintro e wd3 hp);obtain ⟨c0,c1,c2,c3,c4,c5,c6,c7,bb,h1',rfl⟩:=hp.form;have Z2:=lK Z hp.keep (by omega) (by decide);go_wp2_with (refine yH rfl 34 _ _ rfl w.heap.size _ rfl rfl 34 _ Z2.out (by kernel_rfl) rfl (by simpa using h1') ?_)
 obtain ⟨z0,z1,z2,z3,z4,z5,z6,z7⟩:=(kF Z2.out #[c0,c1,c2,c3,c4,c5,c6,c7]).c8;exact vJ (v:=.tuple #[.agg #[c0,c1,c2,c3,c4,c5,c6,c7],.bool bb]) (by simp [results,Tryz.results50,go_sem,z0,z1,z2,z3,z4,z5,z6,z7]) rfl (hp.tail KP hgr (b_ _) hz Z2.out (by decide))
def agr (ts:List ay):Prop := ∀ x ∈ ts,(1<=x.kind/\x.kind<=9)/\(x.kind=5->x.ah.length<=1000)/\(∀ m ∈ x.ah,(bM ts m.ty).isSome=true)/\(x.kind=7\/x.kind=9\/x.kind=8->(bM ts x.elem).isSome=true)/\(x.kind=8->(bM ts x.key).isSome=true)
theorem Ej {ts:List ay} {t:Int} (h:(bM ts t).isSome=true):∃ n:Nat,t=n/\∃ hn:n < ts.length,bM ts t=some ts[n]:=by
 unfold bM at h ⊢;split at h
 .
  rename_i h0;have h1:t.toNat < ts.length:=by simpa using h
  exact ⟨t.toNat,by omega,h1,by rw [o_ h0,m_ h1]⟩
 cases h
theorem ag9 (ts:List ay) (A:Option Addr) (c gr:Nat) (hs:agr ts):∀ (lv:Nat) (path:List Int) (t:Int) (p:List UInt8) (w:World) (fp:Value) (fn:Int),path.length+lv=200->(bM ts t).isSome=true->p.length<=800000 ->
  lC w gr (.slice A ts.length c) fp fn path->aU w gr (.slice A ts.length c) ts ->
  Calls Tryz.prog 50 #[.pointer (some ⟨gr,0,none⟩),.int .i64 t,.string ⟨p.toArray⟩] w (eu gr (.slice A ts.length c) path w (decP ts lv t p path)):=by
 intro lv
 induction lv with
 | zero =>
  intro path t p w fp fn hl ht hp R hT;exact aeP t gr _ fp fn path p w (by omega) R
 | succ lv ih =>
  intro path t p w fp fn hl ht hp R hT;obtain ⟨n,rfl,hn,hx⟩:=Ej ht;have hP:Iq ts gr (.slice A ts.length c) (decP ts lv) path:=fun W fp fn s t q R hT ht hq =>
   acu gr _ fp fn path s t q _ W (by omega) R fun W' fp' fn' K R' => ih (path ++ [s]) t q W' fp' fn' (by simp;omega) ht hq R' (hT.keep (fun _ hp => K.low.cell hp) (b_ _))
  obtain ⟨hk,hml,hmm,hel,hky⟩:=hs ts[n] (jl hn);rw [decP,hx];simp only [];have hlt:path.length < 200:=by omega
  rcases (show ts[n].kind=1\/ts[n].kind=2\/ts[n].kind=3\/ts[n].kind=4\/ts[n].kind=5\/ts[n].kind=6\/ts[n].kind=7\/ts[n].kind=8\/ts[n].kind=9 by omega) with h | h | h | h | h | h | h | h | h
  . exact aex ts A c n gr fp fn path p _ w hn h hlt hp R hT
  . exact aey ts A c n gr fp fn path p _ w hn h hlt hp R hT
  . exact aez ts A c n gr fp fn path p _ w hn h hlt hp R hT
  . exact aeA ts A c n gr fp fn path p _ w hn h hlt hp R hT
  . exact aeL ts A c n gr fp fn path p _ w hn h hlt hp R hT (fun _ W fp fn vs vm R hT hx => Zk ts _ gr fp fn path p _ _ vs vm W h hlt hp R hT hx hP ⟨hml h,hmm⟩)
  . exact aeM ts A c n gr fp fn path p _ w hn h hlt hp R hT (fun _ W fp fn vs vm R hT hx => acI ts _ gr fp fn path p _ _ vs vm W h hlt hp R hT hx hP hmm)
  . exact aeN ts A c n gr fp fn path p _ w hn h hlt hp R hT (fun _ W fp fn vs vm R hT hx => adx ts _ gr fp fn path p _ _ vs vm W h hlt hp R hT hx hP (hel (.inl h)))
  . exact aeO ts A c n gr fp fn path p _ w hn h hlt hp R hT (fun _ W fp fn vs vm R hT hx => XR ts _ gr fp fn path p _ _ vs vm W h hlt hp R hT hx hP ⟨hky h,hel (.inr (.inr h))⟩)
  exact aeC ts A c n gr fp fn path p _ w hn h hlt hp R hT hP (hel (.inr (.inl h)))
theorem D7 (ts:List ay):∀ (l:List ay) (S:List (List UInt8)),lU ts l S=0->∀ x ∈ l,dY x=true/\(lg x).all (inB ts.length)=true
 | [],_,_,x,hx => by simp at hx
 | y :: r,S,h,x,hx => by
  by_cases h1:dY y=false\/(y.name≠[]/\S.contains y.name=true)
  . rw [JW ts r y S h1] at h;cases h
  cases h2:(lg y).all (inB ts.length) with
  | false => rw [YO ts r y S h1 h2] at h;cases h
  | true =>
   by_cases h3:y.kind=8/\akK ts y=false
   . rw [Lh ts r y S h1 h2 h3] at h;cases h
   rw [Lj ts r y S h1 h2 h3] at h;rcases N_.1 hx with rfl | hx
   .
    refine ⟨?_,h2⟩;cases hf:dY x with
    | true => rfl
    | false => exact absurd (.inl hf) h1
   exact D7 ts r _ h x hx
theorem PN {ts:List ay} {u:Int} (h:inB ts.length u=true):(bM ts u).isSome=true:=by
 obtain ⟨k,rfl,hk⟩:=Ad h;unfold bM;simp [hk]
theorem IJ {ts:List ay} (h:fF ts=0):agr ts:=by
 intro x hx;unfold fF at h;by_cases h32:32 < ts.length
 . rw [o_ h32] at h;cases h
 rw [gB h32] at h;obtain ⟨hf,hu⟩:=D7 ts ts [] h x hx;rw [QD] at hu;have hk:1<=x.kind/\x.kind<=9:=by
  unfold dY at hf;simp only [j_,w_] at hf;exact hf.1
 refine ⟨hk,fun h5 => ?_,fun m hm => PN (hu m.ty ?_),fun h' => PN (hu x.elem ?_),fun h' => PN (hu x.key ?_)⟩
 .
  have hm:iQ x=true:=by
   unfold dY rD at hf;rw [gB (by omega),gB (by omega),gB (by omega),o_ (.inl h5)] at hf;simp only [j_,w_] at hf;exact hf.2.1.2
  unfold iQ nP at hm;simp at hm;omega
 . unfold lg;exact Dp.2 (.inl (Pe.2 ⟨m,hm,rfl⟩))
 . unfold lg;rw [o_ (show 7<=x.kind by omega)];simp
 exact Ll x h'
def Ba:Value:=.agg #[.int .i64 0,.bool false,.int .i64 0,.string ⟨#[]⟩,.int .i64 0,.slice none 0 0,.slice none 0 0,.slice none 0 0]
def Kz (w w':World) (b:Nat):Prop:=w.heap.size<=b/\b < w'.heap.size
def PO (w:World) (r:Except Int mX) (e:Ending) (w':World):Prop:=Below w.heap.size w w'/\match r with
 | .error er => e = .returned (.tuple #[Ba,.agg #[.slice none 0 0,.int .i64 0],.int .i64 er])
 | .ok (.ok v) => ∃ vk vi vr,e = .returned (.tuple #[aS v vk vi vr,.agg #[.slice none 0 0,.int .i64 0],.int .i64 0])/\jq w' (Kz w w') v vk vi vr
 | .ok (.error (p,n)) => ∃ fp,e = .returned (.tuple #[Ba,.agg #[fp,.int .i64 n],.int .i64 12])/\w'.ownsRow w.heap.size 3 1 fp p.length (p.map zq)
theorem jJ.plain {P:World->Prop} {w:World} {L B:Nat} (h:jJ P w L B):Kept P w L B:=⟨h.now,fun w' hk => h.st w' (fun k h1 h2 _ => hk k h1 h2),h.le⟩
theorem zAh {p:Prop} (h:p:=by exact ⟨hrow.out.cell 2,hrow.out.cell 3⟩):p:=h
theorem zCb {p:Prop} (h:p:=by
 refine iE 6 fun K hK => ?_;refine eY (by rfl) 59 _ _ (by rfl) (w.heap.size+1+1) #[.slice Af p'.length cf,.int .i64 Q7] (by rfl) (by rfl) 59 _ F.out (by kernel_rfl) rfl (by first | assumption | simp [Value.oneCell']) ?_;generalize aaP:Eu.setRow _ _=ank;obtain ⟨S,Z,hrow,I,N,FP⟩:=f6 S Z hrow I N FP (eR aaP);replace F:=dV F aaP;replace hw3:=tr hw3 aaP;clear aaP;(try clear hHeld);refine hK.out _ _ zAh (fun hHeld => ?_);clear hK K;refine tk 7 ?_;refine Dl (by kernel_rfl) ?_ _;(try clear hHeld);go_wp2_with fail;exact vJ (v:=.tuple #[.agg #[.int .i64 0,.bool false,.int .i64 0,.string ⟨#[]⟩,.int .i64 0,.slice none 0 0,.slice none 0 0,.slice none 0 0],.agg #[.slice Af p'.length cf,.int .i64 Q7],.int .i64 12]) (by simp [results,Tryz.results27,go_sem,Z.out.c8,F.out.c2]) rfl ((by rw [HR.out];exact ⟨hw3,_,rfl,sF FP.out.now (by omega)⟩))):p:=h
theorem zDc {p:Prop} (h:p:=by
 clear h1b;have aH:=S.out.e0;go_upto_region 5 with fail;go_wp2_with (first | (refine sR Z.out ?_) | (refine sR (oO (cs':=#[.int .i64 0,.bool false,.int .i64 0,.string ⟨#[]⟩,.int .i64 0,.slice none 0 0,.slice none 0 0,.slice none 0 0]) F.out (show w.heap.size+1+1≠w.heap.size+1 by omega)) ?_))
 clear aH;generalize mP:wd4.setRow _ _=wL;obtain ⟨S,F⟩:=f2 S F (eR mP);replace Z:=dV Z mP;replace hw3:=tr hw3 mP;clear mP;generalize kJ:wL.setRow _ _=qP;obtain ⟨S,Z⟩:=f2 S Z (eR kJ);replace F:=dV F kJ;replace hw3:=tr hw3 kJ;clear kJ;exact vJ (v:=.tuple #[.agg #[.int .i64 0,.bool false,.int .i64 0,.string ⟨#[]⟩,.int .i64 0,.slice none 0 0,.slice none 0 0,.slice none 0 0],.agg #[.slice none 0 0,.int .i64 0],.int .i64 4]) (by simp [results,Tryz.results27,go_sem,Z.out.c8,F.out.c2]) rfl ((by rw [HR.out];exact ⟨hw3,rfl⟩))):p:=h
theorem zGm {p:Prop} (h:p:=by
 unfold bM at h1;by_cases h3:0<=t
 .
  rw [o_ h3] at h1;have:ts.length<=t.toNat:=by simpa using h1
  omega
 omega):p:=h
theorem JC (ts:List ay) (A:Option Addr) (c:Nat) (t:Int) (m:List UInt8) (w:World) (hs:Sizes ts) (hT:aU w w.heap.size (.slice A ts.length c) ts) :
  Calls Tryz.prog 27 #[.agg #[.slice A ts.length c],.int .i64 t,.string ⟨m.toArray⟩] w (PO w (nX ts t m)):=by
 have HT:=hiQ hT;have HSz:=hiQ hs;clear hT hs;go_enter Tryz.func27,Tryz.ntmps27
 go_upto_region 1 with fail;refine Fj (fun wd2 hb1 S Z F => ?_);have hw3:=hb1;clear hb1;have aH:=S.out.e0;go_wp2_with fail;clear aH;((with_reducible refine (ab6 ts A c _ HSz.out (HT.out.on hw3)).mono ?_);rintro e wd4 ⟨rfl,hb5⟩);obtain ⟨S,Z,F⟩:=b3 S Z F hb5;replace hw3:=dT hw3 hb5;clear hb5;by_cases h0:fF ts=0
 .
  have Uf:=hiQ h0;rw [h0];clear h0;by_cases h1:(bM ts t).isSome=true
  .
   obtain ⟨n,rfl,hn,hx⟩:=Ej h1;have H1:=hiQ h1;clear h1 hx;have hni:(n:Int) < ts.length:=by omega
   have hnf:decide (ts.length<=n)=false:=by simpa using hn
   by_cases h2:4096 < m.length
   .
    have HR:Hid (nX ts n m = .ok (.error ([],3))):=by
     show _=_;unfold nX;rw [gB (by simp [Uf.out]),gB (by intro e;have h:=H1.out;rw [Option.isNone_iff_eq_none] at e;rw [e] at h;cases h),o_ h2]
    have h2i:(4096:Int) < m.length:=by omega
    have aH:=S.out.e0;go_upto_region 7 with fail;go_wp2_with (first | (refine sR Z.out ?_) | (refine sR (oO (cs':=#[.int .i64 0,.bool false,.int .i64 0,.string ⟨#[]⟩,.int .i64 0,.slice none 0 0,.slice none 0 0,.slice none 0 0]) F.out (show w.heap.size+1+1≠w.heap.size+1 by omega)) ?_))
    clear aH;generalize mP:wd4.setRow _ _=wL;obtain ⟨S,F⟩:=f2 S F (eR mP);replace Z:=dV Z mP;replace hw3:=tr hw3 mP;clear mP;generalize kJ:wL.setRow _ _=qP;obtain ⟨S,Z⟩:=f2 S Z (eR kJ);replace F:=dV F kJ;replace hw3:=tr hw3 kJ;clear kJ;exact vJ (v:=.tuple #[.agg #[.int .i64 0,.bool false,.int .i64 0,.string ⟨#[]⟩,.int .i64 0,.slice none 0 0,.slice none 0 0,.slice none 0 0],.agg #[.slice none 0 0,.int .i64 3],.int .i64 12]) (by simp [results,Tryz.results27,go_sem,Z.out.c8,F.out.c2]) rfl ((by rw [HR.out];exact ⟨hw3,_,rfl,K_ _ _ _ _⟩))
   have HR:Hid (nX ts n m = .ok (decP ts 200 n m [])):=by
    show _=_;unfold nX;rw [gB (by simp [Uf.out]),gB (by intro e;have h:=H1.out;rw [Option.isNone_iff_eq_none] at e;rw [e] at h;cases h),gB h2]
   have h2i:¬ (4096:Int) < m.length:=by omega
   have aH:=S.out.e0;go_upto_region 9 with fail;clear h2i aH;refine aO (fun jC hb6 G => ?_);have kH:=S.out.here;have oC:=Z.out.here;have sH:=F.out.here;have hl12:=hw3.size;obtain ⟨S,Z,F⟩:=b3 S Z F hb6;replace hw3:=dT hw3 hb6;clear hb6;generalize wd4.heap.size=g8 at *;obtain ⟨gr,rfl⟩ : ∃ g,g=g8:=⟨_,rfl⟩
   have hgr:=G.out.here;have hwg:=(hw3).size;have Wy:=hiQ (ag9 ts A c gr (IJ Uf.out) 200 [] n m jC _ _ rfl H1.out (by omega) ⟨_,G.out,K_ _ _ _ _⟩ (HT.out.keep (fun _ hp => (hw3).cell hp) (by omega)));generalize decP ts 200 n m []=q at *;obtain ⟨LX,zA⟩ : ∃ n,n=(jC).heap.size:=⟨_,rfl⟩
   go_wp2_with fail;refine Wy.out.mono ?_;rintro e wx hq;obtain ⟨fpx,Q7,pR,pU,pV,pW,pX,pY,qc,qg,EZ,rE,rfl,RX,KX,NN⟩:=hq.take;rw [<- zA] at NN hgr;have hkl:=KX.low;have hsx:=KX.size;rw [<- zA] at hsx;obtain ⟨⟨pv,hrow,-⟩,ags⟩:=RX;have zh:(#[pR,pU,pV,pW,pX,pY,qc,qg] : Array Value).all (·.oneCell')=true:=by simpa using rE
   have aaf:=hiQ ags;clear hq Wy KX zA ags G;replace S:=hiQ (S.out.below hkl (show w.heap.size < gr by omega));replace Z:=hiQ (Z.out.below hkl (show w.heap.size+1 < gr by omega));replace F:=hiQ (F.out.below hkl (show w.heap.size+1+1 < gr by omega));replace hw3:=hw3.trans (hkl.mono (show w.heap.size<=gr by omega));clear hkl;replace hrow:=hiQ hrow;obtain ⟨BX,Fq⟩ : ∃ n,n=(wx).heap.size:=⟨_,rfl⟩
   rw [<- Fq] at NN hsx;have N:=hiQ (NN.plain);clear NN;cases q with
   | error pn =>
    obtain ⟨p',n'⟩:=pn;obtain ⟨rfl,rfl⟩:=N.out.now;have hfo:=aaf.out p' rfl;obtain ⟨Af,cf,rfl⟩:=jF hfo;have FP:=hiQ (Kept.LV hfo Fq);clear hfo Fq aaf;have M5:=Has.made wx 34 #[.int .i64 0,.bool false,.int .i64 0,.string ⟨#[]⟩,.int .i64 0,.slice none 0 0,.slice none 0 0,.slice none 0 0];go_upto_region 10 with (refine yH rfl 34 _ _ rfl wx.heap.size _ rfl rfl 34 _ M5 (by kernel_rfl) rfl zh ?_)
    clear M5;generalize lW:wx.alloc _=oZ;have ⟨kR,I⟩:=uj lW;clear lW;have sO:=S.out.here;have sW:=Z.out.here;have Az:=F.out.here;have BQ:=hrow.out.here;have Dv:=N.out.le;have Dw:=FP.out.le;have Es:=hw3.size;obtain ⟨S,Z,F,hrow,N,FP⟩:=b6 S Z F hrow N FP kR;replace hw3:=dT hw3 kR;clear kR;generalize wx.heap.size=g16 at *;generalize Bg:oZ.setRow _ _=xP;obtain ⟨S,Z,F,hrow,N,FP⟩:=f6 S Z F hrow N FP (eR Bg);replace I:=dV I Bg;replace hw3:=tr hw3 Bg;clear Bg;go_upto_region 11 with fail;have SS:=hrow.out.e2;have SV:=hrow.out.e3;refine t_ (S:=(fun w' => w'.cell? ⟨gr,2,none⟩=some ((.slice Af p'.length cf))/\w'.cell? ⟨gr,3,none⟩=some (.int .i64 Q7))) (by kernel_rfl) ⟨SS,SV⟩ (fun hHeld => ?_);clear SS SV;have AB:Below xP.heap.size xP (xP.drew):=(g_ _ _).drew;obtain ⟨S,Z,F,hrow,I,N,FP⟩:=b7 S Z F hrow I N FP AB;replace hw3:=dT hw3 AB;clear AB;generalize xP.drew=Bd at *;refine tk 0 ?_;refine tk 1 ?_;refine I_ (rs:=[2,5]) (by kernel_rfl) (by simp) ?_;refine yI rfl (fun K hK => ?_) (yI rfl (fun K hK => ?_) (FB))
    .
     skip
     go_simp;(try clear hHeld);refine hK.out _ _ zAh (fun hHeld => ?_);clear hK K;refine I_ (rs:=[3,5]) (by kernel_rfl) (by simp) ?_;refine yI rfl (fun K hK => ?_) (yI rfl (fun K hK => ?_) (FB))
     .
      skip
      go_simp;(try clear hHeld);refine hK.out _ _ zAh (fun hHeld => ?_);clear hK K;refine I_ (rs:=[4,5]) (by kernel_rfl) (by simp) ?_;refine yI rfl (fun K hK => ?_) (yI rfl (fun K hK => ?_) (FB))
      .
       skip
       go_simp;(try clear hHeld);refine hK.out _ _ zAh (fun hHeld => ?_);clear hK K;refine iE 5 fun K hK => ?_;refine eY (by rfl) 34 _ _ (by rfl) (w.heap.size+1) #[.int .i64 0,.bool false,.int .i64 0,.string ⟨#[]⟩,.int .i64 0,.slice none 0 0,.slice none 0 0,.slice none 0 0] (by rfl) (by rfl) 34 _ Z.out (by kernel_rfl) rfl (by first | assumption | simp [Value.oneCell']) ?_;generalize abp:Bd.setRow _ _=Eu;obtain ⟨S,F,hrow,I,N,FP⟩:=f6 S F hrow I N FP (eR abp);replace Z:=dV Z abp;replace hw3:=tr hw3 abp;clear abp;(try clear hHeld);refine hK.out _ _ zAh (fun hHeld => ?_);clear hK K;exact zCb
      skip
      refine eY (by rfl) 34 _ _ (by rfl) (w.heap.size+1) #[.int .i64 0,.bool false,.int .i64 0,.string ⟨#[]⟩,.int .i64 0,.slice none 0 0,.slice none 0 0,.slice none 0 0] (by rfl) (by rfl) 34 _ Z.out (by kernel_rfl) rfl (by first | assumption | simp [Value.oneCell']) ?_;generalize abp:Bd.setRow _ _=Eu;obtain ⟨S,F,hrow,I,N,FP⟩:=f6 S F hrow I N FP (eR abp);replace Z:=dV Z abp;replace hw3:=tr hw3 abp;clear abp;(try clear hHeld);refine hK.out _ _ zAh (fun hHeld => ?_);clear hK K;refine tk 4 ?_;exact zCb
     skip
     refine eY (by rfl) 34 _ _ (by rfl) (w.heap.size+1) #[.int .i64 0,.bool false,.int .i64 0,.string ⟨#[]⟩,.int .i64 0,.slice none 0 0,.slice none 0 0,.slice none 0 0] (by rfl) (by rfl) 34 _ Z.out (by kernel_rfl) rfl (by first | assumption | simp [Value.oneCell']) ?_;generalize abp:Bd.setRow _ _=Eu;obtain ⟨S,F,hrow,I,N,FP⟩:=f6 S F hrow I N FP (eR abp);replace Z:=dV Z abp;replace hw3:=tr hw3 abp;clear abp;(try clear hHeld);refine hK.out _ _ zAh (fun hHeld => ?_);clear hK K;refine tk 3 ?_;refine tk 4 ?_;exact zCb
    skip
    refine eY (by rfl) 34 _ _ (by rfl) (w.heap.size+1) #[.int .i64 0,.bool false,.int .i64 0,.string ⟨#[]⟩,.int .i64 0,.slice none 0 0,.slice none 0 0,.slice none 0 0] (by rfl) (by rfl) 34 _ Z.out (by kernel_rfl) rfl (by first | assumption | simp [Value.oneCell']) ?_;generalize abp:Bd.setRow _ _=Eu;obtain ⟨S,F,hrow,I,N,FP⟩:=f6 S F hrow I N FP (eR abp);replace Z:=dV Z abp;replace hw3:=tr hw3 abp;clear abp;(try clear hHeld);refine hK.out _ _ zAh (fun hHeld => ?_);clear hK K;refine tk 2 ?_;refine tk 3 ?_;refine tk 4 ?_;exact zCb
   | ok v =>
    obtain ⟨rfl,_⟩:=N.out.now;clear Fq aaf;have M5:=Has.made wx 34 #[.int .i64 0,.bool false,.int .i64 0,.string ⟨#[]⟩,.int .i64 0,.slice none 0 0,.slice none 0 0,.slice none 0 0];go_upto_region 10 with (refine yH rfl 34 _ _ rfl wx.heap.size _ rfl rfl 34 _ M5 (by kernel_rfl) rfl zh ?_)
    clear M5;generalize lW:wx.alloc _=oZ;have ⟨kR,I⟩:=uj lW;clear lW;have sO:=S.out.here;have sW:=Z.out.here;have Az:=F.out.here;have BQ:=hrow.out.here;have Dv:=N.out.le;have Dw:=hw3.size;obtain ⟨S,Z,F,hrow,N⟩:=b5 S Z F hrow N kR;replace hw3:=dT hw3 kR;clear kR;generalize wx.heap.size=g16 at *;generalize o8:oZ.setRow _ _=o9;obtain ⟨S,Z,F,hrow,N⟩:=f5 S Z F hrow N (eR o8);replace I:=dV I o8;replace hw3:=tr hw3 o8;clear o8;obtain ⟨iF,iG,iH,iI,bT,gU,dH,bV⟩:=I.out.c8;go_upto_region 12 with fail;go_wp2_with (first | (refine sR Z.out ?_) | (refine sR (oO (cs':=#[pR,pU,pV,pW,pX,pY,qc,qg]) F.out (show w.heap.size+1+1≠w.heap.size+1 by omega)) ?_))
    clear iF iG iH iI bT gU dH bV;generalize CZ:o9.setRow _ _=pF;obtain ⟨S,F,hrow,I,N⟩:=f5 S F hrow I N (eR CZ);replace Z:=dV Z CZ;replace hw3:=tr hw3 CZ;clear CZ;generalize rX:pF.setRow _ _=Bd;obtain ⟨S,Z,hrow,I,N⟩:=f5 S Z hrow I N (eR rX);replace F:=dV F rX;replace hw3:=tr hw3 rX;clear rX;have HF:Hid (PO w (nX ts n m) (.returned (.tuple #[.agg #[pR,pU,pV,pW,pX,pY,qc,qg],.agg #[.slice none 0 0,.int .i64 0],.int .i64 0])) Bd):=by
     show PO _ _ _ _;obtain ⟨_,vk,vi,vr,hc,S,hv,hS⟩:=N.out.now;have hle:=N.out.le;rw [HR.out];refine ⟨hw3,vk,vi,vr,?_,hv.keep (fun _ _ => rfl) (fun b hb => ⟨by have:=(hS b hb).1;omega,by have:=(hS b hb).2.1;omega⟩)⟩;simp only [oD,List.cons.injEq,and_true] at hc;obtain ⟨rfl,rfl,rfl,rfl,rfl,rfl,rfl,rfl⟩:=hc
     rfl
    exact vJ (v:=.tuple #[.agg #[pR,pU,pV,pW,pX,pY,qc,qg],.agg #[.slice none 0 0,.int .i64 0],.int .i64 0]) (by simp [results,Tryz.results27,go_sem,Z.out.c8,F.out.c2]) rfl (HF.out)
  have HR:Hid (nX ts t m = .error 4):=by
   show _=_;unfold nX;rw [gB (by simp [Uf.out]),o_ (by cases hq:bM ts t <;> simp_all)]
  have h1b:t < 0\/(ts.length:Int)<=t:=by
   exact zGm
  clear h1;by_cases h3:t < 0
  . exact zDc
  have h4:(ts.length:Int)<=t:=by omega
  exact zDc
 have HR:Hid (nX ts t m = .error (fF ts)):=by show _=_;unfold nX;rw [o_ h0]
 have aH:=S.out.e0;go_upto_region 3 with fail;go_wp2_with (first | (refine sR Z.out ?_) | (refine sR (oO (cs':=#[.int .i64 0,.bool false,.int .i64 0,.string ⟨#[]⟩,.int .i64 0,.slice none 0 0,.slice none 0 0,.slice none 0 0]) F.out (show w.heap.size+1+1≠w.heap.size+1 by omega)) ?_))
 clear aH;generalize mP:wd4.setRow _ _=wL;obtain ⟨S,F⟩:=f2 S F (eR mP);replace Z:=dV Z mP;replace hw3:=tr hw3 mP;clear mP;generalize kJ:wL.setRow _ _=qP;obtain ⟨S,Z⟩:=f2 S Z (eR kJ);replace F:=dV F kJ;replace hw3:=tr hw3 kJ;clear kJ;exact vJ (v:=.tuple #[.agg #[.int .i64 0,.bool false,.int .i64 0,.string ⟨#[]⟩,.int .i64 0,.slice none 0 0,.slice none 0 0,.slice none 0 0],.agg #[.slice none 0 0,.int .i64 0],.int .i64 (fF ts)]) (by simp [results,Tryz.results27,go_sem,Z.out.c8,F.out.c2]) rfl ((by rw [HR.out];exact ⟨hw3,rfl⟩))
def UZ (g:Nat->List kP):Prop := ∀ id,g id = []\/∃ f,g id = [f]/\f.id=id/\oV f.data.length
theorem PS {g:Nat->List kP} (hg:UZ g):∀ (n s last:Nat),last < s->s+n<=1001->Ii last ((List.range' s n).flatMap g)
 | 0,s,last,_,_ => by simp [Ii]
 | n+1,s,last,h1,h2 => by
  rw [List.range'_succ,B_];rcases hg s with h | ⟨f,h,hf,hu⟩
  . rw [h];exact PS hg n (s+1) last (by omega) (by omega)
  rw [h];exact ⟨by omega,by omega,hu,hf ▸ PS hg n (s+1) s (by omega) (by omega)⟩
theorem PU {g:Nat->List kP} (hg:UZ g):∀ (n s id:Nat),s<=id->id < s+n->wY ((List.range' s n).flatMap g) (id:Int)=(g id).head?
 | 0,s,id,h1,h2 => by omega
 | n+1,s,id,h1,h2 => by
  rw [List.range'_succ,B_];by_cases h:id=s
  .
   subst h;rcases hg id with h0 | ⟨f,h0,hf,_⟩
   .
    rw [h0,J_];have:∀ (n s:Nat),id < s->wY ((List.range' s n).flatMap g) (id:Int)=none:=by
     intro n
     induction n with
     | zero => intro s _;rfl
     | succ n ih =>
      intro s hs;rw [List.range'_succ,B_];rcases hg s with h1 | ⟨f,h1,hf,_⟩
      . rw [h1];exact ih (s+1) (by omega)
      rw [h1];have hne:((f.id:Int) == (id:Int))=false:=by rw [r_];omega
      show List.find? _ (f :: _)=none;rw [List.find?_cons,hne];exact ih (s+1) (by omega)
    rw [this n (id+1) (by omega)];rfl
   rw [h0];have he:((f.id:Int) == (id:Int))=true:=by rw [TL,hf]
   show List.find? _ (f :: _)=some f;rw [List.find?_cons,he]
  rcases hg s with h0 | ⟨f,h0,hf,_⟩
  . rw [h0];exact PU hg n (s+1) id (by omega) (by omega)
  rw [h0];have hne:((f.id:Int) == (id:Int))=false:=by rw [r_];omega
  show List.find? _ (f :: _)=_;rw [List.find?_cons,hne];exact PU hg n (s+1) id (by omega) (by omega)
theorem G5 {g:Nat->List kP} (hg:UZ g) (x:ay) (path:List Int) (hc:∀ id:Nat,dN x (id:Int)=none->∀ f ∈ g id,f.akb=false):∀ (n s:Nat) (acc:List Raw),
  qQ x path ((List.range' s n).flatMap g) acc = .ok (acc ++ (List.range' s n).flatMap (fun id => if (dN x ((id:Nat):Int)).isSome then [] else (g id).map (fun f => ((f.id:Int),f.data))))
 | 0,s,acc => by simp [qQ]
 | n+1,s,acc => by
  rw [List.range'_succ,B_,B_];rcases hg s with h | ⟨f,h,hf,_⟩
  . rw [h,J_,G5 hg x path hc n (s+1) acc];simp
  rw [h];show qQ x path (f :: _) acc=_;rw [qQ,hf];cases hm:dN x (s:Int) with
  | some i => simp only [M_,if_true,J_];exact G5 hg x path hc n (s+1) acc
  | none =>
   have:=hc s hm f (by rw [h];simp);simp only [OU,Bool.false_eq_true,if_false,this];have:=G5 hg x path hc n (s+1) (acc ++ [((s:Int),f.data)]);simp only [J_,List.append_eq] at this ⊢;rw [this];simp [hf]
theorem G6:∀ (n s:Nat) (l:List Raw),(∀ r ∈ l,(s:Int)<=r.1/\r.1 < ((s+n:Nat):Int))->(l.Pairwise fun a b => a.1 < b.1)->(List.range' s n).flatMap (fun id => l.filter (fun r => r.1 == ((id:Nat):Int)))=l
 | 0,s,l,h,_ => by
  cases l with
  | nil => simp
  | cons r l => have:=h r (by simp);omega
 | n+1,s,l,h,hp => by
  rw [List.range'_succ,B_];cases l with
  | nil => simp
  | cons r l =>
   have hr:=h r (by simp);rw [List.pairwise_cons] at hp;by_cases he:r.1=(s:Int)
   .
    have h1:(r :: l).filter (fun q => q.1 == (s:Int)) = [r]:=by
     rw [Vk,o_ (by simp [he])]
     congr 1
     rw [List.filter_eq_nil_iff];intro q hq;have:=hp.1 q hq;simp;omega
    have h2:(List.range' (s+1) n).flatMap (fun id => (r :: l).filter (fun q => q.1 == ((id:Nat):Int)))=(List.range' (s+1) n).flatMap (fun id => l.filter (fun q => q.1 == ((id:Nat):Int))):=by
     rw [List.flatMap_def,List.flatMap_def]
     congr 1
     apply List.map_congr_left
     intro id hid;rw [List.mem_range'_1] at hid;rw [Vk,gB (by simp;omega)]
    rw [h1,h2,G6 n (s+1) l (fun q hq => by have:=hp.1 q hq;have:=h q (by simp [hq]);omega) hp.2]
    rfl
   have h1:(r :: l).filter (fun q => q.1 == (s:Int)) = []:=by
    rw [List.filter_eq_nil_iff];intro q hq;rcases N_.1 hq with rfl | hq
    . simpa using he
    have:=hp.1 q hq;simp;omega
   rw [h1,J_];exact G6 n (s+1) (r :: l) (fun q hq => by
    have:=h q hq;rcases N_.1 hq with rfl | hq
    . omega
    have:=hp.1 q hq;omega) (List.pairwise_cons.2 hp)
theorem L9 (x:ay):∀ (l:List Raw) (p:Option Int),xK x l p=true->(∀ r ∈ l,dN x r.1=none/\1<=r.1/\r.1<=1000/\xH p r.1=true)/\l.Pairwise (fun a b => a.1 < b.1)
 | [],p,_ => ⟨fun r h => by simp at h,List.Pairwise.nil⟩
 | r :: l,p,h => by
  rw [xK] at h;simp only [j_,Bool.not_eq_true',Option.isSome_eq_false_iff,Option.isNone_iff_eq_none] at h;obtain ⟨h1,h2,h3,h4⟩:=h;obtain ⟨i1,i2⟩:=L9 x l (some r.1) h4;unfold mM at h2;simp only [w_] at h2;refine ⟨fun q hq => ?_,List.pairwise_cons.2 ⟨fun q hq => ?_,i2⟩⟩
  .
   rcases N_.1 hq with rfl | hq
   . exact ⟨h1,h2.1,h2.2,h3⟩
   obtain ⟨j1,j2,j3,j4⟩:=i1 q hq;refine ⟨j1,j2,j3,?_⟩;cases p with
   | none => rfl
   | some a => simp only [xH,w_] at h3 j4 ⊢; omega
  have:=(i1 q hq).2.2.2;simpa [xH] using this
theorem PV:∀ (l:List Raw) (p:Option Int) (S:List (List UInt8)),nO l p S=true->(∀ r ∈ l,1<=r.1/\r.1<=1000/\xH p r.1=true)/\l.Pairwise (fun a b => a.1 < b.1)
 | [],p,S,_ => ⟨fun r h => by simp at h,List.Pairwise.nil⟩
 | r :: l,p,S,h => by
  rw [nO] at h;simp only [j_] at h;obtain ⟨h1,h2,_,_,h3⟩:=h;obtain ⟨i1,i2⟩:=PV l (some r.1) _ h3;unfold mM at h1;simp only [w_] at h1;refine ⟨fun q hq => ?_,List.pairwise_cons.2 ⟨fun q hq => ?_,i2⟩⟩
  .
   rcases N_.1 hq with rfl | hq
   . exact ⟨h1.1,h1.2,h2⟩
   obtain ⟨j1,j2,j3⟩:=i1 q hq;refine ⟨j1,j2,?_⟩;cases p with
   | none => rfl
   | some a => simp only [xH,w_] at h2 j3 ⊢; omega
  have:=(i1 q hq).2.2;simpa [xH] using this
theorem WV:∀ (l:List Int) (k j:Nat) (h:j < l.length),l.Pairwise (· < ·)->nY l l[j] k=some (k+j)
 | [],k,j,h,_ => by simp at h
 | a :: r,k,0,h,hp => by simp [nY]
 | a :: r,k,j+1,h,hp => by
  rw [List.pairwise_cons] at hp;have hlt:=hp.1 (r[j]'(by simpa using h)) (jl _);simp only [S_];rw [nY,gB (by omega),WV r (k+1) j (by simpa using h) hp.2]
  congr 1;omega
theorem IK:∀ (l:List Int) (id:Int) (k j:Nat),nY l id k=some j->∃ h:j - k < l.length,l[j - k]=id/\k<=j
 | [],id,k,j,h => by simp [nY] at h
 | a :: r,id,k,j,h => by
  rw [nY] at h;split at h
  . injection h with h;subst h;rename_i e;subst e;exact ⟨by simp,by simp,b_ _⟩
  obtain ⟨h1,h2,h3⟩:=IK r id (k+1) j h;have e:j - k=j - (k+1)+1:=by omega
  refine ⟨by simp only [z_];omega,?_,by omega⟩;simp only [e,S_];exact h2
theorem Dy {ts:List ay} (h:fF ts=0) {x:ay} (hx:x ∈ ts) (hk:x.kind=5\/x.kind=6):(∀ m ∈ x.ah,1<=m.id/\m.id<=1000)/\(x.ah.map Mem.id).Pairwise (· < ·):=by
 unfold fF at h;by_cases h32:32 < ts.length
 . rw [o_ h32] at h;cases h
 rw [gB h32] at h;obtain ⟨hf,hu⟩:=D7 ts ts [] h x hx;have hm:iQ x=true:=by
  unfold dY rD at hf;rw [gB (by omega),gB (by omega),gB (by omega),o_ hk] at hf;simp only [j_,w_] at hf;exact hf.2.1.2
 unfold iQ nP at hm;simp only [j_] at hm;obtain ⟨i1,i2⟩:=PV _ _ _ hm.2.2.1;refine ⟨fun m hm => ?_,?_⟩
 .
  have:=i1 (bW m) (Pe.2 ⟨m,hm,rfl⟩);exact ⟨this.1,this.2.1⟩
 rw [List.pairwise_map] at i2 ⊢; exact i2
theorem WW {ts:List ay} (h:fF ts=0) {x:ay} (hx:x ∈ ts) (hk:x.kind=4):∀ r ∈ x.syms,1<=r.1/\r.1<=1000:=by
 unfold fF at h;by_cases h32:32 < ts.length
 . rw [o_ h32] at h;cases h
 rw [gB h32] at h;obtain ⟨hf,hu⟩:=D7 ts ts [] h x hx;have hm:wu x.syms=true:=by
  unfold dY rD at hf;rw [gB (by omega),gB (by omega),o_ hk] at hf;simp only [j_,w_] at hf;exact hf.2.1.2
 unfold wu nP at hm;simp only [j_] at hm;intro r hr;have:=(PV _ _ _ hm.2.1).1 r hr;exact ⟨this.1,this.2.1⟩
theorem Mc {ts:List ay} {t:Int} {x:ay} (h:bM ts t=some x):x ∈ ts:=by
 unfold bM at h;split at h
 . exact V_ h
 cases h
theorem aeQ (ts:List ay) {l:List Val} {y:Val} (t:Int) (h:y ∈ l):fE ts y t ∈ lu ts l t:=by
 rw [tJ];exact Pe.2 ⟨y,h,rfl⟩
theorem aeR (x:ay) (items:List Val) (ps:List (List UInt8)) (rest:List Raw) (hr:(∀ r ∈ rest,dN x r.1=none/\1<=r.1/\r.1<=1000/\xH none r.1=true)/\rest.Pairwise (fun a b => a.1 < b.1))
  (hp:∀ (i:Nat) (h:i < x.ah.length),(x.ah[i].eG && iK (items.getD i jm) x.ah[i].dflt)=false->oV (ps.getD i []).length) (hd:∀ r ∈ rest,oV r.2.length):UZ (zF x items ps rest):=by
 intro id;unfold zF;cases hm:dN x (id:Int) with
 | some i =>
  have hf:rest.filter (fun r => r.1 == (id:Int)) = []:=by
   rw [List.filter_eq_nil_iff];intro r hr2 he;have h1:=(hr.1 r hr2).1;rw [TL] at he;rw [he,hm] at h1;cases h1
  rw [hf];have hlt:=zG x _ i hm;simp only [m_ hlt,List.map_nil,Vs];split
  . exact .inl rfl
  rename_i hnd;exact .inr ⟨_,rfl,rfl,hp i hlt (by simpa using hnd)⟩
 | none =>
  simp only [J_];have h1:∀ l:List Raw,l.Pairwise (fun a b => a.1 < b.1)->(∀ r ∈ l,oV r.2.length)->(l.filter (fun r => r.1 == (id:Int))).map (fun r => (⟨id,false,r.2⟩ : kP)) = []\/∃ f:kP,(l.filter (fun r => r.1 == (id:Int))).map (fun r => (⟨id,false,r.2⟩ : kP)) = [f]/\f.id=id/\oV f.data.length:=by
   intro l
   induction l with
   | nil => intro _ _;exact .inl rfl
   | cons r l ih =>
    intro hp2 hd2;rw [List.pairwise_cons] at hp2;by_cases he:r.1=(id:Int)
    .
     have hf:l.filter (fun r => r.1 == (id:Int)) = []:=by
      rw [List.filter_eq_nil_iff];intro q hq hq2;have:=hp2.1 q hq;rw [TL] at hq2;omega
     right
     refine ⟨⟨id,false,r.2⟩,?_,rfl,hd2 r (by simp)⟩;rw [Vk,o_ (by simp [he]),hf];rfl
    rw [Vk,gB (by simpa using he)];exact ih hp2.2 (fun q hq => hd2 q (by simp [hq]))
  exact h1 rest hr.2 hd
theorem Md (x:ay) (items:List Val) (ps:List (List UInt8)) (rest:List Raw) (id:Nat) (h:dN x (id:Int)=none):zF x items ps rest id=(rest.filter (fun r => r.1 == (id:Int))).map (fun r => ⟨id,false,r.2⟩):=by
 unfold zF;rw [h];rfl
theorem JD {x:ay} (hd:(x.ah.map Mem.id).Pairwise (· < ·)) (i:Nat) (h:i < x.ah.length):dN x x.ah[i].id=some i:=by
 unfold dN;have:=WV (x.ah.map Mem.id) 0 i (by simpa using h) hd;simpa using this
theorem WX (x:ay) (items:List Val) (ps:List (List UInt8)) (rest:List Raw) (hd:(x.ah.map Mem.id).Pairwise (· < ·)) (h1:∀ m ∈ x.ah,1<=m.id/\m.id<=1000) (hr:∀ r ∈ rest,dN x r.1=none) (i:Nat) (h:i < x.ah.length) :
  zF x items ps rest x.ah[i].id.toNat=if x.ah[i].eG && iK (items.getD i jm) x.ah[i].dflt then [] else [⟨x.ah[i].id.toNat,x.ah[i].akb,ps.getD i []⟩]:=by
 have hid:=h1 _ (jl h);have he:((x.ah[i].id.toNat:Nat):Int)=x.ah[i].id:=by omega
 unfold zF;rw [he,JD hd i h];have hf:rest.filter (fun r => r.1 == x.ah[i].id) = []:=by
  rw [List.filter_eq_nil_iff];intro r hr2 he2;have h3:=hr r hr2;rw [TL] at he2;rw [he2,JD hd i h] at h3;cases h3
 rw [hf];simp only [m_ h,List.map_nil,Vs]
theorem aha {x:ay} {items:List Val} {ps:List (List UInt8)} {rest:List Raw} (hd:(x.ah.map Mem.id).Pairwise (· < ·)) (h1:∀ m ∈ x.ah,1<=m.id/\m.id<=1000) (hr:∀ r ∈ rest,dN x r.1=none) (i:Nat) (h:i < x.ah.length)
  (hnd:(x.ah[i].eG && iK (items.getD i jm) x.ah[i].dflt)=false):(⟨x.ah[i].id.toNat,x.ah[i].akb,ps.getD i []⟩ : kP) ∈ Dz x items ps rest 1000:=by
 have hid:=h1 _ (jl h);unfold Dz;refine List.mem_flatMap.2 ⟨x.ah[i].id.toNat,by rw [List.mem_range'_1];omega,?_⟩;rw [WX x items ps rest hd h1 hr i h,hnd];simp
theorem aeS {x:ay} {items:List Val} {ps:List (List UInt8)} {rest:List Raw} (hr:∀ r ∈ rest,dN x r.1=none/\1<=r.1/\r.1<=1000) (r:Raw) (h:r ∈ rest):(⟨r.1.toNat,false,r.2⟩ : kP) ∈ Dz x items ps rest 1000:=by
 obtain ⟨h1,h2,h3⟩:=hr r h;have he:((r.1.toNat:Nat):Int)=r.1:=by omega
 unfold Dz;refine List.mem_flatMap.2 ⟨r.1.toNat,by rw [List.mem_range'_1];omega,?_⟩;rw [Md x items ps rest _ (by rw [he];exact h1)];exact Pe.2 ⟨r,List.mem_filter.2 ⟨h,by simp [he]⟩,rfl⟩
theorem aah {x:ay} {items:List Val} {ps:List (List UInt8)} {rest:List Raw} (hr:(∀ r ∈ rest,dN x r.1=none/\1<=r.1/\r.1<=1000/\xH none r.1=true)/\rest.Pairwise (fun a b => a.1 < b.1)) :
  (List.range' 1 1000).flatMap (fun id => if (dN x ((id:Nat):Int)).isSome then [] else (zF x items ps rest id).map (fun f => ((f.id:Int),f.data)))=rest:=by
 have h1:(List.range' 1 1000).flatMap (fun id => if (dN x ((id:Nat):Int)).isSome then [] else (zF x items ps rest id).map (fun f => ((f.id:Int),f.data)))=(List.range' 1 1000).flatMap (fun id => rest.filter (fun r => r.1 == ((id:Nat):Int))):=by
  rw [List.flatMap_def,List.flatMap_def]
  congr 1
  apply List.map_congr_left
  intro id _;cases hm:dN x (id:Int) with
  | some i =>
   simp only [M_,if_true]
   symm
   rw [List.filter_eq_nil_iff];intro r hr2 he;rw [TL] at he;have h3:=(hr.1 r hr2).1;rw [he,hm] at h3;cases h3
  | none =>
   simp only [OU,Bool.false_eq_true,if_false];rw [Md x items ps rest id hm,List.map_map];have:∀ l:List Raw,(∀ r ∈ l,r.1=(id:Int))->l.map ((fun f:kP => ((f.id:Int),f.data)) ∘ fun r:Raw => (⟨id,false,r.2⟩ : kP))=l:=by
    intro l hl
    induction l with
    | nil => rfl
    | cons r l ih =>
     rw [Qv,ih (fun q hq => hl q (by simp [hq]))]
     congr 1
     have:=hl r (by simp);simp only [Function.comp_apply];exact Prod.ext this.symm rfl
   exact this _ (fun r hr2 => by
    have:=(List.mem_filter.1 hr2).2;simpa using this)
 rw [h1];exact G6 1000 1 rest (fun r hr2 => by have:=hr.1 r hr2;omega) hr.2
theorem mk_eq {v:Val} {k n id:Int} {b:Bool} {s:List UInt8} {ks is:List Val} {rs:List Raw} (h1:v.kind=k) (h2:v.bool=b) (h3:v.num=n) (h4:v.str=s) (h5:v.id=id) (h6:v.keys=ks) (h7:v.items=is) (h8:v.rest=rs):v = .mk k b n s id ks is rs:=by
 subst h1 h2 h3 h4 h5 h6 h7 h8;cases v;rfl
theorem JE {v:Val} {N:Nat} (h:nodes v<=N+1):(∀ y ∈ v.keys,nodes y<=N)/\∀ y ∈ v.items,nodes y<=N:=by
 cases v with
 | mk k b n s id ks is rs =>
  rw [nodes] at h;exact ⟨fun y hy => by have:=tY ks y hy;omega,fun y hy => by have:=tY is y hy;omega⟩
theorem aeT {ts:List ay} (h:fF ts=0) {x:ay} (hx:x ∈ ts) (hk:x.kind=8):∃ y,bM ts x.key=some y/\1<=y.kind/\y.kind<=4:=by
 unfold fF at h;by_cases h32:32 < ts.length
 . rw [o_ h32] at h;cases h
 rw [gB h32] at h;have:∀ (l:List ay) (S:List (List UInt8)),lU ts l S=0->∀ x ∈ l,x.kind=8->akK ts x=true:=by
  intro l
  induction l with
  | nil => intro S _ x hx;simp at hx
  | cons a r ih =>
   intro S h x hx hk;by_cases h1:dY a=false\/(a.name≠[]/\S.contains a.name=true)
   . rw [JW ts r a S h1] at h;cases h
   cases h2:(lg a).all (inB ts.length) with
   | false => rw [YO ts r a S h1 h2] at h;cases h
   | true =>
    by_cases h3:a.kind=8/\akK ts a=false
    . rw [Lh ts r a S h1 h2 h3] at h;cases h
    rw [Lj ts r a S h1 h2 h3] at h;rcases N_.1 hx with rfl | hx
    .
     cases hq:akK ts x with
     | true => rfl
     | false => exact absurd ⟨hk,hq⟩ h3
    exact ih _ h x hx hk
 have h2:=this ts [] h x hx hk;unfold akK at h2;cases hy:bM ts x.key with
 | none => rw [hy] at h2;cases h2
 | some y => rw [hy] at h2;simp at h2;exact ⟨y,rfl,h2.1,h2.2⟩
theorem ahb {ts:List ay} (h:fF ts=0) {x:ay} (hx:x ∈ ts) (hk:x.kind=8) {y:Val} (hf:cO ts false y x.key=true):jV ts y x.key<=1:=by
 obtain ⟨z,hz,k1,k2⟩:=aeT h hx hk;obtain ⟨h1,h2,-⟩:=pI hz hf;rw [BH ts y _ z hz];have hks:=CO h1 h2 (by omega);unfold aA at h2;simp only [j_,QF,w_] at h2;have hi:=yS (h2.2.2.2.2.2.1.resolve_left (by omega));unfold Ia;rw [gB (by omega),gB (by omega),hks,hi];simp [oI]
theorem zGc {p:Prop} (h:p:=by
 rw [OX] at he;rw [he] at this;exact this):p:=h
theorem Yv (ts:List ay) (hv:fF ts=0) (hI:∀ x ∈ ts,I64 x.low/\I64 x.high):∀ (N:Nat) (v:Val) (t:Int) (L:Nat) (path:List Int),nodes v<=N->cO ts false v t=true->jV ts v t<=L->(fE ts v t).length<=140737488355328->decP ts L t (fE ts v t) path = .ok v:=by
 intro N
 induction N with
 | zero => intro v t L path hn;have:=zJ v;omega
 | succ N ih =>
  intro v t L path hn hf hl hz;cases hx:bM ts t with
  | none => rw [kG,hx] at hf;cases hf
  | some x =>
   have hxm:=Mc hx;obtain ⟨h1,h2,h3⟩:=pI hx hf;have hkr:=(IJ hv x hxm).1;rw [BH ts v t x hx] at hl;cases L with
   | zero => omega
   | succ L =>
    rw [decP,hx];simp only;rw [tu ts v t x hx] at hz ⊢;obtain ⟨hnk,hni⟩:=JE hn;unfold aA at h2;rw [h1] at h2;have hcs:x.kind=1\/x.kind=2\/x.kind=3\/x.kind=4\/x.kind=5\/x.kind=6\/x.kind=7\/x.kind=8\/x.kind=9:=by omega
    unfold jT ig at h3;unfold Ce at hz ⊢;unfold Ia at hl;rcases hcs with hk | hk | hk | hk | hk | hk | hk | hk | hk
    .
     simp [hk] at h2;obtain ⟨e1,e2,e3,e4,e5,e6⟩:=h2;rw [o_ hk];cases hb:v.bool
     . rw [gB (by simp)];unfold fH;rw [o_ hk,o_ rfl];exact congrArg _ (mk_eq (h1.trans hk) hb e1 e2 e3 e4 e5 e6).symm
     rw [o_ rfl];unfold fH;rw [o_ hk,gB (by simp),o_ rfl];exact congrArg _ (mk_eq (h1.trans hk) hb e1 e2 e3 e4 e5 e6).symm
    .
     simp [hk] at h2 h3;obtain ⟨e1,e2,e3,e4,e5,e6⟩:=h2;have hI2:=hI x hxm;have am6:I64 v.num:=by unfold I64 at *;omega
     have hzr:=TT v.num am6;have hb:=Ot (zig v.num).toNat (by unfold oV;omega);rw [gB (by omega),o_ hk];unfold fH;rw [gB (by omega),o_ hk,hb];have he:(((zig v.num).toNat:Nat):Int)=zig v.num:=by omega
     simp only [he,KJ];rw [gB (by simp),gB (by omega)];exact congrArg _ (mk_eq (h1.trans hk) e1 rfl e2 e3 e4 e5 e6).symm
    .
     simp [hk] at h2 h3;obtain ⟨e1,e2,e3,e4,e5,e6⟩:=h2;rw [gB (by omega),gB (by omega),o_ hk];unfold fH;rw [gB (by omega),gB (by omega),o_ hk,gB (by omega)];exact congrArg _ (mk_eq (h1.trans hk) e1 e2 rfl e3 e4 e5 e6).symm
    .
     simp [hk] at h2;obtain ⟨e1,e2,e3,e4,e5,e6⟩:=h2;rw [gB (by omega),gB (by omega),o_ hk] at h3;have hid:1<=v.id/\v.id<=1000:=by
      cases hs:qm x v.id with
      | some i =>
       unfold qm at hs;obtain ⟨hlt,he,_⟩:=IK _ _ _ _ hs;have:=WW hv hxm hk (x.syms[i - 0]'(by simpa using hlt)) (jl _);exact zGc
      | none =>
       rw [hs] at h3;simp [mM] at h3;exact h3.2
     have hb:=Ot v.id.toNat (by unfold oV;omega);have he:((v.id.toNat:Nat):Int)=v.id:=by omega
     rw [gB (by omega),gB (by omega),gB (by omega),o_ hk];unfold fH;rw [gB (by omega),gB (by omega),gB (by omega),o_ hk,hb];simp only [he];rw [gB (by simp;omega),gB (by
      intro hc;cases hs:qm x v.id with
      | some i => rw [hs] at hc;simp at hc
      | none => rw [hs] at h3;simp at h3;rw [h3.1] at hc;simp at hc)]
     exact congrArg _ (mk_eq (h1.trans hk) e1 e2 e3 rfl e4 e5 e6).symm
    .
     simp [hk] at h2;obtain ⟨e1,e2,e3,e4,e5⟩:=h2;rw [gB (by omega),gB (by omega),gB (by omega),o_ hk] at h3;rw [gB (by omega),gB (by omega),gB (by omega),gB (by omega),gB (by omega),gB (by omega),gB (by omega),gB (by omega)] at hz ⊢;rw [o_ hk] at hl;dsimp only at hz hl ⊢;simp only [j_,w_] at h3;obtain ⟨hlen,_,hrest,hZ⟩:=h3;obtain ⟨hm1,hm2⟩:=Dy hv hxm (.inl hk);have hrr:=L9 x _ _ hrest;have hrn:∀ r ∈ v.rest,dN x r.1=none:=fun r hr => (hrr.1 r hr).1;have hpl:=Wq ts v.items x.ah hlen;have hrd:∀ r ∈ v.rest,r.2.length<=140737488355328:=fun r hr => by
      have:=Jf (aeS (x:=x) (items:=v.items) (ps:=uw ts v.items x.ah) (fun r hr => ⟨(hrr.1 r hr).1,(hrr.1 r hr).2.1,(hrr.1 r hr).2.2.1⟩) r hr);simp only at this;omega
     have YR:∀ (i:Nat) (h:i < x.ah.length),(x.ah[i].eG && iK (v.items.getD i jm) x.ah[i].dflt)=false->((uw ts v.items x.ah).getD i []).length<=140737488355328:=fun i h hd => by
      have:=Jf (aha (ps:=uw ts v.items x.ah) hm2 hm1 hrn i h hd);simp only at this;omega
     have hg:=aeR x v.items (uw ts v.items x.ah) v.rest hrr (fun i h hd => by have:=YR i h hd;unfold oV;omega) (fun r hr => by have:=hrd r hr;unfold oV;omega);have hasc:Ii 0 (Dz x v.items (uw ts v.items x.ah) v.rest 1000):=PS hg 1000 1 0 (by omega) (by omega);have hmem:∀ j (h:j < v.items.length),E8 (decP ts L) x (Dz x v.items (uw ts v.items x.ah) v.rest 1000) path (0+j) = .ok v.items[j]:=by
      intro j hj;have hj2:j < x.ah.length:=by omega
      have hid:=hm1 _ (jl hj2);have he:((x.ah[j].id.toNat:Nat):Int)=x.ah[j].id:=by omega
      have hfa:wY (Dz x v.items (uw ts v.items x.ah) v.rest 1000) x.ah[j].id=(zF x v.items (uw ts v.items x.ah) v.rest x.ah[j].id.toNat).head?:=by
       have:=PU hg 1000 1 x.ah[j].id.toNat (by omega) (by omega);rw [he] at this;exact this
      rw [WX x v.items _ v.rest hm2 hm1 hrn j hj2] at hfa;unfold E8;rw [Ru,m_ hj2];simp only;rw [hfa];have hgd:v.items.getD j jm=v.items[j]:=by rw [Oa,m_ hj];rfl
      by_cases hdf:(x.ah[j].eG && iK (v.items.getD j jm) x.ah[j].dflt)=true
      .
       rw [o_ hdf];rw [j_,hgd] at hdf;simp only [List.head?_nil];rw [o_ hdf.1,(vM _ _).1 hdf.2]
      have aeU:=Bool.eq_false_iff.2 hdf;have hpz:=YR j hj2 aeU;rw [gB hdf];simp only [List.head?_cons];rw [hgd] at aeU;have hlz:=Sj ts v.items x.ah j hj hj2 aeU;rw [NG ts v.items x.ah j hj hj2] at hpz ⊢;exact ih v.items[j] x.ah[j].ty L _ (hni _ (jl hj)) (PD ts false _ _ hZ j hj hj2) (by omega) hpz
     unfold fH;rw [gB (by omega),gB (by omega),gB (by omega),gB (by omega),o_ hk,Ov _ hasc];simp only;rw [<- hlen,DK v.items 0 [] hmem];simp only [J_];have hrs:=G5 hg x path (fun id hid f hf => by
      rw [Md x v.items _ v.rest id hid] at hf;obtain ⟨r,_,rfl⟩:=Pe.1 hf
      rfl) 1000 1 []
     rw [aah hrr,J_] at hrs;unfold Dz;rw [hrs];exact congrArg _ (mk_eq (h1.trans hk) e1 e2 e3 e4 e5 rfl rfl).symm
    .
     simp [hk] at h2;obtain ⟨e1,e2,e3,e4⟩:=h2;rw [gB (by omega),gB (by omega),gB (by omega),gB (by omega),o_ hk] at h3;rw [gB (by omega),gB (by omega),gB (by omega),gB (by omega),gB (by omega),o_ hk] at hz ⊢;rw [gB (by omega),o_ hk] at hl;dsimp only at hz hl ⊢;obtain ⟨hm1,hm2⟩:=Dy hv hxm (.inr hk);cases hm:dN x v.id with
     | some i =>
      have hlt:=zG x _ i hm;rw [hm] at h3 hz hl;simp only [m_ hlt] at h3 hz hl ⊢;simp only [j_,w_] at h3;obtain ⟨hi1,hr0,hH⟩:=h3;have hrs:=yS hr0;obtain ⟨y,hy⟩:=List.length_eq_one_iff.1 hi1;rw [hrs] at hz ⊢;simp only at hz ⊢;have hid:1<=v.id/\v.id<=1000:=by
       unfold dN at hm;obtain ⟨h4,he,_⟩:=IK _ _ _ _ hm;have:=hm1 (x.ah[i - 0]'(by simpa using h4)) (jl _);exact zGc
      have he:((v.id.toNat:Nat):Int)=v.id:=by omega
      have hy1:y ∈ v.items:=by rw [hy];simp
      rw [hy] at hH hz hl;rw [SQ] at hz;rw [LC] at hl;rw [zM] at hH;rw [h_] at hz;unfold fH;rw [gB (by omega),gB (by omega),gB (by omega),gB (by omega),gB (by omega),o_ hk,Ws _ (by omega) (by omega)];simp only [he,hm,m_ hlt,Option.map_some,V8,hy,SQ];rw [ih y x.ah[i].ty L _ (hni _ hy1) hH (by omega) (by omega)];simp only;exact congrArg _ (mk_eq (h1.trans hk) e1 e2 e3 rfl e4 hy hrs).symm
     | none =>
      rw [hm] at h3;simp only [j_,w_] at h3;obtain ⟨ho,_,hfr,hi0,hr1,hone⟩:=h3;obtain ⟨r,hr⟩:=List.length_eq_one_iff.1 hr1;rw [hr] at hone ⊢;simp only [KW,w_] at hone;simp only;have hid:1<=v.id/\v.id<=1000:=by unfold mM at hfr;simpa using hfr
      have he:((v.id.toNat:Nat):Int)=v.id:=by omega
      unfold fH;rw [gB (by omega),gB (by omega),gB (by omega),gB (by omega),gB (by omega),o_ hk,Ws _ (by omega) (by omega)];simp only [he,hm];rw [o_ ho];exact congrArg _ (mk_eq (h1.trans hk) e1 e2 e3 rfl e4 (yS hi0) (by rw [hr,<- hone])).symm
    .
     simp [hk] at h2;obtain ⟨e1,e2,e3,e4,e5,e6⟩:=h2;rw [gB (by omega),gB (by omega),gB (by omega),gB (by omega),gB (by omega),o_ hk] at h3;rw [gB (by omega),gB (by omega),gB (by omega),gB (by omega),gB (by omega),gB (by omega),o_ hk] at hz ⊢;rw [gB (by omega),gB (by omega)] at hl;dsimp only at hz hl ⊢;simp only [j_,w_] at h3;have hu:∀ p ∈ lu ts v.items x.elem,oV p.length:=fun p hp => by have:=DL hp;unfold oV;omega
     unfold fH;rw [gB (by omega),gB (by omega),gB (by omega),gB (by omega),gB (by omega),gB (by omega),o_ hk,QX _ hu];simp only;have hlen:(lu ts v.items x.elem).length=v.items.length:=by rw [tJ,Qs]
     rw [gB (by rw [hlen];omega),hlen,DK v.items 0 [] (fun j hj => by
      have hy:=jl hj;have hg:(lu ts v.items x.elem).getD (0+j) []=fE ts v.items[j] x.elem:=by
       rw [tJ,Ru,Oa,UQ,m_ hj];rfl
      simp only [hg];have hlv:=Jy ts x.elem v.items v.items[j] hy;have hpz:=DL (aeQ ts x.elem hy);exact ih v.items[j] x.elem L _ (hni _ hy) (yw h3.2 _ hy) (by omega) (by omega))]
     simp only [J_];exact congrArg _ (mk_eq (h1.trans hk) e1 e2 e3 e4 e5 rfl e6).symm
    .
     simp [hk] at h2;obtain ⟨e1,e2,e3,e4,e5⟩:=h2;rw [gB (by omega),gB (by omega),gB (by omega),gB (by omega),gB (by omega),gB (by omega),o_ hk] at h3;rw [gB (by omega),gB (by omega),gB (by omega),gB (by omega),gB (by omega),gB (by omega),gB (by omega),o_ hk] at hz ⊢;rw [gB (by omega),gB (by omega)] at hl;dsimp only at hz hl ⊢;simp only [j_,w_] at h3;obtain ⟨hmx,hlen,hK,hasc,hI2⟩:=h3;have hkl:(lu ts v.keys x.key).length=v.keys.length:=by rw [tJ,Qs]
     have hil:(lu ts v.items x.elem).length=v.items.length:=by rw [tJ,Qs]
     have hu:∀ p ∈ inter (lu ts v.keys x.key) (lu ts v.items x.elem),oV p.length:=fun p hp => by have:=DL hp;unfold oV;omega
     have hzz:∀ p ∈ inter (lu ts v.keys x.key) (lu ts v.items x.elem),p.length<=140737488355328:=fun p hp => by have:=DL hp;omega
     have hln:=LH (lu ts v.keys x.key) (lu ts v.items x.elem) (by omega);rw [hkl] at hln;unfold fH;rw [gB (by omega),gB (by omega),gB (by omega),gB (by omega),gB (by omega),gB (by omega),gB (by omega),o_ hk,QX _ hu];simp only;rw [gB (by rw [hln];omega),gB (by rw [hln];omega),show (inter (lu ts v.keys x.key) (lu ts v.items x.elem)).length / 2=v.keys.length by rw [hln];omega];have hat:=fun j (hj:j < v.keys.length) => PI (lu ts v.keys x.key) (lu ts v.items x.elem) j (by omega) (by omega);have lY:∀ j (hj:j < v.keys.length),(lu ts v.keys x.key)[j]'(by omega) ∈ inter (lu ts v.keys x.key) (lu ts v.items x.elem)/\(lu ts v.items x.elem)[j]'(by omega) ∈ inter (lu ts v.keys x.key) (lu ts v.items x.elem):=by
      intro j hj;have h4:=hat j hj;rw [Oa,Oa,m_ (by omega),m_ (by omega)] at h4;simp only [V8] at h4;rw [<- h4.1,<- h4.2];exact ⟨jl _,jl _⟩
     rw [DK v.keys 0 [] (fun j hj => by
      have hy:=jl hj;rw [Ru,(hat j hj).1];have hpz:=hzz _ (lY j hj).1;have hg:(lu ts v.keys x.key)[j]'(by omega)=fE ts v.keys[j] x.key:=by simp only [tJ,OX]
      rw [hg] at hpz ⊢;have hl1:=ahb hv hxm hk (yw hK _ hy);rw [o_ (by omega)] at hl;exact ih v.keys[j] x.key L _ (hnk _ hy) (yw hK _ hy) (by omega) hpz)]
     simp only [J_];rw [gB (by simp [hasc]),<- hlen,DK v.items 0 [] (fun j hj => by
      have hy:=jl hj;have hj2:j < v.keys.length:=by omega
      rw [Ru,(hat j hj2).2];have hpz:=hzz _ (lY j hj2).2;have hg:(lu ts v.items x.elem)[j]'(by omega)=fE ts v.items[j] x.elem:=by simp only [tJ,OX]
      rw [hg] at hpz ⊢;have hlv:=Jy ts x.elem v.items v.items[j] hy;exact ih v.items[j] x.elem L _ (hni _ hy) (yw hI2 _ hy) (by omega) hpz)]
     simp only [J_];exact congrArg _ (mk_eq (h1.trans hk) e1 e2 e3 e4 rfl rfl e5).symm
    simp [hk] at h2;obtain ⟨e1,e2,e3,e4,e5,e6⟩:=h2;rw [gB (by omega),gB (by omega),gB (by omega),gB (by omega),gB (by omega),gB (by omega),gB (by omega),o_ hk] at h3;rw [gB (by omega),gB (by omega),gB (by omega),gB (by omega),o_ hk] at hz ⊢;rw [gB (by omega),gB (by omega)] at hl;dsimp only at hz hl ⊢;simp only [j_,w_] at h3;unfold fH;rw [gB (by omega),gB (by omega),gB (by omega),gB (by omega),gB (by omega),gB (by omega),gB (by omega),gB (by omega)];by_cases h0:v.items.length=0
    .
     rw [o_ h0];exact congrArg _ (mk_eq (h1.trans hk) e1 e2 e3 e4 e5 (yS h0) e6).symm
    rw [gB h0] at hz ⊢;obtain ⟨y,hy⟩ : ∃ y,v.items = [y]:=by
     match hi:v.items with
     | [] => rw [hi] at h0;exact absurd rfl h0
     | [y] => exact ⟨y,rfl⟩
     | _ :: _ :: _ => rw [hi] at h3;simp at h3
    have hy1:y ∈ v.items:=by rw [hy];simp
    have hlv:=Jy ts x.elem v.items y hy1;rw [NK ts v.items x.elem (by omega)] at hz ⊢;have hg:v.items[0]'(by omega)=y:=by simp [hy]
    rw [hg] at hz ⊢;rw [z_] at hz;simp only;rw [gB (by simp),ih y x.elem L _ (hni _ hy1) (yw h3.2 _ hy1) (by omega) (by omega)];simp only;exact congrArg _ (mk_eq (h1.trans hk) e1 e2 e3 e4 e5 hy e6).symm

/- union and list of the reference. No condition. -/
import Derived.Test.YthkfapcadhnaeaaGreatDoorRefC
import Derived.Test.YthkfapcadhnaeaaGreatDoorDecM
set_option maxHeartbeats 3200000
namespace Go.Proofs.YthkfapcadhnaeaaGreatDoor
open Go.ChangeShapes Go.WideShapes Go.ChangeAt Go.RowKit
theorem Kept.imp {P Q:World→Prop} {w:World} {L B:Nat} (h:Kept P w L B) (hPQ:∀ w,P w→Q w):Kept Q w L B:=⟨hPQ _ h.now,fun w' hk => hPQ _ (h.st w' hk),h.le⟩
def KE (w0:World) (C L B:Nat) (r:fO) (c:List Value) (W:World):Prop:=match r with
 | .ok v => ∃ vk vi vr,c = [.int .i64 v.kind,.bool v.bool,.int .i64 v.num,.string ⟨v.str.toArray⟩,.int .i64 v.id,vk,vi,vr,.slice none 0 0,.int .i64 0,.bool true]∧Qr w0 C L B v vk vi vr W
 | .error (p,n) => ∃ fp,c = [.int .i64 0,.bool false,.int .i64 0,.string ⟨#[]⟩,.int .i64 0,.slice none 0 0,.slice none 0 0,.slice none 0 0,fp,.int .i64 n,.bool false]∧W.ownsRow L 3 1 fp p.length (p.map iZ)
theorem jq.one {W:World} {S:Nat→Prop} {v:Val} {vk vi vr:Value} (hv:jq W S v vk vi vr):vk.oneCell'=true∧vi.oneCell'=true∧vr.oneCell'=true:=by
 obtain ⟨ck,hk,_⟩:=hv.keys
 obtain ⟨ci,hi,_⟩:=hv.items
 exact ⟨hk.one,hi.one,hv.rest.one⟩
theorem ag1 {W:World} {base n size:Nat} {e:TypeId} {v:Value} {xs:List Value} (h:W.ownsRow base e size v n xs):v.oneCell'=true:=by
 obtain ⟨A,c,rfl⟩:=aF h;rfl
theorem fG.take {C:Nat} {w w0 W:World} {r:fO} {e:Ending} (h:fG C w r e W) (hO:Old w0 C W) :
  ∃ c0 c1 c2 c3 c4 c5 c6 c7 c8 c9 c10:Value,(∀ u ∈ [c0,c1,c2,c3,c4,c5,c6,c7,c8,c9,c10],u.oneCell'=true)∧e = .returned (.agg #[c0,c1,c2,c3,c4,c5,c6,c7,c8,c9,c10]) ∧
   Kept (KE w0 C w.heap.size W.heap.size r [c0,c1,c2,c3,c4,c5,c6,c7,c8,c9,c10]) W w.heap.size W.heap.size:=by
 obtain ⟨hb,h⟩:=h
 cases r with
 | ok v =>
  obtain ⟨vk,vi,vr,rfl,hv⟩:=h
  obtain ⟨h1,h2,h3⟩:=hv.one
  have hk:=Qr.kept (w0:=w0) (C:=C) (L:=w.heap.size) (B:=W.heap.size) hv (fun k hk => hk) hO (Nat.le_refl _)
  exact ⟨_,_,_,_,_,_,_,_,_,_,_,by simp [Value.oneCell'];exact ⟨h1,h2,h3⟩,rfl,⟨vk,vi,vr,rfl,hk.now⟩,fun w' hs => ⟨vk,vi,vr,rfl,hk.st w' hs⟩,Nat.le_refl _⟩
 | error q =>
  obtain ⟨p,n⟩:=q
  obtain ⟨fp,rfl,hown⟩:=h
  have h1:=ag1 hown
  have hk:=Kept.own hown
  exact ⟨_,_,_,_,_,_,_,_,_,_,_,by simp [Value.oneCell'];exact h1,rfl,⟨fp,rfl,hk.now⟩,fun w' hs => ⟨fp,rfl,hk.st w' hs⟩,Nat.le_refl _⟩
def F9 (ts:List aC) (C:Nat) (tv:Value) (L:Int) (rec:Int→List UInt8→List Int→fO) (path:List Int):Prop :=
 ∀ (W:World) (t s:Int) (q:List UInt8) (vp:Value),C≤W.heap.size→bG W C tv ts→W.ownsRow 0 3 1 vp (path.length+1) ((path ++ [s]).map iZ)→(fB ts t).isSome=true→q.length≤800000 →
  Calls Tryz.prog 71 #[.agg #[tv],.int .i64 t,.string ⟨q.toArray⟩,.int .i64 (L+1),vp] W (fG C W (rec t q (path ++ [s])))
structure KF (w:World) (C:Nat) (wx:World) (r:fO) (lo:Nat) (s1:Value):Prop where
 ex:∃ (gI:Nat) (c0 c1 c2 c3 c4 c5 c6 c7 c8 c9 c10:Value) (L B:Nat),s1 = .pointer (some ⟨gI,0,none⟩)∧(∀ u ∈ [c0,c1,c2,c3,c4,c5,c6,c7,c8,c9,c10],u.oneCell'=true)∧Has wx gI 91 #[c0,c1,c2,c3,c4,c5,c6,c7,c8,c9,c10] ∧
  Kept (KE w C L B r [c0,c1,c2,c3,c4,c5,c6,c7,c8,c9,c10]) wx L B∧lo < L∧lo < gI∧(gI < L∨B≤gI)∧Below w.heap.size w wx
theorem mD {ops:Array Oper} {rest:List Oper} {op:Oper} {a:Act} {w0 w:World} {Q:Exit→Act→World→Prop} (hgd:op.guard=none) (s x:Operand)
  (ho:op.op = .call { callee:=.builtin .append,args:=#[s,x],argTypes:=#[27,27] }) {C L Lp Bp:Nat} {v:Value} {xs:List Val} {y:Val} {vk vi vr:Value} {T:TypeId} {cs:Array Value} (hT:T=30) (hcs:cs=(iQ y vk vi vr).toArray)
  (ht:jK w0 C L v xs w) (hO:Old w0 C w) (hs:a.eval s=v) (hx:a.eval x = .slice (some ⟨w.heap.size,0,none⟩) 1 1) (hy:Qr w0 C Lp Bp y vk vi vr w) (hyo:∀ k,v.ownBlock=some k→C≤k∧k < Lp) (hBp:Bp≤w.heap.size) (hLp:L≤Lp) (hCL:C≤L)
  (hn:xs.length < 900000) (hB:L≤w.heap.size)
  (h:∀ v' w1,jK w0 C L v' (xs ++ [y]) w1→Below L w w1→(∀ k,k < w.heap.size→v.ownBlock≠some k→w1.heap[k]?=w.heap[k]?)→wpList Tryz.prog ops Q rest (a.put op.dst v') w1):wpList Tryz.prog ops Q (op :: rest) a (w.alloc (.cells cs T)):=by
 subst hT;subst hcs
 obtain ⟨S,hOw,hS⟩:=ht hO
 obtain ⟨Sy,hY,zy⟩:=hy hO
 have hal:∀ k,k < w.heap.size→(w.alloc (.cells (iQ y vk vi vr).toArray 30)).heap[k]?=w.heap[k]?:=fun k hk => (aB (w:=w) rfl).block k hk
 have hG:Has (w.alloc (.cells (iQ y vk vi vr).toArray 30)) w.heap.size 30 (iQ y vk vi vr).toArray:=Has.made _ _ _
 have hO1:gQ (w.alloc (.cells (iQ y vk vi vr).toArray 30)) L S v xs:=hOw.keep (fun k hk _ => hal k hk) (by simp)
 have hSz:∀ k,Sy k→k < w.heap.size:=fun k hk => (zy k hk).elim (fun h => by omega) (fun h => by omega)
 have hY1:jT (w.alloc (.cells (iQ y vk vi vr).toArray 30)) Sy y (iQ y vk vi vr).toArray.toList:=hY.rd.keep (fun p hp => World.cell?_of_block (hal p.block (hSz _ hp))) (fun _ h => h)
 rw [wpList]
 have hw:Region.wanted op (yielded ops a.tmps)=true:=by simp [Region.wanted,hgd]
 rw [if_pos hw]
 left
 suffices hh:(if Region.wanted op (yielded ops a.tmps)=true then Oper.wp Tryz.prog op a (w.alloc (.cells (iQ y vk vi vr).toArray 30)) (wpList Tryz.prog ops Q rest) Q else True) by rwa [if_pos hw] at hh
 refine xY (ops:=ops) hgd s x ho hO1 hs hG hx hY1 (fun k hk => ⟨by have:=hSz k hk;simp;omega,fun e => by have:=hyo k e;have:=zy k hk;omega⟩) hn (by simp;omega) ?_
 intro v' w1 h1 _ h3 h4
 refine h v' w1 (fun _ => ⟨_,h1,fun k hk => hk.elim (fun h => hS k h) (fun h => (zy k h).elim .inl (fun h => .inr (by omega)))⟩) ((aB (w:=w) rfl).mono hB |>.trans h3) (fun k hk hne => (h4 k (by simp;omega) hne).trans (hal k hk))
theorem jK.kept {w0:World} {C L:Nat} {v:Value} {xs:List Val} {W:World} (h:jK w0 C L v xs W) (hO:Old w0 C W):Kept (jK w0 C L v xs) W L W.heap.size:=⟨h,fun w' hk hO' => by
 obtain ⟨S,h1,h2⟩:=h hO
 have hS:∀ k,S k→w'.heap[k]?=W.heap[k]?:=fun k hs => (h2 k hs).elim (fun h => (hO' k h).trans (hO k h).symm) (fun h => hk k h (h1.sep k hs).1)
 have hOw:∀ k,v.ownBlock=some k→w'.heap[k]?=W.heap[k]?:=fun k ho => hk k (h1.lt k ho).1 (h1.lt k ho).2
 obtain ⟨⟨cs,h3,h4⟩,h5⟩:=h1
 exact ⟨S,⟨⟨cs,kP h3 hOw,fun i hi => (h4 i hi).keep (fun p hp => World.cell?_of_block (hS p.block hp)) (fun _ h => h)⟩,fun k hs => ⟨Xz (hS k hs) (h5 k hs).1,(h5 k hs).2⟩⟩,h2⟩,Nat.le_refl _⟩
theorem jK.lt {w0:World} {C L:Nat} {v:Value} {xs:List Val} {W:World} (h:jK w0 C L v xs W) (hO:Old w0 C W):∀ k,v.ownBlock=some k→L≤k∧k < W.heap.size:=fun k hk => by
 obtain ⟨S,h1,_⟩:=h hO;exact h1.lt k hk
theorem jK.form {w0:World} {C L:Nat} {v:Value} {xs:List Val} {W:World} (h:jK w0 C L v xs W) (hO:Old w0 C W):∃ A c,v = .slice A xs.length c:=by
 obtain ⟨S,h1,_⟩:=h hO;exact h1.form
theorem jK.row {w0:World} {C L:Nat} {v:Value} {xs:List Val} {W:World} (h:jK w0 C L v xs W) (hO:Old w0 C W) (hL:w0.heap.size≤L):jv W (oI C w0 W) v xs:=by
 obtain ⟨S,h1,h2⟩:=h hO
 exact h1.row.keep (fun _ _ => rfl) fun k hk => hk.elim (fun hs => (h2 k hs).elim .inl (fun h => .inr ⟨Nat.le_trans hL h,(h1.sep k hs).1⟩)) (fun ho => .inr ⟨Nat.le_trans hL (h1.lt k ho).1,(h1.lt k ho).2⟩)
theorem Dh {W:World} {S:Nat→Prop} {k id:Int} {ks is:List Val} {vk vi:Value} (h1:jv W S vk ks) (h2:jv W S vi is) (hk:I64 k) (hi:I64 id) (hl1:ks.length≤1000000) (hl2:is.length≤1000000) :
  jq W S (.mk k false 0 [] id ks is []) vk vi (.slice none 0 0) :=
 ⟨⟨hk,by simp [I64,Val.num],hi⟩,by simp [Val.str],⟨by show ks.length≤_;omega,by show is.length≤_;omega,by simp [Val.rest]⟩,by simp [Val.rest],h1,h2,by simp [Val.rest,iV],none,0,rfl,Nat.le_refl _,.inl rfl⟩
structure EW (w:World) (C K:Nat) (At:Option Addr) (ct n:Nat) (x:aC) (C1:Option Addr) (l1:Nat) (C2:Option Addr) (l2:Nat) (l:List (List UInt8)) (As:Option Addr) (cs gV:Nat) (vk vi:Value) (wr:World):Prop where
 S:Has wr w.heap.size 24 #[.slice At n ct]
 X:Has wr (w.heap.size+1) 69 #[.int .i64 K,.string ⟨x.name.toArray⟩,.int .i64 x.low,.int .i64 x.high,.int .i64 x.max,.slice C1 x.syms.length l1,.slice C2 x.aj.length l2,.int .i64 x.key,.int .i64 x.elem,.bool x.opn]
 Z:Has wr (w.heap.size+1+1) 91 #[.int .i64 0,.bool false,.int .i64 0,.string ⟨#[]⟩,.int .i64 0,.slice none 0 0,.slice none 0 0,.slice none 0 0,.slice none 0 0,.int .i64 0,.bool false]
 V:Has wr gV 30 #[.int .i64 K,.bool false,.int .i64 0,.string ⟨#[]⟩,.int .i64 0,vk,vi,.slice none 0 0]
 ST:Kept (fun w => w.ownsRow 0 9 1 (.slice As l.length cs) l.length (l.map SB)) wr (w.heap.size+3) gV
 lo:w.heap.size+2 < gV
 bel:Below w.heap.size w wr
/- a round that decodes an item and appends it -/
set_option maxRecDepth 100000 in
theorem acf
 (ts:List aC) (tv:Value) (C:Nat) (L:Int) (vp:Value) (path:List Int) (p:List UInt8) (rec:Int→List UInt8→List Int→fO) (x:aC) (vs vm:Value) (w:World) (hk:x.kind=7) (hp:path.length < 200) (hL:0≤L∧L≤1000) (hpl:p.length≤800000)
 (hC:C≤w.heap.size) (ht:bG w C tv ts) (hx:eX w C x vs vm) (hvp:w.ownsRow 0 3 1 vp path.length (path.map iZ)) (HP:F9 ts C tv L rec path) (hm:(fB ts x.elem).isSome=true) :
 Calls Tryz.prog 103 #[.agg #[tv],aS x vs vm,.string ⟨p.toArray⟩,.int .i64 L,vp] w (fG C w (aG rec x p path)):=by
 have HI:=Lib.hid (fun W => OQ p (by omega) W)
 have wB:=Lib.hid (fun I h => Ef (p:=p) (I:=I) h)
 obtain ⟨C1,l1,C2,l2,rfl,rfl,-,-⟩:=hx.forms
 obtain ⟨At,ct,rfl,-⟩:=ht.form
 obtain ⟨Ap,cp,rfl⟩:=aF hvp
 have HX:=Lib.hid hx
 have HT:=Lib.hid ht
 have AU:=Lib.hid HP
 have HM:=Lib.hid hm
 have iq:=Lib.hid hk
 have aT:=Lib.hid hC
 have uH:=Lib.hid hvp
 have hxs:=hx.lens
 clear hx ht HP hm hvp
 go_enter Tryz.func103,Tryz.ntmps103
 go_upto_region 1 with fail
 generalize dJ:w.alloc _=wd2
 generalize jD:wd2.alloc _=wd4
 generalize iT:wd4.alloc _=wV
 have ⟨hb1,S,X,Z⟩:=an3 dJ jD iT
 clear dJ jD iT
 have hw8:=hb1
 clear hb1
 cases ha:sV p with
 | none =>
  have HR:Hid (aG rec x p path = .error (path,1)):=by show _=_;simp [aG,iq.out,ha]
  simp only [ha] at HI
  clear ha
  go_wp2_with fail
  ((with_reducible refine (HI.out _).mono ?_);rintro e AY ⟨rfl,mG⟩)
  obtain ⟨S,X,Z⟩:=b3 S X Z mG
  replace hw8:=dT hw8 mG
  clear mG
  go_upto_region 3 with fail
  obtain ⟨LF,fD⟩ : ∃ n,n=(AY).heap.size:=⟨_,rfl⟩
  have kU:=Z.out.here
  rw [← fD] at kU
  go_wp2_with fail
  ((with_reducible refine (gu C path _ 1 _ (by omega) (own_below uH.out hw8)).mono ?_);rintro e rO ⟨jl,xu,rfl,hown⟩)
  obtain ⟨S,X,Z⟩:=b3 S X Z jl
  replace hw8:=dT hw8 jl
  clear jl
  obtain ⟨Af,cf,rfl⟩:=aF hown
  rw [← fD] at hown
  clear fD
  have FP:=Lib.hid (Kept.own hown)
  clear hown
  go_wp2_with (refine sR Z.out ?_)
  generalize jY:rO.setRow _ _=tN
  obtain ⟨S,X,FP⟩:=f3 S X FP (eR jY)
  replace Z:=aK Z jY
  replace hw8:=tr hw8 jY
  clear jY
  exact bodyPost_ret (v:=.agg #[.int .i64 0,.bool false,.int .i64 0,.string ⟨#[]⟩,.int .i64 0,.slice none 0 0,.slice none 0 0,.slice none 0 0,.slice Af path.length cf,.int .i64 1,.bool false]) (by simp [results,Tryz.results103,go_sem,Z.out.c11]) rfl ((by rw [HR.out];exact ⟨hw8,_,rfl,aH FP.out.now (by omega)⟩))
 | some l =>
  have HLe:Hid (∀ q ∈ l,q.length≤p.length):=Lib.hid (wB.out l ha)
  simp only [ha] at HI
  have HD:Hid (aG rec x p path=if x.max < l.length then .error (path,3) else yJ (fun is => .mk 7 false 0 [] 0 [] is []) (gB (fun i => rec x.elem (l.getD i []) (path ++ [(i:Int)])) l.length 0 [])):=by
   show _=_
   simp only [aG,iq.out,ha]
   rw [if_neg (by decide),if_neg (by decide),if_neg (by decide),if_neg (by decide),if_neg (by decide),if_neg (by decide),if_pos trivial]
   cases gB (fun i => rec x.elem (l.getD i []) (path ++ [(i:Int)])) l.length 0 [] <;> rfl
  clear ha wB
  have hS0:=Z.out.here
  go_wp2_with fail
  ((with_reducible refine (HI.out _).mono ?_);rintro e lD ⟨vl,rfl,hll,hown,hb16⟩)
  obtain ⟨S,X,Z⟩:=b3 S X Z hb16
  replace hw8:=dT hw8 hb16
  clear hb16
  clear HI
  obtain ⟨As,cs,rfl⟩:=aF hown
  have ST:=Lib.hid ((Kept.own (aH hown (show w.heap.size+3≤_ from hS0))).imp fun _ h => aH h (Nat.zero_le _))
  clear hown hS0
  obtain ⟨aI,bI,bQ,bT,bW,dD,bK,bJ,bZ,bM⟩:=X.out.c10
  by_cases h1:x.max < l.length
  ·
   have HR:Hid (aG rec x p path = .error (path,3)):=by show _=_;rw [HD.out,if_pos h1]
   clear HD
   go_upto_region 5 with fail
   obtain ⟨LF,fD⟩ : ∃ n,n=(lD).heap.size:=⟨_,rfl⟩
   have kU:=Z.out.here
   rw [← fD] at kU
   go_wp2_with fail
   clear aI bI bQ bT bW dD bK bJ bZ bM
   ((with_reducible refine (gu C path _ 3 _ (by omega) (own_below uH.out hw8)).mono ?_);rintro e rE ⟨rV,xu,rfl,hown⟩)
   obtain ⟨S,X,Z,ST⟩:=b4 S X Z ST rV
   replace hw8:=dT hw8 rV
   clear rV
   obtain ⟨Af,cf,rfl⟩:=aF hown
   rw [← fD] at hown
   clear fD
   have FP:=Lib.hid (Kept.own hown)
   clear hown
   go_wp2_with (refine sR Z.out ?_)
   generalize hE20:rE.setRow _ _=nY
   obtain ⟨S,X,ST,FP⟩:=f4 S X ST FP (eR hE20)
   replace Z:=aK Z hE20
   replace hw8:=tr hw8 hE20
   clear hE20
   exact bodyPost_ret (v:=.agg #[.int .i64 0,.bool false,.int .i64 0,.string ⟨#[]⟩,.int .i64 0,.slice none 0 0,.slice none 0 0,.slice none 0 0,.slice Af path.length cf,.int .i64 3,.bool false]) (by simp [results,Tryz.results103,go_sem,Z.out.c11]) rfl ((by rw [HR.out];exact ⟨hw8,_,rfl,aH FP.out.now (by omega)⟩))
  have HD:Hid (aG rec x p path=yJ (fun is => .mk 7 false 0 [] 0 [] is []) (gB (fun i => rec x.elem (l.getD i []) (path ++ [(i:Int)])) l.length 0 [])):=by show _=_;rw [HD.out,if_neg h1]
  go_upto_region 7 with fail
  clear h1
  clear aI bI bQ bT bW dD bK bJ bZ bM
  generalize mV:lD.alloc _=rC
  have ⟨mQ,V⟩:=bH mV
  clear mV
  have PW:=S.out.here
  have Vb:=X.out.here
  have Gq:=Z.out.here
  have Gs:=ST.out.le
  have Fb:=hw8.size
  obtain ⟨S,X,Z,ST⟩:=b4 S X Z ST mQ
  replace hw8:=dT hw8 mQ
  clear mQ
  generalize lD.heap.size=g24 at *
  obtain ⟨gV,rfl⟩ : ∃ g,g=g24:=⟨_,rfl⟩
  have hl0:Hid (EW w C 7 At ct ts.length x C1 l1 C2 l2 l As cs gV (.slice none 0 0) (.slice none 0 0) rC) :=
   Lib.hid ⟨S.out,X.out,Z.out,V.out,ST.out,by omega,hw8⟩
  clear S X Z V ST
  go_upto_region 8 with fail
  obtain ⟨n,hn0⟩ : ∃ n,l.length=n:=⟨_,rfl⟩
  have HD:Hid (aG rec x p path=yJ (fun is => .mk 7 false 0 [] 0 [] is []) (gB (fun i => rec x.elem (l.getD i []) (path ++ [(i:Int)])) n 0 [])):=by show _=_;rw [HD.out,hn0]
  have hn:=Lib.hid hn0
  clear hn0
  go_loopw [14] (fun i wr => ∃ k:Nat,k≤n∧i = .int .i64 (k:Int)∧∃ (va:Value) (acc:List Val),EW w C 7 At ct ts.length x C1 l1 C2 l2 l As cs gV (.slice none 0 0) va wr∧jK w C (gV+1) va acc wr∧acc.length=k∧gB (fun i => rec x.elem (l.getD i []) (path ++ [(i:Int)])) n 0 []=gB (fun i => rec x.elem (l.getD i []) (path ++ [(i:Int)])) (n - k) k acc) (fun i _ => l.length - (intOf i).toNat)
  case atStart => exact ⟨0,by omega,rfl,_,[],hl0.out,jK.nil _ _ _ _,rfl,rfl⟩
  case round =>
   clear hl0
   obtain ⟨k,hk1,rfl,va,acc,⟨S,X,Z,V,hST,o8,hbr⟩,hL,hacc,hseq⟩:=hrel
   replace S:=Lib.hid S
   replace X:=Lib.hid X
   replace Z:=Lib.hid Z
   replace V:=Lib.hid V
   have ST:=Lib.hid (hST)
   clear hST
   by_cases hlt:k < l.length
   ·
    skip
    have hOr:=Old.of hbr aT.out
    have hvl:Hid (∀ j,va.ownBlock=some j→gV+1≤j∧j < wr.heap.size):=Lib.hid (fun j hj => hL.lt hOr j hj)
    have hLk:=hL.kept hOr
    have hgz:=V.out.here
    obtain ⟨hz,hzE⟩ : ∃ hz,wr.heap.size=hz:=⟨_,rfl⟩
    rw [hzE] at hLk hvl hgz
    clear hzE hL hOr
    have LI:=Lib.hid (hLk)
    clear hLk
    obtain ⟨gs,cs',hvs,-,-,-,-⟩:=ru ST.out.now (by omega)
    injection hvs with hv1 hv2 hv3
    subst hv1;subst hv3;clear hv2
    have gq:=Lib.hid (fun (W:World) h => NT (W:=W) (gs:=gs) (n:=l.length) (n':=l.length) (c:=cs) h hlt)
    have hn1:n - k=(n - (k+1))+1:=by have:=hn.out;omega
    have hfk:(fun i => rec x.elem (l.getD (i) []) (path ++ [(i:Int)])) k=rec x.elem l[k] (path ++ [(k:Int)]):=by simp [List.getD,hlt]
    rw [hn1] at hseq
    have lF:=fun v h => hseq.trans (yA (v:=v) (hfk.trans h))
    have lG:=fun e h => hseq.trans (uI (e:=e) (hfk.trans h))
    clear hseq hn1 hfk
    have hlk:=HLe.out l[k] (List.getElem_mem hlt)
    have HPQ:=Lib.hid (fun (W:World) (vp:Value) h1 h2 h3 => AU.out W x.elem k l[k] vp h1 h2 h3 HM.out (by omega))
    generalize rec x.elem l[k] (path ++ [(k:Int)])=q at *
    generalize l[k]=lk at *
    have uK:=Lib.hid lF
    have uM:=Lib.hid lG
    have jX:=Lib.hid hacc
    have yK:(k:Int) < l.length:=by omega
    have hd0:decide ((k:Int) < 0)=false:=by simp
    have hd1:decide (l.length≤k)=false:=by simpa using hlt
    have hd2:decide ((k:Int) < l.length)=true:=by simpa using hlt
    have hw1:IntKind.i64.wrap (L+1)=L+1:=IntWalk.i64_in _ (by omega)
    skip
    skip
    clear lF lG hacc
    go_upto_region 10 with fail
    go_cut [15] from 35 to 64 (fun sa wx => KF w C wx q (hz - 1) sa∧Has wx w.heap.size 24 #[.slice At ts.length ct]∧Has wx (w.heap.size+1) 69 #[.int .i64 7,.string ⟨x.name.toArray⟩,.int .i64 x.low,.int .i64 x.high,.int .i64 x.max,.slice C1 x.syms.length l1,.slice C2 x.aj.length l2,.int .i64 x.key,.int .i64 x.elem,.bool x.opn]∧Has wx (w.heap.size+1+1) 91 #[.int .i64 0,.bool false,.int .i64 0,.string ⟨#[]⟩,.int .i64 0,.slice none 0 0,.slice none 0 0,.slice none 0 0,.slice none 0 0,.int .i64 0,.bool false]∧Has wx gV 30 #[.int .i64 7,.bool false,.int .i64 0,.string ⟨#[]⟩,.int .i64 0,.slice none 0 0,va,.slice none 0 0] ∧
     Kept (fun w => w.ownsRow 0 9 1 (.slice (some ⟨gs,0,none⟩) l.length cs) l.length (l.map SB)) wx (w.heap.size+3) gV∧Kept (jK w C (gV+1) va acc) wx (gV+1) hz)
    case first =>
     have ay:=S.out.e0
     have bZ:=X.out.e8
     refine wp_region_held_drew (S:=(fun w' => w'.cell? ⟨w.heap.size,0,none⟩=some (.slice At ts.length ct)∧w'.cell? ⟨w.heap.size+1,8,none⟩=some (.int .i64 x.elem)∧(w'.cell? ⟨gs,k,none⟩=some (.string ⟨lk.toArray⟩)))) (by kernel_rfl) ⟨ay,bZ,(gq.out _ ST.out.now)⟩ (fun hHeld => ?_)
     clear ay bZ
     have wQ:Below wr.heap.size wr (wr.drew):=(Below.refl _ _).drew
     obtain ⟨S,X,Z,V,ST,LI⟩:=b6 S X Z V ST LI wQ
     replace hbr:=dT hbr wQ
     clear wQ
     generalize wr.drew=wP at *
     refine tk (i:=0) (v := ?k32) ?_
     simp only [ah]
     refine tk (i:=1) (v := ?k33) ?_
     simp only [ah]
     refine tk (i:=2) (v := ?k34) ?_
     simp only [ah]
     refine tk (i:=3) (v := ?k35) ?_
     simp only [ah]
     refine tk (i:=4) (v := ?k36) ?_
     simp only [ah]
     refine tk (i:=5) (v := ?k37) ?_
     simp only [ah]
     refine tk (i:=6) (v := ?k38) ?_
     simp only [ah]
     refine tk (i:=7) (v := ?k39) ?_
     simp only [ah]
     refine tk (i:=8) (v := ?k40) ?_
     simp only [ah]
     refine tk (i:=9) (v := ?Xk) ?_
     simp only [ah]
     refine tk (i:=10) (v := ?Xl) ?_
     simp only [ah]
     refine wpAnyH_ready (rs:=[11,13]) (by kernel_rfl) (by simp) ?_
     refine AllReadyH.cons rfl (fun K hK => ?_) (AllReadyH.cons rfl (fun K hK => ?_) (AllReadyH.nil))
     ·
      skip
      go_simp
      obtain ⟨LT,kC⟩ : ∃ n,n=(wP).heap.size:=⟨_,rfl⟩
      have hzT:=(hbr).size
      rw [← kC] at hzT
      ((with_reducible refine (qA path _ (k:Int) _ (by omega) (own_below uH.out hbr)).mono ?_);rintro e uP ⟨NI,vt,rfl,hown⟩)
      obtain ⟨S,X,Z,V,ST,LI⟩:=b6 S X Z V ST LI NI
      replace hbr:=dT hbr NI
      clear NI
      rw [show (path ++ [(k:Int)]).length=path.length+1 by simp] at hown
      obtain ⟨Ao,co,rfl⟩:=aF hown
      rw [← kC] at hown
      obtain ⟨LU,nJ⟩ : ∃ n,n=(uP).heap.size:=⟨_,rfl⟩
      have TP:=Lib.hid (Kept.kM hown nJ)
      clear hown kC nJ
      try clear hHeld
      refine hK.out _ _ (⟨S.out.cell 0,⟨X.out.cell 8,(gq.out _ ST.out.now)⟩⟩) (fun hHeld => ?_)
      clear hK K
      refine wpAnyH_ready (rs:=[12,13]) (by kernel_rfl) (by simp) ?_
      refine AllReadyH.cons rfl (fun K hK => ?_) (AllReadyH.cons rfl (fun K hK => ?_) (AllReadyH.nil))
      ·
       skip
       go_simp
       have Yn:=S.out.here
       have Uz:=X.out.here
       have Px:=Z.out.here
       have LC:=V.out.here
       have LD:=ST.out.le
       have Fa:=LI.out.le
       have IZ:=TP.out.le
       have PN:=hbr.size
       ((with_reducible refine (HPQ.out _ _ (Nat.le_trans aT.out (hbr).size) (HT.out.keep (fun _ hp => (hbr).cell (Nat.lt_of_lt_of_le hp aT.out)) (Nat.le_refl _)) (aH TP.out.now (Nat.zero_le _))).mono ?_);rintro e zT NM)
       have hb48:=NM.1
       obtain ⟨aW,aX,aY,bf,bn,bC,bD,bF,dL,dM,bY,aQ,rfl,N⟩:=NM.take (w0:=w) (Old.of (hbr.trans (hb48.mono hbr.size)) aT.out)
       obtain ⟨S,X,Z,V,ST,LI,TP⟩:=b7 S X Z V ST LI TP hb48
       replace hbr:=dT hbr hb48
       clear hb48 NM
       replace N:=Lib.hid N
       have iF:(#[aW,aX,aY,bf,bn,bC,bD,bF,dL,dM,bY] : Array Value).all (·.oneCell')=true:=by simpa using aQ
       generalize uP.heap.size=L46 at *
       clear TP
       try clear hHeld
       refine hK.out _ _ (⟨S.out.cell 0,⟨X.out.cell 8,(gq.out _ ST.out.now)⟩⟩) (fun hHeld => ?_)
       clear hK K
       refine fH (i:=13) (fun K hK => ?_)
       go_simp
       generalize kH:zT.alloc _=oL
       have ⟨qI,I⟩:=bH kH
       clear kH
       have UM:=S.out.here
       have XH:=X.out.here
       have hl63:=Z.out.here
       have UC:=V.out.here
       have IW:=ST.out.le
       have Gt:=LI.out.le
       have L9:=N.out.le
       have Vd:=hbr.size
       obtain ⟨S,X,Z,V,ST,LI,N⟩:=b7 S X Z V ST LI N qI
       replace hbr:=dT hbr qI
       clear qI
       generalize zT.heap.size=g60 at *
       try clear hHeld
       refine hK.out _ _ (⟨S.out.cell 0,⟨X.out.cell 8,(gq.out _ ST.out.now)⟩⟩) (fun hHeld => ?_)
       clear hK K
       refine fH (i:=14) (fun K hK => ?_)
       refine aU (by rfl) 91 _ _ (by rfl) (g60) #[aW,aX,aY,bf,bn,bC,bD,bF,dL,dM,bY] (by rfl) (by rfl) 91 _ I.out (by kernel_rfl) rfl (by first | assumption | simp [Value.oneCell']) ?_
       generalize tX:oL.setRow _ _=DU
       obtain ⟨S,X,Z,V,ST,LI,N⟩:=f7 S X Z V ST LI N (eR tX)
       replace I:=aK I tX
       replace hbr:=tr hbr tX
       clear tX
       try clear hHeld
       refine hK.out _ _ (⟨S.out.cell 0,⟨X.out.cell 8,(gq.out _ ST.out.now)⟩⟩) (fun hHeld => ?_)
       clear hK K
       refine wpAnyH_done (by kernel_rfl) ?_ _
       try clear hHeld
       go_wp2_with fail
       go_meet
       have hBl:=N.out.le
       exact ⟨⟨⟨_,_,_,_,_,_,_,_,_,_,_,_,_,_,rfl,aQ,I.out,N.out,by omega,by omega,by omega,hbr⟩⟩,S.out,X.out,Z.out,V.out,ST.out,LI.out⟩
      skip
      go_simp
      generalize JO:uP.alloc _=Ec
      have ⟨yu,I⟩:=bH JO
      clear JO
      have Py:=S.out.here
      have XI:=X.out.here
      have Pz:=Z.out.here
      have Qq:=V.out.here
      have WG:=ST.out.le
      have PX:=LI.out.le
      have Vf:=TP.out.le
      have UQ:=hbr.size
      obtain ⟨S,X,Z,V,ST,LI,TP⟩:=b7 S X Z V ST LI TP yu
      replace hbr:=dT hbr yu
      clear yu
      generalize uP.heap.size=g74 at *
      try clear hHeld
      refine hK.out _ _ (⟨S.out.cell 0,⟨X.out.cell 8,(gq.out _ ST.out.now)⟩⟩) (fun hHeld => ?_)
      clear hK K
      refine fH (i:=12) (fun K hK => ?_)
      go_simp
      have acP:=S.out.here
      have XJ:=X.out.here
      have acD:=Z.out.here
      have XK:=V.out.here
      have XL:=I.out.here
      have UE:=ST.out.le
      have adv:=LI.out.le
      have ac5:=TP.out.le
      have ac6:=hbr.size
      ((with_reducible refine (HPQ.out _ _ (Nat.le_trans aT.out (hbr).size) (HT.out.keep (fun _ hp => (hbr).cell (Nat.lt_of_lt_of_le hp aT.out)) (Nat.le_refl _)) (aH TP.out.now (Nat.zero_le _))).mono ?_);rintro e MW ael)
      have BH:=ael.1
      obtain ⟨aW,aX,aY,bf,bn,bC,bD,bF,dL,dM,bY,aQ,rfl,N⟩:=ael.take (w0:=w) (Old.of (hbr.trans (BH.mono hbr.size)) aT.out)
      obtain ⟨S,X,Z,V,I,ST,LI,TP⟩:=b8 S X Z V I ST LI TP BH
      replace hbr:=dT hbr BH
      clear BH ael
      replace N:=Lib.hid N
      have iF:(#[aW,aX,aY,bf,bn,bC,bD,bF,dL,dM,bY] : Array Value).all (·.oneCell')=true:=by simpa using aQ
      generalize Ec.heap.size=L84 at *
      clear TP
      try clear hHeld
      refine hK.out _ _ (⟨S.out.cell 0,⟨X.out.cell 8,(gq.out _ ST.out.now)⟩⟩) (fun hHeld => ?_)
      clear hK K
      refine fH (i:=14) (fun K hK => ?_)
      refine aU (by rfl) 91 _ _ (by rfl) (g74) #[aW,aX,aY,bf,bn,bC,bD,bF,dL,dM,bY] (by rfl) (by rfl) 91 _ I.out (by kernel_rfl) rfl (by first | assumption | simp [Value.oneCell']) ?_
      generalize BA:MW.setRow _ _=Yy
      obtain ⟨S,X,Z,V,ST,LI,N⟩:=f7 S X Z V ST LI N (eR BA)
      replace I:=aK I BA
      replace hbr:=tr hbr BA
      clear BA
      try clear hHeld
      refine hK.out _ _ (⟨S.out.cell 0,⟨X.out.cell 8,(gq.out _ ST.out.now)⟩⟩) (fun hHeld => ?_)
      clear hK K
      refine wpAnyH_done (by kernel_rfl) ?_ _
      try clear hHeld
      go_wp2_with fail
      go_meet
      have hBl:=N.out.le
      exact ⟨⟨⟨_,_,_,_,_,_,_,_,_,_,_,_,_,_,rfl,aQ,I.out,N.out,by omega,by omega,by omega,hbr⟩⟩,S.out,X.out,Z.out,V.out,ST.out,LI.out⟩
     skip
     go_simp
     generalize agr:wP.alloc _=ane
     have ⟨aem,I⟩:=bH agr
     clear agr
     have YJ:=S.out.here
     have ags:=X.out.here
     have agt:=Z.out.here
     have agu:=V.out.here
     have Z8:=ST.out.le
     have O1:=LI.out.le
     have J6:=hbr.size
     obtain ⟨S,X,Z,V,ST,LI⟩:=b6 S X Z V ST LI aem
     replace hbr:=dT hbr aem
     clear aem
     generalize wP.heap.size=anf at *
     try clear hHeld
     refine hK.out _ _ (⟨S.out.cell 0,⟨X.out.cell 8,(gq.out _ ST.out.now)⟩⟩) (fun hHeld => ?_)
     clear hK K
     refine fH (i:=11) (fun K hK => ?_)
     go_simp
     obtain ⟨LT,kC⟩ : ∃ n,n=(ane).heap.size:=⟨_,rfl⟩
     have hzT:=(hbr).size
     rw [← kC] at hzT
     ((with_reducible refine (qA path _ (k:Int) _ (by omega) (own_below uH.out hbr)).mono ?_);rintro e SA ⟨Z9,vt,rfl,hown⟩)
     obtain ⟨S,X,Z,V,I,ST,LI⟩:=b7 S X Z V I ST LI Z9
     replace hbr:=dT hbr Z9
     clear Z9
     rw [show (path ++ [(k:Int)]).length=path.length+1 by simp] at hown
     obtain ⟨Ao,co,rfl⟩:=aF hown
     rw [← kC] at hown
     obtain ⟨LU,nJ⟩ : ∃ n,n=(SA).heap.size:=⟨_,rfl⟩
     have TP:=Lib.hid (Kept.kM hown nJ)
     clear hown kC nJ
     try clear hHeld
     refine hK.out _ _ (⟨S.out.cell 0,⟨X.out.cell 8,(gq.out _ ST.out.now)⟩⟩) (fun hHeld => ?_)
     clear hK K
     refine fH (i:=12) (fun K hK => ?_)
     go_simp
     have aj2:=S.out.here
     have aj3:=X.out.here
     have aj6:=Z.out.here
     have aj7:=V.out.here
     have aj8:=I.out.here
     have aac:=ST.out.le
     have aad:=LI.out.le
     have aae:=TP.out.le
     have RQ:=hbr.size
     ((with_reducible refine (HPQ.out _ _ (Nat.le_trans aT.out (hbr).size) (HT.out.keep (fun _ hp => (hbr).cell (Nat.lt_of_lt_of_le hp aT.out)) (Nat.le_refl _)) (aH TP.out.now (Nat.zero_le _))).mono ?_);rintro e EC aaf)
     have vU:=aaf.1
     obtain ⟨aW,aX,aY,bf,bn,bC,bD,bF,dL,dM,bY,aQ,rfl,N⟩:=aaf.take (w0:=w) (Old.of (hbr.trans (vU.mono hbr.size)) aT.out)
     obtain ⟨S,X,Z,V,I,ST,LI,TP⟩:=b8 S X Z V I ST LI TP vU
     replace hbr:=dT hbr vU
     clear vU aaf
     replace N:=Lib.hid N
     have iF:(#[aW,aX,aY,bf,bn,bC,bD,bF,dL,dM,bY] : Array Value).all (·.oneCell')=true:=by simpa using aQ
     generalize SA.heap.size=asf at *
     clear TP
     try clear hHeld
     refine hK.out _ _ (⟨S.out.cell 0,⟨X.out.cell 8,(gq.out _ ST.out.now)⟩⟩) (fun hHeld => ?_)
     clear hK K
     refine fH (i:=14) (fun K hK => ?_)
     refine aU (by rfl) 91 _ _ (by rfl) (anf) #[aW,aX,aY,bf,bn,bC,bD,bF,dL,dM,bY] (by rfl) (by rfl) 91 _ I.out (by kernel_rfl) rfl (by first | assumption | simp [Value.oneCell']) ?_
     generalize Ak:EC.setRow _ _=J7
     obtain ⟨S,X,Z,V,ST,LI,N⟩:=f7 S X Z V ST LI N (eR Ak)
     replace I:=aK I Ak
     replace hbr:=tr hbr Ak
     clear Ak
     try clear hHeld
     refine hK.out _ _ (⟨S.out.cell 0,⟨X.out.cell 8,(gq.out _ ST.out.now)⟩⟩) (fun hHeld => ?_)
     clear hK K
     refine wpAnyH_done (by kernel_rfl) ?_ _
     try clear hHeld
     go_wp2_with fail
     go_meet
     have hBl:=N.out.le
     exact ⟨⟨⟨_,_,_,_,_,_,_,_,_,_,_,_,_,_,rfl,aQ,I.out,N.out,by omega,by omega,by omega,hbr⟩⟩,S.out,X.out,Z.out,V.out,ST.out,LI.out⟩
    case rest =>
     clear ST LI S X Z V gq hd0 hd1 hd2 hw1 hbr
     obtain ⟨⟨gI,aW,aX,aY,bf,bn,bC,bD,bF,dL,dM,bY,LN,BN,rfl,aQ,I,hN,ug,NR,NS,hbr⟩,S,X,Z,V,hST,yB⟩:=hcut
     have iF:(#[aW,aX,aY,bf,bn,bC,bD,bF,dL,dM,bY] : Array Value).all (·.oneCell')=true:=by simpa using aQ
     replace S:=Lib.hid S
     replace X:=Lib.hid X
     replace Z:=Lib.hid Z
     replace V:=Lib.hid V
     have ST:=Lib.hid (hST)
     clear hST
     replace I:=Lib.hid I
     have LI:=Lib.hid (yB)
     have N:=Lib.hid (hN)
     skip
     clear yB hN
     have hNl:=N.out.le
     cases q with
     | error pn =>
      obtain ⟨p',n'⟩:=pn
      obtain rfl:bY = .bool false:=by
       obtain ⟨fp,hc,_⟩:=N.out.now
       have:=congrArg (fun l => l[10]?) hc;simpa using this
      have HR:Hid (aG rec x p path = .error (p',n')):=by show _=_;rw [HD.out,uM.out _ rfl];rfl
      obtain ⟨iI,iJ,iK,iL,iM,iO,iw,iP,pR,pU,lS⟩:=I.out.c11
      go_upto_region 12 with fail
      go_wp2_with (refine sR Z.out ?_)
      clear iI iJ iK iL iM iO iw iP pR pU lS
      generalize GZ:wc.setRow _ _=YA
      obtain ⟨S,X,V,I,ST,LI,N⟩:=f7 S X V I ST LI N (eR GZ)
      replace Z:=aK Z GZ
      replace hbr:=tr hbr GZ
      clear GZ
      have HF:Hid (fG C w (aG rec x p path) (.returned (.agg #[aW,aX,aY,bf,bn,bC,bD,bF,dL,dM,.bool false])) YA):=by
       show fG _ _ _ _ _
       obtain ⟨fp,hc,hfo⟩:=N.out.now
       simp only [List.cons.injEq,and_true] at hc
       obtain ⟨rfl,rfl,rfl,rfl,rfl,rfl,rfl,rfl,rfl,rfl⟩:=hc
       rw [HR.out]
       exact ⟨hbr,_,rfl,aH hfo (by omega)⟩
      exact bodyPost_ret (v:=.agg #[aW,aX,aY,bf,bn,bC,bD,bF,dL,dM,.bool false]) (by simp [results,Tryz.results103,go_sem,Z.out.c11]) rfl (HF.out)
     | ok v =>
      obtain rfl:bY = .bool true:=by
       obtain ⟨_,_,_,hc,_⟩:=N.out.now
       have:=congrArg (fun l => l[10]?) hc;simpa using this
      obtain ⟨yM,FM,FN,hc,hv⟩:=N.out.now
      have Dn:Hid ((#[aW,aX,aY,bf,bn,bC,bD,bF] : Array Value)=(iQ v yM FM FN).toArray):=by
       show _=_
       simp only [List.cons.injEq,and_true] at hc
       obtain ⟨rfl,rfl,rfl,rfl,rfl,rfl,rfl,rfl,_⟩:=hc
       rfl
      have HV:=Lib.hid hv
      clear hc hv
      have EX:=Old.of hbr aT.out
      obtain ⟨iI,iJ,iK,iL,iM,iO,iw,iP,pR,pU,lS⟩:=I.out.c11
      have dK:=V.out.e6
      have nK:=LI.out.now
      have UU:=I.out.here
      have hCw:=aT.out
      have hlv:=fun j hj => hvl.out j hj
      go_upto_region 9 with (at_builtin;refine mD rfl _ _ rfl rfl Dn.out nK EX rfl rfl HV.out (fun j hj => by have:=hvl.out j hj;omega) hNl (by omega) (by omega) (by have:=jX.out;have:=hn.out;omega) (by omega) ?_;intro v' w3 hL3 hb3 hg3;obtain ⟨An,cn,hvv⟩:=hL3.form (Old.of ((hbr).trans (hb3.mono (by omega))) aT.out);obtain rfl:v' = .slice An (acc.length+1) cn:=(by rw [hvv,List.length_append];rfl);clear hvv;have V3:=dG V hg3 (fun hh => by have:=(hvl.out _ hh).1;omega);have v36:w3.cell? ⟨gV,6,none⟩=some va:=V3.out.cell 6;have f36:=V3.out.free 6)
      clear nK v36 f36 V3
      clear N
      clear LI
      clear iI iJ iK iL iM iO iw iP pR pU lS dK
      replace S:=dG S hg3 (fun hh => by have:=hvl.out _ hh;omega)
      replace X:=dG X hg3 (fun hh => by have:=hvl.out _ hh;omega)
      replace Z:=dG Z hg3 (fun hh => by have:=hvl.out _ hh;omega)
      replace V:=dG V hg3 (fun hh => by have:=hvl.out _ hh;omega)
      replace I:=dG I hg3 (fun hh => by have:=hvl.out _ hh;omega)
      replace ST:=Lib.hid (ST.out.EL hb3 (show gV≤(gV+1) by omega))
      replace hbr:=hbr.trans (hb3.mono (show w.heap.size≤(gV+1) by omega))
      clear hlv
      have EY:=Old.of hbr aT.out
      have LJ:=Lib.hid (hL3.kept EY)
      clear hL3 EY EX
      generalize TY:w3.setCell _ _=apL
      obtain ⟨S,X,Z,I,ST,LJ⟩:=f6 S X Z I ST LJ (eF TY)
      replace V:=uf V TY
      replace hbr:=tf hbr TY
      clear TY
      go_wp2_with fail
      go_roundw
      case rel => exact ⟨k+1,by have:=hn.out;omega,by go_num,_,acc ++ [v],⟨S.out,X.out,Z.out,V.out,ST.out,o8,hbr⟩,LJ.out.now,by rw [List.length_append,jX.out];rfl,uK.out v rfl⟩
      case measure => simp [intOf];omega
   obtain rfl:n=k:=by have:=hn.out;omega
   have hOr:=Old.of hbr aT.out
   have HR:Hid (aG rec x p path = .ok (.mk 7 false 0 [] 0 [] acc [])):=by show _=_;rw [HD.out,hseq,Nat.sub_self];rfl
   obtain ⟨Av,cv,rfl⟩:=hL.form hOr
   have LI:=Lib.hid (hL.kept hOr)
   have hal:acc.length≤1000000:=by have:=hn.out;omega
   clear hseq hL hOr hacc
   obtain ⟨eH,dP,eP,eU,dY,dW,dK,eG⟩:=V.out.c8
   go_upto_region 14 with fail
   go_wp2_with fail
   clear eH dP eP eU dY dW dK eG
   ((with_reducible refine (oU 7 false 0 [] 0 [] acc [] _ _ _ (oI C w wr) _ (Dh (qy _ _) (LI.out.now.row (Old.of hbr aT.out) (by omega)) (by unfold I64;omega) (by unfold I64;omega) (by simp) hal)).mono ?_);rintro e SG ⟨rfl,aag⟩)
   obtain ⟨S,X,Z,V,ST,LI⟩:=b6 S X Z V ST LI aag
   replace hbr:=dT hbr aag
   clear aag
   go_wp2_with (refine sR Z.out ?_)
   generalize Ua:SG.setRow _ _=apM
   obtain ⟨S,X,V,ST,LI⟩:=f5 S X V ST LI (eR Ua)
   replace Z:=aK Z Ua
   replace hbr:=tr hbr Ua
   clear Ua
   exact bodyPost_ret (v:=.agg #[.int .i64 7,.bool false,.int .i64 0,.string ⟨#[]⟩,.int .i64 0,.slice none 0 0,.slice Av acc.length cv,.slice none 0 0,.slice none 0 0,.int .i64 0,.bool true]) (by simp [results,Tryz.results103,go_sem,Z.out.c11]) rfl ((by rw [HR.out];exact ⟨hbr,_,_,_,rfl,Dh (qy _ _) (LI.out.now.row (Old.of hbr aT.out) (by omega)) (by unfold I64;omega) (by unfold I64;omega) (by simp) hal⟩))
end Go.Proofs.YthkfapcadhnaeaaGreatDoor

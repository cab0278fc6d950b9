/- record. No condition. -/
import Derived.Test.YthkfapcadhnaeaaGreatDoorDecM
import Derived.Test.YthkfapcadhnaeaaGreatDoorDecO
import Derived.Test.YthkfapcadhnaeaaGreatDoorDecQ
set_option maxHeartbeats 3200000
namespace Go.Proofs.YthkfapcadhnaeaaGreatDoor
open Go.ChangeShapes Go.WideShapes Go.ChangeAt Go.RowKit
theorem Yd:∀ (f:Nat) (l:List UInt8) (last:Nat) (acc I:List nN) (N:Nat),(∀ q ∈ acc,q.id≤1000∧q.data.length≤N)→l.length≤N→sZ f l last acc=some I→∀ q ∈ I,q.id≤1000∧q.data.length≤N:=by
 intro f
 induction f with
 | zero =>
  intro l last acc I N h1 h2 h
  unfold sZ at h
  split at h
  · injection h with h;subst h;exact h1
  cases h
 | succ f ih =>
  intro l last acc I N h1 h2 h
  unfold sZ at h
  split at h
  · injection h with h;subst h;exact h1
  split at h
  · cases h
  rename_i hh r hn
  have h3:=(Es hn).2
  split at h
  · cases h
  rename_i hb
  split at h
  · cases h
  rename_i p r' hp
  have h4:=vP hp
  exact ih r' _ _ I N (fun q hq => by
   rcases List.mem_append.1 hq with hq | hq
   · exact h1 q hq
   simp at hq;subst hq;exact ⟨by simp only;omega,by simp only;omega⟩) (by omega) h
theorem QC {p:List UInt8} {I:List nN} (h:vS p=some I):∀ q ∈ I,q.id≤1000∧q.data.length≤p.length:=Yd _ _ _ _ _ _ (by simp) (Nat.le_refl _) h
def DF (n:Nat) (fM:Nat→fO) (rest:Except (List Int × Int) (List Raw)):fO:=match gB fM n 0 [] with
 | .error e => .error e
 | .ok is => match rest with
  | .error e => .error e
  | .ok rs => .ok (.mk 5 false 0 [] 0 [] is rs)
theorem Gn {n:Nat} {fM:Nat→fO} {rest:Except (List Int × Int) (List Raw)} {e:List Int × Int} (h:gB fM n 0 [] = .error e):DF n fM rest = .error e:=by unfold DF;rw [h]
theorem QD {n:Nat} {fM:Nat→fO} {rest:Except (List Int × Int) (List Raw)} {is:List Val} {e:List Int × Int} (h:gB fM n 0 [] = .ok is) (h2:rest = .error e):DF n fM rest = .error e:=by unfold DF;rw [h,h2]
theorem Xj {n:Nat} {fM:Nat→fO} {rest:Except (List Int × Int) (List Raw)} {is:List Val} {rs:List Raw} (h:gB fM n 0 [] = .ok is) (h2:rest = .ok rs):DF n fM rest = .ok (.mk 5 false 0 [] 0 [] is rs):=by unfold DF;rw [h,h2]
def yS (rec:Int→List UInt8→List Int→fO) (fs:List nN) (path:List Int) (m:Mem):fO:=match yQ fs m.id with
 | some f => rec m.ty f.data (path ++ [m.id])
 | none => if m.iR then .ok m.dflt else .error (path ++ [m.id],7)
theorem JX {rec:Int→List UInt8→List Int→fO} {x:aC} {fs:List nN} {path:List Int} {k:Nat} (h:k < x.aj.length):wH rec x fs path k=yS rec fs path x.aj[k]:=by
 unfold wH yS;rw [List.getElem?_eq_getElem h];rfl
theorem JY.ahj {w w':World} {B b o:Nat} {m:Mem} {vk vi vr:Value} (h:JY w b o m vk vi vr) (hb:Below B w w') (hlt:b < B):JY w' b o m vk vi vr:=by
 obtain ⟨h0,h1,h2,h3,h4,h5,h6,h7,h8,h9,h10,h11,h12⟩:=h
 exact ⟨(hb.cell hlt).trans h0,(hb.cell hlt).trans h1,(hb.cell hlt).trans h2,(hb.cell hlt).trans h3,(hb.cell hlt).trans h4,(hb.cell hlt).trans h5,(hb.cell hlt).trans h6,(hb.cell hlt).trans h7,(hb.cell hlt).trans h8,(hb.cell hlt).trans h9,(hb.cell hlt).trans h10,(hb.cell hlt).trans h11,(hb.cell hlt).trans h12⟩
theorem Gp {W:World} {base:Nat} {e:TypeId} {n size:Nat} {v:Value} {xs:List Value} (h:W.ownsRow base e size v n xs) (hn:0 < n):∃ g c,v = .slice (some ⟨g,0,none⟩) n c:=by
 rcases h.2 with ⟨_,h2⟩ | ⟨g,cap,cur,h2,_⟩
 · omega
 exact ⟨g,cap,h2⟩
theorem Oa {W:World} {g n n' c j:Nat} {fs:List nN} (h:W.ownsRow 0 190 3 (.slice (some ⟨g,0,none⟩) n c) n' (lX fs)) (hj:j < fs.length) :
  W.cell? ⟨g,j*3,none⟩=some (.int .i64 fs[j].id)∧W.cell? ⟨g,j*3+1,none⟩=some (.bool fs[j].jR)∧W.cell? ⟨g,j*3+2,none⟩=some (.string ⟨fs[j].data.toArray⟩):=by
 have hc:∀ (q:Nat) (u:Value),(lX fs)[q]?=some u→W.cell? ⟨g,0+q,none⟩=some u:=fun q u hu => by
  have:=h.cells (g:=g) rfl q u hu
  rwa [addr_add] at this
 have:=PU hc j hj
 simpa only [Nat.zero_add] using this
theorem ac4 {w W:World} {is:List Val} {rs:List Raw} {vi vr:Value} {L:Nat} (h1:jv W (lV w W) vi is) (h2:W.ownsRow L 123 2 vr rs.length (iV rs)) (hL:w.heap.size≤L) (hr:∀ r ∈ rs,pV r) (hl1:is.length≤1000000) (hl2:rs.length≤1000000) :
  jq W (lV w W) (.mk 5 false 0 [] 0 [] is rs) (.slice none 0 0) vi vr :=
 ⟨⟨by show I64 5;unfold I64;omega,by show I64 0;unfold I64;omega,by show I64 0;unfold I64;omega⟩,by simp [Val.str],⟨by simp [Val.keys],by simp only [Val.items];omega,by simp only [Val.rest];omega⟩,hr,qy _ _,h1,U4 h2 (by decide) hL⟩
theorem Va {x:aC} {path:List Int} {fs:List nN} {acc:List Raw} {k:Nat} (h:k < fs.length):jG x path (fs.drop k) acc=if (lH x fs[k].id).isSome then jG x path (fs.drop (k+1)) acc else if fs[k].jR then .error (path ++ [(fs[k].id:Int)],6) else jG x path (fs.drop (k+1)) (acc ++ [((fs[k].id:Int),fs[k].data)]):=by
 rw [List.drop_eq_getElem_cons h,jG]
theorem su.atN {y:Val} {vk vi vr:Value} {W1 W:World} {L B:Nat} (h:jq W (lV W1 W) y vk vi vr) (hL:L=W1.heap.size) (hB:B=W.heap.size):jd (su L B y vk vi vr) W L B:=by
 subst hL;subst hB
 have hN:su W1.heap.size W.heap.size y vk vi vr W:=⟨lV W1 W,h,fun k h => h⟩
 exact hN.kept (Nat.le_refl _)
theorem KG {ops:Array Oper} {op:Oper} {a:Act} {w:World} {K:Act→World→Prop} {Q:Exit→Act→World→Prop} {E:Prop} (hgd:op.guard=none) (s x:Operand)
  (ho:op.op = .call { callee:=.builtin .append,args:=#[s,x],argTypes:=#[27,27] }) {L Lp Bp G:Nat} {v:Value} {xs:List Val} {y:Val} {vk vi vr:Value} {T:TypeId} {cs:Array Value} (hT:T=30) (hcs:cs=(iQ y vk vi vr).toArray)
  (ht:jM L v xs w) (hs:a.eval s=v) (hG:Has w G T cs) (hx:a.eval x = .slice (some ⟨G,0,none⟩) 1 1) (hy:su Lp Bp y vk vi vr w) (hyo:∀ k,v.ownBlock=some k→k < Lp) (hBp:Bp≤w.heap.size) (hLp:L≤Lp)
  (hn:xs.length < 900000) (hB:L≤w.heap.size)
  (h:∀ v' w1,jM L v' (xs ++ [y]) w1→Below L w w1→(∀ k,k < w.heap.size→v.ownBlock≠some k→w1.heap[k]?=w.heap[k]?)→K (a.put op.dst v') w1):if Region.wanted op (yielded ops a.tmps)=true then Oper.wp Tryz.prog op a w K Q else E:=by
 subst hT;subst hcs
 obtain ⟨S,hO,hS⟩:=ht
 obtain ⟨Sy,hY,zy⟩:=hy
 refine xY (ops:=ops) hgd s x ho hO hs hG hx hY.rd (fun k hk => ⟨by have:=(zy k hk).2.1;omega,fun e => by have:=hyo k e;have:=(zy k hk).1;omega⟩) hn hB ?_
 intro v' w1 h1 _ h3 h4
 refine h v' w1 ⟨_,h1,fun k hk => ?_⟩ h3 (fun k hk hne => h4 k hk hne)
 have hkw:k < w.heap.size∧v.ownBlock≠some k∧L≤k∧iy w k:=hk.elim (fun hs => ⟨(hO.sep k hs).1,(hO.sep k hs).2,(hS k hs).1,(hS k hs).2⟩) (fun hs => ⟨by have:=(zy k hs).2.1;omega,fun e => by have:=hyo k e;have:=(zy k hs).1;omega,by have:=(zy k hs).1;omega,(zy k hs).2.2⟩)
 exact ⟨hkw.2.2.1,iy.to (h4 k hkw.1 hkw.2.1) hkw.2.2.2⟩
structure RZ (w:World) (gr:Nat) (tv:Value) (path:List Int) (x:aC) (C1:Option Addr) (l1:Nat) (C2:Option Addr) (l2:Nat) (fs:List nN) (Af:Option Addr) (cf gV:Nat) (vi vr:Value) (fp:Value) (fn:Int) (wr:World):Prop where
 X:Has wr w.heap.size 69 #[.int .i64 5,.string ⟨x.name.toArray⟩,.int .i64 x.low,.int .i64 x.high,.int .i64 x.max,.slice C1 x.syms.length l1,.slice C2 x.aj.length l2,.int .i64 x.key,.int .i64 x.elem,.bool x.opn]
 Z:Has wr (w.heap.size+1) 30 #[.int .i64 0,.bool false,.int .i64 0,.string ⟨#[]⟩,.int .i64 0,.slice none 0 0,.slice none 0 0,.slice none 0 0]
 V:Has wr gV 30 #[.int .i64 5,.bool false,.int .i64 0,.string ⟨#[]⟩,.int .i64 0,.slice none 0 0,vi,vr]
 R:jF wr gr tv fp fn path none
 KP:aP w gr wr
 FS:jd (fun w => w.ownsRow 0 190 3 (.slice Af fs.length cf) fs.length (lX fs)) wr (w.heap.size+2) gV
 lo:w.heap.size+1 < gV
/- the part of a member, and what is left of it -/
/- the path with one step more; fail; the path as it was; the end -/
set_option maxRecDepth 100000 in
theorem Ye
 (ts:List aC) (tv:Value) (gr:Nat) (fp:Value) (fn:Int) (path:List Int) (p:List UInt8) (rec:Int→List UInt8→List Int→fO) (x:aC) (vs vm:Value) (w:World) (hk:x.kind=5) (hp:path.length < 200) (hpl:p.length≤800000)
 (R:jf w gr tv fp fn path) (ht:bG w gr tv ts) (hx:eX w gr x vs vm) (HP:FK ts gr tv rec path) (hm:x.aj.length≤1000∧∀ m ∈ x.aj,(fB ts m.ty).isSome=true) :
 Calls Tryz.prog 98 #[.pointer (some ⟨gr,0,none⟩),aS x vs vm,.string ⟨p.toArray⟩] w (cO gr tv path w (aG rec x p path)):=by
 have HI:=Lib.hid (fun W => Yf p (by omega) W)
 have wB:=Lib.hid (fun I h => QC (p:=p) (I:=I) h)
 have hml:=hm.1
 obtain ⟨C1,l1,C2,l2,rfl,rfl,-,-⟩:=hx.forms
 have HX:=Lib.hid hx
 have HT:=Lib.hid ht
 have AU:=Lib.hid HP
 have HM:=Lib.hid hm
 have iq:=Lib.hid hk
 have hxs:=hx.lens
 clear hx ht HP hm
 have hgr:=R.here
 replace R:=Lib.hid (jF.of R)
 have KP:=aP.refl w gr
 go_enter Tryz.func98,Tryz.ntmps98
 go_upto_region 1 with fail
 generalize dJ:w.alloc _=wd2
 generalize jD:wd2.alloc _=wd4
 have ⟨hb1,X,Z⟩:=dN dJ jD
 clear dJ jD
 replace R:=rB R hb1
 replace KP:=kB KP hgr hb1
 clear hb1
 cases ha:vS p with
 | none =>
  have HR:Hid (aG rec x p path = .error (path,1)):=by show _=_;simp [aG,iq.out,ha]
  simp only [ha] at HI
  clear ha
  go_wp2_with fail
  ((with_reducible refine (HI.out _).mono ?_);rintro e wV ⟨rfl,hb7⟩)
  obtain ⟨X,Z⟩:=b2 X Z hb7
  replace R:=rB R hb7
  replace KP:=kB KP hgr hb7
  clear hb7
  go_upto_region 3 with fail
  have hz:=Z.out.here
  go_wp2_with fail
  ((with_reducible refine (iG gr _ _ _ path 1 _ (by omega) R.out.at_).mono ?_);rintro e uJ hp)
  obtain ⟨c0,c1,c2,c3,c4,c5,c6,c7,bb,h1',rfl⟩:=hp.form
  have Z2:=ji Z hp.keep (by omega) (by decide)
  go_wp2_with (refine wpList_store_row rfl 30 _ _ rfl (w.heap.size+1) _ rfl rfl 30 _ Z2.out (by kernel_rfl) rfl (by simpa using h1') ?_)
  obtain ⟨z0,z1,z2,z3,z4,z5,z6,z7⟩:=(iU Z2.out #[c0,c1,c2,c3,c4,c5,c6,c7]).c8
  exact bodyPost_ret (v:=.tuple #[.agg #[c0,c1,c2,c3,c4,c5,c6,c7],.bool bb]) (by simp [results,Tryz.results98,go_sem,z0,z1,z2,z3,z4,z5,z6,z7]) rfl (by rw [HR.out];exact hp.tail KP hgr (by omega) hz Z2.out (by decide))
 | some fs =>
  have HL:Hid (∀ q ∈ fs,q.id≤1000∧q.data.length≤p.length):=Lib.hid (wB.out fs ha)
  simp only [ha] at HI
  have HD:Hid (aG rec x p path=DF x.aj.length (wH rec x fs path) (jG x path fs [])):=by
   show _=_
   simp only [aG,iq.out,ha]
   rw [if_neg (by decide),if_neg (by decide),if_neg (by decide),if_neg (by decide),if_pos trivial]
   unfold DF
   cases gB (wH rec x fs path) x.aj.length 0 [] with
   | error e => rfl
   | ok is =>
    simp only []
    cases jG x path fs [] <;> rfl
  clear ha wB
  have hS0:=Z.out.here
  go_wp2_with fail
  ((with_reducible refine (HI.out _).mono ?_);rintro e kE ⟨vl,rfl,hll,hown,qc⟩)
  obtain ⟨X,Z⟩:=b2 X Z qc
  replace R:=rB R qc
  replace KP:=kB KP hgr qc
  clear qc
  clear HI
  obtain ⟨Af,cf,rfl⟩:=aF hown
  have FS:=Lib.hid ((jd.own (aH hown (show w.heap.size+2≤_ from hS0)) (by decide)).imp fun _ h => aH h (Nat.zero_le _))
  clear hown hS0
  obtain ⟨aI,bI,bQ,bT,bW,dD,bK,bJ,bZ,bM⟩:=X.out.c10
  go_upto_region 5 with fail
  clear aI bI bQ bT bW dD bK bJ bZ bM
  generalize jY:kE.alloc _=tN
  have ⟨jl,V⟩:=bH jY
  clear jY
  have Yg:=X.out.here
  have PV:=Z.out.here
  have PG:=FS.out.le
  have UG:=KP.size
  obtain ⟨X,Z,FS⟩:=b3 X Z FS jl
  replace R:=rB R jl
  replace KP:=kB KP hgr jl
  clear jl
  generalize kE.heap.size=g15 at *
  obtain ⟨gV,rfl⟩ : ∃ g,g=g15:=⟨_,rfl⟩
  have hl0:Hid (RZ w gr tv path x C1 l1 C2 l2 fs Af cf gV (.slice none 0 0) (.slice none 0 0) fp fn tN) :=
   Lib.hid ⟨X.out,Z.out,V.out,R.out,KP,FS.out,by omega⟩
  have bK:=X.out.e6
  go_upto_region 6 with fail
  clear X Z V R KP FS bK
  go_loopw [41] (fun i wr => ∃ k:Nat,k≤x.aj.length∧i = .int .i64 (k:Int)∧∃ (fp:Value) (fn:Int) (va:Value) (acc:List Val),RZ w gr tv path x C1 l1 C2 l2 fs Af cf gV va (.slice none 0 0) fp fn wr∧jM (gV+1) va acc wr∧acc.length=k∧gB (wH rec x fs path) x.aj.length 0 []=gB (wH rec x fs path) (x.aj.length - k) k acc) (fun i _ => x.aj.length - (intOf i).toNat)
  case atStart => exact ⟨0,by omega,rfl,_,_,_,[],hl0.out,jM.nil _ _,rfl,rfl⟩
  case round =>
   clear hl0
   obtain ⟨k,hk1,rfl,KJ,KL,va,acc,⟨X,Z,V,R,KP,AV,o8⟩,hL,hacc,hseq⟩:=hrel
   replace R:=Lib.hid R
   replace X:=Lib.hid X
   replace Z:=Lib.hid Z
   replace V:=Lib.hid V
   have FS:=Lib.hid (AV)
   clear AV
   by_cases hlt:k < x.aj.length
   ·
    have hvl:Hid (∀ j,va.ownBlock=some j→gV+1≤j∧j < wr.heap.size):=Lib.hid (fun j hj => ⟨(hL.lt j hj).1,(hL.lt j hj).2.1⟩)
    have hLk:=hL.kept
    have hgz:=V.out.here
    obtain ⟨hz,hzE⟩ : ∃ hz,wr.heap.size=hz:=⟨_,rfl⟩
    rw [hzE] at hLk hvl hgz
    clear hzE hL
    have LI:=Lib.hid (hLk)
    clear hLk
    obtain ⟨b2,o2,rfl,LW,hel⟩:=HX.out.aj.elem (by omega)
    obtain ⟨dk,di,dr,hcells,hma⟩:=hel k hlt
    have hcr:=hcells.ahj KP.low LW
    have HMk:=Lib.hid (HM.out.2 x.aj[k] (List.getElem_mem hlt))
    have hn1:x.aj.length - k=(x.aj.length - (k+1))+1:=by omega
    rw [hn1] at hseq
    have lF:=fun v h => hseq.trans (yA (v:=v) ((JX hlt).trans h))
    have lG:=fun e h => hseq.trans (uI (e:=e) ((JX hlt).trans h))
    have yK:(k:Int) < x.aj.length:=by omega
    have hd0:decide ((k:Int) < 0)=false:=by simp
    have hd1:decide (x.aj.length≤k)=false:=by simpa using hlt
    generalize x.aj[k]=m at *
    obtain ⟨D1,f1,D2,f2,D3,f3,rfl,rfl,rfl,-,-,-⟩:=hma.dflt.forms
    obtain ⟨c0,c1,c2,c3,c4,c5,c6,c7,c8,c9,c10,c11,c12⟩:=hcr
    have HMA:=Lib.hid hma
    have uK:=Lib.hid lF
    have uM:=Lib.hid lG
    have jX:=Lib.hid hacc
    clear hcells hel hma hseq lF lG hacc hn1
    go_upto_region 8 with fail
    clear c0 c1 c2 c3 c4 c5 c6 c7 c8 c9 c10 c11 c12 hd0 hd1
    generalize qF:wr.alloc _=qj
    have ⟨jw,M⟩:=bH qF
    clear qF
    have Gf:=X.out.here
    have PW:=Z.out.here
    have Vb:=V.out.here
    have Gq:=FS.out.le
    have Gs:=LI.out.le
    have Fb:=KP.size
    obtain ⟨X,Z,V,FS,LI⟩:=b5 X Z V FS LI jw
    replace R:=rB R jw
    replace KP:=kB KP hgr jw
    clear jw
    generalize wr.heap.size=g23 at *
    obtain ⟨gM,rfl⟩ : ∃ g,g=g23:=⟨_,rfl⟩
    have HF:=Lib.hid (fun W h1 h2 h3 => Yc fs (.slice Af fs.length cf) gM m.id W (by omega) h1 h2 h3)
    cases hfi:fidx fs m.id with
    | some j =>
     obtain ⟨hjl,hfa⟩:=Qy hfi
     obtain ⟨gf,cf',hvf⟩:=Gp FS.out.now (by omega)
     injection hvf with hv1 hv2 hv3
     subst hv1;subst hv3;clear hv2
     simp only [hfi,Bv] at HF
     clear hfi
     go_wp2_with fail
     have hm0:qj.cell? ⟨gM,0,none⟩=some (.int .i64 m.id):=M.out.cell 0
     ((with_reducible refine (HF.out _ (Rd.pq FS.out.now) hm0 M.out.here).mono ?_);rintro e nX ⟨rfl,DI⟩)
     obtain ⟨X,Z,V,M,FS,LI⟩:=b6 X Z V M FS LI DI
     replace R:=rB R DI
     replace KP:=kB KP hgr DI
     clear DI
     clear HF hm0
     have hmm:yS rec fs path m=rec m.ty fs[j].data (path ++ [m.id]):=by unfold yS;rw [hfa]
     rw [hmm] at uK uM
     have hfl:=(HL.out fs[j] (List.getElem_mem hjl)).2
     have HPQ:=Lib.hid (fun (W:World) (fp':Value) (fn':Int) h1 h2 => AU.out W fp' fn' m.id m.ty fs[j].data h1 h2 HMk.out (by omega))
     have oC:=Lib.hid (fun (W:World) h => (Oa (W:=W) (g:=gf) (n:=fs.length) (n':=fs.length) (c:=cf) h hjl).2.2)
     generalize rec m.ty fs[j].data (path ++ [m.id])=q at *
     generalize fs[j].data=dt at *
     have alH:(j:Int) < fs.length:=by omega
     have hd0:decide ((j:Int) < 0)=false:=by simp
     have hd1:decide (fs.length≤j)=false:=by simpa using hjl
     clear hmm hfa
     go_upto_region 14 with fail
     go_cut [14,15,41] from 41 to 116 (fun sa sb sc wx => sc = .int .i64 (k:Int)∧NQ wx gr tv path q (hz - 1) sa sb∧aP w gr wx∧Has wx w.heap.size 69 #[.int .i64 5,.string ⟨x.name.toArray⟩,.int .i64 x.low,.int .i64 x.high,.int .i64 x.max,.slice C1 x.syms.length l1,.slice (some ⟨b2,o2,none⟩) x.aj.length l2,.int .i64 x.key,.int .i64 x.elem,.bool x.opn]∧Has wx (w.heap.size+1) 30 #[.int .i64 0,.bool false,.int .i64 0,.string ⟨#[]⟩,.int .i64 0,.slice none 0 0,.slice none 0 0,.slice none 0 0]∧Has wx gV 30 #[.int .i64 5,.bool false,.int .i64 0,.string ⟨#[]⟩,.int .i64 0,.slice none 0 0,va,.slice none 0 0] ∧
      jd (fun w => w.ownsRow 0 190 3 (.slice (some ⟨gf,0,none⟩) fs.length cf) fs.length (lX fs)) wx (w.heap.size+2) gV∧jd (jM (gV+1) va acc) wx (gV+1) hz)
     case first =>
      have lW:=M.out.e0
      have LZ:=M.out.e2
      refine wp_region_held_drew (S:=(fun w' => w'.cell? ⟨gM,0,none⟩=some (.int .i64 m.id)∧w'.cell? ⟨gM,2,none⟩=some (.int .i64 m.ty)∧(w'.cell? ⟨gf,j*3+2,none⟩=some (.string ⟨dt.toArray⟩)))) (by kernel_rfl) ⟨lW,LZ,(oC.out _ FS.out.now)⟩ (fun hHeld => ?_)
      clear lW LZ
      have rJ:Below nX.heap.size nX (nX.drew):=(Below.refl _ _).drew
      obtain ⟨X,Z,V,M,FS,LI⟩:=b6 X Z V M FS LI rJ
      replace R:=rB R rJ
      replace KP:=kB KP hgr rJ
      clear rJ
      generalize nX.drew=mW at *
      refine tk (i:=0) (v := ?k34) ?_
      simp only [ah]
      refine tk (i:=1) (v := ?k35) ?_
      simp only [ah]
      refine tk (i:=2) (v := ?k36) ?_
      simp only [ah]
      refine tk (i:=3) (v := ?k37) ?_
      simp only [ah]
      refine tk (i:=4) (v := ?k38) ?_
      simp only [ah]
      refine tk (i:=5) (v := ?k39) ?_
      simp only [ah]
      refine tk (i:=6) (v := ?k40) ?_
      simp only [ah]
      refine tk (i:=7) (v := ?Xk) ?_
      simp only [ah]
      refine tk (i:=8) (v := ?Xl) ?_
      simp only [ah]
      refine tk (i:=9) (v := ?k43) ?_
      simp only [ah]
      refine wpAnyH_ready (rs:=[10,14]) (by kernel_rfl) (by simp) ?_
      refine AllReadyH.cons rfl (fun K hK => ?_) (AllReadyH.cons rfl (fun K hK => ?_) (AllReadyH.nil))
      ·
       skip
       go_simp
       have Px:=X.out.here
       have LC:=Z.out.here
       have LD:=V.out.here
       have Fa:=M.out.here
       have IZ:=FS.out.le
       have PN:=LI.out.le
       have UL:=KP.size
       ((with_reducible refine (HPQ.out _ _ _ R.out.at_ (HT.out.keep (fun _ hp => KP.low.cell hp) (Nat.le_refl _))).mono ?_);rintro e wI alI)
       obtain ⟨aqR,aqS,aW,aX,aY,bf,bn,bC,bD,bF,Dl,aQ,rfl,alJ,Ja,N⟩:=alI.take
       replace X:=ji X Ja (by omega) (by decide)
       replace Z:=ji Z Ja (by omega) (by decide)
       replace V:=ji V Ja (by omega) (by decide)
       replace M:=ji M Ja (by omega) (by decide)
       replace FS:=nT FS Ja (by omega)
       replace LI:=nT LI Ja (by omega)
       replace R:=Lib.hid alJ
       replace KP:=KP.trans Ja
       replace N:=Lib.hid N
       clear Ja
       have iF:(#[aW,aX,aY,bf,bn,bC,bD,bF] : Array Value).all (·.oneCell')=true:=by simpa using aQ
       generalize mW.heap.size=L45 at *
       try clear hHeld
       refine hK.out _ _ (⟨M.out.cell 0,⟨M.out.cell 2,(oC.out _ FS.out.now)⟩⟩) (fun hHeld => ?_)
       clear hK K
       refine tk (i:=11) (v := ?k58) ?_
       simp only [ah]
       refine tk (i:=12) (v := ?k59) ?_
       simp only [ah]
       refine tk (i:=13) (v := ?k60) ?_
       simp only [ah]
       refine fH (i:=14) (fun K hK => ?_)
       go_simp
       generalize nV:wI.alloc _=wG
       have ⟨pF,I⟩:=bH nV
       clear nV
       have IW:=X.out.here
       have Gt:=Z.out.here
       have L9:=V.out.here
       have Vd:=M.out.here
       have XW:=FS.out.le
       have UN:=LI.out.le
       have UO:=N.out.le
       have PO:=KP.size
       obtain ⟨X,Z,V,M,FS,LI,N⟩:=b7 X Z V M FS LI N pF
       replace R:=rB R pF
       replace KP:=kB KP hgr pF
       clear pF
       generalize wI.heap.size=g64 at *
       try clear hHeld
       refine hK.out _ _ (⟨M.out.cell 0,⟨M.out.cell 2,(oC.out _ FS.out.now)⟩⟩) (fun hHeld => ?_)
       clear hK K
       refine fH (i:=15) (fun K hK => ?_)
       refine aU (by rfl) 30 _ _ (by rfl) (g64) #[aW,aX,aY,bf,bn,bC,bD,bF] (by rfl) (by rfl) 30 _ I.out (by kernel_rfl) rfl (by first | assumption | simp [Value.oneCell']) ?_
       generalize zN:wG.setRow _ _=Jb
       obtain ⟨X,Z,V,M,FS,LI,N⟩:=f7 X Z V M FS LI N (eR zN)
       replace R:=rR R I zN.symm (by decide) (by omega)
       replace KP:=oZ KP hgr zN.symm (by omega)
       replace I:=aK I zN
       clear zN
       try clear hHeld
       refine hK.out _ _ (⟨M.out.cell 0,⟨M.out.cell 2,(oC.out _ FS.out.now)⟩⟩) (fun hHeld => ?_)
       clear hK K
       refine tk (i:=16) (v := ?k75) ?_
       simp only [ah]
       refine wpAnyH_done (by kernel_rfl) ?_ _
       try clear hHeld
       go_wp2_with fail
       go_meet
       have hBl:=N.out.le
       exact ⟨rfl,⟨_,_,_,_,_,_,_,_,_,_,_,_,_,_,rfl,rfl,aQ,I.out,R.out,N.out,by omega,by omega,by omega⟩,KP,X.out,Z.out,V.out,FS.out,LI.out⟩
      skip
      go_simp
      generalize Ve:mW.alloc _=Jc
      have ⟨qG,I⟩:=bH Ve
      clear Ve
      have PX:=X.out.here
      have Vf:=Z.out.here
      have UQ:=V.out.here
      have ag4:=M.out.here
      have acM:=FS.out.le
      have acN:=LI.out.le
      have acO:=KP.size
      obtain ⟨X,Z,V,M,FS,LI⟩:=b6 X Z V M FS LI qG
      replace R:=rB R qG
      replace KP:=kB KP hgr qG
      clear qG
      generalize mW.heap.size=g79 at *
      try clear hHeld
      refine hK.out _ _ (⟨M.out.cell 0,⟨M.out.cell 2,(oC.out _ FS.out.now)⟩⟩) (fun hHeld => ?_)
      clear hK K
      refine fH (i:=10) (fun K hK => ?_)
      go_simp
      have ac5:=X.out.here
      have ac6:=Z.out.here
      have ac7:=V.out.here
      have ac8:=M.out.here
      have ac9:=I.out.here
      have ada:=FS.out.le
      have ae7:=LI.out.le
      have Yh:=KP.size
      ((with_reducible refine (HPQ.out _ _ _ R.out.at_ (HT.out.keep (fun _ hp => KP.low.cell hp) (Nat.le_refl _))).mono ?_);rintro e DJ alK)
      obtain ⟨aqT,aqU,aW,aX,aY,bf,bn,bC,bD,bF,Dl,aQ,rfl,alL,Gu,N⟩:=alK.take
      replace X:=ji X Gu (by omega) (by decide)
      replace Z:=ji Z Gu (by omega) (by decide)
      replace V:=ji V Gu (by omega) (by decide)
      replace M:=ji M Gu (by omega) (by decide)
      replace I:=ji I Gu (by omega) (by decide)
      replace FS:=nT FS Gu (by omega)
      replace LI:=nT LI Gu (by omega)
      replace R:=Lib.hid alL
      replace KP:=KP.trans Gu
      replace N:=Lib.hid N
      clear Gu
      have iF:(#[aW,aX,aY,bf,bn,bC,bD,bF] : Array Value).all (·.oneCell')=true:=by simpa using aQ
      generalize Jc.heap.size=L88 at *
      try clear hHeld
      refine hK.out _ _ (⟨M.out.cell 0,⟨M.out.cell 2,(oC.out _ FS.out.now)⟩⟩) (fun hHeld => ?_)
      clear hK K
      refine tk (i:=11) (v := ?alM) ?_
      simp only [ah]
      refine tk (i:=12) (v := ?alN) ?_
      simp only [ah]
      refine tk (i:=13) (v := ?alO) ?_
      simp only [ah]
      refine fH (i:=15) (fun K hK => ?_)
      refine aU (by rfl) 30 _ _ (by rfl) (g79) #[aW,aX,aY,bf,bn,bC,bD,bF] (by rfl) (by rfl) 30 _ I.out (by kernel_rfl) rfl (by first | assumption | simp [Value.oneCell']) ?_
      generalize vT:DJ.setRow _ _=Ob
      obtain ⟨X,Z,V,M,FS,LI,N⟩:=f7 X Z V M FS LI N (eR vT)
      replace R:=rR R I vT.symm (by decide) (by omega)
      replace KP:=oZ KP hgr vT.symm (by omega)
      replace I:=aK I vT
      clear vT
      try clear hHeld
      refine hK.out _ _ (⟨M.out.cell 0,⟨M.out.cell 2,(oC.out _ FS.out.now)⟩⟩) (fun hHeld => ?_)
      clear hK K
      refine tk (i:=16) (v := ?ag5) ?_
      simp only [ah]
      refine wpAnyH_done (by kernel_rfl) ?_ _
      try clear hHeld
      go_wp2_with fail
      go_meet
      have hBl:=N.out.le
      exact ⟨rfl,⟨_,_,_,_,_,_,_,_,_,_,_,_,_,_,rfl,rfl,aQ,I.out,R.out,N.out,by omega,by omega,by omega⟩,KP,X.out,Z.out,V.out,FS.out,LI.out⟩
     case rest =>
      clear FS LI X Z V R KP M oC hd0 hd1
      obtain ⟨rfl,⟨gI,fp',fn',aW,aX,aY,bf,bn,bC,bD,bF,Dl,LN,BN,rfl,rfl,aQ,I,R,hN,ug,NR,NS⟩,KP,X,Z,V,AV,yB⟩:=hcut
      have iF:(#[aW,aX,aY,bf,bn,bC,bD,bF] : Array Value).all (·.oneCell')=true:=by simpa using aQ
      replace R:=Lib.hid R
      replace X:=Lib.hid X
      replace Z:=Lib.hid Z
      replace V:=Lib.hid V
      replace I:=Lib.hid I
      have FS:=Lib.hid (AV)
      have LI:=Lib.hid (yB)
      have N:=Lib.hid (hN)
      clear AV yB hN
      obtain ⟨iI,iJ,iK,iL,iM,iO,iw,iP⟩:=I.out.c8
      have hN:=N.out.now
      have hNl:=N.out.le
      cases q with
      | error pn =>
       obtain ⟨p',n'⟩:=pn
       obtain ⟨rfl,hf⟩:=hN
       have HR:Hid (aG rec x p path = .error (p',n')):=by show _=_;rw [HD.out,Gn (uM.out _ rfl)]
       have hf:=Lib.hid hf
       go_upto_region 16 with fail
       go_wp2_with (refine sR Z.out ?_)
       clear iI iJ iK iL iM iO iw iP
       generalize Oc:wc.setRow _ _=apg
       obtain ⟨X,V,I,FS,LI,N⟩:=f6 X V I FS LI N (eR Oc)
       replace R:=rR R Z Oc.symm (by decide) (by omega)
       replace KP:=oZ KP hgr Oc.symm (by omega)
       replace Z:=aK Z Oc
       clear Oc
       exact bodyPost_ret (v:=.tuple #[.agg #[aW,aX,aY,bf,bn,bC,bD,bF],.bool false]) (by simp [results,Tryz.results98,go_sem,Z.out.c8]) rfl (cO.bad HR.out R KP hf.out aQ)
      | ok v =>
       obtain ⟨rfl,yM,FM,FN,hc,hv⟩:=hN
       have Dn:Hid ((#[aW,aX,aY,bf,bn,bC,bD,bF] : Array Value)=(iQ v yM FM FN).toArray):=by show _=_;rw [← hc]
       have HV:=Lib.hid hv
       clear hc hv
       have dK:=V.out.e6
       have nK:=LI.out.now
       have UU:=I.out.here
       have hlv:=fun j hj => nK.lt j hj
       go_upto_region 20 with (at_builtin;refine qx rfl _ _ rfl rfl Dn.out nK rfl rfl HV.out (fun j hj => by have:=(hvl.out j hj).2;omega) hNl (by omega) (by have:=jX.out;omega) (by omega) ?_;intro v' w3 hL3 hb3 hg3;obtain ⟨An,cn,hvv⟩:=hL3.form;obtain rfl:v' = .slice An (acc.length+1) cn:=(by rw [hvv,List.length_append];rfl);clear hvv;have V3:=dG V hg3 (fun hh => by have:=(hvl.out _ hh).1;omega);have v36:w3.cell? ⟨gV,6,none⟩=some va:=V3.out.cell 6;have f36:=V3.out.free 6)
       clear nK v36 f36 V3
       clear N
       clear LI
       clear iI iJ iK iL iM iO iw iP dK
       replace X:=dG X hg3 (fun hh => by have:=hvl.out _ hh;omega)
       replace Z:=dG Z hg3 (fun hh => by have:=hvl.out _ hh;omega)
       replace V:=dG V hg3 (fun hh => by have:=hvl.out _ hh;omega)
       replace I:=dG I hg3 (fun hh => by have:=hvl.out _ hh;omega)
       replace FS:=nG FS hg3 (fun k hh => by have:=hvl.out k hh;omega) hb3.size
       replace R:=rG R hg3 (fun j hj => ⟨by have:=(hlv j hj).1;omega,(hlv j hj).2.2⟩)
       replace KP:=KP.above hb3 (by omega) (by omega)
       clear hlv
       have LJ:=Lib.hid (hL3.kept)
       clear hL3
       generalize Et:w3.setCell _ _=Yi
       obtain ⟨X,Z,I,FS,LJ⟩:=f5 X Z I FS LJ (eF Et)
       replace R:=rF R V Et.symm (by decide) (by omega)
       replace KP:=kS KP hgr Et.symm (by omega)
       replace V:=uf V Et
       clear Et
       go_wp2_with fail
       go_roundw
       case rel => exact ⟨k+1,by omega,by go_num,_,_,_,acc ++ [v],⟨X.out,Z.out,V.out,R.out,KP,FS.out,o8⟩,LJ.out.now,by rw [List.length_append,jX.out];rfl,uK.out v rfl⟩
       case measure => simp [intOf];omega
    | none =>
     simp only [hfi,Bv] at HF
     have hfn:=Qz hfi
     clear hfi
     go_wp2_with fail
     have hm0:qj.cell? ⟨gM,0,none⟩=some (.int .i64 m.id):=M.out.cell 0
     ((with_reducible refine (HF.out _ (Rd.pq FS.out.now) hm0 M.out.here).mono ?_);rintro e Gv ⟨rfl,qO⟩)
     obtain ⟨X,Z,V,M,FS,LI⟩:=b6 X Z V M FS LI qO
     replace R:=rB R qO
     replace KP:=kB KP hgr qO
     clear qO
     clear HF hm0
     cases hdf:m.iR with
     | true =>
      have hmm:yS rec fs path m = .ok m.dflt:=by unfold yS;rw [hfn,hdf];rfl
      have HS1:=Lib.hid (uK.out _ hmm)
      have kQ:=M.out.e4
      rw [hdf] at kQ
      clear hmm hfn uK uM hdf
      go_upto_region 19 with fail
      have dK:=V.out.e6
      obtain ⟨-,-,-,-,-,wJ,wK,wL,wM,wO,qP,qQ,qR⟩:=M.out.c13
      refine wW (S:=(fun w' => w'.cell? ⟨gV,6,none⟩=some (va)∧w'.cell? ⟨gM,5,none⟩=some (.int .i64 m.dflt.kind)∧w'.cell? ⟨gM,6,none⟩=some (.bool m.dflt.bool)∧w'.cell? ⟨gM,7,none⟩=some (.int .i64 m.dflt.num)∧w'.cell? ⟨gM,8,none⟩=some (.string ⟨m.dflt.str.toArray⟩)∧w'.cell? ⟨gM,9,none⟩=some (.int .i64 m.dflt.id)∧w'.cell? ⟨gM,10,none⟩=some (.slice D1 m.dflt.keys.length f1)∧w'.cell? ⟨gM,11,none⟩=some (.slice D2 m.dflt.items.length f2)∧w'.cell? ⟨gM,12,none⟩=some (.slice D3 m.dflt.rest.length f3))) (fun j => j == 8) (by kernel_rfl) ⟨dK,wJ,wK,wL,wM,wO,qP,qQ,qR⟩ (fun hHeld => ?_)
      clear kQ dK wJ wK wL wM wO qP qQ qR
      have vU:Below Gv.heap.size Gv (Gv.drew):=(Below.refl _ _).drew
      obtain ⟨X,Z,V,M,FS,LI⟩:=b6 X Z V M FS LI vU
      replace R:=rB R vU
      replace KP:=kB KP hgr vU
      clear vU
      generalize Gv.drew=Si at *
      refine lC (i:=0) (v := ?alP) ?_
      simp only [ah]
      refine lC (i:=1) (v := ?alQ) ?_
      simp only [ah]
      refine lC (i:=2) (v := ?alR) ?_
      simp only [ah]
      refine lC (i:=3) (v := ?aqV) ?_
      simp only [ah]
      refine Bl (i:=4) (fun K hK => ?_)
      go_simp
      obtain ⟨z6,zx⟩ : ∃ z,z=(Si).heap.size:=⟨_,rfl⟩
      have hzl:=LI.out.le
      rw [← zx] at hzl
      ((with_reducible refine (WR _ m.dflt _ _ _ _ (Nat.le_refl _) (HMA.out.dflt.keep (fun p hp => KP.low.cell hp) (Nat.le_of_lt (Nat.lt_of_lt_of_le hgr KP.size)))).mono ?_);rintro e Oe ⟨zk,zi,zr,rfl,hcv,Eu⟩)
      obtain ⟨X,Z,V,M,FS,LI⟩:=b6 X Z V M FS LI Eu
      replace R:=rB R Eu
      replace KP:=kB KP hgr Eu
      clear Eu
      obtain ⟨_,⟨Z1,z1,rfl,_⟩,_⟩:=id hcv.keys
      obtain ⟨_,⟨Z2,z2,rfl,_⟩,_⟩:=id hcv.items
      obtain ⟨_,Z3,z3,rfl,_⟩:=id hcv.rest
      obtain ⟨z7,Dv⟩ : ∃ z,z=(Oe).heap.size:=⟨_,rfl⟩
      have HY:=Lib.hid (su.atN hcv zx Dv)
      clear hcv zx Dv
      try clear hHeld
      refine hK.out _ _ (⟨V.out.cell 6,⟨M.out.cell 5,⟨M.out.cell 6,⟨M.out.cell 7,⟨M.out.cell 8,⟨M.out.cell 9,⟨M.out.cell 10,⟨M.out.cell 11,M.out.cell 12⟩⟩⟩⟩⟩⟩⟩⟩) (fun hHeld => ?_)
      clear hK K
      refine Bl (i:=5) (fun K hK => ?_)
      go_simp
      generalize Gw:Oe.alloc _=ae8
      have ⟨Ew,N⟩:=bH Gw
      clear Gw
      have X5:=X.out.here
      have RS:=Z.out.here
      have RU:=V.out.here
      have X6:=M.out.here
      have ae9:=FS.out.le
      have ai2:=LI.out.le
      have ai3:=HY.out.le
      have ai4:=KP.size
      obtain ⟨X,Z,V,M,FS,LI,HY⟩:=b7 X Z V M FS LI HY Ew
      replace R:=rB R Ew
      replace KP:=kB KP hgr Ew
      clear Ew
      generalize Oe.heap.size=aqW at *
      try clear hHeld
      refine hK.out _ _ (⟨V.out.cell 6,⟨M.out.cell 5,⟨M.out.cell 6,⟨M.out.cell 7,⟨M.out.cell 8,⟨M.out.cell 9,⟨M.out.cell 10,⟨M.out.cell 11,M.out.cell 12⟩⟩⟩⟩⟩⟩⟩⟩) (fun hHeld => ?_)
      clear hK K
      refine Bl (i:=6) (fun K hK => ?_)
      have nK:=LI.out.now
      have hlv:=fun j hj => nK.lt j hj
      have hyl:=HY.out.le
      have hnl:=N.out.here
      refine KG (by rfl) _ _ (by rfl) rfl rfl nK (by rfl) N.out (by rfl) HY.out.now (fun j hj => by have:=(hvl.out j hj).2;omega) hyl (by omega) (by have:=jX.out;omega) (by omega) ?_
      intro v' w3 hL3 hb3 hg3
      obtain ⟨An,cn,hvv⟩:=hL3.form
      obtain rfl:v' = .slice An (acc.length+1) cn:=(by rw [hvv,List.length_append];rfl)
      clear hvv nK
      clear N
      clear LI
      clear HY
      replace X:=dG X hg3 (fun hh => by have:=hvl.out _ hh;omega)
      replace Z:=dG Z hg3 (fun hh => by have:=hvl.out _ hh;omega)
      replace V:=dG V hg3 (fun hh => by have:=hvl.out _ hh;omega)
      replace M:=dG M hg3 (fun hh => by have:=hvl.out _ hh;omega)
      replace FS:=nG FS hg3 (fun k hh => by have:=hvl.out k hh;omega) hb3.size
      replace R:=rG R hg3 (fun j hj => ⟨by have:=(hlv j hj).1;omega,(hlv j hj).2.2⟩)
      replace KP:=KP.above hb3 (by omega) (by omega)
      clear hlv
      have LJ:=Lib.hid (hL3.kept)
      clear hL3
      try clear hHeld
      refine hK.out _ _ (⟨V.out.cell 6,⟨M.out.cell 5,⟨M.out.cell 6,⟨M.out.cell 7,⟨M.out.cell 8,⟨M.out.cell 9,⟨M.out.cell 10,⟨M.out.cell 11,M.out.cell 12⟩⟩⟩⟩⟩⟩⟩⟩) (fun hHeld => ?_)
      clear hK K
      refine lC (i:=7) (v := ?aqX) ?_
      simp only [ah]
      refine zL (i:=8) (fun K hK => ?_)
      have dK:=V.out.e6
      have alS:=V.out.free 6
      go_simp
      clear dK alS
      generalize Aj:w3.setCell _ _=xB
      obtain ⟨X,Z,M,FS,LJ⟩:=f5 X Z M FS LJ (eF Aj)
      replace R:=rF R V Aj.symm (by decide) (by omega)
      replace KP:=kS KP hgr Aj.symm (by omega)
      replace V:=uf V Aj
      clear Aj
      try clear hHeld
      refine hK.out _ _ ?_
      clear hK K
      refine wX (by kernel_rfl) ?_ _
      try clear hHeld
      go_wp2_with fail
      go_roundw
      case rel => exact ⟨k+1,by omega,by go_num,_,_,_,acc ++ [m.dflt],⟨X.out,Z.out,V.out,R.out,KP,FS.out,o8⟩,LJ.out.now,by rw [List.length_append,jX.out];rfl,HS1.out⟩
      case measure => simp [intOf];omega
     | false =>
      have hmm:yS rec fs path m = .error (path ++ [m.id],7):=by unfold yS;rw [hfn,hdf];rfl
      have HR:Hid (aG rec x p path = .error (path ++ [m.id],7)):=by show _=_;rw [HD.out,Gn (uM.out _ hmm)]
      have kQ:=M.out.e4
      rw [hdf] at kQ
      clear hmm hfn uK uM hdf
      go_upto_region 9 with fail
      obtain ⟨⟨pv,hrow,hown⟩,-⟩:=R.out
      obtain ⟨Ap,cp,rfl⟩:=aF hown
      have HO:=Lib.hid hown
      obtain ⟨wp,rfl⟩ : ∃ wp,wp=Gv:=⟨_,rfl⟩
      have HKP:=Lib.hid KP
      have hgp:gr < wp.heap.size:=hrow.here
      have hzp:w.heap.size+1 < wp.heap.size:=Z.out.here
      replace Z:=Z.out
      replace M:=M.out
      clear R KP hown
      replace Z:=Lib.hid Z
      replace M:=Lib.hid M
      replace hrow:=Lib.hid hrow
      go_upto_region 9 with fail
      obtain ⟨i0,hi,hz0,hz1,hz2⟩:=info_parts jP
      have nO:=hrow.out.e1
      have lW:=M.out.e0
      refine wW (S:=(fun w' => w'.cell? ⟨gr,1,none⟩=some (.slice Ap path.length cp)∧w'.cell? ⟨gM,0,none⟩=some (.int .i64 m.id))) (fun j => j == 9 || j == 10 || j == 11) (by kernel_rfl) ⟨nO,lW⟩ (fun hHeld => ?_)
      clear nO lW
      have Gx:Below wp.heap.size wp (wp.drew):=(Below.refl _ _).drew
      obtain ⟨Z,M,hrow⟩:=b3 Z M hrow Gx
      have JZ:=Gx
      clear Gx
      generalize wp.drew=Sj at *
      refine lC (i:=0) (v := ?aqY) ?_
      simp only [ah]
      refine lC (i:=1) (v := ?alT) ?_
      simp only [ah]
      refine lC (i:=2) (v := ?alU) ?_
      simp only [ah]
      refine lC (i:=3) (v := ?alV) ?_
      simp only [ah]
      refine lC (i:=4) (v := ?alW) ?_
      simp only [ah]
      refine lC (i:=5) (v := ?ahr) ?_
      simp only [ah]
      refine lC (i:=6) (v := ?ahs) ?_
      simp only [ah]
      refine Bl (i:=7) (fun K hK => ?_)
      go_simp
      generalize Og:Sj.alloc _=Yj
      have ⟨Gy,NB⟩:=bH Og
      clear Og
      have aph:=Z.out.here
      have aiT:=M.out.here
      have aeN:=hrow.out.here
      have aeO:=JZ.size
      obtain ⟨Z,M,hrow⟩:=b3 Z M hrow Gy
      replace JZ:=dT JZ Gy
      clear Gy
      generalize Sj.heap.size=alX at *
      try clear hHeld
      refine hK.out _ _ (⟨hrow.out.cell 1,M.out.cell 0⟩) (fun hHeld => ?_)
      clear hK K
      refine Bl (i:=8) (fun K hK => ?_)
      have FU:=own_below HO.out JZ
      have hKa:aP wp gr Yj:=aP.of_below JZ (Nat.le_of_lt hgp)
      have hsp:=(JZ).size
      refine step_append_lies (P:=Tryz.prog) _ (by rfl) _ _ _ (by rfl) (gr+1) 3 i0 _ 1 8 Tryz.underlying36 hi hz0 hz1 hz2 rfl (by decide) (.slice Ap path.length cp) path.length _ (by rfl) FU ⟨alX,0,none⟩ 1 1 [.int .i64 m.id] (by rfl) (by rfl) (World.news_of_block NB.out) (by simp [Value.oneCell']) (by omega) (by simp only [maxLen];omega) (by omega) (by omega) _ rfl ?_
      intro g2 cap2 w3 hown3 hg3 Gz Vg
      have K3:=hKa.trans (aP.grown hg3 FU (Nat.lt_succ_self gr) (by omega))
      clear NB
      replace Z:=dG Z (fun k h1 h2 => hg3.block k h1 (fun e => h2 e.symm)) (qp FU Z.out (by decide))
      replace M:=dG M (fun k h1 h2 => hg3.block k h1 (fun e => h2 e.symm)) (qp FU M.out (by decide))
      replace hrow:=dG hrow (fun k h1 h2 => hg3.block k h1 (fun e => h2 e.symm)) (qp FU hrow.out (by decide))
      clear hg3 Gz Vg hKa FU hsp
      try clear hHeld
      refine hK.out _ _ (⟨hrow.out.cell 1,M.out.cell 0⟩) (fun hHeld => ?_)
      clear hK K
      refine zL (i:=9) (fun K hK => ?_)
      go_simp
      try clear hHeld
      refine hK.out _ _ ?_
      clear hK K
      refine zL (i:=10) (fun K hK => ?_)
      go_simp
      try clear hHeld
      refine hK.out _ _ ?_
      clear hK K
      refine zL (i:=11) (fun K hK => ?_)
      have nO:=hrow.out.e1
      have PY:=hrow.out.free 1
      go_simp
      obtain ⟨w4,hE⟩ : ∃ ww,ww=w3.setCell ⟨gr,1,none⟩ (.slice (some ⟨g2,0,none⟩) (path.length+1) cap2):=⟨_,rfl⟩
      rw [← hE]
      have K4:aP w gr w4:=HKP.out.trans (hE ▸ K3.trans (aP.setCell _ _ _ _))
      have O4:=oQ hown3 (Nat.lt_succ_self gr) 1 (.slice (some ⟨g2,0,none⟩) (path.length+1) cap2)
      rw [← hE] at O4
      have Z4:=dF Z hE (show w.heap.size+1≠gr by omega)
      have R4:Has w4 gr 131 #[tv,.slice (some ⟨g2,0,none⟩) (path.length+1) cap2,KJ,.int .i64 KL]:=by simpa using dS hrow hE
      clear nO PY
      try clear hHeld
      refine hK.out _ _ ?_
      clear hK K
      refine wX (by kernel_rfl) ?_ _
      try clear hHeld
      have R4a:jf w4 gr tv KJ KL (path ++ [m.id]):=⟨_,R4,by simpa [iZ] using O4⟩
      clear hE K3 hown3 hrow Z R4 O4
      go_wp2_with fail
      refine (iG gr _ _ _ (path ++ [m.id]) 7 _ (by simp;omega) R4a).mono ?_
      intro e w5 h5
      obtain ⟨c0,c1,c2,c3,c4,c5,c6,c7,bb,h1,rfl⟩:=h5.form
      obtain ⟨fp',fn',⟨pv5,QE,QF⟩,K5,h5'⟩:=h5
      have H5:=Lib.hid h5'
      clear h5'
      have M5:=Has.made w5 30 #[.int .i64 0,.bool false,.int .i64 0,.string ⟨#[]⟩,.int .i64 0,.slice none 0 0,.slice none 0 0,.slice none 0 0]
      have h1':(#[c0,c1,c2,c3,c4,c5,c6,c7] : Array Value).all (·.oneCell')=true:=by simpa using h1
      go_upto_region 11 with (refine wpList_store_row rfl 30 _ _ rfl w5.heap.size _ rfl rfl 30 _ M5 (by kernel_rfl) rfl h1' ?_)
      obtain ⟨w6,oV⟩ : ∃ ww,ww=(w5.alloc (.cells #[.int .i64 0,.bool false,.int .i64 0,.string ⟨#[]⟩,.int .i64 0,.slice none 0 0,.slice none 0 0,.slice none 0 0] 30)).setRow w5.heap.size #[c0,c1,c2,c3,c4,c5,c6,c7]:=⟨_,rfl⟩
      rw [← oV]
      have hs5:=K5.size
      have hs4:=K4.size
      have B6:Below w5.heap.size w5 w6:=oV ▸ below_setRow ((Below.refl w5.heap.size w5).alloc (Nat.le_refl _) _) (Nat.le_refl _) _
      have M6:=dO (Lib.hid M5) oV
      have R6:Has w6 gr _ _:=(B6.block gr (by omega)).trans QE
      have O6:=own_below QF B6
      rw [List.length_append,List.map_append] at O6
      obtain ⟨g6,cap6,rfl,hcap,QG⟩:=PZ O6 (by simp)
      have r1:w6.cell? ⟨gr,1,none⟩=some (.slice (some ⟨g6,0,none⟩) (path.length+1) cap6):=R6.cell 1
      have r2:=R6.free 1
      clear oV M5
      have i1:wrap64 (((path.length+1:Nat):Int) - 1)=(path.length:Int):=by unfold wrap64;omega
      have i2:((path.length:Int)).toNat=path.length:=by omega
      have i3:¬ ((path.length:Int) < 0):=by omega
      have i4:path.length≤cap6:=by omega
      have i5:IntKind.i64.wrap (((path.length+1:Nat):Int) - 1)=(path.length:Int):=by rw [IntKind.wrap_i64];omega
      clear O6 hcap
      go_region
      obtain ⟨w7,iT⟩ : ∃ ww,ww=(w6.setCell ⟨gr,1,none⟩ (.slice (some ⟨g6,0,none⟩) path.length cap6)).drew:=⟨_,rfl⟩
      rw [← iT]
      have hz4:=Z4.out.here
      have Z6:Hid (Has w6 (w.heap.size+1) _ _):=Lib.hid ((B6.block (w.heap.size+1) (by omega)).trans ((K5.block (w.heap.size+1) (by omega) (by omega) (fun c f e => by rw [Z4.out] at e;injection e with e1;injection e1 with _ e2;exact absurd e2 (by decide))).trans Z4.out))
      have M7:Has w7 w5.heap.size 30 #[c0,c1,c2,c3,c4,c5,c6,c7]:=by rw [iT];exact (dF M6 rfl (show w5.heap.size≠gr by omega)).out
      have Z7:Has w7 (w.heap.size+1) 30 #[.int .i64 0,.bool false,.int .i64 0,.string ⟨#[]⟩,.int .i64 0,.slice none 0 0,.slice none 0 0,.slice none 0 0]:=by rw [iT];exact (dF Z6 rfl (show w.heap.size+1≠gr by omega)).out
      have gB6:gr < w5.heap.size:=by omega
      have K6:aP w gr w6:=K4.trans (K5.trans (aP.of_below B6 (by omega)))
      have K7:aP w gr w7:=by rw [iT];exact (K6.trans (aP.setCell _ _ _ _)).drew
      have R7:Has w7 gr 131 #[tv,.slice (some ⟨g6,0,none⟩) path.length cap6,fp',.int .i64 fn']:=by rw [iT];exact (dS (Lib.hid R6) (i:=1) (v:=.slice (some ⟨g6,0,none⟩) path.length cap6) rfl).drew
      have O7:w7.ownsRow (gr+1) 3 1 (.slice (some ⟨g6,0,none⟩) path.length cap6) path.length (path.map iZ):=by rw [iT];exact oQ QG (Nat.lt_succ_self gr) 1 _
      have F7:∀ n ys,w5.ownsRow (gr+1) 3 1 fp' n ys→w7.ownsRow (gr+1) 3 1 fp' n ys:=fun n ys hy => by rw [iT];exact oQ (own_below hy B6) (Nat.lt_succ_self gr) 1 _
      obtain ⟨m0,m1,m2,m3,m4,m5,m6,m7⟩:=M7.c8
      have HR8:Hid (∀ cs',jf (w7.setRow (w.heap.size+1) cs') gr tv fp' fn' path):=Lib.hid fun cs' => (FV (jF.of ⟨_,R7,O7⟩) Z7 (by decide) (by omega) fun k hk => setRow_other _ _ _ _ hk).at_
      have HF8:Hid (∀ n ys cs',w5.ownsRow (gr+1) 3 1 fp' n ys→(w7.setRow (w.heap.size+1) cs').ownsRow (gr+1) 3 1 fp' n ys):=Lib.hid fun n ys cs' hy => kP (F7 n ys hy) fun k hb => setRow_other _ _ _ _ (fun e => qp (F7 n ys hy) Z7 (by decide) (e ▸ hb))
      have QH:=Lib.hid Z7
      have HK7:=Lib.hid K7
      clear iT R7 O7 F7 r1 r2 i1 i2 i3 i4 i5 M6 Z6 R6 B6 Z4 QE QF QG K6 Z7 M7 K7 K4 K5
      go_upto_region 12 with fail
      go_wp2_with (refine wpList_store_row rfl 30 _ _ rfl (w.heap.size+1) _ rfl rfl 30 _ QH.out (by kernel_rfl) rfl h1' ?_)
      obtain ⟨z0,z1,z2,z3,z4,z5,z6,z7⟩:=(iU QH.out #[c0,c1,c2,c3,c4,c5,c6,c7]).c8
      refine bodyPost_ret (v:=.tuple #[.agg #[c0,c1,c2,c3,c4,c5,c6,c7],.bool false]) (by simp [results,Tryz.results98,go_sem,z0,z1,z2,z3,z4,z5,z6,z7]) rfl ?_
      rw [HR.out]
      obtain ⟨h51,h52,_⟩:=H5.out
      exact ⟨fp',fn',HR8.out _,oZ HK7.out hgr rfl (by omega),h51,HF8.out _ _ _ h52,_,_,_,_,_,_,_,_,h1,rfl⟩
   obtain rfl:k=x.aj.length:=by omega
   have zA:Hid (gB (wH rec x fs path) x.aj.length 0 [] = .ok acc):=by show _=_;rw [hseq,Nat.sub_self];rfl
   have hLk:=hL.kept
   have hgz:=V.out.here
   obtain ⟨B0,hB0⟩ : ∃ B0,wr.heap.size=B0:=⟨_,rfl⟩
   have alY:B0≤wr.heap.size:=by omega
   rw [hB0] at hLk hgz
   obtain ⟨Av,cv,rfl⟩:=hL.form
   have jX:=Lib.hid hacc
   have hl1:Hid (RZ w gr tv path x C1 l1 C2 l2 fs Af cf gV (.slice Av acc.length cv) (.slice none 0 0) KJ KL wr) :=
    Lib.hid ⟨X.out,Z.out,V.out,R.out,KP,FS.out,by omega⟩
   have I5:=Lib.hid hLk
   clear X Z V R KP FS hL hLk hB0 hseq hacc
   go_upto_region 22 with fail
   go_loopw [119] (fun i wr => ∃ k:Nat,k≤fs.length∧i = .int .i64 (k:Int)∧∃ (fp:Value) (fn:Int) (vr:Value) (rs:List Raw),RZ w gr tv path x C1 l1 C2 l2 fs Af cf gV (.slice Av acc.length cv) vr fp fn wr∧wr.ownsRow B0 123 2 vr rs.length (iV rs)∧rs.length≤k∧(∀ r ∈ rs,pV r)∧jG x path fs []=jG x path (fs.drop k) rs∧jd (jM (gV+1) (.slice Av acc.length cv) acc) wr (gV+1) B0) (fun i _ => fs.length - (intOf i).toNat)
   case atStart => exact ⟨0,by omega,rfl,_,_,_,[],hl1.out,World.ownsRow_nil _ _ _ _,Nat.le_refl _,by simp,rfl,I5.out⟩
   case round =>
    clear hl1 I5
    obtain ⟨k,hk1,rfl,KJ,KL,vr,rs,⟨X,Z,V,R,KP,AV,o8⟩,hO,hrl,kT,hre,rH⟩:=hrel
    replace R:=Lib.hid R
    replace X:=Lib.hid X
    replace Z:=Lib.hid Z
    replace V:=Lib.hid V
    have FS:=Lib.hid (AV)
    clear AV
    have LK:=Lib.hid (rH)
    clear rH
    by_cases hlt:k < fs.length
    ·
     have DK:Hid (∀ j,vr.ownBlock=some j→B0≤j∧j < wr.heap.size):=Lib.hid (fun j hj => hO.lt j hj)
     have Vh:=jd.own hO (by decide)
     have hgz:=And.intro V.out.here LK.out.le
     obtain ⟨hz,hzE⟩ : ∃ hz,wr.heap.size=hz:=⟨_,rfl⟩
     rw [hzE] at Vh DK hgz
     clear hzE hO
     have RW:=Lib.hid (Vh)
     clear Vh
     obtain ⟨gf,cf',hvf⟩:=Gp FS.out.now (by omega)
     injection hvf with hv1 hv2 hv3
     subst hv1;subst hv3;clear hv2
     obtain ⟨c0,c1,c2⟩:=Oa FS.out.now hlt
     rw [Va hlt] at hre
     have hfl:=HL.out fs[k] (List.getElem_mem hlt)
     have yK:(k:Int) < fs.length:=by omega
     have hd0:decide ((k:Int) < 0)=false:=by simp
     have hd1:decide (fs.length≤k)=false:=by simpa using hlt
     generalize fs[k]=f at *
     have Vj:=Lib.hid hre
     have HRi:=Lib.hid kT
     clear hre kT
     go_upto_region 24 with fail
     clear c0 c1 c2 hd0 hd1
     generalize afa:wr.alloc _=apj
     have ⟨Sl,F⟩:=bH afa
     clear afa
     have apk:=X.out.here
     have apl:=Z.out.here
     have apm:=V.out.here
     have apn:=FS.out.le
     have apo:=LK.out.le
     have ai5:=RW.out.le
     have afb:=KP.size
     obtain ⟨X,Z,V,FS,LK,RW⟩:=b6 X Z V FS LK RW Sl
     replace R:=rB R Sl
     replace KP:=kB KP hgr Sl
     clear Sl
     generalize wr.heap.size=alZ at *
     obtain ⟨gF,rfl⟩ : ∃ g,g=alZ:=⟨_,rfl⟩
     have HS:=Lib.hid (fun W h => Oh x (.slice C1 x.syms.length l1) (.slice C2 x.aj.length l2) f.id W h)
     simp only [aS,hk] at HS
     obtain ⟨aI,bI,bQ,bT,bW,dD,bK,bJ,bZ,bM⟩:=X.out.c10
     have zO:=F.out.e0
     go_wp2_with fail
     clear aI bI bQ bT bW dD bK bJ bZ bM zO
     ((with_reducible refine (HS.out _ (HX.out.keep (fun _ hp => KP.low.cell hp) (Nat.le_of_lt (Nat.lt_of_lt_of_le hgr KP.size)))).mono ?_);rintro e J3 ⟨rfl,Ey⟩)
     obtain ⟨X,Z,V,F,FS,LK,RW⟩:=b7 X Z V F FS LK RW Ey
     replace R:=rB R Ey
     replace KP:=kB KP hgr Ey
     clear Ey
     clear HS
     cases sW:lH x f.id with
     | some i =>
      have HR1:Hid (jG x path fs []=jG x path (fs.drop (k+1)) rs):=by show _=_;rw [Vj.out,sW];rfl
      simp only [qU,Option.isSome_some]
      clear sW
      go_wp2_with fail
      go_roundw
      case rel => exact ⟨k+1,by omega,by go_num,_,_,_,rs,⟨X.out,Z.out,V.out,R.out,KP,FS.out,o8⟩,RW.out.now,by omega,HRi.out,HR1.out,LK.out⟩
      case measure => simp [intOf];omega
     | none =>
      simp only [qU,Option.isSome_none]
      cases hcr:f.jR with
      | true =>
       have hre:jG x path fs [] = .error (path ++ [(f.id:Int)],6):=by rw [Vj.out,sW,hcr];rfl
       have HR:Hid (aG rec x p path = .error (path ++ [(f.id:Int)],6)):=by show _=_;rw [HD.out,QD zA.out hre]
       have uS:=F.out.e1
       rw [hcr] at uS
       clear sW hre hcr
       go_upto_region 27 with fail
       obtain ⟨⟨pv,hrow,hown⟩,-⟩:=R.out
       obtain ⟨Ap,cp,rfl⟩:=aF hown
       have HO:=Lib.hid hown
       obtain ⟨wp,rfl⟩ : ∃ wp,wp=J3:=⟨_,rfl⟩
       have HKP:=Lib.hid KP
       have hgp:gr < wp.heap.size:=hrow.here
       have hzp:w.heap.size+1 < wp.heap.size:=Z.out.here
       replace Z:=Z.out
       replace F:=F.out
       clear R KP hown
       replace Z:=Lib.hid Z
       replace F:=Lib.hid F
       replace hrow:=Lib.hid hrow
       go_upto_region 27 with fail
       obtain ⟨i0,hi,hz0,hz1,hz2⟩:=info_parts jP
       have nO:=hrow.out.e1
       have zO:=F.out.e0
       refine wW (S:=(fun w' => w'.cell? ⟨gr,1,none⟩=some (.slice Ap path.length cp)∧w'.cell? ⟨gF,0,none⟩=some (.int .i64 f.id))) (fun j => j == 9 || j == 10 || j == 11) (by kernel_rfl) ⟨nO,zO⟩ (fun hHeld => ?_)
       clear nO zO
       have Yk:Below wp.heap.size wp (wp.drew):=(Below.refl _ _).drew
       obtain ⟨Z,F,hrow⟩:=b3 Z F hrow Yk
       have J4:=Yk
       clear Yk
       generalize wp.drew=afc at *
       refine lC (i:=0) (v := ?al0) ?_
       simp only [ah]
       refine lC (i:=1) (v := ?al1) ?_
       simp only [ah]
       refine lC (i:=2) (v := ?al3) ?_
       simp only [ah]
       refine lC (i:=3) (v := ?ag8) ?_
       simp only [ah]
       refine lC (i:=4) (v := ?ag9) ?_
       simp only [ah]
       refine lC (i:=5) (v := ?aha) ?_
       simp only [ah]
       refine lC (i:=6) (v := ?aqZ) ?_
       simp only [ah]
       refine Bl (i:=7) (fun K hK => ?_)
       go_simp
       generalize xC:afc.alloc _=J5
       have ⟨yT,NB⟩:=bH xC
       clear xC
       have afd:=Z.out.here
       have ai6:=F.out.here
       have ai7:=hrow.out.here
       have ai8:=J4.size
       obtain ⟨Z,F,hrow⟩:=b3 Z F hrow yT
       replace J4:=dT J4 yT
       clear yT
       generalize afc.heap.size=al4 at *
       try clear hHeld
       refine hK.out _ _ (⟨hrow.out.cell 1,F.out.cell 0⟩) (fun hHeld => ?_)
       clear hK K
       refine Bl (i:=8) (fun K hK => ?_)
       have FU:=own_below HO.out J4
       have hKa:aP wp gr J5:=aP.of_below J4 (Nat.le_of_lt hgp)
       have hsp:=(J4).size
       refine step_append_lies (P:=Tryz.prog) _ (by rfl) _ _ _ (by rfl) (gr+1) 3 i0 _ 1 8 Tryz.underlying36 hi hz0 hz1 hz2 rfl (by decide) (.slice Ap path.length cp) path.length _ (by rfl) FU ⟨al4,0,none⟩ 1 1 [.int .i64 (f.id:Int)] (by rfl) (by rfl) (World.news_of_block NB.out) (by simp [Value.oneCell']) (by omega) (by simp only [maxLen];omega) (by omega) (by omega) _ rfl ?_
       intro g2 cap2 w3 hown3 hg3 Gz Vg
       have K3:=hKa.trans (aP.grown hg3 FU (Nat.lt_succ_self gr) (by omega))
       clear NB
       replace Z:=dG Z (fun k h1 h2 => hg3.block k h1 (fun e => h2 e.symm)) (qp FU Z.out (by decide))
       replace F:=dG F (fun k h1 h2 => hg3.block k h1 (fun e => h2 e.symm)) (qp FU F.out (by decide))
       replace hrow:=dG hrow (fun k h1 h2 => hg3.block k h1 (fun e => h2 e.symm)) (qp FU hrow.out (by decide))
       clear hg3 Gz Vg hKa FU hsp
       try clear hHeld
       refine hK.out _ _ (⟨hrow.out.cell 1,F.out.cell 0⟩) (fun hHeld => ?_)
       clear hK K
       refine zL (i:=9) (fun K hK => ?_)
       go_simp
       try clear hHeld
       refine hK.out _ _ ?_
       clear hK K
       refine zL (i:=10) (fun K hK => ?_)
       go_simp
       try clear hHeld
       refine hK.out _ _ ?_
       clear hK K
       refine zL (i:=11) (fun K hK => ?_)
       have nO:=hrow.out.e1
       have PY:=hrow.out.free 1
       go_simp
       obtain ⟨w4,hE⟩ : ∃ ww,ww=w3.setCell ⟨gr,1,none⟩ (.slice (some ⟨g2,0,none⟩) (path.length+1) cap2):=⟨_,rfl⟩
       rw [← hE]
       have K4:aP w gr w4:=HKP.out.trans (hE ▸ K3.trans (aP.setCell _ _ _ _))
       have O4:=oQ hown3 (Nat.lt_succ_self gr) 1 (.slice (some ⟨g2,0,none⟩) (path.length+1) cap2)
       rw [← hE] at O4
       have Z4:=dF Z hE (show w.heap.size+1≠gr by omega)
       have R4:Has w4 gr 131 #[tv,.slice (some ⟨g2,0,none⟩) (path.length+1) cap2,KJ,.int .i64 KL]:=by simpa using dS hrow hE
       clear nO PY
       try clear hHeld
       refine hK.out _ _ ?_
       clear hK K
       refine wX (by kernel_rfl) ?_ _
       try clear hHeld
       have R4a:jf w4 gr tv KJ KL (path ++ [(f.id:Int)]):=⟨_,R4,by simpa [iZ] using O4⟩
       clear hE K3 hown3 hrow Z R4 O4
       go_wp2_with fail
       refine (iG gr _ _ _ (path ++ [(f.id:Int)]) 6 _ (by simp;omega) R4a).mono ?_
       intro e w5 h5
       obtain ⟨c0,c1,c2,c3,c4,c5,c6,c7,bb,h1,rfl⟩:=h5.form
       obtain ⟨fp',fn',⟨pv5,QE,QF⟩,K5,h5'⟩:=h5
       have H5:=Lib.hid h5'
       clear h5'
       have M5:=Has.made w5 30 #[.int .i64 0,.bool false,.int .i64 0,.string ⟨#[]⟩,.int .i64 0,.slice none 0 0,.slice none 0 0,.slice none 0 0]
       have h1':(#[c0,c1,c2,c3,c4,c5,c6,c7] : Array Value).all (·.oneCell')=true:=by simpa using h1
       go_upto_region 29 with (refine wpList_store_row rfl 30 _ _ rfl w5.heap.size _ rfl rfl 30 _ M5 (by kernel_rfl) rfl h1' ?_)
       obtain ⟨w6,oV⟩ : ∃ ww,ww=(w5.alloc (.cells #[.int .i64 0,.bool false,.int .i64 0,.string ⟨#[]⟩,.int .i64 0,.slice none 0 0,.slice none 0 0,.slice none 0 0] 30)).setRow w5.heap.size #[c0,c1,c2,c3,c4,c5,c6,c7]:=⟨_,rfl⟩
       rw [← oV]
       have hs5:=K5.size
       have hs4:=K4.size
       have B6:Below w5.heap.size w5 w6:=oV ▸ below_setRow ((Below.refl w5.heap.size w5).alloc (Nat.le_refl _) _) (Nat.le_refl _) _
       have M6:=dO (Lib.hid M5) oV
       have R6:Has w6 gr _ _:=(B6.block gr (by omega)).trans QE
       have O6:=own_below QF B6
       rw [List.length_append,List.map_append] at O6
       obtain ⟨g6,cap6,rfl,hcap,QG⟩:=PZ O6 (by simp)
       have r1:w6.cell? ⟨gr,1,none⟩=some (.slice (some ⟨g6,0,none⟩) (path.length+1) cap6):=R6.cell 1
       have r2:=R6.free 1
       clear oV M5
       have i1:wrap64 (((path.length+1:Nat):Int) - 1)=(path.length:Int):=by unfold wrap64;omega
       have i2:((path.length:Int)).toNat=path.length:=by omega
       have i3:¬ ((path.length:Int) < 0):=by omega
       have i4:path.length≤cap6:=by omega
       have i5:IntKind.i64.wrap (((path.length+1:Nat):Int) - 1)=(path.length:Int):=by rw [IntKind.wrap_i64];omega
       clear O6 hcap
       go_region
       obtain ⟨w7,iT⟩ : ∃ ww,ww=(w6.setCell ⟨gr,1,none⟩ (.slice (some ⟨g6,0,none⟩) path.length cap6)).drew:=⟨_,rfl⟩
       rw [← iT]
       have hz4:=Z4.out.here
       have Z6:Hid (Has w6 (w.heap.size+1) _ _):=Lib.hid ((B6.block (w.heap.size+1) (by omega)).trans ((K5.block (w.heap.size+1) (by omega) (by omega) (fun c f e => by rw [Z4.out] at e;injection e with e1;injection e1 with _ e2;exact absurd e2 (by decide))).trans Z4.out))
       have M7:Has w7 w5.heap.size 30 #[c0,c1,c2,c3,c4,c5,c6,c7]:=by rw [iT];exact (dF M6 rfl (show w5.heap.size≠gr by omega)).out
       have Z7:Has w7 (w.heap.size+1) 30 #[.int .i64 0,.bool false,.int .i64 0,.string ⟨#[]⟩,.int .i64 0,.slice none 0 0,.slice none 0 0,.slice none 0 0]:=by rw [iT];exact (dF Z6 rfl (show w.heap.size+1≠gr by omega)).out
       have gB6:gr < w5.heap.size:=by omega
       have K6:aP w gr w6:=K4.trans (K5.trans (aP.of_below B6 (by omega)))
       have K7:aP w gr w7:=by rw [iT];exact (K6.trans (aP.setCell _ _ _ _)).drew
       have R7:Has w7 gr 131 #[tv,.slice (some ⟨g6,0,none⟩) path.length cap6,fp',.int .i64 fn']:=by rw [iT];exact (dS (Lib.hid R6) (i:=1) (v:=.slice (some ⟨g6,0,none⟩) path.length cap6) rfl).drew
       have O7:w7.ownsRow (gr+1) 3 1 (.slice (some ⟨g6,0,none⟩) path.length cap6) path.length (path.map iZ):=by rw [iT];exact oQ QG (Nat.lt_succ_self gr) 1 _
       have F7:∀ n ys,w5.ownsRow (gr+1) 3 1 fp' n ys→w7.ownsRow (gr+1) 3 1 fp' n ys:=fun n ys hy => by rw [iT];exact oQ (own_below hy B6) (Nat.lt_succ_self gr) 1 _
       obtain ⟨m0,m1,m2,m3,m4,m5,m6,m7⟩:=M7.c8
       have HR8:Hid (∀ cs',jf (w7.setRow (w.heap.size+1) cs') gr tv fp' fn' path):=Lib.hid fun cs' => (FV (jF.of ⟨_,R7,O7⟩) Z7 (by decide) (by omega) fun k hk => setRow_other _ _ _ _ hk).at_
       have HF8:Hid (∀ n ys cs',w5.ownsRow (gr+1) 3 1 fp' n ys→(w7.setRow (w.heap.size+1) cs').ownsRow (gr+1) 3 1 fp' n ys):=Lib.hid fun n ys cs' hy => kP (F7 n ys hy) fun k hb => setRow_other _ _ _ _ (fun e => qp (F7 n ys hy) Z7 (by decide) (e ▸ hb))
       have QH:=Lib.hid Z7
       have HK7:=Lib.hid K7
       clear iT R7 O7 F7 r1 r2 i1 i2 i3 i4 i5 M6 Z6 R6 B6 Z4 QE QF QG K6 Z7 M7 K7 K4 K5
       go_upto_region 30 with fail
       go_wp2_with (refine wpList_store_row rfl 30 _ _ rfl (w.heap.size+1) _ rfl rfl 30 _ QH.out (by kernel_rfl) rfl h1' ?_)
       obtain ⟨z0,z1,z2,z3,z4,z5,z6,z7⟩:=(iU QH.out #[c0,c1,c2,c3,c4,c5,c6,c7]).c8
       refine bodyPost_ret (v:=.tuple #[.agg #[c0,c1,c2,c3,c4,c5,c6,c7],.bool false]) (by simp [results,Tryz.results98,go_sem,z0,z1,z2,z3,z4,z5,z6,z7]) rfl ?_
       rw [HR.out]
       obtain ⟨h51,h52,_⟩:=H5.out
       exact ⟨fp',fn',HR8.out _,oZ HK7.out hgr rfl (by omega),h51,HF8.out _ _ _ h52,_,_,_,_,_,_,_,_,h1,rfl⟩
      | false =>
       have HR1:Hid (jG x path fs []=jG x path (fs.drop (k+1)) (rs ++ [((f.id:Int),f.data)])):=by show _=_;rw [Vj.out,sW,hcr];rfl
       have uS:=F.out.e1
       rw [hcr] at uS
       clear sW hcr
       go_upto_region 31 with fail
       have hO:=RW.out.now
       have hsR:=RW.out.le
       have eG:=V.out.e7
       have zO:=F.out.e0
       have al5:=F.out.e2
       go_upto_region 32 with (at_builtin;refine gW rfl _ _ _ rfl B0 123 _ 2 24 Tryz.underlying28 Mc rfl (by decide) vr rs.length (iV rs) rfl hO [_,_] _ 1 _ rfl rfl rfl (by simp [Value.oneCell']) (by omega) (by omega) (by omega) ?_;intro g2 cap2 w3 hown3 hg3 Gz hb3;have V3:=dG V (fun k h1 h2 => (hg3.block k (by simp;omega) (fun e => h2 e.symm)).trans (Below.heap_alloc _ _ k h1)) (fun hh => by have:=(DK.out _ hh).1;omega);have v36:w3.cell? ⟨gV,7,none⟩=some vr:=V3.out.cell 7;have f36:=V3.out.free 7)
       have hg4:∀ k,k < J3.heap.size→vr.ownBlock≠some k→w3.heap[k]?=J3.heap[k]?:=fun k h1 h2 => (hg3.block k (by simp;omega) (fun e => h2 e.symm)).trans (Below.heap_alloc _ _ k h1)
       have hvn:=fun j hj => Du hO (by decide) (k:=j) hj
       clear hg3 Gz v36 f36 V3
       clear RW
       clear uS eG zO al5
       replace X:=dG X hg4 (fun hh => by have:=DK.out _ hh;omega)
       replace Z:=dG Z hg4 (fun hh => by have:=DK.out _ hh;omega)
       replace V:=dG V hg4 (fun hh => by have:=DK.out _ hh;omega)
       replace F:=dG F hg4 (fun hh => by have:=DK.out _ hh;omega)
       replace FS:=nG FS hg4 (fun k hh => by have:=DK.out k hh;omega) hb3.size
       replace LK:=nG LK hg4 (fun k hh => by have:=DK.out k hh;omega) hb3.size
       replace R:=rG R hg4 (fun j hj => ⟨by have:=(DK.out j hj).1;omega,hvn j hj⟩)
       replace KP:=KP.above hb3 (by omega) (by omega)
       have hO3:w3.ownsRow B0 123 2 (.slice (some ⟨g2,0,none⟩) (rs.length+1) cap2) (rs ++ [((f.id:Int),f.data)]).length (iV (rs ++ [((f.id:Int),f.data)])):=by
        have e:iV (rs ++ [((f.id:Int),f.data)])=iV rs ++ [.int .i64 (f.id:Int),.string ⟨f.data.toArray⟩]:=by simp [iV,Bz]
        rw [e,List.length_append];exact hown3
       have RX:=Lib.hid (jd.own hO3 (by decide))
       have kT:∀ r ∈ rs ++ [((f.id:Int),f.data)],pV r:=fun r hr => by
        rcases List.mem_append.1 hr with h | h
        · exact HRi.out r h
        simp at h;subst h;exact ⟨by show I64 (f.id:Int);unfold I64;omega,by show f.data.length≤_;omega⟩
       have QI:=Lib.hid kT
       clear hO3 hown3 hO hg4 hvn kT
       generalize vV:w3.setCell _ _=Yl
       obtain ⟨X,Z,F,FS,LK,RX⟩:=f6 X Z F FS LK RX (eF vV)
       replace R:=rF R V vV.symm (by decide) (by omega)
       replace KP:=kS KP hgr vV.symm (by omega)
       replace V:=U5 V vV
       clear vV
       go_wp2_with fail
       go_roundw
       case rel => exact ⟨k+1,by omega,by go_num,_,_,_,rs ++ [((f.id:Int),f.data)],⟨X.out,Z.out,V.out,R.out,KP,FS.out,o8⟩,RX.out.now,by rw [List.length_append];simp;omega,QI.out,HR1.out,LK.out⟩
       case measure => simp [intOf];omega
    obtain rfl:k=fs.length:=by omega
    have Vk:jG x path fs [] = .ok rs:=by rw [hre,List.drop_length];rfl
    have HR:Hid (aG rec x p path = .ok (.mk 5 false 0 [] 0 [] acc rs)):=by show _=_;rw [HD.out,Xj zA.out Vk]
    have RW:=Lib.hid (jd.own hO (by decide))
    have QI:=Lib.hid kT
    obtain ⟨Ar,cr,rfl⟩:=aF hO
    clear hre Vk kT hO
    obtain ⟨eH,dP,eP,eU,dY,dW,dK,eG⟩:=V.out.c8
    go_upto_region 33 with fail
    go_wp2_with (refine sR Z.out ?_)
    clear eH dP eP eU dY dW dK eG
    generalize Ez:wr.setRow _ _=afe
    obtain ⟨X,V,FS,LK,RW⟩:=f5 X V FS LK RW (eR Ez)
    replace R:=rR R Z Ez.symm (by decide) (by omega)
    replace KP:=oZ KP hgr Ez.symm (by omega)
    replace Z:=aK Z Ez
    clear Ez
    exact bodyPost_ret (v:=.tuple #[.agg #[.int .i64 5,.bool false,.int .i64 0,.string ⟨#[]⟩,.int .i64 0,.slice none 0 0,.slice Av acc.length cv,.slice Ar rs.length cr],.bool true]) (by simp [results,Tryz.results98,go_sem,Z.out.c8]) rfl (cO.good (v:=.mk 5 false 0 [] 0 [] acc rs) HR.out R KP (ac4 (LK.out.now.row (by omega)) RW.out.now (by omega) QI.out (by have:=jX.out;omega) (by omega)))
end Go.Proofs.YthkfapcadhnaeaaGreatDoor

/- record. No condition. -/
import Derived.Test.YtkaedmpppnnamaaGreatDoorDecM
import Derived.Test.YtkaedmpppnnamaaGreatDoorHAL
set_option maxHeartbeats 3200000
set_option maxRecDepth 100000
namespace Go.Proofs.YtkaedmpppnnamaaGreatDoor
open ChangeShapes WideShapes ChangeAt RowKit
theorem Zj:∀ (f:Nat) (l:List UInt8) (last:Nat) (acc I:List kP) (N:Nat),(∀ q ∈ acc,q.id<=1000/\q.data.length<=N)->l.length<=N->xQ f l last acc=some I->∀ q ∈ I,q.id<=1000/\q.data.length<=N:=by
 intro f
 induction f with
 | zero =>
  intro l last acc I N h1 h2 h;unfold xQ at h;split at h
  . injection h with h;subst h;exact h1
  cases h
 | succ f ih =>
  intro l last acc I N h1 h2 h;unfold xQ at h;split at h
  . injection h with h;subst h;exact h1
  split at h
  . cases h
  rename_i hh r hn;have h3:=(Gt hn).2;split at h
  . cases h
  rename_i hb;split at h
  . cases h
  rename_i p r' hp;have h4:=EH hp;exact ih r' _ _ I N (fun q hq => by
   rcases H_.1 hq with hq | hq
   . exact h1 q hq
   simp at hq;subst hq;exact ⟨by simp only;omega,by simp only;omega⟩) (by omega) h
theorem abk {p:List UInt8} {I:List kP} (h:Dx p=some I):∀ q ∈ I,q.id<=1000/\q.data.length<=p.length:=Zj _ _ _ _ _ _ (by simp) (b_ _) h
def Kt (n:Nat) (fM:Nat->mX) (rest:Except (List Int × Int) (List Raw)):mX:=match nR fM n 0 [] with
 | .error e => .error e
 | .ok is => match rest with
  | .error e => .error e
  | .ok rs => .ok (.mk 5 false 0 [] 0 [] is rs)
theorem Vd {n:Nat} {fM:Nat->mX} {rest:Except (List Int × Int) (List Raw)} {e:List Int × Int} (h:nR fM n 0 [] = .error e):Kt n fM rest = .error e:=by unfold Kt;rw [h]
theorem abl {n:Nat} {fM:Nat->mX} {rest:Except (List Int × Int) (List Raw)} {is:List Val} {e:List Int × Int} (h:nR fM n 0 [] = .ok is) (h2:rest = .error e):Kt n fM rest = .error e:=by unfold Kt;rw [h,h2]
theorem agQ {n:Nat} {fM:Nat->mX} {rest:Except (List Int × Int) (List Raw)} {is:List Val} {rs:List Raw} (h:nR fM n 0 [] = .ok is) (h2:rest = .ok rs):Kt n fM rest = .ok (.mk 5 false 0 [] 0 [] is rs):=by unfold Kt;rw [h,h2]
def Ku (rec:Int->List UInt8->List Int->mX) (fs:List kP) (path:List Int) (m:Mem):mX:=match wY fs m.id with
 | some f => rec m.ty f.data (path ++ [m.id])
 | none => if m.eG then .ok m.dflt else .error (path ++ [m.id],7)
theorem Yq {rec:Int->List UInt8->List Int->mX} {x:ay} {fs:List kP} {path:List Int} {k:Nat} (h:k < x.ah.length):E8 rec x fs path k=Ku rec fs path x.ah[k]:=by
 unfold E8 Ku;rw [n_ h];rfl
theorem EU.alQ {w w':World} {B b o:Nat} {m:Mem} {vk vi vr:Value} (h:EU w b o m vk vi vr) (hb:Below B w w') (hlt:b < B):EU w' b o m vk vi vr:=by
 obtain ⟨h0,h1,h2,h3,h4,h5,h6,h7,h8,h9,h10,h11,h12⟩:=h;exact ⟨(hb.cell hlt).trans h0,(hb.cell hlt).trans h1,(hb.cell hlt).trans h2,(hb.cell hlt).trans h3,(hb.cell hlt).trans h4,(hb.cell hlt).trans h5,(hb.cell hlt).trans h6,(hb.cell hlt).trans h7,(hb.cell hlt).trans h8,(hb.cell hlt).trans h9,(hb.cell hlt).trans h10,(hb.cell hlt).trans h11,(hb.cell hlt).trans h12⟩
theorem Ve {W:World} {base:Nat} {e:TypeId} {n size:Nat} {v:Value} {xs:List Value} (h:W.ownsRow base e size v n xs) (hn:0 < n):∃ g c,v = .slice (some ⟨g,0,none⟩) n c:=by
 rcases h.2 with ⟨_,h2⟩ | ⟨g,cap,cur,h2,_⟩
 . omega
 exact ⟨g,cap,h2⟩
theorem abm {W:World} {g n n' c j:Nat} {fs:List kP} (h:W.ownsRow 0 167 3 (.slice (some ⟨g,0,none⟩) n c) n' (wZ fs)) (hj:j < fs.length) :
  W.cell? ⟨g,j*3,none⟩=some (.int .i64 fs[j].id)/\W.cell? ⟨g,j*3+1,none⟩=some (.bool fs[j].gy)/\W.cell? ⟨g,j*3+2,none⟩=some (.string ⟨fs[j].data.toArray⟩):=by
 have hc:∀ (q:Nat) (u:Value),(wZ fs)[q]?=some u->W.cell? ⟨g,0+q,none⟩=some u:=fun q u hu => by
  have:=h.cells (g:=g) rfl q u hu;rwa [addr_add] at this
 have:=Yr hc j hj;simpa only [Qo] using this
theorem adC {w W:World} {is:List Val} {rs:List Raw} {vi vr:Value} {L:Nat} (h1:lM W (sQ w W) vi is) (h2:W.ownsRow L 102 2 vr rs.length (jO rs)) (hL:w.heap.size<=L) (hr:∀ r ∈ rs,yR r) (hl1:is.length<=1000000) (hl2:rs.length<=1000000) :
  jq W (sQ w W) (.mk 5 false 0 [] 0 [] is rs) (.slice none 0 0) vi vr :=
 ⟨⟨by show I64 5;unfold I64;omega,by show I64 0;unfold I64;omega,by show I64 0;unfold I64;omega⟩,by simp [Val.str],⟨by simp [Val.keys],by simp only [Val.items];omega,by simp only [Val.rest];omega⟩,hr,Qj _ _,h1,Vf h2 (by decide) hL⟩
theorem adD {x:ay} {path:List Int} {fs:List kP} {acc:List Raw} {k:Nat} (h:k < fs.length):qQ x path (fs.drop k) acc=if (dN x fs[k].id).isSome then qQ x path (fs.drop (k+1)) acc else if fs[k].gy then .error (path ++ [(fs[k].id:Int)],6) else qQ x path (fs.drop (k+1)) (acc ++ [((fs[k].id:Int),fs[k].data)]):=by
 rw [Dp h,qQ]
theorem yh.atN {y:Val} {vk vi vr:Value} {W1 W:World} {L B:Nat} (h:jq W (sQ W1 W) y vk vi vr) (hL:L=W1.heap.size) (hB:B=W.heap.size):jJ (yh L B y vk vi vr) W L B:=by
 subst hL;subst hB;have hN:yh W1.heap.size W.heap.size y vk vi vr W:=⟨sQ W1 W,h,fun k h => h⟩
 exact hN.kept (b_ _)
theorem NY {ops:Array Oper} {op:Oper} {a:Act} {w:World} {K:Act->World->Prop} {Q:Exit->Act->World->Prop} {E:Prop} (hgd:op.guard=none) (s x:Operand)
  (ho:op.op = .call { callee:=.builtin .append,args:=#[s,x],argTypes:=#[31,31] }) {L Lp Bp G:Nat} {v:Value} {xs:List Val} {y:Val} {vk vi vr:Value} {T:TypeId} {cs:Array Value} (hT:T=34) (hcs:cs=(oD y vk vi vr).toArray)
  (ht:oJ L v xs w) (hs:a.eval s=v) (hG:Has w G T cs) (hx:a.eval x = .slice (some ⟨G,0,none⟩) 1 1) (hy:yh Lp Bp y vk vi vr w) (hyo:∀ k,v.ownBlock=some k->k < Lp) (hBp:Bp<=w.heap.size) (hLp:L<=Lp)
  (hn:xs.length < 900000) (hB:L<=w.heap.size)
  (h:∀ v' w1,oJ L v' (xs ++ [y]) w1->Below L w w1->(∀ k,k < w.heap.size->v.ownBlock≠some k->w1.heap[k]?=w.heap[k]?)->K (a.put op.dst v') w1):if Region.wanted op (yielded ops a.tmps)=true then Oper.wp Tryz.prog op a w K Q else E:=by
 subst hT;subst hcs;obtain ⟨S,hO,hS⟩:=ht;obtain ⟨Sy,hY,Gu⟩:=hy;refine eU (ops:=ops) hgd s x ho hO hs hG hx hY.rd (fun k hk => ⟨by have:=(Gu k hk).2.1;omega,fun e => by have:=hyo k e;have:=(Gu k hk).1;omega⟩) hn hB ?_;intro v' w1 h1 _ h3 h4;refine h v' w1 ⟨_,h1,fun k hk => ?_⟩ h3 (fun k hk hne => h4 k hk hne);have hkw:k < w.heap.size/\v.ownBlock≠some k/\L<=k/\jQ w k:=hk.elim (fun hs => ⟨(hO.sep k hs).1,(hO.sep k hs).2,(hS k hs).1,(hS k hs).2⟩) (fun hs => ⟨by have:=(Gu k hs).2.1;omega,fun e => by have:=hyo k e;have:=(Gu k hs).1;omega,by have:=(Gu k hs).1;omega,(Gu k hs).2.2⟩);exact ⟨hkw.2.2.1,jQ.to (h4 k hkw.1 hkw.2.1) hkw.2.2.2⟩
structure UR (w:World) (gr:Nat) (tv:Value) (path:List Int) (x:ay) (C1:Option Addr) (l1:Nat) (C2:Option Addr) (l2:Nat) (fs:List kP) (Af:Option Addr) (cf gV:Nat) (vi vr:Value) (fp:Value) (fn:Int) (wr:World):Prop where
 X:Has wr w.heap.size 72 #[.int .i64 5,.string ⟨x.name.toArray⟩,.int .i64 x.low,.int .i64 x.high,.int .i64 x.max,.slice C1 x.syms.length l1,.slice C2 x.ah.length l2,.int .i64 x.key,.int .i64 x.elem,.bool x.opn]
 Z:Has wr (w.heap.size+1) 34 #[.int .i64 0,.bool false,.int .i64 0,.string ⟨#[]⟩,.int .i64 0,.slice none 0 0,.slice none 0 0,.slice none 0 0]
 V:Has wr gV 34 #[.int .i64 5,.bool false,.int .i64 0,.string ⟨#[]⟩,.int .i64 0,.slice none 0 0,vi,vr]
 R:nS wr gr tv fp fn path none
 KP:cZ w gr wr
 fS1:jJ (fun w => w.ownsRow 0 167 3 (.slice Af fs.length cf) fs.length (wZ fs)) wr (w.heap.size+2) gV
 lo:w.heap.size+1 < gV
theorem zAf {p:Prop} (h:p:=by exact ⟨M.out.cell 0,⟨M.out.cell 2,(TB.out _ fS1.out.now)⟩⟩):p:=h
theorem zAg {p:Prop} (h:p:=by exact ⟨V.out.cell 6,⟨M.out.cell 5,⟨M.out.cell 6,⟨M.out.cell 7,⟨M.out.cell 8,⟨M.out.cell 9,⟨M.out.cell 10,⟨M.out.cell 11,M.out.cell 12⟩⟩⟩⟩⟩⟩⟩⟩):p:=h
theorem zDl {p:Prop} (h:p:=by
 obtain ⟨X,Z,V,M,fS1,LI,N⟩:=f7 X Z V M fS1 LI N (eR Fa);replace R:=rR R I Fa.symm (by decide) (by omega);replace KP:=vU KP hgr Fa.symm (by omega);replace I:=dV I Fa;clear Fa;(try clear jl);refine hK.out _ _ zAf (fun jl => ?_);clear hK K;refine tk 16 ?_;refine EK (by kernel_rfl) ?_ _;(try clear jl);go_wp2_with fail;go_meet
 have hBl:=N.out.le;exact ⟨rfl,⟨_,_,_,_,_,_,_,_,_,_,_,_,_,_,rfl,rfl,rE,I.out,R.out,N.out,by omega,by omega,by omega⟩,KP,X.out,Z.out,V.out,fS1.out,LI.out⟩):p:=h
theorem zDq {p:Prop} (h:p:=by
 go_wp2_with (refine z_ rfl 34 _ _ rfl (w.heap.size+1) _ rfl rfl 34 _ TI.out (by kernel_rfl) rfl h1' ?_)
 obtain ⟨z0,z1,z2,z3,z4,z5,z6,z7⟩:=(kF TI.out #[c0,c1,c2,c3,c4,c5,c6,c7]).c8;refine w_ (v:=.tuple #[.agg #[c0,c1,c2,c3,c4,c5,c6,c7],.bool false]) (by simp [results,Tryz.results83,go_sem,z0,z1,z2,z3,z4,z5,z6,z7]) rfl ?_;rw [HR.out];obtain ⟨h51,h52,_⟩:=H5.out;exact ⟨fp',fn',HR8.out _,vU HK7.out hgr rfl (by omega),h51,HF8.out _ _ _ h52,_,_,_,_,_,_,_,_,h1,rfl⟩):p:=h
theorem Zk
 (ts:List ay) (tv:Value) (gr:Nat) (fp:Value) (fn:Int) (path:List Int) (p:List UInt8) (rec:Int->List UInt8->List Int->mX) (x:ay) (vs vm:Value) (w:World) (hk:x.kind=5) (hp:path.length < 200) (hpl:p.length<=800000)
 (R:lC w gr tv fp fn path) (ht:aU w gr tv ts) (hx:jc w gr x vs vm) (HP:Iq ts gr tv rec path) (hm:x.ah.length<=1000/\∀ m ∈ x.ah,(bM ts m.ty).isSome=true) :
 Calls Tryz.prog 83 #[.pointer (some ⟨gr,0,none⟩),dA x vs vm,.string ⟨p.toArray⟩] w (eu gr tv path w (fH rec x p path)):=by
 have HI:=f_ (fun W => Zl p (by omega) W);have Ey:=f_ (fun I h => abk (p:=p) (I:=I) h);have hml:=hm.1;obtain ⟨C1,l1,C2,l2,rfl,rfl,-,-⟩:=hx.forms;have HX:=f_ hx;have HT:=f_ ht;have Tt:=f_ HP;have HM:=f_ hm;have mY:=f_ hk;have hxs:=hx.lens;clear hx ht HP hm;have hgr:=R.here;replace R:=f_ (nS.of R);have KP:=cZ.refl w gr;go_enter Tryz.func83,Tryz.ntmps83
 go_upto_region 1 with fail;refine jg (fun wd2 hb1 X Z => ?_);replace R:=rB R hb1;replace KP:=kB KP hgr hb1;clear hb1;cases ha:Dx p with
 | none =>
  have HR:Hid (fH rec x p path = .error (path,1)):=by show _=_;simp [fH,mY.out,ha]
  simp only [ha] at HI;clear ha;go_wp2_with fail;((with_reducible refine (HI.out _).mono ?_);rintro e wd3 ⟨rfl,hb4⟩);obtain ⟨X,Z⟩:=b2 X Z hb4;replace R:=rB R hb4;replace KP:=kB KP hgr hb4;clear hb4;go_upto_region 3 with fail;have hz:=Z.out.here;go_wp2_with fail;((with_reducible refine (kD gr _ _ _ path 1 _ (by omega) R.out.at_).mono ?_);rintro e fG hp);obtain ⟨c0,c1,c2,c3,c4,c5,c6,c7,bb,h1',rfl⟩:=hp.form;have Z2:=lK Z hp.keep (by omega) (by decide);go_wp2_with (refine z_ rfl 34 _ _ rfl (w.heap.size+1) _ rfl rfl 34 _ Z2.out (by kernel_rfl) rfl (by simpa using h1') ?_)
  obtain ⟨z0,z1,z2,z3,z4,z5,z6,z7⟩:=(kF Z2.out #[c0,c1,c2,c3,c4,c5,c6,c7]).c8;exact w_ (v:=.tuple #[.agg #[c0,c1,c2,c3,c4,c5,c6,c7],.bool bb]) (by simp [results,Tryz.results83,go_sem,z0,z1,z2,z3,z4,z5,z6,z7]) rfl (by rw [HR.out];exact hp.tail KP hgr (by omega) hz Z2.out (by decide))
 | some fs =>
  have HL:Hid (∀ q ∈ fs,q.id<=1000/\q.data.length<=p.length):=f_ (Ey.out fs ha);simp only [ha] at HI;have HD:Hid (fH rec x p path=Kt x.ah.length (E8 rec x fs path) (qQ x path fs [])):=by
   show _=_;simp only [fH,mY.out,ha];rw [g_ (by decide),g_ (by decide),g_ (by decide),g_ (by decide),r_ trivial];unfold Kt;cases nR (E8 rec x fs path) x.ah.length 0 [] with
   | error e => rfl
   | ok is =>
    simp only [];cases qQ x path fs [] <;> rfl
  clear ha Ey;have hS0:=Z.out.here;go_wp2_with fail;((with_reducible refine (HI.out _).mono ?_);rintro e wd3 ⟨vl,rfl,hll,hown,hb4⟩);obtain ⟨X,Z⟩:=b2 X Z hb4;replace R:=rB R hb4;replace KP:=kB KP hgr hb4;clear hb4 HI;obtain ⟨Af,cf,rfl⟩:=jF hown;have fS1:=f_ ((jJ.own (sF hown (show w.heap.size+2<=_ from hS0)) (by decide)).imp fun _ h => sF h (Vt _));clear hown hS0;obtain ⟨aK,bJ,bY,bZ,dL,eX,bU,dD,dM,dU⟩:=X.out.c10;go_upto_region 5 with fail;clear aK bJ bY bZ dL eX bU dD dM dU;refine aO (fun wL hb5 V => ?_);have mO:=X.out.here;have kH:=Z.out.here;have oC:=fS1.out.le;have sH:=KP.size;obtain ⟨X,Z,fS1⟩:=b3 X Z fS1 hb5;replace R:=rB R hb5;replace KP:=kB KP hgr hb5;clear hb5;generalize wd3.heap.size=g7 at *;obtain ⟨gV,rfl⟩ : ∃ g,g=g7:=⟨_,rfl⟩
  have hl0:Hid (UR w gr tv path x C1 l1 C2 l2 fs Af cf gV (.slice none 0 0) (.slice none 0 0) fp fn wL) :=
   f_ ⟨X.out,Z.out,V.out,R.out,KP,fS1.out,by omega⟩
  have bU:=X.out.e6;go_upto_region 6 with fail;clear X Z V R KP fS1 bU;go_loopw [41] (fun i wr => ∃ k:Nat,k<=x.ah.length/\i = .int .i64 (k:Int)/\∃ (fp:Value) (fn:Int) (va:Value) (acc:List Val),UR w gr tv path x C1 l1 C2 l2 fs Af cf gV va (.slice none 0 0) fp fn wr/\oJ (gV+1) va acc wr/\acc.length=k/\nR (E8 rec x fs path) x.ah.length 0 []=nR (E8 rec x fs path) (x.ah.length - k) k acc) (fun i _ => x.ah.length - (intOf i).toNat)
  case atStart => exact ⟨0,by omega,rfl,_,_,_,[],hl0.out,oJ.nil _ _,rfl,rfl⟩
  case round =>
   clear hl0;obtain ⟨k,hk1,rfl,N7,N8,va,acc,⟨X,Z,V,R,KP,TA,Gs⟩,hL,hacc,hseq⟩:=hrel;replace R:=f_ R;replace X:=f_ X;replace Z:=f_ Z;replace V:=f_ V;have fS1:=f_ (TA);clear TA;by_cases hlt:k < x.ah.length
   .
    have hvl:Hid (∀ j,va.ownBlock=some j->gV+1<=j/\j < wr.heap.size):=f_ (fun j hj => ⟨(hL.lt j hj).1,(hL.lt j hj).2.1⟩);have hLk:=hL.kept;have hgz:=V.out.here;obtain ⟨hz,hzE⟩ : ∃ hz,wr.heap.size=hz:=⟨_,rfl⟩
    rw [hzE] at hLk hvl hgz;clear hzE hL;have LI:=f_ (hLk);clear hLk;obtain ⟨b2,o2,rfl,Ew,hel⟩:=HX.out.ah.elem (by omega);obtain ⟨dk,di,dr,A_,hma⟩:=hel k hlt;have hcr:=A_.alQ KP.low Ew;have HMk:=f_ (HM.out.2 x.ah[k] (o_ hlt));have hn1:x.ah.length - k=(x.ah.length - (k+1))+1:=by omega
    rw [hn1] at hseq;have BO:=fun v h => hseq.trans (Nw (v:=v) ((Yq hlt).trans h));have BP:=fun e h => hseq.trans (Ja (e:=e) ((Yq hlt).trans h));have xO:(k:Int) < x.ah.length:=by omega
    have hd0:decide ((k:Int) < 0)=false:=by simp
    have hd1:decide (x.ah.length<=k)=false:=by simpa using hlt
    generalize x.ah[k]=m at *;obtain ⟨D1,f1,D2,f2,D3,f3,rfl,rfl,rfl,-,-,-⟩:=hma.dflt.forms;obtain ⟨c0,c1,c2,c3,c4,c5,c6,c7,c8,c9,c10,c11,c12⟩:=hcr;have HMA:=f_ hma;have J6:=f_ BO;have J7:=f_ BP;have yM:=f_ hacc;clear A_ hel hma hseq BO BP hacc hn1;go_upto_region 8 with fail;clear c0 c1 c2 c3 c4 c5 c6 c7 c8 c9 c10 c11 c12 hd0 hd1;refine aO (fun dQ fV M => ?_);have qA:=X.out.here;have pz:=Z.out.here;have sO:=V.out.here;have sW:=fS1.out.le;have Az:=LI.out.le;have BQ:=KP.size;obtain ⟨X,Z,V,fS1,LI⟩:=b5 X Z V fS1 LI fV;replace R:=rB R fV;replace KP:=kB KP hgr fV;clear fV;generalize wr.heap.size=g14 at *;obtain ⟨gM,rfl⟩ : ∃ g,g=g14:=⟨_,rfl⟩
    have HF:=f_ (fun W h1 h2 h3 => Zm fs (.slice Af fs.length cf) gM m.id W (by omega) h1 h2 h3);cases hfi:fidx fs m.id with
    | some j =>
     obtain ⟨hjl,hfa⟩:=abn hfi;obtain ⟨gf,cf',hvf⟩:=Ve fS1.out.now (by omega);injection hvf with hv1 hv2 hv3;subst hv1;subst hv3;clear hv2;simp only [hfi,Jc] at HF;clear hfi;go_wp2_with fail;have hm0:dQ.cell? ⟨gM,0,none⟩=some (.int .i64 m.id):=M.out.cell 0;((with_reducible refine (HF.out _ (Rd.uX fS1.out.now) hm0 M.out.here).mono ?_);rintro e jU ⟨rfl,ng⟩);obtain ⟨X,Z,V,M,fS1,LI⟩:=b6 X Z V M fS1 LI ng;replace R:=rB R ng;replace KP:=kB KP hgr ng;clear ng HF hm0;have hmm:Ku rec fs path m=rec m.ty fs[j].data (path ++ [m.id]):=by unfold Ku;rw [hfa]
     rw [hmm] at J6 J7;have hfl:=(HL.out fs[j] (o_ hjl)).2;have HPQ:=f_ (fun (W:World) (fp':Value) (fn':Int) h1 h2 => Tt.out W fp' fn' m.id m.ty fs[j].data h1 h2 HMk.out (by omega));have TB:=f_ (fun (W:World) h => (abm (W:=W) (g:=gf) (n:=fs.length) (n':=fs.length) (c:=cf) h hjl).2.2);generalize rec m.ty fs[j].data (path ++ [m.id])=q at *;generalize fs[j].data=dt at *;have apf:(j:Int) < fs.length:=by omega
     have hd0:decide ((j:Int) < 0)=false:=by simp
     have hd1:decide (fs.length<=j)=false:=by simpa using hjl
     clear hmm hfa;go_upto_region 14 with fail;go_cut [14,15,41] from 41 to 116 (fun sa sb sc wx => sc = .int .i64 (k:Int)/\Qk wx gr tv path q (hz - 1) sa sb/\cZ w gr wx/\Has wx w.heap.size 72 #[.int .i64 5,.string ⟨x.name.toArray⟩,.int .i64 x.low,.int .i64 x.high,.int .i64 x.max,.slice C1 x.syms.length l1,.slice (some ⟨b2,o2,none⟩) x.ah.length l2,.int .i64 x.key,.int .i64 x.elem,.bool x.opn]/\Has wx (w.heap.size+1) 34 #[.int .i64 0,.bool false,.int .i64 0,.string ⟨#[]⟩,.int .i64 0,.slice none 0 0,.slice none 0 0,.slice none 0 0]/\Has wx gV 34 #[.int .i64 5,.bool false,.int .i64 0,.string ⟨#[]⟩,.int .i64 0,.slice none 0 0,va,.slice none 0 0] /\
      jJ (fun w => w.ownsRow 0 167 3 (.slice (some ⟨gf,0,none⟩) fs.length cf) fs.length (wZ fs)) wx (w.heap.size+2) gV/\jJ (oJ (gV+1) va acc) wx (gV+1) hz)
     case first =>
      have iU:=M.out.e0;have je:=M.out.e2;refine yH (S:=(fun w' => w'.cell? ⟨gM,0,none⟩=some (.int .i64 m.id)/\w'.cell? ⟨gM,2,none⟩=some (.int .i64 m.ty)/\(w'.cell? ⟨gf,j*3+2,none⟩=some (.string ⟨dt.toArray⟩)))) (by kernel_rfl) ⟨iU,je,(TB.out _ fS1.out.now)⟩ (fun jl => ?_);clear iU je;have oG:Below jU.heap.size jU (jU.drew):=(j_ _ _).drew;obtain ⟨X,Z,V,M,fS1,LI⟩:=b6 X Z V M fS1 LI oG;replace R:=rB R oG;replace KP:=kB KP hgr oG;clear oG;generalize jU.drew=xP at *;refine tk 0 ?_;refine tk 1 ?_;refine tk 2 ?_;refine tk 3 ?_;refine tk 4 ?_;refine tk 5 ?_;refine tk 6 ?_;refine tk 7 ?_;refine tk 8 ?_;refine tk 9 ?_;refine Jh (rs:=[10,14]) (by kernel_rfl) (by simp) ?_;refine B_ rfl (fun K hK => ?_) (B_ rfl (fun K hK => ?_) (G_))
      .
       skip
       go_simp;have Et:=X.out.here;have J8:=Z.out.here;have J9:=V.out.here;have RJ:=M.out.here;have OT:=fS1.out.le;have RN:=LI.out.le;have Vb:=KP.size;((with_reducible refine (HPQ.out _ _ _ R.out.at_ (HT.out.keep (fun _ hp => KP.low.cell hp) (b_ _))).mono ?_);rintro e pF alR);obtain ⟨apg,aph,pR,pU,pV,pW,pX,pY,qc,qg,EZ,rE,rfl,alS,Kv,N⟩:=alR.take;replace X:=lK X Kv (by omega) (by decide);replace Z:=lK Z Kv (by omega) (by decide);replace V:=lK V Kv (by omega) (by decide);replace M:=lK M Kv (by omega) (by decide);replace fS1:=nT fS1 Kv (by omega);replace LI:=nT LI Kv (by omega);replace R:=f_ alS;replace KP:=KP.trans Kv;replace N:=f_ N;clear Kv;have zh:(#[pR,pU,pV,pW,pX,pY,qc,qg] : Array Value).all (·.oneCell')=true:=by simpa using rE
       generalize xP.heap.size=L26 at *;(try clear jl);refine hK.out _ _ zAf (fun jl => ?_);clear hK K;refine tk 11 ?_;refine tk 12 ?_;refine tk 13 ?_;refine iE 14 fun K hK => ?_;go_simp;refine aO (fun alT Zn I => ?_);have Zo:=X.out.here;have ahK:=Z.out.here;have alU:=V.out.here;have alV:=M.out.here;have alW:=fS1.out.le;have alX:=LI.out.le;have alY:=N.out.le;have alZ:=KP.size;obtain ⟨X,Z,V,M,fS1,LI,N⟩:=b7 X Z V M fS1 LI N Zn;replace R:=rB R Zn;replace KP:=kB KP hgr Zn;clear Zn;generalize pF.heap.size=g41 at *;(try clear jl);refine hK.out _ _ zAf (fun jl => ?_);clear hK K;refine iE 15 fun K hK => ?_;refine eY (by rfl) 34 _ _ (by rfl) (g41) #[pR,pU,pV,pW,pX,pY,qc,qg] (by rfl) (by rfl) 34 _ I.out (by kernel_rfl) rfl (by first | assumption | simp [Value.oneCell']) ?_;generalize Fa:alT.setRow _ _=al0;exact zDl
      skip
      go_simp;refine aO (fun yg rH I => ?_);have sK:=X.out.here;have uO:=Z.out.here;have uh:=V.out.here;have Bc:=M.out.here;have Et:=fS1.out.le;have J8:=LI.out.le;have J9:=KP.size;obtain ⟨X,Z,V,M,fS1,LI⟩:=b6 X Z V M fS1 LI rH;replace R:=rB R rH;replace KP:=kB KP hgr rH;clear rH;generalize xP.heap.size=N9 at *;(try clear jl);refine hK.out _ _ zAf (fun jl => ?_);clear hK K;refine iE 10 fun K hK => ?_;go_simp;have Zo:=X.out.here;have ahK:=Z.out.here;have alU:=V.out.here;have alV:=M.out.here;have alW:=I.out.here;have alX:=fS1.out.le;have alY:=LI.out.le;have alZ:=KP.size;((with_reducible refine (HPQ.out _ _ _ R.out.at_ (HT.out.keep (fun _ hp => KP.low.cell hp) (b_ _))).mono ?_);rintro e vT al1);obtain ⟨apj,apk,pR,pU,pV,pW,pX,pY,qc,qg,EZ,rE,rfl,al4,Jd,N⟩:=al1.take;replace X:=lK X Jd (by omega) (by decide);replace Z:=lK Z Jd (by omega) (by decide);replace V:=lK V Jd (by omega) (by decide);replace M:=lK M Jd (by omega) (by decide);replace I:=lK I Jd (by omega) (by decide);replace fS1:=nT fS1 Jd (by omega);replace LI:=nT LI Jd (by omega);replace R:=f_ al4;replace KP:=KP.trans Jd;replace N:=f_ N;clear Jd;have zh:(#[pR,pU,pV,pW,pX,pY,qc,qg] : Array Value).all (·.oneCell')=true:=by simpa using rE
      generalize yg.heap.size=L36 at *;(try clear jl);refine hK.out _ _ zAf (fun jl => ?_);clear hK K;refine tk 11 ?_;refine tk 12 ?_;refine tk 13 ?_;refine iE 15 fun K hK => ?_;refine eY (by rfl) 34 _ _ (by rfl) (N9) #[pR,pU,pV,pW,pX,pY,qc,qg] (by rfl) (by rfl) 34 _ I.out (by kernel_rfl) rfl (by first | assumption | simp [Value.oneCell']) ?_;generalize Fa:vT.setRow _ _=al0;exact zDl
     case rest =>
      clear fS1 LI X Z V R KP M TB hd0 hd1;obtain ⟨rfl,⟨gI,fp',fn',pR,pU,pV,pW,pX,pY,qc,qg,EZ,LN,BN,rfl,rfl,rE,I,R,hN,hLN,hgI,hLB⟩,KP,X,Z,V,TA,Tz⟩:=hcut;have zh:(#[pR,pU,pV,pW,pX,pY,qc,qg] : Array Value).all (·.oneCell')=true:=by simpa using rE
      replace R:=f_ R;replace X:=f_ X;replace Z:=f_ Z;replace V:=f_ V;replace I:=f_ I;have fS1:=f_ (TA);have LI:=f_ (Tz);have N:=f_ (hN);clear TA Tz hN;obtain ⟨iF,iG,iH,iI,gY,gU,dH,iq⟩:=I.out.c8;have hN:=N.out.now;have hNl:=N.out.le;cases q with
      | error pn =>
       obtain ⟨p',n'⟩:=pn;obtain ⟨rfl,hf⟩:=hN;have HR:Hid (fH rec x p path = .error (p',n')):=by show _=_;rw [HD.out,Vd (J7.out _ rfl)]
       have hf:=f_ hf;go_upto_region 16 with fail;go_wp2_with (refine sR Z.out ?_)
       clear iF iG iH iI gY gU dH iq;generalize o8:wc.setRow _ _=o9;obtain ⟨X,V,I,fS1,LI,N⟩:=f6 X V I fS1 LI N (eR o8);replace R:=rR R Z o8.symm (by decide) (by omega);replace KP:=vU KP hgr o8.symm (by omega);replace Z:=dV Z o8;clear o8;exact w_ (v:=.tuple #[.agg #[pR,pU,pV,pW,pX,pY,qc,qg],.bool false]) (by simp [results,Tryz.results83,go_sem,Z.out.c8]) rfl (eu.bad HR.out R KP hf.out rE)
      | ok v =>
       obtain ⟨rfl,JW,vi1,vr1,hc,hv⟩:=hN;have U8:Hid ((#[pR,pU,pV,pW,pX,pY,qc,qg] : Array Value)=(oD v JW vi1 vr1).toArray):=by show _=_;rw [<- hc]
       have HV:=f_ hv;clear hc hv;have aP:=V.out.e6;have BG:=LI.out.now;have hIw:=I.out.here;have hlv:=fun j hj => BG.lt j hj;go_upto_region 20 with (at_builtin;refine wX rfl _ _ rfl rfl U8.out BG rfl rfl HV.out (fun j hj => by have:=(hvl.out j hj).2;omega) hNl (by omega) (by have:=yM.out;omega) (by omega) ?_;intro v' w3 hL3 hb3 hg3;obtain ⟨An,cn,hvv⟩:=hL3.form;obtain rfl:v' = .slice An (acc.length+1) cn:=(by rw [hvv,m_];rfl);clear hvv;have V3:=dG V hg3 (fun hh => by have:=(hvl.out _ hh).1;omega);have v36:w3.cell? ⟨gV,6,none⟩=some va:=V3.out.cell 6;have f36:=V3.out.free 6)
       clear BG v36 f36 V3 N LI iF iG iH iI gY gU dH iq aP;replace X:=dG X hg3 (fun hh => by have:=hvl.out _ hh;omega);replace Z:=dG Z hg3 (fun hh => by have:=hvl.out _ hh;omega);replace V:=dG V hg3 (fun hh => by have:=hvl.out _ hh;omega);replace I:=dG I hg3 (fun hh => by have:=hvl.out _ hh;omega);replace fS1:=nG fS1 hg3 (fun k hh => by have:=hvl.out k hh;omega) hb3.size;replace R:=rG R hg3 (fun j hj => ⟨by have:=(hlv j hj).1;omega,(hlv j hj).2.2⟩);replace KP:=KP.above hb3 (by omega) (by omega);clear hlv;have LJ:=f_ (hL3.kept);clear hL3;generalize o8:w3.setCell _ _=o9;obtain ⟨X,Z,I,fS1,LJ⟩:=f5 X Z I fS1 LJ (eF o8);replace R:=rF R V o8.symm (by decide) (by omega);replace KP:=kS KP hgr o8.symm (by omega);replace V:=qM V o8;clear o8;go_wp2_with fail;go_roundw
       case rel => exact ⟨k+1,by omega,by go_num,_,_,_,acc ++ [v],⟨X.out,Z.out,V.out,R.out,KP,fS1.out,Gs⟩,LJ.out.now,by rw [m_,yM.out];rfl,J6.out v rfl⟩
       case measure => simp [intOf];omega
    | none =>
     simp only [hfi,Jc] at HF;have hfn:=abo hfi;clear hfi;go_wp2_with fail;have hm0:dQ.cell? ⟨gM,0,none⟩=some (.int .i64 m.id):=M.out.cell 0;((with_reducible refine (HF.out _ (Rd.uX fS1.out.now) hm0 M.out.here).mono ?_);rintro e jU ⟨rfl,ng⟩);obtain ⟨X,Z,V,M,fS1,LI⟩:=b6 X Z V M fS1 LI ng;replace R:=rB R ng;replace KP:=kB KP hgr ng;clear ng HF hm0;cases hdf:m.eG with
     | true =>
      have hmm:Ku rec fs path m = .ok m.dflt:=by unfold Ku;rw [hfn,hdf];rfl
      have Ql:=f_ (J6.out _ hmm);have kK:=M.out.e4;rw [hdf] at kK;clear hmm hfn J6 J7 hdf;go_upto_region 19 with fail;have aP:=V.out.e6;obtain ⟨-,-,-,-,-,qU,qV,qW,qX,qY,oK,oL,oM⟩:=M.out.c13;refine l9 (S:=(fun w' => w'.cell? ⟨gV,6,none⟩=some (va)/\w'.cell? ⟨gM,5,none⟩=some (.int .i64 m.dflt.kind)/\w'.cell? ⟨gM,6,none⟩=some (.bool m.dflt.bool)/\w'.cell? ⟨gM,7,none⟩=some (.int .i64 m.dflt.num)/\w'.cell? ⟨gM,8,none⟩=some (.string ⟨m.dflt.str.toArray⟩)/\w'.cell? ⟨gM,9,none⟩=some (.int .i64 m.dflt.id)/\w'.cell? ⟨gM,10,none⟩=some (.slice D1 m.dflt.keys.length f1)/\w'.cell? ⟨gM,11,none⟩=some (.slice D2 m.dflt.items.length f2)/\w'.cell? ⟨gM,12,none⟩=some (.slice D3 m.dflt.rest.length f3))) (fun j => j == 8) (by kernel_rfl) ⟨aP,qU,qV,qW,qX,qY,oK,oL,oM⟩ (fun jl => ?_);clear kK aP qU qV qW qX qY oK oL oM;have oG:Below jU.heap.size jU (jU.drew):=(j_ _ _).drew;obtain ⟨X,Z,V,M,fS1,LI⟩:=b6 X Z V M fS1 LI oG;replace R:=rB R oG;replace KP:=kB KP hgr oG;clear oG;generalize jU.drew=xP at *;refine eH 0 ?_;refine eH 1 ?_;refine eH 2 ?_;refine eH 3 ?_;refine gJ 4 fun K hK => ?_;go_simp;obtain ⟨z6,Dn⟩ : ∃ z,z=(xP).heap.size:=⟨_,rfl⟩
      have hzl:=LI.out.le;rw [<- Dn] at hzl;((with_reducible refine (XT _ m.dflt _ _ _ _ (b_ _) (HMA.out.dflt.keep (fun p hp => KP.low.cell hp) (Q_ (vK hgr KP.size)))).mono ?_);rintro e pF ⟨zk,zi,zr,rfl,hcv,AB⟩);obtain ⟨X,Z,V,M,fS1,LI⟩:=b6 X Z V M fS1 LI AB;replace R:=rB R AB;replace KP:=kB KP hgr AB;clear AB;obtain ⟨_,⟨Z1,z1,rfl,_⟩,_⟩:=id hcv.keys;obtain ⟨_,⟨Z2,z2,rfl,_⟩,_⟩:=id hcv.items;obtain ⟨_,Z3,z3,rfl,_⟩:=id hcv.rest;obtain ⟨z7,Fb⟩ : ∃ z,z=(pF).heap.size:=⟨_,rfl⟩
      have HY:=f_ (yh.atN hcv Dn Fb);clear hcv Dn Fb;(try clear jl);refine hK.out _ _ zAg (fun jl => ?_);clear hK K;refine gJ 5 fun K hK => ?_;go_simp;refine aO (fun Eu zo N => ?_);have uh:=X.out.here;have Bc:=Z.out.here;have Et:=V.out.here;have J8:=M.out.here;have J9:=fS1.out.le;have RJ:=LI.out.le;have OT:=HY.out.le;have RN:=KP.size;obtain ⟨X,Z,V,M,fS1,LI,HY⟩:=b7 X Z V M fS1 LI HY zo;replace R:=rB R zo;replace KP:=kB KP hgr zo;clear zo;generalize pF.heap.size=g29 at *;(try clear jl);refine hK.out _ _ zAg (fun jl => ?_);clear hK K;refine gJ 6 fun K hK => ?_;have BG:=LI.out.now;have hlv:=fun j hj => BG.lt j hj;have hyl:=HY.out.le;have hnl:=N.out.here;refine NY (by rfl) _ _ (by rfl) rfl rfl BG (by rfl) N.out (by rfl) HY.out.now (fun j hj => by have:=(hvl.out j hj).2;omega) hyl (by omega) (by have:=yM.out;omega) (by omega) ?_;intro v' w3 hL3 hb3 hg3;obtain ⟨An,cn,hvv⟩:=hL3.form;obtain rfl:v' = .slice An (acc.length+1) cn:=(by rw [hvv,m_];rfl)
      clear hvv BG N LI HY;replace X:=dG X hg3 (fun hh => by have:=hvl.out _ hh;omega);replace Z:=dG Z hg3 (fun hh => by have:=hvl.out _ hh;omega);replace V:=dG V hg3 (fun hh => by have:=hvl.out _ hh;omega);replace M:=dG M hg3 (fun hh => by have:=hvl.out _ hh;omega);replace fS1:=nG fS1 hg3 (fun k hh => by have:=hvl.out k hh;omega) hb3.size;replace R:=rG R hg3 (fun j hj => ⟨by have:=(hlv j hj).1;omega,(hlv j hj).2.2⟩);replace KP:=KP.above hb3 (by omega) (by omega);clear hlv;have LJ:=f_ (hL3.kept);clear hL3;(try clear jl);refine hK.out _ _ zAg (fun jl => ?_);clear hK K;refine eH 7 ?_;refine pG 8 fun K hK => ?_;have aP:=V.out.e6;have sZ:=V.out.free 6;go_simp;clear aP sZ;generalize Vg:w3.setCell _ _=ahL;obtain ⟨X,Z,M,fS1,LJ⟩:=f5 X Z M fS1 LJ (eF Vg);replace R:=rF R V Vg.symm (by decide) (by omega);replace KP:=kS KP hgr Vg.symm (by omega);replace V:=qM V Vg;clear Vg;(try clear jl);refine hK.out _ _ ?_;clear hK K;refine iy (by kernel_rfl) ?_ _;(try clear jl);go_wp2_with fail;go_roundw
      case rel => exact ⟨k+1,by omega,by go_num,_,_,_,acc ++ [m.dflt],⟨X.out,Z.out,V.out,R.out,KP,fS1.out,Gs⟩,LJ.out.now,by rw [m_,yM.out];rfl,Ql.out⟩
      case measure => simp [intOf];omega
     | false =>
      have hmm:Ku rec fs path m = .error (path ++ [m.id],7):=by unfold Ku;rw [hfn,hdf];rfl
      have HR:Hid (fH rec x p path = .error (path ++ [m.id],7)):=by show _=_;rw [HD.out,Vd (J7.out _ hmm)]
      have kK:=M.out.e4;rw [hdf] at kK;clear hmm hfn J6 J7 hdf;go_upto_region 9 with fail;obtain ⟨⟨pv,hrow,hown⟩,-⟩:=R.out;obtain ⟨Ap,cp,rfl⟩:=jF hown;have HO:=f_ hown;obtain ⟨wp,rfl⟩ : ∃ wp,wp=jU:=⟨_,rfl⟩
      have HKP:=f_ KP;have hgp:gr < wp.heap.size:=hrow.here;have hzp:w.heap.size+1 < wp.heap.size:=Z.out.here;replace Z:=Z.out;replace M:=M.out;clear R KP hown;replace Z:=f_ Z;replace M:=f_ M;replace hrow:=f_ hrow;go_upto_region 9 with fail;obtain ⟨i0,hi,hz0,hz1,hz2⟩:=info_parts oP;have uJ:=hrow.out.e1;have iU:=M.out.e0;refine l9 (S:=(fun w' => w'.cell? ⟨gr,1,none⟩=some (.slice Ap path.length cp)/\w'.cell? ⟨gM,0,none⟩=some (.int .i64 m.id))) (fun j => j == 9 || j == 10 || j == 11) (by kernel_rfl) ⟨uJ,iU⟩ (fun jl => ?_);clear uJ iU;have oG:Below wp.heap.size wp (wp.drew):=(j_ _ _).drew;obtain ⟨Z,M,hrow⟩:=b3 Z M hrow oG;have RP:=oG;clear oG;generalize wp.drew=xP at *;refine eH 0 ?_;refine eH 1 ?_;refine eH 2 ?_;refine eH 3 ?_;refine eH 4 ?_;refine eH 5 ?_;refine eH 6 ?_;refine gJ 7 fun K hK => ?_;go_simp;refine aO (fun Bd AB NB => ?_);have uO:=Z.out.here;have uh:=M.out.here;have Bc:=hrow.out.here;have Et:=RP.size;obtain ⟨Z,M,hrow⟩:=b3 Z M hrow AB;replace RP:=dT RP AB;clear AB;generalize xP.heap.size=g28 at *;(try clear jl);refine hK.out _ _ (⟨hrow.out.cell 1,M.out.cell 0⟩) (fun jl => ?_);clear hK K;refine gJ 8 fun K hK => ?_;have Iu:=own_below HO.out RP;have hKa:cZ wp gr Bd:=cZ.of_below RP (Q_ hgp);have hsp:=(RP).size;refine step_append_lies (P:=Tryz.prog) _ (by rfl) _ _ _ (by rfl) (gr+1) 3 i0 _ 1 8 Tryz.underlying57 hi hz0 hz1 hz2 rfl (by decide) (.slice Ap path.length cp) path.length _ (by rfl) Iu ⟨g28,0,none⟩ 1 1 [.int .i64 m.id] (by rfl) (by rfl) (World.news_of_block NB.out) (by simp [Value.oneCell']) (by omega) (by simp only [maxLen];omega) (by omega) (by omega) _ rfl ?_
      intro g2 cap2 w3 hown3 hg3 RQ adE;have K3:=hKa.trans (cZ.grown hg3 Iu (O1 gr) (by omega));clear NB;replace Z:=dG Z (fun k h1 h2 => hg3.block k h1 (fun e => h2 e.symm)) (wV Iu Z.out (by decide));replace M:=dG M (fun k h1 h2 => hg3.block k h1 (fun e => h2 e.symm)) (wV Iu M.out (by decide));replace hrow:=dG hrow (fun k h1 h2 => hg3.block k h1 (fun e => h2 e.symm)) (wV Iu hrow.out (by decide));clear hg3 RQ adE hKa Iu hsp;(try clear jl);refine hK.out _ _ (⟨hrow.out.cell 1,M.out.cell 0⟩) (fun jl => ?_);clear hK K;refine pG 9 fun K hK => ?_;go_simp;(try clear jl);refine hK.out _ _ ?_;clear hK K;refine pG 10 fun K hK => ?_;go_simp;(try clear jl);refine hK.out _ _ ?_;clear hK K;refine pG 11 fun K hK => ?_;have uJ:=hrow.out.e1;have RS:=hrow.out.free 1;go_simp;obtain ⟨w4,hE⟩ : ∃ ww,ww=w3.setCell ⟨gr,1,none⟩ (.slice (some ⟨g2,0,none⟩) (path.length+1) cap2):=⟨_,rfl⟩
      rw [<- hE];have K4:cZ w gr w4:=HKP.out.trans (hE ▸ K3.trans (cZ.setCell _ _ _ _));have O4:=vP hown3 (O1 gr) 1 (.slice (some ⟨g2,0,none⟩) (path.length+1) cap2);rw [<- hE] at O4;have Z4:=dF Z hE (show w.heap.size+1≠gr by omega);have R4:Has w4 gr 111 #[tv,.slice (some ⟨g2,0,none⟩) (path.length+1) cap2,N7,.int .i64 N8]:=by simpa using dS hrow hE
      clear uJ RS;(try clear jl);refine hK.out _ _ ?_;clear hK K;refine iy (by kernel_rfl) ?_ _;(try clear jl);have R4a:lC w4 gr tv N7 N8 (path ++ [m.id]):=⟨_,R4,by simpa [zq] using O4⟩
      clear hE K3 hown3 hrow Z R4 O4;go_wp2_with fail;refine (kD gr _ _ _ (path ++ [m.id]) 7 _ (by simp;omega) R4a).mono ?_;intro e w5 h5;obtain ⟨c0,c1,c2,c3,c4,c5,c6,c7,bb,h1,rfl⟩:=h5.form;obtain ⟨fp',fn',⟨pv5,TD,TF⟩,K5,h5'⟩:=h5;have H5:=f_ h5';clear h5';have M5:=Has.made w5 34 #[.int .i64 0,.bool false,.int .i64 0,.string ⟨#[]⟩,.int .i64 0,.slice none 0 0,.slice none 0 0,.slice none 0 0];have h1':(#[c0,c1,c2,c3,c4,c5,c6,c7] : Array Value).all (·.oneCell')=true:=by simpa using h1
      go_upto_region 11 with (refine z_ rfl 34 _ _ rfl w5.heap.size _ rfl rfl 34 _ M5 (by kernel_rfl) rfl h1' ?_)
      obtain ⟨w6,Gv⟩ : ∃ ww,ww=(w5.alloc (.cells #[.int .i64 0,.bool false,.int .i64 0,.string ⟨#[]⟩,.int .i64 0,.slice none 0 0,.slice none 0 0,.slice none 0 0] 34)).setRow w5.heap.size #[c0,c1,c2,c3,c4,c5,c6,c7]:=⟨_,rfl⟩
      rw [<- Gv];have hs5:=K5.size;have hs4:=K4.size;have B6:Below w5.heap.size w5 w6:=Gv ▸ below_setRow ((j_ w5.heap.size w5).alloc (b_ _) _) (b_ _) _;have M6:=dO (f_ M5) Gv;have R6:Has w6 gr _ _:=(B6.block gr (by omega)).trans TD;have O6:=own_below TF B6;rw [m_,QI] at O6;obtain ⟨g6,cap6,rfl,hcap,TG⟩:=RU O6 (by simp);have r1:w6.cell? ⟨gr,1,none⟩=some (.slice (some ⟨g6,0,none⟩) (path.length+1) cap6):=R6.cell 1;have r2:=R6.free 1;clear Gv M5;have i1:wrap64 (((path.length+1:Nat):Int) - 1)=(path.length:Int):=by unfold wrap64;omega
      have i2:((path.length:Int)).toNat=path.length:=by omega
      have i3:¬ ((path.length:Int) < 0):=by omega
      have i4:path.length<=cap6:=by omega
      have i5:IntKind.i64.wrap (((path.length+1:Nat):Int) - 1)=(path.length:Int):=by rw [TM];omega
      clear O6 hcap;go_region
      obtain ⟨w7,mP⟩ : ∃ ww,ww=(w6.setCell ⟨gr,1,none⟩ (.slice (some ⟨g6,0,none⟩) path.length cap6)).drew:=⟨_,rfl⟩
      rw [<- mP];have hz4:=Z4.out.here;have Z6:Hid (Has w6 (w.heap.size+1) _ _):=f_ ((B6.block (w.heap.size+1) (by omega)).trans ((K5.block (w.heap.size+1) (by omega) (by omega) (fun c f e => by rw [Z4.out] at e;injection e with e1;injection e1 with _ e2;exact absurd e2 (by decide))).trans Z4.out));have M7:Has w7 w5.heap.size 34 #[c0,c1,c2,c3,c4,c5,c6,c7]:=by rw [mP];exact (dF M6 rfl (show w5.heap.size≠gr by omega)).out
      have Z7:Has w7 (w.heap.size+1) 34 #[.int .i64 0,.bool false,.int .i64 0,.string ⟨#[]⟩,.int .i64 0,.slice none 0 0,.slice none 0 0,.slice none 0 0]:=by rw [mP];exact (dF Z6 rfl (show w.heap.size+1≠gr by omega)).out
      have gB6:gr < w5.heap.size:=by omega
      have K6:cZ w gr w6:=K4.trans (K5.trans (cZ.of_below B6 (by omega)));have K7:cZ w gr w7:=by rw [mP];exact (K6.trans (cZ.setCell _ _ _ _)).drew
      have R7:Has w7 gr 111 #[tv,.slice (some ⟨g6,0,none⟩) path.length cap6,fp',.int .i64 fn']:=by rw [mP];exact (dS (f_ R6) (i:=1) (v:=.slice (some ⟨g6,0,none⟩) path.length cap6) rfl).drew
      have O7:w7.ownsRow (gr+1) 3 1 (.slice (some ⟨g6,0,none⟩) path.length cap6) path.length (path.map zq):=by rw [mP];exact vP TG (O1 gr) 1 _
      have F7:∀ n ys,w5.ownsRow (gr+1) 3 1 fp' n ys->w7.ownsRow (gr+1) 3 1 fp' n ys:=fun n ys hy => by rw [mP];exact vP (own_below hy B6) (O1 gr) 1 _
      obtain ⟨m0,m1,m2,m3,m4,m5,m6,m7⟩:=M7.c8;have HR8:Hid (∀ cs',lC (w7.setRow (w.heap.size+1) cs') gr tv fp' fn' path):=f_ fun cs' => (Iw (nS.of ⟨_,R7,O7⟩) Z7 (by decide) (by omega) fun k hk => setRow_other _ _ _ _ hk).at_;have HF8:Hid (∀ n ys cs',w5.ownsRow (gr+1) 3 1 fp' n ys->(w7.setRow (w.heap.size+1) cs').ownsRow (gr+1) 3 1 fp' n ys):=f_ fun n ys cs' hy => qo (F7 n ys hy) fun k hb => setRow_other _ _ _ _ (fun e => wV (F7 n ys hy) Z7 (by decide) (e ▸ hb));have TI:=f_ Z7;have HK7:=f_ K7;clear mP R7 O7 F7 r1 r2 i1 i2 i3 i4 i5 M6 Z6 R6 B6 Z4 TD TF TG K6 Z7 M7 K7 K4 K5;go_upto_region 12 with fail;exact zDq
   obtain rfl:k=x.ah.length:=by omega
   have Fe:Hid (nR (E8 rec x fs path) x.ah.length 0 [] = .ok acc):=by show _=_;rw [hseq,Nat.sub_self];rfl
   have hLk:=hL.kept;have hgz:=V.out.here;obtain ⟨B0,hB0⟩ : ∃ B0,wr.heap.size=B0:=⟨_,rfl⟩
   have apl:B0<=wr.heap.size:=by omega
   rw [hB0] at hLk hgz;obtain ⟨Av,cv,rfl⟩:=hL.form;have yM:=f_ hacc;have hl1:Hid (UR w gr tv path x C1 l1 C2 l2 fs Af cf gV (.slice Av acc.length cv) (.slice none 0 0) N7 N8 wr) :=
    f_ ⟨X.out,Z.out,V.out,R.out,KP,fS1.out,by omega⟩
   have HLk:=f_ hLk;clear X Z V R KP fS1 hL hLk hB0 hseq hacc;go_upto_region 22 with fail;go_loopw [119] (fun i wr => ∃ k:Nat,k<=fs.length/\i = .int .i64 (k:Int)/\∃ (fp:Value) (fn:Int) (vr:Value) (rs:List Raw),UR w gr tv path x C1 l1 C2 l2 fs Af cf gV (.slice Av acc.length cv) vr fp fn wr/\wr.ownsRow B0 102 2 vr rs.length (jO rs)/\rs.length<=k/\(∀ r ∈ rs,yR r)/\qQ x path fs []=qQ x path (fs.drop k) rs/\jJ (oJ (gV+1) (.slice Av acc.length cv) acc) wr (gV+1) B0) (fun i _ => fs.length - (intOf i).toNat)
   case atStart => exact ⟨0,by omega,rfl,_,_,_,[],hl1.out,OU _ _ _ _,b_ _,by simp,rfl,HLk.out⟩
   case round =>
    clear hl1 HLk;obtain ⟨k,hk1,rfl,N7,N8,vr,rs,⟨X,Z,V,R,KP,TA,Gs⟩,hO,hrl,qN,hre,Ir⟩:=hrel;replace R:=f_ R;replace X:=f_ X;replace Z:=f_ Z;replace V:=f_ V;have fS1:=f_ (TA);clear TA;have LK:=f_ (Ir);clear Ir;by_cases hlt:k < fs.length
    .
     have Qm:Hid (∀ j,vr.ownBlock=some j->B0<=j/\j < wr.heap.size):=f_ (fun j hj => hO.lt j hj);have hOk:=jJ.own hO (by decide);have hgz:=And.intro V.out.here LK.out.le;obtain ⟨hz,hzE⟩ : ∃ hz,wr.heap.size=hz:=⟨_,rfl⟩
     rw [hzE] at hOk Qm hgz;clear hzE hO;have RW:=f_ (hOk);clear hOk;obtain ⟨gf,cf',hvf⟩:=Ve fS1.out.now (by omega);injection hvf with hv1 hv2 hv3;subst hv1;subst hv3;clear hv2;obtain ⟨c0,c1,c2⟩:=abm fS1.out.now hlt;rw [adD hlt] at hre;have hfl:=HL.out fs[k] (o_ hlt);have xO:(k:Int) < fs.length:=by omega
     have hd0:decide ((k:Int) < 0)=false:=by simp
     have hd1:decide (fs.length<=k)=false:=by simpa using hlt
     generalize fs[k]=f at *;have HRe:=f_ hre;have HRi:=f_ qN;clear hre qN;go_upto_region 24 with fail;clear c0 c1 c2 hd0 hd1;refine aO (fun dQ fV F => ?_);have qA:=X.out.here;have pz:=Z.out.here;have sO:=V.out.here;have sW:=fS1.out.le;have Az:=LK.out.le;have BQ:=RW.out.le;have Dv:=KP.size;obtain ⟨X,Z,V,fS1,LK,RW⟩:=b6 X Z V fS1 LK RW fV;replace R:=rB R fV;replace KP:=kB KP hgr fV;clear fV;generalize wr.heap.size=g14 at *;obtain ⟨gF,rfl⟩ : ∃ g,g=g14:=⟨_,rfl⟩
     have HS:=f_ (fun W h => Qn x (.slice C1 x.syms.length l1) (.slice C2 x.ah.length l2) f.id W h);simp only [dA,hk] at HS;obtain ⟨aK,bJ,bY,bZ,dL,eX,bU,dD,dM,dU⟩:=X.out.c10;have Fg:=F.out.e0;go_wp2_with fail;clear aK bJ bY bZ dL eX bU dD dM dU Fg;((with_reducible refine (HS.out _ (HX.out.keep (fun _ hp => KP.low.cell hp) (Q_ (vK hgr KP.size)))).mono ?_);rintro e lq ⟨rfl,oG⟩);obtain ⟨X,Z,V,F,fS1,LK,RW⟩:=b7 X Z V F fS1 LK RW oG;replace R:=rB R oG;replace KP:=kB KP hgr oG;clear oG HS;cases lY:dN x f.id with
     | some i =>
      have HR1:Hid (qQ x path fs []=qQ x path (fs.drop (k+1)) rs):=by show _=_;rw [HRe.out,lY];rfl
      simp only [xg,QG];clear lY;go_wp2_with fail;go_roundw
      case rel => exact ⟨k+1,by omega,by go_num,_,_,_,rs,⟨X.out,Z.out,V.out,R.out,KP,fS1.out,Gs⟩,RW.out.now,by omega,HRi.out,HR1.out,LK.out⟩
      case measure => simp [intOf];omega
     | none =>
      simp only [xg,QH];cases hcr:f.gy with
      | true =>
       have hre:qQ x path fs [] = .error (path ++ [(f.id:Int)],6):=by rw [HRe.out,lY,hcr];rfl
       have HR:Hid (fH rec x p path = .error (path ++ [(f.id:Int)],6)):=by show _=_;rw [HD.out,abl Fe.out hre]
       have Bf:=F.out.e1;rw [hcr] at Bf;clear lY hre hcr;go_upto_region 27 with fail;obtain ⟨⟨pv,hrow,hown⟩,-⟩:=R.out;obtain ⟨Ap,cp,rfl⟩:=jF hown;have HO:=f_ hown;obtain ⟨wp,rfl⟩ : ∃ wp,wp=lq:=⟨_,rfl⟩
       have HKP:=f_ KP;have hgp:gr < wp.heap.size:=hrow.here;have hzp:w.heap.size+1 < wp.heap.size:=Z.out.here;replace Z:=Z.out;replace F:=F.out;clear R KP hown;replace Z:=f_ Z;replace F:=f_ F;replace hrow:=f_ hrow;go_upto_region 27 with fail;obtain ⟨i0,hi,hz0,hz1,hz2⟩:=info_parts oP;have uJ:=hrow.out.e1;have Fg:=F.out.e0;refine l9 (S:=(fun w' => w'.cell? ⟨gr,1,none⟩=some (.slice Ap path.length cp)/\w'.cell? ⟨gF,0,none⟩=some (.int .i64 f.id))) (fun j => j == 9 || j == 10 || j == 11) (by kernel_rfl) ⟨uJ,Fg⟩ (fun jl => ?_);clear uJ Fg;have vg:Below wp.heap.size wp (wp.drew):=(j_ _ _).drew;obtain ⟨Z,F,hrow⟩:=b3 Z F hrow vg;have RV:=vg;clear vg;generalize wp.drew=pF at *;refine eH 0 ?_;refine eH 1 ?_;refine eH 2 ?_;refine eH 3 ?_;refine eH 4 ?_;refine eH 5 ?_;refine eH 6 ?_;refine gJ 7 fun K hK => ?_;go_simp;refine aO (fun Eu zo NB => ?_);have uh:=Z.out.here;have Bc:=F.out.here;have Et:=hrow.out.here;have J8:=RV.size;obtain ⟨Z,F,hrow⟩:=b3 Z F hrow zo;replace RV:=dT RV zo;clear zo;generalize pF.heap.size=g29 at *;(try clear jl);refine hK.out _ _ (⟨hrow.out.cell 1,F.out.cell 0⟩) (fun jl => ?_);clear hK K;refine gJ 8 fun K hK => ?_;have Iu:=own_below HO.out RV;have hKa:cZ wp gr Eu:=cZ.of_below RV (Q_ hgp);have hsp:=(RV).size;refine step_append_lies (P:=Tryz.prog) _ (by rfl) _ _ _ (by rfl) (gr+1) 3 i0 _ 1 8 Tryz.underlying57 hi hz0 hz1 hz2 rfl (by decide) (.slice Ap path.length cp) path.length _ (by rfl) Iu ⟨g29,0,none⟩ 1 1 [.int .i64 (f.id:Int)] (by rfl) (by rfl) (World.news_of_block NB.out) (by simp [Value.oneCell']) (by omega) (by simp only [maxLen];omega) (by omega) (by omega) _ rfl ?_
       intro g2 cap2 w3 hown3 hg3 RQ adE;have K3:=hKa.trans (cZ.grown hg3 Iu (O1 gr) (by omega));clear NB;replace Z:=dG Z (fun k h1 h2 => hg3.block k h1 (fun e => h2 e.symm)) (wV Iu Z.out (by decide));replace F:=dG F (fun k h1 h2 => hg3.block k h1 (fun e => h2 e.symm)) (wV Iu F.out (by decide));replace hrow:=dG hrow (fun k h1 h2 => hg3.block k h1 (fun e => h2 e.symm)) (wV Iu hrow.out (by decide));clear hg3 RQ adE hKa Iu hsp;(try clear jl);refine hK.out _ _ (⟨hrow.out.cell 1,F.out.cell 0⟩) (fun jl => ?_);clear hK K;refine pG 9 fun K hK => ?_;go_simp;(try clear jl);refine hK.out _ _ ?_;clear hK K;refine pG 10 fun K hK => ?_;go_simp;(try clear jl);refine hK.out _ _ ?_;clear hK K;refine pG 11 fun K hK => ?_;have uJ:=hrow.out.e1;have RS:=hrow.out.free 1;go_simp;obtain ⟨w4,hE⟩ : ∃ ww,ww=w3.setCell ⟨gr,1,none⟩ (.slice (some ⟨g2,0,none⟩) (path.length+1) cap2):=⟨_,rfl⟩
       rw [<- hE];have K4:cZ w gr w4:=HKP.out.trans (hE ▸ K3.trans (cZ.setCell _ _ _ _));have O4:=vP hown3 (O1 gr) 1 (.slice (some ⟨g2,0,none⟩) (path.length+1) cap2);rw [<- hE] at O4;have Z4:=dF Z hE (show w.heap.size+1≠gr by omega);have R4:Has w4 gr 111 #[tv,.slice (some ⟨g2,0,none⟩) (path.length+1) cap2,N7,.int .i64 N8]:=by simpa using dS hrow hE
       clear uJ RS;(try clear jl);refine hK.out _ _ ?_;clear hK K;refine iy (by kernel_rfl) ?_ _;(try clear jl);have R4a:lC w4 gr tv N7 N8 (path ++ [(f.id:Int)]):=⟨_,R4,by simpa [zq] using O4⟩
       clear hE K3 hown3 hrow Z R4 O4;go_wp2_with fail;refine (kD gr _ _ _ (path ++ [(f.id:Int)]) 6 _ (by simp;omega) R4a).mono ?_;intro e w5 h5;obtain ⟨c0,c1,c2,c3,c4,c5,c6,c7,bb,h1,rfl⟩:=h5.form;obtain ⟨fp',fn',⟨pv5,TD,TF⟩,K5,h5'⟩:=h5;have H5:=f_ h5';clear h5';have M5:=Has.made w5 34 #[.int .i64 0,.bool false,.int .i64 0,.string ⟨#[]⟩,.int .i64 0,.slice none 0 0,.slice none 0 0,.slice none 0 0];have h1':(#[c0,c1,c2,c3,c4,c5,c6,c7] : Array Value).all (·.oneCell')=true:=by simpa using h1
       go_upto_region 29 with (refine z_ rfl 34 _ _ rfl w5.heap.size _ rfl rfl 34 _ M5 (by kernel_rfl) rfl h1' ?_)
       obtain ⟨w6,Gv⟩ : ∃ ww,ww=(w5.alloc (.cells #[.int .i64 0,.bool false,.int .i64 0,.string ⟨#[]⟩,.int .i64 0,.slice none 0 0,.slice none 0 0,.slice none 0 0] 34)).setRow w5.heap.size #[c0,c1,c2,c3,c4,c5,c6,c7]:=⟨_,rfl⟩
       rw [<- Gv];have hs5:=K5.size;have hs4:=K4.size;have B6:Below w5.heap.size w5 w6:=Gv ▸ below_setRow ((j_ w5.heap.size w5).alloc (b_ _) _) (b_ _) _;have M6:=dO (f_ M5) Gv;have R6:Has w6 gr _ _:=(B6.block gr (by omega)).trans TD;have O6:=own_below TF B6;rw [m_,QI] at O6;obtain ⟨g6,cap6,rfl,hcap,TG⟩:=RU O6 (by simp);have r1:w6.cell? ⟨gr,1,none⟩=some (.slice (some ⟨g6,0,none⟩) (path.length+1) cap6):=R6.cell 1;have r2:=R6.free 1;clear Gv M5;have i1:wrap64 (((path.length+1:Nat):Int) - 1)=(path.length:Int):=by unfold wrap64;omega
       have i2:((path.length:Int)).toNat=path.length:=by omega
       have i3:¬ ((path.length:Int) < 0):=by omega
       have i4:path.length<=cap6:=by omega
       have i5:IntKind.i64.wrap (((path.length+1:Nat):Int) - 1)=(path.length:Int):=by rw [TM];omega
       clear O6 hcap;go_region
       obtain ⟨w7,mP⟩ : ∃ ww,ww=(w6.setCell ⟨gr,1,none⟩ (.slice (some ⟨g6,0,none⟩) path.length cap6)).drew:=⟨_,rfl⟩
       rw [<- mP];have hz4:=Z4.out.here;have Z6:Hid (Has w6 (w.heap.size+1) _ _):=f_ ((B6.block (w.heap.size+1) (by omega)).trans ((K5.block (w.heap.size+1) (by omega) (by omega) (fun c f e => by rw [Z4.out] at e;injection e with e1;injection e1 with _ e2;exact absurd e2 (by decide))).trans Z4.out));have M7:Has w7 w5.heap.size 34 #[c0,c1,c2,c3,c4,c5,c6,c7]:=by rw [mP];exact (dF M6 rfl (show w5.heap.size≠gr by omega)).out
       have Z7:Has w7 (w.heap.size+1) 34 #[.int .i64 0,.bool false,.int .i64 0,.string ⟨#[]⟩,.int .i64 0,.slice none 0 0,.slice none 0 0,.slice none 0 0]:=by rw [mP];exact (dF Z6 rfl (show w.heap.size+1≠gr by omega)).out
       have gB6:gr < w5.heap.size:=by omega
       have K6:cZ w gr w6:=K4.trans (K5.trans (cZ.of_below B6 (by omega)));have K7:cZ w gr w7:=by rw [mP];exact (K6.trans (cZ.setCell _ _ _ _)).drew
       have R7:Has w7 gr 111 #[tv,.slice (some ⟨g6,0,none⟩) path.length cap6,fp',.int .i64 fn']:=by rw [mP];exact (dS (f_ R6) (i:=1) (v:=.slice (some ⟨g6,0,none⟩) path.length cap6) rfl).drew
       have O7:w7.ownsRow (gr+1) 3 1 (.slice (some ⟨g6,0,none⟩) path.length cap6) path.length (path.map zq):=by rw [mP];exact vP TG (O1 gr) 1 _
       have F7:∀ n ys,w5.ownsRow (gr+1) 3 1 fp' n ys->w7.ownsRow (gr+1) 3 1 fp' n ys:=fun n ys hy => by rw [mP];exact vP (own_below hy B6) (O1 gr) 1 _
       obtain ⟨m0,m1,m2,m3,m4,m5,m6,m7⟩:=M7.c8;have HR8:Hid (∀ cs',lC (w7.setRow (w.heap.size+1) cs') gr tv fp' fn' path):=f_ fun cs' => (Iw (nS.of ⟨_,R7,O7⟩) Z7 (by decide) (by omega) fun k hk => setRow_other _ _ _ _ hk).at_;have HF8:Hid (∀ n ys cs',w5.ownsRow (gr+1) 3 1 fp' n ys->(w7.setRow (w.heap.size+1) cs').ownsRow (gr+1) 3 1 fp' n ys):=f_ fun n ys cs' hy => qo (F7 n ys hy) fun k hb => setRow_other _ _ _ _ (fun e => wV (F7 n ys hy) Z7 (by decide) (e ▸ hb));have TI:=f_ Z7;have HK7:=f_ K7;clear mP R7 O7 F7 r1 r2 i1 i2 i3 i4 i5 M6 Z6 R6 B6 Z4 TD TF TG K6 Z7 M7 K7 K4 K5;go_upto_region 30 with fail;exact zDq
      | false =>
       have HR1:Hid (qQ x path fs []=qQ x path (fs.drop (k+1)) (rs ++ [((f.id:Int),f.data)])):=by show _=_;rw [HRe.out,lY,hcr];rfl
       have Bf:=F.out.e1;rw [hcr] at Bf;clear lY hcr;go_upto_region 31 with fail;have hO:=RW.out.now;have hsR:=RW.out.le;have dJ:=V.out.e7;have Fg:=F.out.e0;have al5:=F.out.e2;go_upto_region 32 with (at_builtin;refine fA rfl _ _ _ rfl B0 102 _ 2 24 Tryz.underlying32 Vh rfl (by decide) vr rs.length (jO rs) rfl hO [_,_] _ 1 _ rfl rfl rfl (by simp [Value.oneCell']) (by omega) (by omega) (by omega) ?_;intro g2 cap2 w3 hown3 hg3 RQ hb3;have V3:=dG V (fun k h1 h2 => (hg3.block k (by simp;omega) (fun e => h2 e.symm)).trans (Below.heap_alloc _ _ k h1)) (fun hh => by have:=(Qm.out _ hh).1;omega);have v36:w3.cell? ⟨gV,7,none⟩=some vr:=V3.out.cell 7;have f36:=V3.out.free 7)
       have hg4:∀ k,k < lq.heap.size->vr.ownBlock≠some k->w3.heap[k]?=lq.heap[k]?:=fun k h1 h2 => (hg3.block k (by simp;omega) (fun e => h2 e.symm)).trans (Below.heap_alloc _ _ k h1);have hvn:=fun j hj => Fh hO (by decide) (k:=j) hj;clear hg3 RQ v36 f36 V3 RW Bf dJ Fg al5;replace X:=dG X hg4 (fun hh => by have:=Qm.out _ hh;omega);replace Z:=dG Z hg4 (fun hh => by have:=Qm.out _ hh;omega);replace V:=dG V hg4 (fun hh => by have:=Qm.out _ hh;omega);replace F:=dG F hg4 (fun hh => by have:=Qm.out _ hh;omega);replace fS1:=nG fS1 hg4 (fun k hh => by have:=Qm.out k hh;omega) hb3.size;replace LK:=nG LK hg4 (fun k hh => by have:=Qm.out k hh;omega) hb3.size;replace R:=rG R hg4 (fun j hj => ⟨by have:=(Qm.out j hj).1;omega,hvn j hj⟩);replace KP:=KP.above hb3 (by omega) (by omega);have hO3:w3.ownsRow B0 102 2 (.slice (some ⟨g2,0,none⟩) (rs.length+1) cap2) (rs ++ [((f.id:Int),f.data)]).length (jO (rs ++ [((f.id:Int),f.data)])):=by
        have e:jO (rs ++ [((f.id:Int),f.data)])=jO rs ++ [.int .i64 (f.id:Int),.string ⟨f.data.toArray⟩]:=by simp [jO,Kw]
        rw [e,m_];exact hown3
       have RX:=f_ (jJ.own hO3 (by decide));have qN:∀ r ∈ rs ++ [((f.id:Int),f.data)],yR r:=fun r hr => by
        rcases H_.1 hr with h | h
        . exact HRi.out r h
        simp at h;subst h;exact ⟨by show I64 (f.id:Int);unfold I64;omega,by show f.data.length<=_;omega⟩
       have Hri:=f_ qN;clear hO3 hown3 hO hg4 hvn qN;generalize Bg:w3.setCell _ _=xP;obtain ⟨X,Z,F,fS1,LK,RX⟩:=f6 X Z F fS1 LK RX (eF Bg);replace R:=rF R V Bg.symm (by decide) (by omega);replace KP:=kS KP hgr Bg.symm (by omega);replace V:=Ky V Bg;clear Bg;go_wp2_with fail;go_roundw
       case rel => exact ⟨k+1,by omega,by go_num,_,_,_,rs ++ [((f.id:Int),f.data)],⟨X.out,Z.out,V.out,R.out,KP,fS1.out,Gs⟩,RX.out.now,by rw [m_];simp;omega,Hri.out,HR1.out,LK.out⟩
       case measure => simp [intOf];omega
    obtain rfl:k=fs.length:=by omega
    have ahV:qQ x path fs [] = .ok rs:=by rw [hre,List.drop_length];rfl
    have HR:Hid (fH rec x p path = .ok (.mk 5 false 0 [] 0 [] acc rs)):=by show _=_;rw [HD.out,agQ Fe.out ahV]
    have RW:=f_ (jJ.own hO (by decide));have Hri:=f_ qN;obtain ⟨Ar,cr,rfl⟩:=jF hO;clear hre ahV qN hO;obtain ⟨bK,dh,dn,dI,bG,aQ,aP,dJ⟩:=V.out.c8;go_upto_region 33 with fail;go_wp2_with (refine sR Z.out ?_)
    clear bK dh dn dI bG aQ aP dJ;generalize fU:wr.setRow _ _=lZ;obtain ⟨X,V,fS1,LK,RW⟩:=f5 X V fS1 LK RW (eR fU);replace R:=rR R Z fU.symm (by decide) (by omega);replace KP:=vU KP hgr fU.symm (by omega);replace Z:=dV Z fU;clear fU;exact w_ (v:=.tuple #[.agg #[.int .i64 5,.bool false,.int .i64 0,.string ⟨#[]⟩,.int .i64 0,.slice none 0 0,.slice Av acc.length cv,.slice Ar rs.length cr],.bool true]) (by simp [results,Tryz.results83,go_sem,Z.out.c8]) rfl (eu.good (v:=.mk 5 false 0 [] 0 [] acc rs) HR.out R KP (adC (LK.out.now.row (by omega)) RW.out.now (by omega) Hri.out (by have:=yM.out;omega) (by omega)))

/- list. No condition. -/
import Derived.Test.YtkaedmpppnnamaaGreatDoorDecU
set_option maxHeartbeats 1600000
set_option maxRecDepth 100000
namespace Go.Proofs.YtkaedmpppnnamaaGreatDoor
open ChangeShapes WideShapes ChangeAt RowKit
theorem Zi:∀ (f:Nat) (l:List UInt8) (acc I:List (List UInt8)) (N:Nat),(∀ q ∈ acc,q.length<=N)->l.length<=N->zf f l acc=some I->∀ q ∈ I,q.length<=N:=by
 intro f
 induction f with
 | zero =>
  intro l acc I N h1 h2 h;unfold zf at h;split at h
  . injection h with h;subst h;exact h1
  cases h
 | succ f ih =>
  intro l acc I N h1 h2 h;unfold zf at h;split at h
  . injection h with h;subst h;exact h1
  split at h
  . cases h
  rename_i p r hp;have:=EH hp;exact ih r _ I N (fun q hq => by
   rcases Dp.1 hq with hq | hq
   . exact h1 q hq
   simp at hq;subst hq;omega) (by omega) h
theorem Tn {p:List UInt8} {I:List (List UInt8)} (h:BM p=some I):∀ q ∈ I,q.length<=p.length:=Zi _ _ _ _ _ (by simp) (b_ _) h
theorem Nw {f:Nat->mX} {n k:Nat} {acc:List Val} {v:Val} (h:f k = .ok v):nR f (n+1) k acc=nR f n (k+1) (acc ++ [v]):=by rw [nR,h]
theorem Ja {f:Nat->mX} {n k:Nat} {acc:List Val} {e:List Int × Int} (h:f k = .error e):nR f (n+1) k acc = .error e:=by rw [nR,h]
def Ny (mk:List Val->Val):Except (List Int × Int) (List Val)->mX
 | .error e => .error e
 | .ok is => .ok (mk is)
theorem afS {W:World} {l:List (List UInt8)} {gs k:Nat} (h:∀ (j:Nat) (u:Value),(l.map SB)[j]?=some u->W.cell? ⟨gs,j,none⟩=some u) (hk:k < l.length):W.cell? ⟨gs,k,none⟩=some (.string ⟨l[k].toArray⟩):=h k _ (by simp [hk,SB])
def Yo (w:World) (gr:Nat) (tv:Value) (path:List Int) (x:ay) (C1:Option Addr) (l1:Nat) (C2:Option Addr) (l2:Nat) (l:List (List UInt8)) (f:Nat->mX) (As:Option Addr) (cs gV k:Nat) (wr:World):Prop :=
 ∃ (fp:Value) (fn:Int) (vi:Value) (acc:List Val),Has wr w.heap.size 72 #[.int .i64 7,.string ⟨x.name.toArray⟩,.int .i64 x.low,.int .i64 x.high,.int .i64 x.max,.slice C1 x.syms.length l1,.slice C2 x.ah.length l2,.int .i64 x.key,.int .i64 x.elem,.bool x.opn] /\
  Has wr (w.heap.size+1) 34 #[.int .i64 0,.bool false,.int .i64 0,.string ⟨#[]⟩,.int .i64 0,.slice none 0 0,.slice none 0 0,.slice none 0 0] /\
  Has wr gV 34 #[.int .i64 7,.bool false,.int .i64 0,.string ⟨#[]⟩,.int .i64 0,.slice none 0 0,vi,.slice none 0 0] /\
  nS wr gr tv fp fn path none/\cZ w gr wr/\jJ (fun w => w.ownsRow 0 9 1 (.slice As l.length cs) l.length (l.map SB)) wr (w.heap.size+2) gV/\oJ (gV+1) vi acc wr/\acc.length=k/\nR f l.length 0 []=nR f (l.length - k) k acc/\w.heap.size+1 < gV/\gV < wr.heap.size
theorem zDo {p:Prop} (h:p:=by
 obtain ⟨c0,c1,c2,c3,c4,c5,c6,c7,bb,h1',rfl⟩:=hp.form;have Z2:=lK Z hp.keep (by omega) (by decide);go_wp2_with (refine yH rfl 34 _ _ rfl (w.heap.size+1) _ rfl rfl 34 _ Z2.out (by kernel_rfl) rfl (by simpa using h1') ?_)
 obtain ⟨z0,z1,z2,z3,z4,z5,z6,z7⟩:=(kF Z2.out #[c0,c1,c2,c3,c4,c5,c6,c7]).c8;exact vJ (v:=.tuple #[.agg #[c0,c1,c2,c3,c4,c5,c6,c7],.bool bb]) (by simp [results,Tryz.results81,go_sem,z0,z1,z2,z3,z4,z5,z6,z7]) rfl (by rw [HR.out];exact hp.tail KP hgr (by omega) hz Z2.out (by decide))):p:=h
theorem adx
 (ts:List ay) (tv:Value) (gr:Nat) (fp:Value) (fn:Int) (path:List Int) (p:List UInt8) (rec:Int->List UInt8->List Int->mX) (x:ay) (vs vm:Value) (w:World) (hk:x.kind=7) (hp:path.length < 200) (hpl:p.length<=800000)
 (R:lC w gr tv fp fn path) (ht:aU w gr tv ts) (hx:jc w gr x vs vm) (HP:Iq ts gr tv rec path) (hm:(bM ts x.elem).isSome=true) :
 Calls Tryz.prog 81 #[.pointer (some ⟨gr,0,none⟩),dA x vs vm,.string ⟨p.toArray⟩] w (eu gr tv path w (fH rec x p path)):=by
 have HI:=hiQ (fun W => Tq p (by omega) W);have Ey:=hiQ (fun I h => Tn (p:=p) (I:=I) h);obtain ⟨C1,l1,C2,l2,rfl,rfl,-,-⟩:=hx.forms;have HX:=hiQ hx;have HT:=hiQ ht;have Tt:=hiQ HP;have HM:=hiQ hm;have mY:=hiQ hk;have hxs:=hx.lens;clear hx ht HP hm;have hgr:=R.here;replace R:=hiQ (nS.of R);have KP:=cZ.refl w gr;go_enter Tryz.func81,Tryz.ntmps81
 go_upto_region 1 with fail;refine jg (fun wd2 hb1 X Z => ?_);replace R:=rB R hb1;replace KP:=kB KP hgr hb1;clear hb1;cases ha:BM p with
 | none =>
  have HR:Hid (fH rec x p path = .error (path,1)):=by show _=_;simp [fH,mY.out,ha]
  simp only [ha] at HI;clear ha;go_wp2_with fail;((with_reducible refine (HI.out _).mono ?_);rintro e wd3 ⟨rfl,hb4⟩);obtain ⟨X,Z⟩:=b2 X Z hb4;replace R:=rB R hb4;replace KP:=kB KP hgr hb4;clear hb4;go_upto_region 3 with fail;have hz:=Z.out.here;go_wp2_with fail;((with_reducible refine (kD gr _ _ _ path 1 _ (by omega) R.out.at_).mono ?_);rintro e fG hp);exact zDo
 | some l =>
  have HL:Hid (∀ q ∈ l,q.length<=p.length):=hiQ (Ey.out l ha);simp only [ha] at HI;have HD:Hid (fH rec x p path=if x.max < l.length then .error (path,3) else Ny (fun is => .mk 7 false 0 [] 0 [] is []) (nR (fun i => rec x.elem (l.getD i []) (path ++ [(i:Int)])) l.length 0 [])):=by
   show _=_;simp only [fH,mY.out,ha];rw [gB (by decide),gB (by decide),gB (by decide),gB (by decide),gB (by decide),gB (by decide),o_ trivial];cases nR (fun i => rec x.elem (l.getD i []) (path ++ [(i:Int)])) l.length 0 [] <;> rfl
  clear ha Ey;have hS0:=Z.out.here;go_wp2_with fail;((with_reducible refine (HI.out _).mono ?_);rintro e wd3 ⟨vl,rfl,hll,hown,hb4⟩);obtain ⟨X,Z⟩:=b2 X Z hb4;replace R:=rB R hb4;replace KP:=kB KP hgr hb4;clear hb4 HI;obtain ⟨As,cs,rfl⟩:=jF hown;have ST:=hiQ ((jJ.own (sF hown (show w.heap.size+2<=_ from hS0)) (by decide)).imp fun _ h => sF h (VZ _));clear hown hS0;obtain ⟨aK,bJ,bY,bZ,dL,eX,bU,dD,dM,dU⟩:=X.out.c10;by_cases h1:x.max < l.length
  .
   have HR:Hid (fH rec x p path = .error (path,3)):=by show _=_;rw [HD.out,o_ h1]
   clear HD;go_upto_region 5 with fail;have hz:=Z.out.here;go_wp2_with fail;clear aK bJ bY bZ dL eX bU dD dM dU;((with_reducible refine (kD gr _ _ _ path 3 _ (by omega) R.out.at_).mono ?_);rintro e fG hp);exact zDo
  have HD:Hid (fH rec x p path=Ny (fun is => .mk 7 false 0 [] 0 [] is []) (nR (fun i => rec x.elem (l.getD i []) (path ++ [(i:Int)])) l.length 0 [])):=by show _=_;rw [HD.out,gB h1]
  go_upto_region 7 with fail;clear h1 aK bJ bY bZ dL eX bU dD dM dU;refine aO (fun wL hb5 V => ?_);have mO:=X.out.here;have kH:=Z.out.here;have oC:=ST.out.le;have sH:=KP.size;obtain ⟨X,Z,ST⟩:=b3 X Z ST hb5;replace R:=rB R hb5;replace KP:=kB KP hgr hb5;clear hb5;generalize wd3.heap.size=g7 at *;obtain ⟨gV,rfl⟩ : ∃ g,g=g7:=⟨_,rfl⟩
  have hl0:Hid (Yo w gr tv path x C1 l1 C2 l2 l (fun i => rec x.elem (l.getD i []) (path ++ [(i:Int)])) As cs gV 0 wL) :=
   hiQ ⟨_,_,_,[],X.out,Z.out,V.out,R.out,KP,ST.out,oJ.nil _ _,rfl,rfl,by omega,V.out.here⟩
  clear X Z V R KP ST;go_wp2_with fail;go_loopw [40] (fun i wr => ∃ k:Nat,k<=l.length/\i = .int .i64 k/\Yo w gr tv path x C1 l1 C2 l2 l (fun i => rec x.elem (l.getD i []) (path ++ [(i:Int)])) As cs gV k wr) (fun i _ => l.length - (intOf i).toNat)
  case atStart => exact ⟨0,by omega,rfl,hl0.out⟩
  case round =>
   clear hl0;obtain ⟨k,hk1,rfl,N7,N8,vi,acc,X,Z,V,R,KP,hST,hL,hacc,hseq,Gs,hgW⟩:=hrel;replace R:=hiQ R;replace X:=hiQ X;replace Z:=hiQ Z;replace V:=hiQ V;by_cases hlt:k < l.length
   .
    have hvl:Hid (∀ j,vi.ownBlock=some j->gV+1<=j/\j < wr.heap.size/\jQ wr j):=hiQ hL.lt;have ST:=hiQ (hST);have LI:=hiQ (hL.kept);clear hST hL;obtain ⟨gs,cs',hvs,-,-,-,hcell⟩:=Du ST.out.now (by omega);injection hvs with hv1 hv2 hv3;subst hv1;subst hv3;clear hv2;have hsk:=afS hcell hlt;clear hcell;have hn1:l.length - k=(l.length - (k+1))+1:=by omega
    have hfk:(fun i => rec x.elem (l.getD i []) (path ++ [(i:Int)])) k=rec x.elem l[k] (path ++ [(k:Int)]):=by simp [List.getD,hlt]
    rw [hn1] at hseq;have BO:=fun v h => hseq.trans (Nw (v:=v) (hfk.trans h));have BP:=fun e h => hseq.trans (Ja (e:=e) (hfk.trans h));clear hseq hn1 hfk;have hlk:=HL.out l[k] (jl hlt);have HPQ:=hiQ (fun (W:World) (fp':Value) (fn':Int) h1 h2 => Tt.out W fp' fn' k x.elem l[k] h1 h2 HM.out (by omega));generalize rec x.elem l[k] (path ++ [(k:Int)])=q at *;generalize l[k]=lk at *;have J6:=hiQ BO;have J7:=hiQ BP;have yM:=hiQ hacc;have xO:(k:Int) < l.length:=by omega
    have hd0:decide ((k:Int) < 0)=false:=by simp
    have hd1:decide (l.length<=k)=false:=by simpa using hlt
    have hd2:decide ((k:Int) < l.length)=true:=by simpa using hlt
    clear BO BP hacc;have dM:=X.out.e8;go_wp2_with fail;clear dM;have Az:=X.out.here;have BQ:=Z.out.here;have Dv:=V.out.here;have Dw:=ST.out.le;have Es:=LI.out.le;have sJ:=KP.size;((with_reducible refine (HPQ.out _ _ _ R.out.at_ (HT.out.keep (fun _ hp => KP.low.cell hp) (b_ _))).mono ?_);rintro e lZ alH);obtain ⟨ao9,apa,pR,pU,pV,pW,pX,pY,qc,qg,EZ,rE,rfl,alI,OQ,N⟩:=alH.take;replace X:=lK X OQ (by omega) (by decide);replace Z:=lK Z OQ (by omega) (by decide);replace V:=lK V OQ (by omega) (by decide);replace ST:=nT ST OQ (by omega);replace LI:=nT LI OQ (by omega);replace R:=hiQ alI;replace KP:=KP.trans OQ;replace N:=hiQ N;clear OQ;have zh:(#[pR,pU,pV,pW,pX,pY,qc,qg] : Array Value).all (·.oneCell')=true:=by simpa using rE
    generalize wr.heap.size=L13 at *;clear hsk;have M5:=Has.made lZ 34 #[.int .i64 0,.bool false,.int .i64 0,.string ⟨#[]⟩,.int .i64 0,.slice none 0 0,.slice none 0 0,.slice none 0 0];go_upto_region 11 with (refine yH rfl 34 _ _ rfl lZ.heap.size _ rfl rfl 34 _ M5 (by kernel_rfl) rfl zh ?_)
    clear M5;generalize aag:lZ.alloc _=yg;have ⟨rH,I⟩:=uj aag;clear aag;have uO:=X.out.here;have uh:=Z.out.here;have Bc:=V.out.here;have Et:=ST.out.le;have J8:=LI.out.le;have J9:=N.out.le;have RJ:=KP.size;obtain ⟨X,Z,V,ST,LI,N⟩:=b6 X Z V ST LI N rH;replace R:=rB R rH;replace KP:=kB KP hgr rH;clear rH;generalize lZ.heap.size=g28 at *;generalize aaM:yg.setRow _ _=aqg;obtain ⟨X,Z,V,ST,LI,N⟩:=f6 X Z V ST LI N (eR aaM);replace R:=rR R I aaM.symm (by decide) (by omega);replace KP:=vU KP hgr aaM.symm (by omega);replace I:=dV I aaM;clear aaM;obtain ⟨iF,iG,iH,iI,bT,gU,dH,bV⟩:=I.out.c8;have hN:=N.out.now;have hNl:=N.out.le;cases q with
    | error pn =>
     obtain ⟨p',n'⟩:=pn;obtain ⟨rfl,hf⟩:=hN;have HR:Hid (fH rec x p path = .error (p',n')):=by show _=_;rw [HD.out,J7.out _ rfl];rfl
     have hf:=hiQ hf;go_upto_region 12 with fail;go_wp2_with (refine sR Z.out ?_)
     clear iF iG iH iI bT gU dH bV;generalize Vg:aqg.setRow _ _=ahL;obtain ⟨X,V,I,ST,LI,N⟩:=f6 X V I ST LI N (eR Vg);replace R:=rR R Z Vg.symm (by decide) (by omega);replace KP:=vU KP hgr Vg.symm (by omega);replace Z:=dV Z Vg;clear Vg;exact vJ (v:=.tuple #[.agg #[pR,pU,pV,pW,pX,pY,qc,qg],.bool false]) (by simp [results,Tryz.results81,go_sem,Z.out.c8]) rfl (eu.bad HR.out R KP hf.out rE)
    | ok v =>
     obtain ⟨rfl,vk,wM,vr,hc,hv⟩:=hN;have U8:Hid ((#[pR,pU,pV,pW,pX,pY,qc,qg] : Array Value)=(oD v vk wM vr).toArray):=by show _=_;rw [<- hc]
     have HV:=hiQ hv;clear hc hv;have aP:=V.out.e6;have BG:=LI.out.now;have hbg:=LI.out.le;have hlv:=fun j hj => BG.lt j hj;go_upto_region 14 with (at_builtin;refine wX rfl _ _ rfl rfl U8.out BG rfl rfl HV.out (fun j hj => (hvl.out j hj).2.1) hNl (by omega) (by have:=yM.out;omega) (by omega) ?_;intro v' w3 hL3 hb3 hg3;obtain ⟨Av,cv,hvv⟩:=hL3.form;obtain rfl:v' = .slice Av (acc.length+1) cv:=(by rw [hvv,h_];rfl);clear hvv;have V3:=dG V hg3 (fun hh => by have:=(hvl.out _ hh).1;omega);have v36:w3.cell? ⟨gV,6,none⟩=some vi:=V3.out.cell 6;have f36:=V3.out.free 6)
     clear BG v36 f36 V3 N LI iF iG iH iI bT gU dH bV aP;replace X:=dG X hg3 (fun hh => by have:=hvl.out _ hh;omega);replace Z:=dG Z hg3 (fun hh => by have:=hvl.out _ hh;omega);replace V:=dG V hg3 (fun hh => by have:=hvl.out _ hh;omega);replace I:=dG I hg3 (fun hh => by have:=hvl.out _ hh;omega);replace ST:=nG ST hg3 (fun k hh => by have:=hvl.out k hh;omega) hb3.size;replace R:=rG R hg3 (fun j hj => ⟨by have:=(hlv j hj).1;omega,(hlv j hj).2.2⟩);replace KP:=KP.above hb3 (by omega) (by omega);clear hlv;have LJ:=hiQ (hL3.kept);clear hL3;generalize Vg:w3.setCell _ _=ahL;obtain ⟨X,Z,I,ST,LJ⟩:=f5 X Z I ST LJ (eF Vg);replace R:=rF R V Vg.symm (by decide) (by omega);replace KP:=kS KP hgr Vg.symm (by omega);replace V:=qM V Vg;clear Vg;go_wp2_with fail;go_roundw
     case rel => exact ⟨k+1,by omega,by go_num,_,_,_,acc ++ [v],X.out,Z.out,V.out,R.out,KP,ST.out,LJ.out.now,by rw [h_,yM.out];rfl,J6.out v rfl,Gs,V.out.here⟩
     case measure => simp [intOf];omega
   obtain rfl:k=l.length:=by omega
   have LI:=hiQ (hL.kept);clear hL hST;have HR:Hid (fH rec x p path = .ok (.mk 7 false 0 [] 0 [] acc [])):=by show _=_;rw [HD.out,hseq,Nat.sub_self];rfl
   obtain ⟨Av,cv,rfl⟩:=LI.out.now.form;clear hseq;have yM:=hiQ hacc;clear hacc;obtain ⟨bK,dh,dn,dI,bG,aQ,aP,dJ⟩:=V.out.c8;go_upto_region 15 with fail;go_wp2_with (refine sR Z.out ?_)
   clear bK dh dn dI bG aQ aP dJ;generalize fU:wr.setRow _ _=lZ;obtain ⟨X,V,LI⟩:=f3 X V LI (eR fU);replace R:=rR R Z fU.symm (by decide) (by omega);replace KP:=vU KP hgr fU.symm (by omega);replace Z:=dV Z fU;clear fU;exact vJ (v:=.tuple #[.agg #[.int .i64 7,.bool false,.int .i64 0,.string ⟨#[]⟩,.int .i64 0,.slice none 0 0,.slice Av acc.length cv,.slice none 0 0],.bool true]) (by simp [results,Tryz.results81,go_sem,Z.out.c8]) rfl (eu.good (v:=.mk 7 false 0 [] 0 [] acc []) HR.out R KP (Tv (L1:=0) (L2:=1000000) (Qj _ _) (LI.out.now.row (by omega)) (by unfold I64;omega) (by unfold I64;omega) (by simp) (by have:=yM.out;omega) (by omega) (by omega)))

/- entries. No condition. -/
import Derived.Test.YtkaedmpppnnamaaGreatDoorDecL
set_option maxHeartbeats 3200000
set_option maxRecDepth 100000
namespace Go.Proofs.YtkaedmpppnnamaaGreatDoor
open ChangeShapes WideShapes ChangeAt RowKit
def Ko (n:Nat) (fK fI:Nat->mX) (path:List Int):mX:=match nR fK n 0 [] with
 | .error e => .error e
 | .ok ks => if ati ks=false then .error (path,1) else Ny (fun is => .mk 8 false 0 [] 0 ks is []) (nR fI n 0 [])
theorem ady {n:Nat} {fK fI:Nat->mX} {path:List Int} {e:List Int × Int} (h:nR fK n 0 [] = .error e):Ko n fK fI path = .error e:=by unfold Ko;rw [h]
theorem agP {n:Nat} {fK fI:Nat->mX} {path:List Int} {ks:List Val} (h:nR fK n 0 [] = .ok ks):Ko n fK fI path=if ati ks=false then .error (path,1) else Ny (fun is => .mk 8 false 0 [] 0 ks is []) (nR fI n 0 []):=by unfold Ko;rw [h]
theorem afT {W:World} {gs n n' c j:Nat} {l:List (List UInt8)} (h:W.ownsRow 0 9 1 (.slice (some ⟨gs,0,none⟩) n c) n' (l.map SB)) (hj:j < l.length):W.cell? ⟨gs,j,none⟩=some (.string ⟨l[j].toArray⟩):=by
 have hn:n'=l.length:=by have:=h.1;simp at this;exact this.symm
 obtain ⟨g,c',hv,-,-,-,hc⟩:=Du h (by omega);injection hv with h1 h2 h3;injection h1 with h1;injection h1 with h1;subst h1;exact afS hc hj
structure Nz (w:World) (gr:Nat) (tv:Value) (path:List Int) (x:ay) (C1:Option Addr) (l1:Nat) (C2:Option Addr) (l2:Nat) (l:List (List UInt8)) (As:Option Addr) (cs gV:Nat) (vk vi:Value) (fp:Value) (fn:Int) (wr:World):Prop where
 X:Has wr w.heap.size 72 #[.int .i64 8,.string ⟨x.name.toArray⟩,.int .i64 x.low,.int .i64 x.high,.int .i64 x.max,.slice C1 x.syms.length l1,.slice C2 x.ah.length l2,.int .i64 x.key,.int .i64 x.elem,.bool x.opn]
 Z:Has wr (w.heap.size+1) 34 #[.int .i64 0,.bool false,.int .i64 0,.string ⟨#[]⟩,.int .i64 0,.slice none 0 0,.slice none 0 0,.slice none 0 0]
 V:Has wr gV 34 #[.int .i64 8,.bool false,.int .i64 0,.string ⟨#[]⟩,.int .i64 0,vk,vi,.slice none 0 0]
 R:nS wr gr tv fp fn path none
 KP:cZ w gr wr
 ST:jJ (fun w => w.ownsRow 0 9 1 (.slice As l.length cs) l.length (l.map SB)) wr (w.heap.size+2) gV
 lo:w.heap.size+1 < gV
theorem zAc {p:Prop} (h:p:=by exact ⟨X.out.cell 7,(zn.out _ ST.out.now)⟩):p:=h
theorem zAd {p:Prop} (h:p:=by exact ⟨X.out.cell 8,(zn.out _ ST.out.now)⟩):p:=h
theorem zCl {p:Prop} (h:p:=by
 obtain ⟨c0,c1,c2,c3,c4,c5,c6,c7,bb,h1',rfl⟩:=hp.form;have Z2:=lK Z hp.keep (by omega) (by decide);go_wp2_with (refine yH rfl 34 _ _ rfl (w.heap.size+1) _ rfl rfl 34 _ Z2.out (by kernel_rfl) rfl (by simpa using h1') ?_)
 obtain ⟨z0,z1,z2,z3,z4,z5,z6,z7⟩:=(kF Z2.out #[c0,c1,c2,c3,c4,c5,c6,c7]).c8;exact vJ (v:=.tuple #[.agg #[c0,c1,c2,c3,c4,c5,c6,c7],.bool bb]) (by simp [results,Tryz.results82,go_sem,z0,z1,z2,z3,z4,z5,z6,z7]) rfl (by rw [HR.out];exact hp.tail KP hgr (by omega) hz Z2.out (by decide))):p:=h
theorem zDq {p:Prop} (h:p:=by
 obtain ⟨X,Z,V,ST,LK,LI,N⟩:=f7 X Z V ST LK LI N (eR mZ);replace R:=rR R I mZ.symm (by decide) (by omega);replace KP:=vU KP hgr mZ.symm (by omega);replace I:=dV I mZ;clear mZ;(try clear hHeld);refine hK.out _ _ zAd (fun hHeld => ?_);clear hK K;refine tk 15 ?_;refine Dl (by kernel_rfl) ?_ _;(try clear hHeld);go_wp2_with fail;go_meet
 have hBl:=N.out.le;exact ⟨⟨_,_,_,_,_,_,_,_,_,_,_,_,_,_,rfl,rfl,rE,I.out,R.out,N.out,by omega,by omega,by omega⟩,KP,X.out,Z.out,V.out,ST.out,LI.out,LK.out⟩):p:=h
theorem zDt {p:Prop} (h:p:=by
 obtain ⟨X,Z,V,ST,LI,N⟩:=f6 X Z V ST LI N (eR akW);replace R:=rR R I akW.symm (by decide) (by omega);replace KP:=vU KP hgr akW.symm (by omega);replace I:=dV I akW;clear akW;(try clear hHeld);refine hK.out _ _ zAc (fun hHeld => ?_);clear hK K;refine tk 15 ?_;refine Dl (by kernel_rfl) ?_ _;(try clear hHeld);go_wp2_with fail;go_meet
 have hBl:=N.out.le;exact ⟨⟨_,_,_,_,_,_,_,_,_,_,_,_,_,_,rfl,rfl,rE,I.out,R.out,N.out,by omega,by omega,by omega⟩,KP,X.out,Z.out,V.out,ST.out,LI.out⟩):p:=h
theorem zEn {p:Prop} (h:p:=by
 replace R:=rR R Z fU.symm (by decide) (by omega);replace KP:=vU KP hgr fU.symm (by omega);replace Z:=dV Z fU;clear fU;exact vJ (v:=.tuple #[.agg #[pR,pU,pV,pW,pX,pY,qc,qg],.bool false]) (by simp [results,Tryz.results82,go_sem,Z.out.c8]) rfl (eu.bad HR.out R KP hf.out rE)):p:=h
theorem zIm {p:Prop} (h:p:=by
 go_upto_region 3 with fail;have hz:=Z.out.here;go_wp2_with fail;((with_reducible refine (kD gr _ _ _ path 1 _ (by omega) R.out.at_).mono ?_);rintro e fG hp);exact zCl):p:=h
theorem XR
 (ts:List ay) (tv:Value) (gr:Nat) (fp:Value) (fn:Int) (path:List Int) (p:List UInt8) (rec:Int->List UInt8->List Int->mX) (x:ay) (vs vm:Value) (w:World) (hk:x.kind=8) (hp:path.length < 200) (hpl:p.length<=800000)
 (R:lC w gr tv fp fn path) (ht:aU w gr tv ts) (hx:jc w gr x vs vm) (HP:Iq ts gr tv rec path) (hm:(bM ts x.key).isSome=true/\(bM ts x.elem).isSome=true) :
 Calls Tryz.prog 82 #[.pointer (some ⟨gr,0,none⟩),dA x vs vm,.string ⟨p.toArray⟩] w (eu gr tv path w (fH rec x p path)):=by
 have HI:=hiQ (fun W => Tq p (by omega) W);have Ey:=hiQ (fun I h => Tn (p:=p) (I:=I) h);obtain ⟨C1,l1,C2,l2,rfl,rfl,-,-⟩:=hx.forms;have HX:=hiQ hx;have HT:=hiQ ht;have Tt:=hiQ HP;have HM:=hiQ hm;have mY:=hiQ hk;have hxs:=hx.lens;clear hx ht HP hm;have hgr:=R.here;replace R:=hiQ (nS.of R);have KP:=cZ.refl w gr;go_enter Tryz.func82,Tryz.ntmps82
 go_upto_region 1 with fail;refine jg (fun wd2 hb1 X Z => ?_);replace R:=rB R hb1;replace KP:=kB KP hgr hb1;clear hb1;cases ha:BM p with
 | none =>
  have HR:Hid (fH rec x p path = .error (path,1)):=by show _=_;simp [fH,mY.out,ha]
  simp only [ha] at HI;clear ha;go_wp2_with fail;((with_reducible refine (HI.out _).mono ?_);rintro e wd3 ⟨rfl,hb4⟩);obtain ⟨X,Z⟩:=b2 X Z hb4;replace R:=rB R hb4;replace KP:=kB KP hgr hb4;clear hb4;exact zIm
 | some l =>
  have HL:Hid (∀ q ∈ l,q.length<=p.length):=hiQ (Ey.out l ha);simp only [ha] at HI;have HD:Hid (fH rec x p path=if l.length % 2=1 then .error (path,1) else if x.max < ((l.length / 2:Nat):Int) then .error (path,3) else Ko (l.length / 2) (fun i => rec x.key (l.getD (2*i) []) (path ++ [(i:Int)])) (fun i => rec x.elem (l.getD (2*i+1) []) (path ++ [(i:Int)])) path):=by
   show _=_;simp only [fH,mY.out,ha];rw [gB (by decide),gB (by decide),gB (by decide),gB (by decide),gB (by decide),gB (by decide),gB (by decide),o_ trivial];by_cases h1:l.length % 2=1
   . rw [o_ h1,o_ h1]
   rw [gB h1,gB h1];by_cases h2:x.max < ((l.length / 2:Nat):Int)
   . rw [o_ h2];simp at h2;simp [h2]
   rw [gB h2];simp at h2;rw [gB (by simpa using h2)];unfold Ko;cases nR (fun i => rec x.key (l.getD (2*i) []) (path ++ [(i:Int)])) (l.length / 2) 0 [] with
   | error e => rfl
   | ok ks =>
    simp only [];by_cases h3:ati ks=false
    . rw [o_ h3,o_ h3]
    rw [gB h3,gB h3];cases nR (fun i => rec x.elem (l.getD (2*i+1) []) (path ++ [(i:Int)])) (l.length / 2) 0 [] <;> rfl
  clear ha Ey;have hS0:=Z.out.here;go_wp2_with fail;((with_reducible refine (HI.out _).mono ?_);rintro e wd3 ⟨vl,rfl,hll,hown,hb4⟩);obtain ⟨X,Z⟩:=b2 X Z hb4;replace R:=rB R hb4;replace KP:=kB KP hgr hb4;clear hb4 HI;obtain ⟨As,cs,rfl⟩:=jF hown;have ST:=hiQ ((jJ.own (sF hown (show w.heap.size+2<=_ from hS0)) (by decide)).imp fun _ h => sF h (VZ _));clear hown hS0;by_cases hodd:l.length % 2=1
  .
   have HR:Hid (fH rec x p path = .error (path,1)):=by show _=_;rw [HD.out,o_ hodd]
   have ho:(l.length:Int) % 2=1:=by omega
   clear HD hodd;exact zIm
  obtain ⟨n,hn⟩ : ∃ n,l.length=2*n:=⟨l.length / 2,by omega⟩
  have hn2:l.length / 2=n:=by omega
  have HD:Hid (fH rec x p path=if x.max < (n:Int) then .error (path,3) else Ko n (fun i => rec x.key (l.getD (2*i) []) (path ++ [(i:Int)])) (fun i => rec x.elem (l.getD (2*i+1) []) (path ++ [(i:Int)])) path):=by show _=_;rw [HD.out,gB hodd,hn2]
  have ho:(l.length:Int) % 2=0:=by omega
  have hq:(l.length:Int) / 2=n:=by omega
  have hn:=hiQ hn;clear hodd hn2;obtain ⟨aK,bJ,bY,bZ,dL,eX,bU,dD,dM,dU⟩:=X.out.c10;by_cases h1:x.max < (n:Int)
  .
   have HR:Hid (fH rec x p path = .error (path,3)):=by show _=_;rw [HD.out,o_ h1]
   clear HD;go_upto_region 5 with fail;have hz:=Z.out.here;go_wp2_with fail;clear aK bJ bY bZ dL eX bU dD dM dU;((with_reducible refine (kD gr _ _ _ path 3 _ (by omega) R.out.at_).mono ?_);rintro e fG hp);exact zCl
  have HD:Hid (fH rec x p path=Ko n (fun i => rec x.key (l.getD (2*i) []) (path ++ [(i:Int)])) (fun i => rec x.elem (l.getD (2*i+1) []) (path ++ [(i:Int)])) path):=by show _=_;rw [HD.out,gB h1]
  go_upto_region 7 with fail;clear h1 ho hq aK bJ bY bZ dL eX bU dD dM dU;refine aO (fun wL hb5 V => ?_);have mO:=X.out.here;have kH:=Z.out.here;have oC:=ST.out.le;have sH:=KP.size;obtain ⟨X,Z,ST⟩:=b3 X Z ST hb5;replace R:=rB R hb5;replace KP:=kB KP hgr hb5;clear hb5;generalize wd3.heap.size=g7 at *;obtain ⟨gV,rfl⟩ : ∃ g,g=g7:=⟨_,rfl⟩
  have hl0:Hid (Nz w gr tv path x C1 l1 C2 l2 l As cs gV (.slice none 0 0) (.slice none 0 0) fp fn wL) :=
   hiQ ⟨X.out,Z.out,V.out,R.out,KP,ST.out,by omega⟩
  clear X Z V R KP ST;go_upto_region 8 with fail;go_loopw [11] (fun i wr => ∃ k j:Nat,k<=n/\j=2*k/\i = .int .i64 (j:Int)/\∃ (fp:Value) (fn:Int) (va:Value) (acc:List Val),Nz w gr tv path x C1 l1 C2 l2 l As cs gV va (.slice none 0 0) fp fn wr/\oJ (gV+1) va acc wr/\acc.length=k/\nR (fun i => rec x.key (l.getD (2*i) []) (path ++ [(i:Int)])) n 0 []=nR (fun i => rec x.key (l.getD (2*i) []) (path ++ [(i:Int)])) (n - k) k acc) (fun i _ => l.length - (intOf i).toNat)
  case atStart => exact ⟨0,0,by omega,rfl,rfl,_,_,_,[],hl0.out,oJ.nil _ _,rfl,rfl⟩
  case round =>
   clear hl0;obtain ⟨k,j,hk1,hj,rfl,N7,N8,va,acc,⟨X,Z,V,R,KP,hST,Gs⟩,hL,hacc,hseq⟩:=hrel;replace R:=hiQ R;replace X:=hiQ X;replace Z:=hiQ Z;replace V:=hiQ V;have ST:=hiQ (hST);clear hST;by_cases hlt:j < l.length
   .
    skip
    obtain ⟨gs,cs',hvs,-,-,-,-⟩:=Du ST.out.now (by omega);injection hvs with hv1 hv2 hv3;subst hv1;subst hv3;clear hv2;have hvl:Hid (∀ j,va.ownBlock=some j->gV+1<=j/\j < wr.heap.size):=hiQ (fun j hj => ⟨(hL.lt j hj).1,(hL.lt j hj).2.1⟩);have hLk:=hL.kept;have hgz:=V.out.here;obtain ⟨hz,hzE⟩ : ∃ hz,wr.heap.size=hz:=⟨_,rfl⟩
    rw [hzE] at hLk hvl hgz;clear hzE hL;have LI:=hiQ (hLk);clear hLk;have zn:=hiQ (fun (W:World) h => afT (W:=W) (gs:=gs) (n:=l.length) (n':=l.length) (c:=cs) h hlt);have hn1:n - k=(n - (k+1))+1:=by omega
    have hfk:(fun i => rec x.key (l.getD (2*k) []) (path ++ [(i:Int)])) k=rec x.key l[j] (path ++ [(k:Int)]):=by simp [List.getD,<- hj,hlt]
    rw [hn1] at hseq;have BO:=fun v h => hseq.trans (Nw (v:=v) (hfk.trans h));have BP:=fun e h => hseq.trans (Ja (e:=e) (hfk.trans h));clear hseq hn1 hfk;have hlk:=HL.out l[j] (jl hlt);have HPQ:=hiQ (fun (W:World) (fp':Value) (fn':Int) h1 h2 => Tt.out W fp' fn' k x.key l[j] h1 h2 HM.out.1 (by omega));generalize rec x.key l[j] (path ++ [(k:Int)])=q at *;generalize l[j]=lk at *;have J6:=hiQ BO;have J7:=hiQ BP;have yM:=hiQ hacc;have xO:(j:Int) < l.length:=by omega
    have hd0:decide ((j:Int) < 0)=false:=by simp
    have hd1:decide (l.length<=j)=false:=by simpa using hlt
    have hd2:decide ((j:Int) < l.length)=true:=by simpa using hlt
    have hq1:(j:Int).tdiv 2=(k:Int):=by rw [Int.tdiv_eq_ediv];omega
    have hq2:IntKind.i64.wrap (k:Int)=k:=E_ _ (by omega);have Hj:=hiQ hj;clear BO BP hacc hj;go_upto_region 10 with fail;go_cut [12,13] from 48 to 75 (fun sa sb wx => Qk wx gr tv path q (hz - 1) sa sb/\cZ w gr wx/\Has wx w.heap.size 72 #[.int .i64 8,.string ⟨x.name.toArray⟩,.int .i64 x.low,.int .i64 x.high,.int .i64 x.max,.slice C1 x.syms.length l1,.slice C2 x.ah.length l2,.int .i64 x.key,.int .i64 x.elem,.bool x.opn]/\Has wx (w.heap.size+1) 34 #[.int .i64 0,.bool false,.int .i64 0,.string ⟨#[]⟩,.int .i64 0,.slice none 0 0,.slice none 0 0,.slice none 0 0]/\Has wx gV 34 #[.int .i64 8,.bool false,.int .i64 0,.string ⟨#[]⟩,.int .i64 0,va,.slice none 0 0,.slice none 0 0] /\
     jJ (fun w => w.ownsRow 0 9 1 (.slice (some ⟨gs,0,none⟩) l.length cs) l.length (l.map SB)) wx (w.heap.size+2) gV/\jJ (oJ (gV+1) va acc) wx (gV+1) hz)
    case first =>
     have dD:=X.out.e7;refine t_ (S:=(fun w' => w'.cell? ⟨w.heap.size,7,none⟩=some (.int .i64 x.key)/\(w'.cell? ⟨gs,j,none⟩=some (.string ⟨lk.toArray⟩)))) (by kernel_rfl) ⟨dD,(zn.out _ ST.out.now)⟩ (fun hHeld => ?_);clear dD;have fV:Below wr.heap.size wr (wr.drew):=(g_ _ _).drew;obtain ⟨X,Z,V,ST,LI⟩:=b5 X Z V ST LI fV;replace R:=rB R fV;replace KP:=kB KP hgr fV;clear fV;generalize wr.drew=dQ at *;refine tk 0 ?_;refine tk 1 ?_;refine tk 2 ?_;refine tk 3 ?_;refine tk 4 ?_;refine tk 5 ?_;refine tk 6 ?_;refine tk 7 ?_;refine tk 8 ?_;refine I_ (rs:=[9,13]) (by kernel_rfl) (by simp) ?_;refine yI rfl (fun K hK => ?_) (yI rfl (fun K hK => ?_) (FB))
     .
      skip
      go_simp;have Dv:=X.out.here;have Dw:=Z.out.here;have Es:=V.out.here;have sJ:=ST.out.le;have uP:=LI.out.le;have sN:=KP.size;((with_reducible refine (HPQ.out _ _ _ R.out.at_ (HT.out.keep (fun _ hp => KP.low.cell hp) (b_ _))).mono ?_);rintro e oZ adz);obtain ⟨alJ,alK,pR,pU,pV,pW,pX,pY,qc,qg,EZ,rE,rfl,adA,AA,N⟩:=adz.take;replace X:=lK X AA (by omega) (by decide);replace Z:=lK Z AA (by omega) (by decide);replace V:=lK V AA (by omega) (by decide);replace ST:=nT ST AA (by omega);replace LI:=nT LI AA (by omega);replace R:=hiQ adA;replace KP:=KP.trans AA;replace N:=hiQ N;clear AA;have zh:(#[pR,pU,pV,pW,pX,pY,qc,qg] : Array Value).all (·.oneCell')=true:=by simpa using rE
      generalize dQ.heap.size=L15 at *;(try clear hHeld);refine hK.out _ _ zAc (fun hHeld => ?_);clear hK K;refine tk 10 ?_;refine tk 11 ?_;refine tk 12 ?_;refine iE 13 fun K hK => ?_;go_simp;refine aO (fun Eu zo I => ?_);have uh:=X.out.here;have Bc:=Z.out.here;have Et:=V.out.here;have J8:=ST.out.le;have J9:=LI.out.le;have RJ:=N.out.le;have aFJ:=KP.size;obtain ⟨X,Z,V,ST,LI,N⟩:=b6 X Z V ST LI N zo;replace R:=rB R zo;replace KP:=kB KP hgr zo;clear zo;generalize oZ.heap.size=g29 at *;(try clear hHeld);refine hK.out _ _ zAc (fun hHeld => ?_);clear hK K;refine iE 14 fun K hK => ?_;refine eY (by rfl) 34 _ _ (by rfl) (g29) #[pR,pU,pV,pW,pX,pY,qc,qg] (by rfl) (by rfl) 34 _ I.out (by kernel_rfl) rfl (by first | assumption | simp [Value.oneCell']) ?_;generalize akW:Eu.setRow _ _=zl;exact zDt
     skip
     go_simp;refine aO (fun jA jh I => ?_);have sO:=X.out.here;have sW:=Z.out.here;have Az:=V.out.here;have BQ:=ST.out.le;have Dv:=LI.out.le;have Dw:=KP.size;obtain ⟨X,Z,V,ST,LI⟩:=b5 X Z V ST LI jh;replace R:=rB R jh;replace KP:=kB KP hgr jh;clear jh;generalize dQ.heap.size=g16 at *;(try clear hHeld);refine hK.out _ _ zAc (fun hHeld => ?_);clear hK K;refine iE 9 fun K hK => ?_;go_simp;have uh:=X.out.here;have Bc:=Z.out.here;have Et:=V.out.here;have J8:=I.out.here;have J9:=ST.out.le;have RJ:=LI.out.le;have aFJ:=KP.size;((with_reducible refine (HPQ.out _ _ _ R.out.at_ (HT.out.keep (fun _ hp => KP.low.cell hp) (b_ _))).mono ?_);rintro e o9 alL);obtain ⟨apb,apc,pR,pU,pV,pW,pX,pY,qc,qg,EZ,rE,rfl,alM,Kq,N⟩:=alL.take;replace X:=lK X Kq (by omega) (by decide);replace Z:=lK Z Kq (by omega) (by decide);replace V:=lK V Kq (by omega) (by decide);replace I:=lK I Kq (by omega) (by decide);replace ST:=nT ST Kq (by omega);replace LI:=nT LI Kq (by omega);replace R:=hiQ alM;replace KP:=KP.trans Kq;replace N:=hiQ N;clear Kq;have zh:(#[pR,pU,pV,pW,pX,pY,qc,qg] : Array Value).all (·.oneCell')=true:=by simpa using rE
     generalize jA.heap.size=L24 at *;(try clear hHeld);refine hK.out _ _ zAc (fun hHeld => ?_);clear hK K;refine tk 10 ?_;refine tk 11 ?_;refine tk 12 ?_;refine iE 14 fun K hK => ?_;refine eY (by rfl) 34 _ _ (by rfl) (g16) #[pR,pU,pV,pW,pX,pY,qc,qg] (by rfl) (by rfl) 34 _ I.out (by kernel_rfl) rfl (by first | assumption | simp [Value.oneCell']) ?_;generalize akW:o9.setRow _ _=zl;exact zDt
    case rest =>
     clear ST LI X Z V R KP zn hd0 hd1 hd2 hq1 hq2;obtain ⟨⟨gI,fp',fn',pR,pU,pV,pW,pX,pY,qc,qg,EZ,LN,BN,rfl,rfl,rE,I,R,hN,hLN,hgI,hLB⟩,KP,X,Z,V,hST,Tz⟩:=hcut;have zh:(#[pR,pU,pV,pW,pX,pY,qc,qg] : Array Value).all (·.oneCell')=true:=by simpa using rE
     replace R:=hiQ R;replace X:=hiQ X;replace Z:=hiQ Z;replace V:=hiQ V;replace I:=hiQ I;have ST:=hiQ (hST);have LI:=hiQ (Tz);have N:=hiQ (hN);clear hST Tz hN;obtain ⟨iF,iG,iH,iI,bT,gU,dH,bV⟩:=I.out.c8;have hN:=N.out.now;have hNl:=N.out.le;cases q with
     | error pn =>
      obtain ⟨p',n'⟩:=pn;obtain ⟨rfl,hf⟩:=hN;have HR:Hid (fH rec x p path = .error (p',n')):=by show _=_;rw [HD.out,ady (J7.out _ rfl)]
      have hf:=hiQ hf;go_upto_region 12 with fail;go_wp2_with (refine sR Z.out ?_)
      clear iF iG iH iI bT gU dH bV;generalize fU:wc.setRow _ _=lZ;obtain ⟨X,V,I,ST,LI,N⟩:=f6 X V I ST LI N (eR fU);exact zEn
     | ok v =>
      obtain ⟨rfl,JW,vi1,vr1,hc,hv⟩:=hN;have U8:Hid ((#[pR,pU,pV,pW,pX,pY,qc,qg] : Array Value)=(oD v JW vi1 vr1).toArray):=by show _=_;rw [<- hc]
      have HV:=hiQ hv;clear hc hv;have aQ:=V.out.e5;have BG:=LI.out.now;have hIw:=I.out.here;have hlv:=fun j hj => BG.lt j hj;go_upto_region 9 with (at_builtin;refine wX rfl _ _ rfl rfl U8.out BG rfl rfl HV.out (fun j hj => by have:=(hvl.out j hj).2;omega) hNl (by omega) (by have:=yM.out;omega) (by omega) ?_;intro v' w3 hL3 hb3 hg3;obtain ⟨An,cn,hvv⟩:=hL3.form;obtain rfl:v' = .slice An (acc.length+1) cn:=(by rw [hvv,h_];rfl);clear hvv;have V3:=dG V hg3 (fun hh => by have:=(hvl.out _ hh).1;omega);have v36:w3.cell? ⟨gV,5,none⟩=some va:=V3.out.cell 5;have f36:=V3.out.free 5)
      clear BG v36 f36 V3 N LI iF iG iH iI bT gU dH bV aQ;replace X:=dG X hg3 (fun hh => by have:=hvl.out _ hh;omega);replace Z:=dG Z hg3 (fun hh => by have:=hvl.out _ hh;omega);replace V:=dG V hg3 (fun hh => by have:=hvl.out _ hh;omega);replace I:=dG I hg3 (fun hh => by have:=hvl.out _ hh;omega);replace ST:=nG ST hg3 (fun k hh => by have:=hvl.out k hh;omega) hb3.size;replace R:=rG R hg3 (fun j hj => ⟨by have:=(hlv j hj).1;omega,(hlv j hj).2.2⟩);replace KP:=KP.above hb3 (by omega) (by omega);clear hlv;have LJ:=hiQ (hL3.kept);clear hL3;generalize fU:w3.setCell _ _=lZ;obtain ⟨X,Z,I,ST,LJ⟩:=f5 X Z I ST LJ (eF fU);replace R:=rF R V fU.symm (by decide) (by omega);replace KP:=kS KP hgr fU.symm (by omega);replace V:=Ea V fU;clear fU;go_wp2_with fail;go_roundw
      case rel => exact ⟨k+1,j+2,by have:=Hj.out;have:=hn.out;omega,by have:=Hj.out;omega,by go_num,_,_,_,acc ++ [v],⟨X.out,Z.out,V.out,R.out,KP,ST.out,Gs⟩,LJ.out.now,by rw [h_,yM.out];rfl,J6.out v rfl⟩
      case measure => simp [intOf];omega
   obtain rfl:n=k:=by have:=hn.out;omega
   have HD:Hid (fH rec x p path=if ati acc=false then .error (path,1) else Ny (fun is => .mk 8 false 0 [] 0 acc is []) (nR (fun i => rec x.elem (l.getD (2*i+1) []) (path ++ [(i:Int)])) n 0 [])):=by show _=_;rw [HD.out,agP (by rw [hseq,Nat.sub_self];rfl)]
   have hLk:=hL.kept;have hgz:=V.out.here;obtain ⟨B0,hB0⟩ : ∃ B0,wr.heap.size=B0:=⟨_,rfl⟩
   rw [hB0] at hLk hgz;obtain ⟨Av,cv,rfl⟩:=hL.form;have yM:=hiQ hacc;have hl1:Hid (Nz w gr tv path x C1 l1 C2 l2 l As cs gV (.slice Av acc.length cv) (.slice none 0 0) N7 N8 wr) :=
    hiQ ⟨X.out,Z.out,V.out,R.out,KP,ST.out,by omega⟩
   have HLk:=hiQ hLk;have hkn:acc.length<=800000:=by have:=hn.out;omega
   clear X Z V R KP ST hL hLk hB0 hseq hacc hj;go_upto_region 15 with fail;go_loopw [14] (fun i wr => ∃ k:Nat,i = .int .i64 ((k:Int)+1)/\k<=acc.length/\ati acc=ati (acc.drop k)/\∃ (fp:Value) (fn:Int),Nz w gr tv path x C1 l1 C2 l2 l As cs gV (.slice Av acc.length cv) (.slice none 0 0) fp fn wr/\jJ (oJ (gV+1) (.slice Av acc.length cv) acc) wr (gV+1) B0) (fun i _ => acc.length+1 - (intOf i).toNat)
   case atStart => exact ⟨0,rfl,by omega,rfl,_,_,hl1.out,HLk.out⟩
   case round =>
    clear hl1 HLk;obtain ⟨k,rfl,hk1,hix,fp2,fn2,⟨X,Z,V,R,KP,hST,Gs⟩,Ir⟩:=hrel;replace R:=hiQ R;replace X:=hiQ X;replace Z:=hiQ Z;replace V:=hiQ V;have ST:=hiQ (hST);clear hST;have LK:=hiQ (Ir);clear Ir;by_cases hlt:k+1 < acc.length
    .
     obtain ⟨S,hO,-⟩:=LK.out.now;obtain ⟨bk,ok,rfl,hbk,hek⟩:=hO.rds.elem (by omega);obtain ⟨xk,xi,xr,hcx,hxa⟩:=hek k (by omega);obtain ⟨yk,yi,yr,hcy,hya⟩:=hek (k+1) hlt;rw [Yp _ _ hlt] at hix;generalize acc[k]=a at *;generalize acc[k+1]=d at *;obtain ⟨E1,k1,E2,k2,E3,k3,rfl,rfl,rfl,-,-,-⟩:=hxa.forms;obtain ⟨F1,m1,F2,m2,F3,m3,rfl,rfl,rfl,-,-,-⟩:=hya.forms;obtain ⟨a0,a1,a2,a3,a4,a5,a6,a7⟩:=hcx;obtain ⟨d0,d1,d2,d3,d4,d5,d6,d7⟩:=hcy;have HA:=hiQ hxa;have HE:=hiQ hya;have jB:=hiQ hix;have hi1:(k:Int)+1 < acc.length:=by omega
     have hi2:(k:Int) < acc.length:=by omega
     clear hek hxa hya hix hO;have aQ:=V.out.e5;go_wp2_with fail;have hw0:IntKind.i64.wrap (k:Int)=k:=E_ _ (by omega);have hw1:IntKind.i64.wrap ((k:Int)+1 - 1)=k:=by rw [Int.add_sub_cancel];exact hw0
     have hw2:((k:Int)+1).toNat=k+1:=by omega
     have hw3:0<=(k:Int)+1:=by omega
     go_still_tail 11,(by kernel_rfl)
     change wpList _ _ _ _ _ wr.drew
     clear hw0 hw1 hw2 hw3;have HA:=hiQ (HA.out.on (w':=wr.drew) (g_ _ _).drew);have HE:=hiQ (HE.out.on (w':=wr.drew) (g_ _ _).drew);obtain ⟨cv2,hcv⟩ : ∃ cv,Hid (alD a d=cv):=⟨_,rfl⟩
     clear a0 a1 a2 a3 a4 a5 a6 a7 d0 d1 d2 d3 d4 d5 d6 d7 aQ;have fV:Below wr.heap.size wr (wr.drew):=(g_ _ _).drew;obtain ⟨X,Z,V,ST,LK⟩:=b5 X Z V ST LK fV;replace R:=rB R fV;replace KP:=kB KP hgr fV;clear fV;generalize wr.drew=dQ at *;go_wp2_with fail;((with_reducible refine (U9 a d _ _ _ _ _ _ _ HA.out HE.out).mono ?_);rintro e oZ ⟨rfl,o7⟩);obtain ⟨X,Z,V,ST,LK⟩:=b5 X Z V ST LK o7;replace R:=rB R o7;replace KP:=kB KP hgr o7;clear o7;rw [hcv.out] at jB ⊢;clear hcv HA HE;by_cases hneg:cv2 < 0
     .
      have hd:decide (0<=cv2)=false:=f_ (by omega);rw [n_ hneg,CX] at jB;go_wp2_with fail;go_roundw
      case rel => exact ⟨k+1,by go_num,by omega,jB.out,_,_,⟨X.out,Z.out,V.out,R.out,KP,ST.out,Gs⟩,LK.out⟩
      case measure => simp [intOf];omega
     have hd:decide (0<=cv2)=true:=n_ (by omega);rw [f_ hneg,QE] at jB;have HR:Hid (fH rec x p path = .error (path,1)):=by show _=_;rw [HD.out,o_ jB.out]
     go_upto_region 18 with fail;have hz:=Z.out.here;go_wp2_with fail;((with_reducible refine (kD gr _ _ _ path 1 _ (by omega) R.out.at_).mono ?_);rintro e yN hp);exact zCl
    rw [Va _ _ (by omega)] at hix;have HD:Hid (fH rec x p path=Ny (fun is => .mk 8 false 0 [] 0 acc is []) (nR (fun i => rec x.elem (l.getD (2*i+1) []) (path ++ [(i:Int)])) n 0 [])):=by show _=_;rw [HD.out,gB (by rw [hix];simp)]
    have hl1:Hid (Nz w gr tv path x C1 l1 C2 l2 l As cs gV (.slice Av acc.length cv) (.slice none 0 0) fp2 fn2 wr) :=
     hiQ ⟨X.out,Z.out,V.out,R.out,KP,ST.out,Gs⟩
    clear hix;have aQ:=V.out.e5;go_upto_region 20 with fail;clear X Z V R KP ST aQ;go_loopw [15] (fun i wr => ∃ k j:Nat,k<=n/\j=2*k+1/\i = .int .i64 (j:Int)/\∃ (fp:Value) (fn:Int) (va:Value) (adB:List Val),Nz w gr tv path x C1 l1 C2 l2 l As cs gV (.slice Av acc.length cv) va fp fn wr/\oJ B0 va adB wr/\adB.length=k/\nR (fun i => rec x.elem (l.getD (2*i+1) []) (path ++ [(i:Int)])) n 0 []=nR (fun i => rec x.elem (l.getD (2*i+1) []) (path ++ [(i:Int)])) (n - k) k adB/\jJ (oJ (gV+1) (.slice Av acc.length cv) acc) wr (gV+1) B0) (fun i _ => l.length+1 - (intOf i).toNat)
    case atStart => exact ⟨0,1,by omega,rfl,rfl,_,_,_,[],hl1.out,oJ.nil _ _,rfl,rfl,LK.out⟩
    case round =>
     clear hl1 LK;generalize akh:acc=ks at *;clear akh;obtain ⟨k,j,hk1,hj,rfl,N7,N8,va,acc,⟨X,Z,V,R,KP,hST,Gs⟩,hL,hacc,hseq,Ir⟩:=hrel;replace R:=hiQ R;replace X:=hiQ X;replace Z:=hiQ Z;replace V:=hiQ V;have ST:=hiQ (hST);clear hST;have LK:=hiQ (Ir);by_cases hlt:j < l.length
     .
      skip
      obtain ⟨gs,cs',hvs,-,-,-,-⟩:=Du ST.out.now (by omega);injection hvs with hv1 hv2 hv3;subst hv1;subst hv3;clear hv2;have hvl:Hid (∀ j,va.ownBlock=some j->B0<=j/\j < wr.heap.size):=hiQ (fun j hj => ⟨(hL.lt j hj).1,(hL.lt j hj).2.1⟩);have hLk:=hL.kept;have hgz:=And.intro V.out.here Ir.le;clear Ir;obtain ⟨hz,hzE⟩ : ∃ hz,wr.heap.size=hz:=⟨_,rfl⟩
      rw [hzE] at hLk hvl hgz;clear hzE hL;have LI:=hiQ (hLk);clear hLk;have zn:=hiQ (fun (W:World) h => afT (W:=W) (gs:=gs) (n:=l.length) (n':=l.length) (c:=cs) h hlt);have hn1:n - k=(n - (k+1))+1:=by omega
      have hfk:(fun i => rec x.elem (l.getD (2*k+1) []) (path ++ [(i:Int)])) k=rec x.elem l[j] (path ++ [(k:Int)]):=by simp [List.getD,<- hj,hlt]
      rw [hn1] at hseq;have BO:=fun v h => hseq.trans (Nw (v:=v) (hfk.trans h));have BP:=fun e h => hseq.trans (Ja (e:=e) (hfk.trans h));clear hseq hn1 hfk;have hlk:=HL.out l[j] (jl hlt);have HPQ:=hiQ (fun (W:World) (fp':Value) (fn':Int) h1 h2 => Tt.out W fp' fn' k x.elem l[j] h1 h2 HM.out.2 (by omega));generalize rec x.elem l[j] (path ++ [(k:Int)])=q at *;generalize l[j]=lk at *;have J6:=hiQ BO;have J7:=hiQ BP;have yM:=hiQ hacc;have xO:(j:Int) < l.length:=by omega
      have hd0:decide ((j:Int) < 0)=false:=by simp
      have hd1:decide (l.length<=j)=false:=by simpa using hlt
      have hd2:decide ((j:Int) < l.length)=true:=by simpa using hlt
      have hq1:(j:Int).tdiv 2=(k:Int):=by rw [Int.tdiv_eq_ediv];omega
      have hq2:IntKind.i64.wrap (k:Int)=k:=E_ _ (by omega);have Hj:=hiQ hj;clear BO BP hacc hj;go_upto_region 22 with fail;go_cut [16,17] from 100 to 127 (fun sa sb wx => Qk wx gr tv path q (hz - 1) sa sb/\cZ w gr wx/\Has wx w.heap.size 72 #[.int .i64 8,.string ⟨x.name.toArray⟩,.int .i64 x.low,.int .i64 x.high,.int .i64 x.max,.slice C1 x.syms.length l1,.slice C2 x.ah.length l2,.int .i64 x.key,.int .i64 x.elem,.bool x.opn]/\Has wx (w.heap.size+1) 34 #[.int .i64 0,.bool false,.int .i64 0,.string ⟨#[]⟩,.int .i64 0,.slice none 0 0,.slice none 0 0,.slice none 0 0]/\Has wx gV 34 #[.int .i64 8,.bool false,.int .i64 0,.string ⟨#[]⟩,.int .i64 0,.slice Av ks.length cv,va,.slice none 0 0] /\
       jJ (fun w => w.ownsRow 0 9 1 (.slice (some ⟨gs,0,none⟩) l.length cs) l.length (l.map SB)) wx (w.heap.size+2) gV/\jJ (oJ (B0) va acc) wx (B0) hz/\jJ (oJ (gV+1) (.slice Av ks.length cv) ks) wx (gV+1) B0)
      case first =>
       have dM:=X.out.e8;refine t_ (S:=(fun w' => w'.cell? ⟨w.heap.size,8,none⟩=some (.int .i64 x.elem)/\(w'.cell? ⟨gs,j,none⟩=some (.string ⟨lk.toArray⟩)))) (by kernel_rfl) ⟨dM,(zn.out _ ST.out.now)⟩ (fun hHeld => ?_);clear dM;have fV:Below wr.heap.size wr (wr.drew):=(g_ _ _).drew;obtain ⟨X,Z,V,ST,LK,LI⟩:=b6 X Z V ST LK LI fV;replace R:=rB R fV;replace KP:=kB KP hgr fV;clear fV;generalize wr.drew=dQ at *;refine tk 0 ?_;refine tk 1 ?_;refine tk 2 ?_;refine tk 3 ?_;refine tk 4 ?_;refine tk 5 ?_;refine tk 6 ?_;refine tk 7 ?_;refine tk 8 ?_;refine I_ (rs:=[9,13]) (by kernel_rfl) (by simp) ?_;refine yI rfl (fun K hK => ?_) (yI rfl (fun K hK => ?_) (FB))
       .
        skip
        go_simp;have Dv:=X.out.here;have Dw:=Z.out.here;have Es:=V.out.here;have sJ:=ST.out.le;have uP:=LK.out.le;have sN:=LI.out.le;have uQ:=KP.size;((with_reducible refine (HPQ.out _ _ _ R.out.at_ (HT.out.keep (fun _ hp => KP.low.cell hp) (b_ _))).mono ?_);rintro e oZ adz);obtain ⟨alJ,alK,pR,pU,pV,pW,pX,pY,qc,qg,EZ,rE,rfl,adA,AA,N⟩:=adz.take;replace X:=lK X AA (by omega) (by decide);replace Z:=lK Z AA (by omega) (by decide);replace V:=lK V AA (by omega) (by decide);replace ST:=nT ST AA (by omega);replace LK:=nT LK AA (by omega);replace LI:=nT LI AA (by omega);replace R:=hiQ adA;replace KP:=KP.trans AA;replace N:=hiQ N;clear AA;have zh:(#[pR,pU,pV,pW,pX,pY,qc,qg] : Array Value).all (·.oneCell')=true:=by simpa using rE
        generalize dQ.heap.size=L15 at *;(try clear hHeld);refine hK.out _ _ zAd (fun hHeld => ?_);clear hK K;refine tk 10 ?_;refine tk 11 ?_;refine tk 12 ?_;refine iE 13 fun K hK => ?_;go_simp;refine aO (fun BR Kr I => ?_);have Bc:=X.out.here;have Et:=Z.out.here;have J8:=V.out.here;have J9:=ST.out.le;have RJ:=LK.out.le;have aFJ:=LI.out.le;have RN:=N.out.le;have Vb:=KP.size;obtain ⟨X,Z,V,ST,LK,LI,N⟩:=b7 X Z V ST LK LI N Kr;replace R:=rB R Kr;replace KP:=kB KP hgr Kr;clear Kr;generalize oZ.heap.size=g30 at *;(try clear hHeld);refine hK.out _ _ zAd (fun hHeld => ?_);clear hK K;refine iE 14 fun K hK => ?_;refine eY (by rfl) 34 _ _ (by rfl) (g30) #[pR,pU,pV,pW,pX,pY,qc,qg] (by rfl) (by rfl) 34 _ I.out (by kernel_rfl) rfl (by first | assumption | simp [Value.oneCell']) ?_;generalize mZ:BR.setRow _ _=E5;exact zDq
       skip
       go_simp;refine aO (fun jA jh I => ?_);have sO:=X.out.here;have sW:=Z.out.here;have Az:=V.out.here;have BQ:=ST.out.le;have Dv:=LK.out.le;have Dw:=LI.out.le;have Es:=KP.size;obtain ⟨X,Z,V,ST,LK,LI⟩:=b6 X Z V ST LK LI jh;replace R:=rB R jh;replace KP:=kB KP hgr jh;clear jh;generalize dQ.heap.size=g16 at *;(try clear hHeld);refine hK.out _ _ zAd (fun hHeld => ?_);clear hK K;refine iE 9 fun K hK => ?_;go_simp;have Bc:=X.out.here;have Et:=Z.out.here;have J8:=V.out.here;have J9:=I.out.here;have RJ:=ST.out.le;have aFJ:=LK.out.le;have RN:=LI.out.le;have Vb:=KP.size;((with_reducible refine (HPQ.out _ _ _ R.out.at_ (HT.out.keep (fun _ hp => KP.low.cell hp) (b_ _))).mono ?_);rintro e xP alN);obtain ⟨apd,ape,pR,pU,pV,pW,pX,pY,qc,qg,EZ,rE,rfl,alO,Jb,N⟩:=alN.take;replace X:=lK X Jb (by omega) (by decide);replace Z:=lK Z Jb (by omega) (by decide);replace V:=lK V Jb (by omega) (by decide);replace I:=lK I Jb (by omega) (by decide);replace ST:=nT ST Jb (by omega);replace LK:=nT LK Jb (by omega);replace LI:=nT LI Jb (by omega);replace R:=hiQ alO;replace KP:=KP.trans Jb;replace N:=hiQ N;clear Jb;have zh:(#[pR,pU,pV,pW,pX,pY,qc,qg] : Array Value).all (·.oneCell')=true:=by simpa using rE
       generalize jA.heap.size=L25 at *;(try clear hHeld);refine hK.out _ _ zAd (fun hHeld => ?_);clear hK K;refine tk 10 ?_;refine tk 11 ?_;refine tk 12 ?_;refine iE 14 fun K hK => ?_;refine eY (by rfl) 34 _ _ (by rfl) (g16) #[pR,pU,pV,pW,pX,pY,qc,qg] (by rfl) (by rfl) 34 _ I.out (by kernel_rfl) rfl (by first | assumption | simp [Value.oneCell']) ?_;generalize mZ:xP.setRow _ _=E5;exact zDq
      case rest =>
       clear ST LI X Z V R KP zn hd0 hd1 hd2 hq1 hq2 LK;obtain ⟨⟨gI,fp',fn',pR,pU,pV,pW,pX,pY,qc,qg,EZ,LN,BN,rfl,rfl,rE,I,R,hN,hLN,hgI,hLB⟩,KP,X,Z,V,hST,Tz,Ir⟩:=hcut;have zh:(#[pR,pU,pV,pW,pX,pY,qc,qg] : Array Value).all (·.oneCell')=true:=by simpa using rE
       replace R:=hiQ R;replace X:=hiQ X;replace Z:=hiQ Z;replace V:=hiQ V;replace I:=hiQ I;have ST:=hiQ (hST);have LI:=hiQ (Tz);have N:=hiQ (hN);have LK:=hiQ (Ir);clear hST Tz hN;obtain ⟨iF,iG,iH,iI,bT,gU,dH,bV⟩:=I.out.c8;have hN:=N.out.now;have hNl:=N.out.le;cases q with
       | error pn =>
        obtain ⟨p',n'⟩:=pn;obtain ⟨rfl,hf⟩:=hN;have HR:Hid (fH rec x p path = .error (p',n')):=by show _=_;rw [HD.out,J7.out _ rfl];rfl
        have hf:=hiQ hf;go_upto_region 24 with fail;go_wp2_with (refine sR Z.out ?_)
        clear iF iG iH iI bT gU dH bV;generalize fU:wc.setRow _ _=lZ;obtain ⟨X,V,I,ST,LI,N,LK⟩:=f7 X V I ST LI N LK (eR fU);exact zEn
       | ok v =>
        obtain ⟨rfl,JW,vi1,vr1,hc,hv⟩:=hN;have U8:Hid ((#[pR,pU,pV,pW,pX,pY,qc,qg] : Array Value)=(oD v JW vi1 vr1).toArray):=by show _=_;rw [<- hc]
        have HV:=hiQ hv;clear hc hv;have aP:=V.out.e6;have BG:=LI.out.now;have hIw:=I.out.here;have hlv:=fun j hj => BG.lt j hj;go_upto_region 21 with (at_builtin;refine wX rfl _ _ rfl rfl U8.out BG rfl rfl HV.out (fun j hj => by have:=(hvl.out j hj).2;omega) hNl (by omega) (by have:=yM.out;omega) (by omega) ?_;intro v' w3 hL3 hb3 hg3;obtain ⟨An,cn,hvv⟩:=hL3.form;obtain rfl:v' = .slice An (acc.length+1) cn:=(by rw [hvv,h_];rfl);clear hvv;have V3:=dG V hg3 (fun hh => by have:=(hvl.out _ hh).1;omega);have v36:w3.cell? ⟨gV,6,none⟩=some va:=V3.out.cell 6;have f36:=V3.out.free 6)
        clear BG v36 f36 V3 N LI iF iG iH iI bT gU dH bV aP;replace X:=dG X hg3 (fun hh => by have:=hvl.out _ hh;omega);replace Z:=dG Z hg3 (fun hh => by have:=hvl.out _ hh;omega);replace V:=dG V hg3 (fun hh => by have:=hvl.out _ hh;omega);replace I:=dG I hg3 (fun hh => by have:=hvl.out _ hh;omega);replace ST:=nG ST hg3 (fun k hh => by have:=hvl.out k hh;omega) hb3.size;replace LK:=nG LK hg3 (fun k hh => by have:=hvl.out k hh;omega) hb3.size;replace R:=rG R hg3 (fun j hj => ⟨by have:=(hlv j hj).1;omega,(hlv j hj).2.2⟩);replace KP:=KP.above hb3 (by omega) (by omega);clear hlv;have LJ:=hiQ (hL3.kept);clear hL3;generalize fU:w3.setCell _ _=lZ;obtain ⟨X,Z,I,ST,LK,LJ⟩:=f6 X Z I ST LK LJ (eF fU);replace R:=rF R V fU.symm (by decide) (by omega);replace KP:=kS KP hgr fU.symm (by omega);replace V:=qM V fU;clear fU;go_wp2_with fail;go_roundw
        case rel => exact ⟨k+1,j+2,by have:=Hj.out;have:=hn.out;omega,by have:=Hj.out;omega,by go_num,_,_,_,acc ++ [v],⟨X.out,Z.out,V.out,R.out,KP,ST.out,Gs⟩,LJ.out.now,by rw [h_,yM.out];rfl,J6.out v rfl,LK.out⟩
        case measure => simp [intOf];omega
     obtain rfl:n=k:=by have:=hn.out;omega
     have LI:=hiQ (hL.kept);have HR:Hid (fH rec x p path = .ok (.mk 8 false 0 [] 0 ks acc [])):=by show _=_;rw [HD.out,hseq,Nat.sub_self];rfl
     have hlB:=Ir.le;clear hL Ir;obtain ⟨Ai,ci,rfl⟩:=LI.out.now.form;have alP:=hiQ hacc;clear hacc hseq hj;obtain ⟨bK,dh,dn,dI,bG,aQ,aP,dJ⟩:=V.out.c8;go_upto_region 26 with fail;go_wp2_with (refine sR Z.out ?_)
     clear bK dh dn dI bG aQ aP dJ;generalize fU:wr.setRow _ _=lZ;obtain ⟨X,V,ST,LK,LI⟩:=f5 X V ST LK LI (eR fU);replace R:=rR R Z fU.symm (by decide) (by omega);replace KP:=vU KP hgr fU.symm (by omega);replace Z:=dV Z fU;clear fU;exact vJ (v:=.tuple #[.agg #[.int .i64 8,.bool false,.int .i64 0,.string ⟨#[]⟩,.int .i64 0,.slice Av ks.length cv,.slice Ai acc.length ci,.slice none 0 0],.bool true]) (by simp [results,Tryz.results82,go_sem,Z.out.c8]) rfl (eu.good (v:=.mk 8 false 0 [] 0 ks acc []) HR.out R KP (Tv (L1:=1000000) (L2:=1000000) (LK.out.now.row (by omega)) (LI.out.now.row (by omega)) (by unfold I64;omega) (by unfold I64;omega) (by omega) (by have:=alP.out;have:=hn.out;omega) (by omega) (by omega)))

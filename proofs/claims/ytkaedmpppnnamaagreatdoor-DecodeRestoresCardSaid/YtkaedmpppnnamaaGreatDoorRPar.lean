/- What Parts of sheaveref10 returns. No condition. -/
import Derived.Test.YtkaedmpppnnamaaGreatDoorPartQ
set_option maxHeartbeats 3200000
set_option maxRecDepth 100000
namespace Go.Proofs.YtkaedmpppnnamaaGreatDoor
open ChangeShapes WideShapes ChangeAt RowKit
theorem awI (x:ay) (id:Int) (h:x.kind=5) (k:Nat) (hk:k < x.ah.length):iy x id k=x.ah[k].ty:=by
 unfold iy;rw [o_ h,m_ hk]
theorem aDY (x:ay) (id:Int) (h:x.kind=6) (k i:Nat) (hm:dN x id=some i) (hi:i < x.ah.length):iy x id k=x.ah[i].ty:=by
 unfold iy;rw [gB (by omega),o_ h,hm];simp only [m_ hi]
theorem awM (x:ay) (id:Int) (h5:¬ x.kind=5) (h6:¬ x.kind=6) (k:Nat):iy x id k=x.elem:=by
 unfold iy;rw [gB h5,gB h6]
def aFz (ts:List ay) (tv:Value) (l:List Val):Prop := ∀ y ∈ l,∀ (t:Int) (yk yi yr:Value) (W:World),cO ts false y t=true->ValAt W W.heap.size y yk yi yr->aU W W.heap.size tv ts ->
 Calls Tryz.prog 12 #[.agg #[tv],.int .i64 t,aS y yk yi yr] W fun e w' => e = .returned (.int .i64 (wrap64 (uz ts y t)))/\Below W.heap.size W w'
theorem zBi {p:Prop} (h:p:=by exact ⟨S.out.cell 0,⟨I.out.cell 6,(fun b o hlt => hbr.cell (p:=⟨b,o,none⟩) hlt)⟩⟩):p:=h
theorem zCn {p:Prop} (h:p:=by
 have dH:=I.out.e6;obtain ⟨aK,bJ,bY,bZ,dL,eX,bU,dD,dM,dU⟩:=X.out.c10;go_upto_region 20 with fail;have aH:=S.out.e0;refine t_ (S:=(fun w' => w'.cell? ⟨w.heap.size,0,none⟩=some (.slice (some ⟨b,o,none⟩) ts.length c)/\w'.cell? ⟨w.heap.size+1,6,none⟩=some (.slice (some ⟨b1,o1,none⟩) v.items.length n2)/\(∀ (b o:Nat),b < w.heap.size->w'.cell? ⟨b,o,none⟩=w.cell? ⟨b,o,none⟩))) (by kernel_rfl) ⟨aH,dH,(fun b o hlt => hbr.cell (p:=⟨b,o,none⟩) hlt)⟩ (fun hHeld => ?_);clear dH aK bJ bY bZ dL eX bU dD dM dU aH;have aY:Below wr.heap.size wr (wr.drew):=(g_ _ _).drew;obtain ⟨S,I,X⟩:=b3 S I X aY;replace hbr:=dT hbr aY;clear aY;generalize wr.drew=dw at *;refine tk 0 ?_;refine tk 1 ?_;refine tk 2 ?_;refine tk 3 ?_;refine tk 4 ?_;refine tk 5 ?_;refine tk 6 ?_;refine tk 7 ?_;refine iE 8 fun K hK => ?_;go_simp;((with_reducible refine (xZ.out _ _ _ _ (sG.out.on hbr) (HT.out.on hbr)).mono ?_);rintro e lZ ⟨rfl,kR⟩);obtain ⟨S,I,X⟩:=b3 S I X kR;replace hbr:=dT hbr kR;clear kR;(try clear hHeld);refine hK.out _ _ zBi (fun hHeld => ?_);clear hK K;refine tk 9 ?_;refine tk 10 ?_;refine Dl (by kernel_rfl) ?_ _;(try clear hHeld);go_wp2_with fail;go_roundw
 case rel => exact ⟨k+1,_,by go_num,rfl,by omega,(ajA _).symm,by rw [afc];exact Hp.out,S.out,I.out,X.out,hbr⟩
 case measure => simp [intOf];omega):p:=h
theorem zJo {p:Prop} (h:p:=by
 refine Dl (by kernel_rfl) ?_ _;(try clear hHeld);go_wp2_with fail;go_roundw
 case rel => exact ⟨k+1,_,by go_num,rfl,by omega,(ajA _).symm,by rw [afc];exact Hp.out,S.out,I.out,X.out,hbr⟩
 case measure => simp [intOf];omega):p:=h
theorem zGe {p:Prop} (h:p:=by
 go_wp2_with fail;go_meet
 exact ⟨_,rfl,by unfold wrap64;omega,HE2.out _ 0 0 (by rw [o_ mY.out,KE.out];simp),S.out,I.out,X.out,hw3⟩):p:=h
theorem avk (ts:List ay) (A:Option Addr) (c n:Nat) (v:Val) (A1 A2 A3:Option Addr) (n1 n2 n3:Nat) (w:World) (hn:n < ts.length) (hkk:1<=ts[n].kind/\ts[n].kind<=9)
  (ht:aU w w.heap.size (.slice A ts.length c) ts) (hv:ValAt w w.heap.size v (.slice A1 v.keys.length n1) (.slice A2 v.items.length n2) (.slice A3 v.rest.length n3)) (hf:cO ts false v n=true) (hU:aFz ts (.slice A ts.length c) (v.keys ++ v.items)) :
  Calls Tryz.prog 12 #[.agg #[.slice A ts.length c],.int .i64 n,aS v (.slice A1 v.keys.length n1) (.slice A2 v.items.length n2) (.slice A3 v.rest.length n3)] w fun e w' => e = .returned (.int .i64 (wrap64 (uz ts v n)))/\Below w.heap.size w w':=by
 obtain ⟨b,o,rfl,hbb,hel⟩:=ht.elem (by omega);obtain ⟨vs,vm,hcells,hx⟩:=hel n hn;clear hel;have hxt:bM ts n=some ts[n]:=by unfold bM;rw [o_ (by omega)];simp [hn]
 have HE:=hiQ (OT hxt hf hkk);have HFI:=hiQ (auB hxt hf hkk);have HF5:=hiQ (fun h => (RZ hxt hf h).1);have HF6:Hid (ts[n].kind=6->0 < v.items.length->∃ i,dN ts[n] v.id=some i/\i < ts[n].ah.length):=hiQ fun h h0 => by
  cases hm:dN ts[n] v.id with
  | none => rw [KG hxt hf h hm] at h0;simp at h0
  | some i => exact ⟨i,rfl,(avG hxt hf h hm).2.1⟩
 have HFK:Hid (∀ y ∈ v.keys,cO ts false y ts[n].key=true):=hiQ fun y hy => by
  by_cases h8:ts[n].kind=8
  . exact (Ei hxt hf (.inr (.inl h8))).1 y hy
  rw [CO (pI hxt hf).1 (pI hxt hf).2.1 h8] at hy;simp at hy
 have Dq:=hiQ hU;clear hf hU hxt hkk;generalize ts[n]=x at *;obtain ⟨C1,l1,C2,l2,rfl,rfl,-,-⟩:=hx.forms;obtain ⟨kd,hkd⟩ : ∃ kd:Int,x.kind=kd:=⟨_,rfl⟩
 have hlt:(n:Int) < ts.length:=by omega
 have hd0:decide ((n:Int) < 0)=false:=by simp
 have hd1:decide (ts.length<=n)=false:=by simpa using hn
 have HX:=hiQ hx;have HT:=hiQ ht;have HV:=hiQ hv;have HC:=hiQ hcells;have mY:=hiQ hkd;have hxs:=hx.lens;have hvl:=hv.lens;obtain ⟨T,aEe⟩ : ∃ T,Hid (wrap64 (uz ts v n)=T):=⟨_,hiQ rfl⟩
 have HE2:Hid (∀ a b d:Int,a=(v.rest.length:Int)+(if x.kind=4 then (if (qm x v.id).isSome then 0 else 1) else 0)->wrap64 (a+(Ls ts (v.keys.drop 0) x.key+gu ts x v.id v.items 0))=T):=hiQ fun a _ _ h => by
  rw [<- aEe.out,HE.out,h,WM,<- Int.add_assoc]
 rw [aEe.out];simp only [aS];clear hx ht hcells hn hv HE aEe;go_enter Tryz.func12,Tryz.ntmps12
 go_upto_region 1 with fail;refine jg (fun wd2 hb1 S I => ?_);have hw3:=hb1;clear hb1;obtain ⟨c0,c1,c2,c3,c4,c5,c6,c7,c8,c9⟩:=HC.out.below (hw3) (by omega);rw [hkd] at c0;clear hkd;have aH:=S.out.e0;obtain ⟨iF,iG,iH,iI,bT,gU,dH,bV⟩:=I.out.c8;go_upto_region 2 with fail;clear c0 c1 c2 c3 c4 c5 c6 c7 c8 c9 hd0 hd1 aH iF iG iH iI bT gU dH bV;refine aO (fun fG hb4 X => ?_);have nI:=S.out.here;have mO:=I.out.here;have kH:=hw3.size;obtain ⟨S,I⟩:=b2 S I hb4;replace hw3:=dT hw3 hb4;clear hb4;generalize wd2.heap.size=g6 at *;obtain ⟨gX,rfl⟩ : ∃ g,g=g6:=⟨_,rfl⟩
 have zD:w.heap.size+1 < gX:=by omega
 obtain ⟨iF,iG,iH,iI,bT,gU,dH,bV⟩:=I.out.c8;obtain ⟨aK,bJ,bY,bZ,dL,eX,bU,dD,dM,dU⟩:=X.out.c10;go_upto_if 26 with fail
 go_cut [8,9,10] from 26 to 37 (fun s8 s9 s10 wx => ∃ a:Int,s8 = .int .i64 a/\wrap64 a=a/\wrap64 (a+(Ls ts (v.keys.drop 0) x.key+gu ts x v.id v.items 0))=T/\Has wx w.heap.size 30 #[.slice (some ⟨b,o,none⟩) ts.length c]/\Has wx (w.heap.size+1) 34 #[.int .i64 v.kind,.bool v.bool,.int .i64 v.num,.string ⟨v.str.toArray⟩,.int .i64 v.id,.slice A1 v.keys.length n1,.slice A2 v.items.length n2,.slice A3 v.rest.length n3]/\Has wx gX 72 #[.int .i64 kd,.string ⟨x.name.toArray⟩,.int .i64 x.low,.int .i64 x.high,.int .i64 x.max,.slice C1 x.syms.length l1,.slice C2 x.ah.length l2,.int .i64 x.key,.int .i64 x.elem,.bool x.opn]/\Below w.heap.size w wx)
 case first =>
  by_cases h4:kd=4
  .
   subst h4;have HS:=hiQ (fun W h => Ol x (.slice C1 x.syms.length l1) (.slice C2 x.ah.length l2) v.id W h);simp only [dA,mY.out] at HS;go_wp2_with fail;clear iF iG iH iI bT gU dH bV aK bJ bY bZ dL eX bU dD dM dU;((with_reducible refine (HS.out _ (HX.out.on hw3)).mono ?_);rintro e kL ⟨rfl,iR⟩);obtain ⟨S,I,X⟩:=b3 S I X iR;replace hw3:=dT hw3 iR;clear iR;cases hsy:qm x v.id with
   | some i =>
    simp only [xg,M_];have KE:=hiQ hsy;clear hsy HS;exact zGe
   | none =>
    simp only [xg,OU];have KE:=hiQ hsy;clear hsy HS;have hw:IntKind.i64.wrap ((v.rest.length:Int)+1)=(v.rest.length:Int)+1:=E_ _ (by omega);exact zGe
  go_wp2_with fail;go_meet
  exact ⟨_,rfl,by unfold wrap64;omega,HE2.out _ 0 0 (by rw [gB (by rw [mY.out];exact h4)];simp),S.out,I.out,X.out,hw3⟩
 case rest =>
  obtain ⟨a,rfl,ha,hp,hl0⟩:=hcut;have Hp:=hiQ hp;have Ha:=hiQ ha;have HL0:=hiQ hl0;clear hp ha hl0 S I X hw3 HE2;go_wp2_with fail;go_loopw [11,8] (fun i s wr => ∃ (k:Nat) (a:Int),i = .int .i64 (k:Int)/\s = .int .i64 a/\k<=v.keys.length/\wrap64 a=a/\wrap64 (a+(Ls ts (v.keys.drop k) x.key+gu ts x v.id v.items 0))=T/\Has wr w.heap.size 30 #[.slice (some ⟨b,o,none⟩) ts.length c]/\Has wr (w.heap.size+1) 34 #[.int .i64 v.kind,.bool v.bool,.int .i64 v.num,.string ⟨v.str.toArray⟩,.int .i64 v.id,.slice A1 v.keys.length n1,.slice A2 v.items.length n2,.slice A3 v.rest.length n3]/\Has wr gX 72 #[.int .i64 kd,.string ⟨x.name.toArray⟩,.int .i64 x.low,.int .i64 x.high,.int .i64 x.max,.slice C1 x.syms.length l1,.slice C2 x.ah.length l2,.int .i64 x.key,.int .i64 x.elem,.bool x.opn]/\Below w.heap.size w wr) (fun i _ _ => v.keys.length - (intOf i).toNat)
  case atStart => exact ⟨0,_,rfl,rfl,by omega,Ha.out,Hp.out,HL0.out⟩
  case round =>
   clear HL0 Ha Hp;obtain ⟨k,a,rfl,rfl,hk1,ha,hp,S,I,X,hbr⟩:=hrel;replace S:=hiQ S;replace I:=hiQ I;replace X:=hiQ X;by_cases hlt:k < v.keys.length
   .
    have hfk:=HFK.out _ (jl hlt);have hmem:v.keys[k] ∈ v.keys ++ v.items:=Dp.2 (.inl (jl hlt));obtain ⟨b1,o1,rfl,Fp,rJ⟩:=HV.out.keys.elem (by omega);obtain ⟨yk,yi,yr,hc1,hya⟩:=rJ k hlt;rw [pz ts v.keys _ k hlt,Int.add_assoc] at hp;have xZ:=hiQ (fun W yk yi yr h1 h2 => Dq.out _ hmem x.key yk yi yr W hfk h1 h2);generalize v.keys[k]=y at *;have sG:=hiQ hya;have Hp:=hiQ hp;have xO:(k:Int) < v.keys.length:=by omega
    have hd0:decide ((k:Int) < 0)=false:=by simp
    have hd1:decide (v.keys.length<=k)=false:=by simpa using hlt
    obtain ⟨E1,k1,E2,k2,E3,k3,rfl,rfl,rfl,-,-,-⟩:=hya.forms;obtain ⟨y0,y1,y2,y3,y4,y5,y6,y7⟩:=hc1;clear rJ hya hp hfk hmem;have gU:=I.out.e5;go_upto_region 10 with fail;have aH:=S.out.e0;have dD:=X.out.e7;refine t_ (S:=(fun w' => w'.cell? ⟨w.heap.size,0,none⟩=some (.slice (some ⟨b,o,none⟩) ts.length c)/\w'.cell? ⟨gX,7,none⟩=some (.int .i64 x.key)/\w'.cell? ⟨w.heap.size+1,5,none⟩=some (.slice (some ⟨b1,o1,none⟩) v.keys.length n1)/\(∀ (b o:Nat),b < w.heap.size->w'.cell? ⟨b,o,none⟩=w.cell? ⟨b,o,none⟩))) (by kernel_rfl) ⟨aH,dD,gU,(fun b o hlt => hbr.cell (p:=⟨b,o,none⟩) hlt)⟩ (fun hHeld => ?_);clear gU aH dD;have aY:Below wr.heap.size wr (wr.drew):=(g_ _ _).drew;obtain ⟨S,I,X⟩:=b3 S I X aY;replace hbr:=dT hbr aY;clear aY;generalize wr.drew=dw at *;refine tk 0 ?_;refine tk 1 ?_;refine tk 2 ?_;refine tk 3 ?_;refine tk 4 ?_;refine tk 5 ?_;refine tk 6 ?_;refine tk 7 ?_;refine tk 8 ?_;refine iE 9 fun K hK => ?_;go_simp;((with_reducible refine (xZ.out _ _ _ _ (sG.out.on hbr) (HT.out.on hbr)).mono ?_);rintro e lZ ⟨rfl,kR⟩);obtain ⟨S,I,X⟩:=b3 S I X kR;replace hbr:=dT hbr kR;clear kR;(try clear hHeld);refine hK.out _ _ (⟨S.out.cell 0,⟨X.out.cell 7,⟨I.out.cell 5,(fun b o hlt => hbr.cell (p:=⟨b,o,none⟩) hlt)⟩⟩⟩) (fun hHeld => ?_);clear hK K;refine tk 10 ?_;refine tk 11 ?_;exact zJo
   rw [nV _ _ _ _ (by omega),Int.zero_add] at hp;have hn1:¬ (k:Int) < v.keys.length:=by omega
   have hl0:Hid (Has wr w.heap.size _ _/\Has wr (w.heap.size+1) _ _/\Has wr gX _ _/\Below w.heap.size w wr):=hiQ ⟨S.out,I.out,X.out,hbr⟩;have Hp:=hiQ hp;have Ha:=hiQ ha;clear hp ha;have gU:=I.out.e5;go_upto_region 11 with fail;clear S I X hbr;go_wp2_with fail;go_loopw [12,8] (fun i s wr => ∃ (k:Nat) (a:Int),i = .int .i64 (k:Int)/\s = .int .i64 a/\k<=v.items.length/\wrap64 a=a/\wrap64 (a+gu ts x v.id (v.items.drop k) k)=T/\Has wr w.heap.size 30 #[.slice (some ⟨b,o,none⟩) ts.length c]/\Has wr (w.heap.size+1) 34 #[.int .i64 v.kind,.bool v.bool,.int .i64 v.num,.string ⟨v.str.toArray⟩,.int .i64 v.id,.slice A1 v.keys.length n1,.slice A2 v.items.length n2,.slice A3 v.rest.length n3]/\Has wr gX 72 #[.int .i64 kd,.string ⟨x.name.toArray⟩,.int .i64 x.low,.int .i64 x.high,.int .i64 x.max,.slice C1 x.syms.length l1,.slice C2 x.ah.length l2,.int .i64 x.key,.int .i64 x.elem,.bool x.opn]/\Below w.heap.size w wr) (fun i _ _ => v.items.length - (intOf i).toNat)
   case atStart => exact ⟨0,_,rfl,rfl,by omega,Ha.out,Hp.out,hl0.out⟩
   case round =>
    clear hl0 Ha Hp hk1 hlt hn1;obtain ⟨k,a,rfl,rfl,hk1,ha,hp,S,I,X,hbr⟩:=hrel;replace S:=hiQ S;replace I:=hiQ I;replace X:=hiQ X;by_cases hlt:k < v.items.length
    .
     have hfk:=HFI.out k hlt;have hmem:v.items[k] ∈ v.keys ++ v.items:=Dp.2 (.inr (jl hlt));obtain ⟨b1,o1,rfl,Fp,rJ⟩:=HV.out.items.elem (by omega);obtain ⟨yk,yi,yr,hc1,hya⟩:=rJ k hlt;rw [aDR ts x v.id v.items k hlt] at hp;have xZ:=hiQ (fun W yk yi yr h1 h2 => Dq.out _ hmem (iy x v.id k) yk yi yr W hfk h1 h2);generalize v.items[k]=y at *;have sG:=hiQ hya;have Hp:=hiQ hp;have xO:(k:Int) < v.items.length:=by omega
     have hd0:decide ((k:Int) < 0)=false:=by simp
     have hd1:decide (v.items.length<=k)=false:=by simpa using hlt
     obtain ⟨E1,k1,E2,k2,E3,k3,rfl,rfl,rfl,-,-,-⟩:=hya.forms;obtain ⟨y0,y1,y2,y3,y4,y5,y6,y7⟩:=hc1;have hi0:0 < v.items.length:=by omega
     clear rJ hya hp hfk hmem;by_cases h5:kd=5
     .
      subst h5;have hil:=HF5.out mY.out;have hlt2:k < x.ah.length:=by omega
      obtain ⟨b2,o2,rfl,Ew,zx⟩:=HX.out.ah.elem (by omega);obtain ⟨mk,mi,mr,hc2,hma⟩:=zx k hlt2;have hm2:w.cell? ⟨b2,o2+k*13+2,none⟩=some (.int .i64 x.ah[k].ty):=hc2.2.2.1;rw [<- awI x v.id mY.out k hlt2] at hm2;generalize iy x v.id k=mt at *;have hm3:=((hbr).cell (p:=⟨b2,o2+k*13+2,none⟩) Ew).trans hm2;have Qr:(k:Int) < x.ah.length:=by omega
      have hd2:decide (x.ah.length<=k)=false:=by simpa using hlt2
      clear zx hma hc2 hil;exact zCn
     by_cases h6:kd=6
     .
      subst h6;obtain ⟨i,lY,hlt2⟩:=HF6.out mY.out hi0;obtain ⟨b2,o2,rfl,Ew,zx⟩:=HX.out.ah.elem (by omega);obtain ⟨mk,mi,mr,hc2,hma⟩:=zx i hlt2;have hm2:w.cell? ⟨b2,o2+i*13+2,none⟩=some (.int .i64 x.ah[i].ty):=hc2.2.2.1;rw [<- aDY x v.id mY.out k i lY hlt2] at hm2;generalize iy x v.id k=mt at *;have HM:=hiQ (fun W h => xC x (.slice C1 x.syms.length l1) (.slice (some ⟨b2,o2,none⟩) x.ah.length l2) v.id W h);simp only [dA,mY.out,lY,xg,M_] at HM;have Qr:(i:Int) < x.ah.length:=by omega
      have hd2:decide (x.ah.length<=i)=false:=by simpa using hlt2
      have hd3:decide ((i:Int) < 0)=false:=by simp
      clear zx hma hc2 lY h5;obtain ⟨iF,iG,iH,iI,bT,gU,dH,bV⟩:=I.out.c8;obtain ⟨aK,bJ,bY,bZ,dL,eX,bU,dD,dM,dU⟩:=X.out.c10;go_wp2_with fail;clear iF iG iH iI bT gU dH bV aK bJ bY bZ dL eX bU dD dM dU;((with_reducible refine (HM.out _ (HX.out.on hbr)).mono ?_);rintro e kL ⟨rfl,iR⟩);obtain ⟨S,I,X⟩:=b3 S I X iR;replace hbr:=dT hbr iR;clear iR;have hm3:=((hbr).cell (p:=⟨b2,o2+i*13+2,none⟩) Ew).trans hm2;have dH:=I.out.e6;have bU:=X.out.e6;go_upto_region 20 with fail;have aH:=S.out.e0;refine t_ (S:=(fun w' => w'.cell? ⟨w.heap.size,0,none⟩=some (.slice (some ⟨b,o,none⟩) ts.length c)/\w'.cell? ⟨w.heap.size+1,6,none⟩=some (.slice (some ⟨b1,o1,none⟩) v.items.length n2)/\(∀ (b o:Nat),b < w.heap.size->w'.cell? ⟨b,o,none⟩=w.cell? ⟨b,o,none⟩))) (by kernel_rfl) ⟨aH,dH,(fun b o hlt => hbr.cell (p:=⟨b,o,none⟩) hlt)⟩ (fun hHeld => ?_);clear dH bU aH;have fV:Below kL.heap.size kL (kL.drew):=(g_ _ _).drew;obtain ⟨S,I,X⟩:=b3 S I X fV;replace hbr:=dT hbr fV;clear fV;generalize kL.drew=dQ at *;refine tk 0 ?_;refine tk 1 ?_;refine tk 2 ?_;refine tk 3 ?_;refine tk 4 ?_;refine tk 5 ?_;refine tk 6 ?_;refine tk 7 ?_;refine iE 8 fun K hK => ?_;go_simp;((with_reducible refine (xZ.out _ _ _ _ (sG.out.on hbr) (HT.out.on hbr)).mono ?_);rintro e oZ ⟨rfl,o7⟩);obtain ⟨S,I,X⟩:=b3 S I X o7;replace hbr:=dT hbr o7;clear o7;(try clear hHeld);refine hK.out _ _ zBi (fun hHeld => ?_);clear hK K;refine tk 9 ?_;refine tk 10 ?_;exact zJo
     have hmt:=awM x v.id (by rw [mY.out];exact h5) (by rw [mY.out];exact h6) k;rw [hmt] at xZ Hp;clear hmt;exact zCn
    rw [avL _ _ _ _ _ (by omega),Int.add_zero,ha] at hp;have hn1:¬ (k:Int) < v.items.length:=by omega
    have Hp:=hiQ hp;clear hp;have dH:=I.out.e6;go_wp2_with fail;go_ret;exact ⟨bC Hp.out,hbr⟩
theorem avT (ts:List ay) (A:Option Addr) (c:Nat) (hs:∀ x ∈ ts,1<=x.kind/\x.kind<=9):∀ (N:Nat) (v:Val) (t:Int) (vk vi vr:Value) (w:World),nodes v < N->cO ts false v t=true->ValAt w w.heap.size v vk vi vr->aU w w.heap.size (.slice A ts.length c) ts ->
  Calls Tryz.prog 12 #[.agg #[.slice A ts.length c],.int .i64 t,aS v vk vi vr] w fun e w' => e = .returned (.int .i64 (wrap64 (uz ts v t)))/\Below w.heap.size w w':=by
 intro N
 induction N with
 | zero => intro v t vk vi vr w h;omega
 | succ N ih =>
  intro v t vk vi vr w hN hf hv hT;have hU:aFz ts (.slice A ts.length c) (v.keys ++ v.items):=fun y hy t yk yi yr W h1 h2 h3 => ih y t yk yi yr W (by
   have hy2:nodes y<=lT (v.keys ++ v.items):=tY _ _ hy;rw [ard] at hy2;have:=Jp v;omega) h1 h2 h3
  obtain ⟨n,rfl,hn,hkv⟩:=ajB hf;obtain ⟨A1,n1,A2,n2,A3,n3,rfl,rfl,rfl,-,-,-⟩:=hv.forms;exact avk ts A c n v A1 A2 A3 n1 n2 n3 w hn (hs _ (jl hn)) hT hv hf hU

/- unknown. No condition. -/
import Derived.Test.YtkaedmpppnnamaaGreatDoorHAI
set_option maxHeartbeats 1600000
set_option maxRecDepth 100000
namespace Go.Proofs.YtkaedmpppnnamaaGreatDoor
open ChangeShapes WideShapes ChangeAt RowKit
theorem afc (a b c:Int):wrap64 (IntKind.i64.wrap (a+wrap64 b)+c)=wrap64 (a+(b+c)):=by rw [Qz];unfold wrap64;omega
theorem ajA (a:Int):IntKind.i64.wrap a=wrap64 (IntKind.i64.wrap a):=by rw [Qz];unfold wrap64;omega
def akw (ts:List ay) (tv:Value) (l:List Val):Prop := ∀ y ∈ l,∀ (t:Int) (yk yi yr:Value) (W:World),cO ts false y t=true->ValAt W W.heap.size y yk yi yr->aU W W.heap.size tv ts ->
 Calls Tryz.prog 28 #[.agg #[tv],.int .i64 t,aS y yk yi yr] W fun e w' => e = .returned (.int .i64 (wrap64 (uz ts y t)))/\Below W.heap.size W w'
theorem zBw {p:Prop} (h:p:=by
 obtain ⟨b,o,rfl,hbb,hel⟩:=ht.elem (by omega);obtain ⟨vs,vm,hcells,hx⟩:=hel n hn;clear hel;have hxt:bM ts n=some ts[n]:=by unfold bM;rw [o_ (by omega)];simp [hn]
 have HE:=hiQ (Lu ts v n ts[n] hxt)
 skip
 generalize ts[n]=x at *;obtain ⟨C1,l1,C2,l2,rfl,rfl,-,-⟩:=hx.forms;have hlt:(n:Int) < ts.length:=by omega
 have hd0:decide ((n:Int) < 0)=false:=by simp
 have hd1:decide (ts.length<=n)=false:=by simpa using hn
 have HX:=hiQ hx;have HT:=hiQ ht;have HV:=hiQ hv;have HC:=hiQ hcells;have mY:=hiQ hk;have hxs:=hx.lens;have hvl:=hv.lens;simp only [aS,hkv];clear hx ht hcells hn hv hxt hkv;go_enter Tryz.func28,Tryz.ntmps28
 go_upto_region 1 with fail;refine jg (fun wd2 hb1 S I => ?_);have hw3:=hb1;clear hb1;obtain ⟨c0,c1,c2,c3,c4,c5,c6,c7,c8,c9⟩:=HC.out.below (hw3) (by omega);rw [hk] at c0;have aH:=S.out.e0;obtain ⟨iF,iG,iH,iI,bT,gU,dH,bV⟩:=I.out.c8;go_upto_region 2 with fail;clear c0 c1 c2 c3 c4 c5 c6 c7 c8 c9 hd0 hd1 aH iF iG iH iI bT gU dH bV;refine aO (fun fG hb4 X => ?_);have nI:=S.out.here;have mO:=I.out.here;have kH:=hw3.size;obtain ⟨S,I⟩:=b2 S I hb4;replace hw3:=dT hw3 hb4;clear hb4;generalize wd2.heap.size=g6 at *;obtain ⟨gX,rfl⟩ : ∃ g,g=g6:=⟨_,rfl⟩
 have zD:w.heap.size+1 < gX:=by omega
 obtain ⟨iF,iG,iH,iI,bT,gU,dH,bV⟩:=I.out.c8;obtain ⟨aK,bJ,bY,bZ,dL,eX,bU,dD,dM,dU⟩:=X.out.c10;have HR:Hid (wrap64 (uz ts v n)=(v.rest.length:Int)):=by show _=_;rw [HE.out];simp [QV,mY.out];unfold wrap64;omega
 go_wp2_with fail;go_ret;exact ⟨bC (by rw [HR.out]),hw3⟩):p:=h
theorem aEg
 (ts:List ay) (A:Option Addr) (c n:Nat) (v:Val) (A1 A2 A3:Option Addr) (n1 n2 n3:Nat) (w:World) (hn:n < ts.length) (hk:ts[n].kind=1) (hkv:v.kind=1)
 (ht:aU w w.heap.size (.slice A ts.length c) ts) (hv:ValAt w w.heap.size v (.slice A1 v.keys.length n1) (.slice A2 v.items.length n2) (.slice A3 v.rest.length n3)) :
 Calls Tryz.prog 28 #[.agg #[.slice A ts.length c],.int .i64 n,aS v (.slice A1 v.keys.length n1) (.slice A2 v.items.length n2) (.slice A3 v.rest.length n3)] w (RT w (.int .i64 (wrap64 (uz ts v n)))):=by
 exact zBw
theorem afd
 (ts:List ay) (A:Option Addr) (c n:Nat) (v:Val) (A1 A2 A3:Option Addr) (n1 n2 n3:Nat) (w:World) (hn:n < ts.length) (hk:ts[n].kind=2) (hkv:v.kind=2)
 (ht:aU w w.heap.size (.slice A ts.length c) ts) (hv:ValAt w w.heap.size v (.slice A1 v.keys.length n1) (.slice A2 v.items.length n2) (.slice A3 v.rest.length n3)) :
 Calls Tryz.prog 28 #[.agg #[.slice A ts.length c],.int .i64 n,aS v (.slice A1 v.keys.length n1) (.slice A2 v.items.length n2) (.slice A3 v.rest.length n3)] w (RT w (.int .i64 (wrap64 (uz ts v n)))):=by
 exact zBw
theorem afe
 (ts:List ay) (A:Option Addr) (c n:Nat) (v:Val) (A1 A2 A3:Option Addr) (n1 n2 n3:Nat) (w:World) (hn:n < ts.length) (hk:ts[n].kind=3) (hkv:v.kind=3)
 (ht:aU w w.heap.size (.slice A ts.length c) ts) (hv:ValAt w w.heap.size v (.slice A1 v.keys.length n1) (.slice A2 v.items.length n2) (.slice A3 v.rest.length n3)) :
 Calls Tryz.prog 28 #[.agg #[.slice A ts.length c],.int .i64 n,aS v (.slice A1 v.keys.length n1) (.slice A2 v.items.length n2) (.slice A3 v.rest.length n3)] w (RT w (.int .i64 (wrap64 (uz ts v n)))):=by
 exact zBw
theorem aEr
 (ts:List ay) (A:Option Addr) (c n:Nat) (v:Val) (A1 A2 A3:Option Addr) (n1 n2 n3:Nat) (w:World) (hn:n < ts.length) (hk:ts[n].kind=4) (hkv:v.kind=4)
 (ht:aU w w.heap.size (.slice A ts.length c) ts) (hv:ValAt w w.heap.size v (.slice A1 v.keys.length n1) (.slice A2 v.items.length n2) (.slice A3 v.rest.length n3)) :
 Calls Tryz.prog 28 #[.agg #[.slice A ts.length c],.int .i64 n,aS v (.slice A1 v.keys.length n1) (.slice A2 v.items.length n2) (.slice A3 v.rest.length n3)] w (RT w (.int .i64 (wrap64 (uz ts v n)))):=by
 obtain ⟨b,o,rfl,hbb,hel⟩:=ht.elem (by omega);obtain ⟨vs,vm,hcells,hx⟩:=hel n hn;clear hel;have hxt:bM ts n=some ts[n]:=by unfold bM;rw [o_ (by omega)];simp [hn]
 have HE:=hiQ (Lu ts v n ts[n] hxt)
 skip
 generalize ts[n]=x at *;obtain ⟨C1,l1,C2,l2,rfl,rfl,-,-⟩:=hx.forms;have hlt:(n:Int) < ts.length:=by omega
 have hd0:decide ((n:Int) < 0)=false:=by simp
 have hd1:decide (ts.length<=n)=false:=by simpa using hn
 have HX:=hiQ hx;have HT:=hiQ ht;have HV:=hiQ hv;have HC:=hiQ hcells;have mY:=hiQ hk;have hxs:=hx.lens;have hvl:=hv.lens;simp only [aS,hkv];clear hx ht hcells hn hv hxt hkv;go_enter Tryz.func28,Tryz.ntmps28
 go_upto_region 1 with fail;refine jg (fun wd2 hb1 S I => ?_);have hw3:=hb1;clear hb1;obtain ⟨c0,c1,c2,c3,c4,c5,c6,c7,c8,c9⟩:=HC.out.below (hw3) (by omega);rw [hk] at c0;have aH:=S.out.e0;obtain ⟨iF,iG,iH,iI,bT,gU,dH,bV⟩:=I.out.c8;go_upto_region 2 with fail;clear c0 c1 c2 c3 c4 c5 c6 c7 c8 c9 hd0 hd1 aH iF iG iH iI bT gU dH bV;refine aO (fun fG hb4 X => ?_);have nI:=S.out.here;have mO:=I.out.here;have kH:=hw3.size;obtain ⟨S,I⟩:=b2 S I hb4;replace hw3:=dT hw3 hb4;clear hb4;generalize wd2.heap.size=g6 at *;obtain ⟨gX,rfl⟩ : ∃ g,g=g6:=⟨_,rfl⟩
 have zD:w.heap.size+1 < gX:=by omega
 obtain ⟨iF,iG,iH,iI,bT,gU,dH,bV⟩:=I.out.c8;obtain ⟨aK,bJ,bY,bZ,dL,eX,bU,dD,dM,dU⟩:=X.out.c10;have HS:=hiQ (fun W h => ZN x (.slice C1 x.syms.length l1) (.slice C2 x.ah.length l2) v.id W h);simp only [dA,mY.out] at HS;have HR:Hid (wrap64 (uz ts v n)=(v.rest.length:Int)+if (qm x v.id).isSome then 0 else 1):=by show _=_;rw [HE.out];simp only [QV,mY.out];rw [o_ trivial];split <;> (unfold wrap64;omega)
 go_wp2_with fail;clear iF iG iH iI bT gU dH bV aK bJ bY bZ dL eX bU dD dM dU;((with_reducible refine (HS.out _ (HX.out.on hw3)).mono ?_);rintro e kL ⟨rfl,iR⟩);obtain ⟨S,I,X⟩:=b3 S I X iR;replace hw3:=dT hw3 iR;clear iR;cases hsy:qm x v.id with
 | some i =>
  simp only [hsy,xg,M_,if_true] at HR ⊢;clear hsy HS;have aK:=X.out.e0;go_wp2_with fail;go_ret;exact ⟨bC (by rw [HR.out];simp),hw3⟩
 | none =>
  simp only [hsy,xg,OU] at HR ⊢;clear hsy HS;have hw:IntKind.i64.wrap ((v.rest.length:Int)+1)=(v.rest.length:Int)+1:=E_ _ (by omega);have aK:=X.out.e0;go_wp2_with fail;go_ret;exact ⟨bC (by rw [HR.out];simp),hw3⟩
theorem zCz {p:Prop} (h:p:=by
 refine Dl (by kernel_rfl) ?_ _;(try clear hHeld);go_wp2_with fail;go_roundw
 case rel => exact ⟨k+1,_,by go_num,rfl,by omega,(ajA _).symm,by rw [afc];exact Hp.out,S.out,I.out,X.out,hbr⟩
 case measure => simp [intOf];omega):p:=h
theorem zGb {p:Prop} (h:p:=by
 have hn1:¬ (k:Int) < v.items.length:=by omega
 have Hp:=hiQ hp;clear hp;have dH:=I.out.e6;go_wp2_with fail;go_ret;exact ⟨bC Hp.out,hbr⟩):p:=h
theorem aff
 (ts:List ay) (A:Option Addr) (c n:Nat) (v:Val) (A1 A2 A3:Option Addr) (n1 n2 n3:Nat) (w:World) (hn:n < ts.length) (hk:ts[n].kind=5) (hkv:v.kind=5)
 (ht:aU w w.heap.size (.slice A ts.length c) ts) (hv:ValAt w w.heap.size v (.slice A1 v.keys.length n1) (.slice A2 v.items.length n2) (.slice A3 v.rest.length n3)) (hf:cO ts false v n=true) (hU:akw ts (.slice A ts.length c) (v.keys ++ v.items)) :
 Calls Tryz.prog 28 #[.agg #[.slice A ts.length c],.int .i64 n,aS v (.slice A1 v.keys.length n1) (.slice A2 v.items.length n2) (.slice A3 v.rest.length n3)] w (RT w (.int .i64 (wrap64 (uz ts v n)))):=by
 obtain ⟨b,o,rfl,hbb,hel⟩:=ht.elem (by omega);obtain ⟨vs,vm,hcells,hx⟩:=hel n hn;clear hel;have hxt:bM ts n=some ts[n]:=by unfold bM;rw [o_ (by omega)];simp [hn]
 have HE:=hiQ (Lu ts v n ts[n] hxt);have hfit:=RZ hxt hf hk;have HF:= hiQ hfit.2;have hil:=hiQ hfit.1;have Dq:=hiQ hU;clear hf hU hfit;generalize ts[n]=x at *;obtain ⟨C1,l1,C2,l2,rfl,rfl,-,-⟩:=hx.forms;have hlt:(n:Int) < ts.length:=by omega
 have hd0:decide ((n:Int) < 0)=false:=by simp
 have hd1:decide (ts.length<=n)=false:=by simpa using hn
 have HX:=hiQ hx;have HT:=hiQ ht;have HV:=hiQ hv;have HC:=hiQ hcells;have mY:=hiQ hk;have hxs:=hx.lens;have hvl:=hv.lens;simp only [aS,hkv];clear hx ht hcells hn hv hxt hkv;go_enter Tryz.func28,Tryz.ntmps28
 go_upto_region 1 with fail;refine jg (fun wd2 hb1 S I => ?_);have hw3:=hb1;clear hb1;obtain ⟨c0,c1,c2,c3,c4,c5,c6,c7,c8,c9⟩:=HC.out.below (hw3) (by omega);rw [hk] at c0;have aH:=S.out.e0;obtain ⟨iF,iG,iH,iI,bT,gU,dH,bV⟩:=I.out.c8;go_upto_region 2 with fail;clear c0 c1 c2 c3 c4 c5 c6 c7 c8 c9 hd0 hd1 aH iF iG iH iI bT gU dH bV;refine aO (fun fG hb4 X => ?_);have nI:=S.out.here;have mO:=I.out.here;have kH:=hw3.size;obtain ⟨S,I⟩:=b2 S I hb4;replace hw3:=dT hw3 hb4;clear hb4;generalize wd2.heap.size=g6 at *;obtain ⟨gX,rfl⟩ : ∃ g,g=g6:=⟨_,rfl⟩
 have zD:w.heap.size+1 < gX:=by omega
 obtain ⟨iF,iG,iH,iI,bT,gU,dH,bV⟩:=I.out.c8;obtain ⟨aK,bJ,bY,bZ,dL,eX,bU,dD,dM,dU⟩:=X.out.c10;have HR:Hid (wrap64 (uz ts v n)=wrap64 ((v.rest.length:Int)+AX ts v.items x.ah)):=by show _=_;rw [HE.out];simp [QV,mY.out]
 have hl0:Hid (Has fG w.heap.size _ _/\Has fG (w.heap.size+1) _ _/\Has fG gX _ _/\Below w.heap.size w fG):=hiQ ⟨S.out,I.out,X.out,hw3⟩;go_upto_region 10 with fail;clear S I X;go_loopw [47,8] (fun i s wr => ∃ (k:Nat) (a:Int),i = .int .i64 (k:Int)/\s = .int .i64 a/\k<=v.items.length/\wrap64 a=a/\wrap64 (a+AX ts (v.items.drop k) (x.ah.drop k))=wrap64 (uz ts v n)/\Has wr w.heap.size 30 #[.slice (some ⟨b,o,none⟩) ts.length c]/\Has wr (w.heap.size+1) 34 #[.int .i64 5,.bool v.bool,.int .i64 v.num,.string ⟨v.str.toArray⟩,.int .i64 v.id,.slice A1 v.keys.length n1,.slice A2 v.items.length n2,.slice A3 v.rest.length n3]/\Has wr gX 72 #[.int .i64 5,.string ⟨x.name.toArray⟩,.int .i64 x.low,.int .i64 x.high,.int .i64 x.max,.slice C1 x.syms.length l1,.slice C2 x.ah.length l2,.int .i64 x.key,.int .i64 x.elem,.bool x.opn]/\Below w.heap.size w wr) (fun i _ _ => v.items.length - (intOf i).toNat)
 case atStart => exact ⟨0,_,rfl,rfl,by omega,by unfold wrap64;omega,HR.out.symm,hl0.out⟩
 case round =>
  clear hl0;obtain ⟨k,a,rfl,rfl,hk1,ha,hp,S,I,X,hbr⟩:=hrel;replace S:=hiQ S;replace I:=hiQ I;replace X:=hiQ X;by_cases hlt:k < v.items.length
  .
   have hlt2:k < x.ah.length:=by have:=hil.out;omega
   have hfk:=HF.out k hlt hlt2;have hmem:v.items[k] ∈ v.keys ++ v.items:=Dp.2 (.inr (jl hlt));obtain ⟨b1,o1,rfl,Fp,rJ⟩:=HV.out.items.elem (by omega);obtain ⟨yk,yi,yr,hc1,hya⟩:=rJ k hlt;obtain ⟨b2,o2,rfl,Ew,zx⟩:=HX.out.ah.elem (by omega);obtain ⟨mk,mi,mr,hc2,hma⟩:=zx k hlt2;rw [acd ts v.items x.ah k hlt hlt2] at hp;have xZ:=hiQ (fun W yk yi yr h1 h2 => Dq.out _ hmem x.ah[k].ty yk yi yr W hfk h1 h2);have hm2:w.cell? ⟨b2,o2+k*13+2,none⟩=some (.int .i64 x.ah[k].ty):=hc2.2.2.1;generalize v.items[k]=y at *;generalize x.ah[k].ty=mt at *;have sG:=hiQ hya;have Hp:=hiQ hp;have xO:(k:Int) < v.items.length:=by omega
   have Qr:(k:Int) < x.ah.length:=by omega
   have hd0:decide ((k:Int) < 0)=false:=by simp
   have hd1:decide (x.ah.length<=k)=false:=by simpa using hlt2
   obtain ⟨E1,k1,E2,k2,E3,k3,rfl,rfl,rfl,-,-,-⟩:=hya.forms;obtain ⟨y0,y1,y2,y3,y4,y5,y6,y7⟩:=hc1.below hbr Fp;clear rJ zx hma hya hc1 hc2 hp hfk hmem;have dH:=I.out.e6;go_upto_region 12 with fail;clear y0 y1 y2 y3 y4 y5 y6 y7 dH;refine aO (fun dw aY Y => ?_);have alh:=S.out.here;have akV:=I.out.here;have qA:=X.out.here;have alj:=hbr.size;obtain ⟨S,I,X⟩:=b3 S I X aY;replace hbr:=dT hbr aY;clear aY;generalize wr.heap.size=g12 at *;have aH:=S.out.e0;have bU:=X.out.e6;obtain ⟨kT,kU,kV,kW,kX,mD,lJ,mF⟩:=Y.out.c8;refine t_ (S:=(fun w' => w'.cell? ⟨w.heap.size,0,none⟩=some (.slice (some ⟨b,o,none⟩) ts.length c)/\w'.cell? ⟨gX,6,none⟩=some (.slice (some ⟨b2,o2,none⟩) x.ah.length l2)/\w'.cell? ⟨g12,0,none⟩=some (.int .i64 y.kind)/\w'.cell? ⟨g12,1,none⟩=some (.bool y.bool)/\w'.cell? ⟨g12,2,none⟩=some (.int .i64 y.num)/\w'.cell? ⟨g12,3,none⟩=some (.string ⟨y.str.toArray⟩)/\w'.cell? ⟨g12,4,none⟩=some (.int .i64 y.id)/\w'.cell? ⟨g12,5,none⟩=some (.slice E1 y.keys.length k1)/\w'.cell? ⟨g12,6,none⟩=some (.slice E2 y.items.length k2)/\w'.cell? ⟨g12,7,none⟩=some (.slice E3 y.rest.length k3)/\(w'.cell? ⟨b2,o2+k*13+2,none⟩=some (.int .i64 mt)))) (by kernel_rfl) ⟨aH,bU,kT,kU,kV,kW,kX,mD,lJ,mF,(((hbr).cell (p:=⟨b2,o2+k*13+2,none⟩) (show b2 < w.heap.size by omega)).trans hm2)⟩ (fun hHeld => ?_);clear aH bU kT kU kV kW kX mD lJ mF;have mG:Below dw.heap.size dw (dw.drew):=(g_ _ _).drew;obtain ⟨S,I,X,Y⟩:=b4 S I X Y mG;replace hbr:=dT hbr mG;clear mG;generalize dw.drew=yx at *;refine tk 0 ?_
   refine tk 1 ?_;refine tk 2 ?_;refine tk 3 ?_;refine tk 4 ?_;refine tk 5 ?_;refine tk 6 ?_;refine tk 7 ?_;refine tk 8 ?_;refine iE 9 fun K hK => ?_;go_simp;((with_reducible refine (xZ.out _ _ _ _ (sG.out.on hbr) (HT.out.on hbr)).mono ?_);rintro e fZ ⟨rfl,iO⟩);obtain ⟨S,I,X,Y⟩:=b4 S I X Y iO;replace hbr:=dT hbr iO;clear iO;(try clear hHeld);refine hK.out _ _ (⟨S.out.cell 0,⟨X.out.cell 6,d8 Y ((((hbr).cell (p:=⟨b2,o2+k*13+2,none⟩) (show b2 < w.heap.size by omega)).trans hm2))⟩⟩) (fun hHeld => ?_);clear hK K;refine tk 10 ?_;refine tk 11 ?_;exact zCz
  rw [ZU _ _ _ _ (by omega),Int.add_zero,ha] at hp;exact zGb
theorem aEs
 (ts:List ay) (A:Option Addr) (c n:Nat) (v:Val) (A1 A2 A3:Option Addr) (n1 n2 n3:Nat) (w:World) (hn:n < ts.length) (hk:ts[n].kind=6) (hkv:v.kind=6)
 (ht:aU w w.heap.size (.slice A ts.length c) ts) (hv:ValAt w w.heap.size v (.slice A1 v.keys.length n1) (.slice A2 v.items.length n2) (.slice A3 v.rest.length n3)) (hf:cO ts false v n=true) (hU:akw ts (.slice A ts.length c) (v.keys ++ v.items)) :
 Calls Tryz.prog 28 #[.agg #[.slice A ts.length c],.int .i64 n,aS v (.slice A1 v.keys.length n1) (.slice A2 v.items.length n2) (.slice A3 v.rest.length n3)] w (RT w (.int .i64 (wrap64 (uz ts v n)))):=by
 obtain ⟨b,o,rfl,hbb,hel⟩:=ht.elem (by omega);obtain ⟨vs,vm,hcells,hx⟩:=hel n hn;clear hel;have hxt:bM ts n=some ts[n]:=by unfold bM;rw [o_ (by omega)];simp [hn]
 have HE:=hiQ (Lu ts v n ts[n] hxt);have hfit:=fun i h => avG (i:=i) hxt hf hk h;have Dq:=hiQ hU;clear hf hU;generalize ts[n]=x at *;obtain ⟨C1,l1,C2,l2,rfl,rfl,-,-⟩:=hx.forms;have hlt:(n:Int) < ts.length:=by omega
 have hd0:decide ((n:Int) < 0)=false:=by simp
 have hd1:decide (ts.length<=n)=false:=by simpa using hn
 have HX:=hiQ hx;have HT:=hiQ ht;have HV:=hiQ hv;have HC:=hiQ hcells;have mY:=hiQ hk;have hxs:=hx.lens;have hvl:=hv.lens;simp only [aS,hkv];clear hx ht hcells hn hv hxt hkv;go_enter Tryz.func28,Tryz.ntmps28
 go_upto_region 1 with fail;refine jg (fun wd2 hb1 S I => ?_);have hw3:=hb1;clear hb1;obtain ⟨c0,c1,c2,c3,c4,c5,c6,c7,c8,c9⟩:=HC.out.below (hw3) (by omega);rw [hk] at c0;have aH:=S.out.e0;obtain ⟨iF,iG,iH,iI,bT,gU,dH,bV⟩:=I.out.c8;go_upto_region 2 with fail;clear c0 c1 c2 c3 c4 c5 c6 c7 c8 c9 hd0 hd1 aH iF iG iH iI bT gU dH bV;refine aO (fun fG hb4 X => ?_);have nI:=S.out.here;have mO:=I.out.here;have kH:=hw3.size;obtain ⟨S,I⟩:=b2 S I hb4;replace hw3:=dT hw3 hb4;clear hb4;generalize wd2.heap.size=g6 at *;obtain ⟨gX,rfl⟩ : ∃ g,g=g6:=⟨_,rfl⟩
 have zD:w.heap.size+1 < gX:=by omega
 obtain ⟨iF,iG,iH,iI,bT,gU,dH,bV⟩:=I.out.c8;obtain ⟨aK,bJ,bY,bZ,dL,eX,bU,dD,dM,dU⟩:=X.out.c10;have HM:=hiQ (fun W h => Qn x (.slice C1 x.syms.length l1) (.slice C2 x.ah.length l2) v.id W h);simp only [dA,mY.out] at HM;have HF:=hiQ hfit;clear hfit;go_wp2_with fail;clear iF iG iH iI bT gU dH bV aK bJ bY bZ dL eX bU dD dM dU;((with_reducible refine (HM.out _ (HX.out.on hw3)).mono ?_);rintro e kL ⟨rfl,iR⟩);obtain ⟨S,I,X⟩:=b3 S I X iR;replace hw3:=dT hw3 iR;clear iR HM;cases lY:dN x v.id with
 | none =>
  have HR:Hid (wrap64 (uz ts v n)=(v.rest.length:Int)):=by show _=_;rw [HE.out];simp [QV,mY.out,lY];unfold wrap64;omega
  simp only [xg,OU];clear lY;go_wp2_with fail;go_ret;exact ⟨bC (by rw [HR.out]),hw3⟩
 | some i =>
  obtain ⟨hlt,hlt2,hfk⟩:=HF.out i lY;have HR:Hid (wrap64 (uz ts v n)=wrap64 ((v.rest.length:Int)+uz ts v.items[0] x.ah[i].ty)):=by show _=_;rw [HE.out];simp [QV,mY.out,lY,List.getElem?_eq_getElem hlt2,ayG ts v.items _ hlt]
  simp only [xg,M_];have hmem:v.items[0] ∈ v.keys ++ v.items:=Dp.2 (.inr (jl hlt));obtain ⟨b1,o1,rfl,Fp,rJ⟩:=HV.out.items.elem (by omega);obtain ⟨yk,yi,yr,hc1,hya⟩:=rJ 0 hlt;obtain ⟨b2,o2,rfl,Ew,zx⟩:=HX.out.ah.elem (by omega);obtain ⟨mk,mi,mr,hc2,hma⟩:=zx i hlt2;have xZ:=hiQ (fun W yk yi yr h1 h2 => Dq.out _ hmem x.ah[i].ty yk yi yr W hfk h1 h2);have hm2:w.cell? ⟨b2,o2+i*13+2,none⟩=some (.int .i64 x.ah[i].ty):=hc2.2.2.1;generalize v.items[0]=y at *;generalize x.ah[i].ty=mt at *;have sG:=hiQ hya;have xO:(0:Int) < v.items.length:=by omega
  have Qr:(i:Int) < x.ah.length:=by omega
  have hd0:decide ((i:Int) < 0)=false:=by simp
  have hd1:decide (x.ah.length<=i)=false:=by simpa using hlt2
  have hd2:decide (v.items.length<=0)=false:=f_ (by omega);obtain ⟨E1,k1,E2,k2,E3,k3,rfl,rfl,rfl,-,-,-⟩:=hya.forms;obtain ⟨y0,y1,y2,y3,y4,y5,y6,y7⟩:=hc1;have Y0:=hiQ y0;have Y1:=hiQ y1;have Y2:=hiQ y2;have Y3:=hiQ y3;have Y4:=hiQ y4;have Y5:=hiQ y5;have Y6:=hiQ y6;have Y7:=hiQ y7;clear rJ zx hma hya hc2 hfk hmem lY y0 y1 y2 y3 y4 y5 y6 y7;have hb1:=fun (p:Addr) (hp:p.block < w.heap.size) => (hw3).cell hp;simp only [Nat.zero_mul,QB] at Y0 Y1 Y2 Y3 Y4 Y5 Y6 Y7;go_upto_region 17 with fail;have aH:=S.out.e0;have bU:=X.out.e6;have dH:=I.out.e6;refine t_ (S:=(fun w' => w'.cell? ⟨w.heap.size,0,none⟩=some (.slice (some ⟨b,o,none⟩) ts.length c)/\w'.cell? ⟨gX,6,none⟩=some (.slice (some ⟨b2,o2,none⟩) x.ah.length l2)/\w'.cell? ⟨w.heap.size+1,6,none⟩=some (.slice (some ⟨b1,o1,none⟩) v.items.length n2)/\(w'.cell? ⟨b2,o2+i*13+2,none⟩=some (.int .i64 mt))/\(w'.cell? ⟨b1,o1,none⟩=some (.int .i64 y.kind))/\(w'.cell? ⟨b1,o1+1,none⟩=some (.bool y.bool))/\(w'.cell? ⟨b1,o1+2,none⟩=some (.int .i64 y.num))/\(w'.cell? ⟨b1,o1+3,none⟩=some (.string ⟨y.str.toArray⟩))/\(w'.cell? ⟨b1,o1+4,none⟩=some (.int .i64 y.id))/\(w'.cell? ⟨b1,o1+5,none⟩=some (.slice E1 y.keys.length k1))/\(w'.cell? ⟨b1,o1+6,none⟩=some (.slice E2 y.items.length k2))/\(w'.cell? ⟨b1,o1+7,none⟩=some (.slice E3 y.rest.length k3)))) (by kernel_rfl) ⟨aH,bU,dH,(((hw3).cell (p:=⟨b2,o2+i*13+2,none⟩) (show b2 < w.heap.size by omega)).trans hm2),(((hw3).cell (p:=⟨b1,o1,none⟩) (show b1 < w.heap.size by omega)).trans Y0.out),(((hw3).cell (p:=⟨b1,o1+1,none⟩) (show b1 < w.heap.size by omega)).trans Y1.out),(((hw3).cell (p:=⟨b1,o1+2,none⟩) (show b1 < w.heap.size by omega)).trans Y2.out),(((hw3).cell (p:=⟨b1,o1+3,none⟩) (show b1 < w.heap.size by omega)).trans Y3.out),(((hw3).cell (p:=⟨b1,o1+4,none⟩) (show b1 < w.heap.size by omega)).trans Y4.out),(((hw3).cell (p:=⟨b1,o1+5,none⟩) (show b1 < w.heap.size by omega)).trans Y5.out),(((hw3).cell (p:=⟨b1,o1+6,none⟩) (show b1 < w.heap.size by omega)).trans Y6.out),(((hw3).cell (p:=⟨b1,o1+7,none⟩) (show b1 < w.heap.size by omega)).trans Y7.out)⟩ (fun hHeld => ?_)
  clear aH bU dH;have fV:Below kL.heap.size kL (kL.drew):=(g_ _ _).drew;obtain ⟨S,I,X⟩:=b3 S I X fV;replace hw3:=dT hw3 fV;clear fV;generalize kL.drew=dQ at *;refine tk 0 ?_;refine tk 1 ?_;refine tk 2 ?_;refine tk 3 ?_;refine tk 4 ?_;refine tk 5 ?_;refine tk 6 ?_;refine tk 7 ?_;refine tk 8 ?_;refine tk 9 ?_;refine tk 10 ?_;refine tk 11 ?_;refine iE 12 fun K hK => ?_;go_simp;((with_reducible refine (xZ.out _ _ _ _ (sG.out.on hw3) (HT.out.on hw3)).mono ?_);rintro e oZ ⟨rfl,o7⟩);obtain ⟨S,I,X⟩:=b3 S I X o7;replace hw3:=dT hw3 o7;clear o7;(try clear hHeld);refine hK.out _ _ (⟨S.out.cell 0,⟨X.out.cell 6,⟨I.out.cell 6,⟨(((hw3).cell (p:=⟨b2,o2+i*13+2,none⟩) (show b2 < w.heap.size by omega)).trans hm2),⟨(((hw3).cell (p:=⟨b1,o1,none⟩) (show b1 < w.heap.size by omega)).trans Y0.out),⟨(((hw3).cell (p:=⟨b1,o1+1,none⟩) (show b1 < w.heap.size by omega)).trans Y1.out),⟨(((hw3).cell (p:=⟨b1,o1+2,none⟩) (show b1 < w.heap.size by omega)).trans Y2.out),⟨(((hw3).cell (p:=⟨b1,o1+3,none⟩) (show b1 < w.heap.size by omega)).trans Y3.out),⟨(((hw3).cell (p:=⟨b1,o1+4,none⟩) (show b1 < w.heap.size by omega)).trans Y4.out),⟨(((hw3).cell (p:=⟨b1,o1+5,none⟩) (show b1 < w.heap.size by omega)).trans Y5.out),⟨(((hw3).cell (p:=⟨b1,o1+6,none⟩) (show b1 < w.heap.size by omega)).trans Y6.out),(((hw3).cell (p:=⟨b1,o1+7,none⟩) (show b1 < w.heap.size by omega)).trans Y7.out)⟩⟩⟩⟩⟩⟩⟩⟩⟩⟩⟩) (fun hHeld => ?_);clear hK K;refine tk 13 ?_;refine tk 14 ?_;refine Dl (by kernel_rfl) ?_ _;(try clear hHeld);go_wp2_with fail
  go_ret;exact ⟨bC (by rw [HR.out,Qz];unfold wrap64;omega),hw3⟩
theorem zBs {p:Prop} (h:p:=by
 clear hl0;obtain ⟨k,a,rfl,rfl,hk1,ha,hp,S,I,X,hbr⟩:=hrel;replace S:=hiQ S;replace I:=hiQ I;replace X:=hiQ X;by_cases hlt:k < v.items.length
 .
  have hfk:=HF.out.2 _ (jl hlt);have hmem:v.items[k] ∈ v.keys ++ v.items:=Dp.2 (.inr (jl hlt));obtain ⟨b1,o1,rfl,Fp,rJ⟩:=HV.out.items.elem (by omega);obtain ⟨yk,yi,yr,hc1,hya⟩:=rJ k hlt;rw [pz ts v.items _ k hlt] at hp;have xZ:=hiQ (fun W yk yi yr h1 h2 => Dq.out _ hmem x.elem yk yi yr W hfk h1 h2);generalize v.items[k]=y at *;have sG:=hiQ hya;have Hp:=hiQ hp;have xO:(k:Int) < v.items.length:=by omega
  have hd0:decide ((k:Int) < 0)=false:=by simp
  have hd1:decide (v.items.length<=k)=false:=by simpa using hlt
  obtain ⟨E1,k1,E2,k2,E3,k3,rfl,rfl,rfl,-,-,-⟩:=hya.forms;obtain ⟨y0,y1,y2,y3,y4,y5,y6,y7⟩:=hc1.below hbr Fp;clear rJ hya hc1 hp hfk hmem;go_upto_region 29 with fail;clear y0 y1 y2 y3 y4 y5 y6 y7;refine aO (fun dw aY Y => ?_);have alh:=S.out.here;have akV:=I.out.here;have qA:=X.out.here;have alj:=hbr.size;obtain ⟨S,I,X⟩:=b3 S I X aY;replace hbr:=dT hbr aY;clear aY;generalize wr.heap.size=g12 at *;have aH:=S.out.e0;have dM:=X.out.e8;obtain ⟨kT,kU,kV,kW,kX,mD,lJ,mF⟩:=Y.out.c8;go_wp2_with fail;clear aH dM kT kU kV kW kX mD lJ mF;((with_reducible refine (xZ.out _ _ _ _ (sG.out.on hbr) (HT.out.on hbr)).mono ?_);rintro e ji ⟨rfl,nU⟩);obtain ⟨S,I,X,Y⟩:=b4 S I X Y nU;replace hbr:=dT hbr nU;clear nU;go_wp2_with fail;go_roundw
  case rel => exact ⟨k+1,_,by go_num,rfl,by omega,(by unfold wrap64;omega),by rw [<- Hp.out];unfold wrap64;omega,S.out,I.out,X.out,hbr⟩
  case measure => simp [intOf];omega
 rw [nV _ _ _ _ (by omega)] at hp;have hn1:¬ (k:Int) < v.items.length:=by omega
 skip
 rw [Int.add_zero,ha] at hp;have Hp:=hiQ hp;clear hp;go_wp2_with fail;go_ret;exact ⟨bC Hp.out,hbr⟩):p:=h
theorem zBy {p:Prop} (h:p:=by
 have hfk:=HF.out.1 _ (jl hlt);have hmem:v.keys[k] ∈ v.keys ++ v.items:=Dp.2 (.inl (jl hlt));obtain ⟨b1,o1,rfl,Fp,rJ⟩:=HV.out.keys.elem (by omega);obtain ⟨yk,yi,yr,hc1,hya⟩:=rJ k hlt;rw [pz ts v.keys _ k hlt] at hp;have xZ:=hiQ (fun W yk yi yr h1 h2 => Dq.out _ hmem x.key yk yi yr W hfk h1 h2);generalize v.keys[k]=y at *;have sG:=hiQ hya;have Hp:=hiQ hp;have xO:(k:Int) < v.keys.length:=by omega
 have hd0:decide ((k:Int) < 0)=false:=by simp
 have hd1:decide (v.keys.length<=k)=false:=by simpa using hlt
 obtain ⟨E1,k1,E2,k2,E3,k3,rfl,rfl,rfl,-,-,-⟩:=hya.forms;obtain ⟨y0,y1,y2,y3,y4,y5,y6,y7⟩:=hc1.below hbr Fp;clear rJ hya hc1 hp hfk hmem;go_upto_region 24 with fail;clear y0 y1 y2 y3 y4 y5 y6 y7;refine aO (fun dw aY Y => ?_);have alh:=S.out.here;have akV:=I.out.here;have qA:=X.out.here;have alj:=hbr.size;obtain ⟨S,I,X⟩:=b3 S I X aY;replace hbr:=dT hbr aY;clear aY;generalize wr.heap.size=g12 at *;have aH:=S.out.e0;have dD:=X.out.e7;obtain ⟨kT,kU,kV,kW,kX,mD,lJ,mF⟩:=Y.out.c8;go_wp2_with fail;clear aH dD kT kU kV kW kX mD lJ mF;((with_reducible refine (xZ.out _ _ _ _ (sG.out.on hbr) (HT.out.on hbr)).mono ?_);rintro e ji ⟨rfl,nU⟩);obtain ⟨S,I,X,Y⟩:=b4 S I X Y nU;replace hbr:=dT hbr nU;clear nU;go_wp2_with fail;go_roundw
 case rel => exact ⟨k+1,_,by go_num,rfl,by omega,(by unfold wrap64;omega),by rw [<- Hp.out];unfold wrap64;omega,S.out,I.out,X.out,hbr⟩
 case measure => simp [intOf];omega):p:=h
theorem aEu
 (ts:List ay) (A:Option Addr) (c n:Nat) (v:Val) (A1 A2 A3:Option Addr) (n1 n2 n3:Nat) (w:World) (hn:n < ts.length) (hk:ts[n].kind=7) (hkv:v.kind=7)
 (ht:aU w w.heap.size (.slice A ts.length c) ts) (hv:ValAt w w.heap.size v (.slice A1 v.keys.length n1) (.slice A2 v.items.length n2) (.slice A3 v.rest.length n3)) (hf:cO ts false v n=true) (hU:akw ts (.slice A ts.length c) (v.keys ++ v.items)) :
 Calls Tryz.prog 28 #[.agg #[.slice A ts.length c],.int .i64 n,aS v (.slice A1 v.keys.length n1) (.slice A2 v.items.length n2) (.slice A3 v.rest.length n3)] w (RT w (.int .i64 (wrap64 (uz ts v n)))):=by
 obtain ⟨b,o,rfl,hbb,hel⟩:=ht.elem (by omega);obtain ⟨vs,vm,hcells,hx⟩:=hel n hn;clear hel;have hxt:bM ts n=some ts[n]:=by unfold bM;rw [o_ (by omega)];simp [hn]
 have HE:=hiQ (Lu ts v n ts[n] hxt);have HF:= hiQ (Ei hxt hf (by omega));have Dq:=hiQ hU;clear hf hU;generalize ts[n]=x at *;obtain ⟨C1,l1,C2,l2,rfl,rfl,-,-⟩:=hx.forms;have hlt:(n:Int) < ts.length:=by omega
 have hd0:decide ((n:Int) < 0)=false:=by simp
 have hd1:decide (ts.length<=n)=false:=by simpa using hn
 have HX:=hiQ hx;have HT:=hiQ ht;have HV:=hiQ hv;have HC:=hiQ hcells;have mY:=hiQ hk;have hxs:=hx.lens;have hvl:=hv.lens;simp only [aS,hkv];clear hx ht hcells hn hv hxt hkv;go_enter Tryz.func28,Tryz.ntmps28
 go_upto_region 1 with fail;refine jg (fun wd2 hb1 S I => ?_);have hw3:=hb1;clear hb1;obtain ⟨c0,c1,c2,c3,c4,c5,c6,c7,c8,c9⟩:=HC.out.below (hw3) (by omega);rw [hk] at c0;have aH:=S.out.e0;obtain ⟨iF,iG,iH,iI,bT,gU,dH,bV⟩:=I.out.c8;go_upto_region 2 with fail;clear c0 c1 c2 c3 c4 c5 c6 c7 c8 c9 hd0 hd1 aH iF iG iH iI bT gU dH bV;refine aO (fun fG hb4 X => ?_);have nI:=S.out.here;have mO:=I.out.here;have kH:=hw3.size;obtain ⟨S,I⟩:=b2 S I hb4;replace hw3:=dT hw3 hb4;clear hb4;generalize wd2.heap.size=g6 at *;obtain ⟨gX,rfl⟩ : ∃ g,g=g6:=⟨_,rfl⟩
 have zD:w.heap.size+1 < gX:=by omega
 obtain ⟨iF,iG,iH,iI,bT,gU,dH,bV⟩:=I.out.c8;obtain ⟨aK,bJ,bY,bZ,dL,eX,bU,dD,dM,dU⟩:=X.out.c10;have HR:Hid (wrap64 (uz ts v n)=wrap64 ((v.rest.length:Int)+(Ls ts v.keys x.key+Ls ts v.items x.elem))):=by show _=_;rw [HE.out];simp [QV,mY.out]
 have hl0:Hid (Has fG w.heap.size _ _/\Has fG (w.heap.size+1) _ _/\Has fG gX _ _/\Below w.heap.size w fG):=hiQ ⟨S.out,I.out,X.out,hw3⟩;go_upto_region 22 with fail;clear S I X;go_loopw [95,8] (fun i s wr => ∃ (k:Nat) (a:Int),i = .int .i64 (k:Int)/\s = .int .i64 a/\k<=v.keys.length/\wrap64 a=a/\wrap64 (a+(Ls ts (v.keys.drop k) x.key+Ls ts v.items x.elem))=wrap64 (uz ts v n)/\Has wr w.heap.size 30 #[.slice (some ⟨b,o,none⟩) ts.length c]/\Has wr (w.heap.size+1) 34 #[.int .i64 7,.bool v.bool,.int .i64 v.num,.string ⟨v.str.toArray⟩,.int .i64 v.id,.slice A1 v.keys.length n1,.slice A2 v.items.length n2,.slice A3 v.rest.length n3]/\Has wr gX 72 #[.int .i64 7,.string ⟨x.name.toArray⟩,.int .i64 x.low,.int .i64 x.high,.int .i64 x.max,.slice C1 x.syms.length l1,.slice C2 x.ah.length l2,.int .i64 x.key,.int .i64 x.elem,.bool x.opn]/\Below w.heap.size w wr) (fun i _ _ => v.keys.length - (intOf i).toNat)
 case atStart => exact ⟨0,_,rfl,rfl,by omega,(by unfold wrap64;omega),HR.out.symm,hl0.out⟩
 case round =>
  clear hl0;obtain ⟨k,a,rfl,rfl,hk1,ha,hp,S,I,X,hbr⟩:=hrel;replace S:=hiQ S;replace I:=hiQ I;replace X:=hiQ X;by_cases hlt:k < v.keys.length
  . exact zBy
  rw [nV _ _ _ _ (by omega)] at hp;have hn1:¬ (k:Int) < v.keys.length:=by omega
  skip
  rw [Int.zero_add] at hp;have hl0:Hid (Has wr w.heap.size _ _/\Has wr (w.heap.size+1) _ _/\Has wr gX _ _/\Below w.heap.size w wr):=hiQ ⟨S.out,I.out,X.out,hbr⟩;have Hp:=hiQ hp;have Ha:=hiQ ha;clear hp ha;have dH:=I.out.e6;go_upto_region 27 with fail;clear S I X hbr;go_loopw [110,8] (fun i s wr => ∃ (k:Nat) (a:Int),i = .int .i64 (k:Int)/\s = .int .i64 a/\k<=v.items.length/\wrap64 a=a/\wrap64 (a+(Ls ts (v.items.drop k) x.elem))=wrap64 (uz ts v n)/\Has wr w.heap.size 30 #[.slice (some ⟨b,o,none⟩) ts.length c]/\Has wr (w.heap.size+1) 34 #[.int .i64 7,.bool v.bool,.int .i64 v.num,.string ⟨v.str.toArray⟩,.int .i64 v.id,.slice A1 v.keys.length n1,.slice A2 v.items.length n2,.slice A3 v.rest.length n3]/\Has wr gX 72 #[.int .i64 7,.string ⟨x.name.toArray⟩,.int .i64 x.low,.int .i64 x.high,.int .i64 x.max,.slice C1 x.syms.length l1,.slice C2 x.ah.length l2,.int .i64 x.key,.int .i64 x.elem,.bool x.opn]/\Below w.heap.size w wr) (fun i _ _ => v.items.length - (intOf i).toNat)
  case atStart => exact ⟨0,_,rfl,rfl,by omega,Ha.out,Hp.out,hl0.out⟩
  case round =>
   exact zBs
theorem aEv
 (ts:List ay) (A:Option Addr) (c n:Nat) (v:Val) (A1 A2 A3:Option Addr) (n1 n2 n3:Nat) (w:World) (hn:n < ts.length) (hk:ts[n].kind=8) (hkv:v.kind=8)
 (ht:aU w w.heap.size (.slice A ts.length c) ts) (hv:ValAt w w.heap.size v (.slice A1 v.keys.length n1) (.slice A2 v.items.length n2) (.slice A3 v.rest.length n3)) (hf:cO ts false v n=true) (hU:akw ts (.slice A ts.length c) (v.keys ++ v.items)) :
 Calls Tryz.prog 28 #[.agg #[.slice A ts.length c],.int .i64 n,aS v (.slice A1 v.keys.length n1) (.slice A2 v.items.length n2) (.slice A3 v.rest.length n3)] w (RT w (.int .i64 (wrap64 (uz ts v n)))):=by
 obtain ⟨b,o,rfl,hbb,hel⟩:=ht.elem (by omega);obtain ⟨vs,vm,hcells,hx⟩:=hel n hn;clear hel;have hxt:bM ts n=some ts[n]:=by unfold bM;rw [o_ (by omega)];simp [hn]
 have HE:=hiQ (Lu ts v n ts[n] hxt);have HF:= hiQ (Ei hxt hf (by omega));have Dq:=hiQ hU;clear hf hU;generalize ts[n]=x at *;obtain ⟨C1,l1,C2,l2,rfl,rfl,-,-⟩:=hx.forms;have hlt:(n:Int) < ts.length:=by omega
 have hd0:decide ((n:Int) < 0)=false:=by simp
 have hd1:decide (ts.length<=n)=false:=by simpa using hn
 have HX:=hiQ hx;have HT:=hiQ ht;have HV:=hiQ hv;have HC:=hiQ hcells;have mY:=hiQ hk;have hxs:=hx.lens;have hvl:=hv.lens;simp only [aS,hkv];clear hx ht hcells hn hv hxt hkv;go_enter Tryz.func28,Tryz.ntmps28
 go_upto_region 1 with fail;refine jg (fun wd2 hb1 S I => ?_);have hw3:=hb1;clear hb1;obtain ⟨c0,c1,c2,c3,c4,c5,c6,c7,c8,c9⟩:=HC.out.below (hw3) (by omega);rw [hk] at c0;have aH:=S.out.e0;obtain ⟨iF,iG,iH,iI,bT,gU,dH,bV⟩:=I.out.c8;go_upto_region 2 with fail;clear c0 c1 c2 c3 c4 c5 c6 c7 c8 c9 hd0 hd1 aH iF iG iH iI bT gU dH bV;refine aO (fun fG hb4 X => ?_);have nI:=S.out.here;have mO:=I.out.here;have kH:=hw3.size;obtain ⟨S,I⟩:=b2 S I hb4;replace hw3:=dT hw3 hb4;clear hb4;generalize wd2.heap.size=g6 at *;obtain ⟨gX,rfl⟩ : ∃ g,g=g6:=⟨_,rfl⟩
 have zD:w.heap.size+1 < gX:=by omega
 obtain ⟨iF,iG,iH,iI,bT,gU,dH,bV⟩:=I.out.c8;obtain ⟨aK,bJ,bY,bZ,dL,eX,bU,dD,dM,dU⟩:=X.out.c10;have HR:Hid (wrap64 (uz ts v n)=wrap64 ((v.rest.length:Int)+(Ls ts v.keys x.key+Ls ts v.items x.elem))):=by show _=_;rw [HE.out];simp [QV,mY.out]
 have hl0:Hid (Has fG w.heap.size _ _/\Has fG (w.heap.size+1) _ _/\Has fG gX _ _/\Below w.heap.size w fG):=hiQ ⟨S.out,I.out,X.out,hw3⟩;go_upto_region 22 with fail;clear S I X;go_loopw [95,8] (fun i s wr => ∃ (k:Nat) (a:Int),i = .int .i64 (k:Int)/\s = .int .i64 a/\k<=v.keys.length/\wrap64 a=a/\wrap64 (a+(Ls ts (v.keys.drop k) x.key+Ls ts v.items x.elem))=wrap64 (uz ts v n)/\Has wr w.heap.size 30 #[.slice (some ⟨b,o,none⟩) ts.length c]/\Has wr (w.heap.size+1) 34 #[.int .i64 8,.bool v.bool,.int .i64 v.num,.string ⟨v.str.toArray⟩,.int .i64 v.id,.slice A1 v.keys.length n1,.slice A2 v.items.length n2,.slice A3 v.rest.length n3]/\Has wr gX 72 #[.int .i64 8,.string ⟨x.name.toArray⟩,.int .i64 x.low,.int .i64 x.high,.int .i64 x.max,.slice C1 x.syms.length l1,.slice C2 x.ah.length l2,.int .i64 x.key,.int .i64 x.elem,.bool x.opn]/\Below w.heap.size w wr) (fun i _ _ => v.keys.length - (intOf i).toNat)
 case atStart => exact ⟨0,_,rfl,rfl,by omega,(by unfold wrap64;omega),HR.out.symm,hl0.out⟩
 case round =>
  clear hl0;obtain ⟨k,a,rfl,rfl,hk1,ha,hp,S,I,X,hbr⟩:=hrel;replace S:=hiQ S;replace I:=hiQ I;replace X:=hiQ X;by_cases hlt:k < v.keys.length
  . exact zBy
  rw [nV _ _ _ _ (by omega)] at hp;have hn1:¬ (k:Int) < v.keys.length:=by omega
  skip
  rw [Int.zero_add] at hp;have hl0:Hid (Has wr w.heap.size _ _/\Has wr (w.heap.size+1) _ _/\Has wr gX _ _/\Below w.heap.size w wr):=hiQ ⟨S.out,I.out,X.out,hbr⟩;have Hp:=hiQ hp;have Ha:=hiQ ha;clear hp ha;have dH:=I.out.e6;go_upto_region 27 with fail;clear S I X hbr;go_loopw [110,8] (fun i s wr => ∃ (k:Nat) (a:Int),i = .int .i64 (k:Int)/\s = .int .i64 a/\k<=v.items.length/\wrap64 a=a/\wrap64 (a+(Ls ts (v.items.drop k) x.elem))=wrap64 (uz ts v n)/\Has wr w.heap.size 30 #[.slice (some ⟨b,o,none⟩) ts.length c]/\Has wr (w.heap.size+1) 34 #[.int .i64 8,.bool v.bool,.int .i64 v.num,.string ⟨v.str.toArray⟩,.int .i64 v.id,.slice A1 v.keys.length n1,.slice A2 v.items.length n2,.slice A3 v.rest.length n3]/\Has wr gX 72 #[.int .i64 8,.string ⟨x.name.toArray⟩,.int .i64 x.low,.int .i64 x.high,.int .i64 x.max,.slice C1 x.syms.length l1,.slice C2 x.ah.length l2,.int .i64 x.key,.int .i64 x.elem,.bool x.opn]/\Below w.heap.size w wr) (fun i _ _ => v.items.length - (intOf i).toNat)
  case atStart => exact ⟨0,_,rfl,rfl,by omega,Ha.out,Hp.out,hl0.out⟩
  case round =>
   exact zBs
theorem aEw
 (ts:List ay) (A:Option Addr) (c n:Nat) (v:Val) (A1 A2 A3:Option Addr) (n1 n2 n3:Nat) (w:World) (hn:n < ts.length) (hk:ts[n].kind=9) (hkv:v.kind=9)
 (ht:aU w w.heap.size (.slice A ts.length c) ts) (hv:ValAt w w.heap.size v (.slice A1 v.keys.length n1) (.slice A2 v.items.length n2) (.slice A3 v.rest.length n3)) (hf:cO ts false v n=true) (hU:akw ts (.slice A ts.length c) (v.keys ++ v.items)) :
 Calls Tryz.prog 28 #[.agg #[.slice A ts.length c],.int .i64 n,aS v (.slice A1 v.keys.length n1) (.slice A2 v.items.length n2) (.slice A3 v.rest.length n3)] w (RT w (.int .i64 (wrap64 (uz ts v n)))):=by
 obtain ⟨b,o,rfl,hbb,hel⟩:=ht.elem (by omega);obtain ⟨vs,vm,hcells,hx⟩:=hel n hn;clear hel;have hxt:bM ts n=some ts[n]:=by unfold bM;rw [o_ (by omega)];simp [hn]
 have HE:=hiQ (Lu ts v n ts[n] hxt);have HF:= hiQ (Ei hxt hf (by omega));have Dq:=hiQ hU;clear hf hU;generalize ts[n]=x at *;obtain ⟨C1,l1,C2,l2,rfl,rfl,-,-⟩:=hx.forms;have hlt:(n:Int) < ts.length:=by omega
 have hd0:decide ((n:Int) < 0)=false:=by simp
 have hd1:decide (ts.length<=n)=false:=by simpa using hn
 have HX:=hiQ hx;have HT:=hiQ ht;have HV:=hiQ hv;have HC:=hiQ hcells;have mY:=hiQ hk;have hxs:=hx.lens;have hvl:=hv.lens;simp only [aS,hkv];clear hx ht hcells hn hv hxt hkv;go_enter Tryz.func28,Tryz.ntmps28
 go_upto_region 1 with fail;refine jg (fun wd2 hb1 S I => ?_);have hw3:=hb1;clear hb1;obtain ⟨c0,c1,c2,c3,c4,c5,c6,c7,c8,c9⟩:=HC.out.below (hw3) (by omega);rw [hk] at c0;have aH:=S.out.e0;obtain ⟨iF,iG,iH,iI,bT,gU,dH,bV⟩:=I.out.c8;go_upto_region 2 with fail;clear c0 c1 c2 c3 c4 c5 c6 c7 c8 c9 hd0 hd1 aH iF iG iH iI bT gU dH bV;refine aO (fun fG hb4 X => ?_);have nI:=S.out.here;have mO:=I.out.here;have kH:=hw3.size;obtain ⟨S,I⟩:=b2 S I hb4;replace hw3:=dT hw3 hb4;clear hb4;generalize wd2.heap.size=g6 at *;obtain ⟨gX,rfl⟩ : ∃ g,g=g6:=⟨_,rfl⟩
 have zD:w.heap.size+1 < gX:=by omega
 obtain ⟨iF,iG,iH,iI,bT,gU,dH,bV⟩:=I.out.c8;obtain ⟨aK,bJ,bY,bZ,dL,eX,bU,dD,dM,dU⟩:=X.out.c10;have HR:Hid (wrap64 (uz ts v n)=wrap64 ((v.rest.length:Int)+(Ls ts v.keys x.key+Ls ts v.items x.elem))):=by show _=_;rw [HE.out];simp [QV,mY.out]
 have hl0:Hid (Has fG w.heap.size _ _/\Has fG (w.heap.size+1) _ _/\Has fG gX _ _/\Below w.heap.size w fG):=hiQ ⟨S.out,I.out,X.out,hw3⟩;go_upto_region 22 with fail;clear S I X;go_loopw [95,8] (fun i s wr => ∃ (k:Nat) (a:Int),i = .int .i64 (k:Int)/\s = .int .i64 a/\k<=v.keys.length/\wrap64 a=a/\wrap64 (a+(Ls ts (v.keys.drop k) x.key+Ls ts v.items x.elem))=wrap64 (uz ts v n)/\Has wr w.heap.size 30 #[.slice (some ⟨b,o,none⟩) ts.length c]/\Has wr (w.heap.size+1) 34 #[.int .i64 9,.bool v.bool,.int .i64 v.num,.string ⟨v.str.toArray⟩,.int .i64 v.id,.slice A1 v.keys.length n1,.slice A2 v.items.length n2,.slice A3 v.rest.length n3]/\Has wr gX 72 #[.int .i64 9,.string ⟨x.name.toArray⟩,.int .i64 x.low,.int .i64 x.high,.int .i64 x.max,.slice C1 x.syms.length l1,.slice C2 x.ah.length l2,.int .i64 x.key,.int .i64 x.elem,.bool x.opn]/\Below w.heap.size w wr) (fun i _ _ => v.keys.length - (intOf i).toNat)
 case atStart => exact ⟨0,_,rfl,rfl,by omega,(by unfold wrap64;omega),HR.out.symm,hl0.out⟩
 case round =>
  clear hl0;obtain ⟨k,a,rfl,rfl,hk1,ha,hp,S,I,X,hbr⟩:=hrel;replace S:=hiQ S;replace I:=hiQ I;replace X:=hiQ X;by_cases hlt:k < v.keys.length
  . exact zBy
  rw [nV _ _ _ _ (by omega)] at hp;have hn1:¬ (k:Int) < v.keys.length:=by omega
  skip
  rw [Int.zero_add] at hp;have hl0:Hid (Has wr w.heap.size _ _/\Has wr (w.heap.size+1) _ _/\Has wr gX _ _/\Below w.heap.size w wr):=hiQ ⟨S.out,I.out,X.out,hbr⟩;have Hp:=hiQ hp;have Ha:=hiQ ha;clear hp ha;have dH:=I.out.e6;go_upto_region 27 with fail;clear S I X hbr;go_loopw [110,8] (fun i s wr => ∃ (k:Nat) (a:Int),i = .int .i64 (k:Int)/\s = .int .i64 a/\k<=v.items.length/\wrap64 a=a/\wrap64 (a+(Ls ts (v.items.drop k) x.elem))=wrap64 (uz ts v n)/\Has wr w.heap.size 30 #[.slice (some ⟨b,o,none⟩) ts.length c]/\Has wr (w.heap.size+1) 34 #[.int .i64 9,.bool v.bool,.int .i64 v.num,.string ⟨v.str.toArray⟩,.int .i64 v.id,.slice A1 v.keys.length n1,.slice A2 v.items.length n2,.slice A3 v.rest.length n3]/\Has wr gX 72 #[.int .i64 9,.string ⟨x.name.toArray⟩,.int .i64 x.low,.int .i64 x.high,.int .i64 x.max,.slice C1 x.syms.length l1,.slice C2 x.ah.length l2,.int .i64 x.key,.int .i64 x.elem,.bool x.opn]/\Below w.heap.size w wr) (fun i _ _ => v.items.length - (intOf i).toNat)
  case atStart => exact ⟨0,_,rfl,rfl,by omega,Ha.out,Hp.out,hl0.out⟩
  case round =>
   exact zBs
theorem ajB {ts:List ay} {v:Val} {t:Int} (hf:cO ts false v t=true):∃ n:Nat,t=n/\∃ hn:n < ts.length,v.kind=ts[n].kind:=by
 have h:=hf;rw [kG] at h;cases hq:bM ts t with
 | none => rw [hq] at h;cases h
 | some x =>
  rw [hq] at h;simp only [j_,w_] at h;unfold bM at hq;by_cases h0:0<=t
  .
   rw [o_ h0] at hq;obtain ⟨h1,h2⟩:=C_.1 hq;exact ⟨t.toNat,by omega,h1,by rw [h2];exact h.1⟩
  rw [gB h0] at hq;cases hq
theorem afg (ts:List ay) (A:Option Addr) (c:Nat) (v:Val) (hk:v.kind=2\/v.kind=3) (t:Int) (vk vi vr:Value) (w:World) (hf:cO ts false v t=true) (hv:ValAt w w.heap.size v vk vi vr) (hT:aU w w.heap.size (.slice A ts.length c) ts) :
  Calls Tryz.prog 28 #[.agg #[.slice A ts.length c],.int .i64 t,aS v vk vi vr] w (RT w (.int .i64 (wrap64 (uz ts v t)))):=by
 obtain ⟨n,rfl,hn,hkv⟩:=ajB hf;obtain ⟨A1,n1,A2,n2,A3,n3,rfl,rfl,rfl,-,-,-⟩:=hv.forms;rcases hk with h | h
 . exact afd ts A c n v A1 A2 A3 n1 n2 n3 w hn (hkv.symm.trans h) h hT hv
 exact afe ts A c n v A1 A2 A3 n1 n2 n3 w hn (hkv.symm.trans h) h hT hv
theorem aFK (ts:List ay) (A:Option Addr) (c:Nat) (hs:∀ x ∈ ts,1<=x.kind/\x.kind<=9):∀ (N:Nat) (v:Val) (t:Int) (vk vi vr:Value) (w:World),nodes v < N->cO ts false v t=true->ValAt w w.heap.size v vk vi vr->aU w w.heap.size (.slice A ts.length c) ts ->
  Calls Tryz.prog 28 #[.agg #[.slice A ts.length c],.int .i64 t,aS v vk vi vr] w (RT w (.int .i64 (wrap64 (uz ts v t)))):=by
 intro N
 induction N with
 | zero => intro v t vk vi vr w h;omega
 | succ N ih =>
  intro v t vk vi vr w hN hf hv hT;have hU:akw ts (.slice A ts.length c) (v.keys ++ v.items):=fun y hy t yk yi yr W h1 h2 h3 => ih y t yk yi yr W (by
   have hy2:nodes y<=lT (v.keys ++ v.items):=tY _ _ hy;rw [ard] at hy2;cases v;rw [nodes] at hN;simp only [Val.keys,Val.items] at hy2;omega) h1 h2 h3
  obtain ⟨n,rfl,hn,hkv⟩:=ajB hf;obtain ⟨A1,n1,A2,n2,A3,n3,rfl,rfl,rfl,-,-,-⟩:=hv.forms;have hk:=hs ts[n] (jl hn);rcases (show ts[n].kind=1\/ts[n].kind=2\/ts[n].kind=3\/ts[n].kind=4\/ts[n].kind=5\/ts[n].kind=6\/ts[n].kind=7\/ts[n].kind=8\/ts[n].kind=9 by omega) with h | h | h | h | h | h | h | h | h
  . exact aEg ts A c n v A1 A2 A3 n1 n2 n3 w hn h (hkv.trans h) hT hv
  . exact afd ts A c n v A1 A2 A3 n1 n2 n3 w hn h (hkv.trans h) hT hv
  . exact afe ts A c n v A1 A2 A3 n1 n2 n3 w hn h (hkv.trans h) hT hv
  . exact aEr ts A c n v A1 A2 A3 n1 n2 n3 w hn h (hkv.trans h) hT hv
  . exact aff ts A c n v A1 A2 A3 n1 n2 n3 w hn h (hkv.trans h) hT hv hf hU
  . exact aEs ts A c n v A1 A2 A3 n1 n2 n3 w hn h (hkv.trans h) hT hv hf hU
  . exact aEu ts A c n v A1 A2 A3 n1 n2 n3 w hn h (hkv.trans h) hT hv hf hU
  . exact aEv ts A c n v A1 A2 A3 n1 n2 n3 w hn h (hkv.trans h) hT hv hf hU
  exact aEw ts A c n v A1 A2 A3 n1 n2 n3 w hn h (hkv.trans h) hT hv hf hU

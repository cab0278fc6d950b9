/- unknown. No condition. -/
import Derived.Test.YtkaedmpppnnamaaGreatDoorHAI
set_option maxHeartbeats 1600000
set_option maxRecDepth 100000
namespace Go.Proofs.YtkaedmpppnnamaaGreatDoor
open ChangeShapes WideShapes ChangeAt RowKit
theorem afc (a b c:Int):wrap64 (IntKind.i64.wrap (a+wrap64 b)+c)=wrap64 (a+(b+c)):=by rw [TM];unfold wrap64;omega
theorem ajA (a:Int):IntKind.i64.wrap a=wrap64 (IntKind.i64.wrap a):=by rw [TM];unfold wrap64;omega
def akw (ts:List ay) (tv:Value) (l:List Val):Prop := ∀ y ∈ l,∀ (t:Int) (yk yi yr:Value) (W:World),cO ts false y t=true->ValAt W W.heap.size y yk yi yr->aU W W.heap.size tv ts ->
 Calls Tryz.prog 28 #[.agg #[tv],.int .i64 t,aS y yk yi yr] W fun e w' => e = .returned (.int .i64 (wrap64 (uz ts y t)))/\Below W.heap.size W w'
theorem zCj {p:Prop} (h:p:=by
 obtain ⟨b,o,rfl,hbb,hel⟩:=ht.elem (by omega);obtain ⟨vs,vm,A_,hx⟩:=hel n hn;clear hel;have hxt:bM ts n=some ts[n]:=by unfold bM;rw [r_ (by omega)];simp [hn]
 have HE:=f_ (Lu ts v n ts[n] hxt)
 skip
 generalize ts[n]=x at *;obtain ⟨C1,l1,C2,l2,rfl,rfl,-,-⟩:=hx.forms;have hlt:(n:Int) < ts.length:=by omega
 have hd0:decide ((n:Int) < 0)=false:=by simp
 have hd1:decide (ts.length<=n)=false:=by simpa using hn
 have HX:=f_ hx;have HT:=f_ ht;have HV:=f_ hv;have HC:=f_ A_;have mY:=f_ hk;have hxs:=hx.lens;have hvl:=hv.lens;simp only [aS,hkv];clear hx ht A_ hn hv hxt hkv;go_enter Tryz.func28,Tryz.ntmps28
 go_upto_region 1 with fail;refine jg (fun wd2 hb1 S I => ?_);have hw3:=hb1;clear hb1;obtain ⟨c0,c1,c2,c3,c4,c5,c6,c7,c8,c9⟩:=HC.out.below (hw3) (by omega);rw [hk] at c0;have aH:=S.out.e0;obtain ⟨iF,iG,iH,iI,gY,gU,dH,iq⟩:=I.out.c8;go_upto_region 2 with fail;clear c0 c1 c2 c3 c4 c5 c6 c7 c8 c9 hd0 hd1 aH iF iG iH iI gY gU dH iq;refine aO (fun fG hb4 X => ?_);have nI:=S.out.here;have mO:=I.out.here;have kH:=hw3.size;obtain ⟨S,I⟩:=b2 S I hb4;replace hw3:=dT hw3 hb4;clear hb4;generalize wd2.heap.size=g6 at *;obtain ⟨gX,rfl⟩ : ∃ g,g=g6:=⟨_,rfl⟩
 have zD:w.heap.size+1 < gX:=by omega
 obtain ⟨iF,iG,iH,iI,gY,gU,dH,iq⟩:=I.out.c8;obtain ⟨aK,bJ,bY,bZ,dL,eX,bU,dD,dM,dU⟩:=X.out.c10;have HR:Hid (wrap64 (uz ts v n)=(v.rest.length:Int)):=by show _=_;rw [HE.out];simp [QV,mY.out];unfold wrap64;omega
 go_wp2_with fail;go_ret;exact ⟨bC (by rw [HR.out]),hw3⟩):p:=h
theorem afd
 (ts:List ay) (A:Option Addr) (c n:Nat) (v:Val) (A1 A2 A3:Option Addr) (n1 n2 n3:Nat) (w:World) (hn:n < ts.length) (hk:ts[n].kind=2) (hkv:v.kind=2)
 (ht:aU w w.heap.size (.slice A ts.length c) ts) (hv:ValAt w w.heap.size v (.slice A1 v.keys.length n1) (.slice A2 v.items.length n2) (.slice A3 v.rest.length n3)) :
 Calls Tryz.prog 28 #[.agg #[.slice A ts.length c],.int .i64 n,aS v (.slice A1 v.keys.length n1) (.slice A2 v.items.length n2) (.slice A3 v.rest.length n3)] w (RT w (.int .i64 (wrap64 (uz ts v n)))):=by
 exact zCj
theorem afe
 (ts:List ay) (A:Option Addr) (c n:Nat) (v:Val) (A1 A2 A3:Option Addr) (n1 n2 n3:Nat) (w:World) (hn:n < ts.length) (hk:ts[n].kind=3) (hkv:v.kind=3)
 (ht:aU w w.heap.size (.slice A ts.length c) ts) (hv:ValAt w w.heap.size v (.slice A1 v.keys.length n1) (.slice A2 v.items.length n2) (.slice A3 v.rest.length n3)) :
 Calls Tryz.prog 28 #[.agg #[.slice A ts.length c],.int .i64 n,aS v (.slice A1 v.keys.length n1) (.slice A2 v.items.length n2) (.slice A3 v.rest.length n3)] w (RT w (.int .i64 (wrap64 (uz ts v n)))):=by
 exact zCj
theorem aff
 (ts:List ay) (A:Option Addr) (c n:Nat) (v:Val) (A1 A2 A3:Option Addr) (n1 n2 n3:Nat) (w:World) (hn:n < ts.length) (hk:ts[n].kind=5) (hkv:v.kind=5)
 (ht:aU w w.heap.size (.slice A ts.length c) ts) (hv:ValAt w w.heap.size v (.slice A1 v.keys.length n1) (.slice A2 v.items.length n2) (.slice A3 v.rest.length n3)) (hf:cO ts false v n=true) (hU:akw ts (.slice A ts.length c) (v.keys ++ v.items)) :
 Calls Tryz.prog 28 #[.agg #[.slice A ts.length c],.int .i64 n,aS v (.slice A1 v.keys.length n1) (.slice A2 v.items.length n2) (.slice A3 v.rest.length n3)] w (RT w (.int .i64 (wrap64 (uz ts v n)))):=by
 obtain ⟨b,o,rfl,hbb,hel⟩:=ht.elem (by omega);obtain ⟨vs,vm,A_,hx⟩:=hel n hn;clear hel;have hxt:bM ts n=some ts[n]:=by unfold bM;rw [r_ (by omega)];simp [hn]
 have HE:=f_ (Lu ts v n ts[n] hxt);have hfit:=RZ hxt hf hk;have HF:= f_ hfit.2;have hil:=f_ hfit.1;have Dq:=f_ hU;clear hf hU hfit;generalize ts[n]=x at *;obtain ⟨C1,l1,C2,l2,rfl,rfl,-,-⟩:=hx.forms;have hlt:(n:Int) < ts.length:=by omega
 have hd0:decide ((n:Int) < 0)=false:=by simp
 have hd1:decide (ts.length<=n)=false:=by simpa using hn
 have HX:=f_ hx;have HT:=f_ ht;have HV:=f_ hv;have HC:=f_ A_;have mY:=f_ hk;have hxs:=hx.lens;have hvl:=hv.lens;simp only [aS,hkv];clear hx ht A_ hn hv hxt hkv;go_enter Tryz.func28,Tryz.ntmps28
 go_upto_region 1 with fail;refine jg (fun wd2 hb1 S I => ?_);have hw3:=hb1;clear hb1;obtain ⟨c0,c1,c2,c3,c4,c5,c6,c7,c8,c9⟩:=HC.out.below (hw3) (by omega);rw [hk] at c0;have aH:=S.out.e0;obtain ⟨iF,iG,iH,iI,gY,gU,dH,iq⟩:=I.out.c8;go_upto_region 2 with fail;clear c0 c1 c2 c3 c4 c5 c6 c7 c8 c9 hd0 hd1 aH iF iG iH iI gY gU dH iq;refine aO (fun fG hb4 X => ?_);have nI:=S.out.here;have mO:=I.out.here;have kH:=hw3.size;obtain ⟨S,I⟩:=b2 S I hb4;replace hw3:=dT hw3 hb4;clear hb4;generalize wd2.heap.size=g6 at *;obtain ⟨gX,rfl⟩ : ∃ g,g=g6:=⟨_,rfl⟩
 have zD:w.heap.size+1 < gX:=by omega
 obtain ⟨iF,iG,iH,iI,gY,gU,dH,iq⟩:=I.out.c8;obtain ⟨aK,bJ,bY,bZ,dL,eX,bU,dD,dM,dU⟩:=X.out.c10;have HR:Hid (wrap64 (uz ts v n)=wrap64 ((v.rest.length:Int)+AX ts v.items x.ah)):=by show _=_;rw [HE.out];simp [QV,mY.out]
 have hl0:Hid (Has fG w.heap.size _ _/\Has fG (w.heap.size+1) _ _/\Has fG gX _ _/\Below w.heap.size w fG):=f_ ⟨S.out,I.out,X.out,hw3⟩;go_upto_region 10 with fail;clear S I X;go_loopw [47,8] (fun i s wr => ∃ (k:Nat) (a:Int),i = .int .i64 (k:Int)/\s = .int .i64 a/\k<=v.items.length/\wrap64 a=a/\wrap64 (a+AX ts (v.items.drop k) (x.ah.drop k))=wrap64 (uz ts v n)/\Has wr w.heap.size 30 #[.slice (some ⟨b,o,none⟩) ts.length c]/\Has wr (w.heap.size+1) 34 #[.int .i64 5,.bool v.bool,.int .i64 v.num,.string ⟨v.str.toArray⟩,.int .i64 v.id,.slice A1 v.keys.length n1,.slice A2 v.items.length n2,.slice A3 v.rest.length n3]/\Has wr gX 72 #[.int .i64 5,.string ⟨x.name.toArray⟩,.int .i64 x.low,.int .i64 x.high,.int .i64 x.max,.slice C1 x.syms.length l1,.slice C2 x.ah.length l2,.int .i64 x.key,.int .i64 x.elem,.bool x.opn]/\Below w.heap.size w wr) (fun i _ _ => v.items.length - (intOf i).toNat)
 case atStart => exact ⟨0,_,rfl,rfl,by omega,by unfold wrap64;omega,HR.out.symm,hl0.out⟩
 case round =>
  clear hl0;obtain ⟨k,a,rfl,rfl,hk1,ha,hp,S,I,X,hbr⟩:=hrel;replace S:=f_ S;replace I:=f_ I;replace X:=f_ X;by_cases hlt:k < v.items.length
  .
   have hlt2:k < x.ah.length:=by have:=hil.out;omega
   have hfk:=HF.out k hlt hlt2;have hmem:v.items[k] ∈ v.keys ++ v.items:=H_.2 (.inr (o_ hlt));obtain ⟨b1,o1,rfl,Fp,rJ⟩:=HV.out.items.elem (by omega);obtain ⟨yk,yi,yr,hc1,hya⟩:=rJ k hlt;obtain ⟨b2,o2,rfl,Ew,zx⟩:=HX.out.ah.elem (by omega);obtain ⟨mk,mi,mr,hc2,hma⟩:=zx k hlt2;rw [acd ts v.items x.ah k hlt hlt2] at hp;have xZ:=f_ (fun W yk yi yr h1 h2 => Dq.out _ hmem x.ah[k].ty yk yi yr W hfk h1 h2);have hm2:w.cell? ⟨b2,o2+k*13+2,none⟩=some (.int .i64 x.ah[k].ty):=hc2.2.2.1;generalize v.items[k]=y at *;generalize x.ah[k].ty=mt at *;have sG:=f_ hya;have Hp:=f_ hp;have xO:(k:Int) < v.items.length:=by omega
   have Qr:(k:Int) < x.ah.length:=by omega
   have hd0:decide ((k:Int) < 0)=false:=by simp
   have hd1:decide (x.ah.length<=k)=false:=by simpa using hlt2
   obtain ⟨E1,k1,E2,k2,E3,k3,rfl,rfl,rfl,-,-,-⟩:=hya.forms;obtain ⟨y0,y1,y2,y3,y4,y5,y6,y7⟩:=hc1.below hbr Fp;clear rJ zx hma hya hc1 hc2 hp hfk hmem;have dH:=I.out.e6;go_upto_region 12 with fail;clear y0 y1 y2 y3 y4 y5 y6 y7 dH;refine aO (fun dw aY Y => ?_);have tq:=S.out.here;have uj:=I.out.here;have qA:=X.out.here;have pz:=hbr.size;obtain ⟨S,I,X⟩:=b3 S I X aY;replace hbr:=dT hbr aY;clear aY;generalize wr.heap.size=g12 at *;have aH:=S.out.e0;have bU:=X.out.e6;obtain ⟨kT,kU,kV,kW,kX,mD,lJ,mF⟩:=Y.out.c8;refine yH (S:=(fun w' => w'.cell? ⟨w.heap.size,0,none⟩=some (.slice (some ⟨b,o,none⟩) ts.length c)/\w'.cell? ⟨gX,6,none⟩=some (.slice (some ⟨b2,o2,none⟩) x.ah.length l2)/\w'.cell? ⟨g12,0,none⟩=some (.int .i64 y.kind)/\w'.cell? ⟨g12,1,none⟩=some (.bool y.bool)/\w'.cell? ⟨g12,2,none⟩=some (.int .i64 y.num)/\w'.cell? ⟨g12,3,none⟩=some (.string ⟨y.str.toArray⟩)/\w'.cell? ⟨g12,4,none⟩=some (.int .i64 y.id)/\w'.cell? ⟨g12,5,none⟩=some (.slice E1 y.keys.length k1)/\w'.cell? ⟨g12,6,none⟩=some (.slice E2 y.items.length k2)/\w'.cell? ⟨g12,7,none⟩=some (.slice E3 y.rest.length k3)/\(w'.cell? ⟨b2,o2+k*13+2,none⟩=some (.int .i64 mt)))) (by kernel_rfl) ⟨aH,bU,kT,kU,kV,kW,kX,mD,lJ,mF,(((hbr).cell (p:=⟨b2,o2+k*13+2,none⟩) (show b2 < w.heap.size by omega)).trans hm2)⟩ (fun jl => ?_);clear aH bU kT kU kV kW kX mD lJ mF;have mG:Below dw.heap.size dw (dw.drew):=(j_ _ _).drew;obtain ⟨S,I,X,Y⟩:=b4 S I X Y mG;replace hbr:=dT hbr mG;clear mG;generalize dw.drew=yx at *;refine tk 0 ?_
   refine tk 1 ?_;refine tk 2 ?_;refine tk 3 ?_;refine tk 4 ?_;refine tk 5 ?_;refine tk 6 ?_;refine tk 7 ?_;refine tk 8 ?_;refine iE 9 fun K hK => ?_;go_simp;((with_reducible refine (xZ.out _ _ _ _ (sG.out.on hbr) (HT.out.on hbr)).mono ?_);rintro e fZ ⟨rfl,iO⟩);obtain ⟨S,I,X,Y⟩:=b4 S I X Y iO;replace hbr:=dT hbr iO;clear iO;(try clear jl);refine hK.out _ _ (⟨S.out.cell 0,⟨X.out.cell 6,d8 Y ((((hbr).cell (p:=⟨b2,o2+k*13+2,none⟩) (show b2 < w.heap.size by omega)).trans hm2))⟩⟩) (fun jl => ?_);clear hK K;refine tk 10 ?_;refine tk 11 ?_;refine EK (by kernel_rfl) ?_ _;(try clear jl);go_wp2_with fail;go_roundw
   case rel => exact ⟨k+1,_,by go_num,rfl,by omega,(ajA _).symm,by rw [afc];exact Hp.out,S.out,I.out,X.out,hbr⟩
   case measure => simp [intOf];omega
  rw [ZU _ _ _ _ (by omega),Int.add_zero,ha] at hp;have hn1:¬ (k:Int) < v.items.length:=by omega
  have Hp:=f_ hp;clear hp;have dH:=I.out.e6;go_wp2_with fail;go_ret;exact ⟨bC Hp.out,hbr⟩
theorem ajB {ts:List ay} {v:Val} {t:Int} (hf:cO ts false v t=true):∃ n:Nat,t=n/\∃ hn:n < ts.length,v.kind=ts[n].kind:=by
 have h:=hf;rw [kG] at h;cases hq:bM ts t with
 | none => rw [hq] at h;cases h
 | some x =>
  rw [hq] at h;simp only [u_,yL] at h;unfold bM at hq;by_cases h0:0<=t
  .
   rw [r_ h0] at hq;obtain ⟨h1,h2⟩:=yS.1 hq;exact ⟨t.toNat,by omega,h1,by rw [h2];exact h.1⟩
  rw [g_ h0] at hq;cases hq
theorem afg (ts:List ay) (A:Option Addr) (c:Nat) (v:Val) (hk:v.kind=2\/v.kind=3) (t:Int) (vk vi vr:Value) (w:World) (hf:cO ts false v t=true) (hv:ValAt w w.heap.size v vk vi vr) (hT:aU w w.heap.size (.slice A ts.length c) ts) :
  Calls Tryz.prog 28 #[.agg #[.slice A ts.length c],.int .i64 t,aS v vk vi vr] w (RT w (.int .i64 (wrap64 (uz ts v t)))):=by
 obtain ⟨n,rfl,hn,hkv⟩:=ajB hf;obtain ⟨A1,n1,A2,n2,A3,n3,rfl,rfl,rfl,-,-,-⟩:=hv.forms;rcases hk with h | h
 . exact afd ts A c n v A1 A2 A3 n1 n2 n3 w hn (hkv.symm.trans h) h hT hv
 exact afe ts A c n v A1 A2 A3 n1 n2 n3 w hn (hkv.symm.trans h) h hT hv

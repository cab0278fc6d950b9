/- What Levels of sheaveref09 computes. No condition. -/
import Derived.Test.YtkaedmpppnnamaaGreatDoorShelf
import Derived.Test.YtkaedmpppnnamaaGreatDoorEncG
set_option maxHeartbeats 1600000
set_option maxRecDepth 100000
namespace Go.Proofs.YtkaedmpppnnamaaGreatDoor
open ChangeShapes WideShapes ChangeAt RowKit
mutual
theorem BL (ts:List ay):∀ (v:Val) (t:Int),jV ts v t<=nodes v
 | .mk k b n s id ks is rs,t => by
  rw [jV,nodes];cases bM ts t with
  | none => simp
  | some x =>
   have h1:=EO ts is;have h2:=JB ts is;have h3:=Z5 ts is;have h4:=ZH ks;simp only;unfold Ia;split
   . have:=h2 x.ah;dsimp only;omega
   split
   .
    split
    .
     split
     . rename_i m _;have:=h3 m.ty;dsimp only;omega
     omega
    omega
   have:=h1 x.elem;have hkk:(Val.mk k b n s id ks is rs).keys.length=ks.length:=rfl;by_cases h0:0 < (Val.mk k b n s id ks is rs).keys.length
   . rw [o_ h0];dsimp only;omega
   rw [gB h0];dsimp only;omega
theorem EO (ts:List ay):∀ (l:List Val) (t:Int),oI ts l t<=lT l
 | [],t => by simp [oI]
 | y :: r,t => by
  rw [oI,lT];have:=BL ts y t;have:=EO ts r t;omega
theorem JB (ts:List ay):∀ (l:List Val) (ms:List Mem),qZ ts l ms<=lT l
 | [],ms => by simp [qZ]
 | y :: r,[] => by simp [qZ]
 | y :: r,m :: ms => by
  rw [qZ,lT];have h1:=BL ts y m.ty;have h2:=JB ts r ms;split <;> omega
theorem Z5 (ts:List ay):∀ (l:List Val) (t:Int),LC ts l t<=lT l
 | [],t => by simp [LC]
 | y :: r,t => by
  rw [LC,lT];have:=BL ts y t;omega
end
theorem WH (ts:List ay) (t:Int):∀ (a:List Val) (y:Val),oI ts (a ++ [y]) t=max (oI ts a t) (jV ts y t)
 | [],y => by simp [oI]
 | x :: r,y => by rw [Qu,oI,oI,WH ts t r y];omega
theorem Uj (ts:List ay) (t:Int) (l:List Val) (k:Nat) (h:k < l.length):oI ts (l.take (k+1)) t=max (oI ts (l.take k) t) (jV ts l[k] t):=by
 rw [vK h,WH]
def EY (ts:List ay) (y:Val) (m:Mem):Nat:=if m.eG && iK y m.dflt then 0 else jV ts y m.ty
theorem WI (ts:List ay):∀ (a:List Val) (b:List Mem) (y:Val) (m:Mem),a.length=b.length->qZ ts (a ++ [y]) (b ++ [m])=max (qZ ts a b) (EY ts y m)
 | [],[],y,m,_ => by simp [qZ,EY]
 | [],_ :: _,y,m,h => by simp at h
 | _ :: _,[],y,m,h => by simp at h
 | x :: r,p :: q,y,m,h => by rw [Qu,Qu,qZ,qZ,WI ts r q y m (by simpa using h)];omega
theorem acG (ts:List ay) (l:List Val) (ms:List Mem) (k:Nat) (h:k < l.length) (h2:k < ms.length):qZ ts (l.take (k+1)) (ms.take (k+1))=max (qZ ts (l.take k) (ms.take k)) (EY ts l[k] ms[k]):=by
 rw [vK h,vK h2,WI ts _ _ _ _ (by rw [L_,L_];omega)]
def UW (ts:List ay) (tv:Value) (l:List Val):Prop := ∀ y ∈ l,∀ (t:Int) (yk yi yr:Value) (W:World),cO ts false y t=true->ValAt W W.heap.size y yk yi yr->aU W W.heap.size tv ts ->
 Calls Tryz.prog 26 #[.agg #[tv],.int .i64 t,aS y yk yi yr] W fun e w' => e = .returned (.int .i64 (jV ts y t))/\Below W.heap.size W w'
theorem zAm {p:Prop} (h:p:=by exact ⟨S.out.cell 0,⟨I.out.cell 6,(fun b o hlt => hbr.cell (p:=⟨b,o,none⟩) hlt)⟩⟩):p:=h
theorem zCs {p:Prop} (h:p:=by
 refine hK.out _ _ zAm (fun hHeld => ?_);clear hK K;refine iE 9 fun K hK => ?_;go_simp;(try clear hHeld);refine hK.out _ _ zAm (fun hHeld => ?_);clear hK K;refine tk 10 ?_;refine Dl (by kernel_rfl) ?_ _;(try clear hHeld);clear y0 y1 y2 y3 y4 y5 y6 y7;go_wp2_with fail;go_roundw
 case rel => exact ⟨k+1,by omega,by rw [Cb.out];congr 1;omega,by go_num,S.out,I.out,X.out,hbr⟩
 case measure => simp [intOf];omega):p:=h
theorem zEy {p:Prop} (h:p:=by
 have hlv:oI ts v.items x.elem<=jV ts v n:=by rw [HR.out];omega
 clear HR htk h0;generalize oI ts v.items x.elem=lb at *;have gU:=I.out.e5;have dH:=I.out.e6;go_wp2_with fail;go_ret;exact ⟨bC (by rw [HR2.out];omega),hbr⟩):p:=h
theorem aeE
 (ts:List ay) (A:Option Addr) (c n:Nat) (v:Val) (A1 A2 A3:Option Addr) (n1 n2 n3:Nat) (w:World) (hn:n < ts.length) (h5:ts[n].kind≠5) (h6:ts[n].kind≠6) (hkv:v.kind=ts[n].kind)
 (ht:aU w w.heap.size (.slice A ts.length c) ts) (hv:ValAt w w.heap.size v (.slice A1 v.keys.length n1) (.slice A2 v.items.length n2) (.slice A3 v.rest.length n3)) (hz:nodes v<=1000000000000) (hU:UW ts (.slice A ts.length c) v.items) (hFI:∀ y ∈ v.items,cO ts false y ts[n].elem=true) :
 Calls Tryz.prog 26 #[.agg #[.slice A ts.length c],.int .i64 n,aS v (.slice A1 v.keys.length n1) (.slice A2 v.items.length n2) (.slice A3 v.rest.length n3)] w (RT w (.int .i64 (jV ts v n))):=by
 obtain ⟨b,o,rfl,hbb,hel⟩:=ht.elem (by omega);obtain ⟨vs,vm,hcells,hx⟩:=hel n hn;clear hel;have hxt:bM ts n=some ts[n]:=by unfold bM;rw [o_ (by omega)];simp [hn]
 have HE:=hiQ (BH ts v n ts[n] hxt);have hlz:=BL ts v n
 skip
 generalize ts[n]=x at *;obtain ⟨C1,l1,C2,l2,rfl,rfl,-,-⟩:=hx.forms;have hlt:(n:Int) < ts.length:=by omega
 have hd0:decide ((n:Int) < 0)=false:=by simp
 have hd1:decide (ts.length<=n)=false:=by simpa using hn
 have HX:=hiQ hx;have HT:=hiQ ht;have HV:=hiQ hv;have HC:=hiQ hcells
 skip
 have Dq:=hiQ hU;have hxs:=hx.lens;have hvl:=hv.lens;simp only [aS,hkv];clear hx ht hcells hn hv hxt hU;go_enter Tryz.func26,Tryz.ntmps26
 go_upto_region 1 with fail;refine jg (fun wd2 hb1 S I => ?_);have hw3:=hb1;clear hb1;obtain ⟨c0,c1,c2,c3,c4,c5,c6,c7,c8,c9⟩:=HC.out.below (hw3) (by omega)
 skip
 have aH:=S.out.e0;obtain ⟨iF,iG,iH,iI,bT,gU,dH,bV⟩:=I.out.c8;go_upto_region 2 with fail;clear c0 c1 c2 c3 c4 c5 c6 c7 c8 c9 hd0 hd1 aH iF iG iH iI bT gU dH bV;refine aO (fun fG hb4 X => ?_);have nI:=S.out.here;have mO:=I.out.here;have kH:=hw3.size;obtain ⟨S,I⟩:=b2 S I hb4;replace hw3:=dT hw3 hb4;clear hb4;generalize wd2.heap.size=g6 at *;obtain ⟨gX,rfl⟩ : ∃ g,g=g6:=⟨_,rfl⟩
 have zD:w.heap.size+1 < gX:=by omega
 have HI0:Hid (vZ w gX #[.slice (some ⟨b,o,none⟩) ts.length c] #[.int .i64 x.kind,.bool v.bool,.int .i64 v.num,.string ⟨v.str.toArray⟩,.int .i64 v.id,.slice A1 v.keys.length n1,.slice A2 v.items.length n2,.slice A3 v.rest.length n3] #[.int .i64 x.kind,.string ⟨x.name.toArray⟩,.int .i64 x.low,.int .i64 x.high,.int .i64 x.max,.slice C1 x.syms.length l1,.slice C2 x.ah.length l2,.int .i64 x.key,.int .i64 x.elem,.bool x.opn] fG):=hiQ ⟨S.out,I.out,X.out,hw3⟩;go_upto_region 4 with fail;clear S I X hw3;have HF:=hiQ hFI;have h5b:(x.kind == 5)=false:=by simpa using h5
 have h6b:(x.kind == 6)=false:=by simpa using h6
 have HR:Hid (jV ts v n=1+max (oI ts v.items x.elem) (if 0 < v.keys.length then 1 else 0)):=by
  show _=_;rw [HE.out];unfold Ia;rw [gB h5,gB h6]
 clear hFI h5 h6 hkv;go_loopw [8,9] (fun sb si wr => ∃ k:Nat,k<=v.items.length/\sb = .int .i64 (oI ts (v.items.take k) x.elem)/\si = .int .i64 k/\vZ w gX #[.slice (some ⟨b,o,none⟩) ts.length c] #[.int .i64 x.kind,.bool v.bool,.int .i64 v.num,.string ⟨v.str.toArray⟩,.int .i64 v.id,.slice A1 v.keys.length n1,.slice A2 v.items.length n2,.slice A3 v.rest.length n3] #[.int .i64 x.kind,.string ⟨x.name.toArray⟩,.int .i64 x.low,.int .i64 x.high,.int .i64 x.max,.slice C1 x.syms.length l1,.slice C2 x.ah.length l2,.int .i64 x.key,.int .i64 x.elem,.bool x.opn] wr) (fun _ si _ => v.items.length - (intOf si).toNat)
 case atStart => exact ⟨0,by omega,by simp [oI],rfl,HI0.out⟩
 case round =>
  clear HI0;obtain ⟨k,hk1,rfl,rfl,S,I,X,hbr⟩:=hrel;replace S:=hiQ S;replace I:=hiQ I;replace X:=hiQ X;by_cases hlt:k < v.items.length
  .
   have hfk:=HF.out v.items[k] (jl hlt);have hsu:=Uj ts x.elem v.items k hlt;have xO:(k:Int) < v.items.length:=by omega
   have hd0:decide ((k:Int) < 0)=false:=by simp
   have hd1:decide (v.items.length<=k)=false:=by simpa using hlt
   obtain ⟨b1,o1,rfl,Fp,rJ⟩:=HV.out.items.elem (by omega);obtain ⟨yk,yi,yr,hc1,hya⟩:=rJ k hlt;have xZ:=hiQ (fun W yk yi yr => Dq.out v.items[k] (jl hlt) (x.elem) yk yi yr W hfk);clear rJ;obtain ⟨E1,k1,E2,k2,E3,k3,rfl,rfl,rfl,-,-,-⟩:=hya.forms;have sG:=hiQ hya;clear hya;have Cb:=hiQ hsu;clear hfk hsu;generalize v.items[k]=y at *;obtain ⟨y0,y1,y2,y3,y4,y5,y6,y7⟩:=hc1;generalize jV ts y x.elem=ly at *;generalize hlb:oI ts (v.items.take k) x.elem=lb at *;have Gy:=hiQ hlb;clear hlb;have dH:=I.out.e6;have aK:=X.out.e0;have dM:=X.out.e8;go_upto_region 14 with fail;have aH:=S.out.e0;refine t_ (S:=(fun w' => w'.cell? ⟨w.heap.size,0,none⟩=some (.slice (some ⟨b,o,none⟩) ts.length c)/\w'.cell? ⟨w.heap.size+1,6,none⟩=some (.slice (some ⟨b1,o1,none⟩) v.items.length n2)/\(∀ (b o:Nat),b < w.heap.size->w'.cell? ⟨b,o,none⟩=w.cell? ⟨b,o,none⟩))) (by kernel_rfl) ⟨aH,dH,(fun b o hlt => hbr.cell (p:=⟨b,o,none⟩) hlt)⟩ (fun hHeld => ?_);clear dH aK dM aH;have aY:Below wr.heap.size wr (wr.drew):=(g_ _ _).drew;obtain ⟨S,I,X⟩:=b3 S I X aY;replace hbr:=dT hbr aY;clear aY;generalize wr.drew=dw at *;refine tk 0 ?_;refine tk 1 ?_;refine tk 2 ?_;refine tk 3 ?_;refine tk 4 ?_;refine tk 5 ?_;refine tk 6 ?_;refine tk 7 ?_;refine iE 8 fun K hK => ?_;go_simp;((with_reducible refine (xZ.out _ _ _ _ (sG.out.on hbr) (HT.out.on hbr)).mono ?_);rintro e lZ ⟨rfl,kR⟩);obtain ⟨S,I,X⟩:=b3 S I X kR;replace hbr:=dT hbr kR;clear kR;(try clear hHeld);exact zCs
  have xO:¬ (k:Int) < v.items.length:=by omega
  have htk:v.items.take k=v.items:=yJ (by omega);rw [htk];have hl2:=EO ts v.items x.elem;by_cases h0:0 < v.keys.length
  .
   have h0i:(0:Int) < v.keys.length:=by omega
   have HR2:Hid (jV ts v n=1+max (oI ts v.items x.elem) 1):=by show _=_;rw [HR.out,o_ h0]
   exact zEy
  have h0i:¬ (0:Int) < v.keys.length:=by omega
  have HR2:Hid (jV ts v n=1+oI ts v.items x.elem):=by show _=_;rw [HR.out,gB h0];omega
  exact zEy
theorem akn {ts:List ay} {v:Val} {n:Int} {x:ay} (hx:bM ts n=some x) (hf:cO ts false v n=true) (hk:x.kind=6):(∃ i,∃ h:i < x.ah.length,dN x v.id=some i/\(∀ y ∈ v.items,cO ts false y x.ah[i].ty=true)/\jV ts v n=1+oI ts v.items x.ah[i].ty)\/(v.items.length=0/\jV ts v n=1):=by
 have h3:=(pI hx hf).2.2;unfold jT ig at h3;rw [gB (by omega),gB (by omega),gB (by omega),gB (by omega),o_ hk] at h3;have hl:=BH ts v n x hx;unfold Ia at hl;rw [gB (by omega),o_ hk] at hl;cases hm:dN x v.id with
 | some i =>
  left
  have hlt:=zG x _ i hm;rw [hm] at h3 hl;simp only [m_ hlt,j_,w_] at h3 hl;obtain ⟨hi1,hr0,hH⟩:=h3;obtain ⟨y,hy⟩:=List.length_eq_one_iff.1 hi1;rw [hy] at hH hl ⊢;rw [zM] at hH;refine ⟨i,hlt,rfl,fun z hz => ?_,?_⟩
  . rw [Qp.1 hz];exact hH
  rw [hl,LC,oI,oI];omega
 | none =>
  right
  rw [hm] at h3 hl;simp only [j_,w_] at h3;exact ⟨h3.2.2.2.1,hl⟩
theorem zGt {p:Prop} (h:p:=by
 have gU:=I.out.e5;have dH:=I.out.e6;go_wp2_with fail;go_ret;exact ⟨bC (by rw [HR.out];omega),hbr⟩):p:=h
theorem aeF
 (ts:List ay) (A:Option Addr) (c n:Nat) (v:Val) (A1 A2 A3:Option Addr) (n1 n2 n3:Nat) (w:World) (hn:n < ts.length) (hk:ts[n].kind=6) (hkv:v.kind=6)
 (ht:aU w w.heap.size (.slice A ts.length c) ts) (hv:ValAt w w.heap.size v (.slice A1 v.keys.length n1) (.slice A2 v.items.length n2) (.slice A3 v.rest.length n3)) (hz:nodes v<=1000000000000) (hU:UW ts (.slice A ts.length c) v.items) (hnk:v.keys = []) (hf:cO ts false v n=true) :
 Calls Tryz.prog 26 #[.agg #[.slice A ts.length c],.int .i64 n,aS v (.slice A1 v.keys.length n1) (.slice A2 v.items.length n2) (.slice A3 v.rest.length n3)] w (RT w (.int .i64 (jV ts v n))):=by
 obtain ⟨b,o,rfl,hbb,hel⟩:=ht.elem (by omega);obtain ⟨vs,vm,hcells,hx⟩:=hel n hn;clear hel;have hxt:bM ts n=some ts[n]:=by unfold bM;rw [o_ (by omega)];simp [hn]
 have HE:=hiQ (BH ts v n ts[n] hxt);have hlz:=BL ts v n;have HF:=hiQ (akn hxt hf hk);have II:=hiQ hnk;clear hf hnk;generalize ts[n]=x at *;obtain ⟨C1,l1,C2,l2,rfl,rfl,-,-⟩:=hx.forms;have hlt:(n:Int) < ts.length:=by omega
 have hd0:decide ((n:Int) < 0)=false:=by simp
 have hd1:decide (ts.length<=n)=false:=by simpa using hn
 have HX:=hiQ hx;have HT:=hiQ ht;have HV:=hiQ hv;have HC:=hiQ hcells;have mY:=hiQ hk;have Dq:=hiQ hU;have hxs:=hx.lens;have hvl:=hv.lens;simp only [aS,hkv];clear hx ht hcells hn hv hxt hU;go_enter Tryz.func26,Tryz.ntmps26
 go_upto_region 1 with fail;refine jg (fun wd2 hb1 S I => ?_);have hw3:=hb1;clear hb1;obtain ⟨c0,c1,c2,c3,c4,c5,c6,c7,c8,c9⟩:=HC.out.below (hw3) (by omega);rw [hk] at c0;have aH:=S.out.e0;obtain ⟨iF,iG,iH,iI,bT,gU,dH,bV⟩:=I.out.c8;go_upto_region 2 with fail;clear c0 c1 c2 c3 c4 c5 c6 c7 c8 c9 hd0 hd1 aH iF iG iH iI bT gU dH bV;refine aO (fun fG hb4 X => ?_);have nI:=S.out.here;have mO:=I.out.here;have kH:=hw3.size;obtain ⟨S,I⟩:=b2 S I hb4;replace hw3:=dT hw3 hb4;clear hb4;generalize wd2.heap.size=g6 at *;obtain ⟨gX,rfl⟩ : ∃ g,g=g6:=⟨_,rfl⟩
 have zD:w.heap.size+1 < gX:=by omega
 have HI0:Hid (vZ w gX #[.slice (some ⟨b,o,none⟩) ts.length c] #[.int .i64 6,.bool v.bool,.int .i64 v.num,.string ⟨v.str.toArray⟩,.int .i64 v.id,.slice A1 v.keys.length n1,.slice A2 v.items.length n2,.slice A3 v.rest.length n3] #[.int .i64 6,.string ⟨x.name.toArray⟩,.int .i64 x.low,.int .i64 x.high,.int .i64 x.max,.slice C1 x.syms.length l1,.slice C2 x.ah.length l2,.int .i64 x.key,.int .i64 x.elem,.bool x.opn] fG):=hiQ ⟨S.out,I.out,X.out,hw3⟩;go_upto_region 4 with fail;clear S I X hw3 hkv;obtain ⟨mt,hmt⟩ : ∃ mt,Hid (jV ts v n=1+oI ts v.items mt/\∀ k,k < v.items.length->∃ i,∃ h:i < x.ah.length,dN x v.id=some i/\(∀ y ∈ v.items,cO ts false y mt=true)/\x.ah[i].ty=mt):=by
  rcases HF.out with ⟨i,h,h1,h2,h3⟩ | ⟨h1,h2⟩
  . exact ⟨x.ah[i].ty,h3,fun k _ => ⟨i,h,h1,h2,rfl⟩⟩
  exact ⟨0,by rw [h2,yS h1,oI],fun k hk => by omega⟩
 have HR:Hid (jV ts v n=1+oI ts v.items mt):=hiQ hmt.out.1;clear HF;go_loopw [8,9] (fun sb si wr => ∃ k:Nat,k<=v.items.length/\sb = .int .i64 (oI ts (v.items.take k) mt)/\si = .int .i64 k/\vZ w gX #[.slice (some ⟨b,o,none⟩) ts.length c] #[.int .i64 6,.bool v.bool,.int .i64 v.num,.string ⟨v.str.toArray⟩,.int .i64 v.id,.slice A1 v.keys.length n1,.slice A2 v.items.length n2,.slice A3 v.rest.length n3] #[.int .i64 6,.string ⟨x.name.toArray⟩,.int .i64 x.low,.int .i64 x.high,.int .i64 x.max,.slice C1 x.syms.length l1,.slice C2 x.ah.length l2,.int .i64 x.key,.int .i64 x.elem,.bool x.opn] wr) (fun _ si _ => v.items.length - (intOf si).toNat)
 case atStart => exact ⟨0,by omega,by simp [oI],rfl,HI0.out⟩
 case round =>
  clear HI0;obtain ⟨k,hk1,rfl,rfl,S,I,X,hbr⟩:=hrel;replace S:=hiQ S;replace I:=hiQ I;replace X:=hiQ X;by_cases hlt:k < v.items.length
  .
   obtain ⟨i,wQ,lY,hfa,ai8⟩:=hmt.out.2 k hlt;have hfk:=hfa v.items[k] (jl hlt);have hsu:=Uj ts mt v.items k hlt;have HS:=hiQ (fun W h => xC x (.slice C1 x.syms.length l1) (.slice C2 x.ah.length l2) v.id W h);simp only [dA,mY.out,lY,xg,M_] at HS;obtain ⟨b2,o2,rfl,Ew,zx⟩:=HX.out.ah.elem (by omega);obtain ⟨mk,mi,mr,hc2,hma⟩:=zx i wQ;have hm2:w.cell? ⟨b2,o2+i*13+2,none⟩=some (.int .i64 mt):=by rw [<- ai8];exact hc2.2.2.1
   have Qr:(i:Int) < x.ah.length:=by omega
   have xO:(k:Int) < v.items.length:=by omega
   have hd0:decide ((k:Int) < 0)=false:=by simp
   have hd1:decide (v.items.length<=k)=false:=by simpa using hlt
   have hd2:decide ((i:Int) < 0)=false:=by simp
   have hd3:decide (x.ah.length<=i)=false:=by simpa using wQ
   clear zx hma hc2 lY hfa ai8;obtain ⟨b1,o1,rfl,Fp,rJ⟩:=HV.out.items.elem (by omega);obtain ⟨yk,yi,yr,hc1,hya⟩:=rJ k hlt;have xZ:=hiQ (fun W yk yi yr => Dq.out v.items[k] (jl hlt) (mt) yk yi yr W hfk);clear rJ;obtain ⟨E1,k1,E2,k2,E3,k3,rfl,rfl,rfl,-,-,-⟩:=hya.forms;have sG:=hiQ hya;clear hya;have Cb:=hiQ hsu;clear hfk hsu;generalize v.items[k]=y at *;obtain ⟨y0,y1,y2,y3,y4,y5,y6,y7⟩:=hc1;generalize jV ts y mt=ly at *;generalize hlb:oI ts (v.items.take k) mt=lb at *;have Gy:=hiQ hlb;have EC:=hiQ hm2;clear hlb hm2;have bT:=I.out.e4;have dH:=I.out.e6;obtain ⟨aK,bJ,bY,bZ,dL,eX,bU,dD,dM,dU⟩:=X.out.c10;go_wp2_with fail;clear bT dH aK bJ bY bZ dL eX bU dD dM dU;((with_reducible refine (HS.out _ (HX.out.on hbr)).mono ?_);rintro e kL ⟨rfl,iR⟩);obtain ⟨S,I,X⟩:=b3 S I X iR;replace hbr:=dT hbr iR;clear iR HS;have hm3:=((hbr).cell (p:=⟨b2,o2+i*13+2,none⟩) Ew).trans EC.out;have dH:=I.out.e6;have bU:=X.out.e6;have aK:=X.out.e0;go_upto_region 14 with fail;have aH:=S.out.e0;refine t_ (S:=(fun w' => w'.cell? ⟨w.heap.size,0,none⟩=some (.slice (some ⟨b,o,none⟩) ts.length c)/\w'.cell? ⟨w.heap.size+1,6,none⟩=some (.slice (some ⟨b1,o1,none⟩) v.items.length n2)/\(∀ (b o:Nat),b < w.heap.size->w'.cell? ⟨b,o,none⟩=w.cell? ⟨b,o,none⟩))) (by kernel_rfl) ⟨aH,dH,(fun b o hlt => hbr.cell (p:=⟨b,o,none⟩) hlt)⟩ (fun hHeld => ?_);clear dH bU aK aH;have fV:Below kL.heap.size kL (kL.drew):=(g_ _ _).drew;obtain ⟨S,I,X⟩:=b3 S I X fV;replace hbr:=dT hbr fV;clear fV;generalize kL.drew=dQ at *
   refine tk 0 ?_;refine tk 1 ?_;refine tk 2 ?_;refine tk 3 ?_;refine tk 4 ?_;refine tk 5 ?_;refine tk 6 ?_;refine tk 7 ?_;refine iE 8 fun K hK => ?_;go_simp;((with_reducible refine (xZ.out _ _ _ _ (sG.out.on hbr) (HT.out.on hbr)).mono ?_);rintro e oZ ⟨rfl,o7⟩);obtain ⟨S,I,X⟩:=b3 S I X o7;replace hbr:=dT hbr o7;clear o7;(try clear hHeld);exact zCs
  have xO:¬ (k:Int) < v.items.length:=by omega
  have h0i:¬ (0:Int) < v.keys.length:=by rw [II.out];simp
  have htk:v.items.take k=v.items:=yJ (by omega);rw [htk];have hl2:=EO ts v.items mt;have hlv:oI ts v.items mt<=jV ts v n:=by rw [HR.out];omega
  clear htk hmt;generalize oI ts v.items mt=lb at *;exact zGt
theorem aeG
 (ts:List ay) (A:Option Addr) (c n:Nat) (v:Val) (A1 A2 A3:Option Addr) (n1 n2 n3:Nat) (w:World) (hn:n < ts.length) (hk:ts[n].kind=5) (hkv:v.kind=5)
 (ht:aU w w.heap.size (.slice A ts.length c) ts) (hv:ValAt w w.heap.size v (.slice A1 v.keys.length n1) (.slice A2 v.items.length n2) (.slice A3 v.rest.length n3)) (hz:nodes v<=1000000000000) (hU:UW ts (.slice A ts.length c) v.items) (hnk:v.keys = []) (hf:cO ts false v n=true) :
 Calls Tryz.prog 26 #[.agg #[.slice A ts.length c],.int .i64 n,aS v (.slice A1 v.keys.length n1) (.slice A2 v.items.length n2) (.slice A3 v.rest.length n3)] w (RT w (.int .i64 (jV ts v n))):=by
 obtain ⟨b,o,rfl,hbb,hel⟩:=ht.elem (by omega);obtain ⟨vs,vm,hcells,hx⟩:=hel n hn;clear hel;have hxt:bM ts n=some ts[n]:=by unfold bM;rw [o_ (by omega)];simp [hn]
 have HE:=hiQ (BH ts v n ts[n] hxt);have hlz:=BL ts v n;have HF:=hiQ (RZ hxt hf hk);have II:=hiQ hnk;clear hf hnk;generalize ts[n]=x at *;obtain ⟨C1,l1,C2,l2,rfl,rfl,-,-⟩:=hx.forms;have hlt:(n:Int) < ts.length:=by omega
 have hd0:decide ((n:Int) < 0)=false:=by simp
 have hd1:decide (ts.length<=n)=false:=by simpa using hn
 have HX:=hiQ hx;have HT:=hiQ ht;have HV:=hiQ hv;have HC:=hiQ hcells;have mY:=hiQ hk;have Dq:=hiQ hU;have hxs:=hx.lens;have hvl:=hv.lens;simp only [aS,hkv];clear hx ht hcells hn hv hxt hU;go_enter Tryz.func26,Tryz.ntmps26
 go_upto_region 1 with fail;refine jg (fun wd2 hb1 S I => ?_);have hw3:=hb1;clear hb1;obtain ⟨c0,c1,c2,c3,c4,c5,c6,c7,c8,c9⟩:=HC.out.below (hw3) (by omega);rw [hk] at c0;have aH:=S.out.e0;obtain ⟨iF,iG,iH,iI,bT,gU,dH,bV⟩:=I.out.c8;go_upto_region 2 with fail;clear c0 c1 c2 c3 c4 c5 c6 c7 c8 c9 hd0 hd1 aH iF iG iH iI bT gU dH bV;refine aO (fun fG hb4 X => ?_);have nI:=S.out.here;have mO:=I.out.here;have kH:=hw3.size;obtain ⟨S,I⟩:=b2 S I hb4;replace hw3:=dT hw3 hb4;clear hb4;generalize wd2.heap.size=g6 at *;obtain ⟨gX,rfl⟩ : ∃ g,g=g6:=⟨_,rfl⟩
 have zD:w.heap.size+1 < gX:=by omega
 have HI0:Hid (vZ w gX #[.slice (some ⟨b,o,none⟩) ts.length c] #[.int .i64 5,.bool v.bool,.int .i64 v.num,.string ⟨v.str.toArray⟩,.int .i64 v.id,.slice A1 v.keys.length n1,.slice A2 v.items.length n2,.slice A3 v.rest.length n3] #[.int .i64 5,.string ⟨x.name.toArray⟩,.int .i64 x.low,.int .i64 x.high,.int .i64 x.max,.slice C1 x.syms.length l1,.slice C2 x.ah.length l2,.int .i64 x.key,.int .i64 x.elem,.bool x.opn] fG):=hiQ ⟨S.out,I.out,X.out,hw3⟩;go_upto_region 4 with fail;clear S I X hw3 hkv;have HR:Hid (jV ts v n=1+qZ ts v.items x.ah):=by
  show _=_;rw [HE.out];unfold Ia;rw [o_ mY.out]
 go_loopw [8,9] (fun sb si wr => ∃ k:Nat,k<=v.items.length/\sb = .int .i64 (qZ ts (v.items.take k) (x.ah.take k))/\si = .int .i64 k/\vZ w gX #[.slice (some ⟨b,o,none⟩) ts.length c] #[.int .i64 5,.bool v.bool,.int .i64 v.num,.string ⟨v.str.toArray⟩,.int .i64 v.id,.slice A1 v.keys.length n1,.slice A2 v.items.length n2,.slice A3 v.rest.length n3] #[.int .i64 5,.string ⟨x.name.toArray⟩,.int .i64 x.low,.int .i64 x.high,.int .i64 x.max,.slice C1 x.syms.length l1,.slice C2 x.ah.length l2,.int .i64 x.key,.int .i64 x.elem,.bool x.opn] wr) (fun _ si _ => v.items.length - (intOf si).toNat)
 case atStart => exact ⟨0,by omega,by simp [qZ],rfl,HI0.out⟩
 case round =>
  clear HI0;obtain ⟨k,hk1,rfl,rfl,S,I,X,hbr⟩:=hrel;replace S:=hiQ S;replace I:=hiQ I;replace X:=hiQ X;by_cases hlt:k < v.items.length
  .
   have wQ:k < x.ah.length:=by have:=HF.out.1;omega
   have hfk:=HF.out.2 k hlt wQ;have hsu:=acG ts v.items x.ah k hlt wQ;obtain ⟨b2,o2,rfl,Ew,zx⟩:=HX.out.ah.elem (by omega);obtain ⟨mk,mi,mr,hc2,hma⟩:=zx k wQ;obtain ⟨D1,d1,D2,d2,D3,d3,rfl,rfl,rfl,-,-,-⟩:=hma.dflt.forms;have HMD:=hiQ hma.dflt;obtain ⟨m0,m1,m2,m3,m4,m5,m6,m7,m8,m9,m10,m11,m12⟩:=QK hc2 (hbr) Ew;have Qr:(k:Int) < x.ah.length:=by omega
   have xO:(k:Int) < v.items.length:=by omega
   have hd0:decide ((k:Int) < 0)=false:=by simp
   have hd1:decide (v.items.length<=k)=false:=by simpa using hlt
   have hd3:decide (x.ah.length<=k)=false:=by simpa using wQ
   clear zx hma hc2;obtain ⟨b1,o1,rfl,Fp,rJ⟩:=HV.out.items.elem (by omega);obtain ⟨yk,yi,yr,hc1,hya⟩:=rJ k hlt;have xZ:=hiQ (fun W yk yi yr => Dq.out v.items[k] (jl hlt) (x.ah[k].ty) yk yi yr W hfk);clear rJ;obtain ⟨E1,k1,E2,k2,E3,k3,rfl,rfl,rfl,-,-,-⟩:=hya.forms;have sG:=hiQ hya;clear hya hfk;generalize v.items[k]=y at *;generalize x.ah[k]=mm at *;obtain ⟨mi,mn,mt,mc,mh,mf⟩:=mm;simp only at *;obtain ⟨y0,y1,y2,y3,y4,y5,y6,y7⟩:=hc1;generalize hlb:qZ ts (v.items.take k) (x.ah.take k)=lb at *;have Gy:=hiQ hlb;clear hlb;have dH:=I.out.e6;obtain ⟨aK,-,-,-,-,-,bU,-,dM,-⟩:=X.out.c10;go_upto_region 9 with fail;clear m0 m1 m2 m3 m4 m5 m6 m7 m8 m9 m10 m11 m12 dH aK bU dM;refine aO (fun dw aY M => ?_);have alh:=S.out.here;have akV:=I.out.here;have qA:=X.out.here;have alj:=hbr.size;obtain ⟨S,I,X⟩:=b3 S I X aY;replace hbr:=dT hbr aY;clear aY;generalize wr.heap.size=g12 at *;cases mh with
   | false =>
    have Cb:Hid (qZ ts (v.items.take (k+1)) (x.ah.take (k+1))=max lb (jV ts y mt)):=by show _=_;rw [hsu];simp [EY]
    clear hsu;generalize jV ts y mt=ly at *;have kK:=M.out.e4;refine t_ (S:=(fun w' => w'.cell? ⟨g12,4,none⟩=some (.bool false)/\(∀ (b o:Nat),b < w.heap.size->w'.cell? ⟨b,o,none⟩=w.cell? ⟨b,o,none⟩))) (by kernel_rfl) ⟨kK,(fun b o hlt => hbr.cell (p:=⟨b,o,none⟩) hlt)⟩ (fun hHeld => ?_);clear kK;have mG:Below dw.heap.size dw (dw.drew):=(g_ _ _).drew;obtain ⟨S,I,X,M⟩:=b4 S I X M mG;replace hbr:=dT hbr mG;clear mG;generalize dw.drew=yx at *;refine tk 0 ?_;refine tk 1 ?_;refine tk 2 ?_;refine tks 3 ?_;simp only [aF];refine tks 4 ?_;simp only [aF];refine tks 5 ?_;simp only [aF];refine tks 6 ?_;simp only [aF];refine tks 7 ?_;simp only [aF];refine tks 8 ?_;simp only [aF];refine tks 9 ?_;simp only [aF];refine tks 10 ?_;simp only [aF];refine tk 11 ?_;refine Dl (by kernel_rfl) ?_ _;(try clear hHeld);have je:=M.out.e2;have dH:=I.out.e6;have aK:=X.out.e0;go_upto_region 14 with fail;have aH:=S.out.e0;refine t_ (S:=(fun w' => w'.cell? ⟨w.heap.size,0,none⟩=some (.slice (some ⟨b,o,none⟩) ts.length c)/\w'.cell? ⟨w.heap.size+1,6,none⟩=some (.slice (some ⟨b1,o1,none⟩) v.items.length n2)/\(∀ (b o:Nat),b < w.heap.size->w'.cell? ⟨b,o,none⟩=w.cell? ⟨b,o,none⟩))) (by kernel_rfl) ⟨aH,dH,(fun b o hlt => hbr.cell (p:=⟨b,o,none⟩) hlt)⟩ (fun hHeld => ?_);clear je dH aK aH;have aln:Below yx.heap.size yx (yx.drew):=(g_ _ _).drew;obtain ⟨S,I,X,M⟩:=b4 S I X M aln;replace hbr:=dT hbr aln;clear aln;generalize yx.drew=yO at *;refine tk 0 ?_;refine tk 1 ?_;refine tk 2 ?_
    refine tk 3 ?_;refine tk 4 ?_;refine tk 5 ?_;refine tk 6 ?_;refine tk 7 ?_;refine iE 8 fun K hK => ?_;go_simp;((with_reducible refine (xZ.out _ _ _ _ (sG.out.on hbr) (HT.out.on hbr)).mono ?_);rintro e jU ⟨rfl,ng⟩);obtain ⟨S,I,X,M⟩:=b4 S I X M ng;replace hbr:=dT hbr ng;clear ng;(try clear hHeld);exact zCs
   | true =>
    obtain ⟨-,-,-,-,kK,qU,qV,qW,qX,qY,oK,oL,oM⟩:=M.out.c13;have dH:=I.out.e6;refine t_ (S:=(fun w' => w'.cell? ⟨g12,4,none⟩=some (.bool true)/\w'.cell? ⟨g12,5,none⟩=some (.int .i64 mf.kind)/\w'.cell? ⟨g12,6,none⟩=some (.bool mf.bool)/\w'.cell? ⟨g12,7,none⟩=some (.int .i64 mf.num)/\w'.cell? ⟨g12,8,none⟩=some (.string ⟨mf.str.toArray⟩)/\w'.cell? ⟨g12,9,none⟩=some (.int .i64 mf.id)/\w'.cell? ⟨g12,10,none⟩=some (.slice D1 mf.keys.length d1)/\w'.cell? ⟨g12,11,none⟩=some (.slice D2 mf.items.length d2)/\w'.cell? ⟨g12,12,none⟩=some (.slice D3 mf.rest.length d3)/\w'.cell? ⟨w.heap.size+1,6,none⟩=some (.slice (some ⟨b1,o1,none⟩) v.items.length n2)/\(∀ (b o:Nat),b < w.heap.size->w'.cell? ⟨b,o,none⟩=w.cell? ⟨b,o,none⟩))) (by kernel_rfl) ⟨kK,qU,qV,qW,qX,qY,oK,oL,oM,dH,(fun b o hlt => hbr.cell (p:=⟨b,o,none⟩) hlt)⟩ (fun hHeld => ?_);clear kK qU qV qW qX qY oK oL oM dH;have mG:Below dw.heap.size dw (dw.drew):=(g_ _ _).drew;obtain ⟨S,I,X,M⟩:=b4 S I X M mG;replace hbr:=dT hbr mG;clear mG;generalize dw.drew=yx at *;refine tk 0 ?_;refine tk 1 ?_;refine tk 2 ?_;refine tk 3 ?_;refine tk 4 ?_;refine tk 5 ?_;refine tk 6 ?_;refine tk 7 ?_;refine tk 8 ?_;refine tk 9 ?_;refine iE 10 fun K hK => ?_;go_simp;((with_reducible refine (BI (nodes y+1) y mf _ _ _ _ _ _ _ (by omega) (sG.out.on hbr) (HMD.out.on hbr)).mono ?_);rintro e fZ ⟨rfl,iO⟩);obtain ⟨S,I,X,M⟩:=b4 S I X M iO;replace hbr:=dT hbr iO;clear iO;(try clear hHeld);refine hK.out _ _ (⟨M.out.cell 4,⟨M.out.cell 5,⟨M.out.cell 6,⟨M.out.cell 7,⟨M.out.cell 8,⟨M.out.cell 9,⟨M.out.cell 10,⟨M.out.cell 11,⟨M.out.cell 12,⟨I.out.cell 6,(fun b o hlt => hbr.cell (p:=⟨b,o,none⟩) hlt)⟩⟩⟩⟩⟩⟩⟩⟩⟩⟩) (fun hHeld => ?_)
    clear hK K;cases hsv:iK y mf with
    | true =>
     have Cb:Hid (qZ ts (v.items.take (k+1)) (x.ah.take (k+1))=lb):=by show _=_;rw [hsu];simp [EY,hsv]
     clear hsu;refine tk 11 ?_;refine Dl (by kernel_rfl) ?_ _;(try clear hHeld);clear y0 y1 y2 y3 y4 y5 y6 y7;go_wp2_with fail;go_roundw
     case rel => exact ⟨k+1,by omega,by rw [Cb.out],by go_num,S.out,I.out,X.out,hbr⟩
     case measure => simp [intOf];omega
    | false =>
     have Cb:Hid (qZ ts (v.items.take (k+1)) (x.ah.take (k+1))=max lb (jV ts y mt)):=by show _=_;rw [hsu];simp [EY,hsv]
     clear hsu;generalize jV ts y mt=ly at *;refine tk 11 ?_;refine Dl (by kernel_rfl) ?_ _;(try clear hHeld);have je:=M.out.e2;have dH:=I.out.e6;have aK:=X.out.e0;go_upto_region 14 with fail;have aH:=S.out.e0;refine t_ (S:=(fun w' => w'.cell? ⟨w.heap.size,0,none⟩=some (.slice (some ⟨b,o,none⟩) ts.length c)/\w'.cell? ⟨w.heap.size+1,6,none⟩=some (.slice (some ⟨b1,o1,none⟩) v.items.length n2)/\(∀ (b o:Nat),b < w.heap.size->w'.cell? ⟨b,o,none⟩=w.cell? ⟨b,o,none⟩))) (by kernel_rfl) ⟨aH,dH,(fun b o hlt => hbr.cell (p:=⟨b,o,none⟩) hlt)⟩ (fun hHeld => ?_);clear je dH aK aH;have gq:Below fZ.heap.size fZ (fZ.drew):=(g_ _ _).drew;obtain ⟨S,I,X,M⟩:=b4 S I X M gq;replace hbr:=dT hbr gq;clear gq;generalize fZ.drew=lq at *;refine tk 0 ?_;refine tk 1 ?_;refine tk 2 ?_;refine tk 3 ?_;refine tk 4 ?_;refine tk 5 ?_;refine tk 6 ?_;refine tk 7 ?_;refine iE 8 fun K hK => ?_;go_simp;((with_reducible refine (xZ.out _ _ _ _ (sG.out.on hbr) (HT.out.on hbr)).mono ?_);rintro e o9 ⟨rfl,vg⟩);obtain ⟨S,I,X,M⟩:=b4 S I X M vg;replace hbr:=dT hbr vg;clear vg;(try clear hHeld);exact zCs
  have xO:¬ (k:Int) < v.items.length:=by omega
  have h0i:¬ (0:Int) < v.keys.length:=by rw [II.out];simp
  have htk:qZ ts (v.items.take k) (x.ah.take k)=qZ ts v.items x.ah:=by rw [yJ (by omega),yJ (by have:=HF.out.1;omega)]
  rw [htk];have hl2:=JB ts v.items x.ah;have hlv:qZ ts v.items x.ah<=jV ts v n:=by rw [HR.out];omega
  clear htk;generalize qZ ts v.items x.ah=lb at *;exact zGt

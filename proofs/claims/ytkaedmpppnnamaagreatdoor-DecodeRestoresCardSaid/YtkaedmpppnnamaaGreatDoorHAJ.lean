/- What Payload of sheaveref09 computes for optionals, unions a, and what else is used with it. No condition. -/
import Derived.Test.YtkaedmpppnnamaaGreatDoorHAI
set_option maxHeartbeats 3200000
set_option maxRecDepth 100000
namespace Go.Proofs.YtkaedmpppnnamaaGreatDoor
open ChangeShapes WideShapes ChangeAt RowKit
theorem ag7 {ts:List ay} {pl:Bool} {v:Val} {t:Int} {x:ay} (hx:bM ts t=some x) (h:cO ts pl v t=true) (hk:x.kind=9):v.items.length<=1:=by
 have h3:=(pI hx h).2.2;unfold jT ig at h3;simp [hk] at h3;exact h3.1
theorem acC
 (ts:List ay) (A:Option Addr) (c n:Nat) (v:Val) (A1 A2 A3:Option Addr) (n1 n2 n3:Nat) (w:World) (hn:n < ts.length) (hk:ts[n].kind=9) (hkv:v.kind=9)
 (ht:aU w w.heap.size (.slice A ts.length c) ts) (hv:ValAt w w.heap.size v (.slice A1 v.keys.length n1) (.slice A2 v.items.length n2) (.slice A3 v.rest.length n3)) (hz:(fE ts v n).length<=140737488355328) (hf:cO ts false v n=true) (hU:NH ts (.slice A ts.length c) (v.keys ++ v.items)) :
 Calls Tryz.prog 25 #[.agg #[.slice A ts.length c],.int .i64 n,aS v (.slice A1 v.keys.length n1) (.slice A2 v.items.length n2) (.slice A3 v.rest.length n3)] w (RT w (.string ⟨(fE ts v n).toArray⟩)):=by
 obtain ⟨b,o,rfl,hbb,hel⟩:=ht.elem (by omega);obtain ⟨vs,vm,hcells,hx⟩:=hel n hn;clear hel;have hxt:bM ts n=some ts[n]:=by unfold bM;rw [o_ (by omega)];simp [hn]
 have HE:=hiQ (tu ts v n ts[n] hxt);have HF:=hiQ (Ei hxt hf (.inr (.inr hk))).2;have hi1:=ag7 hxt hf hk;have Dq:=hiQ hU;clear hf hU;generalize ts[n]=x at *;obtain ⟨C1,l1,C2,l2,rfl,rfl,-,-⟩:=hx.forms;have hlt:(n:Int) < ts.length:=by omega
 have hd0:decide ((n:Int) < 0)=false:=by simp
 have hd1:decide (ts.length<=n)=false:=by simpa using hn
 have HX:=hiQ hx;have HT:=hiQ ht;have HV:=hiQ hv;have HC:=hiQ hcells;have mY:=hiQ hk;have HZ:=hiQ hz;have hxs:=hx.lens;have hvl:=hv.lens;have J3:=hv.ints;simp only [aS,hkv];clear hx ht hcells hn hv hxt hkv hz;go_enter Tryz.func25,Tryz.ntmps25
 go_upto_region 1 with fail;refine jg (fun wd2 hb1 S I => ?_);have hw3:=hb1;clear hb1;obtain ⟨c0,c1,c2,c3,c4,c5,c6,c7,c8,c9⟩:=HC.out.below (hw3) (by omega);rw [hk] at c0;have aH:=S.out.e0;obtain ⟨iF,iG,iH,iI,bT,gU,dH,bV⟩:=I.out.c8;go_upto_region 2 with fail;clear c0 c1 c2 c3 c4 c5 c6 c7 c8 c9 hd0 hd1 aH iF iG iH iI bT gU dH bV;refine aO (fun fG hb4 X => ?_);have nI:=S.out.here;have mO:=I.out.here;have kH:=hw3.size;obtain ⟨S,I⟩:=b2 S I hb4;replace hw3:=dT hw3 hb4;clear hb4;generalize wd2.heap.size=g6 at *;obtain ⟨gX,rfl⟩ : ∃ g,g=g6:=⟨_,rfl⟩
 have zD:w.heap.size+1 < gX:=by omega
 obtain ⟨iF,iG,iH,iI,bT,gU,dH,bV⟩:=I.out.c8;obtain ⟨aK,bJ,bY,bZ,dL,eX,bU,dD,dM,dU⟩:=X.out.c10;by_cases h0:v.items.length=0
 .
  have HR:Hid (fE ts v n = []):=by show _=_;rw [HE.out];simp [Ce,mY.out,h0]
  have h0i:(v.items.length:Int)=0:=by omega
  go_wp2_with fail;go_ret;exact ⟨Aa HR.out.symm,hw3⟩
 have h00:0 < v.items.length:=by omega
 have HR:Hid (fE ts v n=1 :: fE ts v.items[0] x.elem):=by
  show _=_;rw [HE.out];simp only [Ce,mY.out];rw [gB (by decide),gB (by decide),gB (by decide),gB (by decide),o_ trivial,gB h0,NK ts v.items x.elem h00]
 have hfk:=HF.out v.items[0] (jl h00);have zH:(fE ts v.items[0] x.elem).length<=140737488355328:=by have h1:=HZ.out;rw [HR.out,z_] at h1;omega
 have h0i:¬ (v.items.length:Int)=0:=by omega
 have h1i:(0:Int) < v.items.length:=by omega
 have hld:decide (v.items.length<=0)=false:=f_ (by omega);obtain ⟨b1,o1,rfl,Fp,rJ⟩:=HV.out.items.elem (by omega);obtain ⟨yk,yi,yr,hc1,hya⟩:=rJ 0 h00;have hmem:v.items[0] ∈ v.keys ++ v.items:=Dp.2 (.inr (jl h00));have xZ:=hiQ (fun W yk yi yr => Dq.out v.items[0] hmem (x.elem) yk yi yr W hfk zH);obtain ⟨l,HL⟩ : ∃ l,Hid (l=fE ts v.items[0] (x.elem)):=⟨_,hiQ rfl⟩
 have hlz:l.length<=140737488355328:=by rw [HL.out];exact zH
 rw [<- HL.out] at xZ;clear rJ hmem;obtain ⟨E1,k1,E2,k2,E3,k3,rfl,rfl,rfl,-,-,-⟩:=hya.forms;have sG:=hiQ hya;clear hya;have Ic:¬ 9223372036854775807 < 1+l.length:=by omega
 rw [<- HL.out] at HR;simp only [Nat.zero_mul,QB] at hc1;generalize v.items[0]=y at *;obtain ⟨y0,y1,y2,y3,y4,y5,y6,y7⟩:=hc1;clear h0 hi1 hfk zH;go_upto_region 16 with fail;have aH:=S.out.e0;refine t_ (S:=(fun w' => w'.cell? ⟨w.heap.size,0,none⟩=some (.slice (some ⟨b,o,none⟩) ts.length c)/\w'.cell? ⟨gX,8,none⟩=some (.int .i64 x.elem)/\w'.cell? ⟨w.heap.size+1,6,none⟩=some (.slice (some ⟨b1,o1,none⟩) v.items.length n2)/\(∀ (b o:Nat),b < w.heap.size->w'.cell? ⟨b,o,none⟩=w.cell? ⟨b,o,none⟩))) (by kernel_rfl) ⟨aH,dM,dH,(fun b o hlt => hw3.cell (p:=⟨b,o,none⟩) hlt)⟩ (fun hHeld => ?_);clear iF iG iH iI bT gU dH bV aK bJ bY bZ dL eX bU dD dM dU aH;have aY:Below fG.heap.size fG (fG.drew):=(g_ _ _).drew;obtain ⟨S,I,X⟩:=b3 S I X aY;replace hw3:=dT hw3 aY;clear aY;generalize fG.drew=dw at *;refine tk 0 ?_;refine tk 1 ?_;refine tk 2 ?_;refine tk 3 ?_;refine tk 4 ?_;refine tk 5 ?_;refine tk 6 ?_;refine iE 7 fun K hK => ?_;go_simp;((with_reducible refine (xZ.out _ _ _ _ (sG.out.on hw3) (HT.out.on hw3)).mono ?_);rintro e lZ ⟨rfl,kR⟩);obtain ⟨S,I,X⟩:=b3 S I X kR;replace hw3:=dT hw3 kR;clear kR;(try clear hHeld);refine hK.out _ _ (⟨S.out.cell 0,⟨X.out.cell 8,⟨I.out.cell 6,(fun b o hlt => hw3.cell (p:=⟨b,o,none⟩) hlt)⟩⟩⟩) (fun hHeld => ?_);clear hK K;refine tk 8 ?_;refine tk 9 ?_;refine Dl (by kernel_rfl) ?_ _;(try clear hHeld);clear y0 y1 y2 y3 y4 y5 y6 y7;go_wp2_with fail;go_ret;exact ⟨by rw [HR.out];exact congrArg (fun q => Ending.returned (.string q)) (qO [1] l),hw3⟩
theorem agi {ts:List ay} {v:Val} {n:Int} {x:ay} (hx:bM ts n=some x) (hf:cO ts false v n=true) (hk:x.kind=6):(∃ i,dN x v.id=some i/\v.rest = []/\∃ h:i < x.ah.length,∃ h2:0 < v.items.length,cO ts false v.items[0] x.ah[i].ty=true/\fE ts v n=pJ 9 v.id.toNat ++ fE ts v.items[0] x.ah[i].ty)\/(∃ r,v.rest = [r]/\fE ts v n=pJ 9 v.id.toNat ++ r.2):=by
 have h3:=(pI hx hf).2.2;unfold jT ig at h3;rw [gB (by omega),gB (by omega),gB (by omega),gB (by omega),o_ hk] at h3;have hp:=tu ts v n x hx;unfold Ce at hp;rw [gB (by omega),gB (by omega),gB (by omega),gB (by omega),gB (by omega),o_ hk] at hp;cases hm:dN x v.id with
 | some i =>
  left
  have hlt:=zG x _ i hm;rw [hm] at h3 hp;simp only [m_ hlt,j_,w_] at h3 hp;obtain ⟨hi1,hr0,hH⟩:=h3;have hrs:=yS hr0;rw [hrs] at hp;have h2:0 < v.items.length:=by omega
  refine ⟨i,rfl,hrs,hlt,h2,aer _ _ _ _ hH h2,?_⟩;rw [hp,NK ts v.items _ h2]
 | none =>
  right
  rw [hm] at h3;simp only [j_,w_] at h3;obtain ⟨r,hr⟩:=List.length_eq_one_iff.1 h3.2.2.2.2.1;refine ⟨r,hr,?_⟩;rw [hp,hr]
theorem zAi {p:Prop} (h:p:=by exact ⟨S.out.cell 0,⟨X.out.cell 6,⟨I.out.cell 4,⟨I.out.cell 6,(fun b o hlt => hw3.cell (p:=⟨b,o,none⟩) hlt)⟩⟩⟩⟩):p:=h
theorem acD
 (ts:List ay) (A:Option Addr) (c n:Nat) (v:Val) (A1 A2 A3:Option Addr) (n1 n2 n3:Nat) (w:World) (hn:n < ts.length) (hk:ts[n].kind=6) (hkv:v.kind=6)
 (ht:aU w w.heap.size (.slice A ts.length c) ts) (hv:ValAt w w.heap.size v (.slice A1 v.keys.length n1) (.slice A2 v.items.length n2) (.slice A3 v.rest.length n3)) (hz:(fE ts v n).length<=140737488355328) (hid:1<=v.id/\v.id<=1000) (hf:cO ts false v n=true) (hU:NH ts (.slice A ts.length c) (v.keys ++ v.items)) :
 Calls Tryz.prog 25 #[.agg #[.slice A ts.length c],.int .i64 n,aS v (.slice A1 v.keys.length n1) (.slice A2 v.items.length n2) (.slice A3 v.rest.length n3)] w (RT w (.string ⟨(fE ts v n).toArray⟩)):=by
 obtain ⟨b,o,rfl,hbb,hel⟩:=ht.elem (by omega);obtain ⟨vs,vm,hcells,hx⟩:=hel n hn;clear hel;have hxt:bM ts n=some ts[n]:=by unfold bM;rw [o_ (by omega)];simp [hn]
 have HE:=hiQ (tu ts v n ts[n] hxt);have HF:=hiQ (agi hxt hf hk);have Dq:=hiQ hU;clear hf hU;generalize ts[n]=x at *;obtain ⟨C1,l1,C2,l2,rfl,rfl,-,-⟩:=hx.forms;have hlt:(n:Int) < ts.length:=by omega
 have hd0:decide ((n:Int) < 0)=false:=by simp
 have hd1:decide (ts.length<=n)=false:=by simpa using hn
 have HX:=hiQ hx;have HT:=hiQ ht;have HV:=hiQ hv;have HC:=hiQ hcells;have mY:=hiQ hk;have HZ:=hiQ hz;have hxs:=hx.lens;have hvl:=hv.lens;have J3:=hv.ints;simp only [aS,hkv];clear hx ht hcells hn hv hxt hkv hz;go_enter Tryz.func25,Tryz.ntmps25
 go_upto_region 1 with fail;refine jg (fun wd2 hb1 S I => ?_);have hw3:=hb1;clear hb1;obtain ⟨c0,c1,c2,c3,c4,c5,c6,c7,c8,c9⟩:=HC.out.below (hw3) (by omega);rw [hk] at c0;have aH:=S.out.e0;obtain ⟨iF,iG,iH,iI,bT,gU,dH,bV⟩:=I.out.c8;go_upto_region 2 with fail;clear c0 c1 c2 c3 c4 c5 c6 c7 c8 c9 hd0 hd1 aH iF iG iH iI bT gU dH bV;refine aO (fun fG hb4 X => ?_);have nI:=S.out.here;have mO:=I.out.here;have kH:=hw3.size;obtain ⟨S,I⟩:=b2 S I hb4;replace hw3:=dT hw3 hb4;clear hb4;generalize wd2.heap.size=g6 at *;obtain ⟨gX,rfl⟩ : ∃ g,g=g6:=⟨_,rfl⟩
 have zD:w.heap.size+1 < gX:=by omega
 obtain ⟨iF,iG,iH,iI,bT,gU,dH,bV⟩:=I.out.c8;obtain ⟨aK,bJ,bY,bZ,dL,eX,bU,dD,dM,dU⟩:=X.out.c10;obtain ⟨z,hze⟩ : ∃ z:Nat,v.id=(z:Int):=⟨v.id.toNat,by omega⟩
 have hzt:v.id.toNat=z:=by omega
 have hw:IntKind.u64.wrap v.id=(z:Int):=by rw [hze,H_];omega
 clear hze;have hpz:=qw 9 z;obtain ⟨lp,Aj⟩ : ∃ l,Hid (l=pJ 9 z):=⟨_,hiQ rfl⟩
 have aeD:=hiQ (fun W => Jw z (by unfold oV;omega) W);rw [<- Aj.out] at hpz aeD;rcases HF.out with ⟨i,lY,hr0,hlt,h00,hfk,hp⟩ | ⟨r,hr,hp⟩
 .
  have zH:(fE ts v.items[0] x.ah[i].ty).length<=140737488355328:=by have h1:=HZ.out;rw [hp,h_] at h1;omega
  rw [hzt,<- Aj.out] at hp;have hrl:¬ (0:Int) < v.rest.length:=by rw [hr0];simp
  have HS:=hiQ (fun W h => xC x (.slice C1 x.syms.length l1) (.slice C2 x.ah.length l2) v.id W h);simp only [dA,mY.out,lY,xg,M_] at HS;obtain ⟨b2,o2,rfl,Ew,zx⟩:=HX.out.ah.elem (by omega);obtain ⟨mk,mi,mr,hc2,hma⟩:=zx i hlt;have hm2:w.cell? ⟨b2,o2+i*13+2,none⟩=some (.int .i64 x.ah[i].ty):=hc2.2.2.1;have h1i:(0:Int) < v.items.length:=by omega
  have hld:decide (v.items.length<=0)=false:=f_ (by omega);have Qr:(i:Int) < x.ah.length:=by omega
  have hd0:decide ((i:Int) < 0)=false:=by simp
  have hd1:decide (x.ah.length<=i)=false:=by simpa using hlt
  clear zx hma hc2 HF lY hr0 hzt;obtain ⟨b1,o1,rfl,Fp,rJ⟩:=HV.out.items.elem (by omega);obtain ⟨yk,yi,yr,hc1,hya⟩:=rJ 0 h00;have hmem:v.items[0] ∈ v.keys ++ v.items:=Dp.2 (.inr (jl h00));have xZ:=hiQ (fun W yk yi yr => Dq.out v.items[0] hmem (x.ah[i].ty) yk yi yr W hfk zH);obtain ⟨l,HL⟩ : ∃ l,Hid (l=fE ts v.items[0] (x.ah[i].ty)):=⟨_,hiQ rfl⟩
  have hlz:l.length<=140737488355328:=by rw [HL.out];exact zH
  rw [<- HL.out] at xZ;clear rJ hmem;obtain ⟨E1,k1,E2,k2,E3,k3,rfl,rfl,rfl,-,-,-⟩:=hya.forms;have sG:=hiQ hya;clear hya;have Ic:¬ 9223372036854775807 < lp.length+l.length:=by omega
  have HR:Hid (fE ts v n=lp ++ l):=by show _=_;rw [hp,HL.out]
  simp only [Nat.zero_mul,QB] at hc1;clear hp zH hfk;generalize v.items[0]=y at *;generalize x.ah[i].ty=mt at *;obtain ⟨y0,y1,y2,y3,y4,y5,y6,y7⟩:=hc1;go_wp2_with fail;clear iF iG iH iI bT gU dH bV aK bJ bY bZ dL eX bU dD dM dU;((with_reducible refine (HS.out _ (HX.out.on hw3)).mono ?_);rintro e kL ⟨rfl,iR⟩);obtain ⟨S,I,X⟩:=b3 S I X iR;replace hw3:=dT hw3 iR;clear iR HS;go_upto_region 21 with fail;have aH:=S.out.e0;have bU:=X.out.e6;have bT:=I.out.e4;have dH:=I.out.e6;refine t_ (S:=(fun w' => w'.cell? ⟨w.heap.size,0,none⟩=some (.slice (some ⟨b,o,none⟩) ts.length c)/\w'.cell? ⟨gX,6,none⟩=some (.slice (some ⟨b2,o2,none⟩) x.ah.length l2)/\w'.cell? ⟨w.heap.size+1,4,none⟩=some (.int .i64 v.id)/\w'.cell? ⟨w.heap.size+1,6,none⟩=some (.slice (some ⟨b1,o1,none⟩) v.items.length n2)/\(∀ (b o:Nat),b < w.heap.size->w'.cell? ⟨b,o,none⟩=w.cell? ⟨b,o,none⟩))) (by kernel_rfl) ⟨aH,bU,bT,dH,(fun b o hlt => hw3.cell (p:=⟨b,o,none⟩) hlt)⟩ (fun hHeld => ?_);clear aH bU bT dH;have fV:Below kL.heap.size kL (kL.drew):=(g_ _ _).drew;obtain ⟨S,I,X⟩:=b3 S I X fV;replace hw3:=dT hw3 fV;clear fV;generalize kL.drew=dQ at *;refine tk 0 ?_;refine tk 1 ?_;refine tk 2 ?_;refine tk 4 ?_;refine tk 5 ?_;refine tk 6 ?_;refine tk 7 ?_;refine tk 8 ?_;refine tk 9 ?_;refine tk 10 ?_;refine tk 11 ?_;refine tk 12 ?_;refine tk 13 ?_;refine tk 14 ?_;refine iE 3 fun K hK => ?_;go_simp;((with_reducible refine (aeD.out _).mono ?_);rintro e oZ ⟨rfl,o7⟩);obtain ⟨S,I,X⟩:=b3 S I X o7;replace hw3:=dT hw3 o7
  clear o7;(try clear hHeld);refine hK.out _ _ zAi (fun hHeld => ?_);clear hK K;refine iE 15 fun K hK => ?_;go_simp;((with_reducible refine (xZ.out _ _ _ _ (sG.out.on hw3) (HT.out.on hw3)).mono ?_);rintro e yN ⟨rfl,mG⟩);obtain ⟨S,I,X⟩:=b3 S I X mG;replace hw3:=dT hw3 mG;clear mG;(try clear hHeld);refine hK.out _ _ zAi (fun hHeld => ?_);clear hK K;refine tk 16 ?_;refine tk 17 ?_;refine Dl (by kernel_rfl) ?_ _;(try clear hHeld);clear y0 y1 y2 y3 y4 y5 y6 y7;go_wp2_with fail;go_ret;exact ⟨by rw [HR.out];exact congrArg (fun q => Ending.returned (.string q)) (qO lp l),hw3⟩
 rw [hzt,<- Aj.out] at hp;have h1i:(0:Int) < v.rest.length:=by rw [hr];simp
 have hld:decide (v.rest.length<=0)=false:=f_ (by rw [hr];simp);obtain ⟨bR,oR,rfl,ap4,hrc⟩:=HV.out.rest.at_ (by rw [hr];simp);have hr1:w.cell? ⟨bR,oR+1,none⟩=some (.string ⟨r.2.toArray⟩):=hrc 1 _ (by rw [hr];rfl);have hrz:=HV.out.Ie r (by rw [hr];simp);obtain ⟨-,hrz⟩:=hrz;have Ic:¬ 9223372036854775807 < lp.length+r.2.length:=by omega
 have HR:Hid (fE ts v n=lp ++ r.2):=hiQ hp;clear HF hr hp hrc hzt;generalize r.2=rb at *;go_upto_region 19 with fail;refine t_ (S:=(fun w' => w'.cell? ⟨w.heap.size+1,4,none⟩=some (.int .i64 v.id)/\w'.cell? ⟨w.heap.size+1,7,none⟩=some (.slice (some ⟨bR,oR,none⟩) v.rest.length n3)/\(∀ (b o:Nat),b < w.heap.size->w'.cell? ⟨b,o,none⟩=w.cell? ⟨b,o,none⟩))) (by kernel_rfl) ⟨bT,bV,(fun b o hlt => hw3.cell (p:=⟨b,o,none⟩) hlt)⟩ (fun hHeld => ?_);clear iF iG iH iI bT gU dH bV aK bJ bY bZ dL eX bU dD dM dU;have aY:Below fG.heap.size fG (fG.drew):=(g_ _ _).drew;obtain ⟨S,I,X⟩:=b3 S I X aY;replace hw3:=dT hw3 aY;clear aY;generalize fG.drew=dw at *;refine tk 0 ?_;refine tk 1 ?_;refine tk 2 ?_;refine tk 4 ?_;refine tk 5 ?_;refine tk 6 ?_;refine tk 7 ?_;refine tk 8 ?_;refine iE 3 fun K hK => ?_;go_simp;((with_reducible refine (aeD.out _).mono ?_);rintro e lZ ⟨rfl,kR⟩);obtain ⟨S,I,X⟩:=b3 S I X kR;replace hw3:=dT hw3 kR;clear kR;(try clear hHeld);refine hK.out _ _ (⟨I.out.cell 4,⟨I.out.cell 7,(fun b o hlt => hw3.cell (p:=⟨b,o,none⟩) hlt)⟩⟩) (fun hHeld => ?_);clear hK K;refine tk 9 ?_;refine tk 10 ?_;refine Dl (by kernel_rfl) ?_ _;(try clear hHeld);clear hr1;go_wp2_with fail;go_ret;exact ⟨by rw [HR.out];exact congrArg (fun q => Ending.returned (.string q)) (qO lp rb),hw3⟩
def CP (ls:List (List UInt8)) (k:Nat):List UInt8:=(ls.take k).flatMap jK
theorem LU (ls:List (List UInt8)) (k:Nat) (h:k < ls.length):CP ls (k+1)=CP ls k ++ jK ls[k]:=by
 unfold CP;rw [vK h,QG];simp
theorem YV (ls:List (List UInt8)) (k:Nat):(CP ls k).length<=(ls.flatMap jK).length:=by
 have h:ls.flatMap jK=CP ls k ++ (ls.drop k).flatMap jK:=by unfold CP;rw [<- QG,List.take_append_drop]
 rw [h,h_];omega
theorem WE (ls:List (List UInt8)) (k:Nat) (h:ls.length<=k):CP ls k=ls.flatMap jK:=by unfold CP;rw [yJ h]
theorem ag8 {ts:List ay} {pl:Bool} {v:Val} {t:Int} {x:ay} (hx:bM ts t=some x) (h:cO ts pl v t=true) (hk:x.kind=8):v.items.length=v.keys.length:=by
 have h3:=(pI hx h).2.2;unfold jT ig at h3;simp [hk] at h3;exact h3.2.1
theorem amO {ts:List ay} {v:Val} {n:Int} {x:ay} (hx:bM ts n=some x) (hk:x.kind=7):fE ts v n=(lu ts v.items x.elem).flatMap jK:=by
 rw [tu ts v n x hx];simp [Ce,hk]
theorem amP {ts:List ay} {v:Val} {n:Int} {x:ay} (hx:bM ts n=some x) (hk:x.kind=8):fE ts v n=(inter (lu ts v.keys x.key) (lu ts v.items x.elem)).flatMap jK:=by
 rw [tu ts v n x hx];simp [Ce,hk]
def vZ (w:World) (gX:Nat) (cs cv cx:Array Value) (wr:World):Prop:=Has wr w.heap.size 30 cs/\Has wr (w.heap.size+1) 34 cv/\Has wr gX 72 cx/\Below w.heap.size w wr
theorem zAj {p:Prop} (h:p:=by exact ⟨S.out.cell 0,⟨X.out.cell 8,⟨I.out.cell 6,(fun b o hlt => hbr.cell (p:=⟨b,o,none⟩) hlt)⟩⟩⟩):p:=h
theorem acE
 (ts:List ay) (A:Option Addr) (c n:Nat) (v:Val) (A1 A2 A3:Option Addr) (n1 n2 n3:Nat) (w:World) (hn:n < ts.length) (hk:ts[n].kind=7) (hkv:v.kind=7)
 (ht:aU w w.heap.size (.slice A ts.length c) ts) (hv:ValAt w w.heap.size v (.slice A1 v.keys.length n1) (.slice A2 v.items.length n2) (.slice A3 v.rest.length n3)) (hz:(fE ts v n).length<=140737488355328) (hf:cO ts false v n=true) (hU:NH ts (.slice A ts.length c) (v.keys ++ v.items)) :
 Calls Tryz.prog 25 #[.agg #[.slice A ts.length c],.int .i64 n,aS v (.slice A1 v.keys.length n1) (.slice A2 v.items.length n2) (.slice A3 v.rest.length n3)] w (RT w (.string ⟨(fE ts v n).toArray⟩)):=by
 obtain ⟨b,o,rfl,hbb,hel⟩:=ht.elem (by omega);obtain ⟨vs,vm,hcells,hx⟩:=hel n hn;clear hel;have hxt:bM ts n=some ts[n]:=by unfold bM;rw [o_ (by omega)];simp [hn]
 have HE:=hiQ (tu ts v n ts[n] hxt);have HF:=hiQ (Ei hxt hf (.inl hk)).2;have Gw:=hiQ (amO (v:=v) hxt hk);have Dq:=hiQ hU;clear hf hU;generalize ts[n]=x at *;obtain ⟨C1,l1,C2,l2,rfl,rfl,-,-⟩:=hx.forms;have hlt:(n:Int) < ts.length:=by omega
 have hd0:decide ((n:Int) < 0)=false:=by simp
 have hd1:decide (ts.length<=n)=false:=by simpa using hn
 have HX:=hiQ hx;have HT:=hiQ ht;have HV:=hiQ hv;have HC:=hiQ hcells;have mY:=hiQ hk;have HZ:=hiQ hz;have hxs:=hx.lens;have hvl:=hv.lens;have J3:=hv.ints;simp only [aS,hkv];clear hx ht hcells hn hv hxt hkv hz;go_enter Tryz.func25,Tryz.ntmps25
 go_upto_region 1 with fail;refine jg (fun wd2 hb1 S I => ?_);have hw3:=hb1;clear hb1;obtain ⟨c0,c1,c2,c3,c4,c5,c6,c7,c8,c9⟩:=HC.out.below (hw3) (by omega);rw [hk] at c0;have aH:=S.out.e0;obtain ⟨iF,iG,iH,iI,bT,gU,dH,bV⟩:=I.out.c8;go_upto_region 2 with fail;clear c0 c1 c2 c3 c4 c5 c6 c7 c8 c9 hd0 hd1 aH iF iG iH iI bT gU dH bV;refine aO (fun fG hb4 X => ?_);have nI:=S.out.here;have mO:=I.out.here;have kH:=hw3.size;obtain ⟨S,I⟩:=b2 S I hb4;replace hw3:=dT hw3 hb4;clear hb4;generalize wd2.heap.size=g6 at *;obtain ⟨gX,rfl⟩ : ∃ g,g=g6:=⟨_,rfl⟩
 have zD:w.heap.size+1 < gX:=by omega
 obtain ⟨iF,iG,iH,iI,bT,gU,dH,bV⟩:=I.out.c8;obtain ⟨aK,bJ,bY,bZ,dL,eX,bU,dD,dM,dU⟩:=X.out.c10;obtain ⟨ls,QZ⟩ : ∃ ls,Hid (ls=lu ts v.items x.elem):=⟨_,hiQ rfl⟩
 have hll:ls.length=v.items.length:=by rw [QZ.out,tJ,Qs]
 have hlk:∀ k (h:k < v.items.length) (h2:k < ls.length),ls[k]=fE ts v.items[k] x.elem:=fun k h h2 => by simp only [QZ.out,tJ,OX]
 have YW:=hiQ hll;have uD:=hiQ hlk;rw [<- QZ.out] at Gw;have HI0:Hid (vZ w gX #[.slice (some ⟨b,o,none⟩) ts.length c] #[.int .i64 7,.bool v.bool,.int .i64 v.num,.string ⟨v.str.toArray⟩,.int .i64 v.id,.slice A1 v.keys.length n1,.slice A2 v.items.length n2,.slice A3 v.rest.length n3] #[.int .i64 7,.string ⟨x.name.toArray⟩,.int .i64 x.low,.int .i64 x.high,.int .i64 x.max,.slice C1 x.syms.length l1,.slice C2 x.ah.length l2,.int .i64 x.key,.int .i64 x.elem,.bool x.opn] fG):=hiQ ⟨S.out,I.out,X.out,hw3⟩;clear hll hlk QZ;go_upto_region 25 with fail;clear S I X hw3;go_loopw [10,11] (fun so si wr => ∃ k:Nat,k<=v.items.length/\so = .string ⟨(CP ls k).toArray⟩/\si = .int .i64 k/\vZ w gX #[.slice (some ⟨b,o,none⟩) ts.length c] #[.int .i64 7,.bool v.bool,.int .i64 v.num,.string ⟨v.str.toArray⟩,.int .i64 v.id,.slice A1 v.keys.length n1,.slice A2 v.items.length n2,.slice A3 v.rest.length n3] #[.int .i64 7,.string ⟨x.name.toArray⟩,.int .i64 x.low,.int .i64 x.high,.int .i64 x.max,.slice C1 x.syms.length l1,.slice C2 x.ah.length l2,.int .i64 x.key,.int .i64 x.elem,.bool x.opn] wr) (fun _ si _ => v.items.length - (intOf si).toNat)
 case atStart => exact ⟨0,by omega,rfl,rfl,HI0.out⟩
 case round =>
  clear HI0;obtain ⟨k,hk1,rfl,rfl,S,I,X,hbr⟩:=hrel;replace S:=hiQ S;replace I:=hiQ I;replace X:=hiQ X;have hol:(CP ls k).length<=140737488355328:=by have h1:=YV ls k;have h2:=HZ.out;rw [Gw.out] at h2;omega
  by_cases hlt:k < v.items.length
  .
   have hkl:k < ls.length:=by rw [YW.out];exact hlt
   have hfk:=HF.out v.items[k] (jl hlt);have Ql:=hiQ (LU ls k hkl);have zH:(fE ts v.items[k] x.elem).length<=140737488355328:=by
    have h1:=DL (jl hkl);have h2:=HZ.out;rw [Gw.out] at h2;rw [uD.out k hlt hkl] at h1;omega
   rw [uD.out k hlt hkl] at Ql;have xO:(k:Int) < v.items.length:=by omega
   have hd0:decide ((k:Int) < 0)=false:=by simp
   have hd1:decide (v.items.length<=k)=false:=by simpa using hlt
   obtain ⟨b1,o1,rfl,Fp,rJ⟩:=HV.out.items.elem (by omega);obtain ⟨yk,yi,yr,hc1,hya⟩:=rJ k hlt;have hmem:v.items[k] ∈ v.keys ++ v.items:=Dp.2 (.inr (jl hlt));have xZ:=hiQ (fun W yk yi yr => Dq.out v.items[k] hmem (x.elem) yk yi yr W hfk zH);obtain ⟨l,HL⟩ : ∃ l,Hid (l=fE ts v.items[k] (x.elem)):=⟨_,hiQ rfl⟩
   have hlz:l.length<=140737488355328:=by rw [HL.out];exact zH
   rw [<- HL.out] at xZ;clear rJ hmem;obtain ⟨E1,k1,E2,k2,E3,k3,rfl,rfl,rfl,-,-,-⟩:=hya.forms;have sG:=hiQ hya;clear hya;rw [<- HL.out] at Ql;clear hfk zH hkl;generalize v.items[k]=y at *;obtain ⟨y0,y1,y2,y3,y4,y5,y6,y7⟩:=hc1;generalize CP ls k=ok at *;have dH:=I.out.e6;go_upto_region 27 with fail;have aH:=S.out.e0;have dM:=X.out.e8;refine t_ (S:=(fun w' => w'.cell? ⟨w.heap.size,0,none⟩=some (.slice (some ⟨b,o,none⟩) ts.length c)/\w'.cell? ⟨gX,8,none⟩=some (.int .i64 x.elem)/\w'.cell? ⟨w.heap.size+1,6,none⟩=some (.slice (some ⟨b1,o1,none⟩) v.items.length n2)/\(∀ (b o:Nat),b < w.heap.size->w'.cell? ⟨b,o,none⟩=w.cell? ⟨b,o,none⟩))) (by kernel_rfl) ⟨aH,dM,dH,(fun b o hlt => hbr.cell (p:=⟨b,o,none⟩) hlt)⟩ (fun hHeld => ?_);clear dH aH dM;have aY:Below wr.heap.size wr (wr.drew):=(g_ _ _).drew;obtain ⟨S,I,X⟩:=b3 S I X aY;replace hbr:=dT hbr aY;clear aY;generalize wr.drew=dw at *;refine tk 0 ?_;refine tk 1 ?_;refine tk 2 ?_;refine tk 3 ?_;refine tk 4 ?_;refine tk 5 ?_;refine tk 6 ?_;refine tk 7 ?_;refine tk 8 ?_;refine iE 9 fun K hK => ?_;go_simp;((with_reducible refine (xZ.out _ _ _ _ (sG.out.on hbr) (HT.out.on hbr)).mono ?_);rintro e lZ ⟨rfl,kR⟩);obtain ⟨S,I,X⟩:=b3 S I X kR;replace hbr:=dT hbr kR;clear kR;(try clear hHeld);refine hK.out _ _ zAj (fun hHeld => ?_);clear hK K;refine iE 10 fun K hK => ?_;go_simp;((with_reducible refine (GY _ _ hlz).mono ?_);rintro e oZ ⟨rfl,o7⟩);obtain ⟨S,I,X⟩:=b3 S I X o7;replace hbr:=dT hbr o7;clear o7;obtain ⟨lp,Aj⟩ : ∃ q,Hid (q=jK l):=⟨_,hiQ rfl⟩
   rw [<- Aj.out];have hpz:lp.length<=140737488355338:=by rw [Aj.out];unfold jK;have:=qw 9 l.length;rw [h_];omega
   (try clear hHeld);refine hK.out _ _ zAj (fun hHeld => ?_);clear hK K;have Ic:¬ 9223372036854775807 < ok.length+lp.length:=by omega
   refine tk 11 ?_;refine tk 12 ?_;refine Dl (by kernel_rfl) ?_ _;(try clear hHeld);clear y0 y1 y2 y3 y4 y5 y6 y7 Ic;go_wp2_with fail;go_roundw
   case rel => exact ⟨k+1,by omega,by rw [qO,Aj.out,Ql.out],by go_num,S.out,I.out,X.out,hbr⟩
   case measure => simp [intOf];omega
  have xO:¬ (k:Int) < v.items.length:=by omega
  have dH:=I.out.e6;go_wp2_with fail;go_ret;exact ⟨Aa (by rw [Gw.out,WE ls k (by rw [YW.out];omega)]),hbr⟩
theorem zAk {p:Prop} (h:p:=by exact ⟨S.out.cell 0,⟨X.out.cell 7,⟨X.out.cell 8,⟨I.out.cell 5,⟨I.out.cell 6,(fun b o hlt => hbr.cell (p:=⟨b,o,none⟩) hlt)⟩⟩⟩⟩⟩):p:=h
theorem acF
 (ts:List ay) (A:Option Addr) (c n:Nat) (v:Val) (A1 A2 A3:Option Addr) (n1 n2 n3:Nat) (w:World) (hn:n < ts.length) (hk:ts[n].kind=8) (hkv:v.kind=8)
 (ht:aU w w.heap.size (.slice A ts.length c) ts) (hv:ValAt w w.heap.size v (.slice A1 v.keys.length n1) (.slice A2 v.items.length n2) (.slice A3 v.rest.length n3)) (hz:(fE ts v n).length<=140737488355328) (hf:cO ts false v n=true) (hU:NH ts (.slice A ts.length c) (v.keys ++ v.items)) :
 Calls Tryz.prog 25 #[.agg #[.slice A ts.length c],.int .i64 n,aS v (.slice A1 v.keys.length n1) (.slice A2 v.items.length n2) (.slice A3 v.rest.length n3)] w (RT w (.string ⟨(fE ts v n).toArray⟩)):=by
 obtain ⟨b,o,rfl,hbb,hel⟩:=ht.elem (by omega);obtain ⟨vs,vm,hcells,hx⟩:=hel n hn;clear hel;have hxt:bM ts n=some ts[n]:=by unfold bM;rw [o_ (by omega)];simp [hn]
 have HE:=hiQ (tu ts v n ts[n] hxt);have HF:=hiQ (Ei hxt hf (.inr (.inl hk)));have WG:=hiQ (ag8 hxt hf hk);have Gw:=hiQ (amP (v:=v) hxt hk);have Dq:=hiQ hU;clear hf hU;generalize ts[n]=x at *;obtain ⟨C1,l1,C2,l2,rfl,rfl,-,-⟩:=hx.forms;have hlt:(n:Int) < ts.length:=by omega
 have hd0:decide ((n:Int) < 0)=false:=by simp
 have hd1:decide (ts.length<=n)=false:=by simpa using hn
 have HX:=hiQ hx;have HT:=hiQ ht;have HV:=hiQ hv;have HC:=hiQ hcells;have mY:=hiQ hk;have HZ:=hiQ hz;have hxs:=hx.lens;have hvl:=hv.lens;have J3:=hv.ints;simp only [aS,hkv];clear hx ht hcells hn hv hxt hkv hz;go_enter Tryz.func25,Tryz.ntmps25
 go_upto_region 1 with fail;refine jg (fun wd2 hb1 S I => ?_);have hw3:=hb1;clear hb1;obtain ⟨c0,c1,c2,c3,c4,c5,c6,c7,c8,c9⟩:=HC.out.below (hw3) (by omega);rw [hk] at c0;have aH:=S.out.e0;obtain ⟨iF,iG,iH,iI,bT,gU,dH,bV⟩:=I.out.c8;go_upto_region 2 with fail;clear c0 c1 c2 c3 c4 c5 c6 c7 c8 c9 hd0 hd1 aH iF iG iH iI bT gU dH bV;refine aO (fun fG hb4 X => ?_);have nI:=S.out.here;have mO:=I.out.here;have kH:=hw3.size;obtain ⟨S,I⟩:=b2 S I hb4;replace hw3:=dT hw3 hb4;clear hb4;generalize wd2.heap.size=g6 at *;obtain ⟨gX,rfl⟩ : ∃ g,g=g6:=⟨_,rfl⟩
 have zD:w.heap.size+1 < gX:=by omega
 obtain ⟨iF,iG,iH,iI,bT,gU,dH,bV⟩:=I.out.c8;obtain ⟨aK,bJ,bY,bZ,dL,eX,bU,dD,dM,dU⟩:=X.out.c10;obtain ⟨ls,QZ⟩ : ∃ ls,Hid (ls=inter (lu ts v.keys x.key) (lu ts v.items x.elem)):=⟨_,hiQ rfl⟩
 have hkl:=WG.out;have hk0:(lu ts v.keys x.key).length=v.keys.length:=by rw [tJ,Qs]
 have hi0:(lu ts v.items x.elem).length=v.items.length:=by rw [tJ,Qs]
 have hll:ls.length=2*v.items.length:=by rw [QZ.out,LH _ _ (by omega)];omega
 have hlk:∀ k (h:k < v.items.length) (h1:k < v.keys.length) (h2:2*k < ls.length) (h3:2*k+1 < ls.length),ls[2*k]=fE ts v.keys[k] x.key/\ls[2*k+1]=fE ts v.items[k] x.elem:=fun k h h1 h2 h3 => by
  have h4:=PI (lu ts v.keys x.key) (lu ts v.items x.elem) k (by omega) (by omega);rw [<- QZ.out,Oa,Oa,m_ h2,m_ h3] at h4;simp only [V8,tJ,OX] at h4;exact h4
 have YW:=hiQ hll;have uD:=hiQ hlk;rw [<- QZ.out] at Gw;have HI0:Hid (vZ w gX #[.slice (some ⟨b,o,none⟩) ts.length c] #[.int .i64 8,.bool v.bool,.int .i64 v.num,.string ⟨v.str.toArray⟩,.int .i64 v.id,.slice A1 v.keys.length n1,.slice A2 v.items.length n2,.slice A3 v.rest.length n3] #[.int .i64 8,.string ⟨x.name.toArray⟩,.int .i64 x.low,.int .i64 x.high,.int .i64 x.max,.slice C1 x.syms.length l1,.slice C2 x.ah.length l2,.int .i64 x.key,.int .i64 x.elem,.bool x.opn] fG):=hiQ ⟨S.out,I.out,X.out,hw3⟩;clear hll hlk QZ hk0 hi0 hkl;go_upto_region 32 with fail;clear S I X hw3;go_loopw [12,13] (fun so si wr => ∃ k:Nat,k<=v.items.length/\so = .string ⟨(CP ls (2*k)).toArray⟩/\si = .int .i64 k/\vZ w gX #[.slice (some ⟨b,o,none⟩) ts.length c] #[.int .i64 8,.bool v.bool,.int .i64 v.num,.string ⟨v.str.toArray⟩,.int .i64 v.id,.slice A1 v.keys.length n1,.slice A2 v.items.length n2,.slice A3 v.rest.length n3] #[.int .i64 8,.string ⟨x.name.toArray⟩,.int .i64 x.low,.int .i64 x.high,.int .i64 x.max,.slice C1 x.syms.length l1,.slice C2 x.ah.length l2,.int .i64 x.key,.int .i64 x.elem,.bool x.opn] wr) (fun _ si _ => v.items.length - (intOf si).toNat)
 case atStart => exact ⟨0,by omega,rfl,rfl,HI0.out⟩
 case round =>
  clear HI0;obtain ⟨k,hk1,rfl,rfl,S,I,X,hbr⟩:=hrel;replace S:=hiQ S;replace I:=hiQ I;replace X:=hiQ X;have hol:(CP ls (2*k)).length<=140737488355328:=by have h1:=YV ls (2*k);have h2:=HZ.out;rw [Gw.out] at h2;omega
  by_cases hlt:k < v.items.length
  .
   have hltk:k < v.keys.length:=by rw [<- WG.out];exact hlt
   have PL:2*k < ls.length:=by rw [YW.out];omega
   have hkl2:2*k+1 < ls.length:=by rw [YW.out];omega
   have hfk:=HF.out.2 v.items[k] (jl hlt);have hfq:=HF.out.1 v.keys[k] (jl hltk);have hs1:=LU ls (2*k) PL;have hs2:=LU ls (2*k+1) hkl2;have hzq:(fE ts v.keys[k] x.key).length<=140737488355328:=by
    have h1:=DL (jl PL);have h2:=HZ.out;rw [Gw.out] at h2;rw [(uD.out k hlt hltk PL hkl2).1] at h1;omega
   have zH:(fE ts v.items[k] x.elem).length<=140737488355328:=by
    have h1:=DL (jl hkl2);have h2:=HZ.out;rw [Gw.out] at h2;rw [(uD.out k hlt hltk PL hkl2).2] at h1;omega
   rw [(uD.out k hlt hltk PL hkl2).1] at hs1;rw [(uD.out k hlt hltk PL hkl2).2,hs1] at hs2;have Ql:=hiQ hs2;clear hs1 hs2 PL hkl2;have xO:(k:Int) < v.items.length:=by omega
   have amo:(k:Int) < v.keys.length:=by omega
   have hd0:decide ((k:Int) < 0)=false:=by simp
   have hd1:decide (v.items.length<=k)=false:=by simpa using hlt
   have hd2:decide (v.keys.length<=k)=false:=by simpa using hltk
   obtain ⟨bq,oq,rfl,hbq,ai6⟩:=HV.out.keys.elem (by omega);obtain ⟨qk,qi,qr,hcq,hqa⟩:=ai6 k hltk;have hmeq:v.keys[k] ∈ v.keys ++ v.items:=Dp.2 (.inl (jl hltk));have HU2:=hiQ (fun W yk yi yr => Dq.out v.keys[k] hmeq x.key yk yi yr W hfq hzq);obtain ⟨m,HMq⟩ : ∃ l,Hid (l=fE ts v.keys[k] x.key):=⟨_,hiQ rfl⟩
   have hmz:m.length<=140737488355328:=by rw [HMq.out];exact hzq
   rw [<- HMq.out] at HU2 Ql;clear ai6 hmeq hfq hzq;obtain ⟨Q1,q1,Q2,q2,Q3,q3,rfl,rfl,rfl,-,-,-⟩:=hqa.forms;have HQA:=hiQ hqa;clear hqa;obtain ⟨b1,o1,rfl,Fp,rJ⟩:=HV.out.items.elem (by omega);obtain ⟨yk,yi,yr,hc1,hya⟩:=rJ k hlt;have hmem:v.items[k] ∈ v.keys ++ v.items:=Dp.2 (.inr (jl hlt));have xZ:=hiQ (fun W yk yi yr => Dq.out v.items[k] hmem (x.elem) yk yi yr W hfk zH);obtain ⟨l,HL⟩ : ∃ l,Hid (l=fE ts v.items[k] (x.elem)):=⟨_,hiQ rfl⟩
   have hlz:l.length<=140737488355328:=by rw [HL.out];exact zH
   rw [<- HL.out] at xZ;clear rJ hmem;obtain ⟨E1,k1,E2,k2,E3,k3,rfl,rfl,rfl,-,-,-⟩:=hya.forms;have sG:=hiQ hya;clear hya;rw [<- HL.out] at Ql;clear hfk zH;generalize v.items[k]=y at *;generalize v.keys[k]=z at *;obtain ⟨y0,y1,y2,y3,y4,y5,y6,y7⟩:=hc1;obtain ⟨z0,z1,z2,z3,z4,z5,z6,z7⟩:=hcq;generalize CP ls (2*k)=ok at *;have dH:=I.out.e6;go_upto_region 34 with fail;have aH:=S.out.e0;have dD:=X.out.e7;have dM:=X.out.e8;have gU:=I.out.e5;refine t_ (S:=(fun w' => w'.cell? ⟨w.heap.size,0,none⟩=some (.slice (some ⟨b,o,none⟩) ts.length c)/\w'.cell? ⟨gX,7,none⟩=some (.int .i64 x.key)/\w'.cell? ⟨gX,8,none⟩=some (.int .i64 x.elem)/\w'.cell? ⟨w.heap.size+1,5,none⟩=some (.slice (some ⟨bq,oq,none⟩) v.keys.length n1)/\w'.cell? ⟨w.heap.size+1,6,none⟩=some (.slice (some ⟨b1,o1,none⟩) v.items.length n2)/\(∀ (b o:Nat),b < w.heap.size->w'.cell? ⟨b,o,none⟩=w.cell? ⟨b,o,none⟩))) (by kernel_rfl) ⟨aH,dD,dM,gU,dH,(fun b o hlt => hbr.cell (p:=⟨b,o,none⟩) hlt)⟩ (fun hHeld => ?_);clear dH aH dD dM gU;have aY:Below wr.heap.size wr (wr.drew):=(g_ _ _).drew;obtain ⟨S,I,X⟩:=b3 S I X aY;replace hbr:=dT hbr aY;clear aY;generalize wr.drew=dw at *;refine tk 0 ?_;refine tk 1 ?_;refine tk 2 ?_;refine tk 3 ?_;refine tk 4 ?_;refine tk 5 ?_;refine tk 6 ?_;refine tk 7 ?_;refine tk 8 ?_;refine tk 12 ?_;refine tk 13 ?_;refine tk 14 ?_;refine tk 15 ?_;refine tk 16 ?_;refine tk 17 ?_;refine tk 18 ?_;refine tk 19 ?_;refine iE 9 fun K hK => ?_;go_simp;((with_reducible refine (HU2.out _ _ _ _ (HQA.out.on hbr) (HT.out.on hbr)).mono ?_);rintro e lZ ⟨rfl,kR⟩)
   obtain ⟨S,I,X⟩:=b3 S I X kR;replace hbr:=dT hbr kR;clear kR;(try clear hHeld);refine hK.out _ _ zAk (fun hHeld => ?_);clear hK K;refine iE 10 fun K hK => ?_;go_simp;((with_reducible refine (GY _ _ hmz).mono ?_);rintro e oZ ⟨rfl,o7⟩);obtain ⟨S,I,X⟩:=b3 S I X o7;replace hbr:=dT hbr o7;clear o7;obtain ⟨mp,HMP⟩ : ∃ q,Hid (q=jK m):=⟨_,hiQ rfl⟩
   rw [<- HMP.out];have hqz:mp.length<=140737488355338:=by rw [HMP.out];unfold jK;have:=qw 9 m.length;rw [h_];omega
   (try clear hHeld);refine hK.out _ _ zAk (fun hHeld => ?_);clear hK K;have Ic:¬ 9223372036854775807 < ok.length+mp.length:=by omega
   refine tk 11 ?_;refine iE 20 fun K hK => ?_;go_simp;((with_reducible refine (xZ.out _ _ _ _ (sG.out.on hbr) (HT.out.on hbr)).mono ?_);rintro e yN ⟨rfl,mG⟩);obtain ⟨S,I,X⟩:=b3 S I X mG;replace hbr:=dT hbr mG;clear mG;(try clear hHeld);refine hK.out _ _ zAk (fun hHeld => ?_);clear hK K;refine iE 21 fun K hK => ?_;go_simp;((with_reducible refine (GY _ _ hlz).mono ?_);rintro e yx ⟨rfl,aln⟩);obtain ⟨S,I,X⟩:=b3 S I X aln;replace hbr:=dT hbr aln;clear aln;obtain ⟨lp,Aj⟩ : ∃ q,Hid (q=jK l):=⟨_,hiQ rfl⟩
   rw [<- Aj.out];have hpz:lp.length<=140737488355338:=by rw [Aj.out];unfold jK;have:=qw 9 l.length;rw [h_];omega
   (try clear hHeld);refine hK.out _ _ zAk (fun hHeld => ?_);clear hK K;have akm:¬ 9223372036854775807 < ok.length+mp.length+lp.length:=by omega
   refine tk 22 ?_;refine tk 23 ?_;refine Dl (by kernel_rfl) ?_ _;(try clear hHeld);clear y0 y1 y2 y3 y4 y5 y6 y7 z0 z1 z2 z3 z4 z5 z6 z7 Ic akm;go_wp2_with fail;go_roundw
   case rel => exact ⟨k+1,by omega,by rw [show 2*(k+1)=2*k+1+1 by omega,Ql.out,qO,qO,Aj.out,HMP.out],by go_num,S.out,I.out,X.out,hbr⟩
   case measure => simp [intOf];omega
  have xO:¬ (k:Int) < v.items.length:=by omega
  have dH:=I.out.e6;go_wp2_with fail;go_ret;exact ⟨Aa (by rw [Gw.out,WE ls (2*k) (by rw [YW.out];omega)]),hbr⟩

/- What the full method of fingerprint's writer writes: the full bytes of a plain value. Condition: the value fits a type of a valid schema. The writer writes each plain value as it should. Condition: the value fits a type of a valid schema. No condition. -/
import Derived.Test.YtlamhkffnlgofaaGreatDoorFpb
set_option maxHeartbeats 1600000
set_option maxRecDepth 100000
namespace Go.Proofs.YtlamhkffnlgofaaGreatDoor
open Go.ChangeShapes Go.WideShapes Go.ChangeAt Go.RowKit
abbrev aw8 (ts:List ay) (v:Val) (t:Int):Prop := ∀ (w:World) (gw b o c:Nat) (q:List UInt8) (vk vi vr:Value),aU w gw (.slice (some ⟨b,o,none⟩) ts.length c) ts→ValAt w gw v vk vi vr→q.length+(gI ts v t).length≤10000000000000→Am w gw q →
 Calls Tryz.prog 48 #[.pointer (some ⟨gw,0,none⟩),.agg #[.slice (some ⟨b,o,none⟩) ts.length c],.int .i64 t,aS v vk vi vr] w (abX gw (q ++ gI ts v t) w)
theorem aD2 (ts:List ay):∀ (is:List Val) (ms:List Mem),ajD ts is ms=(List.zipWith (fun y (m:Mem) => gI ts y m.ty) is ms).flatten
 | [],ms => by cases ms <;> simp [ajD]
 | y :: r,[] => by simp [ajD]
 | y :: r,m :: ms => by rw [ajD,aD2 ts r ms];simp
theorem aoE (ts:List ay) (t:Int):∀ l:List Val,Y0 ts l t=l.map fun y => gI ts y t
 | [] => by simp [Y0]
 | y :: r => by rw [Y0,aoE ts t r];rfl
theorem aEh:∀ a b:List (List UInt8),asc a b=(List.zipWith (fun x y => x ++ y) a b).flatten
 | [],b => by cases b <;> simp [asc]
 | x :: r,[] => by simp [asc]
 | x :: r,y :: s => by rw [asc,aEh r s];simp
theorem aAM (L:List (List UInt8)) (j:Nat) (h:j < L.length):(L.take (j+1)).flatten=(L.take j).flatten ++ L[j]:=by
 rw [List.take_succ_eq_append_getElem h,List.flatten_append];simp
theorem ay4 (L:List (List UInt8)) (j:Nat) (h:j < L.length):((L.take j).flatten).length+L[j].length≤L.flatten.length:=by
 have h1:L.flatten=(L.take (j+1)).flatten ++ (L.drop (j+1)).flatten:=by rw [← List.flatten_append,List.take_append_drop]
 rw [h1,aAM L j h];simp only [List.length_append];omega
abbrev avu (w:World) (b o:Nat) (x:Val) (vk vi vr:Value):Prop :=
 w.cell? ⟨b,o,none⟩=some (.int .i64 x.kind)∧w.cell? ⟨b,o+1,none⟩=some (.bool x.bool)∧w.cell? ⟨b,o+2,none⟩=some (.int .i64 x.num)∧w.cell? ⟨b,o+3,none⟩=some (.string ⟨x.str.toArray⟩) ∧
 w.cell? ⟨b,o+4,none⟩=some (.int .i64 x.id)∧w.cell? ⟨b,o+5,none⟩=some vk∧w.cell? ⟨b,o+6,none⟩=some vi∧w.cell? ⟨b,o+7,none⟩=some vr
theorem aoN {w:World} {b o:Nat} {x:Val} {vk vi vr:Value} (h:Cells8 w b o x vk vi vr) (hb:b < w.heap.size):Kept (fun w => Cells8 w b o x vk vi vr) w b (b+1) :=
 ⟨h,fun w' hk => by
  obtain ⟨h0,h1,h2,h3,h4,h5,h6,h7⟩:=h;have e:∀ o',w'.cell? ⟨b,o',none⟩=w.cell? ⟨b,o',none⟩:=fun o' => World.cell?_of_block (hk b (Nat.le_refl _) (by omega));exact ⟨(e _).trans h0,(e _).trans h1,(e _).trans h2,(e _).trans h3,(e _).trans h4,(e _).trans h5,(e _).trans h6,(e _).trans h7⟩,hb⟩
theorem aD3 {w:World} {b o:Nat} {u:Value} (h:w.cell? ⟨b,o,none⟩=some u):Kept (fun w => w.cell? ⟨b,o,none⟩=some u) w b (b+1) :=
 ⟨h,fun w' hk => (World.cell?_of_block (hk b (Nat.le_refl _) (by omega))).trans h,by
  unfold World.cell? at h;rcases Nat.lt_or_ge b w.heap.size with h1 | h1
  · omega
  rw [Array.getElem?_eq_none h1] at h;cases h⟩
theorem aD1 {w w':World} {B b o:Nat} {x:Mem} {vk vi vr:Value} (h:EU w b o x vk vi vr) (hb:Below B w w') (hlt:b < B):EU w' b o x vk vi vr:=by
 exact zDu
theorem zIh {p:Prop} (h:p:=by
 go_wp2_with fail;go_roundw
 case rel => exact ⟨j+1,by omega,by go_num,by rw [Y4.out,← List.append_assoc];exact R.out,KG,S.out,V.out,X.out⟩
 case measure => simp [intOf];omega):p:=h
theorem aJL {ts:List ay} (v:Val) (t:Nat) (x:ay) (hx:ts[t]?=some x) (hk:x.kind=5) (hln:v.items.length=x.ah.length) (hsm:x.ah.length≤1000) (aox:gI ts v (t:Nat)=ajD ts v.items x.ah)
  (ih:∀ (j:Nat) (y:Val) (m:Mem),v.items[j]?=some y→x.ah[j]?=some m→aw8 ts y m.ty):aw8 ts v (t:Nat):=by
 obtain ⟨L,hL⟩ : ∃ L,L=List.zipWith (fun y (m:Mem) => gI ts y m.ty) v.items x.ah:=⟨_,rfl⟩
 rw [aD2,← hL] at aox;have hLl:L.length=x.ah.length:=by rw [hL,List.length_zipWith];omega
 have hLj:∀ (j:Nat) (y:Val) (m:Mem),v.items[j]?=some y→x.ah[j]?=some m→L[j]?=some (gI ts y m.ty):=fun j y m h1 h2 => by rw [hL,List.getElem?_zipWith,h1,h2]
 have HLJ:=hiQ hLj;have HIH:=hiQ ih;have HLN:=hiQ hln;clear hL hLj ih hln;intro w gw b o c q vk vi vr ht hva hq hw;rw [aox] at hq ⊢;obtain ⟨D1,d1,D2,d2,D3,d3,rfl,rfl,rfl,-,-,-⟩:=hva.forms;have htl:t < ts.length:=(List.getElem?_eq_some_iff.1 hx).1;have hxt:ts[t]=x:=(List.getElem?_eq_some_iff.1 hx).2;obtain ⟨b',o',e,hbg,hel⟩:=ht.elem (by omega);injection e with e;injection e with e1 e2 _;subst e1 e2;obtain ⟨vs,vm,hcell,hxa⟩:=hel t htl;rw [hxt] at hcell hxa;obtain ⟨C1,l1,C2,l2,rfl,rfl,-,-⟩:=hxa.forms;have HT:=hiQ ht;have HV:=hiQ hva;have Wj:=hiQ hxa;have HX:=hiQ hx;have alv:=hw.here;have R:=hw;have KG:=fK.refl gw w;have hd0:decide ((t:Int) < 0)=false:=by simp
 have hd1:decide (ts.length≤t)=false:=by simpa using htl
 have aoo:(t:Int) < ts.length:=by omega
 clear hw ht hva hxa hel hxt hx aox;replace R:=hiQ R;have XC:=hiQ (ajT hcell (by omega));clear hcell;go_enter Tryz.func48,Tryz.ntmps48
 go_upto_region 1 with fail;refine jg (fun wd2 hb1 S V => ?_);replace XC:=b1 XC hb1;replace R:=wB R hb1;replace KG:=oq KG hb1 (by have:=KG.size;omega);clear hb1;have aH:=S.out.e0;obtain ⟨x0,x1,x2,x3,x4,x5,x6,x7,x8,x9⟩:=XC.out.now;rw [hk] at x0;go_upto_region 2 with fail;clear aH;refine aO (fun wd4 hb3 X => ?_);have Ox:=S.out.here;have nI:=V.out.here;have mO:=XC.out.le;have kH:=KG.size;obtain ⟨S,V,XC⟩:=b3 S V XC hb3;replace R:=wB R hb3;replace KG:=oq KG hb3 (by have:=KG.size;omega);clear hb3;generalize wd2.heap.size=g5 at *;obtain ⟨gX,rfl⟩ : ∃ g,g=g5:=⟨_,rfl⟩
 clear x0 x1 x2 x3 x4 x5 x6 x7 x8 x9 XC;have hR0:=R.out;have hS0:=S.out;have hV0:=V.out;have hX0:=X.out;have aK:=X.out.e0;have bU:=X.out.e6;go_upto_region 22 with fail;clear aK bU;go_loopw [98] (fun s98 wr => ∃ j:Nat,j≤x.ah.length∧s98 = .int .i64 j∧Am wr gw (q ++ (L.take j).flatten)∧fK gw w wr∧Has wr w.heap.size 25 #[.slice (some ⟨b,o,none⟩) ts.length c]∧Has wr (w.heap.size+1) 81 #[.int .i64 v.kind,.bool v.bool,.int .i64 v.num,.string ⟨v.str.toArray⟩,.int .i64 v.id,.slice D1 v.keys.length d1,.slice D2 v.items.length d2,.slice D3 v.rest.length d3]∧Has wr gX 71 #[.int .i64 5,.string ⟨x.name.toArray⟩,.int .i64 x.low,.int .i64 x.high,.int .i64 x.max,.slice C1 x.syms.length l1,.slice C2 x.ah.length l2,.int .i64 x.key,.int .i64 x.elem,.bool x.opn]) (fun s98 _ => x.ah.length - (intOf s98).toNat)
 case atStart => exact ⟨0,Nat.zero_le _,rfl,by simpa using hR0,KG,hS0,hV0,hX0⟩
 case round =>
  clear R KG S V X hR0 hS0 hV0 hX0;obtain ⟨j,hjl,rfl,R,KG,S,V,X⟩:=hrel;replace R:=hiQ R;replace S:=hiQ S;replace V:=hiQ V;replace X:=hiQ X;by_cases hlt:j < x.ah.length
  ·
   have hlt2:j < v.items.length:=by have:=HLN.out;omega
   obtain ⟨b6,o6,hC2,hb6,hc6⟩:=Wj.out.ah.elem (by omega);obtain ⟨k1,k2,k3,hmc,hma⟩:=hc6 j hlt;obtain ⟨b7,oq7,hD2,hb7,Z4⟩:=HV.out.items.elem (by omega);obtain ⟨z1,z2,z3,GX,hyv⟩:=Z4 j hlt2;have hy:=List.getElem?_eq_getElem hlt2;have hm:=List.getElem?_eq_getElem hlt;have TK:=HLJ.out j _ _ hy hm;have Ic:=HIH.out j _ _ hy hm;have V5:j < L.length:=by omega
   rw [List.getElem?_eq_getElem V5] at TK;have hle:=ay4 L j V5;have hnx:=aAM L j V5;rw [Option.some.inj TK] at hle hnx;replace hmc:=aD1 hmc KG.low hb6;replace GX:=GX.below KG.low hb7;generalize x.ah[j]=m at *;generalize v.items[j]=y at *;obtain ⟨Y1,y1,Y2,y2,Y3,y3,rfl,rfl,rfl,-,-,-⟩:=hyv.forms;obtain ⟨E1,e1,E2,e2,E3,e3,rfl,rfl,rfl,-,-,-⟩:=hma.dflt.forms;obtain ⟨a0,a1,a2,a3,a4,a5,a6,a7,a8,a9,a10,a11,a12⟩:=hmc;have HYV:=hiQ hyv;have OM:=hiQ Ic;have Y4:=hiQ hnx;have hgw1:=KG.size;have KY:=hiQ (aoN GX (by omega));have hi1:(j:Int) < x.ah.length:=by omega
   have hi2:(j:Int) < v.items.length:=by omega
   have hd2:decide ((j:Int) < 0)=false:=by simp
   have hd3:decide (x.ah.length≤j)=false:=by simpa using hlt
   have hd4:decide (v.items.length≤j)=false:=by simpa using hlt2
   clear hc6 Z4 hy hm TK Ic GX hyv hnx hma;subst hC2 hD2;go_upto_region 24 with fail;clear a0 a1 a2 a3 a4 a5 a6 a7 a8 a9 a10 a11 a12;refine aO (fun dw aY M => ?_);have alh:=S.out.here;have akV:=V.out.here;have qA:=X.out.here;have alj:=KY.out.le;have sO:=KG.size;obtain ⟨S,V,X,KY⟩:=b4 S V X KY aY;replace R:=wB R aY;replace KG:=oq KG aY (by have:=KG.size;omega);clear aY;generalize wr.heap.size=g12 at *;have aH:=S.out.e0;have je:=M.out.e2;have aP:=V.out.e6;refine wp_region_held_drew (S:=(fun w' => w'.cell? ⟨w.heap.size,0,none⟩=some (.slice (some ⟨b,o,none⟩) ts.length c)∧w'.cell? ⟨g12,2,none⟩=some (.int .i64 m.ty)∧w'.cell? ⟨w.heap.size+1,6,none⟩=some (.slice (some ⟨b7,oq7,none⟩) v.items.length d2)∧(avu w' b7 (oq7+j*8) y (.slice Y1 y.keys.length y1) (.slice Y2 y.items.length y2) (.slice Y3 y.rest.length y3)))) (by kernel_rfl) ⟨aH,je,aP,(KY.out.now)⟩ (fun hHeld => ?_);clear aH je aP;have nU:Below dw.heap.size dw (dw.drew):=(Below.refl _ _).drew;obtain ⟨S,V,X,M,KY⟩:=b5 S V X M KY nU;replace R:=wB R nU;replace KG:=oq KG nU (by have:=KG.size;omega);clear nU;generalize dw.drew=fZ at *;refine tk 0 ?_;refine tk 1 ?_;refine tk 2 ?_;refine tk 3 ?_;refine tk 4 ?_;refine tk 5 ?_;refine tk 6 ?_;refine tk 7 ?_;refine tk 8 ?_;refine iE 9 fun K hK => ?_;go_simp;((with_reducible refine (OM.out _ gw b o c (q ++ (L.take j).flatten) _ _ _ (HT.out.keep (fun p hp => KG.low.cell hp) (Nat.le_refl _)) (HYV.out.keep (fun p hp => KG.low.cell hp) (Nat.le_refl _)) (by simp only [List.length_append];omega) R.out).mono ?_);rintro e yO ⟨rfl,amN,arJ⟩)
   replace S:=wH S arJ (by omega) (by decide);replace V:=wH V arJ (by omega) (by decide);replace X:=wH X arJ (by omega) (by decide);replace M:=wH M arJ (by omega) (by decide);replace KY:=wN KY arJ (by omega);replace R:=hiQ amN;replace KG:=KG.trans arJ;clear amN arJ;(try clear hHeld);refine hK.out _ _ (⟨S.out.cell 0,⟨M.out.cell 2,⟨V.out.cell 6,(KY.out.now)⟩⟩⟩) (fun hHeld => ?_);clear hK K;refine wpAnyH_done (by kernel_rfl) ?_ _;(try clear hHeld);clear KY;exact zIh
  obtain rfl:j=x.ah.length:=by omega
  replace R:=R.out;rw [List.take_of_length_le (by omega)] at R;go_wp2_with fail;go_end0
  exact ⟨rfl,R,KG⟩
theorem aJN {ts:List ay} (v:Val) (t:Nat) (x:ay) (hx:ts[t]?=some x) (hk:x.kind=6) (i u:Nat) (m:Mem) (y:Val) (lY:dN x v.id=some i) (hm:x.ah[i]?=some m) (hy:v.items[0]?=some y) (hu:v.id=(u:Int)) (hu2:u≤1000)
  (aox:gI ts v (t:Nat)=pJ 9 u ++ gI ts y m.ty) (ih:aw8 ts y m.ty):aw8 ts v (t:Nat):=by
 have HIH:=hiQ ih;have hil:i < x.ah.length:=(List.getElem?_eq_some_iff.1 hm).1;have hyl:0 < v.items.length:=(List.getElem?_eq_some_iff.1 hy).1;have HM:=hiQ hm;have HY:=hiQ hy;rw [hu] at lY;have h0:xg (dN x (u:Int)) = .tuple #[.int .i64 (i:Nat),.bool true]:=by rw [lY];rfl
 have hpl:=bg u;have Eh:=hiQ (fun (vs vm:Value) (W:World) h => Qn x vs vm (u:Int) W h);simp only [h0,dA,hk] at Eh;have HU:=hiQ hu;clear ih hm hy lY h0 hu;intro w gw b o c q vk vi vr ht hva hq hw;rw [aox] at hq ⊢;obtain ⟨D1,d1,D2,d2,D3,d3,rfl,rfl,rfl,-,-,-⟩:=hva.forms;have htl:t < ts.length:=(List.getElem?_eq_some_iff.1 hx).1;have hxt:ts[t]=x:=(List.getElem?_eq_some_iff.1 hx).2;obtain ⟨b',o',e,hbg,hel⟩:=ht.elem (by omega);injection e with e;injection e with e1 e2 _;subst e1 e2;obtain ⟨vs,vm,hcell,hxa⟩:=hel t htl;rw [hxt] at hcell hxa;obtain ⟨C1,l1,C2,l2,rfl,rfl,-,-⟩:=hxa.forms;have HT:=hiQ ht;have HV:=hiQ hva;have Wj:=hiQ hxa;have HX:=hiQ hx;have alv:=hw.here;have R:=hw;have KG:=fK.refl gw w;have hd0:decide ((t:Int) < 0)=false:=by simp
 have hd1:decide (ts.length≤t)=false:=by simpa using htl
 have aoo:(t:Int) < ts.length:=by omega
 clear hw ht hva hxa hel hxt hx aox;replace R:=hiQ R;have XC:=hiQ (ajT hcell (by omega));clear hcell;go_enter Tryz.func48,Tryz.ntmps48
 go_upto_region 1 with fail;refine jg (fun wd2 hb1 S V => ?_);replace XC:=b1 XC hb1;replace R:=wB R hb1;replace KG:=oq KG hb1 (by have:=KG.size;omega);clear hb1;have aH:=S.out.e0;obtain ⟨x0,x1,x2,x3,x4,x5,x6,x7,x8,x9⟩:=XC.out.now;rw [hk] at x0;go_upto_region 2 with fail;clear aH;refine aO (fun wd4 hb3 X => ?_);have Ox:=S.out.here;have nI:=V.out.here;have mO:=XC.out.le;have kH:=KG.size;obtain ⟨S,V,XC⟩:=b3 S V XC hb3;replace R:=wB R hb3;replace KG:=oq KG hb3 (by have:=KG.size;omega);clear hb3;generalize wd2.heap.size=g5 at *;obtain ⟨gX,rfl⟩ : ∃ g,g=g5:=⟨_,rfl⟩
 clear x0 x1 x2 x3 x4 x5 x6 x7 x8 x9 XC;have aK:=X.out.e0;have bG:=V.out.e4;rw [HU.out] at bG;go_wp2_with fail;clear aK bG;refine an3 (fun dw aY G => ?_);have alh:=S.out.here;have akV:=V.out.here;have qA:=X.out.here;have alj:=KG.size;obtain ⟨S,V,X⟩:=b3 S V X aY;replace R:=wB R aY;replace KG:=oq KG aY (by have:=KG.size;omega);clear aY;generalize wd4.heap.size=g12 at *;simp only [List.length_append] at hq;((with_reducible refine (af4 q u (by omega) (by omega) gw g12 1 (by omega) _ R.out G.out).mono ?_);rintro e ji ⟨rfl,adA,kS⟩);replace S:=wH S kS (by omega) (by decide);replace V:=wH V kS (by omega) (by decide);replace X:=wH X kS (by omega) (by decide);replace G:=wH G kS (by omega) (by decide);replace R:=hiQ adA;replace KG:=KG.trans kS;clear adA kS G;obtain ⟨aK,bJ,bY,bZ,dL,eX,bU,dD,dM,dU⟩:=X.out.c10;have bG:=V.out.e4;rw [HU.out] at bG;go_wp2_with fail;clear aK bJ bY bZ dL eX bU dD dM dU bG;((with_reducible refine (Eh.out _ _ _ (Wj.out.keep (fun p hp => KG.low.cell hp) (Nat.le_trans (Nat.le_of_lt alv) KG.size))).mono ?_);rintro e yO ⟨rfl,gq⟩);obtain ⟨S,V,X⟩:=b3 S V X gq;replace R:=wB R gq;replace KG:=oq KG gq (by have:=KG.size;omega);clear gq;obtain ⟨b6,o6,hC2,hb6,hc6⟩:=Wj.out.ah.elem (by omega);obtain ⟨k1,k2,k3,hmc,-⟩:=hc6 i hil;obtain ⟨b7,oq7,hD2,hb7,Z4⟩:=HV.out.items.elem (by omega);obtain ⟨z1,z2,z3,GX,hyv⟩:=Z4 0 hyl;rw [(List.getElem?_eq_some_iff.1 HM.out).2] at hmc;rw [(List.getElem?_eq_some_iff.1 HY.out).2] at GX hyv;rw [Nat.zero_mul,Nat.add_zero] at GX;replace hmc:=(aD1 hmc KG.low hb6).2.2.1
 replace GX:=GX.below KG.low hb7;obtain ⟨Y1,y1,Y2,y2,Y3,y3,rfl,rfl,rfl,-,-,-⟩:=hyv.forms;have HYV:=hiQ hyv;have hgw1:=KG.size;have KM:=hiQ (aD3 hmc);have KY:=hiQ (aoN GX (by omega));have hi1:(i:Int) < x.ah.length:=by omega
 have hi2:(0:Int) < v.items.length:=by omega
 have hd2:decide ((i:Int) < 0)=false:=by simp
 have hd3:decide (x.ah.length≤i)=false:=by simpa using hil
 have hd4:decide (v.items.length≤0)=false:=decide_eq_false (by omega);have hd5:¬ v.items = []:=fun e => by rw [e] at hyl;simp at hyl
 clear hc6 Z4 GX hyv hmc;subst hC2 hD2;go_upto_region 29 with fail;have aH:=S.out.e0;have bU:=X.out.e6;have aP:=V.out.e6;refine wp_region_held_drew (S:=(fun w' => w'.cell? ⟨w.heap.size,0,none⟩=some (.slice (some ⟨b,o,none⟩) ts.length c)∧w'.cell? ⟨gX,6,none⟩=some (.slice (some ⟨b6,o6,none⟩) x.ah.length l2)∧w'.cell? ⟨w.heap.size+1,6,none⟩=some (.slice (some ⟨b7,oq7,none⟩) v.items.length d2)∧(w'.cell? ⟨b6,o6+i*13+2,none⟩=some (.int .i64 m.ty))∧(avu w' b7 oq7 y (.slice Y1 y.keys.length y1) (.slice Y2 y.items.length y2) (.slice Y3 y.rest.length y3)))) (by kernel_rfl) ⟨aH,bU,aP,(KM.out.now),(KY.out.now)⟩ (fun hHeld => ?_);clear aH bU aP;have ng:Below yO.heap.size yO (yO.drew):=(Below.refl _ _).drew;obtain ⟨S,V,X,KM,KY⟩:=b5 S V X KM KY ng;replace R:=wB R ng;replace KG:=oq KG ng (by have:=KG.size;omega);clear ng;generalize yO.drew=o9 at *;refine tk 0 ?_;refine tk 1 ?_;refine tk 2 ?_;refine tk 3 ?_;refine tk 4 ?_;refine tk 5 ?_;refine tk 6 ?_;refine tk 7 ?_;refine tk 8 ?_;refine tk 9 ?_;refine tk 10 ?_;refine tk 11 ?_;refine iE 12 fun K hK => ?_;go_simp;((with_reducible refine (HIH.out _ gw b o c (q ++ pJ 9 u) _ _ _ (HT.out.keep (fun p hp => KG.low.cell hp) (Nat.le_refl _)) (HYV.out.keep (fun p hp => KG.low.cell hp) (Nat.le_refl _)) (by simp only [List.length_append];omega) R.out).mono ?_);rintro e xP ⟨rfl,aJO,Kq⟩);replace S:=wH S Kq (by omega) (by decide);replace V:=wH V Kq (by omega) (by decide);replace X:=wH X Kq (by omega) (by decide);replace KM:=wN KM Kq (by omega);replace KY:=wN KY Kq (by omega)
 replace R:=hiQ aJO;replace KG:=KG.trans Kq;clear aJO Kq;(try clear hHeld);refine hK.out _ _ (⟨S.out.cell 0,⟨X.out.cell 6,⟨V.out.cell 6,⟨(KM.out.now),(KY.out.now)⟩⟩⟩⟩) (fun hHeld => ?_);clear hK K;refine wpAnyH_done (by kernel_rfl) ?_ _;(try clear hHeld);go_wp2_with fail;go_end0
 exact ⟨rfl,by rw [← List.append_assoc];exact R.out,KG⟩
theorem zBq {p:Prop} (h:p:=by
 clear R KG S V X hR0 hS0 hV0 hX0;obtain ⟨j,hjl,rfl,R,KG,S,V,X⟩:=hrel;replace R:=hiQ R;replace S:=hiQ S;replace V:=hiQ V;replace X:=hiQ X;by_cases hlt2:j < v.items.length
 ·
  obtain ⟨b7,oq7,hD2,hb7,Z4⟩:=HV.out.items.elem (by omega);obtain ⟨z1,z2,z3,GX,hyv⟩:=Z4 j hlt2;have hy:=List.getElem?_eq_getElem hlt2;have TK:=HLJ.out j _ hy;have Ic:=HIH.out j _ hy;have V5:j < L.length:=by omega
  rw [List.getElem?_eq_getElem V5] at TK;have hle:=ay4 L j V5;have hnx:=aAM L j V5;rw [Option.some.inj TK] at hle hnx;replace GX:=GX.below KG.low hb7;generalize v.items[j]=y at *;obtain ⟨Y1,y1,Y2,y2,Y3,y3,rfl,rfl,rfl,-,-,-⟩:=hyv.forms;have HYV:=hiQ hyv;have OM:=hiQ Ic;have Y4:=hiQ hnx;have hgw1:=KG.size;have hi2:(j:Int) < v.items.length:=by omega
  have hd2:decide ((j:Int) < 0)=false:=by simp
  have hd4:decide (v.items.length≤j)=false:=by simpa using hlt2
  obtain ⟨a0,a1,a2,a3,a4,a5,a6,a7⟩:=GX;clear Z4 hy TK Ic hyv hnx;subst hD2;go_upto_region 7 with fail;clear a0 a1 a2 a3 a4 a5 a6 a7;refine aO (fun jU iO Y => ?_);have Es:=S.out.here;have sJ:=V.out.here;have uP:=X.out.here;have sN:=KG.size;obtain ⟨S,V,X⟩:=b3 S V X iO;replace R:=wB R iO;replace KG:=oq KG iO (by have:=KG.size;omega);clear iO;generalize wr.heap.size=g22 at *;have aK:=X.out.e0;have dM:=X.out.e8;have aH:=S.out.e0;obtain ⟨kT,kU,kV,kW,kX,mD,lJ,mF⟩:=Y.out.c8;go_wp2_with fail;clear aK dM aH kT kU kV kW kX mD lJ mF;((with_reducible refine (OM.out _ gw b o c (q1 ++ (L.take j).flatten) _ _ _ (HT.out.keep (fun p hp => KG.low.cell hp) (Nat.le_refl _)) (HYV.out.keep (fun p hp => KG.low.cell hp) (Nat.le_refl _)) (by simp only [List.length_append];omega) R.out).mono ?_);rintro e Bd ⟨rfl,alO,aye⟩);replace S:=wH S aye (by omega) (by decide);replace V:=wH V aye (by omega) (by decide);replace X:=wH X aye (by omega) (by decide);replace Y:=wH Y aye (by omega) (by decide);replace R:=hiQ alO;replace KG:=KG.trans aye;clear alO aye Y;exact zIh
 skip
 obtain rfl:j=v.items.length:=by omega
 replace R:=R.out;rw [List.take_of_length_le (by omega),HQ1.out,List.append_assoc] at R;go_wp2_with fail;go_end0
 exact ⟨rfl,R,KG⟩):p:=h
theorem aIz {ts:List ay} (v:Val) (t:Nat) (x:ay) (hx:ts[t]?=some x) (hk:x.kind=7) (hln:v.items.length≤1000) (L:List (List UInt8)) (hLl:L.length=v.items.length) (aox:gI ts v (t:Nat)=pJ 9 v.items.length ++ L.flatten)
  (hLj:∀ (j:Nat) (y:Val),v.items[j]?=some y→L[j]?=some (gI ts y x.elem)) (ih:∀ (j:Nat) (y:Val),v.items[j]?=some y→aw8 ts y x.elem):aw8 ts v (t:Nat):=by
 have HLJ:=hiQ hLj;have HIH:=hiQ ih;have hpl:=bg v.items.length;clear hLj ih;intro w gw b o c q vk vi vr ht hva hq hw;rw [aox] at hq ⊢;obtain ⟨D1,d1,D2,d2,D3,d3,rfl,rfl,rfl,-,-,-⟩:=hva.forms;have htl:t < ts.length:=(List.getElem?_eq_some_iff.1 hx).1;have hxt:ts[t]=x:=(List.getElem?_eq_some_iff.1 hx).2;obtain ⟨b',o',e,hbg,hel⟩:=ht.elem (by omega);injection e with e;injection e with e1 e2 _;subst e1 e2;obtain ⟨vs,vm,hcell,hxa⟩:=hel t htl;rw [hxt] at hcell hxa;obtain ⟨C1,l1,C2,l2,rfl,rfl,-,-⟩:=hxa.forms;have HT:=hiQ ht;have HV:=hiQ hva;have Wj:=hiQ hxa;have HX:=hiQ hx;have alv:=hw.here;have R:=hw;have KG:=fK.refl gw w;have hd0:decide ((t:Int) < 0)=false:=by simp
 have hd1:decide (ts.length≤t)=false:=by simpa using htl
 have aoo:(t:Int) < ts.length:=by omega
 clear hw ht hva hxa hel hxt hx aox;replace R:=hiQ R;have XC:=hiQ (ajT hcell (by omega));clear hcell;go_enter Tryz.func48,Tryz.ntmps48
 go_upto_region 1 with fail;refine jg (fun wd2 hb1 S V => ?_);replace XC:=b1 XC hb1;replace R:=wB R hb1;replace KG:=oq KG hb1 (by have:=KG.size;omega);clear hb1;have aH:=S.out.e0;obtain ⟨x0,x1,x2,x3,x4,x5,x6,x7,x8,x9⟩:=XC.out.now;rw [hk] at x0;go_upto_region 2 with fail;clear aH;refine aO (fun wd4 hb3 X => ?_);have Ox:=S.out.here;have nI:=V.out.here;have mO:=XC.out.le;have kH:=KG.size;obtain ⟨S,V,XC⟩:=b3 S V XC hb3;replace R:=wB R hb3;replace KG:=oq KG hb3 (by have:=KG.size;omega);clear hb3;generalize wd2.heap.size=g5 at *;obtain ⟨gX,rfl⟩ : ∃ g,g=g5:=⟨_,rfl⟩
 clear x0 x1 x2 x3 x4 x5 x6 x7 x8 x9 XC;have aK:=X.out.e0;have aP:=V.out.e6;go_wp2_with fail;clear aK aP;refine an3 (fun dw aY G => ?_);have alh:=S.out.here;have akV:=V.out.here;have qA:=X.out.here;have alj:=KG.size;obtain ⟨S,V,X⟩:=b3 S V X aY;replace R:=wB R aY;replace KG:=oq KG aY (by have:=KG.size;omega);clear aY;generalize wd4.heap.size=g12 at *;simp only [List.length_append] at hq;((with_reducible refine (af4 q v.items.length (by omega) (by omega) gw g12 1 (by omega) _ R.out G.out).mono ?_);rintro e ji ⟨rfl,adA,kS⟩);replace S:=wH S kS (by omega) (by decide);replace V:=wH V kS (by omega) (by decide);replace X:=wH X kS (by omega) (by decide);replace G:=wH G kS (by omega) (by decide);replace R:=hiQ adA;replace KG:=KG.trans kS;clear adA kS G;obtain ⟨q1,hq1⟩ : ∃ q1,q1=q ++ pJ 9 v.items.length:=⟨_,rfl⟩
 have hq2:q1.length+L.flatten.length≤10000000000000:=by rw [hq1,List.length_append];omega
 rw [← hq1] at R;have HQ1:=hiQ hq1;clear hq1 hq;have hR0:=R.out;have hS0:=S.out;have hV0:=V.out;have hX0:=X.out;have aP:=V.out.e6;go_upto_region 5 with fail;clear aP;go_loopw [31] (fun s31 wr => ∃ j:Nat,j≤v.items.length∧s31 = .int .i64 j∧Am wr gw (q1 ++ (L.take j).flatten)∧fK gw w wr∧Has wr w.heap.size 25 #[.slice (some ⟨b,o,none⟩) ts.length c]∧Has wr (w.heap.size+1) 81 #[.int .i64 v.kind,.bool v.bool,.int .i64 v.num,.string ⟨v.str.toArray⟩,.int .i64 v.id,.slice D1 v.keys.length d1,.slice D2 v.items.length d2,.slice D3 v.rest.length d3]∧Has wr gX 71 #[.int .i64 7,.string ⟨x.name.toArray⟩,.int .i64 x.low,.int .i64 x.high,.int .i64 x.max,.slice C1 x.syms.length l1,.slice C2 x.ah.length l2,.int .i64 x.key,.int .i64 x.elem,.bool x.opn]) (fun s31 _ => v.items.length - (intOf s31).toNat)
 case atStart => exact ⟨0,Nat.zero_le _,rfl,by simpa using hR0,KG,hS0,hV0,hX0⟩
 case round =>
  exact zBq
theorem aIA {ts:List ay} (v:Val) (t:Nat) (x:ay) (hx:ts[t]?=some x) (hk:x.kind=9) (hln:v.items.length≤1000) (L:List (List UInt8)) (hLl:L.length=v.items.length) (aox:gI ts v (t:Nat)=pJ 9 v.items.length ++ L.flatten)
  (hLj:∀ (j:Nat) (y:Val),v.items[j]?=some y→L[j]?=some (gI ts y x.elem)) (ih:∀ (j:Nat) (y:Val),v.items[j]?=some y→aw8 ts y x.elem):aw8 ts v (t:Nat):=by
 have HLJ:=hiQ hLj;have HIH:=hiQ ih;have hpl:=bg v.items.length;clear hLj ih;intro w gw b o c q vk vi vr ht hva hq hw;rw [aox] at hq ⊢;obtain ⟨D1,d1,D2,d2,D3,d3,rfl,rfl,rfl,-,-,-⟩:=hva.forms;have htl:t < ts.length:=(List.getElem?_eq_some_iff.1 hx).1;have hxt:ts[t]=x:=(List.getElem?_eq_some_iff.1 hx).2;obtain ⟨b',o',e,hbg,hel⟩:=ht.elem (by omega);injection e with e;injection e with e1 e2 _;subst e1 e2;obtain ⟨vs,vm,hcell,hxa⟩:=hel t htl;rw [hxt] at hcell hxa;obtain ⟨C1,l1,C2,l2,rfl,rfl,-,-⟩:=hxa.forms;have HT:=hiQ ht;have HV:=hiQ hva;have Wj:=hiQ hxa;have HX:=hiQ hx;have alv:=hw.here;have R:=hw;have KG:=fK.refl gw w;have hd0:decide ((t:Int) < 0)=false:=by simp
 have hd1:decide (ts.length≤t)=false:=by simpa using htl
 have aoo:(t:Int) < ts.length:=by omega
 clear hw ht hva hxa hel hxt hx aox;replace R:=hiQ R;have XC:=hiQ (ajT hcell (by omega));clear hcell;go_enter Tryz.func48,Tryz.ntmps48
 go_upto_region 1 with fail;refine jg (fun wd2 hb1 S V => ?_);replace XC:=b1 XC hb1;replace R:=wB R hb1;replace KG:=oq KG hb1 (by have:=KG.size;omega);clear hb1;have aH:=S.out.e0;obtain ⟨x0,x1,x2,x3,x4,x5,x6,x7,x8,x9⟩:=XC.out.now;rw [hk] at x0;go_upto_region 2 with fail;clear aH;refine aO (fun wd4 hb3 X => ?_);have Ox:=S.out.here;have nI:=V.out.here;have mO:=XC.out.le;have kH:=KG.size;obtain ⟨S,V,XC⟩:=b3 S V XC hb3;replace R:=wB R hb3;replace KG:=oq KG hb3 (by have:=KG.size;omega);clear hb3;generalize wd2.heap.size=g5 at *;obtain ⟨gX,rfl⟩ : ∃ g,g=g5:=⟨_,rfl⟩
 clear x0 x1 x2 x3 x4 x5 x6 x7 x8 x9 XC;have aK:=X.out.e0;have aP:=V.out.e6;go_wp2_with fail;clear aK aP;refine an3 (fun dw aY G => ?_);have alh:=S.out.here;have akV:=V.out.here;have qA:=X.out.here;have alj:=KG.size;obtain ⟨S,V,X⟩:=b3 S V X aY;replace R:=wB R aY;replace KG:=oq KG aY (by have:=KG.size;omega);clear aY;generalize wd4.heap.size=g12 at *;simp only [List.length_append] at hq;((with_reducible refine (af4 q v.items.length (by omega) (by omega) gw g12 1 (by omega) _ R.out G.out).mono ?_);rintro e ji ⟨rfl,adA,kS⟩);replace S:=wH S kS (by omega) (by decide);replace V:=wH V kS (by omega) (by decide);replace X:=wH X kS (by omega) (by decide);replace G:=wH G kS (by omega) (by decide);replace R:=hiQ adA;replace KG:=KG.trans kS;clear adA kS G;obtain ⟨q1,hq1⟩ : ∃ q1,q1=q ++ pJ 9 v.items.length:=⟨_,rfl⟩
 have hq2:q1.length+L.flatten.length≤10000000000000:=by rw [hq1,List.length_append];omega
 rw [← hq1] at R;have HQ1:=hiQ hq1;clear hq1 hq;have hR0:=R.out;have hS0:=S.out;have hV0:=V.out;have hX0:=X.out;have aP:=V.out.e6;go_upto_region 5 with fail;clear aP;go_loopw [31] (fun s31 wr => ∃ j:Nat,j≤v.items.length∧s31 = .int .i64 j∧Am wr gw (q1 ++ (L.take j).flatten)∧fK gw w wr∧Has wr w.heap.size 25 #[.slice (some ⟨b,o,none⟩) ts.length c]∧Has wr (w.heap.size+1) 81 #[.int .i64 v.kind,.bool v.bool,.int .i64 v.num,.string ⟨v.str.toArray⟩,.int .i64 v.id,.slice D1 v.keys.length d1,.slice D2 v.items.length d2,.slice D3 v.rest.length d3]∧Has wr gX 71 #[.int .i64 9,.string ⟨x.name.toArray⟩,.int .i64 x.low,.int .i64 x.high,.int .i64 x.max,.slice C1 x.syms.length l1,.slice C2 x.ah.length l2,.int .i64 x.key,.int .i64 x.elem,.bool x.opn]) (fun s31 _ => v.items.length - (intOf s31).toNat)
 case atStart => exact ⟨0,Nat.zero_le _,rfl,by simpa using hR0,KG,hS0,hV0,hX0⟩
 case round =>
  exact zBq
theorem aJP {ts:List ay} (v:Val) (t:Nat) (x:ay) (hx:ts[t]?=some x) (hk:x.kind=8) (hln:v.items.length≤1000) (hkn:v.keys.length=v.items.length) (L:List (List UInt8)) (hLl:L.length=v.items.length) (aox:gI ts v (t:Nat)=pJ 9 v.items.length ++ L.flatten)
  (hLj:∀ (j:Nat) (z y:Val),v.keys[j]?=some z→v.items[j]?=some y→L[j]?=some (gI ts z x.key ++ gI ts y x.elem)) (ih:∀ (j:Nat) (z y:Val),v.keys[j]?=some z→v.items[j]?=some y→aw8 ts z x.key∧aw8 ts y x.elem):aw8 ts v (t:Nat):=by
 have HKN:=hiQ hkn;clear hkn;have HLJ:=hiQ hLj;have HIH:=hiQ ih;have hpl:=bg v.items.length;clear hLj ih;intro w gw b o c q vk vi vr ht hva hq hw;rw [aox] at hq ⊢;obtain ⟨D1,d1,D2,d2,D3,d3,rfl,rfl,rfl,-,-,-⟩:=hva.forms;have htl:t < ts.length:=(List.getElem?_eq_some_iff.1 hx).1;have hxt:ts[t]=x:=(List.getElem?_eq_some_iff.1 hx).2;obtain ⟨b',o',e,hbg,hel⟩:=ht.elem (by omega);injection e with e;injection e with e1 e2 _;subst e1 e2;obtain ⟨vs,vm,hcell,hxa⟩:=hel t htl;rw [hxt] at hcell hxa;obtain ⟨C1,l1,C2,l2,rfl,rfl,-,-⟩:=hxa.forms;have HT:=hiQ ht;have HV:=hiQ hva;have Wj:=hiQ hxa;have HX:=hiQ hx;have alv:=hw.here;have R:=hw;have KG:=fK.refl gw w;have hd0:decide ((t:Int) < 0)=false:=by simp
 have hd1:decide (ts.length≤t)=false:=by simpa using htl
 have aoo:(t:Int) < ts.length:=by omega
 clear hw ht hva hxa hel hxt hx aox;replace R:=hiQ R;have XC:=hiQ (ajT hcell (by omega));clear hcell;go_enter Tryz.func48,Tryz.ntmps48
 go_upto_region 1 with fail;refine jg (fun wd2 hb1 S V => ?_);replace XC:=b1 XC hb1;replace R:=wB R hb1;replace KG:=oq KG hb1 (by have:=KG.size;omega);clear hb1;have aH:=S.out.e0;obtain ⟨x0,x1,x2,x3,x4,x5,x6,x7,x8,x9⟩:=XC.out.now;rw [hk] at x0;go_upto_region 2 with fail;clear aH;refine aO (fun wd4 hb3 X => ?_);have Ox:=S.out.here;have nI:=V.out.here;have mO:=XC.out.le;have kH:=KG.size;obtain ⟨S,V,XC⟩:=b3 S V XC hb3;replace R:=wB R hb3;replace KG:=oq KG hb3 (by have:=KG.size;omega);clear hb3;generalize wd2.heap.size=g5 at *;obtain ⟨gX,rfl⟩ : ∃ g,g=g5:=⟨_,rfl⟩
 clear x0 x1 x2 x3 x4 x5 x6 x7 x8 x9 XC;have aK:=X.out.e0;have aP:=V.out.e6;go_wp2_with fail;clear aK aP;refine an3 (fun dw aY G => ?_);have alh:=S.out.here;have akV:=V.out.here;have qA:=X.out.here;have alj:=KG.size;obtain ⟨S,V,X⟩:=b3 S V X aY;replace R:=wB R aY;replace KG:=oq KG aY (by have:=KG.size;omega);clear aY;generalize wd4.heap.size=g12 at *;simp only [List.length_append] at hq;((with_reducible refine (af4 q v.items.length (by omega) (by omega) gw g12 1 (by omega) _ R.out G.out).mono ?_);rintro e ji ⟨rfl,adA,kS⟩);replace S:=wH S kS (by omega) (by decide);replace V:=wH V kS (by omega) (by decide);replace X:=wH X kS (by omega) (by decide);replace G:=wH G kS (by omega) (by decide);replace R:=hiQ adA;replace KG:=KG.trans kS;clear adA kS G;obtain ⟨q1,hq1⟩ : ∃ q1,q1=q ++ pJ 9 v.items.length:=⟨_,rfl⟩
 have hq2:q1.length+L.flatten.length≤10000000000000:=by rw [hq1,List.length_append];omega
 rw [← hq1] at R;have HQ1:=hiQ hq1;clear hq1 hq;have hR0:=R.out;have hS0:=S.out;have hV0:=V.out;have hX0:=X.out;have aP:=V.out.e6;go_upto_region 5 with fail;clear aP;go_loopw [31] (fun s31 wr => ∃ j:Nat,j≤v.items.length∧s31 = .int .i64 j∧Am wr gw (q1 ++ (L.take j).flatten)∧fK gw w wr∧Has wr w.heap.size 25 #[.slice (some ⟨b,o,none⟩) ts.length c]∧Has wr (w.heap.size+1) 81 #[.int .i64 v.kind,.bool v.bool,.int .i64 v.num,.string ⟨v.str.toArray⟩,.int .i64 v.id,.slice D1 v.keys.length d1,.slice D2 v.items.length d2,.slice D3 v.rest.length d3]∧Has wr gX 71 #[.int .i64 8,.string ⟨x.name.toArray⟩,.int .i64 x.low,.int .i64 x.high,.int .i64 x.max,.slice C1 x.syms.length l1,.slice C2 x.ah.length l2,.int .i64 x.key,.int .i64 x.elem,.bool x.opn]) (fun s31 _ => v.items.length - (intOf s31).toNat)
 case atStart => exact ⟨0,Nat.zero_le _,rfl,by simpa using hR0,KG,hS0,hV0,hX0⟩
 case round =>
  clear R KG S V X hR0 hS0 hV0 hX0;obtain ⟨j,hjl,rfl,R,KG,S,V,X⟩:=hrel;replace R:=hiQ R;replace S:=hiQ S;replace V:=hiQ V;replace X:=hiQ X;by_cases hlt2:j < v.items.length
  ·
   have hlt1:j < v.keys.length:=by have:=HKN.out;omega
   obtain ⟨b7,oq7,hD2,hb7,Z4⟩:=HV.out.items.elem (by omega);obtain ⟨z1,z2,z3,GX,hyv⟩:=Z4 j hlt2;obtain ⟨b8,oq8,hD1,hb8,hc8⟩:=HV.out.keys.elem (by omega);obtain ⟨z4,z5,z6,hzc,hzv⟩:=hc8 j hlt1;have hy:=List.getElem?_eq_getElem hlt2;have hz:=List.getElem?_eq_getElem hlt1;have TK:=HLJ.out j _ _ hz hy;have Ic:=HIH.out j _ _ hz hy;have V5:j < L.length:=by omega
   rw [List.getElem?_eq_getElem V5] at TK;have hle:=ay4 L j V5;have hnx:=aAM L j V5;rw [Option.some.inj TK] at hle hnx;replace GX:=GX.below KG.low hb7;replace hzc:=hzc.below KG.low hb8;generalize v.items[j]=y at *;generalize v.keys[j]=z at *;rw [List.length_append] at hle;obtain ⟨Y1,y1,Y2,y2,Y3,y3,rfl,rfl,rfl,-,-,-⟩:=hyv.forms;obtain ⟨Z1,n1,Z2,n2,Z3,n3,rfl,rfl,rfl,-,-,-⟩:=hzv.forms;have HYV:=hiQ hyv;have HZV:=hiQ hzv;have OM:=hiQ Ic;have Y4:=hiQ hnx;have hgw1:=KG.size;have KZq:=hiQ (aoN hzc (by omega));have hi2:(j:Int) < v.items.length:=by omega
   have hi3:(j:Int) < v.keys.length:=by omega
   have hd2:decide ((j:Int) < 0)=false:=by simp
   have hd4:decide (v.items.length≤j)=false:=by simpa using hlt2
   have hd5:decide (v.keys.length≤j)=false:=by simpa using hlt1
   obtain ⟨a0,a1,a2,a3,a4,a5,a6,a7⟩:=GX;clear Z4 hc8 hy hz TK Ic hyv hzv hnx hzc;subst hD2 hD1;go_upto_region 7 with fail;clear a0 a1 a2 a3 a4 a5 a6 a7;refine aO (fun jU iO Y => ?_);have Es:=S.out.here;have sJ:=V.out.here;have uP:=X.out.here;have sN:=KZq.out.le;have uQ:=KG.size;obtain ⟨S,V,X,KZq⟩:=b4 S V X KZq iO;replace R:=wB R iO;replace KG:=oq KG iO (by have:=KG.size;omega);clear iO;generalize wr.heap.size=g22 at *;have aK:=X.out.e0;go_upto_region 8 with fail;clear aK;have aH:=S.out.e0;have dD:=X.out.e7;have aQ:=V.out.e5;refine wp_region_held_drew (S:=(fun w' => w'.cell? ⟨w.heap.size,0,none⟩=some (.slice (some ⟨b,o,none⟩) ts.length c)∧w'.cell? ⟨gX,7,none⟩=some (.int .i64 x.key)∧w'.cell? ⟨w.heap.size+1,5,none⟩=some (.slice (some ⟨b8,oq8,none⟩) v.keys.length d1)∧(avu w' b8 (oq8+j*8) z (.slice Z1 z.keys.length n1) (.slice Z2 z.items.length n2) (.slice Z3 z.rest.length n3)))) (by kernel_rfl) ⟨aH,dD,aQ,(KZq.out.now)⟩ (fun hHeld => ?_);clear aH dD aQ;have Kr:Below jU.heap.size jU (jU.drew):=(Below.refl _ _).drew;obtain ⟨S,V,X,Y,KZq⟩:=b5 S V X Y KZq Kr;replace R:=wB R Kr;replace KG:=oq KG Kr (by have:=KG.size;omega);clear Kr;generalize jU.drew=BR at *;refine tk 0 ?_;refine tk 1 ?_;refine tk 2 ?_;refine tk 3 ?_;refine tk 4 ?_;refine tk 5 ?_;refine tk 6 ?_;refine tk 7 ?_;refine tk 8 ?_;refine iE 9 fun K hK => ?_;go_simp;((with_reducible refine (OM.out.1 _ gw b o c (q1 ++ (L.take j).flatten) _ _ _ (HT.out.keep (fun p hp => KG.low.cell hp) (Nat.le_refl _)) (HZV.out.keep (fun p hp => KG.low.cell hp) (Nat.le_refl _)) (by simp only [List.length_append];omega) R.out).mono ?_);rintro e ank ⟨rfl,aJS,aEo⟩)
   replace S:=wH S aEo (by omega) (by decide);replace V:=wH V aEo (by omega) (by decide);replace X:=wH X aEo (by omega) (by decide);replace Y:=wH Y aEo (by omega) (by decide);replace KZq:=wN KZq aEo (by omega);replace R:=hiQ aJS;replace KG:=KG.trans aEo;clear aJS aEo;(try clear hHeld);refine hK.out _ _ (⟨S.out.cell 0,⟨X.out.cell 7,⟨V.out.cell 5,(KZq.out.now)⟩⟩⟩) (fun hHeld => ?_);clear hK K;refine wpAnyH_done (by kernel_rfl) ?_ _;(try clear hHeld);clear KZq;have dM:=X.out.e8;have aH:=S.out.e0;obtain ⟨kT,kU,kV,kW,kX,mD,lJ,mF⟩:=Y.out.c8;go_wp2_with fail;clear dM aH kT kU kV kW kX mD lJ mF;((with_reducible refine (OM.out.2 _ gw b o c (q1 ++ (L.take j).flatten ++ gI ts z x.key) _ _ _ (HT.out.keep (fun p hp => KG.low.cell hp) (Nat.le_refl _)) (HYV.out.keep (fun p hp => KG.low.cell hp) (Nat.le_refl _)) (by simp only [List.length_append];omega) R.out).mono ?_);rintro e wR ⟨rfl,aCo,avy⟩);replace S:=wH S avy (by omega) (by decide);replace V:=wH V avy (by omega) (by decide);replace X:=wH X avy (by omega) (by decide);replace Y:=wH Y avy (by omega) (by decide);replace R:=hiQ aCo;replace KG:=KG.trans avy;clear aCo avy Y;go_wp2_with fail;go_roundw
   case rel => exact ⟨j+1,by omega,by go_num,by rw [Y4.out,← List.append_assoc,← List.append_assoc];exact R.out,KG,S.out,V.out,X.out⟩
   case measure => simp [intOf];omega
  skip
  obtain rfl:j=v.items.length:=by omega
  replace R:=R.out;rw [List.take_of_length_le (by omega),HQ1.out,List.append_assoc] at R;go_wp2_with fail;go_end0
  exact ⟨rfl,R,KG⟩
theorem aEp {ts:List ay} {pl:Bool} : ∀ (is:List Val) (ms:List Mem),qL ts pl is ms=true→∀ (j:Nat) (y:Val) (m:Mem),is[j]?=some y→ms[j]?=some m→cO ts pl y m.ty=true
 | [],_,_ => fun j y m h => by simp at h
 | _ :: _,[],_ => fun j y m _ h => by simp at h
 | y :: r,m :: ms,h => by
  rw [qL,Bool.and_eq_true] at h;obtain ⟨h1,h2⟩:=h;intro j a b ha hb;cases j with
  | zero =>
   rw [List.getElem?_cons_zero] at ha hb;obtain rfl:=Option.some.inj ha;obtain rfl:=Option.some.inj hb;exact h1
  | succ j =>
   rw [List.getElem?_cons_succ] at ha hb;exact aEp r ms h2 j a b ha hb
theorem aHV {ts:List ay} (hv:fF ts=0) (hI:akg ts):∀ (N:Nat) (v:Val) (t:Int),nodes v≤N→cO ts true v t=true→aw8 ts v t:=by
 intro N
 induction N with
 | zero => intro v t hn;have:=zJ v;omega
 | succ N ih =>
  intro v t hn hf;cases hx:bM ts t with
  | none => rw [kG,hx] at hf;cases hf
  | some x =>
   obtain ⟨ht0,htl,hxt⟩:=atl hx;obtain ⟨u,rfl⟩ : ∃ u:Nat,t=(u:Int):=⟨t.toNat,by omega⟩
   rw [Int.toNat_natCast] at htl hxt;have hxm:=aoa hx;have hform:=((ni hv).2 x hxm).1;obtain ⟨h1,h2,h3⟩:=pI hx hf;have hkr:=Us hform;have hmx:=asx hv hxm;obtain ⟨hnk,hni⟩:=auH hn;by_cases hb:atV v
   ·
    intro w gw b o c q vk vi vr ht hva hq hw;obtain ⟨D1,d1,D2,d2,D3,d3,rfl,rfl,rfl,-,-,-⟩:=hva.forms;obtain ⟨b',o',e,hbg,hel⟩:=ht.elem (by omega);injection e with e;injection e with e1 e2 _;subst e1 e2;obtain ⟨vs,vm,hcell,hxa⟩:=hel u htl;rw [(List.getElem?_eq_some_iff.1 hxt).2] at hcell hxa;obtain ⟨C1,l1,C2,l2,rfl,rfl,-,-⟩:=hxa.forms;exact awC (m:={ id:=0,name:=[],ty:=(u:Int),akb:=false,eG:=false,dflt:=v }) hv hI hbg hx hf hb ⟨_,_,hcell,⟨C1,_,l1,rfl⟩,C2,_,l2,rfl⟩ ⟨D1,d1,rfl⟩ ⟨D2,d2,rfl⟩ ⟨D3,d3,rfl⟩ w q (Below.refl _ _) hq hw
   have hfe:=aqO ts v (u:Nat) x hx;unfold aA at h2;rw [h1] at h2;unfold jT ig at h3;unfold atT at hfe;have hcs:x.kind=1∨x.kind=2∨x.kind=3∨x.kind=4∨x.kind=5∨x.kind=6∨x.kind=7∨x.kind=8∨x.kind=9:=by omega
   rcases hcs with hk | hk | hk | hk | hk | hk | hk | hk | hk
   ·
    simp [hk] at h2;exact absurd ⟨h2.2.2.2.1,h2.2.2.2.2.1,h2.2.2.2.2.2,by omega⟩ hb
   ·
    simp [hk] at h2;exact absurd ⟨h2.2.2.2.1,h2.2.2.2.2.1,h2.2.2.2.2.2,by omega⟩ hb
   ·
    simp [hk] at h2;exact absurd ⟨h2.2.2.2.1,h2.2.2.2.2.1,h2.2.2.2.2.2,by omega⟩ hb
   ·
    simp [hk] at h2;exact absurd ⟨h2.2.2.2.1,h2.2.2.2.2.1,h2.2.2.2.2.2,by omega⟩ hb
   ·
    rw [if_neg (by omega),if_neg (by omega),if_neg (by omega),if_pos hk] at h3;rw [if_neg (by omega),if_neg (by omega),if_neg (by omega),if_neg (by omega),if_pos hk] at hfe;simp only [Bool.and_eq_true,decide_eq_true_eq] at h3;obtain ⟨l1,_,_,z1⟩:=h3;have hme:=as2 hform (.inl hk);exact aJL v u x hxt hk l1 (by omega) hfe fun j y m hy hm => ih y m.ty (hni y (List.mem_of_getElem? hy)) (aEp _ _ z1 j y m hy hm)
   ·
    rw [if_neg (by omega),if_neg (by omega),if_neg (by omega),if_neg (by omega),if_pos hk] at h3;rw [if_neg (by omega),if_neg (by omega),if_neg (by omega),if_neg (by omega),if_neg (by omega),if_pos hk] at hfe;cases hm1:dN x v.id with
    | none => rw [hm1] at h3;simp at h3
    | some i =>
     rw [hm1] at h3 hfe;have i1:=axf hv hxm (.inr hk) hm1;simp only [Bool.and_eq_true,decide_eq_true_eq] at h3;obtain ⟨l1,q1,z1⟩:=h3;cases hm:x.ah[i]? with
     | none => rw [hm] at z1;cases z1
     | some m =>
      dsimp only at z1 hfe;rw [hm] at z1 hfe;dsimp only at z1 hfe;obtain ⟨y1,hy1⟩:=List.length_eq_one_iff.1 l1;rw [hy1,zM] at z1;rw [hy1,anV] at hfe;obtain ⟨n,hn2⟩ : ∃ n:Nat,v.id=(n:Int):=⟨v.id.toNat,by omega⟩
      have hn3:v.id.toNat=n:=by omega
      rw [hn3] at hfe;exact aJN v u x hxt hk i n m y1 hm1 hm (by rw [hy1];rfl) hn2 (by omega) hfe (ih y1 m.ty (hni y1 (by rw [hy1];simp)) z1)
   ·
    rw [if_neg (by omega),if_neg (by omega),if_neg (by omega),if_neg (by omega),if_neg (by omega),if_pos hk] at h3;rw [if_neg (by omega),if_neg (by omega),if_neg (by omega),if_neg (by omega),if_neg (by omega),if_neg (by omega),if_neg (by omega)] at hfe;simp only [Bool.and_eq_true,decide_eq_true_eq] at h3;have hm:=hmx.2 (.inl hk);exact aIz v u x hxt hk (by omega) (Y0 ts v.items x.elem) (by rw [aoE,List.length_map]) hfe (fun j y hy => by rw [aoE,List.getElem?_map,hy];rfl) fun j y hy => ih y x.elem (hni y (List.mem_of_getElem? hy)) (alo h3.2 y (List.mem_of_getElem? hy))
   ·
    rw [if_neg (by omega),if_neg (by omega),if_neg (by omega),if_neg (by omega),if_neg (by omega),if_neg (by omega),if_pos hk] at h3;rw [if_neg (by omega),if_neg (by omega),if_neg (by omega),if_neg (by omega),if_neg (by omega),if_neg (by omega),if_pos hk] at hfe;simp only [Bool.and_eq_true,decide_eq_true_eq] at h3;obtain ⟨m1,l1,k1,_,i1⟩:=h3;have hm:=hmx.2 (.inr hk);dsimp only at hfe;rw [aEh,aoE,aoE] at hfe;exact aJP v u x hxt hk (by omega) (by omega) _ (by rw [List.length_zipWith,List.length_map,List.length_map];omega) hfe (fun j z y hz hy => by rw [List.getElem?_zipWith,List.getElem?_map,List.getElem?_map,hz,hy];rfl) fun j z y hz hy => ⟨ih z x.key (hnk z (List.mem_of_getElem? hz)) (alo k1 z (List.mem_of_getElem? hz)),ih y x.elem (hni y (List.mem_of_getElem? hy)) (alo i1 y (List.mem_of_getElem? hy))⟩
   rw [if_neg (by omega),if_neg (by omega),if_neg (by omega),if_neg (by omega),if_neg (by omega),if_neg (by omega),if_neg (by omega),if_pos hk] at h3;rw [if_neg (by omega),if_neg (by omega),if_neg (by omega),if_neg (by omega),if_neg (by omega),if_neg (by omega),if_neg (by omega)] at hfe;simp only [Bool.and_eq_true,decide_eq_true_eq] at h3;exact aIA v u x hxt hk (by omega) (Y0 ts v.items x.elem) (by rw [aoE,List.length_map]) hfe (fun j y hy => by rw [aoE,List.getElem?_map,hy];rfl) fun j y hy => ih y x.elem (hni y (List.mem_of_getElem? hy)) (alo h3.2 y (List.mem_of_getElem? hy))
theorem aGi {us:List ay} (hv:fF us=0) (hI:akg us) (hD:acM us):awY us:=by
 intro W gw b o c hr x hx m hm hd vk vi vr hval W2 q hb hq hw;exact aHV hv hI (nodes m.dflt) m.dflt m.ty (Nat.le_refl _) (hD x hx m hm hd) W2 gw b o c q vk vi vr (hr.keep (fun p hp => hb.cell hp) (Nat.le_refl _)) (hval.keep (fun p hp => hb.cell hp) (Nat.le_refl _)) hq hw
end Go.Proofs.YtlamhkffnlgofaaGreatDoor

/- The walk of DecodeDefaults, given what Of of sheaveref08 computes. No condition. -/
import Derived.Test.YticejnbbonnniaaGreatDoorEncN
import Derived.Test.YticejnbbonnniaaGreatDoorPayS
import Derived.Test.YticejnbbonnniaaGreatDoorJAR
import Derived.Test.YticejnbbonnniaaGreatDoorShelf
set_option maxHeartbeats 3200000
set_option maxRecDepth 100000
namespace Go.Proofs.YticejnbbonnniaaGreatDoor
open Go.ChangeShapes Go.WideShapes Go.ChangeAt Go.RowKit
theorem Kept.NC {w:World} {L B:Nat} {v:Value} {xs:List ay} (h:Kept (fun w => aU w B v xs) w L B):aU w w.heap.size v xs:=h.now.keep (fun _ _ => rfl) h.le
theorem Kept.adF {w:World} {L B:Nat} {v:Val} {vk vi vr:Value} (h:Kept (fun w => ValAt w B v vk vi vr) w L B):ValAt w w.heap.size v vk vi vr:=h.now.keep (fun _ _ => rfl) h.le
theorem Kept.BU {w0 w:World} {v:Val} {vk vi vr:Value} {B:Nat} (h:jq w (Kz w0 w) v vk vi vr) (hB:B=w.heap.size):Kept (fun w => ValAt w B v vk vi vr) w 0 B:=by
 subst hB;have h2:ValAt w w.heap.size v vk vi vr:=h.at_ fun k hk => hk.2;exact Kept.rd (P:=fun w B => ValAt w B v vk vi vr) h2 (Nat.le_refl _) (fun _ hk => h2.keep hk (Nat.le_refl _))
theorem Zp {ts:List ay} {v:Val} {t:Int} (h:cO ts true v t=true):v.rest = []:=by
 cases hx:bM ts t with
 | none => rw [kG,hx] at h;cases h
 | some x =>
  obtain ⟨h1,h2,h3⟩:=pI hx h;rcases Nat.eq_zero_or_pos v.rest.length with h4 | h4
  · exact List.eq_nil_of_length_eq_zero h4
  rw [TJ ts x v h2 h1 h4] at h3;cases h3
theorem abt {w w':World} {b o:Nat} {x:Val} {vk vi vr:Value} (h:Cells8 w b o x vk vi vr) (hk:∀ o,w'.cell? ⟨b,o,none⟩=w.cell? ⟨b,o,none⟩):Cells8 w' b o x vk vi vr:=by
 obtain ⟨h0,h1,h2,h3,h4,h5,h6,h7⟩:=h;exact ⟨(hk _).trans h0,(hk _).trans h1,(hk _).trans h2,(hk _).trans h3,(hk _).trans h4,(hk _).trans h5,(hk _).trans h6,(hk _).trans h7⟩
theorem agR {ts:List ay} {t:Int} {v:Val} {m:List UInt8} (h:Je ts t v=(m,0)):cO ts false v t=true∧(fE ts v t).length≤4096∧jV ts v t≤200∧fE ts v t=m:=by
 unfold Je at h;by_cases h1:zu ts t v≠0
 ·
  rw [if_pos h1] at h;exact absurd (congrArg Prod.snd h) h1
 rw [if_neg h1] at h;have hf:=(Vj (Classical.byContradiction h1)).2;by_cases h2:4096 < (fE ts v t).length
 ·
  rw [if_pos h2] at h;have h3:=congrArg Prod.snd h;exact absurd (show (3:Int)=0 from h3) (by decide)
 rw [if_neg h2] at h;by_cases h3:200 < jV ts v t
 ·
  rw [if_pos h3] at h;have h4:=congrArg Prod.snd h;exact absurd (show (3:Int)=0 from h4) (by decide)
 rw [if_neg h3] at h;exact ⟨hf,by omega,by omega,congrArg Prod.fst h⟩
def yI (ts:List ay) (x:ay) (v:Val) (k:Nat):List UInt8:=((jl ts x.ah v.items).take k).flatMap gW
theorem Qo (ts:List ay):∀ (ms:List Mem) (vs:List Val),(jl ts ms vs).length=min ms.length vs.length
 | [],vs => by simp [jl]
 | m :: ms,[] => by simp [jl]
 | m :: ms,y :: r => by rw [jl,List.length_cons,Qo ts ms r,List.length_cons,List.length_cons];omega
theorem Qp (ts:List ay):∀ (ms:List Mem) (vs:List Val) (k:Nat) (h:k < ms.length) (h2:k < vs.length),(jl ts ms vs)[k]?=some ⟨ms[k].id.toNat,ms[k].gy,fE ts vs[k] ms[k].ty⟩
 | [],_,k,h,_ => by simp at h
 | _ :: _,[],k,_,h2 => by simp at h2
 | m :: ms,y :: r,0,_,_ => by rw [jl];rfl
 | m :: ms,y :: r,k+1,h,h2 => by
  rw [jl,List.getElem?_cons_succ,Qp ts ms r k (by simpa using h) (by simpa using h2)];simp only [List.getElem_cons_succ]
theorem XU (ts:List ay) (x:ay) (v:Val) (k:Nat) (h:k < x.ah.length) (h2:k < v.items.length):yI ts x v (k+1)=yI ts x v k ++ gW ⟨x.ah[k].id.toNat,x.ah[k].gy,fE ts v.items[k] x.ah[k].ty⟩:=by
 have hg:=Qp ts x.ah v.items k h h2;unfold yI;rw [List.take_add_one,List.flatMap_append,hg];simp
theorem abu (ts:List ay) (x:ay) (v:Val) (k:Nat):(yI ts x v k).length≤((jl ts x.ah v.items).flatMap gW).length:=by
 have h:(jl ts x.ah v.items).flatMap gW=yI ts x v k ++ ((jl ts x.ah v.items).drop k).flatMap gW:=by unfold yI;rw [← List.flatMap_append,List.take_append_drop]
 rw [h,List.length_append];omega
theorem Zq (ts:List ay) (x:ay) (v:Val) (k:Nat) (h:x.ah.length≤k):yI ts x v k=(jl ts x.ah v.items).flatMap gW:=by
 unfold yI;rw [List.take_of_length_le (by rw [Qo];omega)]
theorem adG (n v:Nat):pJ n v≠[]:=by
 cases n with
 | zero => simp [pJ]
 | succ n => unfold pJ;split <;> simp
theorem adH (ts:List ay) (ms:List Mem) (vs:List Val) (h:0 < ms.length) (h2:0 < vs.length):(jl ts ms vs).flatMap gW≠[]:=by
 cases ms with
 | nil => simp at h
 | cons m ms =>
  cases vs with
  | nil => simp at h2
  | cons y r =>
   rw [jl,List.flatMap_cons];unfold gW;intro h3;have h4:=(List.append_eq_nil_iff.1 h3).1;exact adG _ _ (List.append_eq_nil_iff.1 h4).1
theorem Vk (ts:List ay) (hv:fF ts=0):∀ (ms:List Mem) (vs:List Val),(∀ j (h:j < ms.length) (h2:j < vs.length),cO ts false vs[j] ms[j].ty=true)→((jl ts ms vs).flatMap gW).length≤20*uK vs
 | [],vs,_ => by simp [jl]
 | m :: ms,[],_ => by simp [jl]
 | m :: ms,y :: r,h => by
  rw [jl,List.flatMap_cons,List.length_append,uK];have h1:=abv ts hv (nodes y) y m.ty (Nat.le_refl _) (h 0 (by simp) (by simp));have h2:=KA ⟨m.id.toNat,m.gy,fE ts y m.ty⟩;have h3:=Vk ts hv ms r (fun j hj hj2 => by
   have h4:=h (j+1) (by simpa using hj) (by simpa using hj2);simp only [List.getElem_cons_succ] at h4;exact h4)
  dsimp only at h2;omega
def aki (w:World) (ts:List ay) (t:Nat) (e:Ending) (w':World):Prop :=
 ∃ (vt:Value) (x:Val) (xk xi xr:Value) (y:Val) (yk yi yr:Value),e = .returned (.tuple #[.agg #[vt],.int .i64 t,aS x xk xi xr,aS y yk yi yr,.bool true])∧aU w' w'.heap.size vt ts ∧
  ValAt w' w'.heap.size x xk xi xr∧ValAt w' w'.heap.size y yk yi yr∧cO ts true x t=true∧cO ts false y t=true∧Below w.heap.size w w'
theorem zCu {p:Prop} (h:p:=by
 obtain ⟨S,V,AV,HT,HV,HX,HA,HE⟩:=f8 S V AV HT HV HX HA HE (eR abV);replace FB:=dV FB abV;replace hbr:=tr hbr abV;clear abV;(try clear hHeld);refine hK.out _ _ (S.out.cell 0) (fun hHeld => ?_);clear hK K;refine tk 9 ?_;refine wpAnyH_done (by kernel_rfl) ?_ _;(try clear hHeld);obtain ⟨Qs,Qu,Qv,Qw,Qx,Qy,Qz,QA⟩:=AV.out.c8;obtain ⟨QB,QC,QD,QE,QF,QG,QH,QI⟩:=FB.out.c8;go_wp2_with fail;have TN:=hiQ (fun W h1 h2 => Ji v v (.slice P1 v.keys.length q1) (.slice P2 v.items.length q2) (.slice P3 v.rest.length q3) (.slice R1 v.keys.length j1) (.slice R2 v.items.length j2) (.slice R3 v.rest.length j3) W h1 h2);simp only [aS,(vM v v).2 rfl] at TN;clear Qs Qu Qv Qw Qx Qy Qz QA QB QC QD QE QF QG QH QI;((with_reducible refine (TN.out _ (HA.out.now.at_ HA.out.le) (HE.out.now.at_ HE.out.le)).mono ?_);rintro e an0 ⟨rfl,abY⟩);obtain ⟨S,V,AV,FB,HT,HV,HX,HA,HE⟩:=b9 S V AV FB HT HV HX HA HE abY;replace hbr:=dT hbr abY;clear abY;go_wp2_with fail;go_ret;exact ⟨rfl,hbr⟩):p:=h
theorem zDx {p:Prop} (h:p:=by
 obtain ⟨_,⟨R1,j1,h1,_⟩,_⟩:=hvb.keys;obtain ⟨_,⟨R2,j2,h2,_⟩,_⟩:=hvb.items;obtain ⟨_,R3,j3,h3,_⟩:=hvb.rest;exact ⟨R1,j1,R2,j2,R3,j3,h1,h2,h3⟩):p:=h
theorem zEw {p:Prop} (h:p:=by
 go_wp2_with fail;go_ret;exact ⟨rfl,hbr⟩):p:=h
theorem adI (ts:List ay) (t:Nat) (hval:fF ts=0) (hsz:Sizes ts) (hI:∀ x ∈ ts,I64 x.low∧I64 x.high) (hdl:∀ x ∈ ts,∀ m ∈ x.ah,m.eG=true→jV ts m.dflt m.ty≤1) (htl:t < ts.length) (A:Option Addr) (n c:Nat) (t0:Int) (A2:Option Addr) (n2 c2:Nat) (w:World) (hL:DX w)
  (hOf:∀ W,Below w.heap.size w W→Calls Tryz.prog 6 #[.agg #[.slice A n c,.int .u8 t0,.slice A2 n2 c2]] W (aki W ts t)) :
  Calls Tryz.prog 5 #[.agg #[.slice A n c,.int .u8 t0,.slice A2 n2 c2]] w (RT w (.bool true)):=by
 have HL:=hiQ hL;have HOf:=hiQ hOf;clear hL hOf;go_enter Tryz.func5,Tryz.ntmps5
 go_upto_region 1 with fail;refine aO (fun wd2 hb1 D => ?_);have hw3:=hb1;clear hb1;obtain ⟨dW,Vl,RY⟩:=D.out.c3;go_wp2_with fail;clear dW Vl RY;((with_reducible refine (HOf.out _ hw3).mono ?_);rintro e wd4 ⟨vt,v,xk,xi,xr,y,yk,yi,yr,rfl,htr,hx,hy,Vm,hyf,hb5⟩);replace D:=b1 D hb5;replace hw3:=dT hw3 hb5;clear hb5;obtain ⟨At,ct,rfl,_⟩:=htr.form;obtain ⟨X1,d1,X2,d2,X3,d3,rfl,rfl,rfl,-,-,-⟩:=hx.forms;obtain ⟨Y1,g1,Y2,g2,Y3,g3,rfl,rfl,rfl,-,-,-⟩:=hy.forms;have hxg:=BZ ts v t Vm;have HRS:Hid (v.rest = []):=hiQ (Zp Vm);have HXF:=hiQ Vm;have HXG:=hiQ hxg;have HT:=hiQ (Kept.rd (P:=fun w B => aU w B (.slice At ts.length ct) ts) htr (Nat.le_refl _) (fun _ hk => htr.keep hk (Nat.le_refl _)));have HV:=hiQ (Kept.rd (P:=fun w B => ValAt w B v (.slice X1 v.keys.length d1) (.slice X2 v.items.length d2) (.slice X3 v.rest.length d3)) hx (Nat.le_refl _) (fun _ hk => hx.keep hk (Nat.le_refl _)));clear htr hx hy hyf Vm hxg;simp only [aS];go_upto_region 2 with fail;refine Fj (fun jC hb6 S V U => ?_);have kH:=D.out.here;have oC:=HT.out.le;have sH:=HV.out.le;have hl12:=hw3.size;obtain ⟨D,HT,HV⟩:=b3 D HT HV hb6;replace hw3:=dT hw3 hb6;clear hb6;generalize wd4.heap.size=g8 at *;obtain ⟨gS,rfl⟩ : ∃ g,g=g8:=⟨_,rfl⟩
 obtain ⟨bK,dh,dn,dI,bG,aQ,aP,dJ⟩:=V.out.c8;have aH:=S.out.e0;go_wp2_with fail;clear bK dh dn dI bG aQ aP dJ aH;((with_reducible refine (Eb _ (HL.out.on hw3)).mono ?_);rintro e dQ ⟨rfl,jh⟩);obtain ⟨D,S,V,U,HT,HV⟩:=b6 D S V U HT HV jh;replace hw3:=dT hw3 jh;clear jh;obtain ⟨bK,dh,dn,dI,bG,aQ,aP,dJ⟩:=V.out.c8;have aH:=S.out.e0;go_wp2_with fail;clear bK dh dn dI bG aQ aP dJ aH;((with_reducible refine (Zr v _ _ _ _ HV.out.adF).mono ?_);rintro e jA ⟨⟨sb,rfl,hsb⟩,hb16⟩);obtain ⟨D,S,V,U,HT,HV⟩:=b6 D S V U HT HV hb16;replace hw3:=dT hw3 hb16;clear hb16;cases sb with
 | false =>
  clear hsb;go_wp2_with fail;((with_reducible refine (Eb _ (HL.out.on hw3)).mono ?_);rintro e ji ⟨rfl,nU⟩);obtain ⟨D,S,V,U,HT,HV⟩:=b6 D S V U HT HV nU;replace hw3:=dT hw3 nU;clear nU;go_wp2_with fail;go_ret;exact ⟨rfl,hw3⟩
 | true =>
  have hsz3:=hsb rfl;have apm:=Vo v;have HPZ:=hiQ (fun hf => abv ts hval (nodes v) v t (Nat.le_refl _) hf);clear hsb;obtain ⟨b0,o0,rfl,hb0,hel⟩:=HT.out.now.elem (by omega);obtain ⟨vs,vm,hcs,hxa⟩:=hel t htl;have hxt:bM ts t=some ts[t]:=by unfold bM;rw [if_pos (by omega)];simp [htl]
  have hxm:ts[t] ∈ ts:=List.getElem_mem htl;have xO:(t:Int) < ts.length:=by omega
  have hd0:decide ((t:Int) < 0)=false:=by simp
  have hd1:decide (ts.length≤t)=false:=by simpa using htl
  clear hel;generalize ts[t]=x at *;obtain ⟨C1,l1,C2,l2,rfl,rfl,-,-⟩:=hxa.forms;obtain ⟨c0,c1,c2,c3,c4,c5,c6,c7,c8,c9⟩:=hcs;have hxs:=hxa.lens.2;have HX:=hiQ (Kept.rd (P:=fun w B => jc w B x (.slice C1 x.syms.length l1) (.slice C2 x.ah.length l2)) hxa HT.out.le (fun _ hk => hxa.keep hk (Nat.le_refl _)));have Yt:=hiQ hxt;have HXM:=hiQ hxm;have hnz:nodes v≤1000000000000:=by omega
  clear hxa hxt hxm;by_cases hk:x.kind=5
  ·
   rw [hk] at c0;have HK:=hiQ hk;clear hk;have aH:=S.out.e0;obtain ⟨bK,dh,dn,dI,bG,aQ,aP,dJ⟩:=V.out.c8;go_wp2_with fail;have H6:=hiQ (Kept.rd (P:=fun w _ => w.cell? ⟨b0,o0+t*10+6,none⟩=some (.slice C2 x.ah.length l2)) c6 HT.out.le (fun _ hk => (hk ⟨b0,_,none⟩ hb0).trans c6));clear c0 c1 c2 c3 c4 c5 c6 c7 c8 c9 aH bK dh dn dI bG aQ aP dJ;((with_reducible refine (XV ts _ ct t v _ _ _ _ hsz hnz (fun hf => by have:=HPZ.out hf;omega) HT.out.NC HV.out.adF).mono ?_);rintro e ji ⟨rfl,nU⟩);obtain ⟨D,S,V,U,HT,HV,HX,H6⟩:=b8 D S V U HT HV HX H6 nU;replace hw3:=dT hw3 nU;clear nU;obtain ⟨em,HEM⟩ : ∃ em,Hid (Je ts t v=em):=⟨_,hiQ rfl⟩
   rw [HEM.out];obtain ⟨hlen,hfit⟩:=RZ Yt.out HXG.out HK.out;have hwz:=Vk ts hval x.ah v.items (fun j h h2 => hfit j h2 h);have hvz:=Vp v;have HWT:Hid (((jl ts x.ah v.items).flatMap gW).length≤100000):=by show _≤_;omega
   have HWZ:Hid (∀ k,(yI ts x v k).length≤100000):=by
    show ∀ k,(yI ts x v k).length≤100000;intro k;have:=abu ts x v k;omega
   have HFT:=hiQ hfit;have HLEN:=hiQ hlen;have Qq:=hiQ (Dy hval HXM.out (.inl HK.out)).1;clear hfit hwz hvz hlen;go_upto_region 6 with fail;have hVl:=V.out.here;refine aO (fun yO nV Z => ?_);have Dw:=D.out.here;have Es:=S.out.here;have sJ:=V.out.here;have uP:=U.out.here;have sN:=HT.out.le;have uQ:=HV.out.le;have sK:=HX.out.le;have uO:=H6.out.le;have uh:=hw3.size;obtain ⟨D,S,V,U,HT,HV,HX,H6⟩:=b8 D S V U HT HV HX H6 nV;replace hw3:=dT hw3 nV;clear nV;generalize ji.heap.size=g21 at *;obtain ⟨gB,rfl⟩ : ∃ g,g=g21:=⟨_,rfl⟩
   have Yu:=ahY Z.out;have hZ1:=Z.out;clear Z D U;have c6:=H6.out.now;have aH:=S.out.e0;go_wp2_with fail;clear c6;have ahZ:=HT.out;have ah0:=HV.out;have ah1:=HX.out;go_loopw [63] (fun si wr => ∃ k:Nat,si = .int .i64 k∧k≤x.ah.length∧Lib.IsBuilder 61 5 gB gB (Lib.byteCells (yI ts x v k)) wr∧(k=0→Has wr gB 61 #[.pointer none,.slice none 0 0])∧Has wr gS 30 #[.slice (some ⟨b0,o0,none⟩) ts.length ct]∧Has wr (gS+1) 34 #[.int .i64 v.kind,.bool v.bool,.int .i64 v.num,.string ⟨v.str.toArray⟩,.int .i64 v.id,.slice X1 v.keys.length d1,.slice X2 v.items.length d2,.slice X3 v.rest.length d3]∧Kept (fun w => aU w gS (.slice (some ⟨b0,o0,none⟩) ts.length ct) ts) wr 0 gS∧Kept (fun w => ValAt w gS v (.slice X1 v.keys.length d1) (.slice X2 v.items.length d2) (.slice X3 v.rest.length d3)) wr 0 gS∧Kept (fun w => jc w gS x (.slice C1 x.syms.length l1) (.slice C2 x.ah.length l2)) wr 0 gS∧Below w.heap.size w wr) (fun si _ => x.ah.length - (intOf si).toNat)
   case atStart => exact ⟨0,rfl,by omega,Yu,fun _ => hZ1,S.out,V.out,ahZ,ah0,ah1,hw3⟩
   case round =>
    clear ahZ ah0 ah1 Yu hZ1 S V HT HV HX H6 hw3;obtain ⟨k,rfl,hk1,hbd,hfr,S,V,hHT,hHV,hHX,hbr⟩:=hrel;replace S:=hiQ S;replace V:=hiQ V;have HT:=hiQ (hHT);have HV:=hiQ (hHV);have HX:=hiQ (hHX);have Dp:=hiQ (Kept.bd hbd);clear hHT hHV hHX hbd;by_cases wQ:k < x.ah.length
    ·
     have hlt:k < v.items.length:=by have:=HLEN.out;omega
     have apn:k+1≤x.ah.length:=wQ;have hfk:=HFT.out k hlt wQ;have lY:=Qq.out x.ah[k] (List.getElem_mem wQ);have hpz:(fE ts v.items[k] x.ah[k].ty).length≤140737488355328:=by
      have h1:=Jf (OU ts x.ah v.items k wQ hlt);have h2:=HWT.out;dsimp only at h1;omega
     have hsu:=XU ts x v k wQ hlt;have hwk:=HWZ.out (k+1);obtain ⟨b2,o2,rfl,Ew,zx⟩:=HX.out.now.ah.elem (by omega);obtain ⟨mk,mi,mr,hc2,hma⟩:=zx k wQ;obtain ⟨D1,f1,D2,f2,D3,f3,rfl,rfl,rfl,-,-,-⟩:=hma.dflt.forms;obtain ⟨m0,m1,m2,m3,m4,m5,m6,m7,m8,m9,m10,m11,m12⟩:=hc2;have Qr:(k:Int) < x.ah.length:=by omega
     have ao8:(k:Int) < v.items.length:=by omega
     have hd0:decide ((k:Int) < 0)=false:=by simp
     have hd2:decide (v.items.length≤k)=false:=by simpa using hlt
     have hd3:decide (x.ah.length≤k)=false:=by simpa using wQ
     clear zx hma;obtain ⟨b1,o1,rfl,Fp,rJ⟩:=HV.out.now.items.elem (by omega);obtain ⟨yk,yi,yr,hc1,hya⟩:=rJ k hlt;clear rJ;generalize v.items[k]=z at *;generalize x.ah[k]=mm at *;obtain ⟨mi,mn,mt,mc,mh,mf⟩:=mm;simp only at *;obtain ⟨E1,k1,E2,k2,E3,k3,rfl,rfl,rfl,-,-,-⟩:=hya.forms;have sG:=hiQ (Kept.rd (P:=fun w B => ValAt w B z (.slice E1 z.keys.length k1) (.slice E2 z.items.length k2) (.slice E3 z.rest.length k3)) hya HV.out.le (fun _ hk => hya.keep hk (Nat.le_refl _)));have yS:=hiQ (Kept.rd (P:=fun w _ => Cells8 w b1 (o1+k*8) z (.slice E1 z.keys.length k1) (.slice E2 z.items.length k2) (.slice E3 z.rest.length k3)) hc1 HV.out.le (fun _ hk => abt hc1 (fun o => hk ⟨b1,o,none⟩ Fp)));clear hya;go_upto_region 9 with fail;clear m0 m1 m2 m3 m4 m5 m6 m7 m8 m9 m10 m11 m12;refine aO (fun zy OV M => ?_);have J9:=S.out.here;have RJ:=V.out.here;have OT:=HT.out.le;have RN:=HV.out.le;have Vb:=HX.out.le;have ah2:=Dp.out.le;have ah3:=sG.out.le;have ah4:=yS.out.le;have Zo:=hbr.size;obtain ⟨S,V,HT,HV,HX,Dp,sG,yS⟩:=b8 S V HT HV HX Dp sG yS OV;replace hbr:=dT hbr OV;clear OV;generalize wr.heap.size=g33 at *;have aH:=S.out.e0;have je:=M.out.e2;have aP:=V.out.e6;refine wp_region_held_drew (S:=(fun w' => w'.cell? ⟨gS,0,none⟩=some (.slice (some ⟨b0,o0,none⟩) ts.length ct)∧w'.cell? ⟨g33,2,none⟩=some (.int .i64 mt)∧w'.cell? ⟨gS+1,6,none⟩=some (.slice (some ⟨b1,o1,none⟩) v.items.length d2)∧(w'.cell? ⟨b1,o1+k*8,none⟩=some (.int .i64 z.kind))∧(w'.cell? ⟨b1,o1+k*8+1,none⟩=some (.bool z.bool))∧(w'.cell? ⟨b1,o1+k*8+2,none⟩=some (.int .i64 z.num))∧(w'.cell? ⟨b1,o1+k*8+3,none⟩=some (.string ⟨z.str.toArray⟩))∧(w'.cell? ⟨b1,o1+k*8+4,none⟩=some (.int .i64 z.id))∧(w'.cell? ⟨b1,o1+k*8+5,none⟩=some (.slice E1 z.keys.length k1))∧(w'.cell? ⟨b1,o1+k*8+6,none⟩=some (.slice E2 z.items.length k2))∧(w'.cell? ⟨b1,o1+k*8+7,none⟩=some (.slice E3 z.rest.length k3)))) (by kernel_rfl) ⟨aH,je,aP,(yS.out.now.1),(yS.out.now.2.1),(yS.out.now.2.2.1),(yS.out.now.2.2.2.1),(yS.out.now.2.2.2.2.1),(yS.out.now.2.2.2.2.2.1),(yS.out.now.2.2.2.2.2.2.1),(yS.out.now.2.2.2.2.2.2.2)⟩ (fun hHeld => ?_)
     clear aH je aP;have adJ:Below zy.heap.size zy (zy.drew):=(Below.refl _ _).drew;obtain ⟨S,V,M,HT,HV,HX,Dp,sG,yS⟩:=b9 S V M HT HV HX Dp sG yS adJ;replace hbr:=dT hbr adJ;clear adJ;generalize zy.drew=Vq at *;refine tk 0 ?_;refine tk 1 ?_;refine tk 2 ?_;refine tk 3 ?_;refine tk 4 ?_;refine tk 5 ?_;refine tk 6 ?_;refine tk 7 ?_;refine iE 8 fun K hK => ?_;go_simp;((with_reducible refine (Vr ts _ ct hval (nodes z) z mt _ _ _ _ (Nat.le_refl _) hfk hpz sG.out.adF HT.out.NC).mono ?_);rintro e ah5 ⟨rfl,OX⟩);obtain ⟨S,V,M,HT,HV,HX,Dp,sG,yS⟩:=b9 S V M HT HV HX Dp sG yS OX;replace hbr:=dT hbr OX;clear OX;(try clear hHeld);refine hK.out _ _ (⟨S.out.cell 0,⟨M.out.cell 2,⟨V.out.cell 6,⟨(yS.out.now.1),⟨(yS.out.now.2.1),⟨(yS.out.now.2.2.1),⟨(yS.out.now.2.2.2.1),⟨(yS.out.now.2.2.2.2.1),⟨(yS.out.now.2.2.2.2.2.1),⟨(yS.out.now.2.2.2.2.2.2.1),(yS.out.now.2.2.2.2.2.2.2)⟩⟩⟩⟩⟩⟩⟩⟩⟩⟩) (fun hHeld => ?_);clear hK K;refine tk 9 ?_;refine wpAnyH_done (by kernel_rfl) ?_ _;(try clear hHeld);clear yS sG;generalize fE ts z mt=pl at *;have iU:=M.out.e0;have mQ:=M.out.e3;go_wp2_with fail;clear iU mQ;((with_reducible refine (XW mi mc pl _ hpz).mono ?_);rintro e ah6 ⟨rfl,hb48⟩);obtain ⟨S,V,M,HT,HV,HX,Dp⟩:=b7 S V M HT HV HX Dp hb48;replace hbr:=dT hbr hb48;clear hb48;by_cases h4:4096 < pl.length
     ·
      rw [show yJ mi mc pl=([],3) from by unfold yJ;rw [if_neg (by omega),if_pos h4]];clear h4;exact zEw
     rw [show yJ mi mc pl=(gW ⟨mi.toNat,mc,pl⟩,0) from by unfold yJ;rw [if_neg (by omega),if_neg h4]];have hfl:=KA ⟨mi.toNat,mc,pl⟩;have Cb:=hiQ hsu;have hwk0:=HWZ.out k;dsimp only at hfl;have h4n:pl.length≤4096:=by omega
     clear h4 hsu lY hpz hfk;generalize gW ⟨mi.toNat,mc,pl⟩=fl at *;have hln:(Lib.byteCells (yI ts x v k)).length+(⟨fl.toArray⟩ : ByteArray).size≤140737488355328:=by
      rw [Lib.byteCells_length];have h1:(⟨fl.toArray⟩ : ByteArray).size=fl.length:=by simp [ByteArray.size]
      omega
     go_wp2_with fail;((with_reducible refine (adK gB gB _ _ _ Dp.out.now hln (Nat.le_of_lt (Zt Dp.out.now))).mono ?_);rintro e w5 ⟨rfl,hbd2,hb5⟩);clear Dp M;replace S:=hiQ (S.out.below hb5 (show gS < gB by omega));replace V:=hiQ (V.out.below hb5 (show gS+1 < gB by omega));replace HT:=hiQ (HT.out.iJ hb5 (show gS≤gB by omega));replace HV:=hiQ (HV.out.iJ hb5 (show gS≤gB by omega));replace HX:=hiQ (HX.out.iJ hb5 (show gS≤gB by omega));replace hbr:=hbr.trans (hb5.mono (show w.heap.size≤gB by omega));go_wp2_with fail;go_roundw
     case rel => exact ⟨k+1,by go_num,by omega,by rw [Cb.out,Lib.byteCells_append];exact .inr hbd2,fun h => (by omega),S.out,V.out,HT.out,HV.out,HX.out,hbr⟩
     case measure => simp [intOf];omega
    have hkk:k=x.ah.length:=by omega
    have Qr:¬ (k:Int) < x.ah.length:=by omega
    rw [Zq ts x v k (by omega)] at Dp;have al6:=hiQ HWT.out;obtain ⟨tot,Vs⟩ : ∃ q,Hid (q=(jl ts x.ah v.items).flatMap gW):=⟨_,hiQ rfl⟩
    rw [← Vs.out] at Dp al6;obtain ⟨e1,e2⟩:=em;by_cases he:e2=0
    ·
     rw [he] at HEM ⊢;clear he;go_wp2_with fail;((with_reducible refine (Tryz.Builder_Len gB gB _ _ Dp.out.now).mono ?_);rintro e w5 ⟨rfl,rfl⟩);rw [Lib.byteCells_length];by_cases h4:4096 < tot.length
     ·
      have h4i:(4096:Int) < tot.length:=by omega
      exact zEw
     have h4i:¬ (4096:Int) < tot.length:=by omega
     have aH:=S.out.e0;go_wp2_with fail;obtain ⟨hf2,h42,hl2,hem⟩:=agR HEM.out;have hr1:nX ts t e1 = .ok (.ok v):=by
      rw [← hem];unfold nX;rw [if_neg (by simp [hval]),if_neg (by rw [Yt.out];simp),if_neg (by omega),Yv ts hval hI (nodes v) v t 200 [] (Nat.le_refl _) hf2 hl2 (by omega)]
     have HD1:=hiQ (fun W h => decode_any ts (some ⟨b0,o0,none⟩) ct t e1 W hsz h);simp only [hr1] at HD1;clear hr1;have KC:∀ j (h:j < v.items.length) (h2:j < x.ah.length),jV ts v.items[j] x.ah[j].ty≤199:=by
      have hlz:jV ts v t=1+qZ ts v.items x.ah:=by
       rw [BH ts v t x Yt.out];unfold Ia;rw [if_pos HK.out]
      intro j h h2;cases hd:(x.ah[j].eG && iK v.items[j] x.ah[j].dflt) with
      | false => have:=Sj ts v.items x.ah j h h2 hd;omega
      | true =>
       rw [Bool.and_eq_true] at hd;rw [(vM _ _).1 hd.2];have:=hdl x HXM.out x.ah[j] (List.getElem_mem h2) hd.1;omega
     have hr2:nX ts t tot = .ok (.ok v):=by
      rw [Vs.out];unfold nX;rw [if_neg (by simp [hval]),if_neg (by rw [Yt.out];simp),if_neg (by rw [← Vs.out];omega),abw hval hI Yt.out HK.out hf2 HRS.out KC (by rw [← Vs.out];omega)]
     have HD2:=hiQ (fun W h => decode_any ts (some ⟨b0,o0,none⟩) ct t tot W hsz h);simp only [hr2] at HD2;clear hr2 KC;obtain ⟨LX,zA⟩ : ∃ n,n=(w5).heap.size:=⟨_,rfl⟩
     have hbg:=Zt Dp.out.now;rw [← zA] at hbg;have hfr2:tot = []→Has w5 gB 61 #[.pointer none,.slice none 0 0]:=by
      intro h0;rcases Nat.eq_zero_or_pos k with h1 | h1
      · exact hfr h1
      exact absurd (Vs.out.symm.trans h0) (adH ts x.ah v.items (by omega) (by have:=HLEN.out;omega))
     have HB2:=hiQ (BD2.kept (l:=tot) Dp.out.now hfr2 zA);clear hfr hfr2 Dp aH;((with_reducible refine (HD1.out _ HT.out.NC).mono ?_);rintro e vV ⟨adL,ak,ai,ar,rfl,hva⟩);obtain ⟨S,V,HT,HV,HX,HB2⟩:=b6 S V HT HV HX HB2 adL;replace hbr:=dT hbr adL;clear adL;obtain ⟨BX,Fq⟩ : ∃ n,n=(vV).heap.size:=⟨_,rfl⟩
     have HA:=hiQ (Kept.OY hva zA Fq);obtain ⟨P1,q1,P2,q2,P3,q3,rfl,rfl,rfl⟩ : ∃ P1 q1 P2 q2 P3 q3,ak = .slice P1 v.keys.length q1∧ai = .slice P2 v.items.length q2∧ar = .slice P3 v.rest.length q3:=by
      obtain ⟨_,⟨P1,q1,h1,_⟩,_⟩:=hva.keys;obtain ⟨_,⟨P2,q2,h2,_⟩,_⟩:=hva.items;obtain ⟨_,P3,q3,h3,_⟩:=hva.rest;exact ⟨P1,q1,P2,q2,P3,q3,h1,h2,h3⟩
     clear hva;simp only [aS];have MV:=Has.made vV 34 #[.int .i64 0,.bool false,.int .i64 0,.string ⟨#[]⟩,.int .i64 0,.slice none 0 0,.slice none 0 0,.slice none 0 0];go_upto_region 18 with (refine wpList_store_row rfl 34 _ _ rfl vV.heap.size _ rfl rfl 34 _ MV (by kernel_rfl) rfl (by simp [Value.oneCell']) ?_)
     clear MV;generalize abf:vV.alloc _=Jg;have ⟨OZ,AV⟩:=an1 abf;clear abf;have RN:=S.out.here;have Vb:=V.out.here;have ah2:=HT.out.le;have ah3:=HV.out.le;have ah4:=HX.out.le;have Zo:=HB2.out.le;have ahK:=HA.out.le;have alU:=hbr.size;obtain ⟨S,V,HT,HV,HX,HB2,HA⟩:=b7 S V HT HV HX HB2 HA OZ;replace hbr:=dT hbr OZ;clear OZ;generalize vV.heap.size=g36 at *;generalize WO:Jg.setRow _ _=ah5;obtain ⟨S,V,HT,HV,HX,HB2,HA⟩:=f7 S V HT HV HX HB2 HA (eR WO);replace AV:=dV AV WO;replace hbr:=tr hbr WO;clear WO;obtain ⟨gA,rfl⟩ : ∃ g,g=g36:=⟨_,rfl⟩
     have aH:=S.out.e0;refine wp_region_held_drew (S:=(fun w' => w'.cell? ⟨gS,0,none⟩=some (.slice (some ⟨b0,o0,none⟩) ts.length ct))) (by kernel_rfl) aH (fun hHeld => ?_);clear aH;have agp:Below ah5.heap.size ah5 (ah5.drew):=(Below.refl _ _).drew;obtain ⟨S,V,AV,HT,HV,HX,HB2,HA⟩:=b8 S V AV HT HV HX HB2 HA agp;replace hbr:=dT hbr agp;clear agp;generalize ah5.drew=ah9 at *;refine tk 0 ?_;refine tk 1 ?_;refine wpAnyH_ready (rs:=[2,7]) (by kernel_rfl) (by simp) ?_;refine AllReadyH.cons rfl (fun K hK => ?_) (AllReadyH.cons rfl (fun K hK => ?_) (AllReadyH.nil))
     ·
      skip
      go_simp;have hA0:=HA.out;have hV0:=AV.out;have hVh:=AV.out.here;have hHl:=HA.out.le;have hBl:=HB2.out.le;((with_reducible refine (Vt gB LX tot _ HB2.out.now hBl hbg).mono ?_);rintro e w7 ⟨rfl,TL,hb7⟩);clear HB2 HA AV;replace S:=hiQ (S.out.below hb7 (show gS < gB by omega));replace V:=hiQ (V.out.below hb7 (show gS+1 < gB by omega));replace HT:=hiQ (HT.out.iJ hb7 (show gS≤gB by omega));replace HV:=hiQ (HV.out.iJ hb7 (show gS≤gB by omega));replace HX:=hiQ (HX.out.iJ hb7 (show gS≤gB by omega));replace hbr:=hbr.trans (hb7.mono (show w.heap.size≤gB by omega));have HA:=hiQ (hA0.move (fun k h1 h2 => TL k h1 (by omega)) hb7.size);have AV:Has w7 gA 34 #[.int .i64 v.kind,.bool v.bool,.int .i64 v.num,.string ⟨v.str.toArray⟩,.int .i64 v.id,.slice P1 v.keys.length q1,.slice P2 v.items.length q2,.slice P3 v.rest.length q3]:=(TL gA (by omega) hVh).trans hV0;replace AV:=hiQ AV;clear TL hb7 hA0 hV0;(try clear hHeld);refine hK.out _ _ (S.out.cell 0) (fun hHeld => ?_);clear hK K;refine wpAnyH_ready (rs:=[3,7]) (by kernel_rfl) (by simp) ?_;refine AllReadyH.cons rfl (fun K hK => ?_) (AllReadyH.cons rfl (fun K hK => ?_) (AllReadyH.nil))
      ·
       skip
       go_simp;obtain ⟨MX,Oa⟩ : ∃ n,n=(w7).heap.size:=⟨_,rfl⟩
       skip
       ((with_reducible refine (HD2.out _ HT.out.NC).mono ?_);rintro e aij ⟨adN,ek,ei,er,rfl,hvb⟩);obtain ⟨S,V,AV,HT,HV,HX,HA⟩:=b7 S V AV HT HV HX HA adN;replace hbr:=dT hbr adN;clear adN;obtain ⟨R1,j1,R2,j2,R3,j3,rfl,rfl,rfl⟩ : ∃ R1 j1 R2 j2 R3 j3,ek = .slice R1 v.keys.length j1∧ei = .slice R2 v.items.length j2∧er = .slice R3 v.rest.length j3:=by
        exact zDx
       simp only [aS];obtain ⟨CX,TM⟩ : ∃ n,n=(aij).heap.size:=⟨_,rfl⟩
       have HE:=hiQ (Kept.OY hvb Oa TM);clear hvb TM Oa;(try clear hHeld);refine hK.out _ _ (S.out.cell 0) (fun hHeld => ?_);clear hK K;refine tk 4 ?_;refine tk 5 ?_;refine tk 6 ?_;refine iE 7 fun K hK => ?_;go_simp;refine aO (fun anZ agq FB => ?_);have aib:=S.out.here;have aic:=V.out.here;have aie:=AV.out.here;have aif:=HT.out.le;have aii:=HV.out.le;have al8:=HX.out.le;have Zv:=HA.out.le;have apo:=HE.out.le;have aqG:=hbr.size;obtain ⟨S,V,AV,HT,HV,HX,HA,HE⟩:=b8 S V AV HT HV HX HA HE agq;replace hbr:=dT hbr agq;clear agq;generalize aij.heap.size=g53 at *;(try clear hHeld);refine hK.out _ _ (S.out.cell 0) (fun hHeld => ?_);clear hK K;refine iE 8 fun K hK => ?_;refine eY (by rfl) 34 _ _ (by rfl) (g53) #[.int .i64 v.kind,.bool v.bool,.int .i64 v.num,.string ⟨v.str.toArray⟩,.int .i64 v.id,.slice R1 v.keys.length j1,.slice R2 v.items.length j2,.slice R3 v.rest.length j3] (by rfl) (by rfl) 34 _ FB.out (by kernel_rfl) rfl (by first | assumption | simp [Value.oneCell']) ?_;generalize abV:anZ.setRow _ _=apr;exact zCu
      skip
      go_simp;refine aO (fun al0 adM FB => ?_);have amc:=S.out.here;have aia:=V.out.here;have aib:=AV.out.here;have aic:=HT.out.le;have aie:=HV.out.le;have aif:=HX.out.le;have aii:=HA.out.le;have al8:=hbr.size;obtain ⟨S,V,AV,HT,HV,HX,HA⟩:=b7 S V AV HT HV HX HA adM;replace hbr:=dT hbr adM;clear adM;generalize w7.heap.size=g51 at *;(try clear hHeld);refine hK.out _ _ (S.out.cell 0) (fun hHeld => ?_);clear hK K;refine iE 3 fun K hK => ?_;go_simp;obtain ⟨MX,Oa⟩ : ∃ n,n=(al0).heap.size:=⟨_,rfl⟩
      have hFl:=FB.out.here;rw [← Oa] at hFl;((with_reducible refine (HD2.out _ HT.out.NC).mono ?_);rintro e aio ⟨adP,ek,ei,er,rfl,hvb⟩);obtain ⟨S,V,AV,FB,HT,HV,HX,HA⟩:=b8 S V AV FB HT HV HX HA adP;replace hbr:=dT hbr adP;clear adP;obtain ⟨R1,j1,R2,j2,R3,j3,rfl,rfl,rfl⟩ : ∃ R1 j1 R2 j2 R3 j3,ek = .slice R1 v.keys.length j1∧ei = .slice R2 v.items.length j2∧er = .slice R3 v.rest.length j3:=by
       exact zDx
      simp only [aS];obtain ⟨CX,TM⟩ : ∃ n,n=(aio).heap.size:=⟨_,rfl⟩
      have HE:=hiQ (Kept.OY hvb Oa TM);clear hvb TM Oa;(try clear hHeld);refine hK.out _ _ (S.out.cell 0) (fun hHeld => ?_);clear hK K;refine tk 4 ?_;refine tk 5 ?_;refine tk 6 ?_;refine iE 8 fun K hK => ?_;refine eY (by rfl) 34 _ _ (by rfl) (g51) #[.int .i64 v.kind,.bool v.bool,.int .i64 v.num,.string ⟨v.str.toArray⟩,.int .i64 v.id,.slice R1 v.keys.length j1,.slice R2 v.items.length j2,.slice R3 v.rest.length j3] (by rfl) (by rfl) 34 _ FB.out (by kernel_rfl) rfl (by first | assumption | simp [Value.oneCell']) ?_;generalize Jh:aio.setRow _ _=al9;obtain ⟨S,V,AV,HT,HV,HX,HA,HE⟩:=f8 S V AV HT HV HX HA HE (eR Jh);replace FB:=dV FB Jh;replace hbr:=tr hbr Jh;clear Jh;(try clear hHeld);refine hK.out _ _ (S.out.cell 0) (fun hHeld => ?_);clear hK K;refine tk 9 ?_;refine wpAnyH_done (by kernel_rfl) ?_ _;(try clear hHeld);obtain ⟨Qs,Qu,Qv,Qw,Qx,Qy,Qz,QA⟩:=AV.out.c8;obtain ⟨QB,QC,QD,QE,QF,QG,QH,QI⟩:=FB.out.c8;go_wp2_with fail;have TN:=hiQ (fun W h1 h2 => Ji v v (.slice P1 v.keys.length q1) (.slice P2 v.items.length q2) (.slice P3 v.rest.length q3) (.slice R1 v.keys.length j1) (.slice R2 v.items.length j2) (.slice R3 v.rest.length j3) W h1 h2);simp only [aS,(vM v v).2 rfl] at TN;clear Qs Qu Qv Qw Qx Qy Qz QA QB QC QD QE QF QG QH QI;((with_reducible refine (TN.out _ (HA.out.now.at_ HA.out.le) (HE.out.now.at_ HE.out.le)).mono ?_);rintro e ama ⟨rfl,O1⟩);obtain ⟨S,V,AV,FB,HT,HV,HX,HA,HE⟩:=b9 S V AV FB HT HV HX HA HE O1;replace hbr:=dT hbr O1;clear O1;exact zEw
     skip
     go_simp;refine aO (fun al0 adM FB => ?_);have amc:=S.out.here;have aia:=V.out.here;have aib:=AV.out.here;have aic:=HT.out.le;have aie:=HV.out.le;have aif:=HX.out.le;have aii:=HB2.out.le;have al8:=HA.out.le;have Zv:=hbr.size;obtain ⟨S,V,AV,HT,HV,HX,HB2,HA⟩:=b8 S V AV HT HV HX HB2 HA adM;replace hbr:=dT hbr adM;clear adM;generalize ah9.heap.size=g51 at *;(try clear hHeld);refine hK.out _ _ (S.out.cell 0) (fun hHeld => ?_);clear hK K;refine iE 2 fun K hK => ?_;go_simp;obtain ⟨gF,rfl⟩ : ∃ g,g=g51:=⟨_,rfl⟩
     have hF0:=FB.out;have hFh:=FB.out.here;have hA0:=HA.out;have hV0:=AV.out;have hVh:=AV.out.here;have hHl:=HA.out.le;have hBl:=HB2.out.le;((with_reducible refine (Vt gB LX tot _ HB2.out.now hBl hbg).mono ?_);rintro e w7 ⟨rfl,TL,hb7⟩);clear HB2 HA AV FB;replace S:=hiQ (S.out.below hb7 (show gS < gB by omega));replace V:=hiQ (V.out.below hb7 (show gS+1 < gB by omega));replace HT:=hiQ (HT.out.iJ hb7 (show gS≤gB by omega));replace HV:=hiQ (HV.out.iJ hb7 (show gS≤gB by omega));replace HX:=hiQ (HX.out.iJ hb7 (show gS≤gB by omega));replace hbr:=hbr.trans (hb7.mono (show w.heap.size≤gB by omega));have HA:=hiQ (hA0.move (fun k h1 h2 => TL k h1 (by omega)) hb7.size);have AV:Has w7 gA 34 #[.int .i64 v.kind,.bool v.bool,.int .i64 v.num,.string ⟨v.str.toArray⟩,.int .i64 v.id,.slice P1 v.keys.length q1,.slice P2 v.items.length q2,.slice P3 v.rest.length q3]:=(TL gA (by omega) hVh).trans hV0;replace AV:=hiQ AV;have FB:Has w7 gF 34 #[.int .i64 0,.bool false,.int .i64 0,.string ⟨#[]⟩,.int .i64 0,.slice none 0 0,.slice none 0 0,.slice none 0 0]:=(TL gF (by omega) hFh).trans hF0;replace FB:=hiQ FB;clear TL hb7 hA0 hV0 hF0;(try clear hHeld);refine hK.out _ _ (S.out.cell 0) (fun hHeld => ?_);clear hK K;refine iE 3 fun K hK => ?_;go_simp;obtain ⟨MX,Oa⟩ : ∃ n,n=(w7).heap.size:=⟨_,rfl⟩
     have hFl:=FB.out.here;rw [← Oa] at hFl;((with_reducible refine (HD2.out _ HT.out.NC).mono ?_);rintro e apq ⟨agt,ek,ei,er,rfl,hvb⟩);obtain ⟨S,V,AV,FB,HT,HV,HX,HA⟩:=b8 S V AV FB HT HV HX HA agt;replace hbr:=dT hbr agt;clear agt;obtain ⟨R1,j1,R2,j2,R3,j3,rfl,rfl,rfl⟩ : ∃ R1 j1 R2 j2 R3 j3,ek = .slice R1 v.keys.length j1∧ei = .slice R2 v.items.length j2∧er = .slice R3 v.rest.length j3:=by
      exact zDx
     simp only [aS];obtain ⟨CX,TM⟩ : ∃ n,n=(apq).heap.size:=⟨_,rfl⟩
     have HE:=hiQ (Kept.OY hvb Oa TM);clear hvb TM Oa;(try clear hHeld);refine hK.out _ _ (S.out.cell 0) (fun hHeld => ?_);clear hK K;refine tk 4 ?_;refine tk 5 ?_;refine tk 6 ?_;refine iE 8 fun K hK => ?_;refine eY (by rfl) 34 _ _ (by rfl) (gF) #[.int .i64 v.kind,.bool v.bool,.int .i64 v.num,.string ⟨v.str.toArray⟩,.int .i64 v.id,.slice R1 v.keys.length j1,.slice R2 v.items.length j2,.slice R3 v.rest.length j3] (by rfl) (by rfl) 34 _ FB.out (by kernel_rfl) rfl (by first | assumption | simp [Value.oneCell']) ?_;generalize abV:apq.setRow _ _=apr;exact zCu
    exact zEw
  clear Yt HXM HPZ;have aH:=S.out.e0;go_wp2_with fail;clear aH;((with_reducible refine (Eb _ (HL.out.on hw3)).mono ?_);rintro e ji ⟨rfl,nU⟩);obtain ⟨D,S,V,U,HT,HV,HX⟩:=b7 D S V U HT HV HX nU;replace hw3:=dT hw3 nU;clear nU;go_wp2_with fail;go_ret;exact ⟨rfl,hw3⟩
end Go.Proofs.YticejnbbonnniaaGreatDoor

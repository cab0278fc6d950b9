/- What value.Defaults computes. No condition. -/
import Derived.Test.YtlamhkffnlgofaaGreatDoorHAP
set_option maxHeartbeats 4000000
set_option maxRecDepth 100000
namespace Go.Proofs.YtlamhkffnlgofaaGreatDoor
open Go.ChangeShapes Go.WideShapes Go.ChangeAt Go.RowKit
def alg (ts:List ay):List Mem→Option Int
 | [] => none
 | m :: r => if m.eG=true∧cO ts true m.dflt m.ty=false then some m.id else alg ts r
def anW (ts:List ay):List ay→Nat→Int × Int × Int
 | [],_ => (0,0,0)
 | x :: r,i => match alg ts x.ah with
  | some id => ((i:Int),id,1)
  | none => anW ts r (i+1)
def alu (ts:List ay):Int × Int × Int:=if fF ts=0 then anW ts ts 0 else (0,0,fF ts)
theorem awy (ts:List ay):∀ (l:List ay) (S:List (List UInt8)),lU ts l S=0→∀ x ∈ l,dY x=true∧(lg x).all (inB ts.length)=true∧¬ (x.kind=8∧akK ts x=false):=by
 intro l
 induction l with
 | nil => intro S _ x hx;simp at hx
 | cons y r ih =>
  intro S h x hx;by_cases h1:dY y=false∨(y.name≠[]∧S.contains y.name=true)
  · rw [JW ts r y S h1] at h;cases h
  cases h2:(lg y).all (inB ts.length) with
  | false => rw [YO ts r y S h1 h2] at h;cases h
  | true =>
   by_cases h3:y.kind=8∧akK ts y=false
   · rw [Lh ts r y S h1 h2 h3] at h;cases h
   rw [Lj ts r y S h1 h2 h3] at h;rcases List.mem_cons.1 hx with rfl | hx
   · exact zGv
   exact ih _ h x hx
theorem atg {ts:List ay} (h:fF ts=0):ts.length≤32∧∀ x ∈ ts,dY x=true∧(lg x).all (inB ts.length)=true∧¬ (x.kind=8∧akK ts x=false):=by
 unfold fF at h;by_cases h32:32 < ts.length
 · rw [if_pos h32] at h;cases h
 rw [if_neg h32] at h;exact ⟨by omega,awy ts ts [] h⟩
theorem awz {ts:List ay} (h:fF ts=0):Kinds ts:=fun x hx => arq ((atg h).2 x hx).1
theorem awX (ts _r:List ay) (m:Mem) (l:List Mem) (h:m.eG=false∨cO ts true m.dflt m.ty=true):alg ts (m :: l)=alg ts l:=by
 rw [alg,if_neg];rintro ⟨h1,h2⟩;rcases h with h | h
 · rw [h1] at h;cases h
 rw [h2] at h;cases h
theorem azO (ts:List ay) (m:Mem) (l:List Mem) (h1:m.eG=true) (h2:cO ts true m.dflt m.ty=false):alg ts (m :: l)=some m.id:=by
 rw [alg,if_pos ⟨h1,h2⟩]
theorem auz (ts r:List ay) (x:ay) (k:Nat) (id:Int) (h:alg ts x.ah=some id):anW ts (x :: r) k=((k:Int),id,1):=by rw [anW,h]
theorem auA (ts r:List ay) (x:ay) (k:Nat) (h:alg ts x.ah=none):anW ts (x :: r) k=anW ts r (k+1):=by rw [anW,h]
def aoT (ts:List ay) (w:World) (e:Ending) (w':World):Prop:=e = .returned (.tuple #[.int .i64 (alu ts).1,.int .i64 (alu ts).2.1,.int .i64 (alu ts).2.2])∧Below w.heap.size w w'
theorem aoT.mk {ts:List ay} {w w':World} {a b c:Int} (h:alu ts=(a,b,c)) (hb:Below w.heap.size w w'):aoT ts w (.returned (.tuple #[.int .i64 a,.int .i64 b,.int .i64 c])) w':=by
 refine ⟨?_,hb⟩;rw [h]
theorem zDy {p:Prop} (h:p:=by
 go_upto_region 1 with fail;refine aO (fun wd2 hb1 S => ?_);have hw3:=hb1;clear hb1;have aH:=S.out.e0;go_wp2_with fail;clear aH;((with_reducible refine (HV.out _ (HT.out.on hw3)).mono ?_);rintro e wd4 ⟨rfl,hb5⟩);replace S:=b1 S hb5;replace hw3:=dT hw3 hb5;clear hb5;go_wp2_with fail;go_ret3;exact aoT.mk Hd.out hw3):p:=h
theorem zDz {p:Prop} (h:p:=by
 obtain rfl:q=x.ah.length:=by omega
 have Hn:Hid (anW ts ts 0=anW ts (ts.drop (k+1)) (k+1)):=by show _=_;rw [Hdt.out,auA ts _ x k (by rw [hdm,List.drop_eq_nil_of_le (Nat.le_refl _),alg])]
 clear hdm;go_wp2_with fail;go_roundw
 case rel => exact ⟨k+1,by omega,by go_num,S.out,Hn.out,hb⟩
 case measure => simp [intOf];omega):p:=h
theorem zEm {p:Prop} (h:p:=by
 go_wp2_with fail;go_roundw
 case rel => exact ⟨q+1,by omega,by go_num,S.out,azP.out,hb⟩
 case measure => simp [intOf];omega):p:=h
theorem zFa {p:Prop} (h:p:=by
 obtain rfl:k=ts.length:=by omega
 have Hr:Hid (alu ts=(0,0,0)):=by show _=_;rw [Hd.out,hdt,List.drop_eq_nil_of_le (Nat.le_refl _),anW]
 clear hdt;have aH:=S.out.e0;go_wp2_with fail;go_ret3;exact aoT.mk Hr.out hw):p:=h
theorem zGp {p:Prop} (h:p:=by
 go_wp2_with fail;go_quiet (fail)
 go_wp2_with fail;go_ret3;exact aoT.mk Hr.out (below_drewN hb _)):p:=h
theorem ayp (ts:List ay) (A:Option Addr) (c:Nat) (w:World) (hs:Sizes ts) (ht:aU w w.heap.size (.slice A ts.length c) ts) :
  Calls Tryz.prog 45 #[.agg #[.slice A ts.length c]] w (aoT ts w):=by
 have HT:=hiQ ht;have HS:=hiQ hs;obtain ⟨ve,hve⟩ : ∃ ve,fF ts=ve:=⟨_,rfl⟩
 have hV:=fun W h => ab6 ts A c W hs h;simp only [hve] at hV;have HV:=hiQ hV;clear hs ht hV;by_cases hv0:ve=0
 case neg =>
  have t1:(ve == 0)=false:=by simpa using hv0
  have t2:(ve != 0)=true:=by simpa using hv0
  have Hd:Hid (alu ts=(0,0,ve)):=by show _=_;unfold alu;rw [hve,if_neg hv0]
  clear hve hv0;go_enter Tryz.func45,Tryz.ntmps45
  exact zDy
 subst hv0;have HK:=hiQ (awz hve);have h32:=(atg hve).1;have aGY:(ts.length:Int)≤32:=by omega
 have Hd:Hid (alu ts=anW ts ts 0):=by show _=_;unfold alu;rw [hve];rfl
 clear hve;go_enter Tryz.func45,Tryz.ntmps45
 go_upto_region 1 with fail;refine aO (fun wd2 hb1 S => ?_);have hw3:=hb1;clear hb1;have aH:=S.out.e0;go_wp2_with fail;clear aH;((with_reducible refine (HV.out _ (HT.out.on hw3)).mono ?_);rintro e wd4 ⟨rfl,hb5⟩);replace S:=b1 S hb5;replace hw3:=dT hw3 hb5;clear hb5;have aH:=S.out.e0;have Eh:=hiQ S.out;have hB0:=hw3;go_upto_region 5 with fail;clear aH;go_loopw [18] (fun i wr => ∃ k:Nat,k≤ts.length∧i = .int .i64 k∧Has wr w.heap.size 25 #[.slice A ts.length c]∧anW ts ts 0=anW ts (ts.drop k) k∧Below w.heap.size w wr) (fun i _ => ts.length - (intOf i).toNat)
 case atStart => exact ⟨0,by omega,rfl,Eh.out,rfl,hB0⟩
 case round =>
  clear S hB0 Eh;obtain ⟨k,hk,rfl,S,hdt,hw⟩:=hrel;replace S:=hiQ S;by_cases hlt:k < ts.length
  ·
   obtain ⟨b,o,rfl,hbb,hel⟩:=HT.out.elem (by omega);obtain ⟨vs,vm,hcells,hxa⟩:=hel k hlt;rw [List.drop_eq_getElem_cons hlt] at hdt;generalize ts[k]=x at *;obtain ⟨C1,m1,C2,m2,rfl,rfl,-,-⟩:=hxa.forms;have Wj:=hiQ hxa;have Hdt:=hiQ hdt;have hi1:(k:Int) < ts.length:=by omega
   have hi0:(0:Int)≤(k:Int):=by omega
   have hls:=hxa.lens;obtain ⟨c0,c1,c2,c3,c4,c5,c6,c7,c8,c9⟩:=hcells.below hw hbb;clear hxa hdt hcells hel;have aH:=S.out.e0;go_upto_region 7 with fail;clear aH;refine aO (fun jC hb6 X => ?_);have kH:=S.out.here;have oC:=hw.size;replace S:=b1 S hb6;replace hw:=dT hw hb6;clear hb6;generalize wr.heap.size=g8 at *;clear c0 c1 c2 c3 c4 c5 c6 c7 c8 c9;have bU:=X.out.e6;go_upto_region 8 with fail;have Eh:=hiQ S.out;have hB0:=hw;clear bU;go_loopw [26] (fun j ws => ∃ q:Nat,q≤x.ah.length∧j = .int .i64 q∧Has ws w.heap.size 25 #[.slice (some ⟨b,o,none⟩) ts.length c]∧alg ts x.ah=alg ts (x.ah.drop q)∧Below w.heap.size w ws) (fun j _ => x.ah.length - (intOf j).toNat)
   case atStart => exact ⟨0,by omega,rfl,Eh.out,rfl,hB0⟩
   case round =>
    clear X S Eh hB0;obtain ⟨q,hq,rfl,S,hdm,hb⟩:=hrel;replace S:=hiQ S;by_cases hlq:q < x.ah.length
    ·
     skip
     obtain ⟨bb1,o1,rfl,hb1,hel⟩:=Wj.out.ah.elem (by omega);obtain ⟨dk,di,dr,hcells,hma⟩:=hel q hlq;have hq1:(q:Int) < x.ah.length:=by omega
     have hq0:(0:Int)≤(q:Int):=by omega
     rw [List.drop_eq_getElem_cons hlq] at hdm;generalize x.ah[q]=m at *;obtain ⟨D1,d1,D2,d2,D3,d3,rfl,rfl,rfl,-,-,-⟩:=hma.dflt.forms;have Oo:=hiQ hma.dflt;have Hdm:=hiQ hdm;clear hel hma hdm;obtain ⟨y0,y1,y2,y3,y4,y5,y6,y7,y8,y9,GN,GR,GU⟩:=hcells;have x0:=((hb).cell (p:=⟨bb1,_,none⟩) hb1).trans y0;have x1:=((hb).cell (p:=⟨bb1,_,none⟩) hb1).trans y1;have x2:=((hb).cell (p:=⟨bb1,_,none⟩) hb1).trans y2;have x3:=((hb).cell (p:=⟨bb1,_,none⟩) hb1).trans y3;have x4:=((hb).cell (p:=⟨bb1,_,none⟩) hb1).trans y4;have x5:=((hb).cell (p:=⟨bb1,_,none⟩) hb1).trans y5;have x6:=((hb).cell (p:=⟨bb1,_,none⟩) hb1).trans y6;have x7:=((hb).cell (p:=⟨bb1,_,none⟩) hb1).trans y7;have x8:=((hb).cell (p:=⟨bb1,_,none⟩) hb1).trans y8;have x9:=((hb).cell (p:=⟨bb1,_,none⟩) hb1).trans y9;have x10:=((hb).cell (p:=⟨bb1,_,none⟩) hb1).trans GN;have x11:=((hb).cell (p:=⟨bb1,_,none⟩) hb1).trans GR;have x12:=((hb).cell (p:=⟨bb1,_,none⟩) hb1).trans GU;clear y0 y1 y2 y3 y4 y5 y6 y7 y8 y9 GN GR GU;go_upto_region 10 with fail;refine aO (fun lZ iR M => ?_);have akV:=S.out.here;have qA:=hb.size;replace S:=b1 S iR;replace hb:=dT hb iR;clear iR;generalize wr.heap.size=g13 at *;clear x0 x1 x2 x3 x4 x5 x6 x7 x8 x9 x10 x11 x12;cases hhd:m.eG with
     | false =>
      have azP:Hid (alg ts x.ah=alg ts (x.ah.drop (q+1))):=by show _=_;rw [Hdm.out,awX ts [] m _ (.inl hhd)]
      have kK:=M.out.cell 4;simp only [List.getElem?_toArray,List.getElem?_cons_succ,List.getElem?_cons_zero,hhd] at kK;clear hhd;exact zEm
     | true =>
      have kK:=M.out.cell 4;simp only [List.getElem?_toArray,List.getElem?_cons_succ,List.getElem?_cons_zero,hhd] at kK;have hfp:=fun W h1 h2 => axy m.dflt ts (some ⟨b,o,none⟩) c m.ty (.slice D1 m.dflt.keys.length d1) (.slice D2 m.dflt.items.length d2) (.slice D3 m.dflt.rest.length d3) W HK.out h1 h2;obtain ⟨fv,hfv⟩ : ∃ fv,cO ts true m.dflt m.ty=fv:=⟨_,rfl⟩
      simp only [hfv] at hfp;have HFP:=hiQ hfp;clear hfp;cases fv with
      | false =>
       have Hr:Hid (alu ts=((k:Int),m.id,1)):=by show _=_;rw [Hd.out,Hdt.out,auz ts _ x k m.id (by rw [Hdm.out,azO ts m _ hhd hfv])]
       clear hhd hfv;have aH:=S.out.e0;obtain ⟨iU,-,je,-,-,qU,qV,qW,qX,qY,oK,oL,oM⟩:=M.out.c13;go_wp2_with fail;clear aH iU je qU qV qW qX qY oK oL oM;((with_reducible refine (HFP.out _ (HT.out.on hb) (Oo.out.on hb)).mono ?_);rintro e yN ⟨rfl,mG⟩);obtain ⟨S,M⟩:=b2 S M mG;replace hb:=dT hb mG;clear mG;have iU:=M.out.e0;exact zGp
      | true =>
       have azP:Hid (alg ts x.ah=alg ts (x.ah.drop (q+1))):=by show _=_;rw [Hdm.out,awX ts [] m _ (.inr hfv)]
       clear hhd hfv;have aH:=S.out.e0;obtain ⟨-,-,je,-,-,qU,qV,qW,qX,qY,oK,oL,oM⟩:=M.out.c13;go_wp2_with fail;clear aH je qU qV qW qX qY oK oL oM;((with_reducible refine (HFP.out _ (HT.out.on hb) (Oo.out.on hb)).mono ?_);rintro e yN ⟨rfl,mG⟩);obtain ⟨S,M⟩:=b2 S M mG;replace hb:=dT hb mG;clear mG;exact zEm
    exact zDz
  exact zFa
end Go.Proofs.YtlamhkffnlgofaaGreatDoor

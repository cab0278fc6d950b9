/- What fits of the program computes for unions and maps. No condition. -/
import Derived.Test.YtlamhkffnlgofaaGreatDoorFits
set_option maxHeartbeats 1600000
set_option maxRecDepth 100000
namespace Go.Proofs.YtlamhkffnlgofaaGreatDoor
open Go.ChangeShapes Go.WideShapes Go.ChangeAt Go.RowKit
theorem ag0 (ts:List ay) (pl:Bool) (l:List Val) (t:Int) (h:0 < l.length):zM ts pl l t=cO ts pl l[0] t:=by
 cases l with
 | nil => simp at h
 | cons a r => rw [zM];rfl
theorem zCj {p:Prop} (h:p:=by
 clear hem hev hmc;generalize x.ah[i].ty=ty at *;generalize v.items[0]=y at *;obtain ⟨B1,k1,B2,k2,B3,k3,rfl,rfl,rfl,-,-,-⟩:=hya.forms;obtain ⟨y0,y1,y2,y3,y4,y5,y6,y7⟩:=hcy;simp only [Nat.zero_mul,Nat.add_zero] at y0 y1 y2 y3 y4 y5 y6 y7;have sG:=hiQ hya;have xE:=hiQ hmem;have hi1:(i:Int) < x.ah.length:=by omega
 have hi2:(0:Int) < v.items.length:=by omega
 have hi3:0 < v.items.length:=by omega
 clear hya hmem e1 e2;go_wp2_with fail;go_still_tail 23,(by kernel_rfl)
 change wpList _ _ _ _ _ w3.drew
 have HD:=hiQ (sG.out.on (w':=w3.drew) (Below.refl _ _).drew);have HTD:=hiQ (HT.out.on (w':=w3.drew) (Below.refl _ _).drew);have GK:=h03.drew;clear h03 HT HV HX HS HW HY sG s0 v4 v5 v6 v7 t6 t8 t9 m2 y0 y1 y2 y3 y4 y5 y6 y7;generalize w3.drew=w4 at *;go_wp2_with fail;refine (HF.out ty y _ _ _ _ (by simp [xE.out]) HD.out HTD.out).mono ?_;rintro e w5 ⟨rfl,hb5⟩;go_wp2_with fail;go_ret;exact ⟨au Hr.out.symm,GK.trans (hb5.mono GK.size)⟩):p:=h
theorem zCu {p:Prop} (h:p:=by
 go_wp2_with fail;go_quiet (fail)
 go_wp2_with fail;go_ret;exact ⟨au Hr.out.symm,below_drewN h03 _⟩):p:=h
theorem zCz {p:Prop} (h:p:=by
 go_wp2_with fail;go_ret;exact ⟨au Hr.out.symm,below_drewN h03 _⟩):p:=h
theorem zFt {p:Prop} (h:p:=by
 rw [d3] at Hb2;clear e3;go_wp2_with fail;go_quiet ((go_at_call 131;exact Ro.out _))
 go_wp2_with fail;go_ret;exact ⟨au Hb2.out.symm,below_drewN h03 _⟩):p:=h
theorem zJb {p:Prop} (h:p:=by
 go_wp2_with fail;go_quiet ((go_at_call 131;exact Ro.out _))
 exact zCz):p:=h
theorem ayy
 (ts:List ay) (A:Option Addr) (c n:Nat) (v:Val) (pl:Bool) (A1 A2 A3:Option Addr) (n1 n2 n3:Nat) (w:World) (hn:n < ts.length) (hkx:ts[n].kind=6) (hkv:v.kind=6) (hp:aA v=true)
 (ht:aU w w.heap.size (.slice A ts.length c) ts) (hv:ValAt w w.heap.size v (.slice A1 v.keys.length n1) (.slice A2 v.items.length n2) (.slice A3 v.rest.length n3))
 (hf:∀ t,zL 107 ts (.slice A ts.length c) t pl (fun y => cO ts pl y t) (v.keys ++ v.items)) :
 Calls Tryz.prog 107 #[.agg #[.slice A ts.length c],.int .i64 n,aS v (.slice A1 v.keys.length n1) (.slice A2 v.items.length n2) (.slice A3 v.rest.length n3),.bool pl] w (RTq w (.bool (jT ts pl ts[n] v))):=by
 have h3b:=KH w;obtain ⟨b,o,rfl,hbb,hel⟩:=ht.elem (by omega);obtain ⟨vs,vm,hcells,hx⟩:=hel n hn;clear hel;generalize ts[n]=x at *;obtain ⟨C1,l1,C2,l2,rfl,rfl,-,-⟩:=hx.forms;obtain ⟨c0,c1,c2,c3,c4,c5,c6,c7,c8,c9⟩:=hcells;have hlt:(n:Int) < ts.length:=by omega
 have hd0:decide ((n:Int) < 0)=false:=by simp
 have hd1:decide (ts.length≤n)=false:=by simpa using hn
 simp only [aS,hkv];rw [hkx] at c0;have HP:=hiQ (fun W => asM v A1 A2 A3 n1 n2 n3 W hkv);simp only [aS,hkv,hp] at HP;have HF:=hiQ hf;have HT:=hiQ ht;have HV:=hiQ hv;have HX:=hiQ hx;have xI:=hiQ hkx;have Ul:=hiQ hkv;have hxs:=hx.lens;have hvl:=hv.lens;clear hf ht hv hx hkx hkv hp hn;go_enter Tryz.func107,Tryz.ntmps107
 go_wp2_with fail;refine (HP.out _).mono ?_;rintro e w2 ⟨rfl,hb2⟩;have HS:=(((Has.made _ _ _).alloc _).alloc _).below hb2 (by simp;omega);have HW:=((Has.made _ _ _).alloc _).below hb2 (by simp);have HY:=(Has.made _ _ _).below hb2 (by simp);rw [jG] at HW;rw [jG,jG] at HY;have h02:=(h3b _ _ _).trans (hb2.mono (h3b _ _ _).size);have hz2:=HY.here;have HT:=hiQ (HT.out.on h02);have HV:=hiQ (HV.out.on h02);have HX:=hiQ (HX.out.keep (fun _ hp => h02.cell hp) h02.size);obtain ⟨v0,v1,v2,v3,v4,v5,v6,v7⟩:=HW.c8;obtain ⟨t0,t1,t2,t3,t4,t5,t6,t7,t8,t9⟩:=HY.c10;have s0:=HS.cell 0;simp only [qI] at s0;clear hb2 h3b c0 c1 c2 c3 c4 c5 c6 c7 c8 c9;have HS:=hiQ HS;have HW:=hiQ HW;have HY:=hiQ HY;have HM:=hiQ (fun W h => Qn x (.slice C1 x.syms.length l1) (.slice C2 x.ah.length l2) v.id W h);simp only [dA,xI.out,xg] at HM;cases hsy:dN x v.id with
 | some i =>
  have hil:=zG x v.id i hsy;simp only [hsy,Option.isSome_some] at HM;have Oz:=hiQ hsy;clear hsy;go_wp2_with fail;refine (HM.out _ HX.out).mono ?_;rintro e w3 ⟨rfl,hb3⟩;have h03:=h02.trans (hb3.mono h02.size);have HV:=hiQ (HV.out.on hb3);have HT:=hiQ (HT.out.on hb3);have HX:=hiQ (HX.out.on hb3);have HS:=HS.out.below hb3 (by omega);have HW:=HW.out.below hb3 (by omega);have HY:=HY.out.below hb3 (by omega);have hz3:=HY.here;clear s0 v0 v1 v2 v3 v4 v5 v6 v7 t0 t1 t2 t3 t4 t5 t6 t7 t8 t9;have s0:=HS.cell 0;have v4:=HW.cell 4;have v5:=HW.cell 5;have v6:=HW.cell 6;have v7:=HW.cell 7;have t6:=HY.cell 6;have t8:=HY.cell 8;have t9:=HY.cell 9;simp only [qI] at s0 v4 v5 v6 v7 t6 t8 t9;have HS:=hiQ HS;have HW:=hiQ HW;have HY:=hiQ HY;clear hb3 h02;by_cases e1:v.items.length=1
  ·
   have d1:((v.items.length:Int) == 1)=true:=by simp [e1]
   by_cases e2:v.rest.length=0
   ·
    have d2:((v.rest.length:Int) == 0)=true:=by simp [e2]
    obtain ⟨bm,om,rfl,hbm,hem⟩:=HX.out.ah.elem (by omega);obtain ⟨mk,mi,mr,hmc,-⟩:=hem i hil;have m2:=hmc.2.2.1;obtain ⟨bv,ov,rfl,hbv,hev⟩:=HV.out.items.elem (by omega);obtain ⟨yk,yi,yr,hcy,hya⟩:=hev 0 (by omega);have hmem:v.items[0] ∈ v.items:=List.getElem_mem _;have Hr:Hid (jT ts pl x v=cO ts pl v.items[0] x.ah[i].ty):=by
     show _=_;simp [ig,xI.out,Oz.out,e1,e2,hil,ag0]
    exact zCj
   have d2:((v.rest.length:Int) == 0)=false:=beq_eq_false_iff_ne.2 (by omega);have Hr:Hid (jT ts pl x v=false):=by
    show _=_;simp [ig,xI.out,Oz.out,e1,e2]
   clear e1 e2;exact zCu
  have d1:((v.items.length:Int) == 1)=false:=beq_eq_false_iff_ne.2 (by omega);have Hr:Hid (jT ts pl x v=false):=by
   show _=_;simp [ig,xI.out,Oz.out,e1]
  clear e1;exact zCu
 | none =>
  simp only [hsy,Option.isSome_none] at HM;have Oz:=hiQ hsy;clear hsy;go_wp2_with fail;refine (HM.out _ HX.out).mono ?_;rintro e w3 ⟨rfl,hb3⟩;have h03:=h02.trans (hb3.mono h02.size);have HV:=hiQ (HV.out.on hb3);have HT:=hiQ (HT.out.on hb3);have HX:=hiQ (HX.out.on hb3);have HS:=HS.out.below hb3 (by omega);have HW:=HW.out.below hb3 (by omega);have HY:=HY.out.below hb3 (by omega);have hz3:=HY.here;clear s0 v0 v1 v2 v3 v4 v5 v6 v7 t0 t1 t2 t3 t4 t5 t6 t7 t8 t9;have s0:=HS.cell 0;have v4:=HW.cell 4;have v5:=HW.cell 5;have v6:=HW.cell 6;have v7:=HW.cell 7;have t6:=HY.cell 6;have t8:=HY.cell 8;have t9:=HY.cell 9;simp only [qI] at s0 v4 v5 v6 v7 t6 t8 t9;have HS:=hiQ HS;have HW:=hiQ HW;have HY:=hiQ HY;clear hb3 h02;have Ro:=fun (n:Nat) => Calls.quiet_of_same (n:=n) ((aol v.id (w3.drewN n)).mono fun _ _ ⟨h1,h2⟩ => ⟨h1,h2.symm⟩);have Hb:Hid (jT ts pl x v=(x.opn && (!pl && (mM v.id && (decide (v.items.length=0) && (decide (v.rest.length=1) && KW v.rest v.id)))))):=by
   show _=_;simp [ig,xI.out,Oz.out]
  cases hop:x.opn
  all_goals
   rw [hop] at t9 Hb;clear hop
  ·
   have Hr:Hid (jT ts pl x v=false):=by show _=_;rw [Hb.out];simp
   exact zCu
  cases pl
  ·
   cases hfr:mM v.id
   all_goals
    rw [hfr] at Ro Hb;have Ro:=hiQ Ro;clear hfr
   ·
    have Hr:Hid (jT ts false x v=false):=by show _=_;rw [Hb.out];simp
    exact zJb
   by_cases e1:v.items.length=0
   ·
    have d1:((v.items.length:Int) == 0)=true:=by simp [e1]
    by_cases e2:v.rest.length=1
    ·
     have d2:((v.rest.length:Int) == 1)=true:=by simp [e2]
     obtain ⟨br,or,rfl,hbr,her⟩:=HV.out.rest.at_ (by omega);obtain ⟨hr0,-⟩:=qy her 0 (by omega);have Hb2:Hid (jT ts false x v=decide (v.rest[0].1=v.id)):=by
      show _=_;rw [Hb.out,abZ _ _ (by omega)];simp [e1,e2]
     clear her;generalize v.rest[0].1=q at *;simp only [Nat.zero_mul,Nat.add_zero] at hr0;have hi2:(0:Int) < v.rest.length:=by omega
     have hi3:0 < v.rest.length:=by omega
     clear e1 e2;by_cases e3:q=v.id
     all_goals
      have d3:(q == v.id)=decide (q=v.id):=by rw [Bool.eq_iff_iff];simp
      rw [← d3] at Hb2
     ·
      rw [decide_eq_true e3] at d3;exact zFt
     rw [decide_eq_false e3] at d3;exact zFt
    have d2:((v.rest.length:Int) == 1)=false:=beq_eq_false_iff_ne.2 (by omega);have Hr:Hid (jT ts false x v=false):=by show _=_;rw [Hb.out];simp [e1,e2]
    clear e1 e2;exact zJb
   have d1:((v.items.length:Int) == 0)=false:=beq_eq_false_iff_ne.2 (by omega);have Hr:Hid (jT ts false x v=false):=by show _=_;rw [Hb.out];simp [e1]
   clear e1;exact zJb
  have Hr:Hid (jT ts true x v=false):=by show _=_;rw [Hb.out];simp
  exact zCu
end Go.Proofs.YtlamhkffnlgofaaGreatDoor

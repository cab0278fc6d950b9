/- What fits of the program computes for records. No condition. -/
import Derived.Test.YtlamhkffnlgofaaGreatDoorFits
import Derived.IntWalk
set_option maxHeartbeats 1600000
set_option maxRecDepth 100000
namespace Go.Proofs.YtlamhkffnlgofaaGreatDoor
open Go.ChangeShapes Go.WideShapes Go.ChangeAt Go.RowKit
def nD (l:List Raw) (k:Nat):Option Int:=if k=0 then none else (l[k-1]?).map Prod.fst
theorem tZ (l:List Raw) (k:Nat) (h:k < l.length):nD l (k+1)=some l[k].1:=by
 simp [nD,h]
theorem aed (t:ay) (l:List Raw) (k:Nat) (h:k < l.length) (p:Option Int) :
  xK t (l.drop k) p=(!(dN t l[k].1).isSome && (mM l[k].1 && (xH p l[k].1 && xK t (l.drop (k+1)) (some l[k].1)))):=by
 rw [List.drop_eq_getElem_cons h,xK]
theorem agY (ts:List ay) (pl:Bool) (vs:List Val) (ms:List Mem) (k:Nat) (h1:k < vs.length) (h2:k < ms.length) :
  qL ts pl (vs.drop k) (ms.drop k)=(cO ts pl vs[k] ms[k].ty && qL ts pl (vs.drop (k+1)) (ms.drop (k+1))):=by
 rw [List.drop_eq_getElem_cons h1,List.drop_eq_getElem_cons h2,qL]
theorem aee (ts:List ay) (pl:Bool) (vs:List Val) (ms:List Mem) (k:Nat) (h1:vs.length≤k) (h2:ms.length≤k):qL ts pl (vs.drop k) (ms.drop k)=true:=by
 rw [List.drop_eq_nil_of_le h1,List.drop_eq_nil_of_le h2,qL]
theorem zIc {p:Prop} (h:p:=by
 go_wp2_with fail;go_ret;exact ⟨au (by rw [Hb.out];rfl),below_drewN h05 _⟩):p:=h
theorem zIu {p:Prop} (h:p:=by
 go_wp2_with fail;go_roundw
 case rel => exact ⟨1,by go_num,by omega,by rw [jB.out];simp [nD,xH],below_drewN WZ _⟩
 case measure => simp [intOf];omega):p:=h
theorem zIz {p:Prop} (h:p:=by
 go_wp2_with fail;go_roundw
 case rel => exact ⟨j+1+1,by go_num,by omega,jB.out,below_drewN WZ _⟩
 case measure => simp [intOf];omega):p:=h
theorem zJp {p:Prop} (h:p:=by
 rw [hfr] at Ro jB;have Ro:=hiQ Ro;rw [jB.out] at Hb;clear hfr;go_wp2_with fail;go_quiet ((go_at_call 131;exact Ro.out _))
 exact zIc):p:=h
theorem zJq {p:Prop} (h:p:=by
 rw [lY] at jB;simp only [Option.isSome_some];rw [jB.out] at Hb;clear lY;go_wp2_with fail;go_quiet (fail)
 exact zIc):p:=h
theorem zBg {p:Prop} (h:p:=by
 obtain ⟨br,or,rfl,hbr,her⟩:=((HV.out.on hb).rest).at_ (by omega);obtain ⟨r0,r1⟩:=qy her k hlt;rw [aed x v.rest k hlt,← tZ v.rest k hlt] at hix;have Hps:=hiQ (tZ v.rest k hlt);have hi1:(k:Int) < v.rest.length:=by omega
 have h0r:=h02.trans (hb.mono h02.size);rcases k with _ | j
 ·
  generalize v.rest[0].1=q at *;generalize v.rest[0].2=z at *;simp only [Nat.zero_mul,Nat.add_zero] at r0 r1;have hi1:(0:Int) < v.rest.length:=by omega
  have jB:=hiQ hix;clear her hix;have hwb:=hb.alloc hb.size (.cells #[.int .i64 q,.string ⟨z.toArray⟩] 129);have anX:=h0r.alloc h0r.size (.cells #[.int .i64 q,.string ⟨z.toArray⟩] 129);have HR:=Has.made wr 129 #[.int .i64 q,.string ⟨z.toArray⟩];have hzr:=hb.size;have azQ:w.heap.size+1+1 < wr.heap.size:=by omega
  have asY:w.heap.size+1 < wr.heap.size:=by omega
  go_wp2_with fail;refine (HM.out q _ (HX.out.on hwb)).mono ?_;rintro e w5 ⟨rfl,hb5⟩;have aom:Below wr.heap.size wr w5:=((Below.refl wr.heap.size wr).alloc (Nat.le_refl _) _).trans (hb5.mono (by simp));have p0:=(HR.below hb5 (by simp)).cell 0;have p7:w5.cell? ⟨w.heap.size+1,7,none⟩=_:=(aom.cell (p:=⟨w.heap.size+1,7,none⟩) (show w.heap.size+1 < wr.heap.size by omega)).trans q7;simp only [qI] at p0;have h05:=anX.trans (hb5.mono anX.size);have WZ:=hwb.trans (hb5.mono hwb.size);have Ro:=fun (n:Nat) => Calls.quiet_of_same (n:=n) ((aol q (w5.drewN n)).mono fun _ _ ⟨h1,h2⟩ => ⟨h1,h2.symm⟩);clear hwb anX HR hb5 aom hb h0r q0 q6 q7 y0 y1 y2 y3 y4 y5 y6 y7 y8 y9 r0 r1;cases lY:dN x q with
  | some i =>
   exact zJq
  | none =>
   rw [lY] at jB;simp only [Option.isSome_none];clear lY;cases hfr:mM q
   · exact zJp
   rw [hfr] at Ro jB;have Ro:=hiQ Ro;clear hfr;go_wp2_with fail;go_quiet ((go_at_call 131;exact Ro.out _))
   exact zIu
 obtain ⟨s0,-⟩:=qy her j (by omega);have Hpp:Hid (nD v.rest (j+1)=some v.rest[j].1):=tZ v.rest j (by omega);generalize v.rest[j+1].1=q at *;generalize v.rest[j+1].2=z at *;generalize v.rest[j].1=u at *;have hi1:(j:Int)+1 < v.rest.length:=by omega
 have hi2:(j:Int) < v.rest.length:=by omega
 rw [Hpp.out] at hix;have jB:=hiQ hix;clear her hix;have hwb:=hb.alloc hb.size (.cells #[.int .i64 q,.string ⟨z.toArray⟩] 129);have anX:=h0r.alloc h0r.size (.cells #[.int .i64 q,.string ⟨z.toArray⟩] 129);have HR:=Has.made wr 129 #[.int .i64 q,.string ⟨z.toArray⟩];have hzr:=hb.size;have azQ:w.heap.size+1+1 < wr.heap.size:=by omega
 have asY:w.heap.size+1 < wr.heap.size:=by omega
 go_wp2_with fail;refine (HM.out q _ (HX.out.on hwb)).mono ?_;rintro e w5 ⟨rfl,hb5⟩;have aom:Below wr.heap.size wr w5:=((Below.refl wr.heap.size wr).alloc (Nat.le_refl _) _).trans (hb5.mono (by simp));have p0:=(HR.below hb5 (by simp)).cell 0;have p7:w5.cell? ⟨w.heap.size+1,7,none⟩=_:=(aom.cell (p:=⟨w.heap.size+1,7,none⟩) (show w.heap.size+1 < wr.heap.size by omega)).trans q7;simp only [qI] at p0;have h05:=anX.trans (hb5.mono anX.size);have WZ:=hwb.trans (hb5.mono hwb.size);have ps:=(aom.cell (p:=⟨br,or+j*2,none⟩) hbr).trans s0;have Ro:=fun (n:Nat) => Calls.quiet_of_same (n:=n) ((aol q (w5.drewN n)).mono fun _ _ ⟨h1,h2⟩ => ⟨h1,h2.symm⟩);clear s0 hwb anX HR hb5 aom hb h0r q0 q6 q7 y0 y1 y2 y3 y4 y5 y6 y7 y8 y9 r0 r1;cases lY:dN x q with
 | some i =>
  exact zJq
 | none =>
  rw [lY] at jB;simp only [Option.isSome_none];clear lY;cases hfr:mM q
  · exact zJp
  rw [hfr] at Ro jB;have Ro:=hiQ Ro;clear hfr;have hw0:IntKind.i64.wrap (j:Int)=j:=IntWalk.i64_in _ (by omega);have hw1:IntKind.i64.wrap ((j:Int)+1 - 1)=j:=by rw [Int.add_sub_cancel];exact hw0
  have hw4:decide ((0:Int) < (j:Int)+1)=true:=decide_eq_true (by omega);by_cases hlq:u < q
  ·
   have hd:decide (q≤u)=false:=decide_eq_false (by omega);simp only [xH,decide_eq_true hlq,Option.isSome_none,Bool.not_false,Bool.true_and] at jB;go_wp2_with fail;go_quiet ((go_at_call 131;exact Ro.out _))
   clear hw0 hw1 hw4;exact zIz
  have hd:decide (q≤u)=true:=decide_eq_true (by omega);simp only [xH,decide_eq_false hlq,Bool.false_and,Bool.and_false] at jB;rw [jB.out] at Hb;go_wp2_with fail;go_quiet ((go_at_call 131;exact Ro.out _))
  clear hw0 hw1 hw4;go_wp2_with fail;go_ret;exact ⟨au (by rw [Hb.out];rfl),below_drewN h05 _⟩):p:=h
theorem zDt {p:Prop} (h:p:=by
 have h1':((v.items.length:Int) != (x.ah.length:Int))=true:=by rw [bne_iff_ne];omega
 rw [decide_eq_false h1] at Hb;clear h1;go_wp2_with fail;go_ret;exact ⟨au (by rw [Hb.out];rfl),h02⟩):p:=h
theorem zEb {p:Prop} (h:p:=by
 rw [hfy,Bool.true_and] at Hjx;clear hfy;go_wp2_with fail;go_roundw
 case rel => exact ⟨j+1,by go_num,by omega,Hjx.out,Z4⟩
 case measure => simp [intOf];omega):p:=h
theorem zEq {p:Prop} (h:p:=by
 rw [hfy,Bool.false_and] at Hjx;rw [Hjx.out] at Hb;clear hfy;go_wp2_with fail;go_ret;exact ⟨au (by rw [Hb.out]),h07⟩):p:=h
theorem zFq {p:Prop} (h:p:=by
 rw [Um] at Hb;clear Um;go_wp2_with fail;go_ret;exact ⟨au (by rw [Hb.out]),h0s⟩):p:=h
theorem auV
 (ts:List ay) (A:Option Addr) (c n:Nat) (v:Val) (A1 A2 A3:Option Addr) (n1 n2 n3:Nat) (w:World) (hn:n < ts.length) (hkx:ts[n].kind=5) (hkv:v.kind=5) (hp:aA v=true)
 (ht:aU w w.heap.size (.slice A ts.length c) ts) (hv:ValAt w w.heap.size v (.slice A1 v.keys.length n1) (.slice A2 v.items.length n2) (.slice A3 v.rest.length n3))
 (hf:∀ t,zL 107 ts (.slice A ts.length c) t true (fun y => cO ts true y t) (v.keys ++ v.items)) :
 Calls Tryz.prog 107 #[.agg #[.slice A ts.length c],.int .i64 n,aS v (.slice A1 v.keys.length n1) (.slice A2 v.items.length n2) (.slice A3 v.rest.length n3),.bool true] w (RTq w (.bool (jT ts true ts[n] v))):=by
 have h3b:=KH w;obtain ⟨b,o,rfl,hbb,hel⟩:=ht.elem (by omega);obtain ⟨vs,vm,hcells,hx⟩:=hel n hn;clear hel;generalize ts[n]=x at *;obtain ⟨C1,l1,C2,l2,rfl,rfl,-,-⟩:=hx.forms;obtain ⟨c0,c1,c2,c3,c4,c5,c6,c7,c8,c9⟩:=hcells;have hlt:(n:Int) < ts.length:=by omega
 have hd0:decide ((n:Int) < 0)=false:=by simp
 have hd1:decide (ts.length≤n)=false:=by simpa using hn
 simp only [aS,hkv];rw [hkx] at c0;have HP:=hiQ (fun W => aq1 v A1 A2 A3 n1 n2 n3 W hkv);simp only [aS,hkv,hp] at HP;have HF:=hiQ hf;have HT:=hiQ ht;have HV:=hiQ hv;have HX:=hiQ hx;have xI:=hiQ hkx;have Ul:=hiQ hkv;have hxs:=hx.lens;have hvl:=hv.lens;clear hf ht hv hx hkx hkv hp hn;go_enter Tryz.func107,Tryz.ntmps107
 go_wp2_with fail;refine (HP.out _).mono ?_;rintro e w2 ⟨rfl,hb2⟩;have HS:=(((Has.made _ _ _).alloc _).alloc _).below hb2 (by simp;omega);have HW:=((Has.made _ _ _).alloc _).below hb2 (by simp);have HY:=(Has.made _ _ _).below hb2 (by simp);rw [jG] at HW;rw [jG,jG] at HY;have h02:=(h3b _ _ _).trans (hb2.mono (h3b _ _ _).size);have hz2:=HY.here;have HT:=hiQ (HT.out.on h02);have HV:=hiQ (HV.out.on h02);have HX:=hiQ (HX.out.keep (fun _ hp => h02.cell hp) h02.size);obtain ⟨v0,v1,v2,v3,v4,v5,v6,v7⟩:=HW.c8;obtain ⟨t0,t1,t2,t3,t4,t5,t6,t7,t8,t9⟩:=HY.c10;have s0:=HS.cell 0;simp only [qI] at s0;clear hb2 h3b c0 c1 c2 c3 c4 c5 c6 c7 c8 c9;have HS:=hiQ HS;have HW:=hiQ HW;have HY:=hiQ HY;have HM:=hiQ (fun id W h => Qn x (.slice C1 x.syms.length l1) (.slice C2 x.ah.length l2) id W h);simp only [dA,xI.out,xg] at HM;have Hb:Hid (jT ts true x v=(decide (v.items.length=x.ah.length) && (!(true && decide (0 < v.rest.length)) && (xK x v.rest none && qL ts true v.items x.ah)))):=by
  show _=_;simp [ig,xI.out]
 by_cases h1:v.items.length=x.ah.length
 ·
  have h1':((v.items.length:Int) != (x.ah.length:Int))=false:=by simp [h1]
  have H1:=hiQ h1;rw [decide_eq_true h1,Bool.true_and] at Hb;clear h1;by_cases h3:0 < v.rest.length
  ·
   have h4:decide ((0:Int) < v.rest.length)=true:=decide_eq_true (by omega);have h5:decide (0 < v.rest.length)=true:=decide_eq_true (by omega);rw [h5] at Hb;go_wp2_with fail;go_ret;exact ⟨au (by rw [Hb.out];rfl),h02⟩
  have h5:decide (0 < v.rest.length)=false:=decide_eq_false (by omega);have h4:decide ((0:Int) < v.rest.length)=false:=decide_eq_false (by omega);rw [h5,Bool.and_false,Bool.not_false,Bool.true_and] at Hb;clear h3;go_wp2_with fail;have HHS:=HS;have HHW:=HW;have HHY:=HY;clear HS HW HY HP s0 v0 v1 v2 v3 v4 v5 v6 v7 t0 t1 t2 t3 t4 t5 t6 t7 t8 t9;go_loopw [113] (fun i wr => ∃ k:Nat,i = .int .i64 k∧k≤v.rest.length∧xK x v.rest none=xK x (v.rest.drop k) (nD v.rest k)∧Below w2.heap.size w2 wr) (fun i _ => v.rest.length - (intOf i).toNat)
  case atStart => exact ⟨0,rfl,by omega,rfl,Below.refl _ _⟩
  case round =>
   obtain ⟨k,rfl,hk,hix,hb⟩:=hrel;have q0:=(HHS.out.below hb (by omega)).cell 0;have q6:=(HHW.out.below hb (by omega)).cell 6;have q7:=(HHW.out.below hb (by omega)).cell 7;have y0:=(HHY.out.below hb (by omega)).cell 0;have y1:=(HHY.out.below hb (by omega)).cell 1;have y2:=(HHY.out.below hb (by omega)).cell 2;have y3:=(HHY.out.below hb (by omega)).cell 3;have y4:=(HHY.out.below hb (by omega)).cell 4;have y5:=(HHY.out.below hb (by omega)).cell 5;have y6:=(HHY.out.below hb (by omega)).cell 6;have y7:=(HHY.out.below hb (by omega)).cell 7;have y8:=(HHY.out.below hb (by omega)).cell 8;have y9:=(HHY.out.below hb (by omega)).cell 9;simp only [qI] at q0 q6 q7 y0 y1 y2 y3 y4 y5 y6 y7 y8 y9;by_cases hlt:k < v.rest.length
   · exact zBg
   rw [List.drop_eq_nil_of_le (by omega),xK] at hix;rw [hix,Bool.true_and] at Hb;have hzr:=hb.size;have HIr:=hiQ ((HV.out.on hb).items);have Dt:=hiQ ((HX.out.on hb).ah);have HTr:=hiQ (HT.out.on hb);have HHS:=hiQ (HHS.out.below hb (by omega));have HHW:=hiQ (HHW.out.below hb (by omega));have asY:w.heap.size+1 < wr.heap.size:=by omega
   have azR:w.heap.size < wr.heap.size:=by omega
   have h0r:=h02.trans (hb.mono h02.size);obtain ⟨wo,rfl⟩ : ∃ wo:World,wo=wr:=⟨_,rfl⟩
   clear hix hb h02 hzr;go_wp2_with fail;clear q0 q6 q7 y0 y1 y2 y3 y4 y5 y6 y7 y8 y9;go_loopw [152] (fun i ws => ∃ j:Nat,i = .int .i64 j∧j≤x.ah.length∧qL ts true v.items x.ah=qL ts true (v.items.drop j) (x.ah.drop j)∧Below wo.heap.size wo ws) (fun i _ => x.ah.length - (intOf i).toNat)
   case atStart => exact ⟨0,rfl,by omega,rfl,Below.refl _ _⟩
   case round =>
    obtain ⟨j,rfl,hj,Um,hc⟩:=hrel;have g0:=(HHS.out.below hc azR).cell 0;have g6:=(HHW.out.below hc asY).cell 6;simp only [qI] at g0 g6;have hzs:=hc.size;have h0s:=h0r.trans (hc.mono h0r.size);by_cases hlj:j < x.ah.length
    ·
     have ajj:j < v.items.length:=by have:=H1.out;omega
     obtain ⟨bm,om,rfl,hbm,hem⟩:=(Dt.out.on hc).elem (by omega);obtain ⟨mk,mi,mr,hmc,hma⟩:=hem j hlj;obtain ⟨bv,ov,rfl,hbv,hev⟩:=(HIr.out.on hc).elem (by omega);obtain ⟨yk,yi,yr,hcy,hya⟩:=hev j ajj;have hmem:v.items[j] ∈ v.items:=List.getElem_mem _;rw [agY ts true v.items x.ah j ajj hlj] at Um;have hi1:(j:Int) < x.ah.length:=by omega
     have hi2:(j:Int) < v.items.length:=by omega
     generalize x.ah[j]=m at *;generalize v.items[j]=y at *;obtain ⟨M1,l1,M2,l2,M3,l3,rfl,rfl,rfl,-,-,-⟩:=hma.dflt.forms;obtain ⟨B1,k1,B2,k2,B3,k3,rfl,rfl,rfl,-,-,-⟩:=hya.forms;obtain ⟨m0,m1,m2,m3,m4,m5,m6,m7,m8,m9,m10,m11,m12⟩:=hmc;obtain ⟨y0,y1,y2,y3,y4,y5,y6,y7⟩:=hcy;have sG:=hiQ hya;have xE:=hiQ hmem;have Hjx:=hiQ Um;have HTs:=hiQ (HTr.out.on hc);have azS:w.heap.size+1 < wr.heap.size:=by omega
     have azT:w.heap.size < wr.heap.size:=by omega
     clear hem hev hma hya hmem Um;have h1w:=(Below.refl wr.heap.size wr).alloc (Nat.le_refl _) (.cells #[.int .i64 m.id,.string ⟨m.name.toArray⟩,.int .i64 m.ty,.bool m.akb,.bool m.eG,.int .i64 m.dflt.kind,.bool m.dflt.bool,.int .i64 m.dflt.num,.string ⟨m.dflt.str.toArray⟩,.int .i64 m.dflt.id,.slice M1 m.dflt.keys.length l1,.slice M2 m.dflt.items.length l2,.slice M3 m.dflt.rest.length l3] 83);have HN:=Has.made wr 83 #[.int .i64 m.id,.string ⟨m.name.toArray⟩,.int .i64 m.ty,.bool m.akb,.bool m.eG,.int .i64 m.dflt.kind,.bool m.dflt.bool,.int .i64 m.dflt.num,.string ⟨m.dflt.str.toArray⟩,.int .i64 m.dflt.id,.slice M1 m.dflt.keys.length l1,.slice M2 m.dflt.items.length l2,.slice M3 m.dflt.rest.length l3];have hcw:=hc.alloc hc.size (.cells #[.int .i64 m.id,.string ⟨m.name.toArray⟩,.int .i64 m.ty,.bool m.akb,.bool m.eG,.int .i64 m.dflt.kind,.bool m.dflt.bool,.int .i64 m.dflt.num,.string ⟨m.dflt.str.toArray⟩,.int .i64 m.dflt.id,.slice M1 m.dflt.keys.length l1,.slice M2 m.dflt.items.length l2,.slice M3 m.dflt.rest.length l3] 83);have h0w:=h0s.alloc h0s.size (.cells #[.int .i64 m.id,.string ⟨m.name.toArray⟩,.int .i64 m.ty,.bool m.akb,.bool m.eG,.int .i64 m.dflt.kind,.bool m.dflt.bool,.int .i64 m.dflt.num,.string ⟨m.dflt.str.toArray⟩,.int .i64 m.dflt.id,.slice M1 m.dflt.keys.length l1,.slice M2 m.dflt.items.length l2,.slice M3 m.dflt.rest.length l3] 83);have HFm:=hiQ (HF.out m.ty y);go_wp2_with fail;clear m0 m1 m2 m3 m4 m5 m6 m7 m8 m9 m10 m11 m12;generalize wr.alloc (.cells #[.int .i64 m.id,.string ⟨m.name.toArray⟩,.int .i64 m.ty,.bool m.akb,.bool m.eG,.int .i64 m.dflt.kind,.bool m.dflt.bool,.int .i64 m.dflt.num,.string ⟨m.dflt.str.toArray⟩,.int .i64 m.dflt.id,.slice M1 m.dflt.keys.length l1,.slice M2 m.dflt.items.length l2,.slice M3 m.dflt.rest.length l3] 83)=w6 at *
     have g0:=(h1w.cell (p:=⟨w.heap.size,0,none⟩) azT).trans g0;have g6:=(h1w.cell (p:=⟨w.heap.size+1,6,none⟩) azS).trans g6;have y0:=(h1w.cell (p:=⟨bv,ov+j*8,none⟩) hbv).trans y0;have y1:=(h1w.cell (p:=⟨bv,ov+j*8+1,none⟩) hbv).trans y1;have y2:=(h1w.cell (p:=⟨bv,ov+j*8+2,none⟩) hbv).trans y2;have y3:=(h1w.cell (p:=⟨bv,ov+j*8+3,none⟩) hbv).trans y3;have y4:=(h1w.cell (p:=⟨bv,ov+j*8+4,none⟩) hbv).trans y4;have y5:=(h1w.cell (p:=⟨bv,ov+j*8+5,none⟩) hbv).trans y5;have y6:=(h1w.cell (p:=⟨bv,ov+j*8+6,none⟩) hbv).trans y6;have y7:=(h1w.cell (p:=⟨bv,ov+j*8+7,none⟩) hbv).trans y7;have n2:=HN.cell 2;simp only [qI] at n2;clear HN;go_still_tail 9,(by kernel_rfl)
     change wpList _ _ _ _ _ w6.drew
     have sG:=hiQ (sG.out.on h1w.drew);have HTs:=hiQ (HTs.out.on h1w.drew);have hcw:=hcw.drew;have h0w:=h0w.drew;clear n2 h1w g0 g6 y0 y1 y2 y3 y4 y5 y6 y7;generalize w6.drew=w8 at *;go_wp2_with fail;refine (HFm.out _ _ _ _ (by simp [xE.out]) sG.out HTs.out).mono ?_;rintro e w7 ⟨rfl,hb7⟩;have Z4:=hcw.trans (hb7.mono hcw.size);have h07:=h0w.trans (hb7.mono h0w.size);clear hb7 hcw h0w;cases hfy:cO ts true y m.ty
     · exact zEq
     exact zEb
    rw [aee ts true v.items x.ah j (by have:=H1.out;omega) (by omega)] at Um;exact zFq
 exact zDt
theorem aub
 (ts:List ay) (A:Option Addr) (c n:Nat) (v:Val) (A1 A2 A3:Option Addr) (n1 n2 n3:Nat) (w:World) (hn:n < ts.length) (hkx:ts[n].kind=5) (hkv:v.kind=5) (hp:aA v=true)
 (ht:aU w w.heap.size (.slice A ts.length c) ts) (hv:ValAt w w.heap.size v (.slice A1 v.keys.length n1) (.slice A2 v.items.length n2) (.slice A3 v.rest.length n3))
 (hf:∀ t,zL 107 ts (.slice A ts.length c) t false (fun y => cO ts false y t) (v.keys ++ v.items)) :
 Calls Tryz.prog 107 #[.agg #[.slice A ts.length c],.int .i64 n,aS v (.slice A1 v.keys.length n1) (.slice A2 v.items.length n2) (.slice A3 v.rest.length n3),.bool false] w (RTq w (.bool (jT ts false ts[n] v))):=by
 have h3b:=KH w;obtain ⟨b,o,rfl,hbb,hel⟩:=ht.elem (by omega);obtain ⟨vs,vm,hcells,hx⟩:=hel n hn;clear hel;generalize ts[n]=x at *;obtain ⟨C1,l1,C2,l2,rfl,rfl,-,-⟩:=hx.forms;obtain ⟨c0,c1,c2,c3,c4,c5,c6,c7,c8,c9⟩:=hcells;have hlt:(n:Int) < ts.length:=by omega
 have hd0:decide ((n:Int) < 0)=false:=by simp
 have hd1:decide (ts.length≤n)=false:=by simpa using hn
 simp only [aS,hkv];rw [hkx] at c0;have HP:=hiQ (fun W => aq1 v A1 A2 A3 n1 n2 n3 W hkv);simp only [aS,hkv,hp] at HP;have HF:=hiQ hf;have HT:=hiQ ht;have HV:=hiQ hv;have HX:=hiQ hx;have xI:=hiQ hkx;have Ul:=hiQ hkv;have hxs:=hx.lens;have hvl:=hv.lens;clear hf ht hv hx hkx hkv hp hn;go_enter Tryz.func107,Tryz.ntmps107
 go_wp2_with fail;refine (HP.out _).mono ?_;rintro e w2 ⟨rfl,hb2⟩;have HS:=(((Has.made _ _ _).alloc _).alloc _).below hb2 (by simp;omega);have HW:=((Has.made _ _ _).alloc _).below hb2 (by simp);have HY:=(Has.made _ _ _).below hb2 (by simp);rw [jG] at HW;rw [jG,jG] at HY;have h02:=(h3b _ _ _).trans (hb2.mono (h3b _ _ _).size);have hz2:=HY.here;have HT:=hiQ (HT.out.on h02);have HV:=hiQ (HV.out.on h02);have HX:=hiQ (HX.out.keep (fun _ hp => h02.cell hp) h02.size);obtain ⟨v0,v1,v2,v3,v4,v5,v6,v7⟩:=HW.c8;obtain ⟨t0,t1,t2,t3,t4,t5,t6,t7,t8,t9⟩:=HY.c10;have s0:=HS.cell 0;simp only [qI] at s0;clear hb2 h3b c0 c1 c2 c3 c4 c5 c6 c7 c8 c9;have HS:=hiQ HS;have HW:=hiQ HW;have HY:=hiQ HY;have HM:=hiQ (fun id W h => Qn x (.slice C1 x.syms.length l1) (.slice C2 x.ah.length l2) id W h);simp only [dA,xI.out,xg] at HM;have Hb:Hid (jT ts false x v=(decide (v.items.length=x.ah.length) && (!(false && decide (0 < v.rest.length)) && (xK x v.rest none && qL ts false v.items x.ah)))):=by
  show _=_;simp [ig,xI.out]
 by_cases h1:v.items.length=x.ah.length
 ·
  have h1':((v.items.length:Int) != (x.ah.length:Int))=false:=by simp [h1]
  have H1:=hiQ h1;rw [decide_eq_true h1,Bool.true_and] at Hb;clear h1;rw [Bool.false_and,Bool.not_false,Bool.true_and] at Hb;go_wp2_with fail;have HHS:=HS;have HHW:=HW;have HHY:=HY;clear HS HW HY HP s0 v0 v1 v2 v3 v4 v5 v6 v7 t0 t1 t2 t3 t4 t5 t6 t7 t8 t9;go_loopw [113] (fun i wr => ∃ k:Nat,i = .int .i64 k∧k≤v.rest.length∧xK x v.rest none=xK x (v.rest.drop k) (nD v.rest k)∧Below w2.heap.size w2 wr) (fun i _ => v.rest.length - (intOf i).toNat)
  case atStart => exact ⟨0,rfl,by omega,rfl,Below.refl _ _⟩
  case round =>
   obtain ⟨k,rfl,hk,hix,hb⟩:=hrel;have q0:=(HHS.out.below hb (by omega)).cell 0;have q6:=(HHW.out.below hb (by omega)).cell 6;have q7:=(HHW.out.below hb (by omega)).cell 7;have y0:=(HHY.out.below hb (by omega)).cell 0;have y1:=(HHY.out.below hb (by omega)).cell 1;have y2:=(HHY.out.below hb (by omega)).cell 2;have y3:=(HHY.out.below hb (by omega)).cell 3;have y4:=(HHY.out.below hb (by omega)).cell 4;have y5:=(HHY.out.below hb (by omega)).cell 5;have y6:=(HHY.out.below hb (by omega)).cell 6;have y7:=(HHY.out.below hb (by omega)).cell 7;have y8:=(HHY.out.below hb (by omega)).cell 8;have y9:=(HHY.out.below hb (by omega)).cell 9;simp only [qI] at q0 q6 q7 y0 y1 y2 y3 y4 y5 y6 y7 y8 y9;by_cases hlt:k < v.rest.length
   · exact zBg
   rw [List.drop_eq_nil_of_le (by omega),xK] at hix;rw [hix,Bool.true_and] at Hb;have hzr:=hb.size;have HIr:=hiQ ((HV.out.on hb).items);have Dt:=hiQ ((HX.out.on hb).ah);have HTr:=hiQ (HT.out.on hb);have HHS:=hiQ (HHS.out.below hb (by omega));have HHW:=hiQ (HHW.out.below hb (by omega));have asY:w.heap.size+1 < wr.heap.size:=by omega
   have azR:w.heap.size < wr.heap.size:=by omega
   have h0r:=h02.trans (hb.mono h02.size);obtain ⟨wo,rfl⟩ : ∃ wo:World,wo=wr:=⟨_,rfl⟩
   clear hix hb h02 hzr;go_wp2_with fail;clear q0 q6 q7 y0 y1 y2 y3 y4 y5 y6 y7 y8 y9;go_loopw [152] (fun i ws => ∃ j:Nat,i = .int .i64 j∧j≤x.ah.length∧qL ts false v.items x.ah=qL ts false (v.items.drop j) (x.ah.drop j)∧Below wo.heap.size wo ws) (fun i _ => x.ah.length - (intOf i).toNat)
   case atStart => exact ⟨0,rfl,by omega,rfl,Below.refl _ _⟩
   case round =>
    obtain ⟨j,rfl,hj,Um,hc⟩:=hrel;have g0:=(HHS.out.below hc azR).cell 0;have g6:=(HHW.out.below hc asY).cell 6;simp only [qI] at g0 g6;have hzs:=hc.size;have h0s:=h0r.trans (hc.mono h0r.size);by_cases hlj:j < x.ah.length
    ·
     have ajj:j < v.items.length:=by have:=H1.out;omega
     obtain ⟨bm,om,rfl,hbm,hem⟩:=(Dt.out.on hc).elem (by omega);obtain ⟨mk,mi,mr,hmc,hma⟩:=hem j hlj;obtain ⟨bv,ov,rfl,hbv,hev⟩:=(HIr.out.on hc).elem (by omega);obtain ⟨yk,yi,yr,hcy,hya⟩:=hev j ajj;have hmem:v.items[j] ∈ v.items:=List.getElem_mem _;rw [agY ts false v.items x.ah j ajj hlj] at Um;have hi1:(j:Int) < x.ah.length:=by omega
     have hi2:(j:Int) < v.items.length:=by omega
     generalize x.ah[j]=m at *;generalize v.items[j]=y at *;obtain ⟨M1,l1,M2,l2,M3,l3,rfl,rfl,rfl,-,-,-⟩:=hma.dflt.forms;obtain ⟨B1,k1,B2,k2,B3,k3,rfl,rfl,rfl,-,-,-⟩:=hya.forms;obtain ⟨m0,m1,m2,m3,m4,m5,m6,m7,m8,m9,m10,m11,m12⟩:=hmc;obtain ⟨y0,y1,y2,y3,y4,y5,y6,y7⟩:=hcy;have sG:=hiQ hya;have xE:=hiQ hmem;have Hjx:=hiQ Um;have HTs:=hiQ (HTr.out.on hc);have azS:w.heap.size+1 < wr.heap.size:=by omega
     have azT:w.heap.size < wr.heap.size:=by omega
     clear hem hev hma hya hmem Um;have h1w:=(Below.refl wr.heap.size wr).alloc (Nat.le_refl _) (.cells #[.int .i64 m.id,.string ⟨m.name.toArray⟩,.int .i64 m.ty,.bool m.akb,.bool m.eG,.int .i64 m.dflt.kind,.bool m.dflt.bool,.int .i64 m.dflt.num,.string ⟨m.dflt.str.toArray⟩,.int .i64 m.dflt.id,.slice M1 m.dflt.keys.length l1,.slice M2 m.dflt.items.length l2,.slice M3 m.dflt.rest.length l3] 83);have HN:=Has.made wr 83 #[.int .i64 m.id,.string ⟨m.name.toArray⟩,.int .i64 m.ty,.bool m.akb,.bool m.eG,.int .i64 m.dflt.kind,.bool m.dflt.bool,.int .i64 m.dflt.num,.string ⟨m.dflt.str.toArray⟩,.int .i64 m.dflt.id,.slice M1 m.dflt.keys.length l1,.slice M2 m.dflt.items.length l2,.slice M3 m.dflt.rest.length l3];have hcw:=hc.alloc hc.size (.cells #[.int .i64 m.id,.string ⟨m.name.toArray⟩,.int .i64 m.ty,.bool m.akb,.bool m.eG,.int .i64 m.dflt.kind,.bool m.dflt.bool,.int .i64 m.dflt.num,.string ⟨m.dflt.str.toArray⟩,.int .i64 m.dflt.id,.slice M1 m.dflt.keys.length l1,.slice M2 m.dflt.items.length l2,.slice M3 m.dflt.rest.length l3] 83);have h0w:=h0s.alloc h0s.size (.cells #[.int .i64 m.id,.string ⟨m.name.toArray⟩,.int .i64 m.ty,.bool m.akb,.bool m.eG,.int .i64 m.dflt.kind,.bool m.dflt.bool,.int .i64 m.dflt.num,.string ⟨m.dflt.str.toArray⟩,.int .i64 m.dflt.id,.slice M1 m.dflt.keys.length l1,.slice M2 m.dflt.items.length l2,.slice M3 m.dflt.rest.length l3] 83);have HFm:=hiQ (HF.out m.ty y);go_wp2_with fail;clear m0 m1 m2 m3 m4 m5 m6 m7 m8 m9 m10 m11 m12;generalize wr.alloc (.cells #[.int .i64 m.id,.string ⟨m.name.toArray⟩,.int .i64 m.ty,.bool m.akb,.bool m.eG,.int .i64 m.dflt.kind,.bool m.dflt.bool,.int .i64 m.dflt.num,.string ⟨m.dflt.str.toArray⟩,.int .i64 m.dflt.id,.slice M1 m.dflt.keys.length l1,.slice M2 m.dflt.items.length l2,.slice M3 m.dflt.rest.length l3] 83)=w6 at *
     have g0:=(h1w.cell (p:=⟨w.heap.size,0,none⟩) azT).trans g0;have g6:=(h1w.cell (p:=⟨w.heap.size+1,6,none⟩) azS).trans g6;have y0:=(h1w.cell (p:=⟨bv,ov+j*8,none⟩) hbv).trans y0;have y1:=(h1w.cell (p:=⟨bv,ov+j*8+1,none⟩) hbv).trans y1;have y2:=(h1w.cell (p:=⟨bv,ov+j*8+2,none⟩) hbv).trans y2;have y3:=(h1w.cell (p:=⟨bv,ov+j*8+3,none⟩) hbv).trans y3;have y4:=(h1w.cell (p:=⟨bv,ov+j*8+4,none⟩) hbv).trans y4;have y5:=(h1w.cell (p:=⟨bv,ov+j*8+5,none⟩) hbv).trans y5;have y6:=(h1w.cell (p:=⟨bv,ov+j*8+6,none⟩) hbv).trans y6;have y7:=(h1w.cell (p:=⟨bv,ov+j*8+7,none⟩) hbv).trans y7;have n2:=HN.cell 2;simp only [qI] at n2;clear HN;go_still_tail 9,(by kernel_rfl)
     change wpList _ _ _ _ _ w6.drew
     have sG:=hiQ (sG.out.on h1w.drew);have HTs:=hiQ (HTs.out.on h1w.drew);have hcw:=hcw.drew;have h0w:=h0w.drew;clear n2 h1w g0 g6 y0 y1 y2 y3 y4 y5 y6 y7;generalize w6.drew=w8 at *;go_wp2_with fail;refine (HFm.out _ _ _ _ (by simp [xE.out]) sG.out HTs.out).mono ?_;rintro e w7 ⟨rfl,hb7⟩;have Z4:=hcw.trans (hb7.mono hcw.size);have h07:=h0w.trans (hb7.mono h0w.size);clear hb7 hcw h0w;cases hfy:cO ts false y m.ty
     · exact zEq
     exact zEb
    rw [aee ts false v.items x.ah j (by have:=H1.out;omega) (by omega)] at Um;exact zFq
 exact zDt
end Go.Proofs.YtlamhkffnlgofaaGreatDoor

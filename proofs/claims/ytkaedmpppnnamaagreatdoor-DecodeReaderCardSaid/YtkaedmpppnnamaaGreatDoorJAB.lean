/- What fit of the reference computes for maps, and what else is used with it. No condition. -/
import Derived.Test.YtkaedmpppnnamaaGreatDoorJAA
import Derived.IntWalk
import Derived.Test.YtkaedmpppnnamaaGreatDoorFitsE
set_option maxHeartbeats 1600000
set_option maxRecDepth 100000
namespace Go.Proofs.YtkaedmpppnnamaaGreatDoor
open ChangeShapes WideShapes ChangeAt RowKit
theorem IZ
 (ts:List ay) (A:Option Addr) (c n:Nat) (v:Val) (A1 A2 A3:Option Addr) (n1 n2 n3:Nat) (w:World) (hn:n < ts.length) (hkx:ts[n].kind=8) (hkv:v.kind=8) (hp:aA v=true)
 (ht:aU w w.heap.size (.slice A ts.length c) ts) (hv:ValAt w w.heap.size v (.slice A1 v.keys.length n1) (.slice A2 v.items.length n2) (.slice A3 v.rest.length n3))
 (hf:∀ t,zL 32 ts (.slice A ts.length c) t false (fun y => cO ts false y t) (v.keys ++ v.items)) :
 Calls Tryz.prog 32 #[.agg #[.slice A ts.length c],.int .i64 n,aS v (.slice A1 v.keys.length n1) (.slice A2 v.items.length n2) (.slice A3 v.rest.length n3),.bool false] w (RT w (.bool (jT ts false ts[n] v))):=by
 have h3b:=KH w;obtain ⟨b,o,rfl,hbb,hel⟩:=ht.elem (by omega);obtain ⟨vs,vm,A_,hx⟩:=hel n hn;clear hel;generalize ts[n]=x at *;obtain ⟨C1,l1,C2,l2,rfl,rfl,-,-⟩:=hx.forms;obtain ⟨c0,c1,c2,c3,c4,c5,c6,c7,c8,c9⟩:=A_;have hlt:(n:Int) < ts.length:=by omega
 have hd0:decide ((n:Int) < 0)=false:=by simp
 have hd1:decide (ts.length<=n)=false:=by simpa using hn
 simp only [aS,hkv];rw [hkx] at c0;have HP:=f_ (fun W => Rl v A1 A2 A3 n1 n2 n3 W hkv);simp only [aS,hkv,hp] at HP;have HF:=f_ hf;have HT:=f_ ht;have HV:=f_ hv;have HX:=f_ hx;have xI:=f_ hkx;have Ul:=f_ hkv;have hxs:=hx.lens;have hvl:=hv.lens;clear hf ht hv hx hkx hkv hp hn;go_enter Tryz.func32,Tryz.ntmps32
 go_wp2_with fail;refine (HP.out _).mono ?_;rintro e w2 ⟨rfl,hb2⟩;have HS:=(((Has.made _ _ _).alloc _).alloc _).below hb2 (by simp;omega);have HW:=((Has.made _ _ _).alloc _).below hb2 (by simp);have HY:=(Has.made _ _ _).below hb2 (by simp);rw [jG] at HW;rw [jG,jG] at HY;have h02:=(h3b _ _ _).trans (hb2.mono (h3b _ _ _).size);have hz2:=HY.here;have HT:=f_ (HT.out.on h02);have HV:=f_ (HV.out.on h02);have HX:=f_ (HX.out.keep (fun _ hp => h02.cell hp) h02.size);obtain ⟨v0,v1,v2,v3,v4,v5,v6,v7⟩:=HW.c8;obtain ⟨t0,t1,t2,t3,t4,t5,t6,t7,t8,t9⟩:=HY.c10;have s0:=HS.cell 0;simp only [qI] at s0;clear hb2 h3b c0 c1 c2 c3 c4 c5 c6 c7 c8 c9;have HS:=f_ HS;have HW:=f_ HW;have HY:=f_ HY;have HK:=f_ (fun W hi ht => Jq ts (some ⟨b,o,none⟩) c x.key false (fun y => cO ts false y x.key) v.keys (.slice A1 v.keys.length n1) W (fun y vk vi vr W' hm => HF.out x.key y vk vi vr W' (by simp [hm])) hvl.1 hi ht);have HE:=f_ (fun W hi ht => Jq ts (some ⟨b,o,none⟩) c x.elem false (fun y => cO ts false y x.elem) v.items (.slice A2 v.items.length n2) W (fun y vk vi vr W' hm => HF.out x.elem y vk vi vr W' (by simp [hm])) hvl.2.1 hi ht);rw [<- uT] at HE HK;have Hb:Hid (jT ts false x v=(decide ((v.keys.length:Int)<=x.max) && (decide (v.items.length=v.keys.length) && (rC ts false v.keys x.key && (qR v.keys && rC ts false v.items x.elem))))):=by
  show _=_;simp [ig,xI.out]
 by_cases h1:((v.keys.length:Int)<=x.max)
 .
  have h1':decide (x.max < (v.keys.length:Int))=false:=h_ (by omega);by_cases h2:v.items.length=v.keys.length
  .
   have h2':((v.items.length:Int) != (v.keys.length:Int))=false:=by simp [h2]
   rw [t_ h1,t_ h2] at Hb;clear h1 h2;cases hfk:rC ts false v.keys x.key
   .
    rw [hfk] at HK Hb;clear hfk;go_wp2_with fail;refine (HK.out _ HV.out.keys HT.out).mono ?_;rintro e w3 ⟨rfl,hb3⟩;go_wp2_with fail;go_ret;exact ⟨au (by rw [Hb.out];simp),h02.trans (hb3.mono h02.size)⟩
   rw [hfk] at HK Hb;clear hfk;go_wp2_with fail;refine (HK.out _ HV.out.keys HT.out).mono ?_;rintro e w3 ⟨rfl,hb3⟩;have h03:=h02.trans (hb3.mono h02.size);have HV:=f_ (HV.out.on hb3);have HT:=f_ (HT.out.on hb3);have HX:=f_ (HX.out.on hb3);have HS:=HS.out.below hb3 (by omega);have HW:=HW.out.below hb3 (by omega);have HY:=HY.out.below hb3 (by omega);have hz3:=HY.here;clear s0 v0 v1 v2 v3 v4 v5 v6 v7 t0 t1 t2 t3 t4 t5 t6 t7 t8 t9;have s0:=HS.cell 0;have v4:=HW.cell 4;have v5:=HW.cell 5;have v6:=HW.cell 6;have v7:=HW.cell 7;have t6:=HY.cell 6;have t8:=HY.cell 8;have t9:=HY.cell 9;simp only [qI] at s0 v4 v5 v6 v7 t6 t8 t9;have HS:=f_ HS;have HW:=f_ HW;have HY:=f_ HY;clear hb3 h02;go_wp2_with fail;refine (HE.out _ HV.out.items HT.out).mono ?_;rintro e w4 ⟨rfl,hb4⟩;have hb3:=hb4;have h02:=h03;clear hb4 h03;have h03:=h02.trans (hb3.mono h02.size);have HV:=f_ (HV.out.on hb3);have HT:=f_ (HT.out.on hb3);have HX:=f_ (HX.out.on hb3);have HS:=HS.out.below hb3 (by omega);have HW:=HW.out.below hb3 (by omega);have HY:=HY.out.below hb3 (by omega);have hz3:=HY.here;clear s0 v4 v5 v6 v7 t6 t8 t9;have s0:=HS.cell 0;have v4:=HW.cell 4;have v5:=HW.cell 5;have v6:=HW.cell 6;have v7:=HW.cell 7;have t6:=HY.cell 6;have t8:=HY.cell 8;have t9:=HY.cell 9;simp only [qI] at s0 v4 v5 v6 v7 t6 t8 t9;have HS:=f_ HS;have HW:=f_ HW;have HY:=f_ HY;clear hb3 h02;cases hfe:rC ts false v.items x.elem
   .
    rw [hfe] at Hb;clear hfe;go_wp2_with fail;go_ret;exact ⟨au (by rw [Hb.out];simp),h03⟩
   rw [hfe] at Hb;clear hfe;go_wp2_with fail;have HHS:=HS;have HHW:=HW;have HHY:=HY;clear HS HW HY HP HK;go_loopw [15] (fun i wr => ∃ k:Nat,i = .int .i64 ((k:Int)+1)/\k<=v.keys.length/\qR v.keys=qR (v.keys.drop k)/\Below w4.heap.size w4 wr) (fun i _ => v.keys.length+1 - (intOf i).toNat)
   case atStart => exact ⟨0,rfl,by omega,rfl,j_ _ _⟩
   case round =>
    obtain ⟨k,rfl,hk,hix,hb⟩:=hrel;have q0:=(HHS.out.below hb (by omega)).cell 0;have q5:=(HHW.out.below hb (by omega)).cell 5;have q6:=(HHW.out.below hb (by omega)).cell 6;have q8:=(HHY.out.below hb (by omega)).cell 8;simp only [qI] at q0 q5 q6 q8;by_cases hlt:k+1 < v.keys.length
    .
     obtain ⟨bk,ok,rfl,hbk,hek⟩:=(HV.out.on hb).keys.elem (by omega);obtain ⟨xk,xi,xr,hcx,hxa⟩:=hek k (by omega);obtain ⟨yk,yi,yr,hcy,hya⟩:=hek (k+1) hlt;rw [Yp _ _ hlt] at hix;generalize v.keys[k]=a at *;generalize v.keys[k+1]=d at *;obtain ⟨E1,k1,E2,k2,E3,k3,rfl,rfl,rfl,-,-,-⟩:=hxa.forms;obtain ⟨F1,m1,F2,m2,F3,m3,rfl,rfl,rfl,-,-,-⟩:=hya.forms;obtain ⟨a0,a1,a2,a3,a4,a5,a6,a7⟩:=hcx;obtain ⟨d0,d1,d2,d3,d4,d5,d6,d7⟩:=hcy;have HA:=f_ hxa;have HD:=f_ hya;have jB:=f_ hix;have hi1:(k:Int)+1 < v.keys.length:=by omega
     have hi2:(k:Int) < v.keys.length:=by omega
     have h0r:=h03.trans (hb.mono h03.size);clear hek hxa hya hix;go_wp2_with fail;have hw0:IntKind.i64.wrap (k:Int)=k:=FD _ (by omega);have hw1:IntKind.i64.wrap ((k:Int)+1 - 1)=k:=by rw [Int.add_sub_cancel];exact hw0
     have hw2:((k:Int)+1).toNat=k+1:=by omega
     have hw3:0<=(k:Int)+1:=by omega
     go_still_tail 11,(by kernel_rfl)
     change wpList _ _ _ _ _ wr.drew
     have HA:=f_ (HA.out.on (w':=wr.drew) (j_ _ _).drew);have HD:=f_ (HD.out.on (w':=wr.drew) (j_ _ _).drew);have hbd:=hb.drew;have GK:=h0r.drew;obtain ⟨cv,hcv⟩ : ∃ cv,Hid (gQ a d=cv):=⟨_,rfl⟩
     clear hb h0r a0 a1 a2 a3 a4 a5 a6 a7 d0 d1 d2 d3 d4 d5 d6 d7 q0 q5 q6 q8;generalize wr.drew=w4 at *;go_wp2_with fail;refine (KU a d _ _ _ _ _ _ _ HA.out HD.out).mono ?_;rintro e w5 ⟨rfl,hb5⟩;have WZ:=hbd.trans (hb5.mono hbd.size);have h05:=GK.trans (hb5.mono GK.size);rw [hcv.out] at jB ⊢;clear hw0 hw1 hw2 hw3 hb5 hbd GK hcv;by_cases hneg:cv < 0
     .
      have hd:decide (0<=cv)=false:=h_ (by omega);rw [t_ hneg,E_] at jB;go_wp2_with fail;go_roundw
      case rel => exact ⟨k+1,by go_num,by omega,jB.out,WZ⟩
      case measure => simp [intOf];omega
     have hd:decide (0<=cv)=true:=t_ (by omega);rw [h_ hneg,U_] at jB;rw [jB.out] at Hb;go_wp2_with fail;go_ret;exact ⟨au (by rw [Hb.out];simp),h05⟩
    rw [Va _ _ (by omega)] at hix;rw [hix] at Hb;have h0r:=h03.trans (hb.mono h03.size);clear hix hb h03;go_wp2_with fail;go_ret;exact ⟨au (by rw [Hb.out];simp),h0r⟩
  have h2':((v.items.length:Int) != (v.keys.length:Int))=true:=by rw [V6];omega
  rw [t_ h1,h_ h2] at Hb;clear h1 h2;go_wp2_with fail;go_ret;exact ⟨au (by rw [Hb.out];simp),h02⟩
 have h1':decide (x.max < (v.keys.length:Int))=true:=t_ (by omega);rw [h_ h1] at Hb;clear h1;go_wp2_with fail;go_ret;exact ⟨au (by rw [Hb.out];simp),h02⟩
theorem I4
 (ts:List ay) (A:Option Addr) (c n:Nat) (v:Val) (A1 A2 A3:Option Addr) (n1 n2 n3:Nat) (w:World) (hn:n < ts.length) (hkx:ts[n].kind=5) (hkv:v.kind=5) (hp:aA v=true)
 (ht:aU w w.heap.size (.slice A ts.length c) ts) (hv:ValAt w w.heap.size v (.slice A1 v.keys.length n1) (.slice A2 v.items.length n2) (.slice A3 v.rest.length n3))
 (hf:∀ t,zL 32 ts (.slice A ts.length c) t false (fun y => cO ts false y t) (v.keys ++ v.items)) :
 Calls Tryz.prog 32 #[.agg #[.slice A ts.length c],.int .i64 n,aS v (.slice A1 v.keys.length n1) (.slice A2 v.items.length n2) (.slice A3 v.rest.length n3),.bool false] w (RT w (.bool (jT ts false ts[n] v))):=by
 have h3b:=KH w;obtain ⟨b,o,rfl,hbb,hel⟩:=ht.elem (by omega);obtain ⟨vs,vm,A_,hx⟩:=hel n hn;clear hel;generalize ts[n]=x at *;obtain ⟨C1,l1,C2,l2,rfl,rfl,-,-⟩:=hx.forms;obtain ⟨c0,c1,c2,c3,c4,c5,c6,c7,c8,c9⟩:=A_;have hlt:(n:Int) < ts.length:=by omega
 have hd0:decide ((n:Int) < 0)=false:=by simp
 have hd1:decide (ts.length<=n)=false:=by simpa using hn
 simp only [aS,hkv];rw [hkx] at c0;have HP:=f_ (fun W => Ri v A1 A2 A3 n1 n2 n3 W hkv);simp only [aS,hkv,hp] at HP;have HF:=f_ hf;have HT:=f_ ht;have HV:=f_ hv;have HX:=f_ hx;have xI:=f_ hkx;have Ul:=f_ hkv;have hxs:=hx.lens;have hvl:=hv.lens;clear hf ht hv hx hkx hkv hp hn;go_enter Tryz.func32,Tryz.ntmps32
 go_wp2_with fail;refine (HP.out _).mono ?_;rintro e w2 ⟨rfl,hb2⟩;have HS:=(((Has.made _ _ _).alloc _).alloc _).below hb2 (by simp;omega);have HW:=((Has.made _ _ _).alloc _).below hb2 (by simp);have HY:=(Has.made _ _ _).below hb2 (by simp);rw [jG] at HW;rw [jG,jG] at HY;have h02:=(h3b _ _ _).trans (hb2.mono (h3b _ _ _).size);have hz2:=HY.here;have HT:=f_ (HT.out.on h02);have HV:=f_ (HV.out.on h02);have HX:=f_ (HX.out.keep (fun _ hp => h02.cell hp) h02.size);obtain ⟨v0,v1,v2,v3,v4,v5,v6,v7⟩:=HW.c8;obtain ⟨t0,t1,t2,t3,t4,t5,t6,t7,t8,t9⟩:=HY.c10;have s0:=HS.cell 0;simp only [qI] at s0;clear hb2 h3b c0 c1 c2 c3 c4 c5 c6 c7 c8 c9;have HS:=f_ HS;have HW:=f_ HW;have HY:=f_ HY;have HRt:=f_ (fun W h1 h2 => acN x (.slice C1 x.syms.length l1) (.slice C2 x.ah.length l2) v.rest (.slice A3 v.rest.length n3) W hvl.2.2 h1 h2);simp only [dA,xI.out] at HRt;have Hb:Hid (jT ts false x v=(decide (v.items.length=x.ah.length) && (xK x v.rest none && qL ts false v.items x.ah))):=by
  show _=_;rw [show jT ts false x v=(decide (v.items.length=x.ah.length) && (!(false && decide (0 < v.rest.length)) && (xK x v.rest none && qL ts false v.items x.ah))) by simp [ig,xI.out]]
  rfl
 by_cases h1:v.items.length=x.ah.length
 .
  have h1':((v.items.length:Int) != (x.ah.length:Int))=false:=by simp [h1]
  have H1:=f_ h1;rw [t_ h1,E_] at Hb;clear h1;go_wp2_with fail;refine (HRt.out _ HX.out HV.out.rest).mono ?_;rintro e w3 ⟨rfl,hb3⟩;have h03:=h02.trans (hb3.mono h02.size);have HV:=f_ (HV.out.on hb3);have HT:=f_ (HT.out.on hb3);have HX:=f_ (HX.out.on hb3);have HS:=HS.out.below hb3 (by omega);have HW:=HW.out.below hb3 (by omega);have HY:=HY.out.below hb3 (by omega);have hz3:=HY.here;clear s0 v0 v1 v2 v3 v4 v5 v6 v7 t0 t1 t2 t3 t4 t5 t6 t7 t8 t9;have s0:=HS.cell 0;have v4:=HW.cell 4;have v5:=HW.cell 5;have v6:=HW.cell 6;have v7:=HW.cell 7;have t6:=HY.cell 6;have t8:=HY.cell 8;have t9:=HY.cell 9;simp only [qI] at s0 v4 v5 v6 v7 t6 t8 t9;have HS:=f_ HS;have HW:=f_ HW;have HY:=f_ HY;clear hb3 h02;cases hrb:xK x v.rest none
  .
   rw [hrb] at Hb;clear hrb;go_wp2_with fail;go_ret;exact ⟨au (by rw [Hb.out];rfl),h03⟩
  rw [hrb,E_] at Hb;clear hrb;go_wp2_with fail;have HHS:=HS;have HHW:=HW;have HHY:=HY;clear HS HW HY HP HRt;go_loopw [12] (fun i wr => ∃ j:Nat,i = .int .i64 j/\j<=v.items.length/\qL ts false v.items x.ah=qL ts false (v.items.drop j) (x.ah.drop j)/\Below w3.heap.size w3 wr) (fun i _ => v.items.length - (intOf i).toNat)
  case atStart => exact ⟨0,rfl,by omega,rfl,j_ _ _⟩
  case round =>
   obtain ⟨j,rfl,hj,Um,hc⟩:=hrel;have g0:=(HHS.out.below hc (by omega)).cell 0;have g6:=(HHW.out.below hc (by omega)).cell 6;have g7:=(HHY.out.below hc (by omega)).cell 6;simp only [qI] at g0 g6 g7;have h0s:=h03.trans (hc.mono h03.size);by_cases hlj:j < v.items.length
   .
    have ajj:j < x.ah.length:=by have:=H1.out;omega
    obtain ⟨bm,om,rfl,hbm,hem⟩:=((HX.out.on hc).ah).elem (by omega);obtain ⟨mk,mi,mr,hmc,-⟩:=hem j ajj;have m2:=hmc.2.2.1;obtain ⟨bv,ov,rfl,hbv,hev⟩:=((HV.out.on hc).items).elem (by omega);obtain ⟨yk,yi,yr,hcy,hya⟩:=hev j hlj;have hmem:v.items[j] ∈ v.items:=o_ _;rw [agY ts false v.items x.ah j hlj ajj] at Um;have hi1:(j:Int) < x.ah.length:=by omega
    have hi2:(j:Int) < v.items.length:=by omega
    generalize x.ah[j].ty=ty at *;generalize v.items[j]=y at *;obtain ⟨B1,k1,B2,k2,B3,k3,rfl,rfl,rfl,-,-,-⟩:=hya.forms;obtain ⟨y0,y1,y2,y3,y4,y5,y6,y7⟩:=hcy;have sG:=f_ hya;have xE:=f_ hmem;have Hjx:=f_ Um;have HTs:=f_ (HT.out.on hc);have HFm:=f_ (HF.out ty y);clear hem hev hmc hya hmem Um;go_wp2_with fail;go_still_tail 13,(by kernel_rfl)
    change wpList _ _ _ _ _ wr.drew
    have sG:=f_ (sG.out.on (w':=wr.drew) (j_ _ _).drew);have HTs:=f_ (HTs.out.on (w':=wr.drew) (j_ _ _).drew);have hcd:=hc.drew;have GK:=h0s.drew;clear g0 g6 g7 m2 y0 y1 y2 y3 y4 y5 y6 y7 hc h0s;generalize wr.drew=w8 at *;go_wp2_with fail;refine (HFm.out _ _ _ _ (by simp [xE.out]) sG.out HTs.out).mono ?_;rintro e w7 ⟨rfl,hb7⟩;have hc7:=hcd.trans (hb7.mono hcd.size);have h07:=GK.trans (hb7.mono GK.size);clear hb7 hcd GK;cases hfy:cO ts false y ty
    .
     rw [hfy,U_] at Hjx;rw [Hjx.out] at Hb;clear hfy;go_wp2_with fail;go_ret;exact ⟨au (by rw [Hb.out]),h07⟩
    rw [hfy,E_] at Hjx;clear hfy;go_wp2_with fail;go_roundw
    case rel => exact ⟨j+1,by go_num,by omega,Hjx.out,hc7⟩
    case measure => simp [intOf];omega
   rw [aee ts false v.items x.ah j (by omega) (by have:=H1.out;omega)] at Um;rw [Um] at Hb;clear Um;go_wp2_with fail;go_ret;exact ⟨au (by rw [Hb.out]),h0s⟩
 have h1':((v.items.length:Int) != (x.ah.length:Int))=true:=by rw [V6];omega
 rw [h_ h1] at Hb;clear h1;go_wp2_with fail;go_ret;exact ⟨au (by rw [Hb.out];rfl),h02⟩
theorem Un (x:Val) (A1 A2 A3:Option Addr) (n1 n2 n3:Nat) (w:World) (hk:iP x.kind) :
  Calls Tryz.prog 54 #[aS x (.slice A1 x.keys.length n1) (.slice A2 x.items.length n2) (.slice A3 x.rest.length n3)] w (RT w (.bool (aA x))):=by
 rcases vF hk with h | h | h | h | h | h | h | h | h
 . exact Q8 x A1 A2 A3 n1 n2 n3 w h
 . exact Q9 x A1 A2 A3 n1 n2 n3 w h
 . exact Rf x A1 A2 A3 n1 n2 n3 w h
 . exact Rh x A1 A2 A3 n1 n2 n3 w h
 . exact Ri x A1 A2 A3 n1 n2 n3 w h
 . exact Rj x A1 A2 A3 n1 n2 n3 w h
 . exact Rk x A1 A2 A3 n1 n2 n3 w h
 . exact Rl x A1 A2 A3 n1 n2 n3 w h
 exact Rn x A1 A2 A3 n1 n2 n3 w h
theorem TJ (ts:List ay) (x:ay) (v:Val) (hp:aA v=true) (hkk:v.kind=x.kind) (hr:0 < v.rest.length):jT ts true x v=false:=by
 simp only [aA,u_,Xn,yL] at hp;rcases hp.2.2.2.2.2.2 with (h | h) | h
 .
  rw [hkk] at h;have hd:decide (0 < v.rest.length)=true:=t_ hr;unfold jT ig;rw [g_ (by omega),g_ (by omega),g_ (by omega),r_ h,hd];simp
 .
  rw [hkk] at h;have hd:decide (v.rest.length=0)=false:=h_ (by omega);unfold jT ig;rw [g_ (by omega),g_ (by omega),g_ (by omega),g_ (by omega),r_ h];cases dN x v.id with
  | none => simp
  | some i => simp only [hd];simp
 omega
theorem aeX (ts:List ay) (A:Option Addr) (c:Nat) (t:Int) (v:Val) (pl:Bool) (vk vi vr:Value) (w:World) (hn:bM ts t=none) (hv:ValAt w w.heap.size v vk vi vr) :
  Calls Tryz.prog 32 #[.agg #[.slice A ts.length c],.int .i64 t,aS v vk vi vr,.bool pl] w (RT w (.bool false)):=by
 obtain ⟨A1,n1,A2,n2,A3,n3,rfl,rfl,rfl,-,-,-⟩:=hv.forms;have h2b:=Oe w;clear hv;by_cases h0:t < 0
 .
  clear hn;go_enter Tryz.func32,Tryz.ntmps32
  go_wp2_with fail;go_ret;exact ⟨rfl,h2b _ _⟩
 obtain ⟨n,rfl⟩ : ∃ n:Nat,t=n:=⟨t.toNat,by omega⟩
 have hlt:ts.length<=n:=by
  simpa [bM] using hn
 have hd0:decide ((n:Int) < 0)=false:=by simp
 have hd1:decide (ts.length<=n)=true:=by simpa using hlt
 clear hn h0;go_enter Tryz.func32,Tryz.ntmps32
 go_wp2_with fail;go_ret;exact ⟨rfl,h2b _ _⟩
theorem ahd (ts:List ay) (A:Option Addr) (c n:Nat) (v:Val) (pl:Bool) (A1 A2 A3:Option Addr) (n1 n2 n3:Nat) (w:World) (hn:n < ts.length) (hk:iP ts[n].kind) (hno:(decide (v.kind=ts[n].kind) && aA v)=false)
  (ht:aU w w.heap.size (.slice A ts.length c) ts) :
  Calls Tryz.prog 32 #[.agg #[.slice A ts.length c],.int .i64 n,aS v (.slice A1 v.keys.length n1) (.slice A2 v.items.length n2) (.slice A3 v.rest.length n3),.bool pl] w (RT w (.bool false)):=by
 have h3b:=KH w;obtain ⟨b,o,rfl,hbb,hel⟩:=ht.elem (by omega);obtain ⟨vs,vm,A_,hx⟩:=hel n hn;clear hel;generalize ts[n]=x at *;obtain ⟨C1,l1,C2,l2,rfl,rfl,-,-⟩:=hx.forms;obtain ⟨c0,c1,c2,c3,c4,c5,c6,c7,c8,c9⟩:=A_;have hlt:(n:Int) < ts.length:=by omega
 have hd0:decide ((n:Int) < 0)=false:=by simp
 have hd1:decide (ts.length<=n)=false:=by simpa using hn
 by_cases hkk:v.kind=x.kind
 .
  rw [t_ hkk,E_] at hno;have HP:=f_ (fun W => Un v A1 A2 A3 n1 n2 n3 W (by rw [hkk];exact hk));have hne:(v.kind != x.kind)=false:=by simp [hkk]
  simp only [aS,hno] at HP ⊢;clear ht hx hno hkk hk;go_enter Tryz.func32,Tryz.ntmps32
  go_wp2_with fail;refine (HP.out _).mono ?_;rintro e w2 ⟨rfl,hb2⟩;go_wp2_with fail;go_ret;exact ⟨rfl,(h3b _ _ _).trans (hb2.mono (h3b _ _ _).size)⟩
 have hne:(v.kind != x.kind)=true:=by simpa using hkk
 clear ht hx hno hkk hk;go_enter Tryz.func32,Tryz.ntmps32
 go_wp2_with fail;go_ret;exact ⟨rfl,h3b _ _ _⟩
theorem ahe (ts:List ay) (A:Option Addr) (c n:Nat) (v:Val) (A1 A2 A3:Option Addr) (n1 n2 n3:Nat) (w:World) (hn:n < ts.length) (hk:iP ts[n].kind) (hkk:v.kind=ts[n].kind) (hp:aA v=true) (hr:0 < v.rest.length)
  (ht:aU w w.heap.size (.slice A ts.length c) ts) :
  Calls Tryz.prog 32 #[.agg #[.slice A ts.length c],.int .i64 n,aS v (.slice A1 v.keys.length n1) (.slice A2 v.items.length n2) (.slice A3 v.rest.length n3),.bool true] w (RT w (.bool false)):=by
 have h3b:=KH w;obtain ⟨b,o,rfl,hbb,hel⟩:=ht.elem (by omega);obtain ⟨vs,vm,A_,hx⟩:=hel n hn;clear hel;generalize ts[n]=x at *;obtain ⟨C1,l1,C2,l2,rfl,rfl,-,-⟩:=hx.forms;obtain ⟨c0,c1,c2,c3,c4,c5,c6,c7,c8,c9⟩:=A_;have hlt:(n:Int) < ts.length:=by omega
 have hd0:decide ((n:Int) < 0)=false:=by simp
 have hd1:decide (ts.length<=n)=false:=by simpa using hn
 have HP:=f_ (fun W => Un v A1 A2 A3 n1 n2 n3 W (by rw [hkk];exact hk));have hne:(v.kind != x.kind)=false:=by simp [hkk]
 have hr5:decide (0 < v.rest.length)=true:=t_ hr;have hr4:decide ((0:Int) < v.rest.length)=true:=t_ (by omega);have hW0:=(Has.made (w.alloc (.cells #[.slice (some ⟨b,o,none⟩) ts.length c] 30)) 34 #[.int .i64 v.kind,.bool v.bool,.int .i64 v.num,.string ⟨v.str.toArray⟩,.int .i64 v.id,.slice A1 v.keys.length n1,.slice A2 v.items.length n2,.slice A3 v.rest.length n3]).alloc (.cells #[.int .i64 x.kind,.string ⟨x.name.toArray⟩,.int .i64 x.low,.int .i64 x.high,.int .i64 x.max,.slice C1 x.syms.length l1,.slice C2 x.ah.length l2,.int .i64 x.key,.int .i64 x.elem,.bool x.opn] 72);rw [jG] at hW0;simp only [aS,hp] at HP ⊢;clear ht hx hp hkk hk;go_enter Tryz.func32,Tryz.ntmps32
 go_wp2_with fail;refine (HP.out _).mono ?_;rintro e w2 ⟨rfl,hb2⟩;have c7:=(hW0.below hb2 (by simp)).cell 7;simp only [qI] at c7;have h02:=(h3b _ _ _).trans (hb2.mono (h3b _ _ _).size);clear hb2 hW0;go_wp2_with fail;go_ret;exact ⟨rfl,h02⟩
theorem UO:∀ (N:Nat) (v:Val),nodes v<=N->∀ (ts:List ay) (A:Option Addr) (c:Nat) (t:Int) (vk vi vr:Value) (w:World),Kinds ts ->
  aU w w.heap.size (.slice A ts.length c) ts->ValAt w w.heap.size v vk vi vr ->
  Calls Tryz.prog 32 #[.agg #[.slice A ts.length c],.int .i64 t,aS v vk vi vr,.bool false] w (RT w (.bool (cO ts false v t))):=by
 intro N
 induction N with
 | zero => intro v h;have:=zJ v;omega
 | succ N ih =>
  intro v hN ts A c t vk vi vr w hk ht hv;cases hta:bM ts t with
  | none =>
   rw [show cO ts false v t=false by rw [kG,hta]];exact aeX ts A c t v false vk vi vr w hta hv
  | some x =>
   obtain ⟨n,rfl,hn,rfl⟩ : ∃ n:Nat,t=n/\∃ hn:n < ts.length,ts[n]=x:=by
    unfold bM at hta;split at hta
    .
     obtain ⟨h1,h2⟩:=yS.1 hta;exact ⟨t.toNat,by omega,h1,h2⟩
    cases hta
   have hkn:iP ts[n].kind:=hk _ (o_ hn);obtain ⟨A1,n1,A2,n2,A3,n3,rfl,rfl,rfl,-,-,-⟩:=hv.forms;have heq:cO ts false v n=((decide (v.kind=ts[n].kind) && aA v) && jT ts false ts[n] v):=by
    rw [kG,hta,Bool.and_assoc]
   rw [heq];cases hno:(decide (v.kind=ts[n].kind) && aA v) with
   | false =>
    rw [U_];exact ahd ts A c n v false A1 A2 A3 n1 n2 n3 w hn hkn hno ht
   | true =>
    rw [E_];simp only [u_,yL] at hno;obtain ⟨hkk,hp⟩:=hno;by_cases hpr:false=true/\0 < v.rest.length
    .
     first
      | exact absurd hpr.1 (by decide)
      | (rw [TJ ts _ v hp hkk hpr.2];exact ahe ts A c n v A1 A2 A3 n1 n2 n3 w hn hkn hkk hp hpr.2 ht)
    have hrl:false=true->v.rest.length=0:=fun h => by
     rcases Nat.eq_zero_or_pos v.rest.length with h2 | h2
     . exact h2
     exact absurd ⟨h,h2⟩ hpr
    have hne:=Jp v;have hf:∀ t,zL 32 ts (.slice A ts.length c) t false (fun y => cO ts false y t) (v.keys ++ v.items):=by
     intro t y yk yi yr W hy hya hts;have hm:nodes y<=N:=by
      rcases H_.1 hy with h | h
      . have:=tY _ _ h;omega
      have:=tY _ _ h;omega
     exact ih y hm ts A c t yk yi yr W hk hts hya
    rcases vF hkn with h | h | h | h | h | h | h | h | h
    . first | exact IL ts A c n v A1 A2 A3 n1 n2 n3 w hn h (hkk.trans h) hp (hrl rfl) ht hv hf | exact IL ts A c n v A1 A2 A3 n1 n2 n3 w hn h (hkk.trans h) hp ht hv hf
    . first | exact IQ ts A c n v A1 A2 A3 n1 n2 n3 w hn h (hkk.trans h) hp (hrl rfl) ht hv hf | exact IQ ts A c n v A1 A2 A3 n1 n2 n3 w hn h (hkk.trans h) hp ht hv hf
    . first | exact IU ts A c n v A1 A2 A3 n1 n2 n3 w hn h (hkk.trans h) hp (hrl rfl) ht hv hf | exact IU ts A c n v A1 A2 A3 n1 n2 n3 w hn h (hkk.trans h) hp ht hv hf
    . first | exact IV ts A c n v A1 A2 A3 n1 n2 n3 w hn h (hkk.trans h) hp (hrl rfl) ht hv hf | exact IV ts A c n v A1 A2 A3 n1 n2 n3 w hn h (hkk.trans h) hp ht hv hf
    . first | exact I4 ts A c n v A1 A2 A3 n1 n2 n3 w hn h (hkk.trans h) hp (hrl rfl) ht hv hf | exact I4 ts A c n v A1 A2 A3 n1 n2 n3 w hn h (hkk.trans h) hp ht hv hf
    . first | exact IY ts A c n v A1 A2 A3 n1 n2 n3 w hn h (hkk.trans h) hp (hrl rfl) ht hv hf | exact IY ts A c n v A1 A2 A3 n1 n2 n3 w hn h (hkk.trans h) hp ht hv hf
    . first | exact IW ts A c n v A1 A2 A3 n1 n2 n3 w hn h (hkk.trans h) hp (hrl rfl) ht hv hf | exact IW ts A c n v A1 A2 A3 n1 n2 n3 w hn h (hkk.trans h) hp ht hv hf
    . first | exact IZ ts A c n v A1 A2 A3 n1 n2 n3 w hn h (hkk.trans h) hp (hrl rfl) ht hv hf | exact IZ ts A c n v A1 A2 A3 n1 n2 n3 w hn h (hkk.trans h) hp ht hv hf
    first | exact IX ts A c n v A1 A2 A3 n1 n2 n3 w hn h (hkk.trans h) hp (hrl rfl) ht hv hf | exact IX ts A c n v A1 A2 A3 n1 n2 n3 w hn h (hkk.trans h) hp ht hv hf
theorem acO (v:Val) (ts:List ay) (A:Option Addr) (c:Nat) (t:Int) (vk vi vr:Value) (w:World) (hk:Kinds ts) (ht:aU w w.heap.size (.slice A ts.length c) ts) (hv:ValAt w w.heap.size v vk vi vr) :
  Calls Tryz.prog 16 #[.agg #[.slice A ts.length c],.int .i64 t,aS v vk vi vr] w (RT w (.bool (cO ts false v t))):=by
 obtain ⟨A1,n1,A2,n2,A3,n3,rfl,rfl,rfl,-,-,-⟩:=hv.forms;have h2b:=Oe w;have HF:=f_ (fun W => UO (nodes v) v (b_ _) ts A c t (.slice A1 v.keys.length n1) (.slice A2 v.items.length n2) (.slice A3 v.rest.length n3) W hk);have HV:=f_ hv;have HT:=f_ ht;clear hv ht hk;go_enter Tryz.func16,Tryz.ntmps16
 go_wp2_with fail;refine (HF.out _ (HT.out.on (h2b _ _)) (HV.out.on (h2b _ _))).mono ?_;rintro e w2 ⟨rfl,hb2⟩;go_wp2_with fail;go_ret;exact ⟨rfl,(h2b _ _).trans (hb2.mono (h2b _ _).size)⟩

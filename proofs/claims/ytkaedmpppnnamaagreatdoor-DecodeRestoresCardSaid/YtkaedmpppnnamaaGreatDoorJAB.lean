/- What fit of the reference computes for maps, and what else is used with it. No condition. -/
import Derived.Test.YtkaedmpppnnamaaGreatDoorJBA
import Derived.IntWalk
import Derived.Test.YtkaedmpppnnamaaGreatDoorFitsE
set_option maxHeartbeats 1600000
set_option maxRecDepth 100000
namespace Go.Proofs.YtkaedmpppnnamaaGreatDoor
open ChangeShapes WideShapes ChangeAt RowKit
theorem arR
 (pl:Bool) (ts:List ay) (A:Option Addr) (c n:Nat) (v:Val) (A1 A2 A3:Option Addr) (n1 n2 n3:Nat) (w:World) (hn:n < ts.length) (hkx:ts[n].kind=8) (hkv:v.kind=8) (hp:aA v=true) (hrl:pl=true->v.rest.length=0)
 (ht:aU w w.heap.size (.slice A ts.length c) ts) (hv:ValAt w w.heap.size v (.slice A1 v.keys.length n1) (.slice A2 v.items.length n2) (.slice A3 v.rest.length n3))
 (hf:∀ t,zL 32 ts (.slice A ts.length c) t pl (fun y => cO ts pl y t) (v.keys ++ v.items)) :
 Calls Tryz.prog 32 #[.agg #[.slice A ts.length c],.int .i64 n,aS v (.slice A1 v.keys.length n1) (.slice A2 v.items.length n2) (.slice A3 v.rest.length n3),.bool pl] w (RT w (.bool (jT ts pl ts[n] v))):=by
 obtain ⟨b,o,rfl,hbb,hel⟩:=ht.elem (by omega);obtain ⟨vs,vm,hcells,hx⟩:=hel n hn;clear hel;generalize ts[n]=x at *;obtain ⟨C1,l1,C2,l2,rfl,rfl,-,-⟩:=hx.forms;have HC:=hiQ hcells;have hlt:(n:Int) < ts.length:=by omega
 have hd0:decide ((n:Int) < 0)=false:=by simp
 have hd1:decide (ts.length<=n)=false:=by simpa using hn
 simp only [aS,hkv];have HP:=hiQ (fun W => Rl v A1 A2 A3 n1 n2 n3 W hkv);simp only [aS,hkv,hp] at HP;have HF:=hiQ hf;have HRL:=hiQ hrl;clear hrl;have HT:=hiQ ht;have HV:=hiQ hv;have HX:=hiQ hx;have xI:=hiQ hkx;have Ul:=hiQ hkv;have hxs:=hx.lens;have hvl:=hv.lens;clear hf ht hv hx hcells hkx hkv hp hn;go_enter Tryz.func32,Tryz.ntmps32
 go_upto_region 1 with fail;refine jg (fun wd2 hb1 S V => ?_);have hw3:=hb1;clear hb1;obtain ⟨c0,c1,c2,c3,c4,c5,c6,c7,c8,c9⟩:=HC.out.below (hw3) (by omega);rw [xI.out] at c0;have aH:=S.out.e0;go_upto_region 4 with fail;clear c0 c1 c2 c3 c4 c5 c6 c7 c8 c9 hd0 hd1 aH;refine aO (fun fG hb4 Y => ?_);have nI:=S.out.here;have mO:=V.out.here;have kH:=hw3.size;obtain ⟨S,V⟩:=b2 S V hb4;replace hw3:=dT hw3 hb4;clear hb4;generalize wd2.heap.size=g6 at *;obtain ⟨gY,rfl⟩ : ∃ g,g=g6:=⟨_,rfl⟩
 have hgY:w.heap.size+1 < gY:=by omega
 obtain ⟨bK,dh,dn,dI,bG,aQ,aP,dJ⟩:=V.out.c8;have kT:=Y.out.e0;go_cut [48] from 30 to 47 (fun s48 wx => s48 = .bool false/\Has wx w.heap.size 30 #[.slice (some ⟨b,o,none⟩) ts.length c]/\Has wx (w.heap.size+1) 34 #[.int .i64 8,.bool v.bool,.int .i64 v.num,.string ⟨v.str.toArray⟩,.int .i64 v.id,.slice A1 v.keys.length n1,.slice A2 v.items.length n2,.slice A3 v.rest.length n3]/\Has wx gY 72 #[.int .i64 8,.string ⟨x.name.toArray⟩,.int .i64 x.low,.int .i64 x.high,.int .i64 x.max,.slice C1 x.syms.length l1,.slice C2 x.ah.length l2,.int .i64 x.key,.int .i64 x.elem,.bool x.opn]/\Below w.heap.size w wx)
 case first =>
  exact zKc
 case rest =>
  obtain ⟨rfl,HS,HW,HY,h02⟩:=hcut;clear S V Y hw3;have hz2:=HY.here;have HT:=hiQ (HT.out.on h02);have HV:=hiQ (HV.out.on h02);have HX:=hiQ (HX.out.keep (fun _ hp => h02.cell hp) h02.size);obtain ⟨v0,v1,v2,v3,v4,v5,v6,v7⟩:=HW.c8;obtain ⟨t0,t1,t2,t3,t4,t5,t6,t7,t8,t9⟩:=HY.c10;have s0:=HS.cell 0;simp only [qI] at s0;have HS:=hiQ HS;have HW:=hiQ HW;have HY:=hiQ HY;have HK:=hiQ (fun W hi ht => Jq ts (some ⟨b,o,none⟩) c x.key pl (fun y => cO ts pl y x.key) v.keys (.slice A1 v.keys.length n1) W (fun y vk vi vr W' hm => HF.out x.key y vk vi vr W' (by simp [hm])) hvl.1 hi ht);have HE:=hiQ (fun W hi ht => Jq ts (some ⟨b,o,none⟩) c x.elem pl (fun y => cO ts pl y x.elem) v.items (.slice A2 v.items.length n2) W (fun y vk vi vr W' hm => HF.out x.elem y vk vi vr W' (by simp [hm])) hvl.2.1 hi ht);rw [<- uT] at HE HK;have Hb:Hid (jT ts pl x v=(decide ((v.keys.length:Int)<=x.max) && (decide (v.items.length=v.keys.length) && (rC ts pl v.keys x.key && (ati v.keys && rC ts pl v.items x.elem))))):=by
   show _=_;simp [ig,xI.out]
  by_cases h1:((v.keys.length:Int)<=x.max)
  .
   have h1':decide (x.max < (v.keys.length:Int))=false:=f_ (by omega);by_cases h2:v.items.length=v.keys.length
   .
    have h2':((v.items.length:Int) != (v.keys.length:Int))=false:=by simp [h2]
    rw [n_ h1,n_ h2] at Hb;clear h1 h2;cases hfk:rC ts pl v.keys x.key
    .
     rw [hfk] at HK Hb;clear hfk;go_wp2_with fail;refine (HK.out _ HV.out.keys HT.out).mono ?_;rintro e w3 ⟨rfl,hb3⟩;go_wp2_with fail;go_ret;exact ⟨au (by rw [Hb.out];simp),h02.trans (hb3.mono h02.size)⟩
    rw [hfk] at HK Hb;clear hfk;go_wp2_with fail;refine (HK.out _ HV.out.keys HT.out).mono ?_;rintro e w3 ⟨rfl,hb3⟩;have h03:=h02.trans (hb3.mono h02.size);have HV:=hiQ (HV.out.on hb3);have HT:=hiQ (HT.out.on hb3);have HX:=hiQ (HX.out.on hb3);have HS:=HS.out.below hb3 (by omega);have HW:=HW.out.below hb3 (by omega);have HY:=HY.out.below hb3 (by omega);have hz3:=HY.here;clear s0 v0 v1 v2 v3 v4 v5 v6 v7 t0 t1 t2 t3 t4 t5 t6 t7 t8 t9;have s0:=HS.cell 0;have v4:=HW.cell 4;have v5:=HW.cell 5;have v6:=HW.cell 6;have v7:=HW.cell 7;have t6:=HY.cell 6;have t8:=HY.cell 8;have t9:=HY.cell 9;simp only [qI] at s0 v4 v5 v6 v7 t6 t8 t9;have HS:=hiQ HS;have HW:=hiQ HW;have HY:=hiQ HY;clear hb3 h02;go_wp2_with fail;refine (HE.out _ HV.out.items HT.out).mono ?_;rintro e w4 ⟨rfl,hb4⟩;have hb3:=hb4;have h02:=h03;clear hb4 h03;have h03:=h02.trans (hb3.mono h02.size);have HV:=hiQ (HV.out.on hb3);have HT:=hiQ (HT.out.on hb3);have HX:=hiQ (HX.out.on hb3);have HS:=HS.out.below hb3 (by omega);have HW:=HW.out.below hb3 (by omega);have HY:=HY.out.below hb3 (by omega);have hz3:=HY.here;clear s0 v4 v5 v6 v7 t6 t8 t9;have s0:=HS.cell 0;have v4:=HW.cell 4;have v5:=HW.cell 5;have v6:=HW.cell 6;have v7:=HW.cell 7;have t6:=HY.cell 6;have t8:=HY.cell 8;have t9:=HY.cell 9;simp only [qI] at s0 v4 v5 v6 v7 t6 t8 t9;have HS:=hiQ HS;have HW:=hiQ HW;have HY:=hiQ HY;clear hb3 h02;cases hfe:rC ts pl v.items x.elem
    .
     rw [hfe] at Hb;clear hfe;go_wp2_with fail;go_ret;exact ⟨au (by rw [Hb.out];simp),h03⟩
    rw [hfe] at Hb;clear hfe;go_wp2_with fail;have HHS:=HS;have HHW:=HW;have HHY:=HY;clear HS HW HY HP HK;go_loopw [15] (fun i wr => ∃ k:Nat,i = .int .i64 ((k:Int)+1)/\k<=v.keys.length/\ati v.keys=ati (v.keys.drop k)/\Below w4.heap.size w4 wr) (fun i _ => v.keys.length+1 - (intOf i).toNat)
    case atStart => exact ⟨0,rfl,by omega,rfl,g_ _ _⟩
    case round =>
     obtain ⟨k,rfl,hk,hix,hb⟩:=hrel;have q0:=(HHS.out.below hb (by omega)).cell 0;have q5:=(HHW.out.below hb (by omega)).cell 5;have q6:=(HHW.out.below hb (by omega)).cell 6;have q8:=(HHY.out.below hb (by omega)).cell 8;simp only [qI] at q0 q5 q6 q8;by_cases hlt:k+1 < v.keys.length
     .
      obtain ⟨bk,ok,rfl,hbk,hek⟩:=(HV.out.on hb).keys.elem (by omega);obtain ⟨xk,xi,xr,hcx,hxa⟩:=hek k (by omega);obtain ⟨yk,yi,yr,hcy,hya⟩:=hek (k+1) hlt;rw [Yp _ _ hlt] at hix;generalize v.keys[k]=a at *;generalize v.keys[k+1]=d at *;obtain ⟨E1,k1,E2,k2,E3,k3,rfl,rfl,rfl,-,-,-⟩:=hxa.forms;obtain ⟨F1,m1,F2,m2,F3,m3,rfl,rfl,rfl,-,-,-⟩:=hya.forms;obtain ⟨a0,a1,a2,a3,a4,a5,a6,a7⟩:=hcx;obtain ⟨d0,d1,d2,d3,d4,d5,d6,d7⟩:=hcy;have HA:=hiQ hxa;have HD:=hiQ hya;have jB:=hiQ hix;have hi1:(k:Int)+1 < v.keys.length:=by omega
      have hi2:(k:Int) < v.keys.length:=by omega
      have h0r:=h03.trans (hb.mono h03.size);clear hek hxa hya hix;go_wp2_with fail;have hw0:IntKind.i64.wrap (k:Int)=k:=E_ _ (by omega);have hw1:IntKind.i64.wrap ((k:Int)+1 - 1)=k:=by rw [Int.add_sub_cancel];exact hw0
      have hw2:((k:Int)+1).toNat=k+1:=by omega
      have hw3:0<=(k:Int)+1:=by omega
      go_still_tail 11,(by kernel_rfl)
      change wpList _ _ _ _ _ wr.drew
      have HA:=hiQ (HA.out.on (w':=wr.drew) (g_ _ _).drew);have HD:=hiQ (HD.out.on (w':=wr.drew) (g_ _ _).drew);have hbd:=hb.drew;have GK:=h0r.drew;obtain ⟨cv,hcv⟩ : ∃ cv,Hid (alD a d=cv):=⟨_,rfl⟩
      clear hb h0r a0 a1 a2 a3 a4 a5 a6 a7 d0 d1 d2 d3 d4 d5 d6 d7 q0 q5 q6 q8;generalize wr.drew=w4 at *;go_wp2_with fail;refine (aFH a d _ _ _ _ _ _ _ HA.out HD.out).mono ?_;rintro e w5 ⟨rfl,hb5⟩;have WZ:=hbd.trans (hb5.mono hbd.size);have h05:=GK.trans (hb5.mono GK.size);rw [hcv.out] at jB ⊢;clear hw0 hw1 hw2 hw3 hb5 hbd GK hcv;by_cases hneg:cv < 0
      .
       have hd:decide (0<=cv)=false:=f_ (by omega);rw [n_ hneg,CX] at jB;go_wp2_with fail;go_roundw
       case rel => exact ⟨k+1,by go_num,by omega,jB.out,WZ⟩
       case measure => simp [intOf];omega
      have hd:decide (0<=cv)=true:=n_ (by omega);rw [f_ hneg,QE] at jB;rw [jB.out] at Hb;go_wp2_with fail;go_ret;exact ⟨au (by rw [Hb.out];simp),h05⟩
     rw [Va _ _ (by omega)] at hix;rw [hix] at Hb;have h0r:=h03.trans (hb.mono h03.size);clear hix hb h03;go_wp2_with fail;go_ret;exact ⟨au (by rw [Hb.out];simp),h0r⟩
   have h2':((v.items.length:Int) != (v.keys.length:Int))=true:=by rw [TM];omega
   rw [n_ h1,f_ h2] at Hb;clear h1 h2;go_wp2_with fail;go_ret;exact ⟨au (by rw [Hb.out];simp),h02⟩
  have h1':decide (x.max < (v.keys.length:Int))=true:=n_ (by omega);rw [f_ h1] at Hb;clear h1;go_wp2_with fail;go_ret;exact ⟨au (by rw [Hb.out];simp),h02⟩
theorem aFR {pl:Bool} {n:Nat} (h:pl=true->n=0):(pl && decide (0 < n))=false:=by
 cases pl
 . rfl
 simp [h rfl]
theorem ar0
 (pl:Bool) (ts:List ay) (A:Option Addr) (c n:Nat) (v:Val) (A1 A2 A3:Option Addr) (n1 n2 n3:Nat) (w:World) (hn:n < ts.length) (hkx:ts[n].kind=5) (hkv:v.kind=5) (hp:aA v=true) (hrl:pl=true->v.rest.length=0)
 (ht:aU w w.heap.size (.slice A ts.length c) ts) (hv:ValAt w w.heap.size v (.slice A1 v.keys.length n1) (.slice A2 v.items.length n2) (.slice A3 v.rest.length n3))
 (hf:∀ t,zL 32 ts (.slice A ts.length c) t pl (fun y => cO ts pl y t) (v.keys ++ v.items)) :
 Calls Tryz.prog 32 #[.agg #[.slice A ts.length c],.int .i64 n,aS v (.slice A1 v.keys.length n1) (.slice A2 v.items.length n2) (.slice A3 v.rest.length n3),.bool pl] w (RT w (.bool (jT ts pl ts[n] v))):=by
 obtain ⟨b,o,rfl,hbb,hel⟩:=ht.elem (by omega);obtain ⟨vs,vm,hcells,hx⟩:=hel n hn;clear hel;generalize ts[n]=x at *;obtain ⟨C1,l1,C2,l2,rfl,rfl,-,-⟩:=hx.forms;have HC:=hiQ hcells;have hlt:(n:Int) < ts.length:=by omega
 have hd0:decide ((n:Int) < 0)=false:=by simp
 have hd1:decide (ts.length<=n)=false:=by simpa using hn
 simp only [aS,hkv];have HP:=hiQ (fun W => Ri v A1 A2 A3 n1 n2 n3 W hkv);simp only [aS,hkv,hp] at HP;have HF:=hiQ hf;have HRL:=hiQ hrl;clear hrl;have HT:=hiQ ht;have HV:=hiQ hv;have HX:=hiQ hx;have xI:=hiQ hkx;have Ul:=hiQ hkv;have hxs:=hx.lens;have hvl:=hv.lens;clear hf ht hv hx hcells hkx hkv hp hn;go_enter Tryz.func32,Tryz.ntmps32
 go_upto_region 1 with fail;refine jg (fun wd2 hb1 S V => ?_);have hw3:=hb1;clear hb1;obtain ⟨c0,c1,c2,c3,c4,c5,c6,c7,c8,c9⟩:=HC.out.below (hw3) (by omega);rw [xI.out] at c0;have aH:=S.out.e0;go_upto_region 4 with fail;clear c0 c1 c2 c3 c4 c5 c6 c7 c8 c9 hd0 hd1 aH;refine aO (fun fG hb4 Y => ?_);have nI:=S.out.here;have mO:=V.out.here;have kH:=hw3.size;obtain ⟨S,V⟩:=b2 S V hb4;replace hw3:=dT hw3 hb4;clear hb4;generalize wd2.heap.size=g6 at *;obtain ⟨gY,rfl⟩ : ∃ g,g=g6:=⟨_,rfl⟩
 have hgY:w.heap.size+1 < gY:=by omega
 obtain ⟨bK,dh,dn,dI,bG,aQ,aP,dJ⟩:=V.out.c8;have kT:=Y.out.e0;go_cut [48] from 30 to 47 (fun s48 wx => s48 = .bool false/\Has wx w.heap.size 30 #[.slice (some ⟨b,o,none⟩) ts.length c]/\Has wx (w.heap.size+1) 34 #[.int .i64 5,.bool v.bool,.int .i64 v.num,.string ⟨v.str.toArray⟩,.int .i64 v.id,.slice A1 v.keys.length n1,.slice A2 v.items.length n2,.slice A3 v.rest.length n3]/\Has wx gY 72 #[.int .i64 5,.string ⟨x.name.toArray⟩,.int .i64 x.low,.int .i64 x.high,.int .i64 x.max,.slice C1 x.syms.length l1,.slice C2 x.ah.length l2,.int .i64 x.key,.int .i64 x.elem,.bool x.opn]/\Below w.heap.size w wx)
 case first =>
  exact zKc
 case rest =>
  obtain ⟨rfl,HS,HW,HY,h02⟩:=hcut;clear S V Y hw3;have hz2:=HY.here;have HT:=hiQ (HT.out.on h02);have HV:=hiQ (HV.out.on h02);have HX:=hiQ (HX.out.keep (fun _ hp => h02.cell hp) h02.size);obtain ⟨v0,v1,v2,v3,v4,v5,v6,v7⟩:=HW.c8;obtain ⟨t0,t1,t2,t3,t4,t5,t6,t7,t8,t9⟩:=HY.c10;have s0:=HS.cell 0;simp only [qI] at s0;have HS:=hiQ HS;have HW:=hiQ HW;have HY:=hiQ HY;have HRt:=hiQ (fun W h1 h2 => acN x (.slice C1 x.syms.length l1) (.slice C2 x.ah.length l2) v.rest (.slice A3 v.rest.length n3) W hvl.2.2 h1 h2);simp only [dA,xI.out] at HRt;have Hb:Hid (jT ts pl x v=(decide (v.items.length=x.ah.length) && (xK x v.rest none && qL ts pl v.items x.ah))):=by
   show _=_;rw [show jT ts pl x v=(decide (v.items.length=x.ah.length) && (!(pl && decide (0 < v.rest.length)) && (xK x v.rest none && qL ts pl v.items x.ah))) by simp [ig,xI.out],aFR HRL.out];rfl
  by_cases h1:v.items.length=x.ah.length
  .
   have h1':((v.items.length:Int) != (x.ah.length:Int))=false:=by simp [h1]
   have H1:=hiQ h1;rw [n_ h1,CX] at Hb;clear h1;go_wp2_with fail;refine (HRt.out _ HX.out HV.out.rest).mono ?_;rintro e w3 ⟨rfl,hb3⟩;have h03:=h02.trans (hb3.mono h02.size);have HV:=hiQ (HV.out.on hb3);have HT:=hiQ (HT.out.on hb3);have HX:=hiQ (HX.out.on hb3);have HS:=HS.out.below hb3 (by omega);have HW:=HW.out.below hb3 (by omega);have HY:=HY.out.below hb3 (by omega);have hz3:=HY.here;clear s0 v0 v1 v2 v3 v4 v5 v6 v7 t0 t1 t2 t3 t4 t5 t6 t7 t8 t9;have s0:=HS.cell 0;have v4:=HW.cell 4;have v5:=HW.cell 5;have v6:=HW.cell 6;have v7:=HW.cell 7;have t6:=HY.cell 6;have t8:=HY.cell 8;have t9:=HY.cell 9;simp only [qI] at s0 v4 v5 v6 v7 t6 t8 t9;have HS:=hiQ HS;have HW:=hiQ HW;have HY:=hiQ HY;clear hb3 h02;cases hrb:xK x v.rest none
   .
    rw [hrb] at Hb;clear hrb;go_wp2_with fail;go_ret;exact ⟨au (by rw [Hb.out];rfl),h03⟩
   rw [hrb,CX] at Hb;clear hrb;go_wp2_with fail;have HHS:=HS;have HHW:=HW;have HHY:=HY;clear HS HW HY HP HRt;go_loopw [12] (fun i wr => ∃ j:Nat,i = .int .i64 j/\j<=v.items.length/\qL ts pl v.items x.ah=qL ts pl (v.items.drop j) (x.ah.drop j)/\Below w3.heap.size w3 wr) (fun i _ => v.items.length - (intOf i).toNat)
   case atStart => exact ⟨0,rfl,by omega,rfl,g_ _ _⟩
   case round =>
    obtain ⟨j,rfl,hj,Um,hc⟩:=hrel;have g0:=(HHS.out.below hc (by omega)).cell 0;have g6:=(HHW.out.below hc (by omega)).cell 6;have g7:=(HHY.out.below hc (by omega)).cell 6;simp only [qI] at g0 g6 g7;have h0s:=h03.trans (hc.mono h03.size);by_cases hlj:j < v.items.length
    .
     have ajj:j < x.ah.length:=by have:=H1.out;omega
     obtain ⟨bm,om,rfl,hbm,hem⟩:=((HX.out.on hc).ah).elem (by omega);obtain ⟨mk,mi,mr,hmc,-⟩:=hem j ajj;have m2:=hmc.2.2.1;obtain ⟨bv,ov,rfl,hbv,hev⟩:=((HV.out.on hc).items).elem (by omega);obtain ⟨yk,yi,yr,hcy,hya⟩:=hev j hlj;have hmem:v.items[j] ∈ v.items:=jl _;rw [agY ts pl v.items x.ah j hlj ajj] at Um;have hi1:(j:Int) < x.ah.length:=by omega
     have hi2:(j:Int) < v.items.length:=by omega
     generalize x.ah[j].ty=ty at *;generalize v.items[j]=y at *;obtain ⟨B1,k1,B2,k2,B3,k3,rfl,rfl,rfl,-,-,-⟩:=hya.forms;obtain ⟨y0,y1,y2,y3,y4,y5,y6,y7⟩:=hcy;have sG:=hiQ hya;have xE:=hiQ hmem;have Hjx:=hiQ Um;have HTs:=hiQ (HT.out.on hc);have HFm:=hiQ (HF.out ty y);clear hem hev hmc hya hmem Um;go_wp2_with fail;go_still_tail 13,(by kernel_rfl)
     change wpList _ _ _ _ _ wr.drew
     have sG:=hiQ (sG.out.on (w':=wr.drew) (g_ _ _).drew);have HTs:=hiQ (HTs.out.on (w':=wr.drew) (g_ _ _).drew);have hcd:=hc.drew;have GK:=h0s.drew;clear g0 g6 g7 m2 y0 y1 y2 y3 y4 y5 y6 y7 hc h0s;generalize wr.drew=w8 at *;go_wp2_with fail;refine (HFm.out _ _ _ _ (by simp [xE.out]) sG.out HTs.out).mono ?_;rintro e w7 ⟨rfl,hb7⟩;have hc7:=hcd.trans (hb7.mono hcd.size);have h07:=GK.trans (hb7.mono GK.size);clear hb7 hcd GK;cases hfy:cO ts pl y ty
     .
      rw [hfy,QE] at Hjx;rw [Hjx.out] at Hb;clear hfy;go_wp2_with fail;go_ret;exact ⟨au (by rw [Hb.out]),h07⟩
     rw [hfy,CX] at Hjx;clear hfy;go_wp2_with fail;go_roundw
     case rel => exact ⟨j+1,by go_num,by omega,Hjx.out,hc7⟩
     case measure => simp [intOf];omega
    rw [aee ts pl v.items x.ah j (by omega) (by have:=H1.out;omega)] at Um;rw [Um] at Hb;clear Um;go_wp2_with fail;go_ret;exact ⟨au (by rw [Hb.out]),h0s⟩
  have h1':((v.items.length:Int) != (x.ah.length:Int))=true:=by rw [TM];omega
  rw [f_ h1] at Hb;clear h1;go_wp2_with fail;go_ret;exact ⟨au (by rw [Hb.out];rfl),h02⟩
theorem Un (x:Val) (A1 A2 A3:Option Addr) (n1 n2 n3:Nat) (w:World) (hk:iP x.kind) :
  Calls Tryz.prog 54 #[aS x (.slice A1 x.keys.length n1) (.slice A2 x.items.length n2) (.slice A3 x.rest.length n3)] w (RT w (.bool (aA x))):=by
 rcases vF hk with h | h | h | h | h | h | h | h | h
 . exact Q8 x A1 A2 A3 n1 n2 n3 w h
 . exact Q9 x A1 A2 A3 n1 n2 n3 w h
 . exact Rf x A1 A2 A3 n1 n2 n3 w h
 . exact Rh x A1 A2 A3 n1 n2 n3 w h
 . exact Ri x A1 A2 A3 n1 n2 n3 w h
 . exact Rj x A1 A2 A3 n1 n2 n3 w h
 . exact Rk x A1 A2 A3 n1 n2 n3 w h
 . exact Rl x A1 A2 A3 n1 n2 n3 w h
 exact Rn x A1 A2 A3 n1 n2 n3 w h
theorem TJ (ts:List ay) (x:ay) (v:Val) (hp:aA v=true) (hkk:v.kind=x.kind) (hr:0 < v.rest.length):jT ts true x v=false:=by
 simp only [aA,j_,QF,w_] at hp;rcases hp.2.2.2.2.2.2 with (h | h) | h
 .
  rw [hkk] at h;have hd:decide (0 < v.rest.length)=true:=n_ hr;unfold jT ig;rw [gB (by omega),gB (by omega),gB (by omega),o_ h,hd];simp
 .
  rw [hkk] at h;have hd:decide (v.rest.length=0)=false:=f_ (by omega);unfold jT ig;rw [gB (by omega),gB (by omega),gB (by omega),gB (by omega),o_ h];cases dN x v.id with
  | none => simp
  | some i => simp only [hd];simp
 omega
theorem aeX (ts:List ay) (A:Option Addr) (c:Nat) (t:Int) (v:Val) (pl:Bool) (vk vi vr:Value) (w:World) (hn:bM ts t=none) (hv:ValAt w w.heap.size v vk vi vr) :
  Calls Tryz.prog 32 #[.agg #[.slice A ts.length c],.int .i64 t,aS v vk vi vr,.bool pl] w (RT w (.bool false)):=by
 obtain ⟨A1,n1,A2,n2,A3,n3,rfl,rfl,rfl,-,-,-⟩:=hv.forms;have h2b:=Oe w;clear hv;by_cases h0:t < 0
 .
  clear hn;go_enter Tryz.func32,Tryz.ntmps32
  go_wp2_with fail;go_ret;exact ⟨rfl,h2b _ _⟩
 obtain ⟨n,rfl⟩ : ∃ n:Nat,t=n:=⟨t.toNat,by omega⟩
 have hlt:ts.length<=n:=by
  simpa [bM] using hn
 have hd0:decide ((n:Int) < 0)=false:=by simp
 have hd1:decide (ts.length<=n)=true:=by simpa using hlt
 clear hn h0;go_enter Tryz.func32,Tryz.ntmps32
 go_wp2_with fail;go_ret;exact ⟨rfl,h2b _ _⟩
theorem ahd (ts:List ay) (A:Option Addr) (c n:Nat) (v:Val) (pl:Bool) (A1 A2 A3:Option Addr) (n1 n2 n3:Nat) (w:World) (hn:n < ts.length) (hk:iP ts[n].kind) (hno:(decide (v.kind=ts[n].kind) && aA v)=false)
  (ht:aU w w.heap.size (.slice A ts.length c) ts) :
  Calls Tryz.prog 32 #[.agg #[.slice A ts.length c],.int .i64 n,aS v (.slice A1 v.keys.length n1) (.slice A2 v.items.length n2) (.slice A3 v.rest.length n3),.bool pl] w (RT w (.bool false)):=by
 have h3b:=KH w;obtain ⟨b,o,rfl,hbb,hel⟩:=ht.elem (by omega);obtain ⟨vs,vm,hcells,hx⟩:=hel n hn;clear hel;generalize ts[n]=x at *;obtain ⟨C1,l1,C2,l2,rfl,rfl,-,-⟩:=hx.forms;obtain ⟨c0,c1,c2,c3,c4,c5,c6,c7,c8,c9⟩:=hcells;have hlt:(n:Int) < ts.length:=by omega
 have hd0:decide ((n:Int) < 0)=false:=by simp
 have hd1:decide (ts.length<=n)=false:=by simpa using hn
 by_cases hkk:v.kind=x.kind
 .
  rw [n_ hkk,CX] at hno;have HP:=hiQ (fun W => Un v A1 A2 A3 n1 n2 n3 W (by rw [hkk];exact hk));have hne:(v.kind != x.kind)=false:=by simp [hkk]
  simp only [aS,hno] at HP ⊢;clear ht hx hno hkk hk;go_enter Tryz.func32,Tryz.ntmps32
  go_wp2_with fail;refine (HP.out _).mono ?_;rintro e w2 ⟨rfl,hb2⟩;go_wp2_with fail;go_ret;exact ⟨rfl,(h3b _ _ _).trans (hb2.mono (h3b _ _ _).size)⟩
 have hne:(v.kind != x.kind)=true:=by simpa using hkk
 clear ht hx hno hkk hk;go_enter Tryz.func32,Tryz.ntmps32
 go_wp2_with fail;go_ret;exact ⟨rfl,h3b _ _ _⟩
theorem ahe (ts:List ay) (A:Option Addr) (c n:Nat) (v:Val) (A1 A2 A3:Option Addr) (n1 n2 n3:Nat) (w:World) (hn:n < ts.length) (hk:iP ts[n].kind) (hkk:v.kind=ts[n].kind) (hp:aA v=true) (hr:0 < v.rest.length)
  (ht:aU w w.heap.size (.slice A ts.length c) ts) :
  Calls Tryz.prog 32 #[.agg #[.slice A ts.length c],.int .i64 n,aS v (.slice A1 v.keys.length n1) (.slice A2 v.items.length n2) (.slice A3 v.rest.length n3),.bool true] w (RT w (.bool false)):=by
 have h3b:=KH w;obtain ⟨b,o,rfl,hbb,hel⟩:=ht.elem (by omega);obtain ⟨vs,vm,hcells,hx⟩:=hel n hn;clear hel;generalize ts[n]=x at *;obtain ⟨C1,l1,C2,l2,rfl,rfl,-,-⟩:=hx.forms;obtain ⟨c0,c1,c2,c3,c4,c5,c6,c7,c8,c9⟩:=hcells;have hlt:(n:Int) < ts.length:=by omega
 have hd0:decide ((n:Int) < 0)=false:=by simp
 have hd1:decide (ts.length<=n)=false:=by simpa using hn
 have HP:=hiQ (fun W => Un v A1 A2 A3 n1 n2 n3 W (by rw [hkk];exact hk));have hne:(v.kind != x.kind)=false:=by simp [hkk]
 have MR:decide (0 < v.rest.length)=true:=n_ hr;have hr4:decide ((0:Int) < v.rest.length)=true:=n_ (by omega);have hW0:=(Has.made (w.alloc (.cells #[.slice (some ⟨b,o,none⟩) ts.length c] 30)) 34 #[.int .i64 v.kind,.bool v.bool,.int .i64 v.num,.string ⟨v.str.toArray⟩,.int .i64 v.id,.slice A1 v.keys.length n1,.slice A2 v.items.length n2,.slice A3 v.rest.length n3]).alloc (.cells #[.int .i64 x.kind,.string ⟨x.name.toArray⟩,.int .i64 x.low,.int .i64 x.high,.int .i64 x.max,.slice C1 x.syms.length l1,.slice C2 x.ah.length l2,.int .i64 x.key,.int .i64 x.elem,.bool x.opn] 72);rw [jG] at hW0;simp only [aS,hp] at HP ⊢;clear ht hx hp hkk hk;go_enter Tryz.func32,Tryz.ntmps32
 go_wp2_with fail;refine (HP.out _).mono ?_;rintro e w2 ⟨rfl,hb2⟩;have c7:=(hW0.below hb2 (by simp)).cell 7;simp only [qI] at c7;have h02:=(h3b _ _ _).trans (hb2.mono (h3b _ _ _).size);clear hb2 hW0;go_wp2_with fail;go_ret;exact ⟨rfl,h02⟩
theorem zFk {p:Prop} (h:p:=by
 intro t y yk yi yr W hy hya hts;have hm:nodes y<=N:=by
  rcases Dp.1 hy with h | h
  . have:=tY _ _ h;omega
  have:=tY _ _ h;omega
 exact ih y hm ts A c t yk yi yr W hk hts hya):p:=h
theorem zGi {p:Prop} (h:p:=by
 unfold bM at hta;split at hta
 .
  obtain ⟨h1,h2⟩:=C_.1 hta;exact ⟨t.toNat,by omega,h1,h2⟩
 cases hta):p:=h
theorem zGz {p:Prop} (h:p:=by
 rcases Nat.eq_zero_or_pos v.rest.length with h2 | h2
 . exact h2
 exact absurd ⟨h,h2⟩ hpr):p:=h
theorem aFT:∀ (N:Nat) (v:Val),nodes v<=N->∀ (ts:List ay) (A:Option Addr) (c:Nat) (t:Int) (vk vi vr:Value) (w:World),Kinds ts ->
  aU w w.heap.size (.slice A ts.length c) ts->ValAt w w.heap.size v vk vi vr ->
  Calls Tryz.prog 32 #[.agg #[.slice A ts.length c],.int .i64 t,aS v vk vi vr,.bool true] w (RT w (.bool (cO ts true v t))):=by
 intro N
 induction N with
 | zero => intro v h;have:=zJ v;omega
 | succ N ih =>
  intro v hN ts A c t vk vi vr w hk ht hv;cases hta:bM ts t with
  | none =>
   rw [show cO ts true v t=false by rw [kG,hta]];exact aeX ts A c t v true vk vi vr w hta hv
  | some x =>
   obtain ⟨n,rfl,hn,rfl⟩ : ∃ n:Nat,t=n/\∃ hn:n < ts.length,ts[n]=x:=by
    exact zGi
   have hkn:iP ts[n].kind:=hk _ (jl hn);obtain ⟨A1,n1,A2,n2,A3,n3,rfl,rfl,rfl,-,-,-⟩:=hv.forms;have heq:cO ts true v n=((decide (v.kind=ts[n].kind) && aA v) && jT ts true ts[n] v):=by
    rw [kG,hta,Bool.and_assoc]
   rw [heq];cases hno:(decide (v.kind=ts[n].kind) && aA v) with
   | false =>
    rw [QE];exact ahd ts A c n v true A1 A2 A3 n1 n2 n3 w hn hkn hno ht
   | true =>
    rw [CX];simp only [j_,w_] at hno;obtain ⟨hkk,hp⟩:=hno;by_cases hpr:true=true/\0 < v.rest.length
    .
     first
      | exact absurd hpr.1 (by decide)
      | (rw [TJ ts _ v hp hkk hpr.2];exact ahe ts A c n v A1 A2 A3 n1 n2 n3 w hn hkn hkk hp hpr.2 ht)
    have hrl:true=true->v.rest.length=0:=fun h => by
     exact zGz
    have hne:=Jp v;have hf:∀ t,zL 32 ts (.slice A ts.length c) t true (fun y => cO ts true y t) (v.keys ++ v.items):=by
     exact zFk
    rcases vF hkn with h | h | h | h | h | h | h | h | h
    . exact asj true ts A c n v A1 A2 A3 n1 n2 n3 w hn h (hkk.trans h) hp hrl ht hv hf
    . exact asR true ts A c n v A1 A2 A3 n1 n2 n3 w hn h (hkk.trans h) hp hrl ht hv hf
    . exact atd true ts A c n v A1 A2 A3 n1 n2 n3 w hn h (hkk.trans h) hp hrl ht hv hf
    . first | exact aDn ts A c n v A1 A2 A3 n1 n2 n3 w hn h (hkk.trans h) hp (hrl rfl) ht hv hf | exact aDn ts A c n v A1 A2 A3 n1 n2 n3 w hn h (hkk.trans h) hp ht hv hf
    . exact ar0 true ts A c n v A1 A2 A3 n1 n2 n3 w hn h (hkk.trans h) hp hrl ht hv hf
    . first | exact aDr ts A c n v A1 A2 A3 n1 n2 n3 w hn h (hkk.trans h) hp (hrl rfl) ht hv hf | exact aDr ts A c n v A1 A2 A3 n1 n2 n3 w hn h (hkk.trans h) hp ht hv hf
    . exact atf true ts A c n v A1 A2 A3 n1 n2 n3 w hn h (hkk.trans h) hp hrl ht hv hf
    . exact arR true ts A c n v A1 A2 A3 n1 n2 n3 w hn h (hkk.trans h) hp hrl ht hv hf
    exact ath true ts A c n v A1 A2 A3 n1 n2 n3 w hn h (hkk.trans h) hp hrl ht hv hf
theorem UO:∀ (N:Nat) (v:Val),nodes v<=N->∀ (ts:List ay) (A:Option Addr) (c:Nat) (t:Int) (vk vi vr:Value) (w:World),Kinds ts ->
  aU w w.heap.size (.slice A ts.length c) ts->ValAt w w.heap.size v vk vi vr ->
  Calls Tryz.prog 32 #[.agg #[.slice A ts.length c],.int .i64 t,aS v vk vi vr,.bool false] w (RT w (.bool (cO ts false v t))):=by
 intro N
 induction N with
 | zero => intro v h;have:=zJ v;omega
 | succ N ih =>
  intro v hN ts A c t vk vi vr w hk ht hv;cases hta:bM ts t with
  | none =>
   rw [show cO ts false v t=false by rw [kG,hta]];exact aeX ts A c t v false vk vi vr w hta hv
  | some x =>
   obtain ⟨n,rfl,hn,rfl⟩ : ∃ n:Nat,t=n/\∃ hn:n < ts.length,ts[n]=x:=by
    exact zGi
   have hkn:iP ts[n].kind:=hk _ (jl hn);obtain ⟨A1,n1,A2,n2,A3,n3,rfl,rfl,rfl,-,-,-⟩:=hv.forms;have heq:cO ts false v n=((decide (v.kind=ts[n].kind) && aA v) && jT ts false ts[n] v):=by
    rw [kG,hta,Bool.and_assoc]
   rw [heq];cases hno:(decide (v.kind=ts[n].kind) && aA v) with
   | false =>
    rw [QE];exact ahd ts A c n v false A1 A2 A3 n1 n2 n3 w hn hkn hno ht
   | true =>
    rw [CX];simp only [j_,w_] at hno;obtain ⟨hkk,hp⟩:=hno;by_cases hpr:false=true/\0 < v.rest.length
    .
     first
      | exact absurd hpr.1 (by decide)
      | (rw [TJ ts _ v hp hkk hpr.2];exact ahe ts A c n v A1 A2 A3 n1 n2 n3 w hn hkn hkk hp hpr.2 ht)
    have hrl:false=true->v.rest.length=0:=fun h => by
     exact zGz
    have hne:=Jp v;have hf:∀ t,zL 32 ts (.slice A ts.length c) t false (fun y => cO ts false y t) (v.keys ++ v.items):=by
     exact zFk
    rcases vF hkn with h | h | h | h | h | h | h | h | h
    . exact asj false ts A c n v A1 A2 A3 n1 n2 n3 w hn h (hkk.trans h) hp hrl ht hv hf
    . exact asR false ts A c n v A1 A2 A3 n1 n2 n3 w hn h (hkk.trans h) hp hrl ht hv hf
    . exact atd false ts A c n v A1 A2 A3 n1 n2 n3 w hn h (hkk.trans h) hp hrl ht hv hf
    . first | exact IV ts A c n v A1 A2 A3 n1 n2 n3 w hn h (hkk.trans h) hp (hrl rfl) ht hv hf | exact IV ts A c n v A1 A2 A3 n1 n2 n3 w hn h (hkk.trans h) hp ht hv hf
    . exact ar0 false ts A c n v A1 A2 A3 n1 n2 n3 w hn h (hkk.trans h) hp hrl ht hv hf
    . first | exact IY ts A c n v A1 A2 A3 n1 n2 n3 w hn h (hkk.trans h) hp (hrl rfl) ht hv hf | exact IY ts A c n v A1 A2 A3 n1 n2 n3 w hn h (hkk.trans h) hp ht hv hf
    . exact atf false ts A c n v A1 A2 A3 n1 n2 n3 w hn h (hkk.trans h) hp hrl ht hv hf
    . exact arR false ts A c n v A1 A2 A3 n1 n2 n3 w hn h (hkk.trans h) hp hrl ht hv hf
    exact ath false ts A c n v A1 A2 A3 n1 n2 n3 w hn h (hkk.trans h) hp hrl ht hv hf
theorem zFg {p:Prop} (h:p:=by
 go_wp2_with fail;refine (HF.out _ (HT.out.on (h2b _ _)) (HV.out.on (h2b _ _))).mono ?_;rintro e w2 ⟨rfl,hb2⟩;go_wp2_with fail;go_ret;exact ⟨rfl,(h2b _ _).trans (hb2.mono (h2b _ _).size)⟩):p:=h
theorem acO (v:Val) (ts:List ay) (A:Option Addr) (c:Nat) (t:Int) (vk vi vr:Value) (w:World) (hk:Kinds ts) (ht:aU w w.heap.size (.slice A ts.length c) ts) (hv:ValAt w w.heap.size v vk vi vr) :
  Calls Tryz.prog 16 #[.agg #[.slice A ts.length c],.int .i64 t,aS v vk vi vr] w (RT w (.bool (cO ts false v t))):=by
 obtain ⟨A1,n1,A2,n2,A3,n3,rfl,rfl,rfl,-,-,-⟩:=hv.forms;have h2b:=Oe w;have HF:=hiQ (fun W => UO (nodes v) v (b_ _) ts A c t (.slice A1 v.keys.length n1) (.slice A2 v.items.length n2) (.slice A3 v.rest.length n3) W hk);have HV:=hiQ hv;have HT:=hiQ ht;clear hv ht hk;go_enter Tryz.func16,Tryz.ntmps16
 exact zFg
theorem aGg (v:Val) (ts:List ay) (A:Option Addr) (c:Nat) (t:Int) (vk vi vr:Value) (w:World) (hk:Kinds ts) (ht:aU w w.heap.size (.slice A ts.length c) ts) (hv:ValAt w w.heap.size v vk vi vr) :
  Calls Tryz.prog 13 #[.agg #[.slice A ts.length c],.int .i64 t,aS v vk vi vr] w (RT w (.bool (cO ts true v t))):=by
 obtain ⟨A1,n1,A2,n2,A3,n3,rfl,rfl,rfl,-,-,-⟩:=hv.forms;have h2b:=Oe w;have HF:=hiQ (fun W => aFT (nodes v) v (b_ _) ts A c t (.slice A1 v.keys.length n1) (.slice A2 v.items.length n2) (.slice A3 v.rest.length n3) W hk);have HV:=hiQ hv;have HT:=hiQ ht;clear hv ht hk;go_enter Tryz.func13,Tryz.ntmps13
 exact zFg

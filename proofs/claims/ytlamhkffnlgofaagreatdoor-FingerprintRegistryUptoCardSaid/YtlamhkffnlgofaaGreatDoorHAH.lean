/- What fits of the program computes for maps. What fits, Fits and Plain of the program compute. No condition. -/
import Derived.IntWalk
import Derived.Test.YtlamhkffnlgofaaGreatDoorFitsB
import Derived.Test.YtlamhkffnlgofaaGreatDoorFitsD
set_option maxHeartbeats 1600000
set_option maxRecDepth 100000
namespace Go.Proofs.YtlamhkffnlgofaaGreatDoor
open Go.ChangeShapes Go.WideShapes Go.ChangeAt Go.RowKit
theorem Yp (l:List Val) (k:Nat) (h:k+1 < l.length):ati (l.drop k)=(decide (alD l[k] l[k+1] < 0) && ati (l.drop (k+1))):=by
 rw [List.drop_eq_getElem_cons (show k < l.length by omega),List.drop_eq_getElem_cons h,ati]
theorem Va (l:List Val) (k:Nat) (h:l.length≤k+1):ati (l.drop k)=true:=by
 have h2:(l.drop k).length≤1:=by rw [List.length_drop];omega
 match l.drop k,h2 with
 | [],_ => rfl
 | [_],_ => rfl
 | _ :: _ :: _,h2 => simp at h2
theorem zCy {p:Prop} (h:p:=by
 rintro e w5 ⟨rfl,hb5⟩;have WZ:=hbd.trans (hb5.mono hbd.size);have h05:=GK.trans (hb5.mono GK.size);rw [hcv.out] at jB ⊢;clear hw0 hw1 hw2 hw3 hb5 hbd GK hcv;by_cases hneg:cv < 0
 ·
  have hd:decide (0≤cv)=false:=decide_eq_false (by omega);rw [decide_eq_true hneg,Bool.true_and] at jB;go_wp2_with fail;go_roundw
  case rel => exact ⟨k+1,by go_num,by omega,jB.out,WZ⟩
  case measure => simp [intOf];omega
 have hd:decide (0≤cv)=true:=decide_eq_true (by omega);rw [decide_eq_false hneg,Bool.false_and] at jB;rw [jB.out] at Hb;go_wp2_with fail;go_ret;exact ⟨au (by rw [Hb.out];simp),h05⟩):p:=h
theorem zEz {p:Prop} (h:p:=by
 have h2':((v.items.length:Int) != (v.keys.length:Int))=true:=by rw [bne_iff_ne];omega
 rw [decide_eq_true h1,decide_eq_false h2] at Hb;clear h1 h2;go_wp2_with fail;go_ret;exact ⟨au (by rw [Hb.out];simp),h02⟩):p:=h
theorem zFb {p:Prop} (h:p:=by
 rw [hfk] at HK Hb;clear hfk;go_wp2_with fail;refine (HK.out _ HV.out.keys HT.out).mono ?_;rintro e w3 ⟨rfl,hb3⟩;go_wp2_with fail;go_ret;exact ⟨au (by rw [Hb.out];simp),h02.trans (hb3.mono h02.size)⟩):p:=h
theorem zFh {p:Prop} (h:p:=by
 have h1':decide (x.max < (v.keys.length:Int))=true:=decide_eq_true (by omega);rw [decide_eq_false h1] at Hb;clear h1;go_wp2_with fail;go_ret;exact ⟨au (by rw [Hb.out];simp),h02⟩):p:=h
theorem ay3
 (ts:List ay) (A:Option Addr) (c n:Nat) (v:Val) (pl:Bool) (A1 A2 A3:Option Addr) (n1 n2 n3:Nat) (w:World) (hn:n < ts.length) (hkx:ts[n].kind=8) (hkv:v.kind=8) (hp:aA v=true)
 (ht:aU w w.heap.size (.slice A ts.length c) ts) (hv:ValAt w w.heap.size v (.slice A1 v.keys.length n1) (.slice A2 v.items.length n2) (.slice A3 v.rest.length n3))
 (hf:∀ t,zL 107 ts (.slice A ts.length c) t pl (fun y => cO ts pl y t) (v.keys ++ v.items)) :
 Calls Tryz.prog 107 #[.agg #[.slice A ts.length c],.int .i64 n,aS v (.slice A1 v.keys.length n1) (.slice A2 v.items.length n2) (.slice A3 v.rest.length n3),.bool pl] w (RTq w (.bool (jT ts pl ts[n] v))):=by
 have h3b:=KH w;obtain ⟨b,o,rfl,hbb,hel⟩:=ht.elem (by omega);obtain ⟨vs,vm,hcells,hx⟩:=hel n hn;clear hel;generalize ts[n]=x at *;obtain ⟨C1,l1,C2,l2,rfl,rfl,-,-⟩:=hx.forms;obtain ⟨c0,c1,c2,c3,c4,c5,c6,c7,c8,c9⟩:=hcells;have hlt:(n:Int) < ts.length:=by omega
 have hd0:decide ((n:Int) < 0)=false:=by simp
 have hd1:decide (ts.length≤n)=false:=by simpa using hn
 simp only [aS,hkv];rw [hkx] at c0;have HP:=hiQ (fun W => asN v A1 A2 A3 n1 n2 n3 W hkv);simp only [aS,hkv,hp] at HP;have HF:=hiQ hf;have HT:=hiQ ht;have HV:=hiQ hv;have HX:=hiQ hx;have xI:=hiQ hkx;have Ul:=hiQ hkv;have hxs:=hx.lens;have hvl:=hv.lens;clear hf ht hv hx hkx hkv hp hn;go_enter Tryz.func107,Tryz.ntmps107
 go_wp2_with fail;refine (HP.out _).mono ?_;rintro e w2 ⟨rfl,hb2⟩;have HS:=(((Has.made _ _ _).alloc _).alloc _).below hb2 (by simp;omega);have HW:=((Has.made _ _ _).alloc _).below hb2 (by simp);have HY:=(Has.made _ _ _).below hb2 (by simp);rw [jG] at HW;rw [jG,jG] at HY;have h02:=(h3b _ _ _).trans (hb2.mono (h3b _ _ _).size);have hz2:=HY.here;have HT:=hiQ (HT.out.on h02);have HV:=hiQ (HV.out.on h02);have HX:=hiQ (HX.out.keep (fun _ hp => h02.cell hp) h02.size);obtain ⟨v0,v1,v2,v3,v4,v5,v6,v7⟩:=HW.c8;obtain ⟨t0,t1,t2,t3,t4,t5,t6,t7,t8,t9⟩:=HY.c10;have s0:=HS.cell 0;simp only [qI] at s0;clear hb2 h3b c0 c1 c2 c3 c4 c5 c6 c7 c8 c9;have HS:=hiQ HS;have HW:=hiQ HW;have HY:=hiQ HY;have HK:=hiQ (fun W hi ht => ars ts (some ⟨b,o,none⟩) c x.key pl (fun y => cO ts pl y x.key) v.keys (.slice A1 v.keys.length n1) W (fun y vk vi vr W' hm => HF.out x.key y vk vi vr W' (by simp [hm])) hvl.1 hi ht);have HE:=hiQ (fun W hi ht => ars ts (some ⟨b,o,none⟩) c x.elem pl (fun y => cO ts pl y x.elem) v.items (.slice A2 v.items.length n2) W (fun y vk vi vr W' hm => HF.out x.elem y vk vi vr W' (by simp [hm])) hvl.2.1 hi ht);rw [← uT] at HE HK;have Hb:Hid (jT ts pl x v=(decide ((v.keys.length:Int)≤x.max) && (decide (v.items.length=v.keys.length) && (rC ts pl v.keys x.key && (ati v.keys && rC ts pl v.items x.elem))))):=by
  show _=_;simp [ig,xI.out]
 by_cases h1:((v.keys.length:Int)≤x.max)
 ·
  have h1':decide (x.max < (v.keys.length:Int))=false:=decide_eq_false (by omega);by_cases h2:v.items.length=v.keys.length
  ·
   have h2':((v.items.length:Int) != (v.keys.length:Int))=false:=by simp [h2]
   rw [decide_eq_true h1,decide_eq_true h2] at Hb;clear h1 h2;cases hfk:rC ts pl v.keys x.key
   · exact zFb
   rw [hfk] at HK Hb;clear hfk;go_wp2_with fail;refine (HK.out _ HV.out.keys HT.out).mono ?_;rintro e w3 ⟨rfl,hb3⟩;have h03:=h02.trans (hb3.mono h02.size);have HV:=hiQ (HV.out.on hb3);have HT:=hiQ (HT.out.on hb3);have HX:=hiQ (HX.out.on hb3);have HS:=HS.out.below hb3 (by omega);have HW:=HW.out.below hb3 (by omega);have HY:=HY.out.below hb3 (by omega);have hz3:=HY.here;clear s0 v0 v1 v2 v3 v4 v5 v6 v7 t0 t1 t2 t3 t4 t5 t6 t7 t8 t9;have s0:=HS.cell 0;have v4:=HW.cell 4;have v5:=HW.cell 5;have v6:=HW.cell 6;have v7:=HW.cell 7;have t6:=HY.cell 6;have t8:=HY.cell 8;have t9:=HY.cell 9;simp only [qI] at s0 v4 v5 v6 v7 t6 t8 t9;have HS:=hiQ HS;have HW:=hiQ HW;have HY:=hiQ HY;clear hb3 h02;go_wp2_with fail;have HHS:=HS;have HHW:=HW;have HHY:=HY;clear HS HW HY HP HK;go_loopw [20] (fun i wr => ∃ k:Nat,i = .int .i64 ((k:Int)+1)∧k≤v.keys.length∧ati v.keys=ati (v.keys.drop k)∧Below w3.heap.size w3 wr) (fun i _ => v.keys.length+1 - (intOf i).toNat)
   case atStart => exact ⟨0,rfl,by omega,rfl,Below.refl _ _⟩
   case round =>
    obtain ⟨k,rfl,hk,hix,hb⟩:=hrel;have q0:=(HHS.out.below hb (by omega)).cell 0;have q5:=(HHW.out.below hb (by omega)).cell 5;have q6:=(HHW.out.below hb (by omega)).cell 6;have q8:=(HHY.out.below hb (by omega)).cell 8;simp only [qI] at q0 q5 q6 q8;by_cases hlt:k+1 < v.keys.length
    ·
     obtain ⟨bk,ok,rfl,hbk,hek⟩:=(HV.out.on hb).keys.elem (by omega);obtain ⟨xk,xi,xr,hcx,hxa⟩:=hek k (by omega);obtain ⟨yk,yi,yr,hcy,hya⟩:=hek (k+1) hlt;rw [Yp _ _ hlt] at hix;generalize v.keys[k]=a at *;generalize v.keys[k+1]=d at *;obtain ⟨E1,k1,E2,k2,E3,k3,rfl,rfl,rfl,-,-,-⟩:=hxa.forms;obtain ⟨F1,m1,F2,m2,F3,m3,rfl,rfl,rfl,-,-,-⟩:=hya.forms;obtain ⟨a0,a1,a2,a3,a4,a5,a6,a7⟩:=hcx;obtain ⟨d0,d1,d2,d3,d4,d5,d6,d7⟩:=hcy;have HA:=hiQ hxa;have HD:=hiQ hya;have jB:=hiQ hix;have hi1:(k:Int)+1 < v.keys.length:=by omega
     have hi2:(k:Int) < v.keys.length:=by omega
     have h0r:=h03.trans (hb.mono h03.size);clear hek hxa hya hix;go_wp2_with fail;have hw0:IntKind.i64.wrap (k:Int)=k:=IntWalk.i64_in _ (by omega);have hw1:IntKind.i64.wrap ((k:Int)+1 - 1)=k:=by rw [Int.add_sub_cancel];exact hw0
     have hw2:((k:Int)+1).toNat=k+1:=by omega
     have hw3:0≤(k:Int)+1:=by omega
     go_still_tail 11,(by kernel_rfl)
     change wpList _ _ _ _ _ wr.drew
     have HA:=hiQ (HA.out.on (w':=wr.drew) (Below.refl _ _).drew);have HD:=hiQ (HD.out.on (w':=wr.drew) (Below.refl _ _).drew);have hbd:=hb.drew;have GK:=h0r.drew;obtain ⟨cv,hcv⟩ : ∃ cv,Hid (alD a d=cv):=⟨_,rfl⟩
     clear hb h0r a0 a1 a2 a3 a4 a5 a6 a7 d0 d1 d2 d3 d4 d5 d6 d7 q0 q5 q6 q8;generalize wr.drew=w4 at *;go_wp2_with fail;refine (U9 a d _ _ _ _ _ _ _ HA.out HD.out).mono ?_;exact zCy
    rw [Va _ _ (by omega)] at hix;rw [hix] at Hb;have HIr:=hiQ ((HV.out.on hb).items);have HTr:=hiQ (HT.out.on hb);have h0r:=h03.trans (hb.mono h03.size);clear hix hb h03;go_wp2_with fail;refine (HE.out _ HIr.out HTr.out).mono ?_;rintro e w5 ⟨rfl,hb5⟩;go_wp2_with fail;go_ret;exact ⟨au (by rw [Hb.out];simp),h0r.trans (hb5.mono h0r.size)⟩
  exact zEz
 exact zFh
def iP (k:Int):Prop:=1≤k∧k≤9
theorem vF {k:Int} (h:iP k):k=1∨k=2∨k=3∨k=4∨k=5∨k=6∨k=7∨k=8∨k=9:=by
 unfold iP at h;omega
theorem axJ (x:Val) (A1 A2 A3:Option Addr) (n1 n2 n3:Nat) (w:World) (hk:iP x.kind) :
  Calls Tryz.prog 129 #[aS x (.slice A1 x.keys.length n1) (.slice A2 x.items.length n2) (.slice A3 x.rest.length n3)] w (RTq w (.bool (aA x))):=by
 rcases vF hk with h | h | h | h | h | h | h | h | h
 · exact asG x A1 A2 A3 n1 n2 n3 w h
 · exact asH x A1 A2 A3 n1 n2 n3 w h
 · exact asI x A1 A2 A3 n1 n2 n3 w h
 · exact asJ x A1 A2 A3 n1 n2 n3 w h
 · exact aq1 x A1 A2 A3 n1 n2 n3 w h
 · exact asM x A1 A2 A3 n1 n2 n3 w h
 · exact asK x A1 A2 A3 n1 n2 n3 w h
 · exact asN x A1 A2 A3 n1 n2 n3 w h
 exact asL x A1 A2 A3 n1 n2 n3 w h
theorem zGf {p:Prop} (h:p:=by
 go_wp2_with fail;go_ret;exact ⟨rfl,h2b _ _⟩):p:=h
theorem aAh (ts:List ay) (A:Option Addr) (c:Nat) (t:Int) (v:Val) (pl:Bool) (vk vi vr:Value) (w:World) (hn:bM ts t=none) (hv:ValAt w w.heap.size v vk vi vr) :
  Calls Tryz.prog 107 #[.agg #[.slice A ts.length c],.int .i64 t,aS v vk vi vr,.bool pl] w (RTq w (.bool false)):=by
 obtain ⟨A1,n1,A2,n2,A3,n3,rfl,rfl,rfl,-,-,-⟩:=hv.forms;have h2b:=Oe w;clear hv;by_cases h0:t < 0
 ·
  clear hn;go_enter Tryz.func107,Tryz.ntmps107
  exact zGf
 obtain ⟨n,rfl⟩ : ∃ n:Nat,t=n:=⟨t.toNat,by omega⟩
 have hlt:ts.length≤n:=by
  simpa [bM] using hn
 have hd0:decide ((n:Int) < 0)=false:=by simp
 have hd1:decide (ts.length≤n)=true:=by simpa using hlt
 clear hn h0;go_enter Tryz.func107,Tryz.ntmps107
 exact zGf
theorem zFs {p:Prop} (h:p:=by
 go_wp2_with fail;refine (HP.out _).mono ?_;rintro e w2 ⟨rfl,hb2⟩;go_wp2_with fail;go_ret;exact ⟨rfl,(h3b _ _ _).trans (hb2.mono (h3b _ _ _).size)⟩):p:=h
theorem aBA (ts:List ay) (A:Option Addr) (c n:Nat) (v:Val) (pl:Bool) (A1 A2 A3:Option Addr) (n1 n2 n3:Nat) (w:World) (hn:n < ts.length) (hk:iP ts[n].kind) (hno:(decide (v.kind=ts[n].kind) && aA v)=false)
  (ht:aU w w.heap.size (.slice A ts.length c) ts) :
  Calls Tryz.prog 107 #[.agg #[.slice A ts.length c],.int .i64 n,aS v (.slice A1 v.keys.length n1) (.slice A2 v.items.length n2) (.slice A3 v.rest.length n3),.bool pl] w (RTq w (.bool false)):=by
 have h3b:=KH w;obtain ⟨b,o,rfl,hbb,hel⟩:=ht.elem (by omega);obtain ⟨vs,vm,hcells,hx⟩:=hel n hn;clear hel;generalize ts[n]=x at *;obtain ⟨C1,l1,C2,l2,rfl,rfl,-,-⟩:=hx.forms;obtain ⟨c0,c1,c2,c3,c4,c5,c6,c7,c8,c9⟩:=hcells;have hlt:(n:Int) < ts.length:=by omega
 have hd0:decide ((n:Int) < 0)=false:=by simp
 have hd1:decide (ts.length≤n)=false:=by simpa using hn
 by_cases hkk:v.kind=x.kind
 ·
  rw [decide_eq_true hkk,Bool.true_and] at hno;have HP:=hiQ (fun W => axJ v A1 A2 A3 n1 n2 n3 W (by rw [hkk];exact hk));have hne:(v.kind != x.kind)=false:=by simp [hkk]
  simp only [aS,hno] at HP ⊢;clear ht hx hno hkk hk;go_enter Tryz.func107,Tryz.ntmps107
  exact zFs
 have hne:(v.kind != x.kind)=true:=by simpa using hkk
 clear ht hx hno hkk hk;go_enter Tryz.func107,Tryz.ntmps107
 go_wp2_with fail;go_ret;exact ⟨rfl,h3b _ _ _⟩
def Kinds (ts:List ay):Prop := ∀ x ∈ ts,iP x.kind
theorem zGd {p:Prop} (h:p:=by
 unfold bM at hta;split at hta
 ·
  obtain ⟨h1,h2⟩:=List.getElem?_eq_some_iff.1 hta;exact ⟨t.toNat,by omega,h1,h2⟩
 cases hta):p:=h
theorem fits_any:∀ (N:Nat) (v:Val),nodes v≤N→∀ (ts:List ay) (A:Option Addr) (c:Nat) (t:Int) (pl:Bool) (vk vi vr:Value) (w:World),Kinds ts →
  aU w w.heap.size (.slice A ts.length c) ts→ValAt w w.heap.size v vk vi vr →
  Calls Tryz.prog 107 #[.agg #[.slice A ts.length c],.int .i64 t,aS v vk vi vr,.bool pl] w (RTq w (.bool (cO ts pl v t))):=by
 intro N
 induction N with
 | zero => intro v h;have:=zJ v;omega
 | succ N ih =>
  intro v hN ts A c t pl vk vi vr w hk ht hv;cases hta:bM ts t with
  | none =>
   rw [show cO ts pl v t=false by rw [kG,hta]];exact aAh ts A c t v pl vk vi vr w hta hv
  | some x =>
   obtain ⟨n,rfl,hn,rfl⟩ : ∃ n:Nat,t=n∧∃ hn:n < ts.length,ts[n]=x:=by
    exact zGd
   have hkn:iP ts[n].kind:=hk _ (List.getElem_mem hn);obtain ⟨A1,n1,A2,n2,A3,n3,rfl,rfl,rfl,-,-,-⟩:=hv.forms;have heq:cO ts pl v n=((decide (v.kind=ts[n].kind) && aA v) && jT ts pl ts[n] v):=by
    rw [kG,hta,Bool.and_assoc]
   rw [heq];cases hno:(decide (v.kind=ts[n].kind) && aA v) with
   | false =>
    rw [Bool.false_and];exact aBA ts A c n v pl A1 A2 A3 n1 n2 n3 w hn hkn hno ht
   | true =>
    rw [Bool.true_and];simp only [Bool.and_eq_true,decide_eq_true_eq] at hno;obtain ⟨hkk,hp⟩:=hno;have hne:=Jp v;have hf:∀ t,zL 107 ts (.slice A ts.length c) t pl (fun y => cO ts pl y t) (v.keys ++ v.items):=by
     intro t y yk yi yr W hy hya hts;have hm:nodes y≤N:=by
      rcases List.mem_append.1 hy with h | h
      · have:=tY _ _ h;omega
      have:=tY _ _ h;omega
     exact ih y hm ts A c t pl yk yi yr W hk hts hya
    rcases vF hkn with h | h | h | h | h | h | h | h | h
    · exact ays ts A c n v pl A1 A2 A3 n1 n2 n3 w hn h (hkk.trans h) hp ht hv hf
    · exact ayt ts A c n v pl A1 A2 A3 n1 n2 n3 w hn h (hkk.trans h) hp ht hv hf
    · exact ayu ts A c n v pl A1 A2 A3 n1 n2 n3 w hn h (hkk.trans h) hp ht hv hf
    · exact ayv ts A c n v pl A1 A2 A3 n1 n2 n3 w hn h (hkk.trans h) hp ht hv hf
    ·
     cases pl with
     | true => exact auV ts A c n v A1 A2 A3 n1 n2 n3 w hn h (hkk.trans h) hp ht hv hf
     | false => exact aub ts A c n v A1 A2 A3 n1 n2 n3 w hn h (hkk.trans h) hp ht hv hf
    · exact ayy ts A c n v pl A1 A2 A3 n1 n2 n3 w hn h (hkk.trans h) hp ht hv hf
    · exact ayw ts A c n v pl A1 A2 A3 n1 n2 n3 w hn h (hkk.trans h) hp ht hv hf
    · exact ay3 ts A c n v pl A1 A2 A3 n1 n2 n3 w hn h (hkk.trans h) hp ht hv hf
    exact ayx ts A c n v pl A1 A2 A3 n1 n2 n3 w hn h (hkk.trans h) hp ht hv hf
theorem zFe {p:Prop} (h:p:=by
 go_wp2_with fail;refine (HF.out _ (HT.out.on (h2b _ _)) (HV.out.on (h2b _ _))).mono ?_;rintro e w2 ⟨rfl,hb2⟩;go_wp2_with fail;go_ret;exact ⟨rfl,(h2b _ _).trans (hb2.mono (h2b _ _).size)⟩):p:=h
theorem axy (v:Val) (ts:List ay) (A:Option Addr) (c:Nat) (t:Int) (vk vi vr:Value) (w:World) (hk:Kinds ts) (ht:aU w w.heap.size (.slice A ts.length c) ts) (hv:ValAt w w.heap.size v vk vi vr) :
  Calls Tryz.prog 78 #[.agg #[.slice A ts.length c],.int .i64 t,aS v vk vi vr] w (RTq w (.bool (cO ts true v t))):=by
 obtain ⟨A1,n1,A2,n2,A3,n3,rfl,rfl,rfl,-,-,-⟩:=hv.forms;have h2b:=Oe w;have HF:=hiQ (fun W => fits_any (nodes v) v (Nat.le_refl _) ts A c t true (.slice A1 v.keys.length n1) (.slice A2 v.items.length n2) (.slice A3 v.rest.length n3) W hk);have HV:=hiQ hv;have HT:=hiQ ht;clear hv ht hk;go_enter Tryz.func78,Tryz.ntmps78
 exact zFe
end Go.Proofs.YtlamhkffnlgofaaGreatDoor

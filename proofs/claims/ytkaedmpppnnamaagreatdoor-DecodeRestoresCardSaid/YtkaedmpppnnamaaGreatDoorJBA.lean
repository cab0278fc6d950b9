/- What fit of the reference computes, kind by kind, and what else is used with it. No condition. -/
import Derived.Test.YtkaedmpppnnamaaGreatDoorJAA
import Derived.Test.YtkaedmpppnnamaaGreatDoorHAE
set_option maxHeartbeats 1600000
set_option maxRecDepth 100000
namespace Go.Proofs.YtkaedmpppnnamaaGreatDoor
open ChangeShapes WideShapes ChangeAt RowKit
theorem zKc {p:Prop} (h:p:=by
 go_wp2_with fail;clear bK dh dn dI bG aQ aP dJ kT;((with_reducible refine (HP.out _).mono ?_);rintro e kL ⟨rfl,iR⟩);obtain ⟨S,V,Y⟩:=b3 S V Y iR;replace hw3:=dT hw3 iR;clear iR;have dJ:=V.out.e7;cases pl
 .
  go_wp2_with fail;go_meet
  exact ⟨rfl,S.out,V.out,Y.out,hw3⟩
 have MR:decide (0 < v.rest.length)=false:=f_ (by have:=HRL.out rfl;omega);have hr4:decide ((0:Int) < v.rest.length)=false:=f_ (by have:=HRL.out rfl;omega);go_wp2_with fail;go_meet
 exact ⟨rfl,S.out,V.out,Y.out,hw3⟩):p:=h
theorem zKd {p:Prop} (h:p:=by
 obtain ⟨rfl,HS,HW,HY,h02⟩:=hcut;clear S V Y hw3;have hz2:=HY.here;have HT:=hiQ (HT.out.on h02);have HV:=hiQ (HV.out.on h02);have HX:=hiQ (HX.out.keep (fun _ hp => h02.cell hp) h02.size);obtain ⟨v0,v1,v2,v3,v4,v5,v6,v7⟩:=HW.c8;obtain ⟨t0,t1,t2,t3,t4,t5,t6,t7,t8,t9⟩:=HY.c10;have s0:=HS.cell 0;simp only [qI] at s0;have HS:=hiQ HS;have HW:=hiQ HW;have HY:=hiQ HY;go_wp2_with fail;go_ret;exact ⟨au (by simp [ig,xI.out]),h02⟩):p:=h
theorem asj
 (pl:Bool) (ts:List ay) (A:Option Addr) (c n:Nat) (v:Val) (A1 A2 A3:Option Addr) (n1 n2 n3:Nat) (w:World) (hn:n < ts.length) (hkx:ts[n].kind=1) (hkv:v.kind=1) (hp:aA v=true) (hrl:pl=true->v.rest.length=0)
 (ht:aU w w.heap.size (.slice A ts.length c) ts) (hv:ValAt w w.heap.size v (.slice A1 v.keys.length n1) (.slice A2 v.items.length n2) (.slice A3 v.rest.length n3))
 (hf:∀ t,zL 32 ts (.slice A ts.length c) t pl (fun y => cO ts pl y t) (v.keys ++ v.items)) :
 Calls Tryz.prog 32 #[.agg #[.slice A ts.length c],.int .i64 n,aS v (.slice A1 v.keys.length n1) (.slice A2 v.items.length n2) (.slice A3 v.rest.length n3),.bool pl] w (RT w (.bool (jT ts pl ts[n] v))):=by
 obtain ⟨b,o,rfl,hbb,hel⟩:=ht.elem (by omega);obtain ⟨vs,vm,hcells,hx⟩:=hel n hn;clear hel;generalize ts[n]=x at *;obtain ⟨C1,l1,C2,l2,rfl,rfl,-,-⟩:=hx.forms;have HC:=hiQ hcells;have hlt:(n:Int) < ts.length:=by omega
 have hd0:decide ((n:Int) < 0)=false:=by simp
 have hd1:decide (ts.length<=n)=false:=by simpa using hn
 simp only [aS,hkv];have HP:=hiQ (fun W => Q8 v A1 A2 A3 n1 n2 n3 W hkv);simp only [aS,hkv,hp] at HP;have HF:=hiQ hf;have HRL:=hiQ hrl;clear hrl;have HT:=hiQ ht;have HV:=hiQ hv;have HX:=hiQ hx;have xI:=hiQ hkx;have Ul:=hiQ hkv;have hxs:=hx.lens;have hvl:=hv.lens;clear hf ht hv hx hcells hkx hkv hp hn;go_enter Tryz.func32,Tryz.ntmps32
 go_upto_region 1 with fail;refine jg (fun wd2 hb1 S V => ?_);have hw3:=hb1;clear hb1;obtain ⟨c0,c1,c2,c3,c4,c5,c6,c7,c8,c9⟩:=HC.out.below (hw3) (by omega);rw [xI.out] at c0;have aH:=S.out.e0;go_upto_region 4 with fail;clear c0 c1 c2 c3 c4 c5 c6 c7 c8 c9 hd0 hd1 aH;refine aO (fun fG hb4 Y => ?_);have nI:=S.out.here;have mO:=V.out.here;have kH:=hw3.size;obtain ⟨S,V⟩:=b2 S V hb4;replace hw3:=dT hw3 hb4;clear hb4;generalize wd2.heap.size=g6 at *;obtain ⟨gY,rfl⟩ : ∃ g,g=g6:=⟨_,rfl⟩
 have hgY:w.heap.size+1 < gY:=by omega
 obtain ⟨bK,dh,dn,dI,bG,aQ,aP,dJ⟩:=V.out.c8;have kT:=Y.out.e0;go_cut [48] from 30 to 47 (fun s48 wx => s48 = .bool false/\Has wx w.heap.size 30 #[.slice (some ⟨b,o,none⟩) ts.length c]/\Has wx (w.heap.size+1) 34 #[.int .i64 1,.bool v.bool,.int .i64 v.num,.string ⟨v.str.toArray⟩,.int .i64 v.id,.slice A1 v.keys.length n1,.slice A2 v.items.length n2,.slice A3 v.rest.length n3]/\Has wx gY 72 #[.int .i64 1,.string ⟨x.name.toArray⟩,.int .i64 x.low,.int .i64 x.high,.int .i64 x.max,.slice C1 x.syms.length l1,.slice C2 x.ah.length l2,.int .i64 x.key,.int .i64 x.elem,.bool x.opn]/\Below w.heap.size w wx)
 case first =>
  exact zKc
 case rest =>
  exact zKd
theorem asR
 (pl:Bool) (ts:List ay) (A:Option Addr) (c n:Nat) (v:Val) (A1 A2 A3:Option Addr) (n1 n2 n3:Nat) (w:World) (hn:n < ts.length) (hkx:ts[n].kind=2) (hkv:v.kind=2) (hp:aA v=true) (hrl:pl=true->v.rest.length=0)
 (ht:aU w w.heap.size (.slice A ts.length c) ts) (hv:ValAt w w.heap.size v (.slice A1 v.keys.length n1) (.slice A2 v.items.length n2) (.slice A3 v.rest.length n3))
 (hf:∀ t,zL 32 ts (.slice A ts.length c) t pl (fun y => cO ts pl y t) (v.keys ++ v.items)) :
 Calls Tryz.prog 32 #[.agg #[.slice A ts.length c],.int .i64 n,aS v (.slice A1 v.keys.length n1) (.slice A2 v.items.length n2) (.slice A3 v.rest.length n3),.bool pl] w (RT w (.bool (jT ts pl ts[n] v))):=by
 obtain ⟨b,o,rfl,hbb,hel⟩:=ht.elem (by omega);obtain ⟨vs,vm,hcells,hx⟩:=hel n hn;clear hel;generalize ts[n]=x at *;obtain ⟨C1,l1,C2,l2,rfl,rfl,-,-⟩:=hx.forms;have HC:=hiQ hcells;have hlt:(n:Int) < ts.length:=by omega
 have hd0:decide ((n:Int) < 0)=false:=by simp
 have hd1:decide (ts.length<=n)=false:=by simpa using hn
 simp only [aS,hkv];have HP:=hiQ (fun W => Q9 v A1 A2 A3 n1 n2 n3 W hkv);simp only [aS,hkv,hp] at HP;have HF:=hiQ hf;have HRL:=hiQ hrl;clear hrl;have HT:=hiQ ht;have HV:=hiQ hv;have HX:=hiQ hx;have xI:=hiQ hkx;have Ul:=hiQ hkv;have hxs:=hx.lens;have hvl:=hv.lens;clear hf ht hv hx hcells hkx hkv hp hn;go_enter Tryz.func32,Tryz.ntmps32
 go_upto_region 1 with fail;refine jg (fun wd2 hb1 S V => ?_);have hw3:=hb1;clear hb1;obtain ⟨c0,c1,c2,c3,c4,c5,c6,c7,c8,c9⟩:=HC.out.below (hw3) (by omega);rw [xI.out] at c0;have aH:=S.out.e0;go_upto_region 4 with fail;clear c0 c1 c2 c3 c4 c5 c6 c7 c8 c9 hd0 hd1 aH;refine aO (fun fG hb4 Y => ?_);have nI:=S.out.here;have mO:=V.out.here;have kH:=hw3.size;obtain ⟨S,V⟩:=b2 S V hb4;replace hw3:=dT hw3 hb4;clear hb4;generalize wd2.heap.size=g6 at *;obtain ⟨gY,rfl⟩ : ∃ g,g=g6:=⟨_,rfl⟩
 have hgY:w.heap.size+1 < gY:=by omega
 obtain ⟨bK,dh,dn,dI,bG,aQ,aP,dJ⟩:=V.out.c8;have kT:=Y.out.e0;go_cut [48] from 30 to 47 (fun s48 wx => s48 = .bool false/\Has wx w.heap.size 30 #[.slice (some ⟨b,o,none⟩) ts.length c]/\Has wx (w.heap.size+1) 34 #[.int .i64 2,.bool v.bool,.int .i64 v.num,.string ⟨v.str.toArray⟩,.int .i64 v.id,.slice A1 v.keys.length n1,.slice A2 v.items.length n2,.slice A3 v.rest.length n3]/\Has wx gY 72 #[.int .i64 2,.string ⟨x.name.toArray⟩,.int .i64 x.low,.int .i64 x.high,.int .i64 x.max,.slice C1 x.syms.length l1,.slice C2 x.ah.length l2,.int .i64 x.key,.int .i64 x.elem,.bool x.opn]/\Below w.heap.size w wx)
 case first =>
  exact zKc
 case rest =>
  obtain ⟨rfl,HS,HW,HY,h02⟩:=hcut;clear S V Y hw3;have hz2:=HY.here;have HT:=hiQ (HT.out.on h02);have HV:=hiQ (HV.out.on h02);have HX:=hiQ (HX.out.keep (fun _ hp => h02.cell hp) h02.size);obtain ⟨v0,v1,v2,v3,v4,v5,v6,v7⟩:=HW.c8;obtain ⟨t0,t1,t2,t3,t4,t5,t6,t7,t8,t9⟩:=HY.c10;have s0:=HS.cell 0;simp only [qI] at s0;have HS:=hiQ HS;have HW:=hiQ HW;have HY:=hiQ HY;by_cases h1:x.low<=v.num
  .
   by_cases h2:v.num<=x.high
   all_goals
    go_wp2_with fail;go_ret;exact ⟨au (by simp [ig,xI.out,h1,h2]),h02⟩
  go_wp2_with fail;go_ret;exact ⟨au (by simp [ig,xI.out];intro h;omega),h02⟩
theorem atd
 (pl:Bool) (ts:List ay) (A:Option Addr) (c n:Nat) (v:Val) (A1 A2 A3:Option Addr) (n1 n2 n3:Nat) (w:World) (hn:n < ts.length) (hkx:ts[n].kind=3) (hkv:v.kind=3) (hp:aA v=true) (hrl:pl=true->v.rest.length=0)
 (ht:aU w w.heap.size (.slice A ts.length c) ts) (hv:ValAt w w.heap.size v (.slice A1 v.keys.length n1) (.slice A2 v.items.length n2) (.slice A3 v.rest.length n3))
 (hf:∀ t,zL 32 ts (.slice A ts.length c) t pl (fun y => cO ts pl y t) (v.keys ++ v.items)) :
 Calls Tryz.prog 32 #[.agg #[.slice A ts.length c],.int .i64 n,aS v (.slice A1 v.keys.length n1) (.slice A2 v.items.length n2) (.slice A3 v.rest.length n3),.bool pl] w (RT w (.bool (jT ts pl ts[n] v))):=by
 obtain ⟨b,o,rfl,hbb,hel⟩:=ht.elem (by omega);obtain ⟨vs,vm,hcells,hx⟩:=hel n hn;clear hel;generalize ts[n]=x at *;obtain ⟨C1,l1,C2,l2,rfl,rfl,-,-⟩:=hx.forms;have HC:=hiQ hcells;have hlt:(n:Int) < ts.length:=by omega
 have hd0:decide ((n:Int) < 0)=false:=by simp
 have hd1:decide (ts.length<=n)=false:=by simpa using hn
 simp only [aS,hkv];have HP:=hiQ (fun W => Rf v A1 A2 A3 n1 n2 n3 W hkv);simp only [aS,hkv,hp] at HP;have HF:=hiQ hf;have HRL:=hiQ hrl;clear hrl;have HT:=hiQ ht;have HV:=hiQ hv;have HX:=hiQ hx;have xI:=hiQ hkx;have Ul:=hiQ hkv;have hxs:=hx.lens;have hvl:=hv.lens;clear hf ht hv hx hcells hkx hkv hp hn;go_enter Tryz.func32,Tryz.ntmps32
 go_upto_region 1 with fail;refine jg (fun wd2 hb1 S V => ?_);have hw3:=hb1;clear hb1;obtain ⟨c0,c1,c2,c3,c4,c5,c6,c7,c8,c9⟩:=HC.out.below (hw3) (by omega);rw [xI.out] at c0;have aH:=S.out.e0;go_upto_region 4 with fail;clear c0 c1 c2 c3 c4 c5 c6 c7 c8 c9 hd0 hd1 aH;refine aO (fun fG hb4 Y => ?_);have nI:=S.out.here;have mO:=V.out.here;have kH:=hw3.size;obtain ⟨S,V⟩:=b2 S V hb4;replace hw3:=dT hw3 hb4;clear hb4;generalize wd2.heap.size=g6 at *;obtain ⟨gY,rfl⟩ : ∃ g,g=g6:=⟨_,rfl⟩
 have hgY:w.heap.size+1 < gY:=by omega
 obtain ⟨bK,dh,dn,dI,bG,aQ,aP,dJ⟩:=V.out.c8;have kT:=Y.out.e0;go_cut [48] from 30 to 47 (fun s48 wx => s48 = .bool false/\Has wx w.heap.size 30 #[.slice (some ⟨b,o,none⟩) ts.length c]/\Has wx (w.heap.size+1) 34 #[.int .i64 3,.bool v.bool,.int .i64 v.num,.string ⟨v.str.toArray⟩,.int .i64 v.id,.slice A1 v.keys.length n1,.slice A2 v.items.length n2,.slice A3 v.rest.length n3]/\Has wx gY 72 #[.int .i64 3,.string ⟨x.name.toArray⟩,.int .i64 x.low,.int .i64 x.high,.int .i64 x.max,.slice C1 x.syms.length l1,.slice C2 x.ah.length l2,.int .i64 x.key,.int .i64 x.elem,.bool x.opn]/\Below w.heap.size w wx)
 case first =>
  exact zKc
 case rest =>
  exact zKd
theorem zJy {p:Prop} (h:p:=by
 have HT:=hiQ ht;have HV:=hiQ hv;have HX:=hiQ hx;have xI:=hiQ hkx;have Ul:=hiQ hkv;have hxs:=hx.lens;have hvl:=hv.lens;clear hf ht hv hx hkx hkv hp hn;go_enter Tryz.func32,Tryz.ntmps32
 go_wp2_with fail;refine (HP.out _).mono ?_;rintro e w2 ⟨rfl,hb2⟩;have HS:=(((Has.made _ _ _).alloc _).alloc _).below hb2 (by simp;omega);have HW:=((Has.made _ _ _).alloc _).below hb2 (by simp);have HY:=(Has.made _ _ _).below hb2 (by simp);rw [jG] at HW;rw [jG,jG] at HY;have h02:=(h3b _ _ _).trans (hb2.mono (h3b _ _ _).size);have hz2:=HY.here;have HT:=hiQ (HT.out.on h02);have HV:=hiQ (HV.out.on h02);have HX:=hiQ (HX.out.keep (fun _ hp => h02.cell hp) h02.size);obtain ⟨v0,v1,v2,v3,v4,v5,v6,v7⟩:=HW.c8;obtain ⟨t0,t1,t2,t3,t4,t5,t6,t7,t8,t9⟩:=HY.c10;have s0:=HS.cell 0;simp only [qI] at s0;clear hb2 h3b c0 c1 c2 c3 c4 c5 c6 c7 c8 c9;have HS:=hiQ HS;have HW:=hiQ HW;have HY:=hiQ HY;have HM:=hiQ (fun W h => Ol x (.slice C1 x.syms.length l1) (.slice C2 x.ah.length l2) v.id W h);simp only [dA,xI.out,xg] at HM;cases hsy:qm x v.id with
 | some i =>
  simp only [hsy,M_] at HM;have Oz:=hiQ hsy;clear hsy;go_wp2_with fail;refine (HM.out _ HX.out).mono ?_;rintro e w3 ⟨rfl,hb3⟩;have h03:=h02.trans (hb3.mono h02.size);have HV:=hiQ (HV.out.on hb3);have HT:=hiQ (HT.out.on hb3);have HX:=hiQ (HX.out.on hb3);have HS:=HS.out.below hb3 (by omega);have HW:=HW.out.below hb3 (by omega);have HY:=HY.out.below hb3 (by omega);have hz3:=HY.here;clear s0 v0 v1 v2 v3 v4 v5 v6 v7 t0 t1 t2 t3 t4 t5 t6 t7 t8 t9;have s0:=HS.cell 0;have v4:=HW.cell 4;have v5:=HW.cell 5;have v6:=HW.cell 6;have v7:=HW.cell 7;have t6:=HY.cell 6;have t8:=HY.cell 8;have t9:=HY.cell 9;simp only [qI] at s0 v4 v5 v6 v7 t6 t8 t9;have HS:=hiQ HS;have HW:=hiQ HW;have HY:=hiQ HY;clear hb3 h02;go_wp2_with fail;go_ret;exact ⟨au (by simp [ig,xI.out,Oz.out]),h03⟩
 | none =>
  simp only [hsy,OU] at HM;have Oz:=hiQ hsy;clear hsy;go_wp2_with fail;refine (HM.out _ HX.out).mono ?_;rintro e w3 ⟨rfl,hb3⟩;have h03:=h02.trans (hb3.mono h02.size);have HV:=hiQ (HV.out.on hb3);have HT:=hiQ (HT.out.on hb3);have HX:=hiQ (HX.out.on hb3);have HS:=HS.out.below hb3 (by omega);have HW:=HW.out.below hb3 (by omega);have HY:=HY.out.below hb3 (by omega);have hz3:=HY.here;clear s0 v0 v1 v2 v3 v4 v5 v6 v7 t0 t1 t2 t3 t4 t5 t6 t7 t8 t9;have s0:=HS.cell 0;have v4:=HW.cell 4;have v5:=HW.cell 5;have v6:=HW.cell 6;have v7:=HW.cell 7;have t6:=HY.cell 6;have t8:=HY.cell 8;have t9:=HY.cell 9;simp only [qI] at s0 v4 v5 v6 v7 t6 t8 t9;have HS:=hiQ HS;have HW:=hiQ HW;have HY:=hiQ HY;clear hb3 h02;cases hop:x.opn
  all_goals
   rw [hop] at t9;have Hop:=hiQ hop;clear hop
  .
   go_wp2_with fail;go_ret;exact ⟨au (by simp [ig,xI.out,Oz.out,Hop.out]),h03⟩
  go_wp2_with (go_at_call 55;refine (EX _ _ _).mono ?_;rintro e w' ⟨rfl,rfl⟩)
  go_ret;exact ⟨au (by simp [ig,xI.out,Oz.out,Hop.out]),h03⟩):p:=h
theorem aDn
 (ts:List ay) (A:Option Addr) (c n:Nat) (v:Val) (A1 A2 A3:Option Addr) (n1 n2 n3:Nat) (w:World) (hn:n < ts.length) (hkx:ts[n].kind=4) (hkv:v.kind=4) (hp:aA v=true) (hrl:v.rest.length=0)
 (ht:aU w w.heap.size (.slice A ts.length c) ts) (hv:ValAt w w.heap.size v (.slice A1 v.keys.length n1) (.slice A2 v.items.length n2) (.slice A3 v.rest.length n3))
 (hf:∀ t,zL 32 ts (.slice A ts.length c) t true (fun y => cO ts true y t) (v.keys ++ v.items)) :
 Calls Tryz.prog 32 #[.agg #[.slice A ts.length c],.int .i64 n,aS v (.slice A1 v.keys.length n1) (.slice A2 v.items.length n2) (.slice A3 v.rest.length n3),.bool true] w (RT w (.bool (jT ts true ts[n] v))):=by
 have h3b:=KH w;obtain ⟨b,o,rfl,hbb,hel⟩:=ht.elem (by omega);obtain ⟨vs,vm,hcells,hx⟩:=hel n hn;clear hel;generalize ts[n]=x at *;obtain ⟨C1,l1,C2,l2,rfl,rfl,-,-⟩:=hx.forms;obtain ⟨c0,c1,c2,c3,c4,c5,c6,c7,c8,c9⟩:=hcells;have hlt:(n:Int) < ts.length:=by omega
 have hd0:decide ((n:Int) < 0)=false:=by simp
 have hd1:decide (ts.length<=n)=false:=by simpa using hn
 simp only [aS,hkv];rw [hkx] at c0;have HP:=hiQ (fun W => Rh v A1 A2 A3 n1 n2 n3 W hkv);simp only [aS,hkv,hp] at HP;have HF:=hiQ hf;have MR:decide (0 < v.rest.length)=false:=f_ (by omega);have hr4:decide ((0:Int) < v.rest.length)=false:=f_ (by omega);clear hrl;exact zJy
theorem zJs {p:Prop} (h:p:=by
 have Hr:Hid (jT ts pl x v=rC ts pl v.items x.elem):=by show _=_;simp [ig,xI.out,h1]
 clear h1;go_wp2_with fail;refine (HE.out _ HV.out.items HT.out).mono ?_;rintro e w3 ⟨rfl,hb3⟩;go_wp2_with fail;go_ret;exact ⟨au (by rw [Hr.out]),h02.trans (hb3.mono h02.size)⟩):p:=h
theorem zJv {p:Prop} (h:p:=by
 have Hr:Hid (jT ts pl x v=false):=by show _=_;simp [ig,xI.out,h1]
 clear h1;go_wp2_with fail;go_ret;exact ⟨au (by rw [Hr.out]),h02⟩):p:=h
theorem atf
 (pl:Bool) (ts:List ay) (A:Option Addr) (c n:Nat) (v:Val) (A1 A2 A3:Option Addr) (n1 n2 n3:Nat) (w:World) (hn:n < ts.length) (hkx:ts[n].kind=7) (hkv:v.kind=7) (hp:aA v=true) (hrl:pl=true->v.rest.length=0)
 (ht:aU w w.heap.size (.slice A ts.length c) ts) (hv:ValAt w w.heap.size v (.slice A1 v.keys.length n1) (.slice A2 v.items.length n2) (.slice A3 v.rest.length n3))
 (hf:∀ t,zL 32 ts (.slice A ts.length c) t pl (fun y => cO ts pl y t) (v.keys ++ v.items)) :
 Calls Tryz.prog 32 #[.agg #[.slice A ts.length c],.int .i64 n,aS v (.slice A1 v.keys.length n1) (.slice A2 v.items.length n2) (.slice A3 v.rest.length n3),.bool pl] w (RT w (.bool (jT ts pl ts[n] v))):=by
 obtain ⟨b,o,rfl,hbb,hel⟩:=ht.elem (by omega);obtain ⟨vs,vm,hcells,hx⟩:=hel n hn;clear hel;generalize ts[n]=x at *;obtain ⟨C1,l1,C2,l2,rfl,rfl,-,-⟩:=hx.forms;have HC:=hiQ hcells;have hlt:(n:Int) < ts.length:=by omega
 have hd0:decide ((n:Int) < 0)=false:=by simp
 have hd1:decide (ts.length<=n)=false:=by simpa using hn
 simp only [aS,hkv];have HP:=hiQ (fun W => Rk v A1 A2 A3 n1 n2 n3 W hkv);simp only [aS,hkv,hp] at HP;have HF:=hiQ hf;have HRL:=hiQ hrl;clear hrl;have HT:=hiQ ht;have HV:=hiQ hv;have HX:=hiQ hx;have xI:=hiQ hkx;have Ul:=hiQ hkv;have hxs:=hx.lens;have hvl:=hv.lens;clear hf ht hv hx hcells hkx hkv hp hn;go_enter Tryz.func32,Tryz.ntmps32
 go_upto_region 1 with fail;refine jg (fun wd2 hb1 S V => ?_);have hw3:=hb1;clear hb1;obtain ⟨c0,c1,c2,c3,c4,c5,c6,c7,c8,c9⟩:=HC.out.below (hw3) (by omega);rw [xI.out] at c0;have aH:=S.out.e0;go_upto_region 4 with fail;clear c0 c1 c2 c3 c4 c5 c6 c7 c8 c9 hd0 hd1 aH;refine aO (fun fG hb4 Y => ?_);have nI:=S.out.here;have mO:=V.out.here;have kH:=hw3.size;obtain ⟨S,V⟩:=b2 S V hb4;replace hw3:=dT hw3 hb4;clear hb4;generalize wd2.heap.size=g6 at *;obtain ⟨gY,rfl⟩ : ∃ g,g=g6:=⟨_,rfl⟩
 have hgY:w.heap.size+1 < gY:=by omega
 obtain ⟨bK,dh,dn,dI,bG,aQ,aP,dJ⟩:=V.out.c8;have kT:=Y.out.e0;go_cut [48] from 30 to 47 (fun s48 wx => s48 = .bool false/\Has wx w.heap.size 30 #[.slice (some ⟨b,o,none⟩) ts.length c]/\Has wx (w.heap.size+1) 34 #[.int .i64 7,.bool v.bool,.int .i64 v.num,.string ⟨v.str.toArray⟩,.int .i64 v.id,.slice A1 v.keys.length n1,.slice A2 v.items.length n2,.slice A3 v.rest.length n3]/\Has wx gY 72 #[.int .i64 7,.string ⟨x.name.toArray⟩,.int .i64 x.low,.int .i64 x.high,.int .i64 x.max,.slice C1 x.syms.length l1,.slice C2 x.ah.length l2,.int .i64 x.key,.int .i64 x.elem,.bool x.opn]/\Below w.heap.size w wx)
 case first =>
  exact zKc
 case rest =>
  obtain ⟨rfl,HS,HW,HY,h02⟩:=hcut;clear S V Y hw3;have hz2:=HY.here;have HT:=hiQ (HT.out.on h02);have HV:=hiQ (HV.out.on h02);have HX:=hiQ (HX.out.keep (fun _ hp => h02.cell hp) h02.size);obtain ⟨v0,v1,v2,v3,v4,v5,v6,v7⟩:=HW.c8;obtain ⟨t0,t1,t2,t3,t4,t5,t6,t7,t8,t9⟩:=HY.c10;have s0:=HS.cell 0;simp only [qI] at s0;have HS:=hiQ HS;have HW:=hiQ HW;have HY:=hiQ HY;have HE:=hiQ (fun W hi ht => Jq ts (some ⟨b,o,none⟩) c x.elem pl (fun y => cO ts pl y x.elem) v.items (.slice A2 v.items.length n2) W (fun y vk vi vr W' hm => HF.out x.elem y vk vi vr W' (by simp [hm])) hvl.2.1 hi ht);rw [<- uT] at HE;by_cases h1:((v.items.length:Int)<=x.max)
  .
   have h1':decide ((v.items.length:Int)<=x.max)=true:=n_ h1;have aeW:decide ((v.items.length:Int)<=x.max)=true:=n_ (by omega);exact zJs
  have h1':decide ((v.items.length:Int)<=x.max)=false:=f_ h1;have aeW:decide ((v.items.length:Int)<=x.max)=false:=f_ (by omega);exact zJv
theorem ath
 (pl:Bool) (ts:List ay) (A:Option Addr) (c n:Nat) (v:Val) (A1 A2 A3:Option Addr) (n1 n2 n3:Nat) (w:World) (hn:n < ts.length) (hkx:ts[n].kind=9) (hkv:v.kind=9) (hp:aA v=true) (hrl:pl=true->v.rest.length=0)
 (ht:aU w w.heap.size (.slice A ts.length c) ts) (hv:ValAt w w.heap.size v (.slice A1 v.keys.length n1) (.slice A2 v.items.length n2) (.slice A3 v.rest.length n3))
 (hf:∀ t,zL 32 ts (.slice A ts.length c) t pl (fun y => cO ts pl y t) (v.keys ++ v.items)) :
 Calls Tryz.prog 32 #[.agg #[.slice A ts.length c],.int .i64 n,aS v (.slice A1 v.keys.length n1) (.slice A2 v.items.length n2) (.slice A3 v.rest.length n3),.bool pl] w (RT w (.bool (jT ts pl ts[n] v))):=by
 obtain ⟨b,o,rfl,hbb,hel⟩:=ht.elem (by omega);obtain ⟨vs,vm,hcells,hx⟩:=hel n hn;clear hel;generalize ts[n]=x at *;obtain ⟨C1,l1,C2,l2,rfl,rfl,-,-⟩:=hx.forms;have HC:=hiQ hcells;have hlt:(n:Int) < ts.length:=by omega
 have hd0:decide ((n:Int) < 0)=false:=by simp
 have hd1:decide (ts.length<=n)=false:=by simpa using hn
 simp only [aS,hkv];have HP:=hiQ (fun W => Rn v A1 A2 A3 n1 n2 n3 W hkv);simp only [aS,hkv,hp] at HP;have HF:=hiQ hf;have HRL:=hiQ hrl;clear hrl;have HT:=hiQ ht;have HV:=hiQ hv;have HX:=hiQ hx;have xI:=hiQ hkx;have Ul:=hiQ hkv;have hxs:=hx.lens;have hvl:=hv.lens;clear hf ht hv hx hcells hkx hkv hp hn;go_enter Tryz.func32,Tryz.ntmps32
 go_upto_region 1 with fail;refine jg (fun wd2 hb1 S V => ?_);have hw3:=hb1;clear hb1;obtain ⟨c0,c1,c2,c3,c4,c5,c6,c7,c8,c9⟩:=HC.out.below (hw3) (by omega);rw [xI.out] at c0;have aH:=S.out.e0;go_upto_region 4 with fail;clear c0 c1 c2 c3 c4 c5 c6 c7 c8 c9 hd0 hd1 aH;refine aO (fun fG hb4 Y => ?_);have nI:=S.out.here;have mO:=V.out.here;have kH:=hw3.size;obtain ⟨S,V⟩:=b2 S V hb4;replace hw3:=dT hw3 hb4;clear hb4;generalize wd2.heap.size=g6 at *;obtain ⟨gY,rfl⟩ : ∃ g,g=g6:=⟨_,rfl⟩
 have hgY:w.heap.size+1 < gY:=by omega
 obtain ⟨bK,dh,dn,dI,bG,aQ,aP,dJ⟩:=V.out.c8;have kT:=Y.out.e0;go_cut [48] from 30 to 47 (fun s48 wx => s48 = .bool false/\Has wx w.heap.size 30 #[.slice (some ⟨b,o,none⟩) ts.length c]/\Has wx (w.heap.size+1) 34 #[.int .i64 9,.bool v.bool,.int .i64 v.num,.string ⟨v.str.toArray⟩,.int .i64 v.id,.slice A1 v.keys.length n1,.slice A2 v.items.length n2,.slice A3 v.rest.length n3]/\Has wx gY 72 #[.int .i64 9,.string ⟨x.name.toArray⟩,.int .i64 x.low,.int .i64 x.high,.int .i64 x.max,.slice C1 x.syms.length l1,.slice C2 x.ah.length l2,.int .i64 x.key,.int .i64 x.elem,.bool x.opn]/\Below w.heap.size w wx)
 case first =>
  exact zKc
 case rest =>
  obtain ⟨rfl,HS,HW,HY,h02⟩:=hcut;clear S V Y hw3;have hz2:=HY.here;have HT:=hiQ (HT.out.on h02);have HV:=hiQ (HV.out.on h02);have HX:=hiQ (HX.out.keep (fun _ hp => h02.cell hp) h02.size);obtain ⟨v0,v1,v2,v3,v4,v5,v6,v7⟩:=HW.c8;obtain ⟨t0,t1,t2,t3,t4,t5,t6,t7,t8,t9⟩:=HY.c10;have s0:=HS.cell 0;simp only [qI] at s0;have HS:=hiQ HS;have HW:=hiQ HW;have HY:=hiQ HY;have HE:=hiQ (fun W hi ht => Jq ts (some ⟨b,o,none⟩) c x.elem pl (fun y => cO ts pl y x.elem) v.items (.slice A2 v.items.length n2) W (fun y vk vi vr W' hm => HF.out x.elem y vk vi vr W' (by simp [hm])) hvl.2.1 hi ht);rw [<- uT] at HE;by_cases h1:(v.items.length<=1)
  .
   have h1':decide (v.items.length<=1)=true:=n_ h1;have aeW:decide ((v.items.length:Int)<=1)=true:=n_ (by omega);exact zJs
  have h1':decide (v.items.length<=1)=false:=f_ h1;have aeW:decide ((v.items.length:Int)<=1)=false:=f_ (by omega);exact zJv
theorem IV
 (ts:List ay) (A:Option Addr) (c n:Nat) (v:Val) (A1 A2 A3:Option Addr) (n1 n2 n3:Nat) (w:World) (hn:n < ts.length) (hkx:ts[n].kind=4) (hkv:v.kind=4) (hp:aA v=true)
 (ht:aU w w.heap.size (.slice A ts.length c) ts) (hv:ValAt w w.heap.size v (.slice A1 v.keys.length n1) (.slice A2 v.items.length n2) (.slice A3 v.rest.length n3))
 (hf:∀ t,zL 32 ts (.slice A ts.length c) t false (fun y => cO ts false y t) (v.keys ++ v.items)) :
 Calls Tryz.prog 32 #[.agg #[.slice A ts.length c],.int .i64 n,aS v (.slice A1 v.keys.length n1) (.slice A2 v.items.length n2) (.slice A3 v.rest.length n3),.bool false] w (RT w (.bool (jT ts false ts[n] v))):=by
 have h3b:=KH w;obtain ⟨b,o,rfl,hbb,hel⟩:=ht.elem (by omega);obtain ⟨vs,vm,hcells,hx⟩:=hel n hn;clear hel;generalize ts[n]=x at *;obtain ⟨C1,l1,C2,l2,rfl,rfl,-,-⟩:=hx.forms;obtain ⟨c0,c1,c2,c3,c4,c5,c6,c7,c8,c9⟩:=hcells;have hlt:(n:Int) < ts.length:=by omega
 have hd0:decide ((n:Int) < 0)=false:=by simp
 have hd1:decide (ts.length<=n)=false:=by simpa using hn
 simp only [aS,hkv];rw [hkx] at c0;have HP:=hiQ (fun W => Rh v A1 A2 A3 n1 n2 n3 W hkv);simp only [aS,hkv,hp] at HP;have HF:=hiQ hf;exact zJy
theorem zJz {p:Prop} (h:p:=by
 clear hem hev hmc;generalize x.ah[i].ty=ty at *;generalize v.items[0]=y at *;obtain ⟨B1,k1,B2,k2,B3,k3,rfl,rfl,rfl,-,-,-⟩:=hya.forms;obtain ⟨y0,y1,y2,y3,y4,y5,y6,y7⟩:=hcy;simp only [Nat.zero_mul,QB] at y0 y1 y2 y3 y4 y5 y6 y7;have sG:=hiQ hya;have xE:=hiQ hmem;have hi1:(i:Int) < x.ah.length:=by omega
 have hi2:(0:Int) < v.items.length:=by omega
 have hi3:0 < v.items.length:=by omega
 clear hya hmem e1 e2;go_wp2_with fail;go_still_tail 23,(by kernel_rfl)
 change wpList _ _ _ _ _ w3.drew
 have HD:=hiQ (sG.out.on (w':=w3.drew) (g_ _ _).drew);have HTD:=hiQ (HT.out.on (w':=w3.drew) (g_ _ _).drew);have GK:=h03.drew;clear h03 HT HV HX HS HW HY sG s0 v4 v5 v6 v7 t6 t8 t9 m2 y0 y1 y2 y3 y4 y5 y6 y7;generalize w3.drew=w4 at *;go_wp2_with fail;refine (HF.out ty y _ _ _ _ (by simp [xE.out]) HD.out HTD.out).mono ?_;rintro e w5 ⟨rfl,hb5⟩;go_wp2_with fail;go_ret;exact ⟨au Hr.out.symm,GK.trans (hb5.mono GK.size)⟩):p:=h
theorem zJp {p:Prop} (h:p:=by
 go_wp2_with fail;go_quiet (fail)
 go_wp2_with fail;go_ret;exact ⟨au Hr.out.symm,below_drewN h03 _⟩):p:=h
theorem aDr
 (ts:List ay) (A:Option Addr) (c n:Nat) (v:Val) (A1 A2 A3:Option Addr) (n1 n2 n3:Nat) (w:World) (hn:n < ts.length) (hkx:ts[n].kind=6) (hkv:v.kind=6) (hp:aA v=true) (hrl:v.rest.length=0)
 (ht:aU w w.heap.size (.slice A ts.length c) ts) (hv:ValAt w w.heap.size v (.slice A1 v.keys.length n1) (.slice A2 v.items.length n2) (.slice A3 v.rest.length n3))
 (hf:∀ t,zL 32 ts (.slice A ts.length c) t true (fun y => cO ts true y t) (v.keys ++ v.items)) :
 Calls Tryz.prog 32 #[.agg #[.slice A ts.length c],.int .i64 n,aS v (.slice A1 v.keys.length n1) (.slice A2 v.items.length n2) (.slice A3 v.rest.length n3),.bool true] w (RT w (.bool (jT ts true ts[n] v))):=by
 have h3b:=KH w;obtain ⟨b,o,rfl,hbb,hel⟩:=ht.elem (by omega);obtain ⟨vs,vm,hcells,hx⟩:=hel n hn;clear hel;generalize ts[n]=x at *;obtain ⟨C1,l1,C2,l2,rfl,rfl,-,-⟩:=hx.forms;obtain ⟨c0,c1,c2,c3,c4,c5,c6,c7,c8,c9⟩:=hcells;have hlt:(n:Int) < ts.length:=by omega
 have hd0:decide ((n:Int) < 0)=false:=by simp
 have hd1:decide (ts.length<=n)=false:=by simpa using hn
 simp only [aS,hkv];rw [hkx] at c0;have HP:=hiQ (fun W => Rj v A1 A2 A3 n1 n2 n3 W hkv);simp only [aS,hkv,hp] at HP;have HF:=hiQ hf;have MR:decide (0 < v.rest.length)=false:=f_ (by omega);have hr4:decide ((0:Int) < v.rest.length)=false:=f_ (by omega);clear hrl;have HT:=hiQ ht;have HV:=hiQ hv;have HX:=hiQ hx;have xI:=hiQ hkx;have Ul:=hiQ hkv;have hxs:=hx.lens;have hvl:=hv.lens;clear hf ht hv hx hkx hkv hp hn;go_enter Tryz.func32,Tryz.ntmps32
 go_wp2_with fail;refine (HP.out _).mono ?_;rintro e w2 ⟨rfl,hb2⟩;have HS:=(((Has.made _ _ _).alloc _).alloc _).below hb2 (by simp;omega);have HW:=((Has.made _ _ _).alloc _).below hb2 (by simp);have HY:=(Has.made _ _ _).below hb2 (by simp);rw [jG] at HW;rw [jG,jG] at HY;have h02:=(h3b _ _ _).trans (hb2.mono (h3b _ _ _).size);have hz2:=HY.here;have HT:=hiQ (HT.out.on h02);have HV:=hiQ (HV.out.on h02);have HX:=hiQ (HX.out.keep (fun _ hp => h02.cell hp) h02.size);obtain ⟨v0,v1,v2,v3,v4,v5,v6,v7⟩:=HW.c8;obtain ⟨t0,t1,t2,t3,t4,t5,t6,t7,t8,t9⟩:=HY.c10;have s0:=HS.cell 0;simp only [qI] at s0;clear hb2 h3b c0 c1 c2 c3 c4 c5 c6 c7 c8 c9;have HS:=hiQ HS;have HW:=hiQ HW;have HY:=hiQ HY;have HM:=hiQ (fun W h => xC x (.slice C1 x.syms.length l1) (.slice C2 x.ah.length l2) v.id W h);simp only [dA,xI.out,xg] at HM;cases hsy:dN x v.id with
 | some i =>
  have hil:=zG x v.id i hsy;simp only [hsy,M_] at HM;have Oz:=hiQ hsy;clear hsy;go_wp2_with fail;refine (HM.out _ HX.out).mono ?_;rintro e w3 ⟨rfl,hb3⟩;have h03:=h02.trans (hb3.mono h02.size);have HV:=hiQ (HV.out.on hb3);have HT:=hiQ (HT.out.on hb3);have HX:=hiQ (HX.out.on hb3);have HS:=HS.out.below hb3 (by omega);have HW:=HW.out.below hb3 (by omega);have HY:=HY.out.below hb3 (by omega);have hz3:=HY.here;clear s0 v0 v1 v2 v3 v4 v5 v6 v7 t0 t1 t2 t3 t4 t5 t6 t7 t8 t9;have s0:=HS.cell 0;have v4:=HW.cell 4;have v5:=HW.cell 5;have v6:=HW.cell 6;have v7:=HW.cell 7;have t6:=HY.cell 6;have t8:=HY.cell 8;have t9:=HY.cell 9;simp only [qI] at s0 v4 v5 v6 v7 t6 t8 t9;have HS:=hiQ HS;have HW:=hiQ HW;have HY:=hiQ HY;clear hb3 h02;by_cases e1:v.items.length=1
  .
   have d1:((v.items.length:Int) == 1)=true:=by simp [e1]
   by_cases e2:v.rest.length=0
   .
    have d2:((v.rest.length:Int) == 0)=true:=by simp [e2]
    obtain ⟨bm,om,rfl,hbm,hem⟩:=HX.out.ah.elem (by omega);obtain ⟨mk,mi,mr,hmc,-⟩:=hem i hil;have m2:=hmc.2.2.1;obtain ⟨bv,ov,rfl,hbv,hev⟩:=HV.out.items.elem (by omega);obtain ⟨yk,yi,yr,hcy,hya⟩:=hev 0 (by omega);have hmem:v.items[0] ∈ v.items:=jl _;have Hr:Hid (jT ts true x v=cO ts true v.items[0] x.ah[i].ty):=by
     show _=_;simp [ig,xI.out,Oz.out,e1,e2,hil,ag0]
    exact zJz
   have d2:((v.rest.length:Int) == 0)=false:=r_.2 (by omega);have Hr:Hid (jT ts true x v=false):=by
    show _=_;simp [ig,xI.out,Oz.out,e1,e2]
   clear e1 e2;exact zJp
  have d1:((v.items.length:Int) == 1)=false:=r_.2 (by omega);have Hr:Hid (jT ts true x v=false):=by
   show _=_;simp [ig,xI.out,Oz.out,e1]
  clear e1;exact zJp
 | none =>
  simp only [hsy,OU] at HM;have Oz:=hiQ hsy;clear hsy;go_wp2_with fail;refine (HM.out _ HX.out).mono ?_;rintro e w3 ⟨rfl,hb3⟩;have h03:=h02.trans (hb3.mono h02.size);have HV:=hiQ (HV.out.on hb3);have HT:=hiQ (HT.out.on hb3);have HX:=hiQ (HX.out.on hb3);have HS:=HS.out.below hb3 (by omega);have HW:=HW.out.below hb3 (by omega);have HY:=HY.out.below hb3 (by omega);have hz3:=HY.here;clear s0 v0 v1 v2 v3 v4 v5 v6 v7 t0 t1 t2 t3 t4 t5 t6 t7 t8 t9;have s0:=HS.cell 0;have v4:=HW.cell 4;have v5:=HW.cell 5;have v6:=HW.cell 6;have v7:=HW.cell 7;have t6:=HY.cell 6;have t8:=HY.cell 8;have t9:=HY.cell 9;simp only [qI] at s0 v4 v5 v6 v7 t6 t8 t9;have HS:=hiQ HS;have HW:=hiQ HW;have HY:=hiQ HY;clear hb3 h02;have Ro:=fun (n:Nat) => Calls.quiet_of_same (n:=n) ((EX v.id false (w3.drewN n)).mono fun _ _ ⟨h1,h2⟩ => ⟨h1,h2.symm⟩);simp only [QI,CX] at Ro;have Hb:Hid (jT ts true x v=(x.opn && (!true && (mM v.id && (decide (v.items.length=0) && (decide (v.rest.length=1) && KW v.rest v.id)))))):=by
   show _=_;simp [ig,xI.out,Oz.out]
  cases hop:x.opn
  all_goals
   rw [hop] at t9 Hb;clear hop
  .
   have Hr:Hid (jT ts true x v=false):=by show _=_;rw [Hb.out];simp
   exact zJp
  have Hr:Hid (jT ts true x v=false):=by show _=_;rw [Hb.out];simp
  exact zJp
theorem zJq {p:Prop} (h:p:=by
 go_wp2_with fail;go_ret;exact ⟨au Hr.out.symm,below_drewN h03 _⟩):p:=h
theorem zJu {p:Prop} (h:p:=by
 rw [d3] at Hb2;clear e3;go_wp2_with fail;go_quiet ((go_at_call 55;exact Ro.out _))
 go_wp2_with fail;go_ret;exact ⟨au Hb2.out.symm,below_drewN h03 _⟩):p:=h
theorem zJx {p:Prop} (h:p:=by
 go_wp2_with fail;go_quiet ((go_at_call 55;exact Ro.out _))
 exact zJq):p:=h
theorem IY
 (ts:List ay) (A:Option Addr) (c n:Nat) (v:Val) (A1 A2 A3:Option Addr) (n1 n2 n3:Nat) (w:World) (hn:n < ts.length) (hkx:ts[n].kind=6) (hkv:v.kind=6) (hp:aA v=true)
 (ht:aU w w.heap.size (.slice A ts.length c) ts) (hv:ValAt w w.heap.size v (.slice A1 v.keys.length n1) (.slice A2 v.items.length n2) (.slice A3 v.rest.length n3))
 (hf:∀ t,zL 32 ts (.slice A ts.length c) t false (fun y => cO ts false y t) (v.keys ++ v.items)) :
 Calls Tryz.prog 32 #[.agg #[.slice A ts.length c],.int .i64 n,aS v (.slice A1 v.keys.length n1) (.slice A2 v.items.length n2) (.slice A3 v.rest.length n3),.bool false] w (RT w (.bool (jT ts false ts[n] v))):=by
 have h3b:=KH w;obtain ⟨b,o,rfl,hbb,hel⟩:=ht.elem (by omega);obtain ⟨vs,vm,hcells,hx⟩:=hel n hn;clear hel;generalize ts[n]=x at *;obtain ⟨C1,l1,C2,l2,rfl,rfl,-,-⟩:=hx.forms;obtain ⟨c0,c1,c2,c3,c4,c5,c6,c7,c8,c9⟩:=hcells;have hlt:(n:Int) < ts.length:=by omega
 have hd0:decide ((n:Int) < 0)=false:=by simp
 have hd1:decide (ts.length<=n)=false:=by simpa using hn
 simp only [aS,hkv];rw [hkx] at c0;have HP:=hiQ (fun W => Rj v A1 A2 A3 n1 n2 n3 W hkv);simp only [aS,hkv,hp] at HP;have HF:=hiQ hf;have HT:=hiQ ht;have HV:=hiQ hv;have HX:=hiQ hx;have xI:=hiQ hkx;have Ul:=hiQ hkv;have hxs:=hx.lens;have hvl:=hv.lens;clear hf ht hv hx hkx hkv hp hn;go_enter Tryz.func32,Tryz.ntmps32
 go_wp2_with fail;refine (HP.out _).mono ?_;rintro e w2 ⟨rfl,hb2⟩;have HS:=(((Has.made _ _ _).alloc _).alloc _).below hb2 (by simp;omega);have HW:=((Has.made _ _ _).alloc _).below hb2 (by simp);have HY:=(Has.made _ _ _).below hb2 (by simp);rw [jG] at HW;rw [jG,jG] at HY;have h02:=(h3b _ _ _).trans (hb2.mono (h3b _ _ _).size);have hz2:=HY.here;have HT:=hiQ (HT.out.on h02);have HV:=hiQ (HV.out.on h02);have HX:=hiQ (HX.out.keep (fun _ hp => h02.cell hp) h02.size);obtain ⟨v0,v1,v2,v3,v4,v5,v6,v7⟩:=HW.c8;obtain ⟨t0,t1,t2,t3,t4,t5,t6,t7,t8,t9⟩:=HY.c10;have s0:=HS.cell 0;simp only [qI] at s0;clear hb2 h3b c0 c1 c2 c3 c4 c5 c6 c7 c8 c9;have HS:=hiQ HS;have HW:=hiQ HW;have HY:=hiQ HY;have HM:=hiQ (fun W h => xC x (.slice C1 x.syms.length l1) (.slice C2 x.ah.length l2) v.id W h);simp only [dA,xI.out,xg] at HM;cases hsy:dN x v.id with
 | some i =>
  have hil:=zG x v.id i hsy;simp only [hsy,M_] at HM;have Oz:=hiQ hsy;clear hsy;go_wp2_with fail;refine (HM.out _ HX.out).mono ?_;rintro e w3 ⟨rfl,hb3⟩;have h03:=h02.trans (hb3.mono h02.size);have HV:=hiQ (HV.out.on hb3);have HT:=hiQ (HT.out.on hb3);have HX:=hiQ (HX.out.on hb3);have HS:=HS.out.below hb3 (by omega);have HW:=HW.out.below hb3 (by omega);have HY:=HY.out.below hb3 (by omega);have hz3:=HY.here;clear s0 v0 v1 v2 v3 v4 v5 v6 v7 t0 t1 t2 t3 t4 t5 t6 t7 t8 t9;have s0:=HS.cell 0;have v4:=HW.cell 4;have v5:=HW.cell 5;have v6:=HW.cell 6;have v7:=HW.cell 7;have t6:=HY.cell 6;have t8:=HY.cell 8;have t9:=HY.cell 9;simp only [qI] at s0 v4 v5 v6 v7 t6 t8 t9;have HS:=hiQ HS;have HW:=hiQ HW;have HY:=hiQ HY;clear hb3 h02;by_cases e1:v.items.length=1
  .
   have d1:((v.items.length:Int) == 1)=true:=by simp [e1]
   by_cases e2:v.rest.length=0
   .
    have d2:((v.rest.length:Int) == 0)=true:=by simp [e2]
    obtain ⟨bm,om,rfl,hbm,hem⟩:=HX.out.ah.elem (by omega);obtain ⟨mk,mi,mr,hmc,-⟩:=hem i hil;have m2:=hmc.2.2.1;obtain ⟨bv,ov,rfl,hbv,hev⟩:=HV.out.items.elem (by omega);obtain ⟨yk,yi,yr,hcy,hya⟩:=hev 0 (by omega);have hmem:v.items[0] ∈ v.items:=jl _;have Hr:Hid (jT ts false x v=cO ts false v.items[0] x.ah[i].ty):=by
     show _=_;simp [ig,xI.out,Oz.out,e1,e2,hil,ag0]
    exact zJz
   have d2:((v.rest.length:Int) == 0)=false:=r_.2 (by omega);have Hr:Hid (jT ts false x v=false):=by
    show _=_;simp [ig,xI.out,Oz.out,e1,e2]
   clear e1 e2;exact zJp
  have d1:((v.items.length:Int) == 1)=false:=r_.2 (by omega);have Hr:Hid (jT ts false x v=false):=by
   show _=_;simp [ig,xI.out,Oz.out,e1]
  clear e1;exact zJp
 | none =>
  simp only [hsy,OU] at HM;have Oz:=hiQ hsy;clear hsy;go_wp2_with fail;refine (HM.out _ HX.out).mono ?_;rintro e w3 ⟨rfl,hb3⟩;have h03:=h02.trans (hb3.mono h02.size);have HV:=hiQ (HV.out.on hb3);have HT:=hiQ (HT.out.on hb3);have HX:=hiQ (HX.out.on hb3);have HS:=HS.out.below hb3 (by omega);have HW:=HW.out.below hb3 (by omega);have HY:=HY.out.below hb3 (by omega);have hz3:=HY.here;clear s0 v0 v1 v2 v3 v4 v5 v6 v7 t0 t1 t2 t3 t4 t5 t6 t7 t8 t9;have s0:=HS.cell 0;have v4:=HW.cell 4;have v5:=HW.cell 5;have v6:=HW.cell 6;have v7:=HW.cell 7;have t6:=HY.cell 6;have t8:=HY.cell 8;have t9:=HY.cell 9;simp only [qI] at s0 v4 v5 v6 v7 t6 t8 t9;have HS:=hiQ HS;have HW:=hiQ HW;have HY:=hiQ HY;clear hb3 h02;have Ro:=fun (n:Nat) => Calls.quiet_of_same (n:=n) ((EX v.id false (w3.drewN n)).mono fun _ _ ⟨h1,h2⟩ => ⟨h1,h2.symm⟩);simp only [QI,CX] at Ro;have Hb:Hid (jT ts false x v=(x.opn && (!false && (mM v.id && (decide (v.items.length=0) && (decide (v.rest.length=1) && KW v.rest v.id)))))):=by
   show _=_;simp [ig,xI.out,Oz.out]
  cases hop:x.opn
  all_goals
   rw [hop] at t9 Hb;clear hop
  .
   have Hr:Hid (jT ts false x v=false):=by show _=_;rw [Hb.out];simp
   exact zJp
  cases hfr:mM v.id
  all_goals
   rw [hfr] at Ro Hb;have Ro:=hiQ Ro;clear hfr
  .
   have Hr:Hid (jT ts false x v=false):=by show _=_;rw [Hb.out];simp
   exact zJx
  by_cases e1:v.items.length=0
  .
   have d1:((v.items.length:Int) == 0)=true:=by simp [e1]
   by_cases e2:v.rest.length=1
   .
    have d2:((v.rest.length:Int) == 1)=true:=by simp [e2]
    obtain ⟨br,or,rfl,hbr,her⟩:=HV.out.rest.at_ (by omega);obtain ⟨hr0,-⟩:=qy her 0 (by omega);have Hb2:Hid (jT ts false x v=decide (v.rest[0].1=v.id)):=by
     show _=_;rw [Hb.out,abZ _ _ (by omega)];simp [e1,e2]
    clear her;generalize v.rest[0].1=q at *;simp only [Nat.zero_mul,QB] at hr0;have hi2:(0:Int) < v.rest.length:=by omega
    have hi3:0 < v.rest.length:=by omega
    clear e1 e2;by_cases e3:q=v.id
    all_goals
     have d3:(q == v.id)=decide (q=v.id):=by rw [Bool.eq_iff_iff];simp
     rw [<- d3] at Hb2
    .
     rw [n_ e3] at d3;exact zJu
    rw [f_ e3] at d3;exact zJu
   have d2:((v.rest.length:Int) == 1)=false:=r_.2 (by omega);have Hr:Hid (jT ts false x v=false):=by show _=_;rw [Hb.out];simp [e1,e2]
   clear e1 e2;exact zJx
  have d1:((v.items.length:Int) == 0)=false:=r_.2 (by omega);have Hr:Hid (jT ts false x v=false):=by show _=_;rw [Hb.out];simp [e1]
  clear e1;exact zJx

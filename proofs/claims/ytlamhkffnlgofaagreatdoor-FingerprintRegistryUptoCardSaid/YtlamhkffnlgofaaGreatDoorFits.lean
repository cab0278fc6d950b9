/- What fits of the program computes, kind by kind. No condition. -/
import Derived.Test.YtlamhkffnlgofaaGreatDoorHAD
set_option maxHeartbeats 800000
set_option maxRecDepth 100000
namespace Go.Proofs.YtlamhkffnlgofaaGreatDoor
open Go.ChangeShapes Go.WideShapes Go.ChangeAt Go.RowKit
theorem jG (w:World) (o:Obj):(w.alloc o).heap.size=w.heap.size+1:=by simp
theorem zBr {p:Prop} (h:p:=by
 go_wp2_with fail;refine (HP.out _).mono ?_;rintro e w2 ⟨rfl,hb2⟩;have HS:=(((Has.made _ _ _).alloc _).alloc _).below hb2 (by simp;omega);have HW:=((Has.made _ _ _).alloc _).below hb2 (by simp);have HY:=(Has.made _ _ _).below hb2 (by simp);rw [jG] at HW;rw [jG,jG] at HY;have h02:=(h3b _ _ _).trans (hb2.mono (h3b _ _ _).size);have hz2:=HY.here;have HT:=hiQ (HT.out.on h02);have HV:=hiQ (HV.out.on h02);have HX:=hiQ (HX.out.keep (fun _ hp => h02.cell hp) h02.size);obtain ⟨v0,v1,v2,v3,v4,v5,v6,v7⟩:=HW.c8;obtain ⟨t0,t1,t2,t3,t4,t5,t6,t7,t8,t9⟩:=HY.c10;have s0:=HS.cell 0;simp only [qI] at s0;clear hb2 h3b c0 c1 c2 c3 c4 c5 c6 c7 c8 c9;have HS:=hiQ HS;have HW:=hiQ HW;have HY:=hiQ HY;go_wp2_with fail;go_ret;exact ⟨au (by simp [ig,xI.out]),h02⟩):p:=h
theorem zHy {p:Prop} (h:p:=by
 simp only [aS,hkv,hp] at HP;have HF:=hiQ hf;have HT:=hiQ ht;have HV:=hiQ hv;have HX:=hiQ hx;have xI:=hiQ hkx;have Ul:=hiQ hkv;have hxs:=hx.lens;have hvl:=hv.lens;clear hf ht hv hx hkx hkv hp hn;go_enter Tryz.func107,Tryz.ntmps107
 exact zBr):p:=h
theorem ays
 (ts:List ay) (A:Option Addr) (c n:Nat) (v:Val) (pl:Bool) (A1 A2 A3:Option Addr) (n1 n2 n3:Nat) (w:World) (hn:n < ts.length) (hkx:ts[n].kind=1) (hkv:v.kind=1) (hp:aA v=true)
 (ht:aU w w.heap.size (.slice A ts.length c) ts) (hv:ValAt w w.heap.size v (.slice A1 v.keys.length n1) (.slice A2 v.items.length n2) (.slice A3 v.rest.length n3))
 (hf:∀ t,zL 107 ts (.slice A ts.length c) t pl (fun y => cO ts pl y t) (v.keys ++ v.items)) :
 Calls Tryz.prog 107 #[.agg #[.slice A ts.length c],.int .i64 n,aS v (.slice A1 v.keys.length n1) (.slice A2 v.items.length n2) (.slice A3 v.rest.length n3),.bool pl] w (RTq w (.bool (jT ts pl ts[n] v))):=by
 have h3b:=KH w;obtain ⟨b,o,rfl,hbb,hel⟩:=ht.elem (by omega);obtain ⟨vs,vm,hcells,hx⟩:=hel n hn;clear hel;generalize ts[n]=x at *;obtain ⟨C1,l1,C2,l2,rfl,rfl,-,-⟩:=hx.forms;obtain ⟨c0,c1,c2,c3,c4,c5,c6,c7,c8,c9⟩:=hcells;have hlt:(n:Int) < ts.length:=by omega
 have hd0:decide ((n:Int) < 0)=false:=by simp
 have hd1:decide (ts.length≤n)=false:=by simpa using hn
 simp only [aS,hkv];rw [hkx] at c0;have HP:=hiQ (fun W => asG v A1 A2 A3 n1 n2 n3 W hkv);exact zHy
theorem zCk {p:Prop} (h:p:=by
 go_wp2_with fail;refine (HP.out _).mono ?_;rintro e w2 ⟨rfl,hb2⟩;have HS:=(((Has.made _ _ _).alloc _).alloc _).below hb2 (by simp;omega);have HW:=((Has.made _ _ _).alloc _).below hb2 (by simp);have HY:=(Has.made _ _ _).below hb2 (by simp);rw [jG] at HW;rw [jG,jG] at HY;have h02:=(h3b _ _ _).trans (hb2.mono (h3b _ _ _).size);have hz2:=HY.here;have HT:=hiQ (HT.out.on h02);have HV:=hiQ (HV.out.on h02);have HX:=hiQ (HX.out.keep (fun _ hp => h02.cell hp) h02.size);obtain ⟨v0,v1,v2,v3,v4,v5,v6,v7⟩:=HW.c8;obtain ⟨t0,t1,t2,t3,t4,t5,t6,t7,t8,t9⟩:=HY.c10;have s0:=HS.cell 0;simp only [qI] at s0;clear hb2 h3b c0 c1 c2 c3 c4 c5 c6 c7 c8 c9;have HS:=hiQ HS;have HW:=hiQ HW;have HY:=hiQ HY;by_cases h1:x.low≤v.num
 ·
  by_cases h2:v.num≤x.high
  all_goals
   go_wp2_with fail;go_ret;exact ⟨au (by simp [ig,xI.out,h1,h2]),h02⟩
 go_wp2_with fail;go_ret;exact ⟨au (by simp [ig,xI.out];intro h;omega),h02⟩):p:=h
theorem ayt
 (ts:List ay) (A:Option Addr) (c n:Nat) (v:Val) (pl:Bool) (A1 A2 A3:Option Addr) (n1 n2 n3:Nat) (w:World) (hn:n < ts.length) (hkx:ts[n].kind=2) (hkv:v.kind=2) (hp:aA v=true)
 (ht:aU w w.heap.size (.slice A ts.length c) ts) (hv:ValAt w w.heap.size v (.slice A1 v.keys.length n1) (.slice A2 v.items.length n2) (.slice A3 v.rest.length n3))
 (hf:∀ t,zL 107 ts (.slice A ts.length c) t pl (fun y => cO ts pl y t) (v.keys ++ v.items)) :
 Calls Tryz.prog 107 #[.agg #[.slice A ts.length c],.int .i64 n,aS v (.slice A1 v.keys.length n1) (.slice A2 v.items.length n2) (.slice A3 v.rest.length n3),.bool pl] w (RTq w (.bool (jT ts pl ts[n] v))):=by
 have h3b:=KH w;obtain ⟨b,o,rfl,hbb,hel⟩:=ht.elem (by omega);obtain ⟨vs,vm,hcells,hx⟩:=hel n hn;clear hel;generalize ts[n]=x at *;obtain ⟨C1,l1,C2,l2,rfl,rfl,-,-⟩:=hx.forms;obtain ⟨c0,c1,c2,c3,c4,c5,c6,c7,c8,c9⟩:=hcells;have hlt:(n:Int) < ts.length:=by omega
 have hd0:decide ((n:Int) < 0)=false:=by simp
 have hd1:decide (ts.length≤n)=false:=by simpa using hn
 simp only [aS,hkv];rw [hkx] at c0;have HP:=hiQ (fun W => asH v A1 A2 A3 n1 n2 n3 W hkv);simp only [aS,hkv,hp] at HP;have HF:=hiQ hf;have HT:=hiQ ht;have HV:=hiQ hv;have HX:=hiQ hx;have xI:=hiQ hkx;have Ul:=hiQ hkv;have hxs:=hx.lens;have hvl:=hv.lens;clear hf ht hv hx hkx hkv hp hn;go_enter Tryz.func107,Tryz.ntmps107
 exact zCk
theorem ayu
 (ts:List ay) (A:Option Addr) (c n:Nat) (v:Val) (pl:Bool) (A1 A2 A3:Option Addr) (n1 n2 n3:Nat) (w:World) (hn:n < ts.length) (hkx:ts[n].kind=3) (hkv:v.kind=3) (hp:aA v=true)
 (ht:aU w w.heap.size (.slice A ts.length c) ts) (hv:ValAt w w.heap.size v (.slice A1 v.keys.length n1) (.slice A2 v.items.length n2) (.slice A3 v.rest.length n3))
 (hf:∀ t,zL 107 ts (.slice A ts.length c) t pl (fun y => cO ts pl y t) (v.keys ++ v.items)) :
 Calls Tryz.prog 107 #[.agg #[.slice A ts.length c],.int .i64 n,aS v (.slice A1 v.keys.length n1) (.slice A2 v.items.length n2) (.slice A3 v.rest.length n3),.bool pl] w (RTq w (.bool (jT ts pl ts[n] v))):=by
 have h3b:=KH w;obtain ⟨b,o,rfl,hbb,hel⟩:=ht.elem (by omega);obtain ⟨vs,vm,hcells,hx⟩:=hel n hn;clear hel;generalize ts[n]=x at *;obtain ⟨C1,l1,C2,l2,rfl,rfl,-,-⟩:=hx.forms;obtain ⟨c0,c1,c2,c3,c4,c5,c6,c7,c8,c9⟩:=hcells;have hlt:(n:Int) < ts.length:=by omega
 have hd0:decide ((n:Int) < 0)=false:=by simp
 have hd1:decide (ts.length≤n)=false:=by simpa using hn
 simp only [aS,hkv];rw [hkx] at c0;have HP:=hiQ (fun W => asI v A1 A2 A3 n1 n2 n3 W hkv);exact zHy
theorem zCq {p:Prop} (h:p:=by
 simp only [hsy,Option.isSome_some] at HM;have Oz:=hiQ hsy;clear hsy;go_wp2_with fail;refine (HM.out _ HX.out).mono ?_;rintro e w3 ⟨rfl,hb3⟩;have h03:=h02.trans (hb3.mono h02.size);have HV:=hiQ (HV.out.on hb3);have HT:=hiQ (HT.out.on hb3);have HX:=hiQ (HX.out.on hb3);have HS:=HS.out.below hb3 (by omega);have HW:=HW.out.below hb3 (by omega);have HY:=HY.out.below hb3 (by omega);have hz3:=HY.here;clear s0 v0 v1 v2 v3 v4 v5 v6 v7 t0 t1 t2 t3 t4 t5 t6 t7 t8 t9;have s0:=HS.cell 0;have v4:=HW.cell 4;have v5:=HW.cell 5;have v6:=HW.cell 6;have v7:=HW.cell 7;have t6:=HY.cell 6;have t8:=HY.cell 8;have t9:=HY.cell 9;simp only [qI] at s0 v4 v5 v6 v7 t6 t8 t9;have HS:=hiQ HS;have HW:=hiQ HW;have HY:=hiQ HY;clear hb3 h02;go_wp2_with fail;go_ret;exact ⟨au (by simp [ig,xI.out,Oz.out]),h03⟩):p:=h
theorem zEw {p:Prop} (h:p:=by
 go_ret;exact ⟨au (by simp [ig,xI.out,Oz.out,Hop.out]),h03⟩):p:=h
theorem ayv
 (ts:List ay) (A:Option Addr) (c n:Nat) (v:Val) (pl:Bool) (A1 A2 A3:Option Addr) (n1 n2 n3:Nat) (w:World) (hn:n < ts.length) (hkx:ts[n].kind=4) (hkv:v.kind=4) (hp:aA v=true)
 (ht:aU w w.heap.size (.slice A ts.length c) ts) (hv:ValAt w w.heap.size v (.slice A1 v.keys.length n1) (.slice A2 v.items.length n2) (.slice A3 v.rest.length n3))
 (hf:∀ t,zL 107 ts (.slice A ts.length c) t pl (fun y => cO ts pl y t) (v.keys ++ v.items)) :
 Calls Tryz.prog 107 #[.agg #[.slice A ts.length c],.int .i64 n,aS v (.slice A1 v.keys.length n1) (.slice A2 v.items.length n2) (.slice A3 v.rest.length n3),.bool pl] w (RTq w (.bool (jT ts pl ts[n] v))):=by
 have h3b:=KH w;obtain ⟨b,o,rfl,hbb,hel⟩:=ht.elem (by omega);obtain ⟨vs,vm,hcells,hx⟩:=hel n hn;clear hel;generalize ts[n]=x at *;obtain ⟨C1,l1,C2,l2,rfl,rfl,-,-⟩:=hx.forms;obtain ⟨c0,c1,c2,c3,c4,c5,c6,c7,c8,c9⟩:=hcells;have hlt:(n:Int) < ts.length:=by omega
 have hd0:decide ((n:Int) < 0)=false:=by simp
 have hd1:decide (ts.length≤n)=false:=by simpa using hn
 simp only [aS,hkv];rw [hkx] at c0;have HP:=hiQ (fun W => asJ v A1 A2 A3 n1 n2 n3 W hkv);simp only [aS,hkv,hp] at HP;have HF:=hiQ hf;have HT:=hiQ ht;have HV:=hiQ hv;have HX:=hiQ hx;have xI:=hiQ hkx;have Ul:=hiQ hkv;have hxs:=hx.lens;have hvl:=hv.lens;clear hf ht hv hx hkx hkv hp hn;go_enter Tryz.func107,Tryz.ntmps107
 go_wp2_with fail;refine (HP.out _).mono ?_;rintro e w2 ⟨rfl,hb2⟩;have HS:=(((Has.made _ _ _).alloc _).alloc _).below hb2 (by simp;omega);have HW:=((Has.made _ _ _).alloc _).below hb2 (by simp);have HY:=(Has.made _ _ _).below hb2 (by simp);rw [jG] at HW;rw [jG,jG] at HY;have h02:=(h3b _ _ _).trans (hb2.mono (h3b _ _ _).size);have hz2:=HY.here;have HT:=hiQ (HT.out.on h02);have HV:=hiQ (HV.out.on h02);have HX:=hiQ (HX.out.keep (fun _ hp => h02.cell hp) h02.size);obtain ⟨v0,v1,v2,v3,v4,v5,v6,v7⟩:=HW.c8;obtain ⟨t0,t1,t2,t3,t4,t5,t6,t7,t8,t9⟩:=HY.c10;have s0:=HS.cell 0;simp only [qI] at s0;clear hb2 h3b c0 c1 c2 c3 c4 c5 c6 c7 c8 c9;have HS:=hiQ HS;have HW:=hiQ HW;have HY:=hiQ HY;have HM:=hiQ (fun W h => ZN x (.slice C1 x.syms.length l1) (.slice C2 x.ah.length l2) v.id W h);simp only [dA,xI.out,xg] at HM;cases hsy:qm x v.id with
 | some i =>
  exact zCq
 | none =>
  simp only [hsy,Option.isSome_none] at HM;have Oz:=hiQ hsy;clear hsy;go_wp2_with fail;refine (HM.out _ HX.out).mono ?_;rintro e w3 ⟨rfl,hb3⟩;have h03:=h02.trans (hb3.mono h02.size);have HV:=hiQ (HV.out.on hb3);have HT:=hiQ (HT.out.on hb3);have HX:=hiQ (HX.out.on hb3);have HS:=HS.out.below hb3 (by omega);have HW:=HW.out.below hb3 (by omega);have HY:=HY.out.below hb3 (by omega);have hz3:=HY.here;clear s0 v0 v1 v2 v3 v4 v5 v6 v7 t0 t1 t2 t3 t4 t5 t6 t7 t8 t9;have s0:=HS.cell 0;have v4:=HW.cell 4;have v5:=HW.cell 5;have v6:=HW.cell 6;have v7:=HW.cell 7;have t6:=HY.cell 6;have t8:=HY.cell 8;have t9:=HY.cell 9;simp only [qI] at s0 v4 v5 v6 v7 t6 t8 t9;have HS:=hiQ HS;have HW:=hiQ HW;have HY:=hiQ HY;clear hb3 h02;cases hop:x.opn
  all_goals
   rw [hop] at t9;have Hop:=hiQ hop;clear hop
  ·
   go_wp2_with fail;exact zEw
  cases pl
  ·
   go_wp2_with (go_at_call 131;refine (aol _ _).mono ?_;rintro e w' ⟨rfl,rfl⟩)
   exact zEw
  go_wp2_with fail;exact zEw
theorem zDg {p:Prop} (h:p:=by
 clear h1;go_wp2_with fail;refine (HE.out _ HV.out.items HT.out).mono ?_;rintro e w3 ⟨rfl,hb3⟩;go_wp2_with fail;go_ret;exact ⟨au (by rw [Hr.out]),h02.trans (hb3.mono h02.size)⟩):p:=h
theorem zFg {p:Prop} (h:p:=by
 clear h1;go_wp2_with fail;go_ret;exact ⟨au (by rw [Hr.out]),h02⟩):p:=h
theorem ayw
 (ts:List ay) (A:Option Addr) (c n:Nat) (v:Val) (pl:Bool) (A1 A2 A3:Option Addr) (n1 n2 n3:Nat) (w:World) (hn:n < ts.length) (hkx:ts[n].kind=7) (hkv:v.kind=7) (hp:aA v=true)
 (ht:aU w w.heap.size (.slice A ts.length c) ts) (hv:ValAt w w.heap.size v (.slice A1 v.keys.length n1) (.slice A2 v.items.length n2) (.slice A3 v.rest.length n3))
 (hf:∀ t,zL 107 ts (.slice A ts.length c) t pl (fun y => cO ts pl y t) (v.keys ++ v.items)) :
 Calls Tryz.prog 107 #[.agg #[.slice A ts.length c],.int .i64 n,aS v (.slice A1 v.keys.length n1) (.slice A2 v.items.length n2) (.slice A3 v.rest.length n3),.bool pl] w (RTq w (.bool (jT ts pl ts[n] v))):=by
 have h3b:=KH w;obtain ⟨b,o,rfl,hbb,hel⟩:=ht.elem (by omega);obtain ⟨vs,vm,hcells,hx⟩:=hel n hn;clear hel;generalize ts[n]=x at *;obtain ⟨C1,l1,C2,l2,rfl,rfl,-,-⟩:=hx.forms;obtain ⟨c0,c1,c2,c3,c4,c5,c6,c7,c8,c9⟩:=hcells;have hlt:(n:Int) < ts.length:=by omega
 have hd0:decide ((n:Int) < 0)=false:=by simp
 have hd1:decide (ts.length≤n)=false:=by simpa using hn
 simp only [aS,hkv];rw [hkx] at c0;have HP:=hiQ (fun W => asK v A1 A2 A3 n1 n2 n3 W hkv);simp only [aS,hkv,hp] at HP;have HF:=hiQ hf;have HT:=hiQ ht;have HV:=hiQ hv;have HX:=hiQ hx;have xI:=hiQ hkx;have Ul:=hiQ hkv;have hxs:=hx.lens;have hvl:=hv.lens;clear hf ht hv hx hkx hkv hp hn;go_enter Tryz.func107,Tryz.ntmps107
 go_wp2_with fail;refine (HP.out _).mono ?_;rintro e w2 ⟨rfl,hb2⟩;have HS:=(((Has.made _ _ _).alloc _).alloc _).below hb2 (by simp;omega);have HW:=((Has.made _ _ _).alloc _).below hb2 (by simp);have HY:=(Has.made _ _ _).below hb2 (by simp);rw [jG] at HW;rw [jG,jG] at HY;have h02:=(h3b _ _ _).trans (hb2.mono (h3b _ _ _).size);have hz2:=HY.here;have HT:=hiQ (HT.out.on h02);have HV:=hiQ (HV.out.on h02);have HX:=hiQ (HX.out.keep (fun _ hp => h02.cell hp) h02.size);obtain ⟨v0,v1,v2,v3,v4,v5,v6,v7⟩:=HW.c8;obtain ⟨t0,t1,t2,t3,t4,t5,t6,t7,t8,t9⟩:=HY.c10;have s0:=HS.cell 0;simp only [qI] at s0;clear hb2 h3b c0 c1 c2 c3 c4 c5 c6 c7 c8 c9;have HS:=hiQ HS;have HW:=hiQ HW;have HY:=hiQ HY;have HE:=hiQ (fun W hi ht => ars ts (some ⟨b,o,none⟩) c x.elem pl (fun y => cO ts pl y x.elem) v.items (.slice A2 v.items.length n2) W (fun y vk vi vr W' hm => HF.out x.elem y vk vi vr W' (by simp [hm])) hvl.2.1 hi ht);rw [← uT] at HE;by_cases h1:((v.items.length:Int)≤x.max)
 ·
  have h1':decide ((v.items.length:Int)≤x.max)=true:=decide_eq_true h1;have aeW:decide ((v.items.length:Int)≤x.max)=true:=decide_eq_true (by omega);have Hr:Hid (jT ts pl x v=rC ts pl v.items x.elem):=by show _=_;simp [ig,xI.out,h1]
  exact zDg
 have h1':decide ((v.items.length:Int)≤x.max)=false:=decide_eq_false h1;have aeW:decide ((v.items.length:Int)≤x.max)=false:=decide_eq_false (by omega);have Hr:Hid (jT ts pl x v=false):=by show _=_;simp [ig,xI.out,h1]
 exact zFg
theorem ayx
 (ts:List ay) (A:Option Addr) (c n:Nat) (v:Val) (pl:Bool) (A1 A2 A3:Option Addr) (n1 n2 n3:Nat) (w:World) (hn:n < ts.length) (hkx:ts[n].kind=9) (hkv:v.kind=9) (hp:aA v=true)
 (ht:aU w w.heap.size (.slice A ts.length c) ts) (hv:ValAt w w.heap.size v (.slice A1 v.keys.length n1) (.slice A2 v.items.length n2) (.slice A3 v.rest.length n3))
 (hf:∀ t,zL 107 ts (.slice A ts.length c) t pl (fun y => cO ts pl y t) (v.keys ++ v.items)) :
 Calls Tryz.prog 107 #[.agg #[.slice A ts.length c],.int .i64 n,aS v (.slice A1 v.keys.length n1) (.slice A2 v.items.length n2) (.slice A3 v.rest.length n3),.bool pl] w (RTq w (.bool (jT ts pl ts[n] v))):=by
 have h3b:=KH w;obtain ⟨b,o,rfl,hbb,hel⟩:=ht.elem (by omega);obtain ⟨vs,vm,hcells,hx⟩:=hel n hn;clear hel;generalize ts[n]=x at *;obtain ⟨C1,l1,C2,l2,rfl,rfl,-,-⟩:=hx.forms;obtain ⟨c0,c1,c2,c3,c4,c5,c6,c7,c8,c9⟩:=hcells;have hlt:(n:Int) < ts.length:=by omega
 have hd0:decide ((n:Int) < 0)=false:=by simp
 have hd1:decide (ts.length≤n)=false:=by simpa using hn
 simp only [aS,hkv];rw [hkx] at c0;have HP:=hiQ (fun W => asL v A1 A2 A3 n1 n2 n3 W hkv);simp only [aS,hkv,hp] at HP;have HF:=hiQ hf;have HT:=hiQ ht;have HV:=hiQ hv;have HX:=hiQ hx;have xI:=hiQ hkx;have Ul:=hiQ hkv;have hxs:=hx.lens;have hvl:=hv.lens;clear hf ht hv hx hkx hkv hp hn;go_enter Tryz.func107,Tryz.ntmps107
 go_wp2_with fail;refine (HP.out _).mono ?_;rintro e w2 ⟨rfl,hb2⟩;have HS:=(((Has.made _ _ _).alloc _).alloc _).below hb2 (by simp;omega);have HW:=((Has.made _ _ _).alloc _).below hb2 (by simp);have HY:=(Has.made _ _ _).below hb2 (by simp);rw [jG] at HW;rw [jG,jG] at HY;have h02:=(h3b _ _ _).trans (hb2.mono (h3b _ _ _).size);have hz2:=HY.here;have HT:=hiQ (HT.out.on h02);have HV:=hiQ (HV.out.on h02);have HX:=hiQ (HX.out.keep (fun _ hp => h02.cell hp) h02.size);obtain ⟨v0,v1,v2,v3,v4,v5,v6,v7⟩:=HW.c8;obtain ⟨t0,t1,t2,t3,t4,t5,t6,t7,t8,t9⟩:=HY.c10;have s0:=HS.cell 0;simp only [qI] at s0;clear hb2 h3b c0 c1 c2 c3 c4 c5 c6 c7 c8 c9;have HS:=hiQ HS;have HW:=hiQ HW;have HY:=hiQ HY;have HE:=hiQ (fun W hi ht => ars ts (some ⟨b,o,none⟩) c x.elem pl (fun y => cO ts pl y x.elem) v.items (.slice A2 v.items.length n2) W (fun y vk vi vr W' hm => HF.out x.elem y vk vi vr W' (by simp [hm])) hvl.2.1 hi ht);rw [← uT] at HE;by_cases h1:(v.items.length≤1)
 ·
  have h1':decide (v.items.length≤1)=true:=decide_eq_true h1;have aeW:decide ((v.items.length:Int)≤1)=true:=decide_eq_true (by omega);have Hr:Hid (jT ts pl x v=rC ts pl v.items x.elem):=by show _=_;simp [ig,xI.out,h1]
  exact zDg
 have h1':decide (v.items.length≤1)=false:=decide_eq_false h1;have aeW:decide ((v.items.length:Int)≤1)=false:=decide_eq_false (by omega);have Hr:Hid (jT ts pl x v=false):=by show _=_;simp [ig,xI.out,h1]
 exact zFg
end Go.Proofs.YtlamhkffnlgofaaGreatDoor

/- What Compare and its reference compute, and what else is used with it. No condition. -/
import Derived.Test.YtkaedmpppnnamaaGreatDoorHAB
import Derived.IntWalk
set_option maxHeartbeats 800000
set_option maxRecDepth 100000
namespace Go.Proofs.YtkaedmpppnnamaaGreatDoor
open ChangeShapes WideShapes ChangeAt RowKit
def nC (a b:Int):Int:=if a < b then -1 else if b < a then 1 else 0
def AO (a b:List UInt8):Int:=if Op.bytesLess a b then -1 else if Op.bytesLess b a then 1 else 0
def alD (x y:Val):Int :=
 if x.kind≠y.kind then 0
 else if x.kind=1 then (if x.bool=y.bool then 0 else if y.bool then -1 else 1)
 else if x.kind=2 then nC (zig x.num) (zig y.num)
 else if x.kind=3 then (if x.str.length≠y.str.length then nC x.str.length y.str.length else AO x.str y.str)
 else if x.kind=4 then nC x.id y.id
 else 0
theorem Oj (a:List UInt8):Op.bytesLess a a=false:=by
 induction a with
 | nil => rfl
 | cons b r ih => simp [Op.bytesLess,ih]
theorem QT (a:List UInt8):∀ b,Op.bytesLess a b=false->Op.bytesLess b a=false->a=b:=by
 induction a with
 | nil => intro b h1 h2;cases b with
  | nil => rfl
  | cons c s => simp [Op.bytesLess] at h1
 | cons x r ih =>
  intro b h1 h2;cases b with
  | nil => simp [Op.bytesLess] at h2
  | cons c s =>
   simp only [Op.bytesLess,Bool.or_eq_false_iff,Bool.and_eq_false_iff,decide_eq_false_iff_not,r_] at h1 h2;have e:x=c:=UInt8.le_antisymm (UInt8.not_lt.1 h2.1) (UInt8.not_lt.1 h1.1);subst e;rw [ih s (by simpa using h1.2) (by simpa using h2.2)]
theorem ZJ (a:List UInt8):∀ b,Op.bytesLess a b=true->Op.bytesLess b a=false:=by
 induction a with
 | nil => intro b h;cases b <;> simp [Op.bytesLess]
 | cons x r ih =>
  intro b h;cases b with
  | nil => simp [Op.bytesLess] at h
  | cons c s =>
   simp only [Op.bytesLess,QF,j_,w_,TL] at h;simp only [Op.bytesLess,Bool.or_eq_false_iff,Bool.and_eq_false_iff,decide_eq_false_iff_not,r_];rcases h with h | ⟨rfl,h⟩
   . exact ⟨UInt8.not_lt.2 (UInt8.le_of_lt h),.inl (fun e => by subst e;exact UInt8.lt_irrefl _ h)⟩
   exact ⟨UInt8.lt_irrefl _,.inr (ih s h)⟩
theorem Pm (a:Int) (w:World):Calls Tryz.prog 146 #[.int .u64 a] w fun e w' => e = .returned (.bool false)/\w=w':=by
 go_enter Tryz.func146,Tryz.ntmps146
 go_wp2
 go_ret;exact ⟨au (by simp),rfl⟩
theorem Pn (a:Int) (w:World):Calls Tryz.prog 147 #[.int .i64 a] w fun e w' => e = .returned (.bool false)/\w=w':=by
 go_enter Tryz.func147,Tryz.ntmps147
 go_wp2
 go_ret;exact ⟨au (by simp),rfl⟩
theorem Po (a:List UInt8) (w:World):Calls Tryz.prog 148 #[.string ⟨a.toArray⟩] w fun e w' => e = .returned (.bool false)/\w=w':=by
 go_enter Tryz.func148,Tryz.ntmps148
 go_wp2
 go_ret;exact ⟨au (by simp),rfl⟩
theorem zEk {p:Prop} (h:p:=by
 go_enter Tryz.func131,Tryz.ntmps131
 go_wp2_with (go_at_call 146;refine (Pm _ _).mono ?_;rintro e w' ⟨rfl,rfl⟩)
 go_ret;exact ⟨bC hc.out.symm,rfl⟩):p:=h
theorem aea (a b:Int) (w:World):Calls Tryz.prog 131 #[.int .u64 a,.int .u64 b] w fun e w' => e = .returned (.int .i64 (nC a b))/\w=w':=by
 by_cases h1:a < b
 .
  have hc:Hid (nC a b = -1):=by show _=_;rw [nC,o_ h1]
  exact zEk
 by_cases h2:b < a
 .
  have hc:Hid (nC a b=1):=by show _=_;rw [nC,gB h1,o_ h2]
  exact zEk
 have hc:Hid (nC a b=0):=by show _=_;rw [nC,gB h1,gB h2]
 exact zEk
theorem zEl {p:Prop} (h:p:=by
 go_enter Tryz.func134,Tryz.ntmps134
 go_wp2_with (go_at_call 147;refine (Pn _ _).mono ?_;rintro e w' ⟨rfl,rfl⟩)
 go_ret;exact ⟨bC hc.out.symm,rfl⟩):p:=h
theorem VU (a b:Int) (w:World):Calls Tryz.prog 134 #[.int .i64 a,.int .i64 b] w fun e w' => e = .returned (.int .i64 (nC a b))/\w=w':=by
 by_cases h1:a < b
 .
  have hc:Hid (nC a b = -1):=by show _=_;rw [nC,o_ h1]
  exact zEl
 by_cases h2:b < a
 .
  have hc:Hid (nC a b=1):=by show _=_;rw [nC,gB h1,o_ h2]
  exact zEl
 have hc:Hid (nC a b=0):=by show _=_;rw [nC,gB h1,gB h2]
 exact zEl
theorem zEm {p:Prop} (h:p:=by
 go_enter Tryz.func135,Tryz.ntmps135
 go_wp2_with (go_at_call 148;refine (Po _ _).mono ?_;rintro e w' ⟨rfl,rfl⟩)
 go_ret;exact ⟨bC hc.out.symm,rfl⟩):p:=h
theorem aeb (a b:List UInt8) (w:World):Calls Tryz.prog 135 #[.string ⟨a.toArray⟩,.string ⟨b.toArray⟩] w fun e w' => e = .returned (.int .i64 (AO a b))/\w=w':=by
 have hc:Hid (AO a b=if Op.bytesLess a b then -1 else if Op.bytesLess b a then 1 else 0):=by show _=_;rfl
 have h3:=Oj a;have h4:=QT a b;cases h1:Op.bytesLess a b with
 | true =>
  rw [h1] at hc;clear h3 h4;exact zEm
 | false =>
  cases h2:Op.bytesLess b a with
  | true =>
   rw [h1,h2] at hc;have h5:(a == b)=false:=r_.2 (fun e => by subst e;rw [h3] at h2;cases h2);clear h3 h4;exact zEm
  | false =>
   rw [h1,h2] at hc;obtain rfl:=h4 h1 h2;clear h4 h2 h3;exact zEm
def H7 (a b:Int):Int:=if a=0 then b else a
theorem agV (a b:Int) (v:Value) (w:World) (hr:Rd w w.heap.size 1 v 2 [.int .i64 a,.int .i64 b]):Calls Tryz.prog 133 #[v] w fun e w' => e = .returned (.int .i64 (H7 a b))/\w=w':=by
 obtain ⟨A,c,rfl,hc⟩:=hr.form;obtain ⟨bb,o,rfl,hbb,hcell⟩:=hr.at_ (by omega);have c0:w.cell? ⟨bb,o,none⟩=some (.int .i64 a):=hcell 0 _ rfl;have c1:w.cell? ⟨bb,o+1,none⟩=some (.int .i64 b):=hcell 1 _ rfl;clear hcell;go_enter Tryz.func133,Tryz.ntmps133
 go_wp2
 go_loop [8] (fun i => ∃ k:Nat,i = .int .i64 k/\k<=2/\(1<=k->a=0)/\(2<=k->b=0)) (fun i => 2 - (intOf i).toNat)
 case atStart => exact ⟨0,rfl,by omega,by omega,by omega⟩
 case round =>
  obtain ⟨k,rfl,hk,ha,hb⟩:=hrel;by_cases h2:k=2
  .
   have ha:=ha (by omega);have hb:=hb (by omega);have h3:(2:Int)<=k:=by omega
   have hx:Hid (H7 a b=0):=by show _=_;rw [H7,o_ ha,hb]
   clear ha hb h2;go_wp2
   go_ret;exact ⟨bC hx.out.symm,rfl⟩
  by_cases h1:k=1
  .
   have ha:=ha (by omega);have hx:Hid (H7 a b=b):=by show _=_;rw [H7,o_ ha]
   have HA:=hiQ ha;subst h1;clear ha hb h2;by_cases hb0:b=0
   .
    have Hb:=hiQ hb0;have ht:(b != 0)=false:=by simp [hb0]
    clear hb0;go_wp2
    go_round
    case rel => exact ⟨2,by go_num,by omega,fun _ => HA.out,fun _ => Hb.out⟩
    case measure => simp [intOf]
   have ht:(b != 0)=true:=by simpa using hb0
   clear hb0;go_wp2
   go_ret;exact ⟨bC (by simp [H7]),rfl⟩
  obtain rfl:k=0:=by omega
  clear ha hb h1 h2;by_cases ha0:a=0
  .
   have Ha:=hiQ ha0;have ht:(a != 0)=false:=by simp [ha0]
   clear ha0;go_wp2
   go_round
   case rel => exact ⟨1,by go_num,by omega,fun _ => Ha.out,by omega⟩
   case measure => simp [intOf]
  have ht:(a != 0)=true:=by simpa using ha0
  have hx:Hid (H7 a b=a):=by show _=_;rw [H7,gB ha0]
  clear ha0;go_wp2
  go_ret;exact ⟨bC hx.out.symm,rfl⟩
def SG (l e:Bool):Int:=if e then 0 else if l then -1 else 1
theorem Ee (l e:Bool) (w:World):Calls Tryz.prog 88 #[.bool l,.bool e] w fun r w' => r = .returned (.int .i64 (SG l e))/\w=w':=by
 cases e <;> cases l
 all_goals
  go_enter Tryz.func88,Tryz.ntmps88
  go_wp2
  go_ret;exact ⟨by first | rfl | simp,rfl⟩
theorem aiN (W:World) (b:Nat) (x y:Value) (h0:W.cell? ⟨b,0,none⟩=some x) (h1:W.cell? ⟨b,1,none⟩=some y) (hb:b < W.heap.size) :
  Rd W W.heap.size 1 (.slice (some ⟨b,0,none⟩) 2 2) 2 [x,y] :=
 ⟨rfl,_,_,rfl,b_ _,.inr ⟨b,0,rfl,hb,fun j u hu => by
  rw [Ru]
  match j,hu with
  | 0,hu => rw [h0];exact hu
  | 1,hu => rw [h1];exact hu⟩⟩
theorem agW (a b:List UInt8):H7 (nC a.length b.length) (AO a b)=if a.length≠b.length then nC a.length b.length else AO a b:=by
 unfold H7 nC;by_cases h:a.length=b.length
 . simp [h]
 rw [o_ h];by_cases h1:(a.length:Int) < b.length
 . simp [h1]
 have h2:(b.length:Int) < a.length:=by omega
 simp [h1,h2]
theorem zEh {p:Prop} (h:p:=by
 go_enter Tryz.func106,Tryz.ntmps106
 go_wp2
 go_ret;exact ⟨bC hr.out.symm,rV _ _⟩):p:=h
theorem U9 (x y:Val) (vk vi vr xG wM yX:Value) (w:World) (hx:ValAt w w.heap.size x vk vi vr) (hy:ValAt w w.heap.size y xG wM yX) :
  Calls Tryz.prog 106 #[aS x vk vi vr,aS y xG wM yX] w (RT w (.int .i64 (alD x y))):=by
 have hc:Hid (alD x y=if x.kind≠y.kind then 0 else if x.kind=1 then (if x.bool=y.bool then 0 else if y.bool then -1 else 1) else if x.kind=2 then nC (zig x.num) (zig y.num) else if x.kind=3 then (if x.str.length≠y.str.length then nC x.str.length y.str.length else AO x.str y.str) else if x.kind=4 then nC x.id y.id else 0):=by show _=_;rfl
 obtain ⟨A1,n1,A2,n2,A3,n3,rfl,rfl,rfl,-,-,-⟩:=hx.forms;obtain ⟨B1,k1,B2,k2,B3,k3,rfl,rfl,rfl,-,-,-⟩:=hy.forms;have hx1:=hx.ints;have hy1:=hy.ints;have hzx:=YD x.num hx1.2.1;have hzy:=YD y.num hy1.2.1;have hxs:=hx.AL;have hys:=hy.AL;clear hx hy hx1 hy1;have rV:=Oe w;by_cases hk:x.kind=y.kind
 .
  have hkk:(x.kind != y.kind)=false:=by simp [hk]
  have HZX:=hiQ hzx;have HZY:=hiQ hzy;by_cases k1:x.kind=1
  .
   have t1:(x.kind == 1)=true:=by simp [k1]
   by_cases hb:x.bool=y.bool
   .
    have hr:Hid (alD x y=0):=by show _=_;rw [hc.out,gB (by simp [hk]),o_ k1,o_ hb]
    have tb:(x.bool == y.bool)=true:=by simp [hb]
    clear hk k1 hb hzx hzy;exact zEh
   have tb:(x.bool == y.bool)=false:=by simpa using hb
   cases hyb:y.bool with
   | true =>
    have hr:Hid (alD x y = -1):=by show _=_;rw [hc.out,gB (by simp [hk]),o_ k1,gB hb,hyb];rfl
    rw [hyb] at tb;clear hk k1 hb hzx hzy;simp only [aS,hyb];exact zEh
   | false =>
    have hr:Hid (alD x y=1):=by show _=_;rw [hc.out,gB (by simp [hk]),o_ k1,gB hb,hyb];rfl
    rw [hyb] at tb;clear hk k1 hb hzx hzy;simp only [aS,hyb];exact zEh
  have t1:(x.kind == 1)=false:=r_.2 k1;by_cases k2:x.kind=2
  .
   have t2:(x.kind == 2)=true:=by simp [k2]
   have hr:Hid (alD x y=nC (zig x.num) (zig y.num)):=by show _=_;rw [hc.out,gB (by simp [hk]),gB k1,o_ k2]
   clear hk k1 k2 hzx hzy;go_enter Tryz.func106,Tryz.ntmps106
   go_wp2
   go_region_held3 (fun w' => w'.cell? ⟨w.heap.size,2,none⟩=some (.int .i64 x.num)/\w'.cell? ⟨w.heap.size+1,2,none⟩=some (.int .i64 y.num)) (go_keep)
    (first
     | (go_at_call 132;(with_reducible refine (HZX.out _).mono ?_);rintro e w2 ⟨rfl,rfl⟩)
     | (go_at_call 132;(with_reducible refine (HZY.out _).mono ?_);rintro e w2 ⟨rfl,rfl⟩)
     | (go_at_call 131;(with_reducible refine (aea _ _ _).mono ?_);rintro e w2 ⟨rfl,rfl⟩))
   go_wp2
   go_ret;exact ⟨bC hr.out.symm,(rV _ _).drew⟩
  have t2:(x.kind == 2)=false:=r_.2 k2;by_cases k3:x.kind=3
  .
   have t3:(x.kind == 3)=true:=by simp [k3]
   have hr:Hid (alD x y=H7 (nC x.str.length y.str.length) (AO x.str y.str)):=by show _=_;rw [hc.out,gB (by simp [hk]),gB k1,gB k2,o_ k3,agW]
   clear hk k1 k2 k3 hzx hzy;go_enter Tryz.func106,Tryz.ntmps106
   go_wp2
   go_region_held3 (fun w' => w'.cell? ⟨w.heap.size,3,none⟩=some (.string ⟨x.str.toArray⟩)/\w'.cell? ⟨w.heap.size+1,3,none⟩=some (.string ⟨y.str.toArray⟩)) (go_keep)
    (first
     | (go_at_call 134;(with_reducible refine (VU _ _ _).mono ?_);rintro e w2 ⟨rfl,rfl⟩)
     | (go_at_call 135;(with_reducible refine (aeb _ _ _).mono ?_);rintro e w2 ⟨rfl,rfl⟩)
     | (go_at_call 133;refine (agV (nC x.str.length y.str.length) (AO x.str y.str) _ _ (aiN _ _ _ _ (by go_simp) (by go_simp) (by go_simp))).mono ?_;rintro e w2 ⟨rfl,rfl⟩))
   go_wp2
   go_ret;exact ⟨bC hr.out.symm,((rV _ _).alloc (rV _ _).size _).drew⟩
  have t3:(x.kind == 3)=false:=r_.2 k3;by_cases k4:x.kind=4
  .
   have t4:(x.kind == 4)=true:=by simp [k4]
   have hr:Hid (alD x y=nC x.id y.id):=by show _=_;rw [hc.out,gB (by simp [hk]),gB k1,gB k2,gB k3,o_ k4]
   clear hk k1 k2 k3 k4 hzx hzy;go_enter Tryz.func106,Tryz.ntmps106
   go_wp2_with (go_at_call 134;refine (VU _ _ _).mono ?_;rintro e w' ⟨rfl,rfl⟩)
   go_ret;exact ⟨bC hr.out.symm,rV _ _⟩
  have t4:(x.kind == 4)=false:=r_.2 k4;have hr:Hid (alD x y=0):=by show _=_;rw [hc.out,gB (by simp [hk]),gB k1,gB k2,gB k3,gB k4]
  clear hk k1 k2 k3 k4 hzx hzy;exact zEh
 have hr:Hid (alD x y=0):=by show _=_;rw [hc.out,o_ hk]
 have hkk:(x.kind != y.kind)=true:=by simpa using hk
 clear hk hzx hzy;exact zEh
theorem SH (a b:Int) (l e:Bool) (hl:l=true↔a < b) (he:e=true↔a=b):SG l e=nC a b:=by
 unfold SG nC;by_cases h:a=b
 . rw [o_ (he.2 h),gB (by omega),gB (by omega)]
 rw [gB (fun h2 => h (he.1 h2))];by_cases h2:a < b
 . rw [o_ (hl.2 h2),o_ h2]
 rw [gB (fun h3 => h2 (hl.1 h3)),gB h2,o_ (by omega)]
theorem aec (a b:List UInt8) (l e:Bool) (hl:l=true↔Op.bytesLess a b=true) (he:e=true↔a=b):SG l e=AO a b:=by
 unfold SG AO;by_cases h:a=b
 .
  subst h;have:=Oj a;rw [o_ (he.2 rfl),this];simp
 rw [gB (fun h2 => h (he.1 h2))];cases h2:Op.bytesLess a b with
 | true => rw [o_ (hl.2 h2)];simp
 | false =>
  rw [gB (fun h3 => by rw [hl.1 h3] at h2;cases h2)];have:Op.bytesLess b a=true:=by
   cases h3:Op.bytesLess b a with
   | true => rfl
   | false => exact absurd (QT a b h2 h3) h
  simp [this]
theorem agX (a b:Int):zig a=zig b↔a=b:=⟨fun h => by rw [<- KJ a,h,KJ],fun h => by rw [h]⟩
theorem aFH (x y:Val) (vk vi vr xG wM yX:Value) (w:World) (hx:ValAt w w.heap.size x vk vi vr) (hy:ValAt w w.heap.size y xG wM yX) :
  Calls Tryz.prog 58 #[aS x vk vi vr,aS y xG wM yX] w (RT w (.int .i64 (alD x y))):=by
 have hc:Hid (alD x y=if x.kind≠y.kind then 0 else if x.kind=1 then (if x.bool=y.bool then 0 else if y.bool then -1 else 1) else if x.kind=2 then nC (zig x.num) (zig y.num) else if x.kind=3 then (if x.str.length≠y.str.length then nC x.str.length y.str.length else AO x.str y.str) else if x.kind=4 then nC x.id y.id else 0):=by show _=_;rfl
 obtain ⟨A1,n1,A2,n2,A3,n3,rfl,rfl,rfl,-,-,-⟩:=hx.forms;obtain ⟨B1,k1,B2,k2,B3,k3,rfl,rfl,rfl,-,-,-⟩:=hy.forms;have hx1:=hx.ints;have hy1:=hy.ints;have hzx:=Ph x.num hx1.2.1;have hzy:=Ph y.num hy1.2.1;have hxs:=hx.AL;have hys:=hy.AL;clear hx hy hx1 hy1;have rV:=Oe w;by_cases hk:x.kind=y.kind
 .
  have hkk:(x.kind != y.kind)=false:=by simp [hk]
  have HZX:=hiQ hzx;have HZY:=hiQ hzy;by_cases k1:x.kind=1
  .
   have t1:(x.kind == 1)=true:=by simp [k1]
   have hr:Hid (alD x y=if x.bool=y.bool then 0 else if y.bool then -1 else 1):=by show _=_;rw [hc.out,gB (by simp [hk]),o_ k1]
   clear hk k1 hzx hzy;go_enter Tryz.func58,Tryz.ntmps58
   go_wp2_with (go_at_call 88;refine (Ee _ _ _).mono ?_;rintro e w' ⟨rfl,rfl⟩)
   go_ret;exact ⟨bC (by rw [hr.out];unfold SG;cases x.bool <;> cases y.bool <;> simp),rV _ _⟩
  have t1:(x.kind == 1)=false:=r_.2 k1;by_cases k2:x.kind=2
  .
   have t2:(x.kind == 2)=true:=by simp [k2]
   have hr:Hid (alD x y=nC (zig x.num) (zig y.num)):=by show _=_;rw [hc.out,gB (by simp [hk]),gB k1,o_ k2]
   clear hk k1 k2 hzx hzy;go_enter Tryz.func58,Tryz.ntmps58
   go_wp2
   go_region_held3 (fun w' => w'.cell? ⟨w.heap.size,2,none⟩=some (.int .i64 x.num)/\w'.cell? ⟨w.heap.size+1,2,none⟩=some (.int .i64 y.num)) (go_keep)
    (first
     | (go_at_call 45;(with_reducible refine (HZX.out _).mono ?_);rintro e w2 ⟨rfl,rfl⟩)
     | (go_at_call 45;(with_reducible refine (HZY.out _).mono ?_);rintro e w2 ⟨rfl,rfl⟩)
     | (go_at_call 88;(with_reducible refine (Ee _ _ _).mono ?_);rintro e w2 ⟨rfl,rfl⟩))
   go_wp2
   go_ret;exact ⟨bC (by rw [hr.out];exact SH _ _ _ _ (by simp) (by simp [agX])),(rV _ _).drew⟩
  have t2:(x.kind == 2)=false:=r_.2 k2;by_cases k3:x.kind=3
  .
   have t3:(x.kind == 3)=true:=by simp [k3]
   by_cases hll:x.str.length=y.str.length
   .
    have hr:Hid (alD x y=AO x.str y.str):=by show _=_;rw [hc.out,gB (by simp [hk]),gB k1,gB k2,o_ k3,gB (by simp [hll])]
    have tl:((x.str.length:Int) != (y.str.length:Int))=false:=by simp [hll]
    clear hk k1 k2 k3 hzx hzy hll;go_enter Tryz.func58,Tryz.ntmps58
    go_wp2_with (go_at_call 88;refine (Ee _ _ _).mono ?_;rintro e w' ⟨rfl,rfl⟩)
    go_ret;exact ⟨bC (by rw [hr.out];exact aec _ _ _ _ (by simp) (by simp)),rV _ _⟩
   have hr:Hid (alD x y=nC x.str.length y.str.length):=by show _=_;rw [hc.out,gB (by simp [hk]),gB k1,gB k2,o_ k3,o_ hll]
   have tl:((x.str.length:Int) != (y.str.length:Int))=true:=by rw [TM];omega
   have Hll:=hiQ hll;clear hk k1 k2 k3 hzx hzy hll;go_enter Tryz.func58,Tryz.ntmps58
   go_wp2_with (go_at_call 88;refine (Ee _ _ _).mono ?_;rintro e w' ⟨rfl,rfl⟩)
   go_ret;exact ⟨bC (by rw [hr.out];exact SH _ _ _ _ (by simp) (by have:=Hll.out;simp;omega)),rV _ _⟩
  have t3:(x.kind == 3)=false:=r_.2 k3;by_cases k4:x.kind=4
  .
   have t4:(x.kind == 4)=true:=by simp [k4]
   have hr:Hid (alD x y=nC x.id y.id):=by show _=_;rw [hc.out,gB (by simp [hk]),gB k1,gB k2,gB k3,o_ k4]
   clear hk k1 k2 k3 k4 hzx hzy;go_enter Tryz.func58,Tryz.ntmps58
   go_wp2_with (go_at_call 88;refine (Ee _ _ _).mono ?_;rintro e w' ⟨rfl,rfl⟩)
   go_ret;exact ⟨bC (by rw [hr.out];exact SH _ _ _ _ (by simp) (by simp)),rV _ _⟩
  have t4:(x.kind == 4)=false:=r_.2 k4;have hr:Hid (alD x y=0):=by show _=_;rw [hc.out,gB (by simp [hk]),gB k1,gB k2,gB k3,gB k4]
  clear hk k1 k2 k3 k4 hzx hzy;go_enter Tryz.func58,Tryz.ntmps58
  go_wp2
  go_ret;exact ⟨bC hr.out.symm,rV _ _⟩
 have hr:Hid (alD x y=0):=by show _=_;rw [hc.out,o_ hk]
 have hkk:(x.kind != y.kind)=true:=by simpa using hk
 clear hk hzx hzy;go_enter Tryz.func58,Tryz.ntmps58
 go_wp2
 go_ret;exact ⟨bC hr.out.symm,rV _ _⟩
structure Mem where
 id:Int
 name:List UInt8
 ty:Int
 akb:Bool
 eG:Bool
 dflt:Val
structure ay where
 kind:Int
 name:List UInt8
 low:Int
 high:Int
 max:Int
 syms:List Raw
 ah:List Mem
 key:Int
 elem:Int
 opn:Bool
structure GH (w:World) (B:Nat) (m:Mem) (vk vi vr:Value):Prop where
 ints:I64 m.id/\I64 m.ty
 GI:m.name.length<=140737488351232
 dflt:ValAt w B m.dflt vk vi vr
def ZK (m:Mem) (vk vi vr:Value):List Value:=[.int .i64 m.id,.string ⟨m.name.toArray⟩,.int .i64 m.ty,.bool m.akb,.bool m.eG] ++ oD m.dflt vk vi vr
def UU (w:World) (B:Nat) (m:Mem) (cs:List Value):Prop := ∃ vk vi vr,cs=ZK m vk vi vr/\GH w B m vk vi vr
def rW (w:World) (B:Nat) (v:Value) (ms:List Mem):Prop := ∃ c:Nat->List Value,Row w B 13 v ms.length c/\∀ (i:Nat) (h:i < ms.length),UU w B ms[i] (c i)
theorem ValAt.keep {w w':World} {B B':Nat} {x:Val} {vk vi vr:Value} (h:ValAt w B x vk vi vr) (hk:∀ p:Addr,p.block < B->w'.cell? p=w.cell? p) (hB:B<=B'):ValAt w' B' x vk vi vr :=
 ⟨h.ints,h.AL,h.FH,h.Ie,h.keys.keep hk hB,h.items.keep hk hB,(h.rest.keep hk).mono hB⟩
theorem GH.keep {w w':World} {B B':Nat} {x:Mem} {vk vi vr:Value} (h:GH w B x vk vi vr) (hk:∀ p:Addr,p.block < B->w'.cell? p=w.cell? p) (hB:B<=B'):GH w' B' x vk vi vr :=
 ⟨h.ints,h.GI,h.dflt.keep hk hB⟩
theorem GH.on {w w':World} {x:Mem} {vk vi vr:Value} (h:GH w w.heap.size x vk vi vr) (hb:Below w.heap.size w w'):GH w' w'.heap.size x vk vi vr:=h.keep (fun _ hp => hb.cell hp) hb.size
theorem UU.keep {w w':World} {B B':Nat} {x:Mem} {cs:List Value} (h:UU w B x cs) (hk:∀ p:Addr,p.block < B->w'.cell? p=w.cell? p) (hB:B<=B'):UU w' B' x cs:=by
 obtain ⟨a,b,c,h1,h2⟩:=h;exact ⟨a,b,c,h1,h2.keep hk hB⟩
theorem rW.keep {w w':World} {B B':Nat} {v:Value} {xs:List Mem} (h:rW w B v xs) (hk:∀ p:Addr,p.block < B->w'.cell? p=w.cell? p) (hB:B<=B'):rW w' B' v xs:=by
 exact zHc
theorem rW.on {w w':World} {v:Value} {xs:List Mem} (h:rW w w.heap.size v xs) (hb:Below w.heap.size w w'):rW w' w'.heap.size v xs:=h.keep (fun _ hp => hb.cell hp) hb.size
theorem rW.form {w:World} {B:Nat} {v:Value} {xs:List Mem} (h:rW w B v xs):∃ A c,v = .slice A xs.length c/\xs.length<=c:=by
 exact zFw
def EU (w:World) (b o:Nat) (m:Mem) (vk vi vr:Value):Prop :=
 w.cell? ⟨b,o,none⟩=some (.int .i64 m.id)/\w.cell? ⟨b,o+1,none⟩=some (.string ⟨m.name.toArray⟩)/\w.cell? ⟨b,o+2,none⟩=some (.int .i64 m.ty)/\w.cell? ⟨b,o+3,none⟩=some (.bool m.akb)/\w.cell? ⟨b,o+4,none⟩=some (.bool m.eG) /\
 w.cell? ⟨b,o+5,none⟩=some (.int .i64 m.dflt.kind)/\w.cell? ⟨b,o+6,none⟩=some (.bool m.dflt.bool)/\w.cell? ⟨b,o+7,none⟩=some (.int .i64 m.dflt.num)/\w.cell? ⟨b,o+8,none⟩=some (.string ⟨m.dflt.str.toArray⟩)/\w.cell? ⟨b,o+9,none⟩=some (.int .i64 m.dflt.id) /\
 w.cell? ⟨b,o+10,none⟩=some vk/\w.cell? ⟨b,o+11,none⟩=some vi/\w.cell? ⟨b,o+12,none⟩=some vr
theorem rW.elem {w:World} {B n cap:Nat} {A:Option Addr} {xs:List Mem} (h:rW w B (.slice A n cap) xs) (hpos:0 < xs.length):∃ b o,A=some ⟨b,o,none⟩/\b < B/\∀ k (hk:k < xs.length),∃ vk vi vr,EU w b (o+k*13) xs[k] vk vi vr/\GH w B xs[k] vk vi vr:=by
 obtain ⟨c,⟨A',c',hv,hc,h2⟩,h3⟩:=h;injection hv with h4 h5 h6;subst h4;rcases h2 with h2 | ⟨b,o,hA,hb,hcell⟩
 . omega
 refine ⟨b,o,hA,hb,fun k hk => ?_⟩;obtain ⟨vk,vi,vr,hcs,hm⟩:=h3 k hk;have hc:=hcell k hk;rw [hcs] at hc;exact ⟨vk,vi,vr,⟨hc 0 _ rfl,hc 1 _ rfl,hc 2 _ rfl,hc 3 _ rfl,hc 4 _ rfl,hc 5 _ rfl,hc 6 _ rfl,hc 7 _ rfl,hc 8 _ rfl,hc 9 _ rfl,hc 10 _ rfl,hc 11 _ rfl,hc 12 _ rfl⟩,hm⟩
structure jc (w:World) (B:Nat) (t:ay) (vs vm:Value):Prop where
 ints:I64 t.kind/\I64 t.low/\I64 t.high/\I64 t.max/\I64 t.key/\I64 t.elem
 GI:t.name.length<=140737488351232
 lens:t.syms.length<=140737488351232/\t.ah.length<=140737488351232
 QL:∀ r ∈ t.syms,yR r
 syms:Rd w B 2 vs t.syms.length (jO t.syms)
 ah:rW w B vm t.ah
theorem jc.keep {w w':World} {B B':Nat} {x:ay} {vs vm:Value} (h:jc w B x vs vm) (hk:∀ p:Addr,p.block < B->w'.cell? p=w.cell? p) (hB:B<=B'):jc w' B' x vs vm :=
 ⟨h.ints,h.GI,h.lens,h.QL,(h.syms.keep hk).mono hB,h.ah.keep hk hB⟩
theorem jc.on {w w':World} {x:ay} {vs vm:Value} (h:jc w w.heap.size x vs vm) (hb:Below w.heap.size w w'):jc w' w'.heap.size x vs vm:=h.keep (fun _ hp => hb.cell hp) hb.size
theorem jc.forms {w:World} {B:Nat} {x:ay} {vs vm:Value} (h:jc w B x vs vm):∃ A1 c1 A2 c2,vs = .slice A1 x.syms.length c1/\vm = .slice A2 x.ah.length c2/\x.syms.length<=c1/\x.ah.length<=c2:=by
 obtain ⟨A1,c1,e1,h1⟩:=h.syms.form;obtain ⟨A2,c2,e2,h2⟩:=h.ah.form;exact ⟨A1,c1,A2,c2,e1,e2,h1,h2⟩
def Pq (t:ay) (vs vm:Value):List Value:=[.int .i64 t.kind,.string ⟨t.name.toArray⟩,.int .i64 t.low,.int .i64 t.high,.int .i64 t.max,vs,vm,.int .i64 t.key,.int .i64 t.elem,.bool t.opn]
abbrev dA (t:ay) (vs vm:Value):Value:=.agg #[.int .i64 t.kind,.string ⟨t.name.toArray⟩,.int .i64 t.low,.int .i64 t.high,.int .i64 t.max,vs,vm,.int .i64 t.key,.int .i64 t.elem,.bool t.opn]
def aU (w:World) (B:Nat) (v:Value) (ts:List ay):Prop := ∃ c:Nat->List Value,Row w B 10 v ts.length c/\∀ (i:Nat) (h:i < ts.length),∃ vs vm,c i=Pq ts[i] vs vm/\jc w B ts[i] vs vm
theorem aU.keep {w w':World} {B B':Nat} {v:Value} {xs:List ay} (h:aU w B v xs) (hk:∀ p:Addr,p.block < B->w'.cell? p=w.cell? p) (hB:B<=B'):aU w' B' v xs:=by
 obtain ⟨c,h1,h2⟩:=h;refine ⟨c,(h1.keep hk).mono hB,fun i hi => ?_⟩;obtain ⟨a,b,h3,h4⟩:=h2 i hi;exact ⟨a,b,h3,h4.keep hk hB⟩
theorem aU.on {w w':World} {v:Value} {xs:List ay} (h:aU w w.heap.size v xs) (hb:Below w.heap.size w w'):aU w' w'.heap.size v xs:=h.keep (fun _ hp => hb.cell hp) hb.size
theorem aU.form {w:World} {B:Nat} {v:Value} {xs:List ay} (h:aU w B v xs):∃ A c,v = .slice A xs.length c/\xs.length<=c:=by
 exact zFw
def NI (w:World) (b o:Nat) (t:ay) (vs vm:Value):Prop :=
 w.cell? ⟨b,o,none⟩=some (.int .i64 t.kind)/\w.cell? ⟨b,o+1,none⟩=some (.string ⟨t.name.toArray⟩)/\w.cell? ⟨b,o+2,none⟩=some (.int .i64 t.low)/\w.cell? ⟨b,o+3,none⟩=some (.int .i64 t.high)/\w.cell? ⟨b,o+4,none⟩=some (.int .i64 t.max) /\
 w.cell? ⟨b,o+5,none⟩=some vs/\w.cell? ⟨b,o+6,none⟩=some vm/\w.cell? ⟨b,o+7,none⟩=some (.int .i64 t.key)/\w.cell? ⟨b,o+8,none⟩=some (.int .i64 t.elem)/\w.cell? ⟨b,o+9,none⟩=some (.bool t.opn)
theorem aU.elem {w:World} {B n cap:Nat} {A:Option Addr} {xs:List ay} (h:aU w B (.slice A n cap) xs) (hpos:0 < xs.length):∃ b o,A=some ⟨b,o,none⟩/\b < B/\∀ k (hk:k < xs.length),∃ vs vm,NI w b (o+k*10) xs[k] vs vm/\jc w B xs[k] vs vm:=by
 obtain ⟨c,⟨A',c',hv,hc,h2⟩,h3⟩:=h;injection hv with h4 h5 h6;subst h4;rcases h2 with h2 | ⟨b,o,hA,hb,hcell⟩
 . omega
 refine ⟨b,o,hA,hb,fun k hk => ?_⟩;obtain ⟨vs,vm,hcs,hm⟩:=h3 k hk;have hc:=hcell k hk;rw [hcs] at hc;exact ⟨vs,vm,⟨hc 0 _ rfl,hc 1 _ rfl,hc 2 _ rfl,hc 3 _ rfl,hc 4 _ rfl,hc 5 _ rfl,hc 6 _ rfl,hc 7 _ rfl,hc 8 _ rfl,hc 9 _ rfl⟩,hm⟩
theorem NI.below {w w':World} {B b o:Nat} {x:ay} {vs vm:Value} (h:NI w b o x vs vm) (hb:Below B w w') (hlt:b < B):NI w' b o x vs vm:=by
 obtain ⟨h0,h1,h2,h3,h4,h5,h6,h7,h8,h9⟩:=h;exact ⟨(hb.cell hlt).trans h0,(hb.cell hlt).trans h1,(hb.cell hlt).trans h2,(hb.cell hlt).trans h3,(hb.cell hlt).trans h4,(hb.cell hlt).trans h5,(hb.cell hlt).trans h6,(hb.cell hlt).trans h7,(hb.cell hlt).trans h8,(hb.cell hlt).trans h9⟩
def nY:List Int->Int->Nat->Option Nat
 | [],_,_ => none
 | a :: r,id,k => if a=id then some k else nY r id (k+1)
def Jc (o:Option Nat):Int:=match o with | some k => k | none => -1
def dN (t:ay) (id:Int):Option Nat:=nY (t.ah.map Mem.id) id 0
def qm (t:ay) (id:Int):Option Nat:=nY (t.syms.map Prod.fst) id 0
def xg (o:Option Nat):Value:=.tuple #[.int .i64 (match o with | some k => (k:Int) | none => 0),.bool o.isSome]
theorem zGj {p:Prop} (h:p:=by
 go_wp2
 go_ret;exact ⟨rfl,(g_ _ _).alloc (b_ _) _⟩):p:=h
theorem VW (m:Mem) (vk vi vr:Value) (p:Nat) (id:Int) (w:World) (hp:w.cell? ⟨p,0,none⟩=some (.int .i64 id)) (hlt:p < w.heap.size) :
  Calls Tryz.prog 87 #[.agg #[.int .i64 m.id,.string ⟨m.name.toArray⟩,.int .i64 m.ty,.bool m.akb,.bool m.eG,.int .i64 m.dflt.kind,.bool m.dflt.bool,.int .i64 m.dflt.num,.string ⟨m.dflt.str.toArray⟩,.int .i64 m.dflt.id,vk,vi,vr],.pointer (some ⟨p,0,none⟩)] w (RT w (.bool (m.id == id))):=by
 go_enter Tryz.func87,Tryz.ntmps87
 exact zGj
theorem VX (r:Raw) (p:Nat) (id:Int) (w:World) (hp:w.cell? ⟨p,0,none⟩=some (.int .i64 id)) (hlt:p < w.heap.size) :
  Calls Tryz.prog 85 #[.agg #[.int .i64 r.1,.string ⟨r.2.toArray⟩],.pointer (some ⟨p,0,none⟩)] w (RT w (.bool (r.1 == id))):=by
 go_enter Tryz.func85,Tryz.ntmps85
 exact zGj
theorem vN (a:Int) (r:List Int) (id:Int) (k:Nat):nY (a :: r) id k=if a=id then some k else nY r id (k+1):=rfl
theorem SI:∀ (l:List Int) (id:Int) (k j:Nat),nY l id k=some j->k<=j/\j < k+l.length:=by
 intro l
 induction l with
 | nil => intro id k j h;simp [nY] at h
 | cons a r ih =>
  intro id k j h;rw [nY] at h;split at h
  . injection h with h;subst h;simp
  have:=ih id (k+1) j h;simp only [z_];omega
theorem zG (t:ay) (id:Int) (j:Nat) (h:dN t id=some j):j < t.ah.length:=by
 have:=SI _ _ _ _ h;simpa using this.2
theorem zEd {p:Prop} (h:p:=by
 rintro e w2 ⟨rfl,hb2⟩;have Cm:=hb.trans (hb2.mono hb.size);clear hb2 hb hpw;go_wp2_with fail;go_roundw
 case rel => exact ⟨k+1,by go_num,by omega,jB.out,Cm⟩
 case measure => simp [intOf];omega):p:=h
theorem zEv {p:Prop} (h:p:=by
 rw [G_ (by omega)] at hix;have jB:=hiQ hix;clear hix;go_wp2
 go_ret;exact ⟨bC (by rw [jB.out];rfl),hb⟩):p:=h
theorem zFa {p:Prop} (h:p:=by
 rintro e w2 ⟨rfl,hb2⟩;go_wp2_with fail;go_ret;exact ⟨bC (by rw [jB.out];rfl),hb.trans (hb2.mono hb.size)⟩):p:=h
theorem ZL (ms:List Mem) (va:Value) (p:Nat) (id:Int) (w:World) (hl:ms.length<=140737488351232) (hr:rW w w.heap.size va ms) (hp:w.cell? ⟨p,0,none⟩=some (.int .i64 id)) (hlt:p < w.heap.size) :
  Calls Tryz.prog 86 #[va,.func (.func 87) #[] #[.pointer (some ⟨p,0,none⟩)]] w (RT w (.int .i64 (Jc (nY (ms.map Mem.id) id 0)))):=by
 obtain ⟨A,c,rfl,hc⟩:=hr.form;have HR:=hiQ hr;have Hp:=hiQ hp;clear hr hp;go_enter Tryz.func86,Tryz.ntmps86
 go_wp2
 go_loopw [8] (fun i wr => ∃ k:Nat,i = .int .i64 k/\k<=ms.length/\nY (ms.map Mem.id) id 0=nY ((ms.drop k).map Mem.id) id k/\Below w.heap.size w wr) (fun i _ => ms.length - (intOf i).toNat)
 case atStart => exact ⟨0,rfl,by omega,rfl,g_ _ _⟩
 case round =>
  obtain ⟨k,rfl,hk,hix,hb⟩:=hrel;by_cases hlk:k < ms.length
  .
   obtain ⟨b,o,rfl,hbb,hel⟩:=(HR.out.on hb).elem (by omega);obtain ⟨vk,vi,vr,hcells,hm⟩:=hel k hlk;rw [A_ hlk,Qv,vN] at hix;generalize ms[k]=m at *;obtain ⟨B1,k1,B2,k2,B3,k3,rfl,rfl,rfl,-,-,-⟩:=hm.dflt.forms;obtain ⟨c0,c1,c2,c3,c4,c5,c6,c7,c8,c9,c10,c11,c12⟩:=hcells;have hpw:wr.cell? ⟨p,0,none⟩=some (.int .i64 id):=(hb.cell hlt).trans Hp.out;have hlw:p < wr.heap.size:=u_ hlt hb.size;have hi1:(k:Int) < ms.length:=by omega
   clear hel hm;by_cases he:m.id=id
   .
    rw [o_ he] at hix;have jB:=hiQ hix;have ht:(m.id == id)=true:=by simp [he]
    clear hix he;go_wp2_with fail;refine (VW m _ _ _ p id _ hpw hlw).mono ?_;exact zFa
   rw [gB he] at hix;have jB:=hiQ hix;have ht:(m.id == id)=false:=by simpa using he
   clear hix he;go_wp2_with fail;refine (VW m _ _ _ p id _ hpw hlw).mono ?_;exact zEd
  exact zEv
theorem ZM (ms:List Raw) (va:Value) (p:Nat) (id:Int) (w:World) (hl:ms.length<=140737488351232) (hr:Rd w w.heap.size 2 va ms.length (jO ms)) (hp:w.cell? ⟨p,0,none⟩=some (.int .i64 id)) (hlt:p < w.heap.size) :
  Calls Tryz.prog 84 #[va,.func (.func 85) #[] #[.pointer (some ⟨p,0,none⟩)]] w (RT w (.int .i64 (Jc (nY (ms.map Prod.fst) id 0)))):=by
 obtain ⟨A,c,rfl,hc⟩:=hr.form;have HR:=hiQ hr;have Hp:=hiQ hp;clear hr hp;go_enter Tryz.func84,Tryz.ntmps84
 go_wp2
 go_loopw [8] (fun i wr => ∃ k:Nat,i = .int .i64 k/\k<=ms.length/\nY (ms.map Prod.fst) id 0=nY ((ms.drop k).map Prod.fst) id k/\Below w.heap.size w wr) (fun i _ => ms.length - (intOf i).toNat)
 case atStart => exact ⟨0,rfl,by omega,rfl,g_ _ _⟩
 case round =>
  obtain ⟨k,rfl,hk,hix,hb⟩:=hrel;by_cases hlk:k < ms.length
  .
   obtain ⟨b,o,rfl,hbb,hcell⟩:=(HR.out.below hb).at_ (by omega);obtain ⟨c0,c1⟩:=qy hcell k hlk;rw [A_ hlk,Qv,vN] at hix;generalize ms[k]=m at *;have hpw:wr.cell? ⟨p,0,none⟩=some (.int .i64 id):=(hb.cell hlt).trans Hp.out;have hlw:p < wr.heap.size:=u_ hlt hb.size;have hi1:(k:Int) < ms.length:=by omega
   clear hcell;by_cases he:m.1=id
   .
    rw [o_ he] at hix;have jB:=hiQ hix;have ht:(m.1 == id)=true:=by simp [he]
    clear hix he;go_wp2_with fail;refine (VX m p id _ hpw hlw).mono ?_;exact zFa
   rw [gB he] at hix;have jB:=hiQ hix;have ht:(m.1 == id)=false:=by simpa using he
   clear hix he;go_wp2_with fail;refine (VX m p id _ hpw hlw).mono ?_;exact zEd
  exact zEv
theorem zEb {p:Prop} (h:p:=by
 rintro e w2 ⟨rfl,hb2⟩;have h02:=(h2b _ _).trans (hb2.mono (h2b _ _).size);clear hb2 h2b;go_wp2_with fail;go_ret2;exact ⟨rfl,h02⟩):p:=h
theorem zIl {p:Prop} (h:p:=by
 clear hlt hg;go_enter Tryz.func52,Tryz.ntmps52
 go_wp2_with fail;refine (HG.out _ (w.heap.size+1) _ ((HT.out.on (h2b _ _)).ah) (by go_simp) (by simp)).mono ?_;exact zEb):p:=h
theorem Qn (t:ay) (vs vm:Value) (id:Int) (w:World) (ht:jc w w.heap.size t vs vm) :
  Calls Tryz.prog 52 #[dA t vs vm,.int .i64 id] w (RT w (xg (dN t id))):=by
 obtain ⟨A1,c1,A2,c2,rfl,rfl,-,-⟩:=ht.forms;have h2b:=Oe w;have HT:=hiQ ht;have hl:=ht.lens.2;have hlt:=SI (t.ah.map Mem.id) id 0;rw [Qs] at hlt;have hg:=fun va p W h1 h2 h3 => ZL t.ah va p id W hl h1 h2 h3;obtain ⟨o,ho⟩ : ∃ o,nY (t.ah.map Mem.id) id 0=o:=⟨_,rfl⟩
 have ho2:dN t id=o:=ho;rw [ho2];rw [ho] at hg hlt;clear ht ho ho2;cases o with
 | none =>
  simp only [Jc] at hg;have HG:=hiQ hg;exact zIl
 | some k =>
  have hk:=(hlt k rfl).2;simp only [Jc] at hg;have HG:=hiQ hg;have hmx:max (k:Int) 0=k:=by omega
  exact zIl
theorem zIk {p:Prop} (h:p:=by
 clear hlt hg;go_enter Tryz.func51,Tryz.ntmps51
 go_wp2_with fail;refine (HG.out _ (w.heap.size+1) _ ((HT.out.on (h2b _ _)).syms) (by go_simp) (by simp)).mono ?_;exact zEb):p:=h
theorem ZN (t:ay) (vs vm:Value) (id:Int) (w:World) (ht:jc w w.heap.size t vs vm) :
  Calls Tryz.prog 51 #[dA t vs vm,.int .i64 id] w (RT w (xg (qm t id))):=by
 obtain ⟨A1,c1,A2,c2,rfl,rfl,-,-⟩:=ht.forms;have h2b:=Oe w;have HT:=hiQ ht;have hl:=ht.lens.1;have hlt:=SI (t.syms.map Prod.fst) id 0;rw [Qs] at hlt;have hg:=fun va p W h1 h2 h3 => ZM t.syms va p id W hl h1 h2 h3;obtain ⟨o,ho⟩ : ∃ o,nY (t.syms.map Prod.fst) id 0=o:=⟨_,rfl⟩
 have ho2:qm t id=o:=ho;rw [ho2];rw [ho] at hg hlt;clear ht ho ho2;cases o with
 | none =>
  simp only [Jc] at hg;have HG:=hiQ hg;exact zIk
 | some k =>
  have hk:=(hlt k rfl).2;simp only [Jc] at hg;have HG:=hiQ hg;have hmx:max (k:Int) 0=k:=by omega
  exact zIk
theorem zEa {p:Prop} (h:p:=by
 clear hq;by_cases he:q=id
 .
  rw [o_ he] at hix;have jB:=hiQ hix;have hte:(q == id)=true:=by simp [he]
  clear hix he;go_wp2_with fail;go_ret2;exact ⟨by rw [jB.out];rfl,h01⟩
 rw [gB he] at hix;have jB:=hiQ hix;have hte:(q == id)=false:=by simpa using he
 clear hix he;go_wp2_with fail;go_round
 case rel => exact ⟨k+1,by go_num,by omega,jB.out⟩
 case measure => simp [intOf];omega):p:=h
theorem zGh {p:Prop} (h:p:=by
 rw [G_ (by omega)] at hix;have jB:=hiQ hix;clear hix;go_wp2_with fail;go_ret2;exact ⟨by rw [jB.out];rfl,h01⟩):p:=h
theorem xC (t:ay) (vs vm:Value) (id:Int) (w:World) (ht:jc w w.heap.size t vs vm) :
  Calls Tryz.prog 31 #[dA t vs vm,.int .i64 id] w (RT w (xg (dN t id))):=by
 obtain ⟨A1,c1,A2,c2,rfl,rfl,-,-⟩:=ht.forms;have HT:=hiQ ht;have hl:=ht.lens.2;clear ht;go_enter Tryz.func31,Tryz.ntmps31
 go_wp2_with fail;have HP:=Has.made w 72 #[.int .i64 t.kind,.string ⟨t.name.toArray⟩,.int .i64 t.low,.int .i64 t.high,.int .i64 t.max,.slice A1 t.syms.length c1,.slice A2 t.ah.length c2,.int .i64 t.key,.int .i64 t.elem,.bool t.opn];have h01:=(g_ w.heap.size w).alloc (b_ _) (.cells #[.int .i64 t.kind,.string ⟨t.name.toArray⟩,.int .i64 t.low,.int .i64 t.high,.int .i64 t.max,.slice A1 t.syms.length c1,.slice A2 t.ah.length c2,.int .i64 t.key,.int .i64 t.elem,.bool t.opn] 72);generalize w.alloc (.cells #[.int .i64 t.kind,.string ⟨t.name.toArray⟩,.int .i64 t.low,.int .i64 t.high,.int .i64 t.max,.slice A1 t.syms.length c1,.slice A2 t.ah.length c2,.int .i64 t.key,.int .i64 t.elem,.bool t.opn] 72)=w1 at *;have HT:=hiQ (HT.out.on h01);have cs:=HP.cell 5;have cm:=HP.cell 6;simp only [qI] at cs cm;clear HP;go_loop [6] (fun i => ∃ k:Nat,i = .int .i64 k/\k<=t.ah.length/\dN t id=nY ((t.ah.drop k).map Mem.id) id k) (fun i => t.ah.length - (intOf i).toNat)
 case atStart => exact ⟨0,rfl,by omega,rfl⟩
 case round =>
  obtain ⟨k,rfl,hk,hix⟩:=hrel;by_cases hlk:k < t.ah.length
  .
   rw [A_ hlk,Qv,vN] at hix;obtain ⟨b,o,rfl,hcell⟩ : ∃ b o,A2=some ⟨b,o,none⟩/\w1.cell? ⟨b,o+k*13,none⟩=some (.int .i64 (Mem.id t.ah[k])):=by
    obtain ⟨b,o,h1,_,hel⟩:=HT.out.ah.elem (by omega);obtain ⟨_,_,_,hc13,_⟩:=hel k hlk;exact ⟨b,o,h1,hc13.1⟩
   have hi1:(k:Int) < t.ah.length:=by omega
   generalize hq:Mem.id t.ah[k]=q at *;exact zEa
  exact zGh
theorem Ol (t:ay) (vs vm:Value) (id:Int) (w:World) (ht:jc w w.heap.size t vs vm) :
  Calls Tryz.prog 30 #[dA t vs vm,.int .i64 id] w (RT w (xg (qm t id))):=by
 obtain ⟨A1,c1,A2,c2,rfl,rfl,-,-⟩:=ht.forms;have HT:=hiQ ht;have hl:=ht.lens.1;clear ht;go_enter Tryz.func30,Tryz.ntmps30
 go_wp2_with fail;have HP:=Has.made w 72 #[.int .i64 t.kind,.string ⟨t.name.toArray⟩,.int .i64 t.low,.int .i64 t.high,.int .i64 t.max,.slice A1 t.syms.length c1,.slice A2 t.ah.length c2,.int .i64 t.key,.int .i64 t.elem,.bool t.opn];have h01:=(g_ w.heap.size w).alloc (b_ _) (.cells #[.int .i64 t.kind,.string ⟨t.name.toArray⟩,.int .i64 t.low,.int .i64 t.high,.int .i64 t.max,.slice A1 t.syms.length c1,.slice A2 t.ah.length c2,.int .i64 t.key,.int .i64 t.elem,.bool t.opn] 72);generalize w.alloc (.cells #[.int .i64 t.kind,.string ⟨t.name.toArray⟩,.int .i64 t.low,.int .i64 t.high,.int .i64 t.max,.slice A1 t.syms.length c1,.slice A2 t.ah.length c2,.int .i64 t.key,.int .i64 t.elem,.bool t.opn] 72)=w1 at *;have HT:=hiQ (HT.out.on h01);have cs:=HP.cell 5;have cm:=HP.cell 6;simp only [qI] at cs cm;clear HP;go_loop [6] (fun i => ∃ k:Nat,i = .int .i64 k/\k<=t.syms.length/\qm t id=nY ((t.syms.drop k).map Prod.fst) id k) (fun i => t.syms.length - (intOf i).toNat)
 case atStart => exact ⟨0,rfl,by omega,rfl⟩
 case round =>
  obtain ⟨k,rfl,hk,hix⟩:=hrel;by_cases hlk:k < t.syms.length
  .
   rw [A_ hlk,Qv,vN] at hix;obtain ⟨b,o,rfl,hcell⟩ : ∃ b o,A1=some ⟨b,o,none⟩/\w1.cell? ⟨b,o+k*2,none⟩=some (.int .i64 (Prod.fst t.syms[k])):=by
    obtain ⟨b,o,h1,_,hel⟩:=HT.out.syms.at_ (by omega);exact ⟨b,o,h1,(qy hel k hlk).1⟩
   have hi1:(k:Int) < t.syms.length:=by omega
   generalize hq:Prod.fst t.syms[k]=q at *;exact zEa
  exact zGh
def aA (x:Val):Bool :=
 (decide (x.kind=1) || !x.bool) && ((decide (x.kind=2) || decide (x.num=0)) && ((decide (x.kind=3) || decide (x.str = [])) && ((decide (x.kind=4\/x.kind=6) || decide (x.id=0)) &&
  ((decide (x.kind=8) || decide (x.keys.length=0)) && ((decide (5<=x.kind/\x.kind<=9) || decide (x.items.length=0)) && (decide (x.kind=5\/x.kind=6) || decide (x.rest.length=0)))))))
def zL (F:FuncId) (ts:List ay) (vs:Value) (t:Int) (pl:Bool) (g:Val->Bool) (l:List Val):Prop :=
 ∀ (y:Val) (vk vi vr:Value) (W:World),y ∈ l->ValAt W W.heap.size y vk vi vr->aU W W.heap.size vs ts->Calls Tryz.prog F #[.agg #[vs],.int .i64 t,aS y vk vi vr,.bool pl] W fun e w' => e = .returned (.bool (g y))/\Below W.heap.size W w'
theorem Jq (ts:List ay) (A:Option Addr) (c:Nat) (t:Int) (pl:Bool) (g:Val->Bool) (l:List Val) (va:Value) (w:World) (hf:zL 32 ts (.slice A ts.length c) t pl g l) (hl:l.length<=140737488351232)
  (hv:qF w w.heap.size va l) (ht:aU w w.heap.size (.slice A ts.length c) ts) :
  Calls Tryz.prog 57 #[.agg #[.slice A ts.length c],.int .i64 t,va,.bool pl] w (RT w (.bool (l.all g))):=by
 obtain ⟨Al,cl,rfl,hcl⟩:=hv.form;have HF:=hiQ hf;have h01:=(g_ w.heap.size w).alloc (b_ _) (.cells #[.slice A ts.length c] 30);have HP:=Has.made w 30 #[.slice A ts.length c];clear hf;go_enter Tryz.func57,Tryz.ntmps57
 go_wp2
 generalize w.alloc (.cells #[.slice A ts.length c] 30)=w1 at *;have HV:=hiQ (hv.on h01);have HT:=hiQ (ht.on h01);have hz:=HP.here;have hc0:w1.cell? ⟨w.heap.size,0,none⟩=some (.slice A ts.length c):=HP.cell 0;have HP:=hiQ HP;clear hv ht;have H0:=hiQ hc0;clear hc0;go_loopw [9] (fun i wr => ∃ k:Nat,i = .int .i64 k/\k<=l.length/\l.all g=(l.drop k).all g/\Below w1.heap.size w1 wr) (fun i _ => l.length - (intOf i).toNat)
 case atStart => exact ⟨0,rfl,by omega,rfl,g_ _ _⟩
 case round =>
  obtain ⟨k,rfl,hk,hix,hb⟩:=hrel;by_cases hlk:k < l.length
  .
   obtain ⟨b,o,rfl,hbb,hel⟩:=(HV.out.on hb).elem (by omega);obtain ⟨vk,vi,vr,hcells,hm⟩:=hel k hlk;rw [A_ hlk,V7] at hix;have hmem:l[k] ∈ l:=jl hlk;generalize l[k]=y at *;obtain ⟨B1,k1,B2,k2,B3,k3,rfl,rfl,rfl,-,-,-⟩:=hm.forms;obtain ⟨c0,c1,c2,c3,c4,c5,c6,c7⟩:=hcells;have hq:wr.cell? ⟨w.heap.size,0,none⟩=some (.slice A ts.length c):=(hb.cell (p:=⟨w.heap.size,0,none⟩) hz).trans H0.out;have hi1:(k:Int) < l.length:=by omega
   have HM:=hiQ hm;have HTr:=hiQ (HT.out.on hb);have xE:=hiQ hmem;have jB:=hiQ hix;have h0r:=h01.trans (hb.mono h01.size);clear hel hm hmem hix;go_wp2_with fail;go_still_tail 7,(by kernel_rfl)
   change wpList _ _ _ _ _ wr.drew
   have HD:=hiQ (HM.out.on (w':=wr.drew) (g_ _ _).drew);have HTD:=hiQ (HTr.out.on (w':=wr.drew) (g_ _ _).drew);have hbd:=hb.drew;have GK:=h0r.drew;clear hb h0r c0 c1 c2 c3 c4 c5 c6 c7 HM HTr hq;generalize wr.drew=w2 at *;go_wp2_with fail;refine (HF.out y _ _ _ _ xE.out HD.out HTD.out).mono ?_;rintro e w3 ⟨rfl,hb3⟩;have ams:=hbd.trans (hb3.mono hbd.size);have h03:=GK.trans (hb3.mono GK.size);clear hb3 hbd GK;cases hg:g y with
   | true =>
    rw [hg] at jB;clear hg;go_wp2_with fail;go_roundw
    case rel => exact ⟨k+1,by go_num,by omega,jB.out,ams⟩
    case measure => simp [intOf];omega
   | false =>
    rw [hg] at jB;clear hg;go_wp2_with fail;go_ret;exact ⟨au (by rw [jB.out];rfl),h03⟩
  rw [G_ (by omega)] at hix;have jB:=hiQ hix;clear hix;go_wp2_with fail;go_ret;exact ⟨au (by rw [jB.out];rfl),h01.trans (hb.mono h01.size)⟩
def mM (id:Int):Bool:=decide (1<=id/\id<=1000)
theorem zEx {p:Prop} (h:p:=by
 go_enter Tryz.func55,Tryz.ntmps55
 go_wp2
 go_ret;exact ⟨au (by rw [hf.out];first | (rw [n_ (by omega)];rfl) | rw [n_ (by omega)] | (rw [f_ (by omega)];rfl) | rw [f_ (by omega)]),rfl⟩):p:=h
theorem EX (id:Int) (kn:Bool) (w:World):Calls Tryz.prog 55 #[.int .i64 id,.bool kn] w fun e w' => e = .returned (.bool (!kn && mM id))/\w=w':=by
 have hf:Hid (mM id=decide (1<=id/\id<=1000)):=by show _=_;rfl
 cases kn with
 | true =>
  go_enter Tryz.func55,Tryz.ntmps55
  go_wp2
  go_ret;exact ⟨rfl,rfl⟩
 | false =>
  by_cases h1:1<=id
  .
   by_cases h2:id<=1000
   all_goals
    exact zEx
  exact zEx
def xH (p:Option Int) (n:Int):Bool:=match p with | some q => decide (q < n) | none => true
def xK (t:ay):List Raw->Option Int->Bool
 | [],_ => true
 | r :: rs,p => !(dN t r.1).isSome && (mM r.1 && (xH p r.1 && xK t rs (some r.1)))
def ati:List Val->Bool
 | [] => true
 | [_] => true
 | x :: y :: r => decide (alD x y < 0) && ati (y :: r)
def bM (ts:List ay) (t:Int):Option ay:=if 0<=t then ts[t.toNat]? else none
def KW (l:List Raw) (id:Int):Bool:=match l with | r :: _ => decide (r.1=id) | [] => false
theorem abZ (l:List Raw) (id:Int) (h:0 < l.length):KW l id=decide (l[0].1=id):=by
 cases l with
 | nil => simp at h
 | cons r rs => rfl
def ig (pl:Bool) (x:ay) (v:Val) (K I:Int->Bool) (Z:List Mem->Bool) (H:Int->Bool):Bool :=
 if x.kind=2 then decide (x.low<=v.num/\v.num<=x.high)
 else if x.kind=3 then decide ((v.str.length:Int)<=x.max)
 else if x.kind=4 then (qm x v.id).isSome || (x.opn && (!pl && mM v.id))
 else if x.kind=5 then decide (v.items.length=x.ah.length) && (!(pl && decide (0 < v.rest.length)) && (xK x v.rest none && Z x.ah))
 else if x.kind=6 then
  match dN x v.id with
  | some i => decide (v.items.length=1) && (decide (v.rest.length=0) && (match x.ah[i]? with | some m => H m.ty | none => false))
  | none => x.opn && (!pl && (mM v.id && (decide (v.items.length=0) && (decide (v.rest.length=1) && KW v.rest v.id))))
 else if x.kind=7 then decide ((v.items.length:Int)<=x.max) && I x.elem
 else if x.kind=8 then decide ((v.keys.length:Int)<=x.max) && (decide (v.items.length=v.keys.length) && (K x.key && (ati v.keys && I x.elem)))
 else if x.kind=9 then decide (v.items.length<=1) && I x.elem
 else true
mutual
def cO (ts:List ay) (pl:Bool):Val->Int->Bool
 | .mk k b n s id ks is rs,t => match bM ts t with
  | none => false
  | some x => decide (k=x.kind) && (aA (.mk k b n s id ks is rs) && ig pl x (.mk k b n s id ks is rs) (fun t => rC ts pl ks t) (fun t => rC ts pl is t) (fun ms => qL ts pl is ms) (fun t => zM ts pl is t))
def rC (ts:List ay) (pl:Bool):List Val->Int->Bool
 | [],_ => true
 | y :: r,t => cO ts pl y t && rC ts pl r t
def qL (ts:List ay) (pl:Bool):List Val->List Mem->Bool
 | [],[] => true
 | y :: r,m :: ms => cO ts pl y m.ty && qL ts pl r ms
 | [],_ :: _ => false
 | _ :: _,[] => false
def zM (ts:List ay) (pl:Bool):List Val->Int->Bool
 | [],_ => false
 | y :: _,t => cO ts pl y t
end
theorem uT (ts:List ay) (pl:Bool) (t:Int):∀ l:List Val,rC ts pl l t=l.all (fun y => cO ts pl y t)
 | [] => by rw [rC];rfl
 | y :: r => by rw [rC,V7,uT ts pl t r]
theorem kG (ts:List ay) (pl:Bool) (v:Val) (t:Int):cO ts pl v t=match bM ts t with
  | none => false
  | some x => decide (v.kind=x.kind) && (aA v && ig pl x v (fun t => rC ts pl v.keys t) (fun t => rC ts pl v.items t) (fun ms => qL ts pl v.items ms) (fun t => zM ts pl v.items t)):=by
 cases v;rw [cO];rfl
abbrev jT (ts:List ay) (pl:Bool) (x:ay) (v:Val):Bool:=ig pl x v (fun t => rC ts pl v.keys t) (fun t => rC ts pl v.items t) (fun ms => qL ts pl v.items ms) (fun t => zM ts pl v.items t)
theorem jG (w:World) (o:Obj):(w.alloc o).heap.size=w.heap.size+1:=by simp
def nD (l:List Raw) (k:Nat):Option Int:=if k=0 then none else (l[k-1]?).map Prod.fst
theorem tZ (l:List Raw) (k:Nat) (h:k < l.length):nD l (k+1)=some l[k].1:=by
 simp [nD,h]
theorem aed (t:ay) (l:List Raw) (k:Nat) (h:k < l.length) (p:Option Int) :
  xK t (l.drop k) p=(!(dN t l[k].1).isSome && (mM l[k].1 && (xH p l[k].1 && xK t (l.drop (k+1)) (some l[k].1)))):=by
 rw [A_ h,xK]
theorem agY (ts:List ay) (pl:Bool) (vs:List Val) (ms:List Mem) (k:Nat) (h1:k < vs.length) (h2:k < ms.length) :
  qL ts pl (vs.drop k) (ms.drop k)=(cO ts pl vs[k] ms[k].ty && qL ts pl (vs.drop (k+1)) (ms.drop (k+1))):=by
 rw [A_ h1,A_ h2,qL]
theorem aee (ts:List ay) (pl:Bool) (vs:List Val) (ms:List Mem) (k:Nat) (h1:vs.length<=k) (h2:ms.length<=k):qL ts pl (vs.drop k) (ms.drop k)=true:=by
 rw [G_ h1,G_ h2,qL]

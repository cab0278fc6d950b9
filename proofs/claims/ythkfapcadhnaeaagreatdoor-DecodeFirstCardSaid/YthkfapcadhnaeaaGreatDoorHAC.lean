/- What Compare and its reference compute. Members, types and schemas, and how memory reads as them; what Member and Symbol compute. No condition. -/
import Derived.Test.YthkfapcadhnaeaaGreatDoorHAA
import Derived.Test.YthkfapcadhnaeaaGreatDoorHAB
set_option maxHeartbeats 800000
namespace Go.Proofs.YthkfapcadhnaeaaGreatDoor
open Go.ChangeShapes Go.WideShapes Go.ChangeAt Go.RowKit
def ku (a b:Int):Int:=if a < b then -1 else if b < a then 1 else 0
def BF (a b:List UInt8):Int:=if Op.bytesLess a b then -1 else if Op.bytesLess b a then 1 else 0
def je (x y:Val):Int :=
 if x.kind≠y.kind then 0
 else if x.kind=1 then (if x.bool=y.bool then 0 else if y.bool then -1 else 1)
 else if x.kind=2 then ku (zig x.num) (zig y.num)
 else if x.kind=3 then (if x.str.length≠y.str.length then ku x.str.length y.str.length else BF x.str y.str)
 else if x.kind=4 then ku x.id y.id
 else 0
theorem KY (a:List UInt8):Op.bytesLess a a=false:=by
 induction a with
 | nil => rfl
 | cons b r ih => simp [Op.bytesLess,ih]
theorem OE (a:List UInt8):∀ b,Op.bytesLess a b=false→Op.bytesLess b a=false→a=b:=by
 induction a with
 | nil => intro b h1 h2;cases b with
  | nil => rfl
  | cons c s => simp [Op.bytesLess] at h1
 | cons x r ih =>
  intro b h1 h2
  cases b with
  | nil => simp [Op.bytesLess] at h2
  | cons c s =>
   simp only [Op.bytesLess,Bool.or_eq_false_iff,Bool.and_eq_false_iff,decide_eq_false_iff_not,beq_eq_false_iff_ne] at h1 h2
   have e:x=c:=UInt8.le_antisymm (UInt8.not_lt.1 h2.1) (UInt8.not_lt.1 h1.1)
   subst e
   rw [ih s (by simpa using h1.2) (by simpa using h2.2)]
theorem Na (a:Int) (w:World):Calls Tryz.prog 180 #[.int .u64 a] w fun e w' => e = .returned (.bool false)∧w=w':=by
 go_enter Tryz.func180,Tryz.ntmps180
 go_wp2
 go_ret
 exact ⟨au (by simp),rfl⟩
theorem Nb (a:Int) (w:World):Calls Tryz.prog 181 #[.int .i64 a] w fun e w' => e = .returned (.bool false)∧w=w':=by
 go_enter Tryz.func181,Tryz.ntmps181
 go_wp2
 go_ret
 exact ⟨au (by simp),rfl⟩
theorem Nc (a:List UInt8) (w:World):Calls Tryz.prog 182 #[.string ⟨a.toArray⟩] w fun e w' => e = .returned (.bool false)∧w=w':=by
 go_enter Tryz.func182,Tryz.ntmps182
 go_wp2
 go_ret
 exact ⟨au (by simp),rfl⟩
set_option maxRecDepth 100000 in
theorem adC (a b:Int) (w:World):Calls Tryz.prog 163 #[.int .u64 a,.int .u64 b] w fun e w' => e = .returned (.int .i64 (ku a b))∧w=w':=by
 by_cases h1:a < b
 ·
  have hc:Hid (ku a b = -1):=by show _=_;rw [ku,if_pos h1]
  go_enter Tryz.func163,Tryz.ntmps163
  go_wp2_with (go_at_call 180;refine (Na _ _).mono ?_;rintro e w' ⟨rfl,rfl⟩)
  go_ret
  exact ⟨aV hc.out.symm,rfl⟩
 by_cases h2:b < a
 ·
  have hc:Hid (ku a b=1):=by show _=_;rw [ku,if_neg h1,if_pos h2]
  go_enter Tryz.func163,Tryz.ntmps163
  go_wp2_with (go_at_call 180;refine (Na _ _).mono ?_;rintro e w' ⟨rfl,rfl⟩)
  go_ret
  exact ⟨aV hc.out.symm,rfl⟩
 have hc:Hid (ku a b=0):=by show _=_;rw [ku,if_neg h1,if_neg h2]
 go_enter Tryz.func163,Tryz.ntmps163
 go_wp2_with (go_at_call 180;refine (Na _ _).mono ?_;rintro e w' ⟨rfl,rfl⟩)
 go_ret
 exact ⟨aV hc.out.symm,rfl⟩
set_option maxRecDepth 100000 in
theorem VH (a b:Int) (w:World):Calls Tryz.prog 166 #[.int .i64 a,.int .i64 b] w fun e w' => e = .returned (.int .i64 (ku a b))∧w=w':=by
 by_cases h1:a < b
 ·
  have hc:Hid (ku a b = -1):=by show _=_;rw [ku,if_pos h1]
  go_enter Tryz.func166,Tryz.ntmps166
  go_wp2_with (go_at_call 181;refine (Nb _ _).mono ?_;rintro e w' ⟨rfl,rfl⟩)
  go_ret
  exact ⟨aV hc.out.symm,rfl⟩
 by_cases h2:b < a
 ·
  have hc:Hid (ku a b=1):=by show _=_;rw [ku,if_neg h1,if_pos h2]
  go_enter Tryz.func166,Tryz.ntmps166
  go_wp2_with (go_at_call 181;refine (Nb _ _).mono ?_;rintro e w' ⟨rfl,rfl⟩)
  go_ret
  exact ⟨aV hc.out.symm,rfl⟩
 have hc:Hid (ku a b=0):=by show _=_;rw [ku,if_neg h1,if_neg h2]
 go_enter Tryz.func166,Tryz.ntmps166
 go_wp2_with (go_at_call 181;refine (Nb _ _).mono ?_;rintro e w' ⟨rfl,rfl⟩)
 go_ret
 exact ⟨aV hc.out.symm,rfl⟩
set_option maxRecDepth 100000 in
theorem adD (a b:List UInt8) (w:World):Calls Tryz.prog 167 #[.string ⟨a.toArray⟩,.string ⟨b.toArray⟩] w fun e w' => e = .returned (.int .i64 (BF a b))∧w=w':=by
 have hc:Hid (BF a b=if Op.bytesLess a b then -1 else if Op.bytesLess b a then 1 else 0):=by show _=_;rfl
 have h3:=KY a
 have h4:=OE a b
 cases h1:Op.bytesLess a b with
 | true =>
  rw [h1] at hc
  clear h3 h4
  go_enter Tryz.func167,Tryz.ntmps167
  go_wp2_with (go_at_call 182;refine (Nc _ _).mono ?_;rintro e w' ⟨rfl,rfl⟩)
  go_ret
  exact ⟨aV hc.out.symm,rfl⟩
 | false =>
  cases h2:Op.bytesLess b a with
  | true =>
   rw [h1,h2] at hc
   have h5:(a == b)=false:=beq_eq_false_iff_ne.2 (fun e => by subst e;rw [h3] at h2;cases h2)
   clear h3 h4
   go_enter Tryz.func167,Tryz.ntmps167
   go_wp2_with (go_at_call 182;refine (Nc _ _).mono ?_;rintro e w' ⟨rfl,rfl⟩)
   go_ret
   exact ⟨aV hc.out.symm,rfl⟩
  | false =>
   rw [h1,h2] at hc
   obtain rfl:=h4 h1 h2
   clear h4 h2 h3
   go_enter Tryz.func167,Tryz.ntmps167
   go_wp2_with (go_at_call 182;refine (Nc _ _).mono ?_;rintro e w' ⟨rfl,rfl⟩)
   go_ret
   exact ⟨aV hc.out.symm,rfl⟩
def Jq (a b:Int):Int:=if a=0 then b else a
set_option maxRecDepth 100000 in
theorem agL (a b:Int) (v:Value) (w:World) (hr:Rd w w.heap.size 1 v 2 [.int .i64 a,.int .i64 b]):Calls Tryz.prog 165 #[v] w fun e w' => e = .returned (.int .i64 (Jq a b))∧w=w':=by
 obtain ⟨A,c,rfl,hc⟩:=hr.form
 obtain ⟨bb,o,rfl,hbb,hcell⟩:=hr.at_ (by omega)
 have c0:w.cell? ⟨bb,o,none⟩=some (.int .i64 a):=hcell 0 _ rfl
 have c1:w.cell? ⟨bb,o+1,none⟩=some (.int .i64 b):=hcell 1 _ rfl
 clear hcell
 go_enter Tryz.func165,Tryz.ntmps165
 go_wp2
 go_loop [8] (fun i => ∃ k:Nat,i = .int .i64 k∧k≤2∧(1≤k→a=0)∧(2≤k→b=0)) (fun i => 2 - (intOf i).toNat)
 case atStart => exact ⟨0,rfl,by omega,by omega,by omega⟩
 case round =>
  obtain ⟨k,rfl,hk,ha,hb⟩:=hrel
  by_cases h2:k=2
  ·
   have ha:=ha (by omega)
   have hb:=hb (by omega)
   have h3:(2:Int)≤k:=by omega
   have hx:Hid (Jq a b=0):=by show _=_;rw [Jq,if_pos ha,hb]
   clear ha hb h2
   go_wp2
   go_ret
   exact ⟨aV hx.out.symm,rfl⟩
  by_cases h1:k=1
  ·
   have ha:=ha (by omega)
   have hx:Hid (Jq a b=b):=by show _=_;rw [Jq,if_pos ha]
   have HA:=Lib.hid ha
   subst h1
   clear ha hb h2
   by_cases hb0:b=0
   ·
    have Hb:=Lib.hid hb0
    have ht:(b != 0)=false:=by simp [hb0]
    clear hb0
    go_wp2
    go_round
    case rel => exact ⟨2,by go_num,by omega,fun _ => HA.out,fun _ => Hb.out⟩
    case measure => simp [intOf]
   have ht:(b != 0)=true:=by simpa using hb0
   clear hb0
   go_wp2
   go_ret
   exact ⟨aV (by simp [Jq]),rfl⟩
  obtain rfl:k=0:=by omega
  clear ha hb h1 h2
  by_cases ha0:a=0
  ·
   have Ha:=Lib.hid ha0
   have ht:(a != 0)=false:=by simp [ha0]
   clear ha0
   go_wp2
   go_round
   case rel => exact ⟨1,by go_num,by omega,fun _ => Ha.out,by omega⟩
   case measure => simp [intOf]
  have ht:(a != 0)=true:=by simpa using ha0
  have hx:Hid (Jq a b=a):=by show _=_;rw [Jq,if_neg ha0]
  clear ha0
  go_wp2
  go_ret
  exact ⟨aV hx.out.symm,rfl⟩
def Qe (l e:Bool):Int:=if e then 0 else if l then -1 else 1
set_option maxRecDepth 100000 in
theorem AZ (l e:Bool) (w:World):Calls Tryz.prog 117 #[.bool l,.bool e] w fun r w' => r = .returned (.int .i64 (Qe l e))∧w=w':=by
 cases e <;> cases l
 all_goals
  go_enter Tryz.func117,Tryz.ntmps117
  go_wp2
  go_ret
  exact ⟨by first | rfl | simp,rfl⟩
theorem ahD (W:World) (b:Nat) (x y:Value) (h0:W.cell? ⟨b,0,none⟩=some x) (h1:W.cell? ⟨b,1,none⟩=some y) (hb:b < W.heap.size) :
  Rd W W.heap.size 1 (.slice (some ⟨b,0,none⟩) 2 2) 2 [x,y] :=
 ⟨rfl,_,_,rfl,Nat.le_refl _,.inr ⟨b,0,rfl,hb,fun j u hu => by
  rw [Nat.zero_add]
  match j,hu with
  | 0,hu => rw [h0];exact hu
  | 1,hu => rw [h1];exact hu⟩⟩
theorem agM (a b:List UInt8):Jq (ku a.length b.length) (BF a b)=if a.length≠b.length then ku a.length b.length else BF a b:=by
 unfold Jq ku
 by_cases h:a.length=b.length
 · simp [h]
 rw [if_pos h]
 by_cases h1:(a.length:Int) < b.length
 · simp [h1]
 have h2:(b.length:Int) < a.length:=by omega
 simp [h1,h2]
set_option maxRecDepth 100000 in
theorem UZ (x y:Val) (vk vi vr uz rX uD:Value) (w:World) (hx:ValAt w w.heap.size x vk vi vr) (hy:ValAt w w.heap.size y uz rX uD) :
  Calls Tryz.prog 133 #[iC x vk vi vr,iC y uz rX uD] w fun e w' => e = .returned (.int .i64 (je x y))∧Below w.heap.size w w':=by
 have hc:Hid (je x y=if x.kind≠y.kind then 0 else if x.kind=1 then (if x.bool=y.bool then 0 else if y.bool then -1 else 1) else if x.kind=2 then ku (zig x.num) (zig y.num) else if x.kind=3 then (if x.str.length≠y.str.length then ku x.str.length y.str.length else BF x.str y.str) else if x.kind=4 then ku x.id y.id else 0):=by show _=_;rfl
 obtain ⟨A1,n1,A2,n2,A3,n3,rfl,rfl,rfl,-,-,-⟩:=hx.forms
 obtain ⟨B1,k1,B2,k2,B3,k3,rfl,rfl,rfl,-,-,-⟩:=hy.forms
 have hx1:=hx.ints
 have hy1:=hy.ints
 have hzx:=Xn x.num hx1.2.1
 have hzy:=Xn y.num hy1.2.1
 have hxs:=hx.yP
 have hys:=hy.yP
 clear hx hy hx1 hy1
 have lM:=QS w
 by_cases hk:x.kind=y.kind
 ·
  have hkk:(x.kind != y.kind)=false:=by simp [hk]
  have HZX:=Lib.hid hzx
  have HZY:=Lib.hid hzy
  by_cases k1:x.kind=1
  ·
   have t1:(x.kind == 1)=true:=by simp [k1]
   by_cases hb:x.bool=y.bool
   ·
    have hr:Hid (je x y=0):=by show _=_;rw [hc.out,if_neg (by simp [hk]),if_pos k1,if_pos hb]
    have tb:(x.bool == y.bool)=true:=by simp [hb]
    clear hk k1 hb hzx hzy
    go_enter Tryz.func133,Tryz.ntmps133
    go_wp2
    go_ret
    exact ⟨aV hr.out.symm,lM _ _⟩
   have tb:(x.bool == y.bool)=false:=by simpa using hb
   cases hyb:y.bool with
   | true =>
    have hr:Hid (je x y = -1):=by show _=_;rw [hc.out,if_neg (by simp [hk]),if_pos k1,if_neg hb,hyb];rfl
    rw [hyb] at tb
    clear hk k1 hb hzx hzy
    simp only [iC,hyb]
    go_enter Tryz.func133,Tryz.ntmps133
    go_wp2
    go_ret
    exact ⟨aV hr.out.symm,lM _ _⟩
   | false =>
    have hr:Hid (je x y=1):=by show _=_;rw [hc.out,if_neg (by simp [hk]),if_pos k1,if_neg hb,hyb];rfl
    rw [hyb] at tb
    clear hk k1 hb hzx hzy
    simp only [iC,hyb]
    go_enter Tryz.func133,Tryz.ntmps133
    go_wp2
    go_ret
    exact ⟨aV hr.out.symm,lM _ _⟩
  have t1:(x.kind == 1)=false:=beq_eq_false_iff_ne.2 k1
  by_cases k2:x.kind=2
  ·
   have t2:(x.kind == 2)=true:=by simp [k2]
   have hr:Hid (je x y=ku (zig x.num) (zig y.num)):=by show _=_;rw [hc.out,if_neg (by simp [hk]),if_neg k1,if_pos k2]
   clear hk k1 k2 hzx hzy
   go_enter Tryz.func133,Tryz.ntmps133
   go_wp2
   go_region_held3 (fun w' => w'.cell? ⟨w.heap.size,2,none⟩=some (.int .i64 x.num)∧w'.cell? ⟨w.heap.size+1,2,none⟩=some (.int .i64 y.num)) (go_keep)
    (first
     | (go_at_call 164;(with_reducible refine (HZX.out _).mono ?_);rintro e w2 ⟨rfl,rfl⟩)
     | (go_at_call 164;(with_reducible refine (HZY.out _).mono ?_);rintro e w2 ⟨rfl,rfl⟩)
     | (go_at_call 163;(with_reducible refine (adC _ _ _).mono ?_);rintro e w2 ⟨rfl,rfl⟩))
   go_wp2
   go_ret
   exact ⟨aV hr.out.symm,(lM _ _).drew⟩
  have t2:(x.kind == 2)=false:=beq_eq_false_iff_ne.2 k2
  by_cases k3:x.kind=3
  ·
   have t3:(x.kind == 3)=true:=by simp [k3]
   have hr:Hid (je x y=Jq (ku x.str.length y.str.length) (BF x.str y.str)):=by show _=_;rw [hc.out,if_neg (by simp [hk]),if_neg k1,if_neg k2,if_pos k3,agM]
   clear hk k1 k2 k3 hzx hzy
   go_enter Tryz.func133,Tryz.ntmps133
   go_wp2
   go_region_held3 (fun w' => w'.cell? ⟨w.heap.size,3,none⟩=some (.string ⟨x.str.toArray⟩)∧w'.cell? ⟨w.heap.size+1,3,none⟩=some (.string ⟨y.str.toArray⟩)) (go_keep)
    (first
     | (go_at_call 166;(with_reducible refine (VH _ _ _).mono ?_);rintro e w2 ⟨rfl,rfl⟩)
     | (go_at_call 167;(with_reducible refine (adD _ _ _).mono ?_);rintro e w2 ⟨rfl,rfl⟩)
     | (go_at_call 165;refine (agL (ku x.str.length y.str.length) (BF x.str y.str) _ _ (ahD _ _ _ _ (by go_simp) (by go_simp) (by go_simp))).mono ?_;rintro e w2 ⟨rfl,rfl⟩))
   go_wp2
   go_ret
   exact ⟨aV hr.out.symm,((lM _ _).alloc (lM _ _).size _).drew⟩
  have t3:(x.kind == 3)=false:=beq_eq_false_iff_ne.2 k3
  by_cases k4:x.kind=4
  ·
   have t4:(x.kind == 4)=true:=by simp [k4]
   have hr:Hid (je x y=ku x.id y.id):=by show _=_;rw [hc.out,if_neg (by simp [hk]),if_neg k1,if_neg k2,if_neg k3,if_pos k4]
   clear hk k1 k2 k3 k4 hzx hzy
   go_enter Tryz.func133,Tryz.ntmps133
   go_wp2_with (go_at_call 166;refine (VH _ _ _).mono ?_;rintro e w' ⟨rfl,rfl⟩)
   go_ret
   exact ⟨aV hr.out.symm,lM _ _⟩
  have t4:(x.kind == 4)=false:=beq_eq_false_iff_ne.2 k4
  have hr:Hid (je x y=0):=by show _=_;rw [hc.out,if_neg (by simp [hk]),if_neg k1,if_neg k2,if_neg k3,if_neg k4]
  clear hk k1 k2 k3 k4 hzx hzy
  go_enter Tryz.func133,Tryz.ntmps133
  go_wp2
  go_ret
  exact ⟨aV hr.out.symm,lM _ _⟩
 have hr:Hid (je x y=0):=by show _=_;rw [hc.out,if_pos hk]
 have hkk:(x.kind != y.kind)=true:=by simpa using hk
 clear hk hzx hzy
 go_enter Tryz.func133,Tryz.ntmps133
 go_wp2
 go_ret
 exact ⟨aV hr.out.symm,lM _ _⟩
theorem Qg (a b:Int) (l e:Bool) (hl:l=true↔a < b) (he:e=true↔a=b):Qe l e=ku a b:=by
 unfold Qe ku
 by_cases h:a=b
 · rw [if_pos (he.2 h),if_neg (by omega),if_neg (by omega)]
 rw [if_neg (fun h2 => h (he.1 h2))]
 by_cases h2:a < b
 · rw [if_pos (hl.2 h2),if_pos h2]
 rw [if_neg (fun h3 => h2 (hl.1 h3)),if_neg h2,if_pos (by omega)]
theorem adE (a b:List UInt8) (l e:Bool) (hl:l=true↔Op.bytesLess a b=true) (he:e=true↔a=b):Qe l e=BF a b:=by
 unfold Qe BF
 by_cases h:a=b
 ·
  subst h
  have:=KY a
  rw [if_pos (he.2 rfl),this]
  simp
 rw [if_neg (fun h2 => h (he.1 h2))]
 cases h2:Op.bytesLess a b with
 | true => rw [if_pos (hl.2 h2)];simp
 | false =>
  rw [if_neg (fun h3 => by rw [hl.1 h3] at h2;cases h2)]
  have:Op.bytesLess b a=true:=by
   cases h3:Op.bytesLess b a with
   | true => rfl
   | false => exact absurd (OE a b h2 h3) h
  simp [this]
theorem agN (a b:Int):zig a=zig b↔a=b:=⟨fun h => by rw [← QW a,h,QW],fun h => by rw [h]⟩
set_option maxRecDepth 100000 in
theorem VI (x y:Val) (vk vi vr uz rX uD:Value) (w:World) (hx:ValAt w w.heap.size x vk vi vr) (hy:ValAt w w.heap.size y uz rX uD) :
  Calls Tryz.prog 80 #[iC x vk vi vr,iC y uz rX uD] w fun e w' => e = .returned (.int .i64 (je x y))∧Below w.heap.size w w':=by
 have hc:Hid (je x y=if x.kind≠y.kind then 0 else if x.kind=1 then (if x.bool=y.bool then 0 else if y.bool then -1 else 1) else if x.kind=2 then ku (zig x.num) (zig y.num) else if x.kind=3 then (if x.str.length≠y.str.length then ku x.str.length y.str.length else BF x.str y.str) else if x.kind=4 then ku x.id y.id else 0):=by show _=_;rfl
 obtain ⟨A1,n1,A2,n2,A3,n3,rfl,rfl,rfl,-,-,-⟩:=hx.forms
 obtain ⟨B1,k1,B2,k2,B3,k3,rfl,rfl,rfl,-,-,-⟩:=hy.forms
 have hx1:=hx.ints
 have hy1:=hy.ints
 have hzx:=VG x.num hx1.2.1
 have hzy:=VG y.num hy1.2.1
 have hxs:=hx.yP
 have hys:=hy.yP
 clear hx hy hx1 hy1
 have lM:=QS w
 by_cases hk:x.kind=y.kind
 ·
  have hkk:(x.kind != y.kind)=false:=by simp [hk]
  have HZX:=Lib.hid hzx
  have HZY:=Lib.hid hzy
  by_cases k1:x.kind=1
  ·
   have t1:(x.kind == 1)=true:=by simp [k1]
   have hr:Hid (je x y=if x.bool=y.bool then 0 else if y.bool then -1 else 1):=by show _=_;rw [hc.out,if_neg (by simp [hk]),if_pos k1]
   clear hk k1 hzx hzy
   go_enter Tryz.func80,Tryz.ntmps80
   go_wp2_with (go_at_call 117;refine (AZ _ _ _).mono ?_;rintro e w' ⟨rfl,rfl⟩)
   go_ret
   exact ⟨aV (by rw [hr.out];unfold Qe;cases x.bool <;> cases y.bool <;> simp),lM _ _⟩
  have t1:(x.kind == 1)=false:=beq_eq_false_iff_ne.2 k1
  by_cases k2:x.kind=2
  ·
   have t2:(x.kind == 2)=true:=by simp [k2]
   have hr:Hid (je x y=ku (zig x.num) (zig y.num)):=by show _=_;rw [hc.out,if_neg (by simp [hk]),if_neg k1,if_pos k2]
   clear hk k1 k2 hzx hzy
   go_enter Tryz.func80,Tryz.ntmps80
   go_wp2
   go_region_held3 (fun w' => w'.cell? ⟨w.heap.size,2,none⟩=some (.int .i64 x.num)∧w'.cell? ⟨w.heap.size+1,2,none⟩=some (.int .i64 y.num)) (go_keep)
    (first
     | (go_at_call 61;(with_reducible refine (HZX.out _).mono ?_);rintro e w2 ⟨rfl,rfl⟩)
     | (go_at_call 61;(with_reducible refine (HZY.out _).mono ?_);rintro e w2 ⟨rfl,rfl⟩)
     | (go_at_call 117;(with_reducible refine (AZ _ _ _).mono ?_);rintro e w2 ⟨rfl,rfl⟩))
   go_wp2
   go_ret
   exact ⟨aV (by rw [hr.out];exact Qg _ _ _ _ (by simp) (by simp [agN])),(lM _ _).drew⟩
  have t2:(x.kind == 2)=false:=beq_eq_false_iff_ne.2 k2
  by_cases k3:x.kind=3
  ·
   have t3:(x.kind == 3)=true:=by simp [k3]
   by_cases hll:x.str.length=y.str.length
   ·
    have hr:Hid (je x y=BF x.str y.str):=by show _=_;rw [hc.out,if_neg (by simp [hk]),if_neg k1,if_neg k2,if_pos k3,if_neg (by simp [hll])]
    have tl:((x.str.length:Int) != (y.str.length:Int))=false:=by simp [hll]
    clear hk k1 k2 k3 hzx hzy hll
    go_enter Tryz.func80,Tryz.ntmps80
    go_wp2_with (go_at_call 117;refine (AZ _ _ _).mono ?_;rintro e w' ⟨rfl,rfl⟩)
    go_ret
    exact ⟨aV (by rw [hr.out];exact adE _ _ _ _ (by simp) (by simp)),lM _ _⟩
   have hr:Hid (je x y=ku x.str.length y.str.length):=by show _=_;rw [hc.out,if_neg (by simp [hk]),if_neg k1,if_neg k2,if_pos k3,if_pos hll]
   have tl:((x.str.length:Int) != (y.str.length:Int))=true:=by rw [bne_iff_ne];omega
   have Hll:=Lib.hid hll
   clear hk k1 k2 k3 hzx hzy hll
   go_enter Tryz.func80,Tryz.ntmps80
   go_wp2_with (go_at_call 117;refine (AZ _ _ _).mono ?_;rintro e w' ⟨rfl,rfl⟩)
   go_ret
   exact ⟨aV (by rw [hr.out];exact Qg _ _ _ _ (by simp) (by have:=Hll.out;simp;omega)),lM _ _⟩
  have t3:(x.kind == 3)=false:=beq_eq_false_iff_ne.2 k3
  by_cases k4:x.kind=4
  ·
   have t4:(x.kind == 4)=true:=by simp [k4]
   have hr:Hid (je x y=ku x.id y.id):=by show _=_;rw [hc.out,if_neg (by simp [hk]),if_neg k1,if_neg k2,if_neg k3,if_pos k4]
   clear hk k1 k2 k3 k4 hzx hzy
   go_enter Tryz.func80,Tryz.ntmps80
   go_wp2_with (go_at_call 117;refine (AZ _ _ _).mono ?_;rintro e w' ⟨rfl,rfl⟩)
   go_ret
   exact ⟨aV (by rw [hr.out];exact Qg _ _ _ _ (by simp) (by simp)),lM _ _⟩
  have t4:(x.kind == 4)=false:=beq_eq_false_iff_ne.2 k4
  have hr:Hid (je x y=0):=by show _=_;rw [hc.out,if_neg (by simp [hk]),if_neg k1,if_neg k2,if_neg k3,if_neg k4]
  clear hk k1 k2 k3 k4 hzx hzy
  go_enter Tryz.func80,Tryz.ntmps80
  go_wp2
  go_ret
  exact ⟨aV hr.out.symm,lM _ _⟩
 have hr:Hid (je x y=0):=by show _=_;rw [hc.out,if_pos hk]
 have hkk:(x.kind != y.kind)=true:=by simpa using hk
 clear hk hzx hzy
 go_enter Tryz.func80,Tryz.ntmps80
 go_wp2
 go_ret
 exact ⟨aV hr.out.symm,lM _ _⟩
end Go.Proofs.YthkfapcadhnaeaaGreatDoor
namespace Go.Proofs.YthkfapcadhnaeaaGreatDoor
open Go.ChangeShapes Go.WideShapes Go.ChangeAt Go.RowKit
structure Mem where
 id:Int
 name:List UInt8
 ty:Int
 jR:Bool
 iR:Bool
 dflt:Val
structure aC where
 kind:Int
 name:List UInt8
 low:Int
 high:Int
 max:Int
 syms:List Raw
 aj:List Mem
 key:Int
 elem:Int
 opn:Bool
structure EH (w:World) (B:Nat) (m:Mem) (vk vi vr:Value):Prop where
 ints:I64 m.id∧I64 m.ty
 EI:m.name.length≤140737488351232
 dflt:ValAt w B m.dflt vk vi vr
def VJ (m:Mem) (vk vi vr:Value):List Value:=[.int .i64 m.id,.string ⟨m.name.toArray⟩,.int .i64 m.ty,.bool m.jR,.bool m.iR] ++ iQ m.dflt vk vi vr
def Kq (w:World) (B:Nat) (m:Mem) (cs:List Value):Prop := ∃ vk vi vr,cs=VJ m vk vi vr∧EH w B m vk vi vr
def lN (w:World) (B:Nat) (v:Value) (ms:List Mem):Prop := ∃ c:Nat→List Value,Row w B 13 v ms.length c∧∀ (i:Nat) (h:i < ms.length),Kq w B ms[i] (c i)
theorem ValAt.keep {w w':World} {B B':Nat} {x:Val} {vk vi vr:Value} (h:ValAt w B x vk vi vr) (hk:∀ p:Addr,p.block < B→w'.cell? p=w.cell? p) (hB:B≤B'):ValAt w' B' x vk vi vr :=
 ⟨h.ints,h.yP,h.I7,h.PS,h.keys.keep hk hB,h.items.keep hk hB,(h.rest.keep hk).mono hB⟩
theorem EH.keep {w w':World} {B B':Nat} {x:Mem} {vk vi vr:Value} (h:EH w B x vk vi vr) (hk:∀ p:Addr,p.block < B→w'.cell? p=w.cell? p) (hB:B≤B'):EH w' B' x vk vi vr :=
 ⟨h.ints,h.EI,h.dflt.keep hk hB⟩
theorem EH.on {w w':World} {x:Mem} {vk vi vr:Value} (h:EH w w.heap.size x vk vi vr) (hb:Below w.heap.size w w'):EH w' w'.heap.size x vk vi vr:=h.keep (fun _ hp => hb.cell hp) hb.size
theorem Kq.keep {w w':World} {B B':Nat} {x:Mem} {cs:List Value} (h:Kq w B x cs) (hk:∀ p:Addr,p.block < B→w'.cell? p=w.cell? p) (hB:B≤B'):Kq w' B' x cs:=by
 obtain ⟨a,b,c,h1,h2⟩:=h
 exact ⟨a,b,c,h1,h2.keep hk hB⟩
theorem lN.keep {w w':World} {B B':Nat} {v:Value} {xs:List Mem} (h:lN w B v xs) (hk:∀ p:Addr,p.block < B→w'.cell? p=w.cell? p) (hB:B≤B'):lN w' B' v xs:=by
 obtain ⟨c,h1,h2⟩:=h
 exact ⟨c,(h1.keep hk).mono hB,fun i hi => (h2 i hi).keep hk hB⟩
theorem lN.on {w w':World} {v:Value} {xs:List Mem} (h:lN w w.heap.size v xs) (hb:Below w.heap.size w w'):lN w' w'.heap.size v xs:=h.keep (fun _ hp => hb.cell hp) hb.size
theorem lN.form {w:World} {B:Nat} {v:Value} {xs:List Mem} (h:lN w B v xs):∃ A c,v = .slice A xs.length c∧xs.length≤c:=by
 obtain ⟨_,⟨A,c,h1,h2,_⟩,_⟩:=h
 exact ⟨A,c,h1,h2⟩
def JY (w:World) (b o:Nat) (m:Mem) (vk vi vr:Value):Prop :=
 w.cell? ⟨b,o,none⟩=some (.int .i64 m.id)∧w.cell? ⟨b,o+1,none⟩=some (.string ⟨m.name.toArray⟩)∧w.cell? ⟨b,o+2,none⟩=some (.int .i64 m.ty)∧w.cell? ⟨b,o+3,none⟩=some (.bool m.jR)∧w.cell? ⟨b,o+4,none⟩=some (.bool m.iR) ∧
 w.cell? ⟨b,o+5,none⟩=some (.int .i64 m.dflt.kind)∧w.cell? ⟨b,o+6,none⟩=some (.bool m.dflt.bool)∧w.cell? ⟨b,o+7,none⟩=some (.int .i64 m.dflt.num)∧w.cell? ⟨b,o+8,none⟩=some (.string ⟨m.dflt.str.toArray⟩)∧w.cell? ⟨b,o+9,none⟩=some (.int .i64 m.dflt.id) ∧
 w.cell? ⟨b,o+10,none⟩=some vk∧w.cell? ⟨b,o+11,none⟩=some vi∧w.cell? ⟨b,o+12,none⟩=some vr
theorem lN.elem {w:World} {B n cap:Nat} {A:Option Addr} {xs:List Mem} (h:lN w B (.slice A n cap) xs) (hpos:0 < xs.length):∃ b o,A=some ⟨b,o,none⟩∧b < B∧∀ k (hk:k < xs.length),∃ vk vi vr,JY w b (o+k*13) xs[k] vk vi vr∧EH w B xs[k] vk vi vr:=by
 obtain ⟨c,⟨A',c',hv,hc,h2⟩,h3⟩:=h
 injection hv with h4 h5 h6
 subst h4
 rcases h2 with h2 | ⟨b,o,hA,hb,hcell⟩
 · omega
 refine ⟨b,o,hA,hb,fun k hk => ?_⟩
 obtain ⟨vk,vi,vr,hcs,hm⟩:=h3 k hk
 have hc:=hcell k hk
 rw [hcs] at hc
 exact ⟨vk,vi,vr,⟨hc 0 _ rfl,hc 1 _ rfl,hc 2 _ rfl,hc 3 _ rfl,hc 4 _ rfl,hc 5 _ rfl,hc 6 _ rfl,hc 7 _ rfl,hc 8 _ rfl,hc 9 _ rfl,hc 10 _ rfl,hc 11 _ rfl,hc 12 _ rfl⟩,hm⟩
structure eX (w:World) (B:Nat) (t:aC) (vs vm:Value):Prop where
 ints:I64 t.kind∧I64 t.low∧I64 t.high∧I64 t.max∧I64 t.key∧I64 t.elem
 EI:t.name.length≤140737488351232
 lens:t.syms.length≤140737488351232∧t.aj.length≤140737488351232
 abq:∀ r ∈ t.syms,pV r
 syms:Rd w B 2 vs t.syms.length (iV t.syms)
 aj:lN w B vm t.aj
theorem eX.keep {w w':World} {B B':Nat} {x:aC} {vs vm:Value} (h:eX w B x vs vm) (hk:∀ p:Addr,p.block < B→w'.cell? p=w.cell? p) (hB:B≤B'):eX w' B' x vs vm :=
 ⟨h.ints,h.EI,h.lens,h.abq,(h.syms.keep hk).mono hB,h.aj.keep hk hB⟩
theorem eX.on {w w':World} {x:aC} {vs vm:Value} (h:eX w w.heap.size x vs vm) (hb:Below w.heap.size w w'):eX w' w'.heap.size x vs vm:=h.keep (fun _ hp => hb.cell hp) hb.size
theorem eX.forms {w:World} {B:Nat} {x:aC} {vs vm:Value} (h:eX w B x vs vm):∃ A1 c1 A2 c2,vs = .slice A1 x.syms.length c1∧vm = .slice A2 x.aj.length c2∧x.syms.length≤c1∧x.aj.length≤c2:=by
 obtain ⟨A1,c1,e1,h1⟩:=h.syms.form
 obtain ⟨A2,c2,e2,h2⟩:=h.aj.form
 exact ⟨A1,c1,A2,c2,e1,e2,h1,h2⟩
def Nh (t:aC) (vs vm:Value):List Value:=[.int .i64 t.kind,.string ⟨t.name.toArray⟩,.int .i64 t.low,.int .i64 t.high,.int .i64 t.max,vs,vm,.int .i64 t.key,.int .i64 t.elem,.bool t.opn]
abbrev aS (t:aC) (vs vm:Value):Value:=.agg #[.int .i64 t.kind,.string ⟨t.name.toArray⟩,.int .i64 t.low,.int .i64 t.high,.int .i64 t.max,vs,vm,.int .i64 t.key,.int .i64 t.elem,.bool t.opn]
def bG (w:World) (B:Nat) (v:Value) (ts:List aC):Prop := ∃ c:Nat→List Value,Row w B 10 v ts.length c∧∀ (i:Nat) (h:i < ts.length),∃ vs vm,c i=Nh ts[i] vs vm∧eX w B ts[i] vs vm
theorem bG.keep {w w':World} {B B':Nat} {v:Value} {xs:List aC} (h:bG w B v xs) (hk:∀ p:Addr,p.block < B→w'.cell? p=w.cell? p) (hB:B≤B'):bG w' B' v xs:=by
 obtain ⟨c,h1,h2⟩:=h
 refine ⟨c,(h1.keep hk).mono hB,fun i hi => ?_⟩
 obtain ⟨a,b,h3,h4⟩:=h2 i hi
 exact ⟨a,b,h3,h4.keep hk hB⟩
theorem bG.on {w w':World} {v:Value} {xs:List aC} (h:bG w w.heap.size v xs) (hb:Below w.heap.size w w'):bG w' w'.heap.size v xs:=h.keep (fun _ hp => hb.cell hp) hb.size
theorem bG.form {w:World} {B:Nat} {v:Value} {xs:List aC} (h:bG w B v xs):∃ A c,v = .slice A xs.length c∧xs.length≤c:=by
 obtain ⟨_,⟨A,c,h1,h2,_⟩,_⟩:=h
 exact ⟨A,c,h1,h2⟩
def Kr (w:World) (b o:Nat) (t:aC) (vs vm:Value):Prop :=
 w.cell? ⟨b,o,none⟩=some (.int .i64 t.kind)∧w.cell? ⟨b,o+1,none⟩=some (.string ⟨t.name.toArray⟩)∧w.cell? ⟨b,o+2,none⟩=some (.int .i64 t.low)∧w.cell? ⟨b,o+3,none⟩=some (.int .i64 t.high)∧w.cell? ⟨b,o+4,none⟩=some (.int .i64 t.max) ∧
 w.cell? ⟨b,o+5,none⟩=some vs∧w.cell? ⟨b,o+6,none⟩=some vm∧w.cell? ⟨b,o+7,none⟩=some (.int .i64 t.key)∧w.cell? ⟨b,o+8,none⟩=some (.int .i64 t.elem)∧w.cell? ⟨b,o+9,none⟩=some (.bool t.opn)
theorem bG.elem {w:World} {B n cap:Nat} {A:Option Addr} {xs:List aC} (h:bG w B (.slice A n cap) xs) (hpos:0 < xs.length):∃ b o,A=some ⟨b,o,none⟩∧b < B∧∀ k (hk:k < xs.length),∃ vs vm,Kr w b (o+k*10) xs[k] vs vm∧eX w B xs[k] vs vm:=by
 obtain ⟨c,⟨A',c',hv,hc,h2⟩,h3⟩:=h
 injection hv with h4 h5 h6
 subst h4
 rcases h2 with h2 | ⟨b,o,hA,hb,hcell⟩
 · omega
 refine ⟨b,o,hA,hb,fun k hk => ?_⟩
 obtain ⟨vs,vm,hcs,hm⟩:=h3 k hk
 have hc:=hcell k hk
 rw [hcs] at hc
 exact ⟨vs,vm,⟨hc 0 _ rfl,hc 1 _ rfl,hc 2 _ rfl,hc 3 _ rfl,hc 4 _ rfl,hc 5 _ rfl,hc 6 _ rfl,hc 7 _ rfl,hc 8 _ rfl,hc 9 _ rfl⟩,hm⟩
theorem Kr.below {w w':World} {B b o:Nat} {x:aC} {vs vm:Value} (h:Kr w b o x vs vm) (hb:Below B w w') (hlt:b < B):Kr w' b o x vs vm:=by
 obtain ⟨h0,h1,h2,h3,h4,h5,h6,h7,h8,h9⟩:=h
 exact ⟨(hb.cell hlt).trans h0,(hb.cell hlt).trans h1,(hb.cell hlt).trans h2,(hb.cell hlt).trans h3,(hb.cell hlt).trans h4,(hb.cell hlt).trans h5,(hb.cell hlt).trans h6,(hb.cell hlt).trans h7,(hb.cell hlt).trans h8,(hb.cell hlt).trans h9⟩
/-! the place of an ID -/
def mX:List Int→Int→Nat→Option Nat
 | [],_,_ => none
 | a :: r,id,k => if a=id then some k else mX r id (k+1)
def Bv (o:Option Nat):Int:=match o with | some k => k | none => -1
def lH (t:aC) (id:Int):Option Nat:=mX (t.aj.map Mem.id) id 0
def vH (t:aC) (id:Int):Option Nat:=mX (t.syms.map Prod.fst) id 0
def qU (o:Option Nat):Value:=.tuple #[.int .i64 (match o with | some k => (k:Int) | none => 0),.bool o.isSome]
set_option maxRecDepth 100000 in
theorem VK (m:Mem) (vk vi vr:Value) (p:Nat) (id:Int) (w:World) (hp:w.cell? ⟨p,0,none⟩=some (.int .i64 id)) (hlt:p < w.heap.size) :
  Calls Tryz.prog 116 #[.agg #[.int .i64 m.id,.string ⟨m.name.toArray⟩,.int .i64 m.ty,.bool m.jR,.bool m.iR,.int .i64 m.dflt.kind,.bool m.dflt.bool,.int .i64 m.dflt.num,.string ⟨m.dflt.str.toArray⟩,.int .i64 m.dflt.id,vk,vi,vr],.pointer (some ⟨p,0,none⟩)] w fun e w' => e = .returned (.bool (m.id == id))∧Below w.heap.size w w':=by
 go_enter Tryz.func116,Tryz.ntmps116
 go_wp2
 go_ret
 exact ⟨rfl,(Below.refl _ _).alloc (Nat.le_refl _) _⟩
set_option maxRecDepth 100000 in
theorem VL (r:Raw) (p:Nat) (id:Int) (w:World) (hp:w.cell? ⟨p,0,none⟩=some (.int .i64 id)) (hlt:p < w.heap.size) :
  Calls Tryz.prog 114 #[.agg #[.int .i64 r.1,.string ⟨r.2.toArray⟩],.pointer (some ⟨p,0,none⟩)] w fun e w' => e = .returned (.bool (r.1 == id))∧Below w.heap.size w w':=by
 go_enter Tryz.func114,Tryz.ntmps114
 go_wp2
 go_ret
 exact ⟨rfl,(Below.refl _ _).alloc (Nat.le_refl _) _⟩
end Go.Proofs.YthkfapcadhnaeaaGreatDoor

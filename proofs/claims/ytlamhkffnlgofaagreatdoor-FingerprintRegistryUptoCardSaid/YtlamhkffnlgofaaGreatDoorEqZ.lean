/- What schema.equal computes for a type whose lists are empty, and schema.blank. No condition. -/
import Derived.Test.YtlamhkffnlgofaaGreatDoorHAC
set_option maxHeartbeats 8000000
set_option maxRecDepth 100000
namespace Go.Proofs.YtlamhkffnlgofaaGreatDoor
open Go.ChangeShapes Go.WideShapes Go.ChangeAt Go.RowKit
theorem ZQ (n:Nat) (A:Option Addr) (c:Nat) (w:World):Calls Tryz.prog 148 #[.slice A n c,.slice none 0 0] w fun e w' => e = .returned (.bool (decide (n=0)))∧w=w':=by
 by_cases h0:n=0
 ·
  subst h0;go_enter Tryz.func148,Tryz.ntmps148
  go_wp2
  refine wp_loop_rounds 1 ?_;rw [rounds_succ];go_wp2
  go_ret;exact ⟨rfl,rfl⟩
 have Hd:Hid (decide (n=0)=false):=decide_eq_false h0;have t:((n:Int) != 0)=true:=by simpa using h0
 go_enter Tryz.func148,Tryz.ntmps148
 go_wp2
 go_ret;exact ⟨au Hd.out.symm,rfl⟩
theorem ZR (n:Nat) (A:Option Addr) (c:Nat) (w:World):Calls Tryz.prog 149 #[.slice A n c,.slice none 0 0,.func (.func 150) #[] #[]] w fun e w' => e = .returned (.bool (decide (n=0)))∧w=w':=by
 by_cases h0:n=0
 ·
  subst h0;go_enter Tryz.func149,Tryz.ntmps149
  go_wp2
  refine wp_loop_rounds 1 ?_;rw [rounds_succ];go_wp2
  go_ret;exact ⟨rfl,rfl⟩
 have Hd:Hid (decide (n=0)=false):=decide_eq_false h0;have t:((n:Int) != 0)=true:=by simpa using h0
 go_enter Tryz.func149,Tryz.ntmps149
 go_wp2
 go_ret;exact ⟨au Hd.out.symm,rfl⟩
theorem Py (w:World) (B:Nat):ValAt w B jm (.slice none 0 0) (.slice none 0 0) (.slice none 0 0) :=
 ⟨⟨by simp [I64,jm,Val.kind],by simp [I64,jm,Val.num],by simp [I64,jm,Val.id]⟩,by simp [jm,Val.str],⟨by simp [jm,Val.keys],by simp [jm,Val.items],by simp [jm,Val.rest]⟩,by simp [jm,Val.rest],
  ⟨fun _ => [],⟨none,0,rfl,Nat.le_refl _,.inl rfl⟩,fun i h => by simp [jm,Val.keys] at h⟩,⟨fun _ => [],⟨none,0,rfl,Nat.le_refl _,.inl rfl⟩,fun i h => by simp [jm,Val.items] at h⟩,Rd.nil_ w B 2⟩
def jy (x y:ay):Bool:=decide (x.kind=y.kind∧x.name=y.name∧x.low=y.low∧x.high=y.high∧x.max=y.max∧x.key=y.key∧x.elem=y.elem∧x.opn=y.opn) && (decide (x.syms.length=0) && decide (x.ah.length=0))
theorem zBt {p:Prop} (h:p:=by
 go_enter Tryz.func120,Tryz.ntmps120
 go_upto_region 1 with fail;refine jg (fun wd2 hb1 X Y => ?_);have hw3:=hb1;clear hb1;obtain ⟨aK,bJ,bY,bZ,dL,eX,bU,dD,dM,dU⟩:=X.out.c10;obtain ⟨kT,kU,kV,kW,kX,mD,lJ,mF,wS,wU⟩:=Y.out.c10;go_wp2_with fail;go_ret;exact ⟨au ny.out.symm,hw3⟩):p:=h
theorem zCs {p:Prop} (h:p:=by
 go_wp2_with fail;go_ret;exact ⟨au ny.out.symm,hw3⟩):p:=h
theorem rO (x y:ay) (A1 A2:Option Addr) (c1 c2:Nat) (w:World) :
  Calls Tryz.prog 120 #[dA x (.slice A1 x.syms.length c1) (.slice A2 x.ah.length c2),dA y (.slice none 0 0) (.slice none 0 0)] w (RTq w (.bool (jy x y))):=by
 by_cases e0:x.kind=y.kind
 ·
  have t0:(x.kind == y.kind)=true:=by simp [e0]
  by_cases e1:x.name=y.name
  ·
   have t1:(x.name == y.name)=true:=by simp [e1]
   by_cases e2:x.low=y.low
   ·
    have t2:(x.low == y.low)=true:=by simp [e2]
    by_cases e3:x.high=y.high
    ·
     have t3:(x.high == y.high)=true:=by simp [e3]
     by_cases e4:x.max=y.max
     ·
      have t4:(x.max == y.max)=true:=by simp [e4]
      by_cases e5:x.key=y.key
      ·
       have t5:(x.key == y.key)=true:=by simp [e5]
       by_cases e6:x.elem=y.elem
       ·
        have t6:(x.elem == y.elem)=true:=by simp [e6]
        by_cases e7:x.opn=y.opn
        ·
         have t7:(x.opn == y.opn)=true:=by simp [e7]
         have ny:Hid (jy x y=(decide (x.syms.length=0) && decide (x.ah.length=0))):=by show _=_;unfold jy;rw [decide_eq_true ⟨e0,e1,e2,e3,e4,e5,e6,e7⟩];rfl
         clear e0 e1 e2 e3 e4 e5 e6 e7;go_enter Tryz.func120,Tryz.ntmps120
         go_upto_region 1 with fail;refine jg (fun wd2 hb1 X Y => ?_);have hw3:=hb1;clear hb1;obtain ⟨aK,bJ,bY,bZ,dL,eX,bU,dD,dM,dU⟩:=X.out.c10;obtain ⟨kT,kU,kV,kW,kX,mD,lJ,mF,wS,wU⟩:=Y.out.c10;go_wp2_with fail;clear aK bJ bY bZ dL eX bU dD dM dU kT kU kV kW kX mD lJ mF wS wU;((with_reducible refine (ZQ _ _ _ _).mono ?_);rintro e wd4 ⟨rfl,rfl⟩);cases hs:decide (x.syms.length=0) with
         | false =>
          rw [hs] at ny;clear hs;exact zCs
         | true =>
          rw [hs,Bool.true_and] at ny;clear hs;have bU:=X.out.e6;have lJ:=Y.out.e6;go_wp2_with fail;clear bU lJ;((with_reducible refine (ZR _ _ _ _).mono ?_);rintro e wL ⟨rfl,rfl⟩);generalize decide (x.ah.length=0)=bm at *;exact zCs
        have t7:(x.opn == y.opn)=false:=by simpa using e7
        have ny:Hid (jy x y=false):=by show _=_;unfold jy;rw [decide_eq_false (fun h => e7 (by simp [h]))];rfl
        clear e0 e1 e2 e3 e4 e5 e6 e7;exact zBt
       have t6:(x.elem == y.elem)=false:=by simpa using e6
       have ny:Hid (jy x y=false):=by show _=_;unfold jy;rw [decide_eq_false (fun h => e6 (by simp [h]))];rfl
       clear e0 e1 e2 e3 e4 e5 e6;exact zBt
      have t5:(x.key == y.key)=false:=by simpa using e5
      have ny:Hid (jy x y=false):=by show _=_;unfold jy;rw [decide_eq_false (fun h => e5 (by simp [h]))];rfl
      clear e0 e1 e2 e3 e4 e5;exact zBt
     have t4:(x.max == y.max)=false:=by simpa using e4
     have ny:Hid (jy x y=false):=by show _=_;unfold jy;rw [decide_eq_false (fun h => e4 (by simp [h]))];rfl
     clear e0 e1 e2 e3 e4;exact zBt
    have t3:(x.high == y.high)=false:=by simpa using e3
    have ny:Hid (jy x y=false):=by show _=_;unfold jy;rw [decide_eq_false (fun h => e3 (by simp [h]))];rfl
    clear e0 e1 e2 e3;exact zBt
   have t2:(x.low == y.low)=false:=by simpa using e2
   have ny:Hid (jy x y=false):=by show _=_;unfold jy;rw [decide_eq_false (fun h => e2 (by simp [h]))];rfl
   clear e0 e1 e2;exact zBt
  have t1:(x.name == y.name)=false:=by simpa using e1
  have ny:Hid (jy x y=false):=by show _=_;unfold jy;rw [decide_eq_false (fun h => e1 (by simp [h]))];rfl
  clear e0 e1;exact zBt
 have t0:(x.kind == y.kind)=false:=by simpa using e0
 have ny:Hid (jy x y=false):=by show _=_;unfold jy;rw [decide_eq_false (fun h => e0 (by simp [h]))];rfl
 clear e0;exact zBt
theorem zCm {p:Prop} (h:p:=by
 go_wp2_with fail;go_ret;exact ⟨rfl,hw3⟩):p:=h
theorem zIg {p:Prop} (h:p:=by
 replace hw3:=dT hw3 hb5;clear hb5;exact zCm):p:=h
theorem Ld (x:Val) (vk vi vr:Value) (w:World) (hv:ValAt w w.heap.size x vk vi vr) :
  Calls Tryz.prog 147 #[aS x vk vi vr] w (RTq w (.bool (iK x jm))):=by
 obtain ⟨A1,n1,A2,n2,A3,n3,rfl,rfl,rfl,-,-,-⟩:=hv.forms;have HV:=hiQ hv;have hc:∀ W,ValAt W W.heap.size x (.slice A1 x.keys.length n1) (.slice A2 x.items.length n2) (.slice A3 x.rest.length n3)→Calls Tryz.prog 151 #[aS x (.slice A1 x.keys.length n1) (.slice A2 x.items.length n2) (.slice A3 x.rest.length n3),.agg #[.int .i64 0,.bool false,.int .i64 0,.string ⟨#[]⟩,.int .i64 0,.slice none 0 0,.slice none 0 0,.slice none 0 0]] W fun e w' => e = .returned (.bool (iK x jm))∧Below W.heap.size W w' :=
  fun W h => abW (nodes x+1) x jm _ _ _ (.slice none 0 0) (.slice none 0 0) (.slice none 0 0) W (by omega) h (Py _ _)
 have HC:=hiQ hc;clear hv hc;go_enter Tryz.func147,Tryz.ntmps147
 go_upto_region 1 with fail;refine aO (fun wd2 hb1 X => ?_);have hw3:=hb1;clear hb1;obtain ⟨aK,bJ,bY,bZ,dL,eX,bU,dD⟩:=X.out.c8;go_wp2_with fail;clear aK bJ bY bZ dL eX bU dD;((with_reducible refine (HC.out _ (HV.out.on hw3)).mono ?_);rintro e wd4 ⟨rfl,hb5⟩);replace X:=b1 X hb5;exact zIg
end Go.Proofs.YtlamhkffnlgofaaGreatDoor

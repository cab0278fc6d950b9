/- What zero computes (a region of more than 60 operations is n, and what else is used with it. No condition. -/
import Derived.Test.YtkaedmpppnnamaaGreatDoorHAC
import Derived.Deep.Cut
import Derived.Deep.RegionHeld3
import Derived.Deep.CutRange
set_option maxHeartbeats 4000000
set_option maxRecDepth 100000
namespace Go.Proofs.YtkaedmpppnnamaaGreatDoor
open ChangeShapes WideShapes ChangeAt RowKit
theorem zBn {p:Prop} (h:p:=by
 go_enter Tryz.func54,Tryz.ntmps54
 go_upto_region 2 with (fail)
 simp only [List.append_eq,Qu,J_];go_wp2_with fail;go_ret;exact ⟨rfl,h01 _⟩):p:=h
theorem Q8 (x:Val) (A1 A2 A3:Option Addr) (n1 n2 n3:Nat) (w:World) (hk:x.kind=1) :
  Calls Tryz.prog 54 #[aS x (.slice A1 x.keys.length n1) (.slice A2 x.items.length n2) (.slice A3 x.rest.length n3)] w (RT w (.bool (aA x))):=by
 have h01:=fun o => (g_ w.heap.size w).alloc (b_ _) o;simp only [aS,hk];by_cases dZ:x.num=0
 .
  have yA:(x.num == 0)=true:=by simpa using dZ
  by_cases fC:x.str = []
  .
   have yB:x.str.isEmpty=true:=by simpa using fC
   by_cases jo:x.id=0
   .
    have DT:(x.id == 0)=true:=by simpa using jo
    by_cases gG:x.keys.length=0
    .
     have wE:((x.keys.length:Int) == 0)=true:=by simp [gG]
     by_cases kY:x.items.length=0
     .
      have DU:((x.items.length:Int) == 0)=true:=by simp [kY]
      by_cases jv:x.rest.length=0
      .
       have xW:((x.rest.length:Int) == 0)=true:=by simp [jv]
       have hs:Hid (aA x=true):=by show _=_;simp [aA,hk,dZ,fC,jo,gG,kY,jv]
       rw [hs.out];clear dZ fC jo gG kY jv hk;exact zBn
      have xW:((x.rest.length:Int) == 0)=false:=r_.2 (by omega);have hs:Hid (aA x=false):=by show _=_;simp [aA,hk,jv]
      rw [hs.out];clear dZ fC jo gG kY jv hk;exact zBn
     have DU:((x.items.length:Int) == 0)=false:=r_.2 (by omega);have hs:Hid (aA x=false):=by show _=_;simp [aA,hk,kY]
     rw [hs.out];clear dZ fC jo gG kY hk;exact zBn
    have wE:((x.keys.length:Int) == 0)=false:=r_.2 (by omega);have hs:Hid (aA x=false):=by show _=_;simp [aA,hk,gG]
    rw [hs.out];clear dZ fC jo gG hk;exact zBn
   have DT:(x.id == 0)=false:=by simpa using jo
   have hs:Hid (aA x=false):=by show _=_;simp [aA,hk,jo]
   rw [hs.out];clear dZ fC jo hk;exact zBn
  have yB:x.str.isEmpty=false:=by simpa using fC
  have hs:Hid (aA x=false):=by show _=_;simp [aA,hk,fC]
  rw [hs.out];clear dZ fC hk;exact zBn
 have yA:(x.num == 0)=false:=by simpa using dZ
 have hs:Hid (aA x=false):=by show _=_;simp [aA,hk,dZ]
 rw [hs.out];clear dZ hk;exact zBn
theorem zHi {p:Prop} (h:p:=by
 have wF:x.bool=true:=by simpa using bI
 have hs:Hid (aA x=false):=by show _=_;simp [aA,hk,bI]
 rw [hs.out];clear bI hk;exact zBn):p:=h
theorem Q9 (x:Val) (A1 A2 A3:Option Addr) (n1 n2 n3:Nat) (w:World) (hk:x.kind=2) :
  Calls Tryz.prog 54 #[aS x (.slice A1 x.keys.length n1) (.slice A2 x.items.length n2) (.slice A3 x.rest.length n3)] w (RT w (.bool (aA x))):=by
 have h01:=fun o => (g_ w.heap.size w).alloc (b_ _) o;simp only [aS,hk];by_cases bI:x.bool=false
 .
  have wF:x.bool=false:=bI;by_cases fC:x.str = []
  .
   have yB:x.str.isEmpty=true:=by simpa using fC
   by_cases jo:x.id=0
   .
    have DT:(x.id == 0)=true:=by simpa using jo
    by_cases gG:x.keys.length=0
    .
     have wE:((x.keys.length:Int) == 0)=true:=by simp [gG]
     by_cases kY:x.items.length=0
     .
      have DU:((x.items.length:Int) == 0)=true:=by simp [kY]
      by_cases jv:x.rest.length=0
      .
       have xW:((x.rest.length:Int) == 0)=true:=by simp [jv]
       have hs:Hid (aA x=true):=by show _=_;simp [aA,hk,bI,fC,jo,gG,kY,jv]
       rw [hs.out];clear bI fC jo gG kY jv hk;exact zBn
      have xW:((x.rest.length:Int) == 0)=false:=r_.2 (by omega);have hs:Hid (aA x=false):=by show _=_;simp [aA,hk,jv]
      rw [hs.out];clear bI fC jo gG kY jv hk;exact zBn
     have DU:((x.items.length:Int) == 0)=false:=r_.2 (by omega);have hs:Hid (aA x=false):=by show _=_;simp [aA,hk,kY]
     rw [hs.out];clear bI fC jo gG kY hk;exact zBn
    have wE:((x.keys.length:Int) == 0)=false:=r_.2 (by omega);have hs:Hid (aA x=false):=by show _=_;simp [aA,hk,gG]
    rw [hs.out];clear bI fC jo gG hk;exact zBn
   have DT:(x.id == 0)=false:=by simpa using jo
   have hs:Hid (aA x=false):=by show _=_;simp [aA,hk,jo]
   rw [hs.out];clear bI fC jo hk;exact zBn
  have yB:x.str.isEmpty=false:=by simpa using fC
  have hs:Hid (aA x=false):=by show _=_;simp [aA,hk,fC]
  rw [hs.out];clear bI fC hk;exact zBn
 exact zHi
theorem zHj {p:Prop} (h:p:=by
 have yA:(x.num == 0)=false:=by simpa using dZ
 have hs:Hid (aA x=false):=by show _=_;simp [aA,hk,dZ]
 rw [hs.out];clear bI dZ hk;exact zBn):p:=h
theorem Rf (x:Val) (A1 A2 A3:Option Addr) (n1 n2 n3:Nat) (w:World) (hk:x.kind=3) :
  Calls Tryz.prog 54 #[aS x (.slice A1 x.keys.length n1) (.slice A2 x.items.length n2) (.slice A3 x.rest.length n3)] w (RT w (.bool (aA x))):=by
 have h01:=fun o => (g_ w.heap.size w).alloc (b_ _) o;simp only [aS,hk];by_cases bI:x.bool=false
 .
  have wF:x.bool=false:=bI;by_cases dZ:x.num=0
  .
   have yA:(x.num == 0)=true:=by simpa using dZ
   by_cases jo:x.id=0
   .
    have DT:(x.id == 0)=true:=by simpa using jo
    by_cases gG:x.keys.length=0
    .
     have wE:((x.keys.length:Int) == 0)=true:=by simp [gG]
     by_cases kY:x.items.length=0
     .
      have DU:((x.items.length:Int) == 0)=true:=by simp [kY]
      by_cases jv:x.rest.length=0
      .
       have xW:((x.rest.length:Int) == 0)=true:=by simp [jv]
       have hs:Hid (aA x=true):=by show _=_;simp [aA,hk,bI,dZ,jo,gG,kY,jv]
       rw [hs.out];clear bI dZ jo gG kY jv hk;exact zBn
      have xW:((x.rest.length:Int) == 0)=false:=r_.2 (by omega);have hs:Hid (aA x=false):=by show _=_;simp [aA,hk,jv]
      rw [hs.out];clear bI dZ jo gG kY jv hk;exact zBn
     have DU:((x.items.length:Int) == 0)=false:=r_.2 (by omega);have hs:Hid (aA x=false):=by show _=_;simp [aA,hk,kY]
     rw [hs.out];clear bI dZ jo gG kY hk;exact zBn
    have wE:((x.keys.length:Int) == 0)=false:=r_.2 (by omega);have hs:Hid (aA x=false):=by show _=_;simp [aA,hk,gG]
    rw [hs.out];clear bI dZ jo gG hk;exact zBn
   have DT:(x.id == 0)=false:=by simpa using jo
   have hs:Hid (aA x=false):=by show _=_;simp [aA,hk,jo]
   rw [hs.out];clear bI dZ jo hk;exact zBn
  exact zHj
 exact zHi
theorem zHk {p:Prop} (h:p:=by
 have yB:x.str.isEmpty=false:=by simpa using fC
 have hs:Hid (aA x=false):=by show _=_;simp [aA,hk,fC]
 rw [hs.out];clear bI dZ fC hk;exact zBn):p:=h
theorem zIj {p:Prop} (h:p:=by
 have wE:((x.keys.length:Int) == 0)=false:=r_.2 (by omega);have hs:Hid (aA x=false):=by show _=_;simp [aA,hk,gG]
 rw [hs.out];clear bI dZ fC gG hk;exact zBn):p:=h
theorem Rh (x:Val) (A1 A2 A3:Option Addr) (n1 n2 n3:Nat) (w:World) (hk:x.kind=4) :
  Calls Tryz.prog 54 #[aS x (.slice A1 x.keys.length n1) (.slice A2 x.items.length n2) (.slice A3 x.rest.length n3)] w (RT w (.bool (aA x))):=by
 have h01:=fun o => (g_ w.heap.size w).alloc (b_ _) o;simp only [aS,hk];by_cases bI:x.bool=false
 .
  have wF:x.bool=false:=bI;by_cases dZ:x.num=0
  .
   have yA:(x.num == 0)=true:=by simpa using dZ
   by_cases fC:x.str = []
   .
    have yB:x.str.isEmpty=true:=by simpa using fC
    by_cases gG:x.keys.length=0
    .
     have wE:((x.keys.length:Int) == 0)=true:=by simp [gG]
     by_cases kY:x.items.length=0
     .
      have DU:((x.items.length:Int) == 0)=true:=by simp [kY]
      by_cases jv:x.rest.length=0
      .
       have xW:((x.rest.length:Int) == 0)=true:=by simp [jv]
       have hs:Hid (aA x=true):=by show _=_;simp [aA,hk,bI,dZ,fC,gG,kY,jv]
       rw [hs.out];clear bI dZ fC gG kY jv hk;exact zBn
      have xW:((x.rest.length:Int) == 0)=false:=r_.2 (by omega);have hs:Hid (aA x=false):=by show _=_;simp [aA,hk,jv]
      rw [hs.out];clear bI dZ fC gG kY jv hk;exact zBn
     have DU:((x.items.length:Int) == 0)=false:=r_.2 (by omega);have hs:Hid (aA x=false):=by show _=_;simp [aA,hk,kY]
     rw [hs.out];clear bI dZ fC gG kY hk;exact zBn
    exact zIj
   exact zHk
  exact zHj
 exact zHi
theorem zHt {p:Prop} (h:p:=by
 have DT:(x.id == 0)=false:=by simpa using jo
 have hs:Hid (aA x=false):=by show _=_;simp [aA,hk,jo]
 rw [hs.out];clear bI dZ fC jo hk;exact zBn):p:=h
theorem zJh {p:Prop} (h:p:=by
 have wE:((x.keys.length:Int) == 0)=false:=r_.2 (by omega);have hs:Hid (aA x=false):=by show _=_;simp [aA,hk,gG]
 rw [hs.out];clear bI dZ fC jo gG hk;exact zBn):p:=h
theorem Ri (x:Val) (A1 A2 A3:Option Addr) (n1 n2 n3:Nat) (w:World) (hk:x.kind=5) :
  Calls Tryz.prog 54 #[aS x (.slice A1 x.keys.length n1) (.slice A2 x.items.length n2) (.slice A3 x.rest.length n3)] w (RT w (.bool (aA x))):=by
 have h01:=fun o => (g_ w.heap.size w).alloc (b_ _) o;simp only [aS,hk];by_cases bI:x.bool=false
 .
  have wF:x.bool=false:=bI;by_cases dZ:x.num=0
  .
   have yA:(x.num == 0)=true:=by simpa using dZ
   by_cases fC:x.str = []
   .
    have yB:x.str.isEmpty=true:=by simpa using fC
    by_cases jo:x.id=0
    .
     have DT:(x.id == 0)=true:=by simpa using jo
     by_cases gG:x.keys.length=0
     .
      have wE:((x.keys.length:Int) == 0)=true:=by simp [gG]
      have hs:Hid (aA x=true):=by show _=_;simp [aA,hk,bI,dZ,fC,jo,gG]
      rw [hs.out];clear bI dZ fC jo gG hk;exact zBn
     exact zJh
    exact zHt
   exact zHk
  exact zHj
 exact zHi
theorem Rj (x:Val) (A1 A2 A3:Option Addr) (n1 n2 n3:Nat) (w:World) (hk:x.kind=6) :
  Calls Tryz.prog 54 #[aS x (.slice A1 x.keys.length n1) (.slice A2 x.items.length n2) (.slice A3 x.rest.length n3)] w (RT w (.bool (aA x))):=by
 have h01:=fun o => (g_ w.heap.size w).alloc (b_ _) o;simp only [aS,hk];by_cases bI:x.bool=false
 .
  have wF:x.bool=false:=bI;by_cases dZ:x.num=0
  .
   have yA:(x.num == 0)=true:=by simpa using dZ
   by_cases fC:x.str = []
   .
    have yB:x.str.isEmpty=true:=by simpa using fC
    by_cases gG:x.keys.length=0
    .
     have wE:((x.keys.length:Int) == 0)=true:=by simp [gG]
     have hs:Hid (aA x=true):=by show _=_;simp [aA,hk,bI,dZ,fC,gG]
     rw [hs.out];clear bI dZ fC gG hk;exact zBn
    exact zIj
   exact zHk
  exact zHj
 exact zHi
theorem zHh {p:Prop} (h:p:=by
 have h01:=fun o => (g_ w.heap.size w).alloc (b_ _) o;simp only [aS,hk];by_cases bI:x.bool=false
 .
  have wF:x.bool=false:=bI;by_cases dZ:x.num=0
  .
   have yA:(x.num == 0)=true:=by simpa using dZ
   by_cases fC:x.str = []
   .
    have yB:x.str.isEmpty=true:=by simpa using fC
    by_cases jo:x.id=0
    .
     have DT:(x.id == 0)=true:=by simpa using jo
     by_cases gG:x.keys.length=0
     .
      have wE:((x.keys.length:Int) == 0)=true:=by simp [gG]
      by_cases jv:x.rest.length=0
      .
       have xW:((x.rest.length:Int) == 0)=true:=by simp [jv]
       have hs:Hid (aA x=true):=by show _=_;simp [aA,hk,bI,dZ,fC,jo,gG,jv]
       rw [hs.out];clear bI dZ fC jo gG jv hk;exact zBn
      have xW:((x.rest.length:Int) == 0)=false:=r_.2 (by omega);have hs:Hid (aA x=false):=by show _=_;simp [aA,hk,jv]
      rw [hs.out];clear bI dZ fC jo gG jv hk;exact zBn
     exact zJh
    have DT:(x.id == 0)=false:=by simpa using jo
    have hs:Hid (aA x=false):=by show _=_;simp [aA,hk,jo]
    rw [hs.out];clear bI dZ fC jo hk;exact zBn
   have yB:x.str.isEmpty=false:=by simpa using fC
   have hs:Hid (aA x=false):=by show _=_;simp [aA,hk,fC]
   rw [hs.out];clear bI dZ fC hk;exact zBn
  have yA:(x.num == 0)=false:=by simpa using dZ
  have hs:Hid (aA x=false):=by show _=_;simp [aA,hk,dZ]
  rw [hs.out];clear bI dZ hk;exact zBn
 have wF:x.bool=true:=by simpa using bI
 have hs:Hid (aA x=false):=by show _=_;simp [aA,hk,bI]
 rw [hs.out];clear bI hk;exact zBn):p:=h
theorem Rk (x:Val) (A1 A2 A3:Option Addr) (n1 n2 n3:Nat) (w:World) (hk:x.kind=7) :
  Calls Tryz.prog 54 #[aS x (.slice A1 x.keys.length n1) (.slice A2 x.items.length n2) (.slice A3 x.rest.length n3)] w (RT w (.bool (aA x))):=by
 exact zHh
theorem Rl (x:Val) (A1 A2 A3:Option Addr) (n1 n2 n3:Nat) (w:World) (hk:x.kind=8) :
  Calls Tryz.prog 54 #[aS x (.slice A1 x.keys.length n1) (.slice A2 x.items.length n2) (.slice A3 x.rest.length n3)] w (RT w (.bool (aA x))):=by
 have h01:=fun o => (g_ w.heap.size w).alloc (b_ _) o;simp only [aS,hk];by_cases bI:x.bool=false
 .
  have wF:x.bool=false:=bI;by_cases dZ:x.num=0
  .
   have yA:(x.num == 0)=true:=by simpa using dZ
   by_cases fC:x.str = []
   .
    have yB:x.str.isEmpty=true:=by simpa using fC
    by_cases jo:x.id=0
    .
     have DT:(x.id == 0)=true:=by simpa using jo
     by_cases jv:x.rest.length=0
     .
      have xW:((x.rest.length:Int) == 0)=true:=by simp [jv]
      have hs:Hid (aA x=true):=by show _=_;simp [aA,hk,bI,dZ,fC,jo,jv]
      rw [hs.out];clear bI dZ fC jo jv hk;exact zBn
     have xW:((x.rest.length:Int) == 0)=false:=r_.2 (by omega);have hs:Hid (aA x=false):=by show _=_;simp [aA,hk,jv]
     rw [hs.out];clear bI dZ fC jo jv hk;exact zBn
    exact zHt
   exact zHk
  exact zHj
 exact zHi
theorem Rn (x:Val) (A1 A2 A3:Option Addr) (n1 n2 n3:Nat) (w:World) (hk:x.kind=9) :
  Calls Tryz.prog 54 #[aS x (.slice A1 x.keys.length n1) (.slice A2 x.items.length n2) (.slice A3 x.rest.length n3)] w (RT w (.bool (aA x))):=by
 exact zHh
def aeV (o:Option Nat):Int:=match o with | some k => k | none => 0
theorem WY (o:Option Nat):xg o = .tuple #[.int .i64 (aeV o),.bool o.isSome]:=by cases o <;> rfl
theorem zEc {p:Prop} (h:p:=by
 go_wp2_with fail;go_quiet ((go_at_call 55;exact wP.out _))
 go_wp2_with fail;go_ret;exact ⟨au (by rw [jB.out];rfl),below_drewN h05 _⟩):p:=h
theorem zIb {p:Prop} (h:p:=by
 rw [lY] at jB;simp only [M_];have wP:=fun (n:Nat) => Calls.quiet_of_same (n:=n) ((EX q true (w5.drewN n)).mono fun _ _ ⟨h1,h2⟩ => ⟨h1,h2.symm⟩);simp only [Uu,QE] at wP;have wP:=hiQ wP;clear lY;exact zEc):p:=h
theorem acN (x:ay) (vs vm:Value) (l:List Raw) (vl:Value) (w:World) (hl:l.length<=140737488351232) (hx:jc w w.heap.size x vs vm) (hr:Rd w w.heap.size 2 vl l.length (jO l)) :
  Calls Tryz.prog 56 #[dA x vs vm,vl] w (RT w (.bool (xK x l none))):=by
 obtain ⟨C1,m1,C2,m2,rfl,rfl,-,-⟩:=hx.forms;obtain ⟨A,cap,rfl,hcap⟩:=hr.form;have h01:=(g_ w.heap.size w).alloc (b_ _) (.cells #[.int .i64 x.kind,.string ⟨x.name.toArray⟩,.int .i64 x.low,.int .i64 x.high,.int .i64 x.max,.slice C1 x.syms.length m1,.slice C2 x.ah.length m2,.int .i64 x.key,.int .i64 x.elem,.bool x.opn] 72);have hY:=Has.made w 72 #[.int .i64 x.kind,.string ⟨x.name.toArray⟩,.int .i64 x.low,.int .i64 x.high,.int .i64 x.max,.slice C1 x.syms.length m1,.slice C2 x.ah.length m2,.int .i64 x.key,.int .i64 x.elem,.bool x.opn];have HX:=hiQ (hx.on h01);have HR:=hiQ ((hr.below h01).mono h01.size);clear hx hr;go_enter Tryz.func56,Tryz.ntmps56
 go_wp2_with fail;generalize w.alloc (.cells #[.int .i64 x.kind,.string ⟨x.name.toArray⟩,.int .i64 x.low,.int .i64 x.high,.int .i64 x.max,.slice C1 x.syms.length m1,.slice C2 x.ah.length m2,.int .i64 x.key,.int .i64 x.elem,.bool x.opn] 72)=w1 at *;have hz1:=hY.here;have HY:=hiQ hY;clear hY;go_loopw [5] (fun i wr => ∃ k:Nat,i = .int .i64 k/\k<=l.length/\xK x l none=xK x (l.drop k) (nD l k)/\Below w1.heap.size w1 wr) (fun i _ => l.length - (intOf i).toNat)
 case atStart => exact ⟨0,rfl,by omega,rfl,g_ _ _⟩
 case round =>
  obtain ⟨k,rfl,hk,hix,hb⟩:=hrel;have q0:=(HY.out.below hb hz1).cell 0;have q1:=(HY.out.below hb hz1).cell 1;have q2:=(HY.out.below hb hz1).cell 2;have q3:=(HY.out.below hb hz1).cell 3;have q4:=(HY.out.below hb hz1).cell 4;have q5:=(HY.out.below hb hz1).cell 5;have q6:=(HY.out.below hb hz1).cell 6;have q7:=(HY.out.below hb hz1).cell 7;have q8:=(HY.out.below hb hz1).cell 8;have q9:=(HY.out.below hb hz1).cell 9;simp only [qI] at q0 q1 q2 q3 q4 q5 q6 q7 q8 q9;have h0r:=h01.trans (hb.mono h01.size);by_cases hlt:k < l.length
  .
   obtain ⟨br,or,rfl,am7,her⟩:=(HR.out.below hb).at_ (by omega);have hbr:br < wr.heap.size:=u_ am7 hb.size;obtain ⟨r0,r1⟩:=qy her k hlt;rw [aed x l k hlt,<- tZ l k hlt] at hix;rcases k with _ | j
   .
    generalize l[0].1=q at *;generalize l[0].2=z at *;simp only [Nat.zero_mul,QB] at r0 r1;have hi1:(0:Int) < l.length:=by omega
    have jB:=hiQ hix;clear her hix r1;have hzw:w.heap.size < wr.heap.size:=u_ hz1 hb.size;have HM:=hiQ (fun W h => xC x (.slice C1 x.syms.length m1) (.slice C2 x.ah.length m2) q W h);simp only [dA,WY] at HM;have Dt:=hiQ (HX.out.on hb);have r0':wr.cell? ⟨br,or,none⟩=some (.int .i64 q):=by simpa using r0
    obtain ⟨wo,rfl⟩ : ∃ wo:World,wo=wr:=⟨_,rfl⟩
    go_upto_region 4 with (fail)
    go_cut [6,7] from 8 to 49 (fun s6 s7 wx => s6 = .int .i64 (aeV (dN x q))/\s7 = .bool (dN x q).isSome/\Below wo.heap.size wo wx)
    case first =>
     go_region_held3 (fun w' => w'.cell? ⟨w.heap.size,0,none⟩=some (.int .i64 x.kind)/\w'.cell? ⟨w.heap.size,1,none⟩=some (.string ⟨x.name.toArray⟩)/\w'.cell? ⟨w.heap.size,2,none⟩=some (.int .i64 x.low)/\w'.cell? ⟨w.heap.size,3,none⟩=some (.int .i64 x.high)/\w'.cell? ⟨w.heap.size,4,none⟩=some (.int .i64 x.max)/\w'.cell? ⟨w.heap.size,5,none⟩=some (.slice C1 x.syms.length m1)/\w'.cell? ⟨w.heap.size,6,none⟩=some (.slice C2 x.ah.length m2)/\w'.cell? ⟨w.heap.size,7,none⟩=some (.int .i64 x.key)/\w'.cell? ⟨w.heap.size,8,none⟩=some (.int .i64 x.elem)/\w'.cell? ⟨w.heap.size,9,none⟩=some (.bool x.opn)/\w'.cell? ⟨br,or,none⟩=some (.int .i64 q)) (first | (go_keep;done) | exact ⟨p0,p1,p2,p3,p4,p5,p6,p7,p8,p9,pr⟩)
      (first
       | (go_at_call 31;(with_reducible refine (HM.out _ (Dt.out.on (w':=wo.drew) (g_ _ _).drew)).mono ?_);rintro e wn ⟨rfl,hbn⟩;have qG:Below wo.heap.size wo wn:=((g_ wo.heap.size wo).drew).trans hbn;have p0:=(qG.cell (p:=⟨w.heap.size,0,none⟩) hzw).trans q0;have p1:=(qG.cell (p:=⟨w.heap.size,1,none⟩) hzw).trans q1;have p2:=(qG.cell (p:=⟨w.heap.size,2,none⟩) hzw).trans q2;have p3:=(qG.cell (p:=⟨w.heap.size,3,none⟩) hzw).trans q3;have p4:=(qG.cell (p:=⟨w.heap.size,4,none⟩) hzw).trans q4;have p5:=(qG.cell (p:=⟨w.heap.size,5,none⟩) hzw).trans q5;have p6:=(qG.cell (p:=⟨w.heap.size,6,none⟩) hzw).trans q6;have p7:=(qG.cell (p:=⟨w.heap.size,7,none⟩) hzw).trans q7;have p8:=(qG.cell (p:=⟨w.heap.size,8,none⟩) hzw).trans q8;have p9:=(qG.cell (p:=⟨w.heap.size,9,none⟩) hzw).trans q9;have pr:=(qG.cell (p:=⟨br,or,none⟩) hbr).trans r0';clear hbn))
     all_goals
      go_wp2_with fail;go_meet
      exact ⟨rfl,rfl,qG⟩
    case rest =>
     obtain ⟨rfl,rfl,hb5⟩:=hcut;obtain ⟨w5,rfl⟩ : ∃ w5:World,w5=wc:=⟨_,rfl⟩
     have WZ:=hb.trans (hb5.mono hb.size);have h05:=h0r.trans (hb5.mono h0r.size);have p0:=(hb5.cell (p:=⟨br,or,none⟩) hbr).trans r0'
     skip
     clear hb5 hb h0r r0 r0' q0 q1 q2 q3 q4 q5 q6 q7 q8 q9 Dt HM;cases lY:dN x q with
     | some i =>
      exact zIb
     | none =>
      rw [lY] at jB;simp only [OU];have wP:=fun (n:Nat) => Calls.quiet_of_same (n:=n) ((EX q false (w5.drewN n)).mono fun _ _ ⟨h1,h2⟩ => ⟨h1,h2.symm⟩);simp only [QI,CX] at wP;clear lY;cases hfr:mM q
      .
       rw [hfr] at wP jB;have wP:=hiQ wP;clear hfr;exact zEc
      rw [hfr] at wP jB;have wP:=hiQ wP;clear hfr;go_wp2_with fail;go_quiet ((go_at_call 55;exact wP.out _))
      go_wp2_with fail;go_roundw
      case rel => exact ⟨1,by go_num,by omega,by rw [jB.out];simp [nD,xH],below_drewN WZ _⟩
      case measure => simp [intOf];omega
   obtain ⟨s0,-⟩:=qy her j (by omega);have Hpp:Hid (nD l (j+1)=some l[j].1):=tZ l j (by omega);generalize l[j+1].1=q at *;generalize l[j+1].2=z at *;generalize l[j].1=u at *;have hi1:(j:Int)+1 < l.length:=by omega
   have hi2:(j:Int) < l.length:=by omega
   have hw0:IntKind.i64.wrap (j:Int)=j:=E_ _ (by omega);have hw1:IntKind.i64.wrap ((j:Int)+1 - 1)=j:=by rw [Int.add_sub_cancel];exact hw0
   have hw2:((j:Int)+1).toNat=j+1:=by omega
   have hw3:0<=(j:Int)+1:=by omega
   have hw4:decide ((0:Int) < (j:Int)+1)=true:=n_ (by omega);rw [Hpp.out] at hix;have jB:=hiQ hix;clear her hix r1;have hzw:w.heap.size < wr.heap.size:=u_ hz1 hb.size;have HM:=hiQ (fun W h => xC x (.slice C1 x.syms.length m1) (.slice C2 x.ah.length m2) q W h);simp only [dA,WY] at HM;have Dt:=hiQ (HX.out.on hb);have r0':wr.cell? ⟨br,or+(j+1)*2,none⟩=some (.int .i64 q):=by simpa using r0
   obtain ⟨wo,rfl⟩ : ∃ wo:World,wo=wr:=⟨_,rfl⟩
   go_upto_region 4 with (fail)
   go_cut [6,7] from 8 to 49 (fun s6 s7 wx => s6 = .int .i64 (aeV (dN x q))/\s7 = .bool (dN x q).isSome/\Below wo.heap.size wo wx)
   case first =>
    go_region_held3 (fun w' => w'.cell? ⟨w.heap.size,0,none⟩=some (.int .i64 x.kind)/\w'.cell? ⟨w.heap.size,1,none⟩=some (.string ⟨x.name.toArray⟩)/\w'.cell? ⟨w.heap.size,2,none⟩=some (.int .i64 x.low)/\w'.cell? ⟨w.heap.size,3,none⟩=some (.int .i64 x.high)/\w'.cell? ⟨w.heap.size,4,none⟩=some (.int .i64 x.max)/\w'.cell? ⟨w.heap.size,5,none⟩=some (.slice C1 x.syms.length m1)/\w'.cell? ⟨w.heap.size,6,none⟩=some (.slice C2 x.ah.length m2)/\w'.cell? ⟨w.heap.size,7,none⟩=some (.int .i64 x.key)/\w'.cell? ⟨w.heap.size,8,none⟩=some (.int .i64 x.elem)/\w'.cell? ⟨w.heap.size,9,none⟩=some (.bool x.opn)/\w'.cell? ⟨br,or+(j+1)*2,none⟩=some (.int .i64 q)) (first | (go_keep;done) | exact ⟨p0,p1,p2,p3,p4,p5,p6,p7,p8,p9,pr⟩)
     (first
      | (go_at_call 31;(with_reducible refine (HM.out _ (Dt.out.on (w':=wo.drew) (g_ _ _).drew)).mono ?_);rintro e wn ⟨rfl,hbn⟩;have qG:Below wo.heap.size wo wn:=((g_ wo.heap.size wo).drew).trans hbn;have p0:=(qG.cell (p:=⟨w.heap.size,0,none⟩) hzw).trans q0;have p1:=(qG.cell (p:=⟨w.heap.size,1,none⟩) hzw).trans q1;have p2:=(qG.cell (p:=⟨w.heap.size,2,none⟩) hzw).trans q2;have p3:=(qG.cell (p:=⟨w.heap.size,3,none⟩) hzw).trans q3;have p4:=(qG.cell (p:=⟨w.heap.size,4,none⟩) hzw).trans q4;have p5:=(qG.cell (p:=⟨w.heap.size,5,none⟩) hzw).trans q5;have p6:=(qG.cell (p:=⟨w.heap.size,6,none⟩) hzw).trans q6;have p7:=(qG.cell (p:=⟨w.heap.size,7,none⟩) hzw).trans q7;have p8:=(qG.cell (p:=⟨w.heap.size,8,none⟩) hzw).trans q8;have p9:=(qG.cell (p:=⟨w.heap.size,9,none⟩) hzw).trans q9;have pr:=(qG.cell (p:=⟨br,or+(j+1)*2,none⟩) hbr).trans r0';clear hbn))
    all_goals
     go_wp2_with fail;go_meet
     exact ⟨rfl,rfl,qG⟩
   case rest =>
    obtain ⟨rfl,rfl,hb5⟩:=hcut;obtain ⟨w5,rfl⟩ : ∃ w5:World,w5=wc:=⟨_,rfl⟩
    have WZ:=hb.trans (hb5.mono hb.size);have h05:=h0r.trans (hb5.mono h0r.size);have p0:=(hb5.cell (p:=⟨br,or+(j+1)*2,none⟩) hbr).trans r0';have ps:=(hb5.cell (p:=⟨br,or+j*2,none⟩) hbr).trans s0;clear hb5 hb h0r r0 r0' q0 q1 q2 q3 q4 q5 q6 q7 q8 q9 Dt HM;cases lY:dN x q with
    | some i =>
     exact zIb
    | none =>
     rw [lY] at jB;simp only [OU];have wP:=fun (n:Nat) => Calls.quiet_of_same (n:=n) ((EX q false (w5.drewN n)).mono fun _ _ ⟨h1,h2⟩ => ⟨h1,h2.symm⟩);simp only [QI,CX] at wP;clear lY;cases hfr:mM q
     .
      rw [hfr] at wP jB;have wP:=hiQ wP;clear hfr;exact zEc
     rw [hfr] at wP jB;have wP:=hiQ wP;clear hfr;by_cases hlq:u < q
     .
      have hd:decide (q<=u)=false:=f_ (by omega);simp only [xH,n_ hlq,OU,QI,CX] at jB;go_wp2_with fail;go_quiet ((go_at_call 55;exact wP.out _))
      clear hw0 hw1 hw2 hw3 hw4;go_wp2_with fail;go_roundw
      case rel => exact ⟨j+1+1,by go_num,by omega,jB.out,below_drewN WZ _⟩
      case measure => simp [intOf];omega
     have hd:decide (q<=u)=true:=n_ (by omega);simp only [xH,f_ hlq,QE,Bool.and_false] at jB;go_wp2_with fail;go_quiet ((go_at_call 55;exact wP.out _))
     clear hw0 hw1 hw2 hw3 hw4;go_wp2_with fail;go_ret;exact ⟨au (by rw [jB.out]),below_drewN h05 _⟩
  rw [G_ (by omega),xK] at hix;have jB:=hiQ hix;clear hix;go_wp2_with fail;go_ret;exact ⟨au (by rw [jB.out]),h0r⟩

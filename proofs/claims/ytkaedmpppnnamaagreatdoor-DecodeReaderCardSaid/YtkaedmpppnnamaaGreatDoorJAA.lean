/- What zero computes (a region of more than 60 operations is n, and what else is used with it. No condition. -/
import Derived.Deep.Cut
import Derived.Deep.RegionHeld3
import Derived.Deep.CutRange
import Derived.Test.YtkaedmpppnnamaaGreatDoorHAE
set_option maxHeartbeats 4000000
set_option maxRecDepth 100000
namespace Go.Proofs.YtkaedmpppnnamaaGreatDoor
open ChangeShapes WideShapes ChangeAt RowKit
theorem W_ {p:Prop} (h:p:=by
 go_enter Tryz.func54,Tryz.ntmps54
 go_upto_region 2 with (fail)
 simp only [List.append_eq,R_,D_];go_wp2_with fail;go_ret;exact ⟨rfl,h01 _⟩):p:=h
theorem Q8 (x:Val) (A1 A2 A3:Option Addr) (n1 n2 n3:Nat) (w:World) (hk:x.kind=1) :
  Calls Tryz.prog 54 #[aS x (.slice A1 x.keys.length n1) (.slice A2 x.items.length n2) (.slice A3 x.rest.length n3)] w (RT w (.bool (aA x))):=by
 have h01:=fun o => (j_ w.heap.size w).alloc (b_ _) o;simp only [aS,hk];by_cases dZ:x.num=0
 .
  have yA:(x.num == 0)=true:=by simpa using dZ
  by_cases fC:x.str = []
  .
   have yB:x.str.isEmpty=true:=by simpa using fC
   by_cases jo:x.id=0
   .
    have DT:(x.id == 0)=true:=by simpa using jo
    by_cases gG:x.keys.length=0
    .
     have wE:((x.keys.length:Int) == 0)=true:=by simp [gG]
     by_cases kY:x.items.length=0
     .
      have DU:((x.items.length:Int) == 0)=true:=by simp [kY]
      by_cases jv:x.rest.length=0
      .
       have xW:((x.rest.length:Int) == 0)=true:=by simp [jv]
       have hs:Hid (aA x=true):=by show _=_;simp [aA,hk,dZ,fC,jo,gG,kY,jv]
       rw [hs.out];clear dZ fC jo gG kY jv hk;exact W_
      have xW:((x.rest.length:Int) == 0)=false:=vJ.2 (by omega);have hs:Hid (aA x=false):=by show _=_;simp [aA,hk,jv]
      rw [hs.out];clear dZ fC jo gG kY jv hk;exact W_
     have DU:((x.items.length:Int) == 0)=false:=vJ.2 (by omega);have hs:Hid (aA x=false):=by show _=_;simp [aA,hk,kY]
     rw [hs.out];clear dZ fC jo gG kY hk;exact W_
    have wE:((x.keys.length:Int) == 0)=false:=vJ.2 (by omega);have hs:Hid (aA x=false):=by show _=_;simp [aA,hk,gG]
    rw [hs.out];clear dZ fC jo gG hk;exact W_
   have DT:(x.id == 0)=false:=by simpa using jo
   have hs:Hid (aA x=false):=by show _=_;simp [aA,hk,jo]
   rw [hs.out];clear dZ fC jo hk;exact W_
  have yB:x.str.isEmpty=false:=by simpa using fC
  have hs:Hid (aA x=false):=by show _=_;simp [aA,hk,fC]
  rw [hs.out];clear dZ fC hk;exact W_
 have yA:(x.num == 0)=false:=by simpa using dZ
 have hs:Hid (aA x=false):=by show _=_;simp [aA,hk,dZ]
 rw [hs.out];clear dZ hk;exact W_
theorem zFz {p:Prop} (h:p:=by
 have wF:x.bool=true:=by simpa using bI
 have hs:Hid (aA x=false):=by show _=_;simp [aA,hk,bI]
 rw [hs.out];clear bI hk;exact W_):p:=h
theorem Q9 (x:Val) (A1 A2 A3:Option Addr) (n1 n2 n3:Nat) (w:World) (hk:x.kind=2) :
  Calls Tryz.prog 54 #[aS x (.slice A1 x.keys.length n1) (.slice A2 x.items.length n2) (.slice A3 x.rest.length n3)] w (RT w (.bool (aA x))):=by
 have h01:=fun o => (j_ w.heap.size w).alloc (b_ _) o;simp only [aS,hk];by_cases bI:x.bool=false
 .
  have wF:x.bool=false:=bI;by_cases fC:x.str = []
  .
   have yB:x.str.isEmpty=true:=by simpa using fC
   by_cases jo:x.id=0
   .
    have DT:(x.id == 0)=true:=by simpa using jo
    by_cases gG:x.keys.length=0
    .
     have wE:((x.keys.length:Int) == 0)=true:=by simp [gG]
     by_cases kY:x.items.length=0
     .
      have DU:((x.items.length:Int) == 0)=true:=by simp [kY]
      by_cases jv:x.rest.length=0
      .
       have xW:((x.rest.length:Int) == 0)=true:=by simp [jv]
       have hs:Hid (aA x=true):=by show _=_;simp [aA,hk,bI,fC,jo,gG,kY,jv]
       rw [hs.out];clear bI fC jo gG kY jv hk;exact W_
      have xW:((x.rest.length:Int) == 0)=false:=vJ.2 (by omega);have hs:Hid (aA x=false):=by show _=_;simp [aA,hk,jv]
      rw [hs.out];clear bI fC jo gG kY jv hk;exact W_
     have DU:((x.items.length:Int) == 0)=false:=vJ.2 (by omega);have hs:Hid (aA x=false):=by show _=_;simp [aA,hk,kY]
     rw [hs.out];clear bI fC jo gG kY hk;exact W_
    have wE:((x.keys.length:Int) == 0)=false:=vJ.2 (by omega);have hs:Hid (aA x=false):=by show _=_;simp [aA,hk,gG]
    rw [hs.out];clear bI fC jo gG hk;exact W_
   have DT:(x.id == 0)=false:=by simpa using jo
   have hs:Hid (aA x=false):=by show _=_;simp [aA,hk,jo]
   rw [hs.out];clear bI fC jo hk;exact W_
  have yB:x.str.isEmpty=false:=by simpa using fC
  have hs:Hid (aA x=false):=by show _=_;simp [aA,hk,fC]
  rw [hs.out];clear bI fC hk;exact W_
 exact zFz
theorem zGa {p:Prop} (h:p:=by
 have yA:(x.num == 0)=false:=by simpa using dZ
 have hs:Hid (aA x=false):=by show _=_;simp [aA,hk,dZ]
 rw [hs.out];clear bI dZ hk;exact W_):p:=h
theorem Rf (x:Val) (A1 A2 A3:Option Addr) (n1 n2 n3:Nat) (w:World) (hk:x.kind=3) :
  Calls Tryz.prog 54 #[aS x (.slice A1 x.keys.length n1) (.slice A2 x.items.length n2) (.slice A3 x.rest.length n3)] w (RT w (.bool (aA x))):=by
 have h01:=fun o => (j_ w.heap.size w).alloc (b_ _) o;simp only [aS,hk];by_cases bI:x.bool=false
 .
  have wF:x.bool=false:=bI;by_cases dZ:x.num=0
  .
   have yA:(x.num == 0)=true:=by simpa using dZ
   by_cases jo:x.id=0
   .
    have DT:(x.id == 0)=true:=by simpa using jo
    by_cases gG:x.keys.length=0
    .
     have wE:((x.keys.length:Int) == 0)=true:=by simp [gG]
     by_cases kY:x.items.length=0
     .
      have DU:((x.items.length:Int) == 0)=true:=by simp [kY]
      by_cases jv:x.rest.length=0
      .
       have xW:((x.rest.length:Int) == 0)=true:=by simp [jv]
       have hs:Hid (aA x=true):=by show _=_;simp [aA,hk,bI,dZ,jo,gG,kY,jv]
       rw [hs.out];clear bI dZ jo gG kY jv hk;exact W_
      have xW:((x.rest.length:Int) == 0)=false:=vJ.2 (by omega);have hs:Hid (aA x=false):=by show _=_;simp [aA,hk,jv]
      rw [hs.out];clear bI dZ jo gG kY jv hk;exact W_
     have DU:((x.items.length:Int) == 0)=false:=vJ.2 (by omega);have hs:Hid (aA x=false):=by show _=_;simp [aA,hk,kY]
     rw [hs.out];clear bI dZ jo gG kY hk;exact W_
    have wE:((x.keys.length:Int) == 0)=false:=vJ.2 (by omega);have hs:Hid (aA x=false):=by show _=_;simp [aA,hk,gG]
    rw [hs.out];clear bI dZ jo gG hk;exact W_
   have DT:(x.id == 0)=false:=by simpa using jo
   have hs:Hid (aA x=false):=by show _=_;simp [aA,hk,jo]
   rw [hs.out];clear bI dZ jo hk;exact W_
  exact zGa
 exact zFz
theorem zGb {p:Prop} (h:p:=by
 have yB:x.str.isEmpty=false:=by simpa using fC
 have hs:Hid (aA x=false):=by show _=_;simp [aA,hk,fC]
 rw [hs.out];clear bI dZ fC hk;exact W_):p:=h
theorem zHa {p:Prop} (h:p:=by
 have wE:((x.keys.length:Int) == 0)=false:=vJ.2 (by omega);have hs:Hid (aA x=false):=by show _=_;simp [aA,hk,gG]
 rw [hs.out];clear bI dZ fC gG hk;exact W_):p:=h
theorem Rh (x:Val) (A1 A2 A3:Option Addr) (n1 n2 n3:Nat) (w:World) (hk:x.kind=4) :
  Calls Tryz.prog 54 #[aS x (.slice A1 x.keys.length n1) (.slice A2 x.items.length n2) (.slice A3 x.rest.length n3)] w (RT w (.bool (aA x))):=by
 have h01:=fun o => (j_ w.heap.size w).alloc (b_ _) o;simp only [aS,hk];by_cases bI:x.bool=false
 .
  have wF:x.bool=false:=bI;by_cases dZ:x.num=0
  .
   have yA:(x.num == 0)=true:=by simpa using dZ
   by_cases fC:x.str = []
   .
    have yB:x.str.isEmpty=true:=by simpa using fC
    by_cases gG:x.keys.length=0
    .
     have wE:((x.keys.length:Int) == 0)=true:=by simp [gG]
     by_cases kY:x.items.length=0
     .
      have DU:((x.items.length:Int) == 0)=true:=by simp [kY]
      by_cases jv:x.rest.length=0
      .
       have xW:((x.rest.length:Int) == 0)=true:=by simp [jv]
       have hs:Hid (aA x=true):=by show _=_;simp [aA,hk,bI,dZ,fC,gG,kY,jv]
       rw [hs.out];clear bI dZ fC gG kY jv hk;exact W_
      have xW:((x.rest.length:Int) == 0)=false:=vJ.2 (by omega);have hs:Hid (aA x=false):=by show _=_;simp [aA,hk,jv]
      rw [hs.out];clear bI dZ fC gG kY jv hk;exact W_
     have DU:((x.items.length:Int) == 0)=false:=vJ.2 (by omega);have hs:Hid (aA x=false):=by show _=_;simp [aA,hk,kY]
     rw [hs.out];clear bI dZ fC gG kY hk;exact W_
    exact zHa
   exact zGb
  exact zGa
 exact zFz
theorem zGk {p:Prop} (h:p:=by
 have DT:(x.id == 0)=false:=by simpa using jo
 have hs:Hid (aA x=false):=by show _=_;simp [aA,hk,jo]
 rw [hs.out];clear bI dZ fC jo hk;exact W_):p:=h
theorem zHv {p:Prop} (h:p:=by
 have wE:((x.keys.length:Int) == 0)=false:=vJ.2 (by omega);have hs:Hid (aA x=false):=by show _=_;simp [aA,hk,gG]
 rw [hs.out];clear bI dZ fC jo gG hk;exact W_):p:=h
theorem Ri (x:Val) (A1 A2 A3:Option Addr) (n1 n2 n3:Nat) (w:World) (hk:x.kind=5) :
  Calls Tryz.prog 54 #[aS x (.slice A1 x.keys.length n1) (.slice A2 x.items.length n2) (.slice A3 x.rest.length n3)] w (RT w (.bool (aA x))):=by
 have h01:=fun o => (j_ w.heap.size w).alloc (b_ _) o;simp only [aS,hk];by_cases bI:x.bool=false
 .
  have wF:x.bool=false:=bI;by_cases dZ:x.num=0
  .
   have yA:(x.num == 0)=true:=by simpa using dZ
   by_cases fC:x.str = []
   .
    have yB:x.str.isEmpty=true:=by simpa using fC
    by_cases jo:x.id=0
    .
     have DT:(x.id == 0)=true:=by simpa using jo
     by_cases gG:x.keys.length=0
     .
      have wE:((x.keys.length:Int) == 0)=true:=by simp [gG]
      have hs:Hid (aA x=true):=by show _=_;simp [aA,hk,bI,dZ,fC,jo,gG]
      rw [hs.out];clear bI dZ fC jo gG hk;exact W_
     exact zHv
    exact zGk
   exact zGb
  exact zGa
 exact zFz
theorem Rj (x:Val) (A1 A2 A3:Option Addr) (n1 n2 n3:Nat) (w:World) (hk:x.kind=6) :
  Calls Tryz.prog 54 #[aS x (.slice A1 x.keys.length n1) (.slice A2 x.items.length n2) (.slice A3 x.rest.length n3)] w (RT w (.bool (aA x))):=by
 have h01:=fun o => (j_ w.heap.size w).alloc (b_ _) o;simp only [aS,hk];by_cases bI:x.bool=false
 .
  have wF:x.bool=false:=bI;by_cases dZ:x.num=0
  .
   have yA:(x.num == 0)=true:=by simpa using dZ
   by_cases fC:x.str = []
   .
    have yB:x.str.isEmpty=true:=by simpa using fC
    by_cases gG:x.keys.length=0
    .
     have wE:((x.keys.length:Int) == 0)=true:=by simp [gG]
     have hs:Hid (aA x=true):=by show _=_;simp [aA,hk,bI,dZ,fC,gG]
     rw [hs.out];clear bI dZ fC gG hk;exact W_
    exact zHa
   exact zGb
  exact zGa
 exact zFz
theorem zFy {p:Prop} (h:p:=by
 have h01:=fun o => (j_ w.heap.size w).alloc (b_ _) o;simp only [aS,hk];by_cases bI:x.bool=false
 .
  have wF:x.bool=false:=bI;by_cases dZ:x.num=0
  .
   have yA:(x.num == 0)=true:=by simpa using dZ
   by_cases fC:x.str = []
   .
    have yB:x.str.isEmpty=true:=by simpa using fC
    by_cases jo:x.id=0
    .
     have DT:(x.id == 0)=true:=by simpa using jo
     by_cases gG:x.keys.length=0
     .
      have wE:((x.keys.length:Int) == 0)=true:=by simp [gG]
      by_cases jv:x.rest.length=0
      .
       have xW:((x.rest.length:Int) == 0)=true:=by simp [jv]
       have hs:Hid (aA x=true):=by show _=_;simp [aA,hk,bI,dZ,fC,jo,gG,jv]
       rw [hs.out];clear bI dZ fC jo gG jv hk;exact W_
      have xW:((x.rest.length:Int) == 0)=false:=vJ.2 (by omega);have hs:Hid (aA x=false):=by show _=_;simp [aA,hk,jv]
      rw [hs.out];clear bI dZ fC jo gG jv hk;exact W_
     exact zHv
    have DT:(x.id == 0)=false:=by simpa using jo
    have hs:Hid (aA x=false):=by show _=_;simp [aA,hk,jo]
    rw [hs.out];clear bI dZ fC jo hk;exact W_
   have yB:x.str.isEmpty=false:=by simpa using fC
   have hs:Hid (aA x=false):=by show _=_;simp [aA,hk,fC]
   rw [hs.out];clear bI dZ fC hk;exact W_
  have yA:(x.num == 0)=false:=by simpa using dZ
  have hs:Hid (aA x=false):=by show _=_;simp [aA,hk,dZ]
  rw [hs.out];clear bI dZ hk;exact W_
 have wF:x.bool=true:=by simpa using bI
 have hs:Hid (aA x=false):=by show _=_;simp [aA,hk,bI]
 rw [hs.out];clear bI hk;exact W_):p:=h
theorem Rk (x:Val) (A1 A2 A3:Option Addr) (n1 n2 n3:Nat) (w:World) (hk:x.kind=7) :
  Calls Tryz.prog 54 #[aS x (.slice A1 x.keys.length n1) (.slice A2 x.items.length n2) (.slice A3 x.rest.length n3)] w (RT w (.bool (aA x))):=by
 exact zFy
theorem Rl (x:Val) (A1 A2 A3:Option Addr) (n1 n2 n3:Nat) (w:World) (hk:x.kind=8) :
  Calls Tryz.prog 54 #[aS x (.slice A1 x.keys.length n1) (.slice A2 x.items.length n2) (.slice A3 x.rest.length n3)] w (RT w (.bool (aA x))):=by
 have h01:=fun o => (j_ w.heap.size w).alloc (b_ _) o;simp only [aS,hk];by_cases bI:x.bool=false
 .
  have wF:x.bool=false:=bI;by_cases dZ:x.num=0
  .
   have yA:(x.num == 0)=true:=by simpa using dZ
   by_cases fC:x.str = []
   .
    have yB:x.str.isEmpty=true:=by simpa using fC
    by_cases jo:x.id=0
    .
     have DT:(x.id == 0)=true:=by simpa using jo
     by_cases jv:x.rest.length=0
     .
      have xW:((x.rest.length:Int) == 0)=true:=by simp [jv]
      have hs:Hid (aA x=true):=by show _=_;simp [aA,hk,bI,dZ,fC,jo,jv]
      rw [hs.out];clear bI dZ fC jo jv hk;exact W_
     have xW:((x.rest.length:Int) == 0)=false:=vJ.2 (by omega);have hs:Hid (aA x=false):=by show _=_;simp [aA,hk,jv]
     rw [hs.out];clear bI dZ fC jo jv hk;exact W_
    exact zGk
   exact zGb
  exact zGa
 exact zFz
theorem Rn (x:Val) (A1 A2 A3:Option Addr) (n1 n2 n3:Nat) (w:World) (hk:x.kind=9) :
  Calls Tryz.prog 54 #[aS x (.slice A1 x.keys.length n1) (.slice A2 x.items.length n2) (.slice A3 x.rest.length n3)] w (RT w (.bool (aA x))):=by
 exact zFy
def aeV (o:Option Nat):Int:=match o with | some k => k | none => 0
theorem WY (o:Option Nat):xg o = .tuple #[.int .i64 (aeV o),.bool o.isSome]:=by cases o <;> rfl
theorem zDx {p:Prop} (h:p:=by
 go_wp2_with fail;go_quiet ((go_at_call 55;exact wP.out _))
 go_wp2_with fail;go_ret;exact ⟨au (by rw [jB.out];rfl),below_drewN h05 _⟩):p:=h
theorem zGs {p:Prop} (h:p:=by
 rw [lY] at jB;simp only [QG];have wP:=fun (n:Nat) => Calls.quiet_of_same (n:=n) ((EX q true (w5.drewN n)).mono fun _ _ ⟨h1,h2⟩ => ⟨h1,h2.symm⟩);simp only [Xl,U_] at wP;have wP:=f_ wP;clear lY;exact zDx):p:=h
theorem acN (x:ay) (vs vm:Value) (l:List Raw) (vl:Value) (w:World) (hl:l.length<=140737488351232) (hx:jc w w.heap.size x vs vm) (hr:Rd w w.heap.size 2 vl l.length (jO l)) :
  Calls Tryz.prog 56 #[dA x vs vm,vl] w (RT w (.bool (xK x l none))):=by
 obtain ⟨C1,m1,C2,m2,rfl,rfl,-,-⟩:=hx.forms;obtain ⟨A,cap,rfl,hcap⟩:=hr.form;have h01:=(j_ w.heap.size w).alloc (b_ _) (.cells #[.int .i64 x.kind,.string ⟨x.name.toArray⟩,.int .i64 x.low,.int .i64 x.high,.int .i64 x.max,.slice C1 x.syms.length m1,.slice C2 x.ah.length m2,.int .i64 x.key,.int .i64 x.elem,.bool x.opn] 72);have hY:=Has.made w 72 #[.int .i64 x.kind,.string ⟨x.name.toArray⟩,.int .i64 x.low,.int .i64 x.high,.int .i64 x.max,.slice C1 x.syms.length m1,.slice C2 x.ah.length m2,.int .i64 x.key,.int .i64 x.elem,.bool x.opn];have HX:=f_ (hx.on h01);have HR:=f_ ((hr.below h01).mono h01.size);clear hx hr;go_enter Tryz.func56,Tryz.ntmps56
 go_wp2_with fail;generalize w.alloc (.cells #[.int .i64 x.kind,.string ⟨x.name.toArray⟩,.int .i64 x.low,.int .i64 x.high,.int .i64 x.max,.slice C1 x.syms.length m1,.slice C2 x.ah.length m2,.int .i64 x.key,.int .i64 x.elem,.bool x.opn] 72)=w1 at *;have hz1:=hY.here;have HY:=f_ hY;clear hY;go_loopw [5] (fun i wr => ∃ k:Nat,i = .int .i64 k/\k<=l.length/\xK x l none=xK x (l.drop k) (nD l k)/\Below w1.heap.size w1 wr) (fun i _ => l.length - (intOf i).toNat)
 case atStart => exact ⟨0,rfl,by omega,rfl,j_ _ _⟩
 case round =>
  obtain ⟨k,rfl,hk,hix,hb⟩:=hrel;have q0:=(HY.out.below hb hz1).cell 0;have q1:=(HY.out.below hb hz1).cell 1;have q2:=(HY.out.below hb hz1).cell 2;have q3:=(HY.out.below hb hz1).cell 3;have q4:=(HY.out.below hb hz1).cell 4;have q5:=(HY.out.below hb hz1).cell 5;have q6:=(HY.out.below hb hz1).cell 6;have q7:=(HY.out.below hb hz1).cell 7;have q8:=(HY.out.below hb hz1).cell 8;have q9:=(HY.out.below hb hz1).cell 9;simp only [qI] at q0 q1 q2 q3 q4 q5 q6 q7 q8 q9;have h0r:=h01.trans (hb.mono h01.size);by_cases hlt:k < l.length
  .
   obtain ⟨br,or,rfl,am7,her⟩:=(HR.out.below hb).at_ (by omega);have hbr:br < wr.heap.size:=vK am7 hb.size;obtain ⟨r0,r1⟩:=qy her k hlt;rw [aed x l k hlt,<- tZ l k hlt] at hix;rcases k with _ | j
   .
    generalize l[0].1=q at *;generalize l[0].2=z at *;simp only [Nat.zero_mul,Uu] at r0 r1;have hi1:(0:Int) < l.length:=by omega
    have jB:=f_ hix;clear her hix r1;have hzw:w.heap.size < wr.heap.size:=vK hz1 hb.size;have HM:=f_ (fun W h => xC x (.slice C1 x.syms.length m1) (.slice C2 x.ah.length m2) q W h);simp only [dA,WY] at HM;have Dt:=f_ (HX.out.on hb);have r0':wr.cell? ⟨br,or,none⟩=some (.int .i64 q):=by simpa using r0
    obtain ⟨wo,rfl⟩ : ∃ wo:World,wo=wr:=⟨_,rfl⟩
    go_upto_region 4 with (fail)
    go_cut [6,7] from 8 to 49 (fun s6 s7 wx => s6 = .int .i64 (aeV (dN x q))/\s7 = .bool (dN x q).isSome/\Below wo.heap.size wo wx)
    case first =>
     go_region_held3 (fun w' => w'.cell? ⟨w.heap.size,0,none⟩=some (.int .i64 x.kind)/\w'.cell? ⟨w.heap.size,1,none⟩=some (.string ⟨x.name.toArray⟩)/\w'.cell? ⟨w.heap.size,2,none⟩=some (.int .i64 x.low)/\w'.cell? ⟨w.heap.size,3,none⟩=some (.int .i64 x.high)/\w'.cell? ⟨w.heap.size,4,none⟩=some (.int .i64 x.max)/\w'.cell? ⟨w.heap.size,5,none⟩=some (.slice C1 x.syms.length m1)/\w'.cell? ⟨w.heap.size,6,none⟩=some (.slice C2 x.ah.length m2)/\w'.cell? ⟨w.heap.size,7,none⟩=some (.int .i64 x.key)/\w'.cell? ⟨w.heap.size,8,none⟩=some (.int .i64 x.elem)/\w'.cell? ⟨w.heap.size,9,none⟩=some (.bool x.opn)/\w'.cell? ⟨br,or,none⟩=some (.int .i64 q)) (first | (go_keep;done) | exact ⟨p0,p1,p2,p3,p4,p5,p6,p7,p8,p9,pr⟩)
      (first
       | (go_at_call 31;(with_reducible refine (HM.out _ (Dt.out.on (w':=wo.drew) (j_ _ _).drew)).mono ?_);rintro e wn ⟨rfl,hbn⟩;have qG:Below wo.heap.size wo wn:=((j_ wo.heap.size wo).drew).trans hbn;have p0:=(qG.cell (p:=⟨w.heap.size,0,none⟩) hzw).trans q0;have p1:=(qG.cell (p:=⟨w.heap.size,1,none⟩) hzw).trans q1;have p2:=(qG.cell (p:=⟨w.heap.size,2,none⟩) hzw).trans q2;have p3:=(qG.cell (p:=⟨w.heap.size,3,none⟩) hzw).trans q3;have p4:=(qG.cell (p:=⟨w.heap.size,4,none⟩) hzw).trans q4;have p5:=(qG.cell (p:=⟨w.heap.size,5,none⟩) hzw).trans q5;have p6:=(qG.cell (p:=⟨w.heap.size,6,none⟩) hzw).trans q6;have p7:=(qG.cell (p:=⟨w.heap.size,7,none⟩) hzw).trans q7;have p8:=(qG.cell (p:=⟨w.heap.size,8,none⟩) hzw).trans q8;have p9:=(qG.cell (p:=⟨w.heap.size,9,none⟩) hzw).trans q9;have pr:=(qG.cell (p:=⟨br,or,none⟩) hbr).trans r0';clear hbn))
     all_goals
      go_wp2_with fail;go_meet
      exact ⟨rfl,rfl,qG⟩
    case rest =>
     obtain ⟨rfl,rfl,hb5⟩:=hcut;obtain ⟨w5,rfl⟩ : ∃ w5:World,w5=wc:=⟨_,rfl⟩
     have WZ:=hb.trans (hb5.mono hb.size);have h05:=h0r.trans (hb5.mono h0r.size);have p0:=(hb5.cell (p:=⟨br,or,none⟩) hbr).trans r0'
     skip
     clear hb5 hb h0r r0 r0' q0 q1 q2 q3 q4 q5 q6 q7 q8 q9 Dt HM;cases lY:dN x q with
     | some i =>
      exact zGs
     | none =>
      rw [lY] at jB;simp only [QH];have wP:=fun (n:Nat) => Calls.quiet_of_same (n:=n) ((EX q false (w5.drewN n)).mono fun _ _ ⟨h1,h2⟩ => ⟨h1,h2.symm⟩);simp only [VO,E_] at wP;clear lY;cases hfr:mM q
      .
       rw [hfr] at wP jB;have wP:=f_ wP;clear hfr;exact zDx
      rw [hfr] at wP jB;have wP:=f_ wP;clear hfr;go_wp2_with fail;go_quiet ((go_at_call 55;exact wP.out _))
      go_wp2_with fail;go_roundw
      case rel => exact ⟨1,by go_num,by omega,by rw [jB.out];simp [nD,xH],below_drewN WZ _⟩
      case measure => simp [intOf];omega
   obtain ⟨s0,-⟩:=qy her j (by omega);have Hpp:Hid (nD l (j+1)=some l[j].1):=tZ l j (by omega);generalize l[j+1].1=q at *;generalize l[j+1].2=z at *;generalize l[j].1=u at *;have hi1:(j:Int)+1 < l.length:=by omega
   have hi2:(j:Int) < l.length:=by omega
   have hw0:IntKind.i64.wrap (j:Int)=j:=FD _ (by omega);have hw1:IntKind.i64.wrap ((j:Int)+1 - 1)=j:=by rw [Int.add_sub_cancel];exact hw0
   have hw2:((j:Int)+1).toNat=j+1:=by omega
   have hw3:0<=(j:Int)+1:=by omega
   have hw4:decide ((0:Int) < (j:Int)+1)=true:=t_ (by omega);rw [Hpp.out] at hix;have jB:=f_ hix;clear her hix r1;have hzw:w.heap.size < wr.heap.size:=vK hz1 hb.size;have HM:=f_ (fun W h => xC x (.slice C1 x.syms.length m1) (.slice C2 x.ah.length m2) q W h);simp only [dA,WY] at HM;have Dt:=f_ (HX.out.on hb);have r0':wr.cell? ⟨br,or+(j+1)*2,none⟩=some (.int .i64 q):=by simpa using r0
   obtain ⟨wo,rfl⟩ : ∃ wo:World,wo=wr:=⟨_,rfl⟩
   go_upto_region 4 with (fail)
   go_cut [6,7] from 8 to 49 (fun s6 s7 wx => s6 = .int .i64 (aeV (dN x q))/\s7 = .bool (dN x q).isSome/\Below wo.heap.size wo wx)
   case first =>
    go_region_held3 (fun w' => w'.cell? ⟨w.heap.size,0,none⟩=some (.int .i64 x.kind)/\w'.cell? ⟨w.heap.size,1,none⟩=some (.string ⟨x.name.toArray⟩)/\w'.cell? ⟨w.heap.size,2,none⟩=some (.int .i64 x.low)/\w'.cell? ⟨w.heap.size,3,none⟩=some (.int .i64 x.high)/\w'.cell? ⟨w.heap.size,4,none⟩=some (.int .i64 x.max)/\w'.cell? ⟨w.heap.size,5,none⟩=some (.slice C1 x.syms.length m1)/\w'.cell? ⟨w.heap.size,6,none⟩=some (.slice C2 x.ah.length m2)/\w'.cell? ⟨w.heap.size,7,none⟩=some (.int .i64 x.key)/\w'.cell? ⟨w.heap.size,8,none⟩=some (.int .i64 x.elem)/\w'.cell? ⟨w.heap.size,9,none⟩=some (.bool x.opn)/\w'.cell? ⟨br,or+(j+1)*2,none⟩=some (.int .i64 q)) (first | (go_keep;done) | exact ⟨p0,p1,p2,p3,p4,p5,p6,p7,p8,p9,pr⟩)
     (first
      | (go_at_call 31;(with_reducible refine (HM.out _ (Dt.out.on (w':=wo.drew) (j_ _ _).drew)).mono ?_);rintro e wn ⟨rfl,hbn⟩;have qG:Below wo.heap.size wo wn:=((j_ wo.heap.size wo).drew).trans hbn;have p0:=(qG.cell (p:=⟨w.heap.size,0,none⟩) hzw).trans q0;have p1:=(qG.cell (p:=⟨w.heap.size,1,none⟩) hzw).trans q1;have p2:=(qG.cell (p:=⟨w.heap.size,2,none⟩) hzw).trans q2;have p3:=(qG.cell (p:=⟨w.heap.size,3,none⟩) hzw).trans q3;have p4:=(qG.cell (p:=⟨w.heap.size,4,none⟩) hzw).trans q4;have p5:=(qG.cell (p:=⟨w.heap.size,5,none⟩) hzw).trans q5;have p6:=(qG.cell (p:=⟨w.heap.size,6,none⟩) hzw).trans q6;have p7:=(qG.cell (p:=⟨w.heap.size,7,none⟩) hzw).trans q7;have p8:=(qG.cell (p:=⟨w.heap.size,8,none⟩) hzw).trans q8;have p9:=(qG.cell (p:=⟨w.heap.size,9,none⟩) hzw).trans q9;have pr:=(qG.cell (p:=⟨br,or+(j+1)*2,none⟩) hbr).trans r0';clear hbn))
    all_goals
     go_wp2_with fail;go_meet
     exact ⟨rfl,rfl,qG⟩
   case rest =>
    obtain ⟨rfl,rfl,hb5⟩:=hcut;obtain ⟨w5,rfl⟩ : ∃ w5:World,w5=wc:=⟨_,rfl⟩
    have WZ:=hb.trans (hb5.mono hb.size);have h05:=h0r.trans (hb5.mono h0r.size);have p0:=(hb5.cell (p:=⟨br,or+(j+1)*2,none⟩) hbr).trans r0';have ps:=(hb5.cell (p:=⟨br,or+j*2,none⟩) hbr).trans s0;clear hb5 hb h0r r0 r0' q0 q1 q2 q3 q4 q5 q6 q7 q8 q9 Dt HM;cases lY:dN x q with
    | some i =>
     exact zGs
    | none =>
     rw [lY] at jB;simp only [QH];have wP:=fun (n:Nat) => Calls.quiet_of_same (n:=n) ((EX q false (w5.drewN n)).mono fun _ _ ⟨h1,h2⟩ => ⟨h1,h2.symm⟩);simp only [VO,E_] at wP;clear lY;cases hfr:mM q
     .
      rw [hfr] at wP jB;have wP:=f_ wP;clear hfr;exact zDx
     rw [hfr] at wP jB;have wP:=f_ wP;clear hfr;by_cases hlq:u < q
     .
      have hd:decide (q<=u)=false:=h_ (by omega);simp only [xH,t_ hlq,QH,VO,E_] at jB;go_wp2_with fail;go_quiet ((go_at_call 55;exact wP.out _))
      clear hw0 hw1 hw2 hw3 hw4;go_wp2_with fail;go_roundw
      case rel => exact ⟨j+1+1,by go_num,by omega,jB.out,below_drewN WZ _⟩
      case measure => simp [intOf];omega
     have hd:decide (q<=u)=true:=t_ (by omega);simp only [xH,h_ hlq,U_,Bool.and_false] at jB;go_wp2_with fail;go_quiet ((go_at_call 55;exact wP.out _))
     clear hw0 hw1 hw2 hw3 hw4;go_wp2_with fail;go_ret;exact ⟨au (by rw [jB.out]),below_drewN h05 _⟩
  rw [L_ (by omega),xK] at hix;have jB:=f_ hix;clear hix;go_wp2_with fail;go_ret;exact ⟨au (by rw [jB.out]),h0r⟩
theorem zCw {p:Prop} (h:p:=by
 simp only [aS,hkv,hp] at HP;have HF:=f_ hf;have HT:=f_ ht;have HV:=f_ hv;have HX:=f_ hx;have xI:=f_ hkx;have Ul:=f_ hkv;have hxs:=hx.lens;have hvl:=hv.lens;clear hf ht hv hx hkx hkv hp hn;go_enter Tryz.func32,Tryz.ntmps32
 go_wp2_with fail;refine (HP.out _).mono ?_;rintro e w2 ⟨rfl,hb2⟩;have HS:=(((Has.made _ _ _).alloc _).alloc _).below hb2 (by simp;omega);have HW:=((Has.made _ _ _).alloc _).below hb2 (by simp);have HY:=(Has.made _ _ _).below hb2 (by simp);rw [jG] at HW;rw [jG,jG] at HY;have h02:=(h3b _ _ _).trans (hb2.mono (h3b _ _ _).size);have hz2:=HY.here;have HT:=f_ (HT.out.on h02);have HV:=f_ (HV.out.on h02);have HX:=f_ (HX.out.keep (fun _ hp => h02.cell hp) h02.size);obtain ⟨v0,v1,v2,v3,v4,v5,v6,v7⟩:=HW.c8;obtain ⟨t0,t1,t2,t3,t4,t5,t6,t7,t8,t9⟩:=HY.c10;have s0:=HS.cell 0;simp only [qI] at s0;clear hb2 h3b c0 c1 c2 c3 c4 c5 c6 c7 c8 c9;have HS:=f_ HS;have HW:=f_ HW;have HY:=f_ HY;go_wp2_with fail;go_ret;exact ⟨au (by simp [ig,xI.out]),h02⟩):p:=h
theorem IL
 (ts:List ay) (A:Option Addr) (c n:Nat) (v:Val) (A1 A2 A3:Option Addr) (n1 n2 n3:Nat) (w:World) (hn:n < ts.length) (hkx:ts[n].kind=1) (hkv:v.kind=1) (hp:aA v=true)
 (ht:aU w w.heap.size (.slice A ts.length c) ts) (hv:ValAt w w.heap.size v (.slice A1 v.keys.length n1) (.slice A2 v.items.length n2) (.slice A3 v.rest.length n3))
 (hf:∀ t,zL 32 ts (.slice A ts.length c) t false (fun y => cO ts false y t) (v.keys ++ v.items)) :
 Calls Tryz.prog 32 #[.agg #[.slice A ts.length c],.int .i64 n,aS v (.slice A1 v.keys.length n1) (.slice A2 v.items.length n2) (.slice A3 v.rest.length n3),.bool false] w (RT w (.bool (jT ts false ts[n] v))):=by
 have h3b:=KH w;obtain ⟨b,o,rfl,hbb,hel⟩:=ht.elem (by omega);obtain ⟨vs,vm,A_,hx⟩:=hel n hn;clear hel;generalize ts[n]=x at *;obtain ⟨C1,l1,C2,l2,rfl,rfl,-,-⟩:=hx.forms;obtain ⟨c0,c1,c2,c3,c4,c5,c6,c7,c8,c9⟩:=A_;have hlt:(n:Int) < ts.length:=by omega
 have hd0:decide ((n:Int) < 0)=false:=by simp
 have hd1:decide (ts.length<=n)=false:=by simpa using hn
 simp only [aS,hkv];rw [hkx] at c0;have HP:=f_ (fun W => Q8 v A1 A2 A3 n1 n2 n3 W hkv);exact zCw
theorem IQ
 (ts:List ay) (A:Option Addr) (c n:Nat) (v:Val) (A1 A2 A3:Option Addr) (n1 n2 n3:Nat) (w:World) (hn:n < ts.length) (hkx:ts[n].kind=2) (hkv:v.kind=2) (hp:aA v=true)
 (ht:aU w w.heap.size (.slice A ts.length c) ts) (hv:ValAt w w.heap.size v (.slice A1 v.keys.length n1) (.slice A2 v.items.length n2) (.slice A3 v.rest.length n3))
 (hf:∀ t,zL 32 ts (.slice A ts.length c) t false (fun y => cO ts false y t) (v.keys ++ v.items)) :
 Calls Tryz.prog 32 #[.agg #[.slice A ts.length c],.int .i64 n,aS v (.slice A1 v.keys.length n1) (.slice A2 v.items.length n2) (.slice A3 v.rest.length n3),.bool false] w (RT w (.bool (jT ts false ts[n] v))):=by
 have h3b:=KH w;obtain ⟨b,o,rfl,hbb,hel⟩:=ht.elem (by omega);obtain ⟨vs,vm,A_,hx⟩:=hel n hn;clear hel;generalize ts[n]=x at *;obtain ⟨C1,l1,C2,l2,rfl,rfl,-,-⟩:=hx.forms;obtain ⟨c0,c1,c2,c3,c4,c5,c6,c7,c8,c9⟩:=A_;have hlt:(n:Int) < ts.length:=by omega
 have hd0:decide ((n:Int) < 0)=false:=by simp
 have hd1:decide (ts.length<=n)=false:=by simpa using hn
 simp only [aS,hkv];rw [hkx] at c0;have HP:=f_ (fun W => Q9 v A1 A2 A3 n1 n2 n3 W hkv);simp only [aS,hkv,hp] at HP;have HF:=f_ hf;have HT:=f_ ht;have HV:=f_ hv;have HX:=f_ hx;have xI:=f_ hkx;have Ul:=f_ hkv;have hxs:=hx.lens;have hvl:=hv.lens;clear hf ht hv hx hkx hkv hp hn;go_enter Tryz.func32,Tryz.ntmps32
 go_wp2_with fail;refine (HP.out _).mono ?_;rintro e w2 ⟨rfl,hb2⟩;have HS:=(((Has.made _ _ _).alloc _).alloc _).below hb2 (by simp;omega);have HW:=((Has.made _ _ _).alloc _).below hb2 (by simp);have HY:=(Has.made _ _ _).below hb2 (by simp);rw [jG] at HW;rw [jG,jG] at HY;have h02:=(h3b _ _ _).trans (hb2.mono (h3b _ _ _).size);have hz2:=HY.here;have HT:=f_ (HT.out.on h02);have HV:=f_ (HV.out.on h02);have HX:=f_ (HX.out.keep (fun _ hp => h02.cell hp) h02.size);obtain ⟨v0,v1,v2,v3,v4,v5,v6,v7⟩:=HW.c8;obtain ⟨t0,t1,t2,t3,t4,t5,t6,t7,t8,t9⟩:=HY.c10;have s0:=HS.cell 0;simp only [qI] at s0;clear hb2 h3b c0 c1 c2 c3 c4 c5 c6 c7 c8 c9;have HS:=f_ HS;have HW:=f_ HW;have HY:=f_ HY;by_cases h1:x.low<=v.num
 .
  by_cases h2:v.num<=x.high
  all_goals
   go_wp2_with fail;go_ret;exact ⟨au (by simp [ig,xI.out,h1,h2]),h02⟩
 go_wp2_with fail;go_ret;exact ⟨au (by simp [ig,xI.out];intro h;omega),h02⟩
theorem IU
 (ts:List ay) (A:Option Addr) (c n:Nat) (v:Val) (A1 A2 A3:Option Addr) (n1 n2 n3:Nat) (w:World) (hn:n < ts.length) (hkx:ts[n].kind=3) (hkv:v.kind=3) (hp:aA v=true)
 (ht:aU w w.heap.size (.slice A ts.length c) ts) (hv:ValAt w w.heap.size v (.slice A1 v.keys.length n1) (.slice A2 v.items.length n2) (.slice A3 v.rest.length n3))
 (hf:∀ t,zL 32 ts (.slice A ts.length c) t false (fun y => cO ts false y t) (v.keys ++ v.items)) :
 Calls Tryz.prog 32 #[.agg #[.slice A ts.length c],.int .i64 n,aS v (.slice A1 v.keys.length n1) (.slice A2 v.items.length n2) (.slice A3 v.rest.length n3),.bool false] w (RT w (.bool (jT ts false ts[n] v))):=by
 have h3b:=KH w;obtain ⟨b,o,rfl,hbb,hel⟩:=ht.elem (by omega);obtain ⟨vs,vm,A_,hx⟩:=hel n hn;clear hel;generalize ts[n]=x at *;obtain ⟨C1,l1,C2,l2,rfl,rfl,-,-⟩:=hx.forms;obtain ⟨c0,c1,c2,c3,c4,c5,c6,c7,c8,c9⟩:=A_;have hlt:(n:Int) < ts.length:=by omega
 have hd0:decide ((n:Int) < 0)=false:=by simp
 have hd1:decide (ts.length<=n)=false:=by simpa using hn
 simp only [aS,hkv];rw [hkx] at c0;have HP:=f_ (fun W => Rf v A1 A2 A3 n1 n2 n3 W hkv);exact zCw
theorem IV
 (ts:List ay) (A:Option Addr) (c n:Nat) (v:Val) (A1 A2 A3:Option Addr) (n1 n2 n3:Nat) (w:World) (hn:n < ts.length) (hkx:ts[n].kind=4) (hkv:v.kind=4) (hp:aA v=true)
 (ht:aU w w.heap.size (.slice A ts.length c) ts) (hv:ValAt w w.heap.size v (.slice A1 v.keys.length n1) (.slice A2 v.items.length n2) (.slice A3 v.rest.length n3))
 (hf:∀ t,zL 32 ts (.slice A ts.length c) t false (fun y => cO ts false y t) (v.keys ++ v.items)) :
 Calls Tryz.prog 32 #[.agg #[.slice A ts.length c],.int .i64 n,aS v (.slice A1 v.keys.length n1) (.slice A2 v.items.length n2) (.slice A3 v.rest.length n3),.bool false] w (RT w (.bool (jT ts false ts[n] v))):=by
 have h3b:=KH w;obtain ⟨b,o,rfl,hbb,hel⟩:=ht.elem (by omega);obtain ⟨vs,vm,A_,hx⟩:=hel n hn;clear hel;generalize ts[n]=x at *;obtain ⟨C1,l1,C2,l2,rfl,rfl,-,-⟩:=hx.forms;obtain ⟨c0,c1,c2,c3,c4,c5,c6,c7,c8,c9⟩:=A_;have hlt:(n:Int) < ts.length:=by omega
 have hd0:decide ((n:Int) < 0)=false:=by simp
 have hd1:decide (ts.length<=n)=false:=by simpa using hn
 simp only [aS,hkv];rw [hkx] at c0;have HP:=f_ (fun W => Rh v A1 A2 A3 n1 n2 n3 W hkv);simp only [aS,hkv,hp] at HP;have HF:=f_ hf;have HT:=f_ ht;have HV:=f_ hv;have HX:=f_ hx;have xI:=f_ hkx;have Ul:=f_ hkv;have hxs:=hx.lens;have hvl:=hv.lens;clear hf ht hv hx hkx hkv hp hn;go_enter Tryz.func32,Tryz.ntmps32
 go_wp2_with fail;refine (HP.out _).mono ?_;rintro e w2 ⟨rfl,hb2⟩;have HS:=(((Has.made _ _ _).alloc _).alloc _).below hb2 (by simp;omega);have HW:=((Has.made _ _ _).alloc _).below hb2 (by simp);have HY:=(Has.made _ _ _).below hb2 (by simp);rw [jG] at HW;rw [jG,jG] at HY;have h02:=(h3b _ _ _).trans (hb2.mono (h3b _ _ _).size);have hz2:=HY.here;have HT:=f_ (HT.out.on h02);have HV:=f_ (HV.out.on h02);have HX:=f_ (HX.out.keep (fun _ hp => h02.cell hp) h02.size);obtain ⟨v0,v1,v2,v3,v4,v5,v6,v7⟩:=HW.c8;obtain ⟨t0,t1,t2,t3,t4,t5,t6,t7,t8,t9⟩:=HY.c10;have s0:=HS.cell 0;simp only [qI] at s0;clear hb2 h3b c0 c1 c2 c3 c4 c5 c6 c7 c8 c9;have HS:=f_ HS;have HW:=f_ HW;have HY:=f_ HY;have HM:=f_ (fun W h => Ol x (.slice C1 x.syms.length l1) (.slice C2 x.ah.length l2) v.id W h);simp only [dA,xI.out,xg] at HM;cases hsy:qm x v.id with
 | some i =>
  simp only [hsy,QG] at HM;have Oz:=f_ hsy;clear hsy;go_wp2_with fail;refine (HM.out _ HX.out).mono ?_;rintro e w3 ⟨rfl,hb3⟩;have h03:=h02.trans (hb3.mono h02.size);have HV:=f_ (HV.out.on hb3);have HT:=f_ (HT.out.on hb3);have HX:=f_ (HX.out.on hb3);have HS:=HS.out.below hb3 (by omega);have HW:=HW.out.below hb3 (by omega);have HY:=HY.out.below hb3 (by omega);have hz3:=HY.here;clear s0 v0 v1 v2 v3 v4 v5 v6 v7 t0 t1 t2 t3 t4 t5 t6 t7 t8 t9;have s0:=HS.cell 0;have v4:=HW.cell 4;have v5:=HW.cell 5;have v6:=HW.cell 6;have v7:=HW.cell 7;have t6:=HY.cell 6;have t8:=HY.cell 8;have t9:=HY.cell 9;simp only [qI] at s0 v4 v5 v6 v7 t6 t8 t9;have HS:=f_ HS;have HW:=f_ HW;have HY:=f_ HY;clear hb3 h02;go_wp2_with fail;go_ret;exact ⟨au (by simp [ig,xI.out,Oz.out]),h03⟩
 | none =>
  simp only [hsy,QH] at HM;have Oz:=f_ hsy;clear hsy;go_wp2_with fail;refine (HM.out _ HX.out).mono ?_;rintro e w3 ⟨rfl,hb3⟩;have h03:=h02.trans (hb3.mono h02.size);have HV:=f_ (HV.out.on hb3);have HT:=f_ (HT.out.on hb3);have HX:=f_ (HX.out.on hb3);have HS:=HS.out.below hb3 (by omega);have HW:=HW.out.below hb3 (by omega);have HY:=HY.out.below hb3 (by omega);have hz3:=HY.here;clear s0 v0 v1 v2 v3 v4 v5 v6 v7 t0 t1 t2 t3 t4 t5 t6 t7 t8 t9;have s0:=HS.cell 0;have v4:=HW.cell 4;have v5:=HW.cell 5;have v6:=HW.cell 6;have v7:=HW.cell 7;have t6:=HY.cell 6;have t8:=HY.cell 8;have t9:=HY.cell 9;simp only [qI] at s0 v4 v5 v6 v7 t6 t8 t9;have HS:=f_ HS;have HW:=f_ HW;have HY:=f_ HY;clear hb3 h02;cases hop:x.opn
  all_goals
   rw [hop] at t9;have Hop:=f_ hop;clear hop
  .
   go_wp2_with fail;go_ret;exact ⟨au (by simp [ig,xI.out,Oz.out,Hop.out]),h03⟩
  go_wp2_with (go_at_call 55;refine (EX _ _ _).mono ?_;rintro e w' ⟨rfl,rfl⟩)
  go_ret;exact ⟨au (by simp [ig,xI.out,Oz.out,Hop.out]),h03⟩
theorem zEl {p:Prop} (h:p:=by
 have Hr:Hid (jT ts false x v=rC ts false v.items x.elem):=by show _=_;simp [ig,xI.out,h1]
 clear h1;go_wp2_with fail;refine (HE.out _ HV.out.items HT.out).mono ?_;rintro e w3 ⟨rfl,hb3⟩;go_wp2_with fail;go_ret;exact ⟨au (by rw [Hr.out]),h02.trans (hb3.mono h02.size)⟩):p:=h
theorem zFm {p:Prop} (h:p:=by
 have Hr:Hid (jT ts false x v=false):=by show _=_;simp [ig,xI.out,h1]
 clear h1;go_wp2_with fail;go_ret;exact ⟨au (by rw [Hr.out]),h02⟩):p:=h
theorem IW
 (ts:List ay) (A:Option Addr) (c n:Nat) (v:Val) (A1 A2 A3:Option Addr) (n1 n2 n3:Nat) (w:World) (hn:n < ts.length) (hkx:ts[n].kind=7) (hkv:v.kind=7) (hp:aA v=true)
 (ht:aU w w.heap.size (.slice A ts.length c) ts) (hv:ValAt w w.heap.size v (.slice A1 v.keys.length n1) (.slice A2 v.items.length n2) (.slice A3 v.rest.length n3))
 (hf:∀ t,zL 32 ts (.slice A ts.length c) t false (fun y => cO ts false y t) (v.keys ++ v.items)) :
 Calls Tryz.prog 32 #[.agg #[.slice A ts.length c],.int .i64 n,aS v (.slice A1 v.keys.length n1) (.slice A2 v.items.length n2) (.slice A3 v.rest.length n3),.bool false] w (RT w (.bool (jT ts false ts[n] v))):=by
 have h3b:=KH w;obtain ⟨b,o,rfl,hbb,hel⟩:=ht.elem (by omega);obtain ⟨vs,vm,A_,hx⟩:=hel n hn;clear hel;generalize ts[n]=x at *;obtain ⟨C1,l1,C2,l2,rfl,rfl,-,-⟩:=hx.forms;obtain ⟨c0,c1,c2,c3,c4,c5,c6,c7,c8,c9⟩:=A_;have hlt:(n:Int) < ts.length:=by omega
 have hd0:decide ((n:Int) < 0)=false:=by simp
 have hd1:decide (ts.length<=n)=false:=by simpa using hn
 simp only [aS,hkv];rw [hkx] at c0;have HP:=f_ (fun W => Rk v A1 A2 A3 n1 n2 n3 W hkv);simp only [aS,hkv,hp] at HP;have HF:=f_ hf;have HT:=f_ ht;have HV:=f_ hv;have HX:=f_ hx;have xI:=f_ hkx;have Ul:=f_ hkv;have hxs:=hx.lens;have hvl:=hv.lens;clear hf ht hv hx hkx hkv hp hn;go_enter Tryz.func32,Tryz.ntmps32
 go_wp2_with fail;refine (HP.out _).mono ?_;rintro e w2 ⟨rfl,hb2⟩;have HS:=(((Has.made _ _ _).alloc _).alloc _).below hb2 (by simp;omega);have HW:=((Has.made _ _ _).alloc _).below hb2 (by simp);have HY:=(Has.made _ _ _).below hb2 (by simp);rw [jG] at HW;rw [jG,jG] at HY;have h02:=(h3b _ _ _).trans (hb2.mono (h3b _ _ _).size);have hz2:=HY.here;have HT:=f_ (HT.out.on h02);have HV:=f_ (HV.out.on h02);have HX:=f_ (HX.out.keep (fun _ hp => h02.cell hp) h02.size);obtain ⟨v0,v1,v2,v3,v4,v5,v6,v7⟩:=HW.c8;obtain ⟨t0,t1,t2,t3,t4,t5,t6,t7,t8,t9⟩:=HY.c10;have s0:=HS.cell 0;simp only [qI] at s0;clear hb2 h3b c0 c1 c2 c3 c4 c5 c6 c7 c8 c9;have HS:=f_ HS;have HW:=f_ HW;have HY:=f_ HY;have HE:=f_ (fun W hi ht => Jq ts (some ⟨b,o,none⟩) c x.elem false (fun y => cO ts false y x.elem) v.items (.slice A2 v.items.length n2) W (fun y vk vi vr W' hm => HF.out x.elem y vk vi vr W' (by simp [hm])) hvl.2.1 hi ht);rw [<- uT] at HE;by_cases h1:((v.items.length:Int)<=x.max)
 .
  have h1':decide ((v.items.length:Int)<=x.max)=true:=t_ h1;have aeW:decide ((v.items.length:Int)<=x.max)=true:=t_ (by omega);exact zEl
 have h1':decide ((v.items.length:Int)<=x.max)=false:=h_ h1;have aeW:decide ((v.items.length:Int)<=x.max)=false:=h_ (by omega);exact zFm
theorem IX
 (ts:List ay) (A:Option Addr) (c n:Nat) (v:Val) (A1 A2 A3:Option Addr) (n1 n2 n3:Nat) (w:World) (hn:n < ts.length) (hkx:ts[n].kind=9) (hkv:v.kind=9) (hp:aA v=true)
 (ht:aU w w.heap.size (.slice A ts.length c) ts) (hv:ValAt w w.heap.size v (.slice A1 v.keys.length n1) (.slice A2 v.items.length n2) (.slice A3 v.rest.length n3))
 (hf:∀ t,zL 32 ts (.slice A ts.length c) t false (fun y => cO ts false y t) (v.keys ++ v.items)) :
 Calls Tryz.prog 32 #[.agg #[.slice A ts.length c],.int .i64 n,aS v (.slice A1 v.keys.length n1) (.slice A2 v.items.length n2) (.slice A3 v.rest.length n3),.bool false] w (RT w (.bool (jT ts false ts[n] v))):=by
 have h3b:=KH w;obtain ⟨b,o,rfl,hbb,hel⟩:=ht.elem (by omega);obtain ⟨vs,vm,A_,hx⟩:=hel n hn;clear hel;generalize ts[n]=x at *;obtain ⟨C1,l1,C2,l2,rfl,rfl,-,-⟩:=hx.forms;obtain ⟨c0,c1,c2,c3,c4,c5,c6,c7,c8,c9⟩:=A_;have hlt:(n:Int) < ts.length:=by omega
 have hd0:decide ((n:Int) < 0)=false:=by simp
 have hd1:decide (ts.length<=n)=false:=by simpa using hn
 simp only [aS,hkv];rw [hkx] at c0;have HP:=f_ (fun W => Rn v A1 A2 A3 n1 n2 n3 W hkv);simp only [aS,hkv,hp] at HP;have HF:=f_ hf;have HT:=f_ ht;have HV:=f_ hv;have HX:=f_ hx;have xI:=f_ hkx;have Ul:=f_ hkv;have hxs:=hx.lens;have hvl:=hv.lens;clear hf ht hv hx hkx hkv hp hn;go_enter Tryz.func32,Tryz.ntmps32
 go_wp2_with fail;refine (HP.out _).mono ?_;rintro e w2 ⟨rfl,hb2⟩;have HS:=(((Has.made _ _ _).alloc _).alloc _).below hb2 (by simp;omega);have HW:=((Has.made _ _ _).alloc _).below hb2 (by simp);have HY:=(Has.made _ _ _).below hb2 (by simp);rw [jG] at HW;rw [jG,jG] at HY;have h02:=(h3b _ _ _).trans (hb2.mono (h3b _ _ _).size);have hz2:=HY.here;have HT:=f_ (HT.out.on h02);have HV:=f_ (HV.out.on h02);have HX:=f_ (HX.out.keep (fun _ hp => h02.cell hp) h02.size);obtain ⟨v0,v1,v2,v3,v4,v5,v6,v7⟩:=HW.c8;obtain ⟨t0,t1,t2,t3,t4,t5,t6,t7,t8,t9⟩:=HY.c10;have s0:=HS.cell 0;simp only [qI] at s0;clear hb2 h3b c0 c1 c2 c3 c4 c5 c6 c7 c8 c9;have HS:=f_ HS;have HW:=f_ HW;have HY:=f_ HY;have HE:=f_ (fun W hi ht => Jq ts (some ⟨b,o,none⟩) c x.elem false (fun y => cO ts false y x.elem) v.items (.slice A2 v.items.length n2) W (fun y vk vi vr W' hm => HF.out x.elem y vk vi vr W' (by simp [hm])) hvl.2.1 hi ht);rw [<- uT] at HE;by_cases h1:(v.items.length<=1)
 .
  have h1':decide (v.items.length<=1)=true:=t_ h1;have aeW:decide ((v.items.length:Int)<=1)=true:=t_ (by omega);exact zEl
 have h1':decide (v.items.length<=1)=false:=h_ h1;have aeW:decide ((v.items.length:Int)<=1)=false:=h_ (by omega);exact zFm
theorem zEe {p:Prop} (h:p:=by
 go_wp2_with fail;go_ret;exact ⟨au Hr.out.symm,below_drewN h03 _⟩):p:=h
theorem zFj {p:Prop} (h:p:=by
 rw [d3] at Hb2;clear e3;go_wp2_with fail;go_quiet ((go_at_call 55;exact Ro.out _))
 go_wp2_with fail;go_ret;exact ⟨au Hb2.out.symm,below_drewN h03 _⟩):p:=h
theorem zHl {p:Prop} (h:p:=by
 go_wp2_with fail;go_quiet ((go_at_call 55;exact Ro.out _))
 exact zEe):p:=h
theorem IY
 (ts:List ay) (A:Option Addr) (c n:Nat) (v:Val) (A1 A2 A3:Option Addr) (n1 n2 n3:Nat) (w:World) (hn:n < ts.length) (hkx:ts[n].kind=6) (hkv:v.kind=6) (hp:aA v=true)
 (ht:aU w w.heap.size (.slice A ts.length c) ts) (hv:ValAt w w.heap.size v (.slice A1 v.keys.length n1) (.slice A2 v.items.length n2) (.slice A3 v.rest.length n3))
 (hf:∀ t,zL 32 ts (.slice A ts.length c) t false (fun y => cO ts false y t) (v.keys ++ v.items)) :
 Calls Tryz.prog 32 #[.agg #[.slice A ts.length c],.int .i64 n,aS v (.slice A1 v.keys.length n1) (.slice A2 v.items.length n2) (.slice A3 v.rest.length n3),.bool false] w (RT w (.bool (jT ts false ts[n] v))):=by
 have h3b:=KH w;obtain ⟨b,o,rfl,hbb,hel⟩:=ht.elem (by omega);obtain ⟨vs,vm,A_,hx⟩:=hel n hn;clear hel;generalize ts[n]=x at *;obtain ⟨C1,l1,C2,l2,rfl,rfl,-,-⟩:=hx.forms;obtain ⟨c0,c1,c2,c3,c4,c5,c6,c7,c8,c9⟩:=A_;have hlt:(n:Int) < ts.length:=by omega
 have hd0:decide ((n:Int) < 0)=false:=by simp
 have hd1:decide (ts.length<=n)=false:=by simpa using hn
 simp only [aS,hkv];rw [hkx] at c0;have HP:=f_ (fun W => Rj v A1 A2 A3 n1 n2 n3 W hkv);simp only [aS,hkv,hp] at HP;have HF:=f_ hf;have HT:=f_ ht;have HV:=f_ hv;have HX:=f_ hx;have xI:=f_ hkx;have Ul:=f_ hkv;have hxs:=hx.lens;have hvl:=hv.lens;clear hf ht hv hx hkx hkv hp hn;go_enter Tryz.func32,Tryz.ntmps32
 go_wp2_with fail;refine (HP.out _).mono ?_;rintro e w2 ⟨rfl,hb2⟩;have HS:=(((Has.made _ _ _).alloc _).alloc _).below hb2 (by simp;omega);have HW:=((Has.made _ _ _).alloc _).below hb2 (by simp);have HY:=(Has.made _ _ _).below hb2 (by simp);rw [jG] at HW;rw [jG,jG] at HY;have h02:=(h3b _ _ _).trans (hb2.mono (h3b _ _ _).size);have hz2:=HY.here;have HT:=f_ (HT.out.on h02);have HV:=f_ (HV.out.on h02);have HX:=f_ (HX.out.keep (fun _ hp => h02.cell hp) h02.size);obtain ⟨v0,v1,v2,v3,v4,v5,v6,v7⟩:=HW.c8;obtain ⟨t0,t1,t2,t3,t4,t5,t6,t7,t8,t9⟩:=HY.c10;have s0:=HS.cell 0;simp only [qI] at s0;clear hb2 h3b c0 c1 c2 c3 c4 c5 c6 c7 c8 c9;have HS:=f_ HS;have HW:=f_ HW;have HY:=f_ HY;have HM:=f_ (fun W h => xC x (.slice C1 x.syms.length l1) (.slice C2 x.ah.length l2) v.id W h);simp only [dA,xI.out,xg] at HM;cases hsy:dN x v.id with
 | some i =>
  have hil:=zG x v.id i hsy;simp only [hsy,QG] at HM;have Oz:=f_ hsy;clear hsy;go_wp2_with fail;refine (HM.out _ HX.out).mono ?_;rintro e w3 ⟨rfl,hb3⟩;have h03:=h02.trans (hb3.mono h02.size);have HV:=f_ (HV.out.on hb3);have HT:=f_ (HT.out.on hb3);have HX:=f_ (HX.out.on hb3);have HS:=HS.out.below hb3 (by omega);have HW:=HW.out.below hb3 (by omega);have HY:=HY.out.below hb3 (by omega);have hz3:=HY.here;clear s0 v0 v1 v2 v3 v4 v5 v6 v7 t0 t1 t2 t3 t4 t5 t6 t7 t8 t9;have s0:=HS.cell 0;have v4:=HW.cell 4;have v5:=HW.cell 5;have v6:=HW.cell 6;have v7:=HW.cell 7;have t6:=HY.cell 6;have t8:=HY.cell 8;have t9:=HY.cell 9;simp only [qI] at s0 v4 v5 v6 v7 t6 t8 t9;have HS:=f_ HS;have HW:=f_ HW;have HY:=f_ HY;clear hb3 h02;by_cases e1:v.items.length=1
  .
   have d1:((v.items.length:Int) == 1)=true:=by simp [e1]
   by_cases e2:v.rest.length=0
   .
    have d2:((v.rest.length:Int) == 0)=true:=by simp [e2]
    obtain ⟨bm,om,rfl,hbm,hem⟩:=HX.out.ah.elem (by omega);obtain ⟨mk,mi,mr,hmc,-⟩:=hem i hil;have m2:=hmc.2.2.1;obtain ⟨bv,ov,rfl,hbv,hev⟩:=HV.out.items.elem (by omega);obtain ⟨yk,yi,yr,hcy,hya⟩:=hev 0 (by omega);have hmem:v.items[0] ∈ v.items:=o_ _;have Hr:Hid (jT ts false x v=cO ts false v.items[0] x.ah[i].ty):=by
     show _=_;simp [ig,xI.out,Oz.out,e1,e2,hil,ag0]
    clear hem hev hmc;generalize x.ah[i].ty=ty at *;generalize v.items[0]=y at *;obtain ⟨B1,k1,B2,k2,B3,k3,rfl,rfl,rfl,-,-,-⟩:=hya.forms;obtain ⟨y0,y1,y2,y3,y4,y5,y6,y7⟩:=hcy;simp only [Nat.zero_mul,Uu] at y0 y1 y2 y3 y4 y5 y6 y7;have sG:=f_ hya;have xE:=f_ hmem;have hi1:(i:Int) < x.ah.length:=by omega
    have hi2:(0:Int) < v.items.length:=by omega
    have hi3:0 < v.items.length:=by omega
    clear hya hmem e1 e2;go_wp2_with fail;go_still_tail 23,(by kernel_rfl)
    change wpList _ _ _ _ _ w3.drew
    have HD:=f_ (sG.out.on (w':=w3.drew) (j_ _ _).drew);have HTD:=f_ (HT.out.on (w':=w3.drew) (j_ _ _).drew);have GK:=h03.drew;clear h03 HT HV HX HS HW HY sG s0 v4 v5 v6 v7 t6 t8 t9 m2 y0 y1 y2 y3 y4 y5 y6 y7;generalize w3.drew=w4 at *;go_wp2_with fail;refine (HF.out ty y _ _ _ _ (by simp [xE.out]) HD.out HTD.out).mono ?_;rintro e w5 ⟨rfl,hb5⟩;go_wp2_with fail;go_ret;exact ⟨au Hr.out.symm,GK.trans (hb5.mono GK.size)⟩
   have d2:((v.rest.length:Int) == 0)=false:=vJ.2 (by omega);have Hr:Hid (jT ts false x v=false):=by
    show _=_;simp [ig,xI.out,Oz.out,e1,e2]
   clear e1 e2;go_wp2_with fail;go_quiet (fail)
   exact zEe
  have d1:((v.items.length:Int) == 1)=false:=vJ.2 (by omega);have Hr:Hid (jT ts false x v=false):=by
   show _=_;simp [ig,xI.out,Oz.out,e1]
  clear e1;go_wp2_with fail;go_quiet (fail)
  exact zEe
 | none =>
  simp only [hsy,QH] at HM;have Oz:=f_ hsy;clear hsy;go_wp2_with fail;refine (HM.out _ HX.out).mono ?_;rintro e w3 ⟨rfl,hb3⟩;have h03:=h02.trans (hb3.mono h02.size);have HV:=f_ (HV.out.on hb3);have HT:=f_ (HT.out.on hb3);have HX:=f_ (HX.out.on hb3);have HS:=HS.out.below hb3 (by omega);have HW:=HW.out.below hb3 (by omega);have HY:=HY.out.below hb3 (by omega);have hz3:=HY.here;clear s0 v0 v1 v2 v3 v4 v5 v6 v7 t0 t1 t2 t3 t4 t5 t6 t7 t8 t9;have s0:=HS.cell 0;have v4:=HW.cell 4;have v5:=HW.cell 5;have v6:=HW.cell 6;have v7:=HW.cell 7;have t6:=HY.cell 6;have t8:=HY.cell 8;have t9:=HY.cell 9;simp only [qI] at s0 v4 v5 v6 v7 t6 t8 t9;have HS:=f_ HS;have HW:=f_ HW;have HY:=f_ HY;clear hb3 h02;have Ro:=fun (n:Nat) => Calls.quiet_of_same (n:=n) ((EX v.id false (w3.drewN n)).mono fun _ _ ⟨h1,h2⟩ => ⟨h1,h2.symm⟩);simp only [VO,E_] at Ro;have Hb:Hid (jT ts false x v=(x.opn && (!false && (mM v.id && (decide (v.items.length=0) && (decide (v.rest.length=1) && KW v.rest v.id)))))):=by
   show _=_;simp [ig,xI.out,Oz.out]
  cases hop:x.opn
  all_goals
   rw [hop] at t9 Hb;clear hop
  .
   have Hr:Hid (jT ts false x v=false):=by show _=_;rw [Hb.out];simp
   go_wp2_with fail;go_quiet (fail)
   exact zEe
  cases hfr:mM v.id
  all_goals
   rw [hfr] at Ro Hb;have Ro:=f_ Ro;clear hfr
  .
   have Hr:Hid (jT ts false x v=false):=by show _=_;rw [Hb.out];simp
   exact zHl
  by_cases e1:v.items.length=0
  .
   have d1:((v.items.length:Int) == 0)=true:=by simp [e1]
   by_cases e2:v.rest.length=1
   .
    have d2:((v.rest.length:Int) == 1)=true:=by simp [e2]
    obtain ⟨br,or,rfl,hbr,her⟩:=HV.out.rest.at_ (by omega);obtain ⟨hr0,-⟩:=qy her 0 (by omega);have Hb2:Hid (jT ts false x v=decide (v.rest[0].1=v.id)):=by
     show _=_;rw [Hb.out,abZ _ _ (by omega)];simp [e1,e2]
    clear her;generalize v.rest[0].1=q at *;simp only [Nat.zero_mul,Uu] at hr0;have hi2:(0:Int) < v.rest.length:=by omega
    have hi3:0 < v.rest.length:=by omega
    clear e1 e2;by_cases e3:q=v.id
    all_goals
     have d3:(q == v.id)=decide (q=v.id):=by rw [Bool.eq_iff_iff];simp
     rw [<- d3] at Hb2
    .
     rw [t_ e3] at d3;exact zFj
    rw [h_ e3] at d3;exact zFj
   have d2:((v.rest.length:Int) == 1)=false:=vJ.2 (by omega);have Hr:Hid (jT ts false x v=false):=by show _=_;rw [Hb.out];simp [e1,e2]
   clear e1 e2;exact zHl
  have d1:((v.items.length:Int) == 0)=false:=vJ.2 (by omega);have Hr:Hid (jT ts false x v=false):=by show _=_;rw [Hb.out];simp [e1]
  clear e1;exact zHl

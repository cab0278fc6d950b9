/- What zero computes (a region of more than 60 operations is no written list: it is flattened first). What rest of the reference computes. What fit of the reference computes, kind by kind. What fit of the reference computes for unions. What fit of the reference computes for maps. What fit of the reference computes for records. What fit, Fits and Plain of the reference compute. What sheaveref08.Defaults computes. No condition. -/
import Derived.Deep.Cut
import Derived.Deep.RegionHeld3
import Derived.Deep.CutRange
import Derived.IntWalk
import Derived.Test.YtlamhkffnlgofaaGreatDoorDefs
set_option maxHeartbeats 4000000
set_option maxRecDepth 100000
namespace Go.Proofs.YtlamhkffnlgofaaGreatDoor
open Go.ChangeShapes Go.WideShapes Go.ChangeAt Go.RowKit
theorem zBd {p:Prop} (h:p:=by
 go_enter Tryz.func138,Tryz.ntmps138
 go_upto_region 2 with (fail)
 simp only [List.append_eq,List.cons_append,List.nil_append];go_wp2_with fail;go_ret;exact ⟨rfl,h01 _⟩):p:=h
theorem Q8 (x:Val) (A1 A2 A3:Option Addr) (n1 n2 n3:Nat) (w:World) (hk:x.kind=1) :
  Calls Tryz.prog 138 #[aS x (.slice A1 x.keys.length n1) (.slice A2 x.items.length n2) (.slice A3 x.rest.length n3)] w (RTq w (.bool (aA x))):=by
 have h01:=fun o => (Below.refl w.heap.size w).alloc (Nat.le_refl _) o;simp only [aS,hk];by_cases dZ:x.num=0
 ·
  have yA:(x.num == 0)=true:=by simpa using dZ
  by_cases fC:x.str = []
  ·
   have yB:x.str.isEmpty=true:=by simpa using fC
   by_cases jo:x.id=0
   ·
    have DT:(x.id == 0)=true:=by simpa using jo
    by_cases gG:x.keys.length=0
    ·
     have wE:((x.keys.length:Int) == 0)=true:=by simp [gG]
     by_cases kY:x.items.length=0
     ·
      have DU:((x.items.length:Int) == 0)=true:=by simp [kY]
      by_cases jv:x.rest.length=0
      ·
       have xW:((x.rest.length:Int) == 0)=true:=by simp [jv]
       have hs:Hid (aA x=true):=by show _=_;simp [aA,hk,dZ,fC,jo,gG,kY,jv]
       rw [hs.out];clear dZ fC jo gG kY jv hk;exact zBd
      have xW:((x.rest.length:Int) == 0)=false:=beq_eq_false_iff_ne.2 (by omega);have hs:Hid (aA x=false):=by show _=_;simp [aA,hk,jv]
      rw [hs.out];clear dZ fC jo gG kY jv hk;exact zBd
     have DU:((x.items.length:Int) == 0)=false:=beq_eq_false_iff_ne.2 (by omega);have hs:Hid (aA x=false):=by show _=_;simp [aA,hk,kY]
     rw [hs.out];clear dZ fC jo gG kY hk;exact zBd
    have wE:((x.keys.length:Int) == 0)=false:=beq_eq_false_iff_ne.2 (by omega);have hs:Hid (aA x=false):=by show _=_;simp [aA,hk,gG]
    rw [hs.out];clear dZ fC jo gG hk;exact zBd
   have DT:(x.id == 0)=false:=by simpa using jo
   have hs:Hid (aA x=false):=by show _=_;simp [aA,hk,jo]
   rw [hs.out];clear dZ fC jo hk;exact zBd
  have yB:x.str.isEmpty=false:=by simpa using fC
  have hs:Hid (aA x=false):=by show _=_;simp [aA,hk,fC]
  rw [hs.out];clear dZ fC hk;exact zBd
 have yA:(x.num == 0)=false:=by simpa using dZ
 have hs:Hid (aA x=false):=by show _=_;simp [aA,hk,dZ]
 rw [hs.out];clear dZ hk;exact zBd
theorem zHa {p:Prop} (h:p:=by
 have wF:x.bool=true:=by simpa using bI
 have hs:Hid (aA x=false):=by show _=_;simp [aA,hk,bI]
 rw [hs.out];clear bI hk;exact zBd):p:=h
theorem Q9 (x:Val) (A1 A2 A3:Option Addr) (n1 n2 n3:Nat) (w:World) (hk:x.kind=2) :
  Calls Tryz.prog 138 #[aS x (.slice A1 x.keys.length n1) (.slice A2 x.items.length n2) (.slice A3 x.rest.length n3)] w (RTq w (.bool (aA x))):=by
 have h01:=fun o => (Below.refl w.heap.size w).alloc (Nat.le_refl _) o;simp only [aS,hk];by_cases bI:x.bool=false
 ·
  have wF:x.bool=false:=bI;by_cases fC:x.str = []
  ·
   have yB:x.str.isEmpty=true:=by simpa using fC
   by_cases jo:x.id=0
   ·
    have DT:(x.id == 0)=true:=by simpa using jo
    by_cases gG:x.keys.length=0
    ·
     have wE:((x.keys.length:Int) == 0)=true:=by simp [gG]
     by_cases kY:x.items.length=0
     ·
      have DU:((x.items.length:Int) == 0)=true:=by simp [kY]
      by_cases jv:x.rest.length=0
      ·
       have xW:((x.rest.length:Int) == 0)=true:=by simp [jv]
       have hs:Hid (aA x=true):=by show _=_;simp [aA,hk,bI,fC,jo,gG,kY,jv]
       rw [hs.out];clear bI fC jo gG kY jv hk;exact zBd
      have xW:((x.rest.length:Int) == 0)=false:=beq_eq_false_iff_ne.2 (by omega);have hs:Hid (aA x=false):=by show _=_;simp [aA,hk,jv]
      rw [hs.out];clear bI fC jo gG kY jv hk;exact zBd
     have DU:((x.items.length:Int) == 0)=false:=beq_eq_false_iff_ne.2 (by omega);have hs:Hid (aA x=false):=by show _=_;simp [aA,hk,kY]
     rw [hs.out];clear bI fC jo gG kY hk;exact zBd
    have wE:((x.keys.length:Int) == 0)=false:=beq_eq_false_iff_ne.2 (by omega);have hs:Hid (aA x=false):=by show _=_;simp [aA,hk,gG]
    rw [hs.out];clear bI fC jo gG hk;exact zBd
   have DT:(x.id == 0)=false:=by simpa using jo
   have hs:Hid (aA x=false):=by show _=_;simp [aA,hk,jo]
   rw [hs.out];clear bI fC jo hk;exact zBd
  have yB:x.str.isEmpty=false:=by simpa using fC
  have hs:Hid (aA x=false):=by show _=_;simp [aA,hk,fC]
  rw [hs.out];clear bI fC hk;exact zBd
 exact zHa
theorem zHb {p:Prop} (h:p:=by
 have yA:(x.num == 0)=false:=by simpa using dZ
 have hs:Hid (aA x=false):=by show _=_;simp [aA,hk,dZ]
 rw [hs.out];clear bI dZ hk;exact zBd):p:=h
theorem Rf (x:Val) (A1 A2 A3:Option Addr) (n1 n2 n3:Nat) (w:World) (hk:x.kind=3) :
  Calls Tryz.prog 138 #[aS x (.slice A1 x.keys.length n1) (.slice A2 x.items.length n2) (.slice A3 x.rest.length n3)] w (RTq w (.bool (aA x))):=by
 have h01:=fun o => (Below.refl w.heap.size w).alloc (Nat.le_refl _) o;simp only [aS,hk];by_cases bI:x.bool=false
 ·
  have wF:x.bool=false:=bI;by_cases dZ:x.num=0
  ·
   have yA:(x.num == 0)=true:=by simpa using dZ
   by_cases jo:x.id=0
   ·
    have DT:(x.id == 0)=true:=by simpa using jo
    by_cases gG:x.keys.length=0
    ·
     have wE:((x.keys.length:Int) == 0)=true:=by simp [gG]
     by_cases kY:x.items.length=0
     ·
      have DU:((x.items.length:Int) == 0)=true:=by simp [kY]
      by_cases jv:x.rest.length=0
      ·
       have xW:((x.rest.length:Int) == 0)=true:=by simp [jv]
       have hs:Hid (aA x=true):=by show _=_;simp [aA,hk,bI,dZ,jo,gG,kY,jv]
       rw [hs.out];clear bI dZ jo gG kY jv hk;exact zBd
      have xW:((x.rest.length:Int) == 0)=false:=beq_eq_false_iff_ne.2 (by omega);have hs:Hid (aA x=false):=by show _=_;simp [aA,hk,jv]
      rw [hs.out];clear bI dZ jo gG kY jv hk;exact zBd
     have DU:((x.items.length:Int) == 0)=false:=beq_eq_false_iff_ne.2 (by omega);have hs:Hid (aA x=false):=by show _=_;simp [aA,hk,kY]
     rw [hs.out];clear bI dZ jo gG kY hk;exact zBd
    have wE:((x.keys.length:Int) == 0)=false:=beq_eq_false_iff_ne.2 (by omega);have hs:Hid (aA x=false):=by show _=_;simp [aA,hk,gG]
    rw [hs.out];clear bI dZ jo gG hk;exact zBd
   have DT:(x.id == 0)=false:=by simpa using jo
   have hs:Hid (aA x=false):=by show _=_;simp [aA,hk,jo]
   rw [hs.out];clear bI dZ jo hk;exact zBd
  exact zHb
 exact zHa
theorem zHc {p:Prop} (h:p:=by
 have yB:x.str.isEmpty=false:=by simpa using fC
 have hs:Hid (aA x=false):=by show _=_;simp [aA,hk,fC]
 rw [hs.out];clear bI dZ fC hk;exact zBd):p:=h
theorem zIl {p:Prop} (h:p:=by
 have wE:((x.keys.length:Int) == 0)=false:=beq_eq_false_iff_ne.2 (by omega);have hs:Hid (aA x=false):=by show _=_;simp [aA,hk,gG]
 rw [hs.out];clear bI dZ fC gG hk;exact zBd):p:=h
theorem Rh (x:Val) (A1 A2 A3:Option Addr) (n1 n2 n3:Nat) (w:World) (hk:x.kind=4) :
  Calls Tryz.prog 138 #[aS x (.slice A1 x.keys.length n1) (.slice A2 x.items.length n2) (.slice A3 x.rest.length n3)] w (RTq w (.bool (aA x))):=by
 have h01:=fun o => (Below.refl w.heap.size w).alloc (Nat.le_refl _) o;simp only [aS,hk];by_cases bI:x.bool=false
 ·
  have wF:x.bool=false:=bI;by_cases dZ:x.num=0
  ·
   have yA:(x.num == 0)=true:=by simpa using dZ
   by_cases fC:x.str = []
   ·
    have yB:x.str.isEmpty=true:=by simpa using fC
    by_cases gG:x.keys.length=0
    ·
     have wE:((x.keys.length:Int) == 0)=true:=by simp [gG]
     by_cases kY:x.items.length=0
     ·
      have DU:((x.items.length:Int) == 0)=true:=by simp [kY]
      by_cases jv:x.rest.length=0
      ·
       have xW:((x.rest.length:Int) == 0)=true:=by simp [jv]
       have hs:Hid (aA x=true):=by show _=_;simp [aA,hk,bI,dZ,fC,gG,kY,jv]
       rw [hs.out];clear bI dZ fC gG kY jv hk;exact zBd
      have xW:((x.rest.length:Int) == 0)=false:=beq_eq_false_iff_ne.2 (by omega);have hs:Hid (aA x=false):=by show _=_;simp [aA,hk,jv]
      rw [hs.out];clear bI dZ fC gG kY jv hk;exact zBd
     have DU:((x.items.length:Int) == 0)=false:=beq_eq_false_iff_ne.2 (by omega);have hs:Hid (aA x=false):=by show _=_;simp [aA,hk,kY]
     rw [hs.out];clear bI dZ fC gG kY hk;exact zBd
    exact zIl
   exact zHc
  exact zHb
 exact zHa
theorem zHl {p:Prop} (h:p:=by
 have DT:(x.id == 0)=false:=by simpa using jo
 have hs:Hid (aA x=false):=by show _=_;simp [aA,hk,jo]
 rw [hs.out];clear bI dZ fC jo hk;exact zBd):p:=h
theorem zJn {p:Prop} (h:p:=by
 have wE:((x.keys.length:Int) == 0)=false:=beq_eq_false_iff_ne.2 (by omega);have hs:Hid (aA x=false):=by show _=_;simp [aA,hk,gG]
 rw [hs.out];clear bI dZ fC jo gG hk;exact zBd):p:=h
theorem Ri (x:Val) (A1 A2 A3:Option Addr) (n1 n2 n3:Nat) (w:World) (hk:x.kind=5) :
  Calls Tryz.prog 138 #[aS x (.slice A1 x.keys.length n1) (.slice A2 x.items.length n2) (.slice A3 x.rest.length n3)] w (RTq w (.bool (aA x))):=by
 have h01:=fun o => (Below.refl w.heap.size w).alloc (Nat.le_refl _) o;simp only [aS,hk];by_cases bI:x.bool=false
 ·
  have wF:x.bool=false:=bI;by_cases dZ:x.num=0
  ·
   have yA:(x.num == 0)=true:=by simpa using dZ
   by_cases fC:x.str = []
   ·
    have yB:x.str.isEmpty=true:=by simpa using fC
    by_cases jo:x.id=0
    ·
     have DT:(x.id == 0)=true:=by simpa using jo
     by_cases gG:x.keys.length=0
     ·
      have wE:((x.keys.length:Int) == 0)=true:=by simp [gG]
      have hs:Hid (aA x=true):=by show _=_;simp [aA,hk,bI,dZ,fC,jo,gG]
      rw [hs.out];clear bI dZ fC jo gG hk;exact zBd
     exact zJn
    exact zHl
   exact zHc
  exact zHb
 exact zHa
theorem Rj (x:Val) (A1 A2 A3:Option Addr) (n1 n2 n3:Nat) (w:World) (hk:x.kind=6) :
  Calls Tryz.prog 138 #[aS x (.slice A1 x.keys.length n1) (.slice A2 x.items.length n2) (.slice A3 x.rest.length n3)] w (RTq w (.bool (aA x))):=by
 have h01:=fun o => (Below.refl w.heap.size w).alloc (Nat.le_refl _) o;simp only [aS,hk];by_cases bI:x.bool=false
 ·
  have wF:x.bool=false:=bI;by_cases dZ:x.num=0
  ·
   have yA:(x.num == 0)=true:=by simpa using dZ
   by_cases fC:x.str = []
   ·
    have yB:x.str.isEmpty=true:=by simpa using fC
    by_cases gG:x.keys.length=0
    ·
     have wE:((x.keys.length:Int) == 0)=true:=by simp [gG]
     have hs:Hid (aA x=true):=by show _=_;simp [aA,hk,bI,dZ,fC,gG]
     rw [hs.out];clear bI dZ fC gG hk;exact zBd
    exact zIl
   exact zHc
  exact zHb
 exact zHa
theorem zGz {p:Prop} (h:p:=by
 have h01:=fun o => (Below.refl w.heap.size w).alloc (Nat.le_refl _) o;simp only [aS,hk];by_cases bI:x.bool=false
 ·
  have wF:x.bool=false:=bI;by_cases dZ:x.num=0
  ·
   have yA:(x.num == 0)=true:=by simpa using dZ
   by_cases fC:x.str = []
   ·
    have yB:x.str.isEmpty=true:=by simpa using fC
    by_cases jo:x.id=0
    ·
     have DT:(x.id == 0)=true:=by simpa using jo
     by_cases gG:x.keys.length=0
     ·
      have wE:((x.keys.length:Int) == 0)=true:=by simp [gG]
      by_cases jv:x.rest.length=0
      ·
       have xW:((x.rest.length:Int) == 0)=true:=by simp [jv]
       have hs:Hid (aA x=true):=by show _=_;simp [aA,hk,bI,dZ,fC,jo,gG,jv]
       rw [hs.out];clear bI dZ fC jo gG jv hk;exact zBd
      have xW:((x.rest.length:Int) == 0)=false:=beq_eq_false_iff_ne.2 (by omega);have hs:Hid (aA x=false):=by show _=_;simp [aA,hk,jv]
      rw [hs.out];clear bI dZ fC jo gG jv hk;exact zBd
     exact zJn
    have DT:(x.id == 0)=false:=by simpa using jo
    have hs:Hid (aA x=false):=by show _=_;simp [aA,hk,jo]
    rw [hs.out];clear bI dZ fC jo hk;exact zBd
   have yB:x.str.isEmpty=false:=by simpa using fC
   have hs:Hid (aA x=false):=by show _=_;simp [aA,hk,fC]
   rw [hs.out];clear bI dZ fC hk;exact zBd
  have yA:(x.num == 0)=false:=by simpa using dZ
  have hs:Hid (aA x=false):=by show _=_;simp [aA,hk,dZ]
  rw [hs.out];clear bI dZ hk;exact zBd
 have wF:x.bool=true:=by simpa using bI
 have hs:Hid (aA x=false):=by show _=_;simp [aA,hk,bI]
 rw [hs.out];clear bI hk;exact zBd):p:=h
theorem Rk (x:Val) (A1 A2 A3:Option Addr) (n1 n2 n3:Nat) (w:World) (hk:x.kind=7) :
  Calls Tryz.prog 138 #[aS x (.slice A1 x.keys.length n1) (.slice A2 x.items.length n2) (.slice A3 x.rest.length n3)] w (RTq w (.bool (aA x))):=by
 exact zGz
theorem Rl (x:Val) (A1 A2 A3:Option Addr) (n1 n2 n3:Nat) (w:World) (hk:x.kind=8) :
  Calls Tryz.prog 138 #[aS x (.slice A1 x.keys.length n1) (.slice A2 x.items.length n2) (.slice A3 x.rest.length n3)] w (RTq w (.bool (aA x))):=by
 have h01:=fun o => (Below.refl w.heap.size w).alloc (Nat.le_refl _) o;simp only [aS,hk];by_cases bI:x.bool=false
 ·
  have wF:x.bool=false:=bI;by_cases dZ:x.num=0
  ·
   have yA:(x.num == 0)=true:=by simpa using dZ
   by_cases fC:x.str = []
   ·
    have yB:x.str.isEmpty=true:=by simpa using fC
    by_cases jo:x.id=0
    ·
     have DT:(x.id == 0)=true:=by simpa using jo
     by_cases jv:x.rest.length=0
     ·
      have xW:((x.rest.length:Int) == 0)=true:=by simp [jv]
      have hs:Hid (aA x=true):=by show _=_;simp [aA,hk,bI,dZ,fC,jo,jv]
      rw [hs.out];clear bI dZ fC jo jv hk;exact zBd
     have xW:((x.rest.length:Int) == 0)=false:=beq_eq_false_iff_ne.2 (by omega);have hs:Hid (aA x=false):=by show _=_;simp [aA,hk,jv]
     rw [hs.out];clear bI dZ fC jo jv hk;exact zBd
    exact zHl
   exact zHc
  exact zHb
 exact zHa
theorem Rn (x:Val) (A1 A2 A3:Option Addr) (n1 n2 n3:Nat) (w:World) (hk:x.kind=9) :
  Calls Tryz.prog 138 #[aS x (.slice A1 x.keys.length n1) (.slice A2 x.items.length n2) (.slice A3 x.rest.length n3)] w (RTq w (.bool (aA x))):=by
 exact zGz
def aeV (o:Option Nat):Int:=match o with | some k => k | none => 0
theorem WY (o:Option Nat):xg o = .tuple #[.int .i64 (aeV o),.bool o.isSome]:=by cases o <;> rfl
theorem zDq {p:Prop} (h:p:=by
 go_wp2_with fail;go_quiet ((go_at_call 140;exact wP.out _))
 go_wp2_with fail;go_ret;exact ⟨au (by rw [jB.out];rfl),below_drewN h05 _⟩):p:=h
theorem zHx {p:Prop} (h:p:=by
 rw [lY] at jB;simp only [Option.isSome_some];have wP:=fun (n:Nat) => Calls.quiet_of_same (n:=n) ((EX q true (w5.drewN n)).mono fun _ _ ⟨h1,h2⟩ => ⟨h1,h2.symm⟩);simp only [Bool.not_true,Bool.false_and] at wP;have wP:=hiQ wP;clear lY;exact zDq):p:=h
theorem acN (x:ay) (vs vm:Value) (l:List Raw) (vl:Value) (w:World) (hl:l.length≤140737488351232) (hx:jc w w.heap.size x vs vm) (hr:Rd w w.heap.size 2 vl l.length (jO l)) :
  Calls Tryz.prog 141 #[dA x vs vm,vl] w (RTq w (.bool (xK x l none))):=by
 obtain ⟨C1,m1,C2,m2,rfl,rfl,-,-⟩:=hx.forms;obtain ⟨A,cap,rfl,hcap⟩:=hr.form;have h01:=(Below.refl w.heap.size w).alloc (Nat.le_refl _) (.cells #[.int .i64 x.kind,.string ⟨x.name.toArray⟩,.int .i64 x.low,.int .i64 x.high,.int .i64 x.max,.slice C1 x.syms.length m1,.slice C2 x.ah.length m2,.int .i64 x.key,.int .i64 x.elem,.bool x.opn] 71);have hY:=Has.made w 71 #[.int .i64 x.kind,.string ⟨x.name.toArray⟩,.int .i64 x.low,.int .i64 x.high,.int .i64 x.max,.slice C1 x.syms.length m1,.slice C2 x.ah.length m2,.int .i64 x.key,.int .i64 x.elem,.bool x.opn];have HX:=hiQ (hx.on h01);have HR:=hiQ ((hr.below h01).mono h01.size);clear hx hr;go_enter Tryz.func141,Tryz.ntmps141
 go_wp2_with fail;generalize w.alloc (.cells #[.int .i64 x.kind,.string ⟨x.name.toArray⟩,.int .i64 x.low,.int .i64 x.high,.int .i64 x.max,.slice C1 x.syms.length m1,.slice C2 x.ah.length m2,.int .i64 x.key,.int .i64 x.elem,.bool x.opn] 71)=w1 at *;have hz1:=hY.here;have HY:=hiQ hY;clear hY;go_loopw [5] (fun i wr => ∃ k:Nat,i = .int .i64 k∧k≤l.length∧xK x l none=xK x (l.drop k) (nD l k)∧Below w1.heap.size w1 wr) (fun i _ => l.length - (intOf i).toNat)
 case atStart => exact ⟨0,rfl,by omega,rfl,Below.refl _ _⟩
 case round =>
  obtain ⟨k,rfl,hk,hix,hb⟩:=hrel;have q0:=(HY.out.below hb hz1).cell 0;have q1:=(HY.out.below hb hz1).cell 1;have q2:=(HY.out.below hb hz1).cell 2;have q3:=(HY.out.below hb hz1).cell 3;have q4:=(HY.out.below hb hz1).cell 4;have q5:=(HY.out.below hb hz1).cell 5;have q6:=(HY.out.below hb hz1).cell 6;have q7:=(HY.out.below hb hz1).cell 7;have q8:=(HY.out.below hb hz1).cell 8;have q9:=(HY.out.below hb hz1).cell 9;simp only [qI] at q0 q1 q2 q3 q4 q5 q6 q7 q8 q9;have h0r:=h01.trans (hb.mono h01.size);by_cases hlt:k < l.length
  ·
   obtain ⟨br,or,rfl,am7,her⟩:=(HR.out.below hb).at_ (by omega);have hbr:br < wr.heap.size:=Nat.lt_of_lt_of_le am7 hb.size;obtain ⟨r0,r1⟩:=qy her k hlt;rw [aed x l k hlt,← tZ l k hlt] at hix;rcases k with _ | j
   ·
    generalize l[0].1=q at *;generalize l[0].2=z at *;simp only [Nat.zero_mul,Nat.add_zero] at r0 r1;have hi1:(0:Int) < l.length:=by omega
    have jB:=hiQ hix;clear her hix r1;have hzw:w.heap.size < wr.heap.size:=Nat.lt_of_lt_of_le hz1 hb.size;have HM:=hiQ (fun W h => xC x (.slice C1 x.syms.length m1) (.slice C2 x.ah.length m2) q W h);simp only [dA,WY] at HM;have Dt:=hiQ (HX.out.on hb);have r0':wr.cell? ⟨br,or,none⟩=some (.int .i64 q):=by simpa using r0
    obtain ⟨wo,rfl⟩ : ∃ wo:World,wo=wr:=⟨_,rfl⟩
    go_upto_region 4 with (fail)
    go_cut [6,7] from 8 to 49 (fun s6 s7 wx => s6 = .int .i64 (aeV (dN x q))∧s7 = .bool (dN x q).isSome∧Below wo.heap.size wo wx)
    case first =>
     go_region_held3 (fun w' => w'.cell? ⟨w.heap.size,0,none⟩=some (.int .i64 x.kind)∧w'.cell? ⟨w.heap.size,1,none⟩=some (.string ⟨x.name.toArray⟩)∧w'.cell? ⟨w.heap.size,2,none⟩=some (.int .i64 x.low)∧w'.cell? ⟨w.heap.size,3,none⟩=some (.int .i64 x.high)∧w'.cell? ⟨w.heap.size,4,none⟩=some (.int .i64 x.max)∧w'.cell? ⟨w.heap.size,5,none⟩=some (.slice C1 x.syms.length m1)∧w'.cell? ⟨w.heap.size,6,none⟩=some (.slice C2 x.ah.length m2)∧w'.cell? ⟨w.heap.size,7,none⟩=some (.int .i64 x.key)∧w'.cell? ⟨w.heap.size,8,none⟩=some (.int .i64 x.elem)∧w'.cell? ⟨w.heap.size,9,none⟩=some (.bool x.opn)∧w'.cell? ⟨br,or,none⟩=some (.int .i64 q)) (first | (go_keep;done) | exact ⟨p0,p1,p2,p3,p4,p5,p6,p7,p8,p9,pr⟩)
      (first
       | (go_at_call 90;(with_reducible refine (HM.out _ (Dt.out.on (w':=wo.drew) (Below.refl _ _).drew)).mono ?_);rintro e wn ⟨rfl,hbn⟩;have qG:Below wo.heap.size wo wn:=((Below.refl wo.heap.size wo).drew).trans hbn;have p0:=(qG.cell (p:=⟨w.heap.size,0,none⟩) hzw).trans q0;have p1:=(qG.cell (p:=⟨w.heap.size,1,none⟩) hzw).trans q1;have p2:=(qG.cell (p:=⟨w.heap.size,2,none⟩) hzw).trans q2;have p3:=(qG.cell (p:=⟨w.heap.size,3,none⟩) hzw).trans q3;have p4:=(qG.cell (p:=⟨w.heap.size,4,none⟩) hzw).trans q4;have p5:=(qG.cell (p:=⟨w.heap.size,5,none⟩) hzw).trans q5;have p6:=(qG.cell (p:=⟨w.heap.size,6,none⟩) hzw).trans q6;have p7:=(qG.cell (p:=⟨w.heap.size,7,none⟩) hzw).trans q7;have p8:=(qG.cell (p:=⟨w.heap.size,8,none⟩) hzw).trans q8;have p9:=(qG.cell (p:=⟨w.heap.size,9,none⟩) hzw).trans q9;have pr:=(qG.cell (p:=⟨br,or,none⟩) hbr).trans r0';clear hbn))
     all_goals
      go_wp2_with fail;go_meet
      exact ⟨rfl,rfl,qG⟩
    case rest =>
     obtain ⟨rfl,rfl,hb5⟩:=hcut;obtain ⟨w5,rfl⟩ : ∃ w5:World,w5=wc:=⟨_,rfl⟩
     have WZ:=hb.trans (hb5.mono hb.size);have h05:=h0r.trans (hb5.mono h0r.size);have p0:=(hb5.cell (p:=⟨br,or,none⟩) hbr).trans r0'
     skip
     clear hb5 hb h0r r0 r0' q0 q1 q2 q3 q4 q5 q6 q7 q8 q9 Dt HM;cases lY:dN x q with
     | some i =>
      exact zHx
     | none =>
      rw [lY] at jB;simp only [Option.isSome_none];have wP:=fun (n:Nat) => Calls.quiet_of_same (n:=n) ((EX q false (w5.drewN n)).mono fun _ _ ⟨h1,h2⟩ => ⟨h1,h2.symm⟩);simp only [Bool.not_false,Bool.true_and] at wP;clear lY;cases hfr:mM q
      ·
       rw [hfr] at wP jB;have wP:=hiQ wP;clear hfr;exact zDq
      rw [hfr] at wP jB;have wP:=hiQ wP;clear hfr;go_wp2_with fail;go_quiet ((go_at_call 140;exact wP.out _))
      exact zIu
   obtain ⟨s0,-⟩:=qy her j (by omega);have Hpp:Hid (nD l (j+1)=some l[j].1):=tZ l j (by omega);generalize l[j+1].1=q at *;generalize l[j+1].2=z at *;generalize l[j].1=u at *;have hi1:(j:Int)+1 < l.length:=by omega
   have hi2:(j:Int) < l.length:=by omega
   have hw0:IntKind.i64.wrap (j:Int)=j:=IntWalk.i64_in _ (by omega);have hw1:IntKind.i64.wrap ((j:Int)+1 - 1)=j:=by rw [Int.add_sub_cancel];exact hw0
   have hw2:((j:Int)+1).toNat=j+1:=by omega
   have hw3:0≤(j:Int)+1:=by omega
   have hw4:decide ((0:Int) < (j:Int)+1)=true:=decide_eq_true (by omega);rw [Hpp.out] at hix;have jB:=hiQ hix;clear her hix r1;have hzw:w.heap.size < wr.heap.size:=Nat.lt_of_lt_of_le hz1 hb.size;have HM:=hiQ (fun W h => xC x (.slice C1 x.syms.length m1) (.slice C2 x.ah.length m2) q W h);simp only [dA,WY] at HM;have Dt:=hiQ (HX.out.on hb);have r0':wr.cell? ⟨br,or+(j+1)*2,none⟩=some (.int .i64 q):=by simpa using r0
   obtain ⟨wo,rfl⟩ : ∃ wo:World,wo=wr:=⟨_,rfl⟩
   go_upto_region 4 with (fail)
   go_cut [6,7] from 8 to 49 (fun s6 s7 wx => s6 = .int .i64 (aeV (dN x q))∧s7 = .bool (dN x q).isSome∧Below wo.heap.size wo wx)
   case first =>
    go_region_held3 (fun w' => w'.cell? ⟨w.heap.size,0,none⟩=some (.int .i64 x.kind)∧w'.cell? ⟨w.heap.size,1,none⟩=some (.string ⟨x.name.toArray⟩)∧w'.cell? ⟨w.heap.size,2,none⟩=some (.int .i64 x.low)∧w'.cell? ⟨w.heap.size,3,none⟩=some (.int .i64 x.high)∧w'.cell? ⟨w.heap.size,4,none⟩=some (.int .i64 x.max)∧w'.cell? ⟨w.heap.size,5,none⟩=some (.slice C1 x.syms.length m1)∧w'.cell? ⟨w.heap.size,6,none⟩=some (.slice C2 x.ah.length m2)∧w'.cell? ⟨w.heap.size,7,none⟩=some (.int .i64 x.key)∧w'.cell? ⟨w.heap.size,8,none⟩=some (.int .i64 x.elem)∧w'.cell? ⟨w.heap.size,9,none⟩=some (.bool x.opn)∧w'.cell? ⟨br,or+(j+1)*2,none⟩=some (.int .i64 q)) (first | (go_keep;done) | exact ⟨p0,p1,p2,p3,p4,p5,p6,p7,p8,p9,pr⟩)
     (first
      | (go_at_call 90;(with_reducible refine (HM.out _ (Dt.out.on (w':=wo.drew) (Below.refl _ _).drew)).mono ?_);rintro e wn ⟨rfl,hbn⟩;have qG:Below wo.heap.size wo wn:=((Below.refl wo.heap.size wo).drew).trans hbn;have p0:=(qG.cell (p:=⟨w.heap.size,0,none⟩) hzw).trans q0;have p1:=(qG.cell (p:=⟨w.heap.size,1,none⟩) hzw).trans q1;have p2:=(qG.cell (p:=⟨w.heap.size,2,none⟩) hzw).trans q2;have p3:=(qG.cell (p:=⟨w.heap.size,3,none⟩) hzw).trans q3;have p4:=(qG.cell (p:=⟨w.heap.size,4,none⟩) hzw).trans q4;have p5:=(qG.cell (p:=⟨w.heap.size,5,none⟩) hzw).trans q5;have p6:=(qG.cell (p:=⟨w.heap.size,6,none⟩) hzw).trans q6;have p7:=(qG.cell (p:=⟨w.heap.size,7,none⟩) hzw).trans q7;have p8:=(qG.cell (p:=⟨w.heap.size,8,none⟩) hzw).trans q8;have p9:=(qG.cell (p:=⟨w.heap.size,9,none⟩) hzw).trans q9;have pr:=(qG.cell (p:=⟨br,or+(j+1)*2,none⟩) hbr).trans r0';clear hbn))
    all_goals
     go_wp2_with fail;go_meet
     exact ⟨rfl,rfl,qG⟩
   case rest =>
    obtain ⟨rfl,rfl,hb5⟩:=hcut;obtain ⟨w5,rfl⟩ : ∃ w5:World,w5=wc:=⟨_,rfl⟩
    have WZ:=hb.trans (hb5.mono hb.size);have h05:=h0r.trans (hb5.mono h0r.size);have p0:=(hb5.cell (p:=⟨br,or+(j+1)*2,none⟩) hbr).trans r0';have ps:=(hb5.cell (p:=⟨br,or+j*2,none⟩) hbr).trans s0;clear hb5 hb h0r r0 r0' q0 q1 q2 q3 q4 q5 q6 q7 q8 q9 Dt HM;cases lY:dN x q with
    | some i =>
     exact zHx
    | none =>
     rw [lY] at jB;simp only [Option.isSome_none];have wP:=fun (n:Nat) => Calls.quiet_of_same (n:=n) ((EX q false (w5.drewN n)).mono fun _ _ ⟨h1,h2⟩ => ⟨h1,h2.symm⟩);simp only [Bool.not_false,Bool.true_and] at wP;clear lY;cases hfr:mM q
     ·
      rw [hfr] at wP jB;have wP:=hiQ wP;clear hfr;exact zDq
     rw [hfr] at wP jB;have wP:=hiQ wP;clear hfr;by_cases hlq:u < q
     ·
      have hd:decide (q≤u)=false:=decide_eq_false (by omega);simp only [xH,decide_eq_true hlq,Option.isSome_none,Bool.not_false,Bool.true_and] at jB;go_wp2_with fail;go_quiet ((go_at_call 140;exact wP.out _))
      clear hw0 hw1 hw2 hw3 hw4;exact zIz
     have hd:decide (q≤u)=true:=decide_eq_true (by omega);simp only [xH,decide_eq_false hlq,Bool.false_and,Bool.and_false] at jB;go_wp2_with fail;go_quiet ((go_at_call 140;exact wP.out _))
     clear hw0 hw1 hw2 hw3 hw4;go_wp2_with fail;go_ret;exact ⟨au (by rw [jB.out]),below_drewN h05 _⟩
  rw [List.drop_eq_nil_of_le (by omega),xK] at hix;have jB:=hiQ hix;clear hix;go_wp2_with fail;go_ret;exact ⟨au (by rw [jB.out]),h0r⟩
theorem zHn {p:Prop} (h:p:=by
 simp only [aS,hkv,hp] at HP;have HF:=hiQ hf;have hr5:decide (0 < v.rest.length)=false:=decide_eq_false (by omega);have hr4:decide ((0:Int) < v.rest.length)=false:=decide_eq_false (by omega);clear hrl;have HT:=hiQ ht;have HV:=hiQ hv;have HX:=hiQ hx;have xI:=hiQ hkx;have Ul:=hiQ hkv;have hxs:=hx.lens;have hvl:=hv.lens;clear hf ht hv hx hkx hkv hp hn;go_enter Tryz.func113,Tryz.ntmps113
 exact zBr):p:=h
theorem aC9
 (ts:List ay) (A:Option Addr) (c n:Nat) (v:Val) (A1 A2 A3:Option Addr) (n1 n2 n3:Nat) (w:World) (hn:n < ts.length) (hkx:ts[n].kind=1) (hkv:v.kind=1) (hp:aA v=true) (hrl:v.rest.length=0)
 (ht:aU w w.heap.size (.slice A ts.length c) ts) (hv:ValAt w w.heap.size v (.slice A1 v.keys.length n1) (.slice A2 v.items.length n2) (.slice A3 v.rest.length n3))
 (hf:∀ t,zL 113 ts (.slice A ts.length c) t true (fun y => cO ts true y t) (v.keys ++ v.items)) :
 Calls Tryz.prog 113 #[.agg #[.slice A ts.length c],.int .i64 n,aS v (.slice A1 v.keys.length n1) (.slice A2 v.items.length n2) (.slice A3 v.rest.length n3),.bool true] w (RTq w (.bool (jT ts true ts[n] v))):=by
 have h3b:=KH w;obtain ⟨b,o,rfl,hbb,hel⟩:=ht.elem (by omega);obtain ⟨vs,vm,hcells,hx⟩:=hel n hn;clear hel;generalize ts[n]=x at *;obtain ⟨C1,l1,C2,l2,rfl,rfl,-,-⟩:=hx.forms;obtain ⟨c0,c1,c2,c3,c4,c5,c6,c7,c8,c9⟩:=hcells;have hlt:(n:Int) < ts.length:=by omega
 have hd0:decide ((n:Int) < 0)=false:=by simp
 have hd1:decide (ts.length≤n)=false:=by simpa using hn
 simp only [aS,hkv];rw [hkx] at c0;have HP:=hiQ (fun W => Q8 v A1 A2 A3 n1 n2 n3 W hkv);exact zHn
theorem aDd
 (ts:List ay) (A:Option Addr) (c n:Nat) (v:Val) (A1 A2 A3:Option Addr) (n1 n2 n3:Nat) (w:World) (hn:n < ts.length) (hkx:ts[n].kind=2) (hkv:v.kind=2) (hp:aA v=true) (hrl:v.rest.length=0)
 (ht:aU w w.heap.size (.slice A ts.length c) ts) (hv:ValAt w w.heap.size v (.slice A1 v.keys.length n1) (.slice A2 v.items.length n2) (.slice A3 v.rest.length n3))
 (hf:∀ t,zL 113 ts (.slice A ts.length c) t true (fun y => cO ts true y t) (v.keys ++ v.items)) :
 Calls Tryz.prog 113 #[.agg #[.slice A ts.length c],.int .i64 n,aS v (.slice A1 v.keys.length n1) (.slice A2 v.items.length n2) (.slice A3 v.rest.length n3),.bool true] w (RTq w (.bool (jT ts true ts[n] v))):=by
 have h3b:=KH w;obtain ⟨b,o,rfl,hbb,hel⟩:=ht.elem (by omega);obtain ⟨vs,vm,hcells,hx⟩:=hel n hn;clear hel;generalize ts[n]=x at *;obtain ⟨C1,l1,C2,l2,rfl,rfl,-,-⟩:=hx.forms;obtain ⟨c0,c1,c2,c3,c4,c5,c6,c7,c8,c9⟩:=hcells;have hlt:(n:Int) < ts.length:=by omega
 have hd0:decide ((n:Int) < 0)=false:=by simp
 have hd1:decide (ts.length≤n)=false:=by simpa using hn
 simp only [aS,hkv];rw [hkx] at c0;have HP:=hiQ (fun W => Q9 v A1 A2 A3 n1 n2 n3 W hkv);simp only [aS,hkv,hp] at HP;have HF:=hiQ hf;have hr5:decide (0 < v.rest.length)=false:=decide_eq_false (by omega);have hr4:decide ((0:Int) < v.rest.length)=false:=decide_eq_false (by omega);clear hrl;have HT:=hiQ ht;have HV:=hiQ hv;have HX:=hiQ hx;have xI:=hiQ hkx;have Ul:=hiQ hkv;have hxs:=hx.lens;have hvl:=hv.lens;clear hf ht hv hx hkx hkv hp hn;go_enter Tryz.func113,Tryz.ntmps113
 exact zCk
theorem aDf
 (ts:List ay) (A:Option Addr) (c n:Nat) (v:Val) (A1 A2 A3:Option Addr) (n1 n2 n3:Nat) (w:World) (hn:n < ts.length) (hkx:ts[n].kind=3) (hkv:v.kind=3) (hp:aA v=true) (hrl:v.rest.length=0)
 (ht:aU w w.heap.size (.slice A ts.length c) ts) (hv:ValAt w w.heap.size v (.slice A1 v.keys.length n1) (.slice A2 v.items.length n2) (.slice A3 v.rest.length n3))
 (hf:∀ t,zL 113 ts (.slice A ts.length c) t true (fun y => cO ts true y t) (v.keys ++ v.items)) :
 Calls Tryz.prog 113 #[.agg #[.slice A ts.length c],.int .i64 n,aS v (.slice A1 v.keys.length n1) (.slice A2 v.items.length n2) (.slice A3 v.rest.length n3),.bool true] w (RTq w (.bool (jT ts true ts[n] v))):=by
 have h3b:=KH w;obtain ⟨b,o,rfl,hbb,hel⟩:=ht.elem (by omega);obtain ⟨vs,vm,hcells,hx⟩:=hel n hn;clear hel;generalize ts[n]=x at *;obtain ⟨C1,l1,C2,l2,rfl,rfl,-,-⟩:=hx.forms;obtain ⟨c0,c1,c2,c3,c4,c5,c6,c7,c8,c9⟩:=hcells;have hlt:(n:Int) < ts.length:=by omega
 have hd0:decide ((n:Int) < 0)=false:=by simp
 have hd1:decide (ts.length≤n)=false:=by simpa using hn
 simp only [aS,hkv];rw [hkx] at c0;have HP:=hiQ (fun W => Rf v A1 A2 A3 n1 n2 n3 W hkv);exact zHn
theorem aDn
 (ts:List ay) (A:Option Addr) (c n:Nat) (v:Val) (A1 A2 A3:Option Addr) (n1 n2 n3:Nat) (w:World) (hn:n < ts.length) (hkx:ts[n].kind=4) (hkv:v.kind=4) (hp:aA v=true) (hrl:v.rest.length=0)
 (ht:aU w w.heap.size (.slice A ts.length c) ts) (hv:ValAt w w.heap.size v (.slice A1 v.keys.length n1) (.slice A2 v.items.length n2) (.slice A3 v.rest.length n3))
 (hf:∀ t,zL 113 ts (.slice A ts.length c) t true (fun y => cO ts true y t) (v.keys ++ v.items)) :
 Calls Tryz.prog 113 #[.agg #[.slice A ts.length c],.int .i64 n,aS v (.slice A1 v.keys.length n1) (.slice A2 v.items.length n2) (.slice A3 v.rest.length n3),.bool true] w (RTq w (.bool (jT ts true ts[n] v))):=by
 have h3b:=KH w;obtain ⟨b,o,rfl,hbb,hel⟩:=ht.elem (by omega);obtain ⟨vs,vm,hcells,hx⟩:=hel n hn;clear hel;generalize ts[n]=x at *;obtain ⟨C1,l1,C2,l2,rfl,rfl,-,-⟩:=hx.forms;obtain ⟨c0,c1,c2,c3,c4,c5,c6,c7,c8,c9⟩:=hcells;have hlt:(n:Int) < ts.length:=by omega
 have hd0:decide ((n:Int) < 0)=false:=by simp
 have hd1:decide (ts.length≤n)=false:=by simpa using hn
 simp only [aS,hkv];rw [hkx] at c0;have HP:=hiQ (fun W => Rh v A1 A2 A3 n1 n2 n3 W hkv);simp only [aS,hkv,hp] at HP;have HF:=hiQ hf;have hr5:decide (0 < v.rest.length)=false:=decide_eq_false (by omega);have hr4:decide ((0:Int) < v.rest.length)=false:=decide_eq_false (by omega);clear hrl;have HT:=hiQ ht;have HV:=hiQ hv;have HX:=hiQ hx;have xI:=hiQ hkx;have Ul:=hiQ hkv;have hxs:=hx.lens;have hvl:=hv.lens;clear hf ht hv hx hkx hkv hp hn;go_enter Tryz.func113,Tryz.ntmps113
 go_wp2_with fail;refine (HP.out _).mono ?_;rintro e w2 ⟨rfl,hb2⟩;have HS:=(((Has.made _ _ _).alloc _).alloc _).below hb2 (by simp;omega);have HW:=((Has.made _ _ _).alloc _).below hb2 (by simp);have HY:=(Has.made _ _ _).below hb2 (by simp);rw [jG] at HW;rw [jG,jG] at HY;have h02:=(h3b _ _ _).trans (hb2.mono (h3b _ _ _).size);have hz2:=HY.here;have HT:=hiQ (HT.out.on h02);have HV:=hiQ (HV.out.on h02);have HX:=hiQ (HX.out.keep (fun _ hp => h02.cell hp) h02.size);obtain ⟨v0,v1,v2,v3,v4,v5,v6,v7⟩:=HW.c8;obtain ⟨t0,t1,t2,t3,t4,t5,t6,t7,t8,t9⟩:=HY.c10;have s0:=HS.cell 0;simp only [qI] at s0;clear hb2 h3b c0 c1 c2 c3 c4 c5 c6 c7 c8 c9;have HS:=hiQ HS;have HW:=hiQ HW;have HY:=hiQ HY;have HM:=hiQ (fun W h => Ol x (.slice C1 x.syms.length l1) (.slice C2 x.ah.length l2) v.id W h);simp only [dA,xI.out,xg] at HM;cases hsy:qm x v.id with
 | some i =>
  exact zCq
 | none =>
  simp only [hsy,Option.isSome_none] at HM;have Oz:=hiQ hsy;clear hsy;go_wp2_with fail;refine (HM.out _ HX.out).mono ?_;rintro e w3 ⟨rfl,hb3⟩;have h03:=h02.trans (hb3.mono h02.size);have HV:=hiQ (HV.out.on hb3);have HT:=hiQ (HT.out.on hb3);have HX:=hiQ (HX.out.on hb3);have HS:=HS.out.below hb3 (by omega);have HW:=HW.out.below hb3 (by omega);have HY:=HY.out.below hb3 (by omega);have hz3:=HY.here;clear s0 v0 v1 v2 v3 v4 v5 v6 v7 t0 t1 t2 t3 t4 t5 t6 t7 t8 t9;have s0:=HS.cell 0;have v4:=HW.cell 4;have v5:=HW.cell 5;have v6:=HW.cell 6;have v7:=HW.cell 7;have t6:=HY.cell 6;have t8:=HY.cell 8;have t9:=HY.cell 9;simp only [qI] at s0 v4 v5 v6 v7 t6 t8 t9;have HS:=hiQ HS;have HW:=hiQ HW;have HY:=hiQ HY;clear hb3 h02;cases hop:x.opn
  all_goals
   rw [hop] at t9;have Hop:=hiQ hop;clear hop
  ·
   go_wp2_with fail;exact zEw
  go_wp2_with (go_at_call 140;refine (EX _ _ _).mono ?_;rintro e w' ⟨rfl,rfl⟩)
  exact zEw
theorem aDo
 (ts:List ay) (A:Option Addr) (c n:Nat) (v:Val) (A1 A2 A3:Option Addr) (n1 n2 n3:Nat) (w:World) (hn:n < ts.length) (hkx:ts[n].kind=7) (hkv:v.kind=7) (hp:aA v=true) (hrl:v.rest.length=0)
 (ht:aU w w.heap.size (.slice A ts.length c) ts) (hv:ValAt w w.heap.size v (.slice A1 v.keys.length n1) (.slice A2 v.items.length n2) (.slice A3 v.rest.length n3))
 (hf:∀ t,zL 113 ts (.slice A ts.length c) t true (fun y => cO ts true y t) (v.keys ++ v.items)) :
 Calls Tryz.prog 113 #[.agg #[.slice A ts.length c],.int .i64 n,aS v (.slice A1 v.keys.length n1) (.slice A2 v.items.length n2) (.slice A3 v.rest.length n3),.bool true] w (RTq w (.bool (jT ts true ts[n] v))):=by
 have h3b:=KH w;obtain ⟨b,o,rfl,hbb,hel⟩:=ht.elem (by omega);obtain ⟨vs,vm,hcells,hx⟩:=hel n hn;clear hel;generalize ts[n]=x at *;obtain ⟨C1,l1,C2,l2,rfl,rfl,-,-⟩:=hx.forms;obtain ⟨c0,c1,c2,c3,c4,c5,c6,c7,c8,c9⟩:=hcells;have hlt:(n:Int) < ts.length:=by omega
 have hd0:decide ((n:Int) < 0)=false:=by simp
 have hd1:decide (ts.length≤n)=false:=by simpa using hn
 simp only [aS,hkv];rw [hkx] at c0;have HP:=hiQ (fun W => Rk v A1 A2 A3 n1 n2 n3 W hkv);simp only [aS,hkv,hp] at HP;have HF:=hiQ hf;have hr5:decide (0 < v.rest.length)=false:=decide_eq_false (by omega);have hr4:decide ((0:Int) < v.rest.length)=false:=decide_eq_false (by omega);clear hrl;have HT:=hiQ ht;have HV:=hiQ hv;have HX:=hiQ hx;have xI:=hiQ hkx;have Ul:=hiQ hkv;have hxs:=hx.lens;have hvl:=hv.lens;clear hf ht hv hx hkx hkv hp hn;go_enter Tryz.func113,Tryz.ntmps113
 go_wp2_with fail;refine (HP.out _).mono ?_;rintro e w2 ⟨rfl,hb2⟩;have HS:=(((Has.made _ _ _).alloc _).alloc _).below hb2 (by simp;omega);have HW:=((Has.made _ _ _).alloc _).below hb2 (by simp);have HY:=(Has.made _ _ _).below hb2 (by simp);rw [jG] at HW;rw [jG,jG] at HY;have h02:=(h3b _ _ _).trans (hb2.mono (h3b _ _ _).size);have hz2:=HY.here;have HT:=hiQ (HT.out.on h02);have HV:=hiQ (HV.out.on h02);have HX:=hiQ (HX.out.keep (fun _ hp => h02.cell hp) h02.size);obtain ⟨v0,v1,v2,v3,v4,v5,v6,v7⟩:=HW.c8;obtain ⟨t0,t1,t2,t3,t4,t5,t6,t7,t8,t9⟩:=HY.c10;have s0:=HS.cell 0;simp only [qI] at s0;clear hb2 h3b c0 c1 c2 c3 c4 c5 c6 c7 c8 c9;have HS:=hiQ HS;have HW:=hiQ HW;have HY:=hiQ HY;have HE:=hiQ (fun W hi ht => Jq ts (some ⟨b,o,none⟩) c x.elem true (fun y => cO ts true y x.elem) v.items (.slice A2 v.items.length n2) W (fun y vk vi vr W' hm => HF.out x.elem y vk vi vr W' (by simp [hm])) hvl.2.1 hi ht);rw [← uT] at HE;by_cases h1:((v.items.length:Int)≤x.max)
 ·
  have h1':decide ((v.items.length:Int)≤x.max)=true:=decide_eq_true h1;have aeW:decide ((v.items.length:Int)≤x.max)=true:=decide_eq_true (by omega);have Hr:Hid (jT ts true x v=rC ts true v.items x.elem):=by show _=_;simp [ig,xI.out,h1]
  exact zDg
 have h1':decide ((v.items.length:Int)≤x.max)=false:=decide_eq_false h1;have aeW:decide ((v.items.length:Int)≤x.max)=false:=decide_eq_false (by omega);have Hr:Hid (jT ts true x v=false):=by show _=_;simp [ig,xI.out,h1]
 exact zFg
theorem aDp
 (ts:List ay) (A:Option Addr) (c n:Nat) (v:Val) (A1 A2 A3:Option Addr) (n1 n2 n3:Nat) (w:World) (hn:n < ts.length) (hkx:ts[n].kind=9) (hkv:v.kind=9) (hp:aA v=true) (hrl:v.rest.length=0)
 (ht:aU w w.heap.size (.slice A ts.length c) ts) (hv:ValAt w w.heap.size v (.slice A1 v.keys.length n1) (.slice A2 v.items.length n2) (.slice A3 v.rest.length n3))
 (hf:∀ t,zL 113 ts (.slice A ts.length c) t true (fun y => cO ts true y t) (v.keys ++ v.items)) :
 Calls Tryz.prog 113 #[.agg #[.slice A ts.length c],.int .i64 n,aS v (.slice A1 v.keys.length n1) (.slice A2 v.items.length n2) (.slice A3 v.rest.length n3),.bool true] w (RTq w (.bool (jT ts true ts[n] v))):=by
 have h3b:=KH w;obtain ⟨b,o,rfl,hbb,hel⟩:=ht.elem (by omega);obtain ⟨vs,vm,hcells,hx⟩:=hel n hn;clear hel;generalize ts[n]=x at *;obtain ⟨C1,l1,C2,l2,rfl,rfl,-,-⟩:=hx.forms;obtain ⟨c0,c1,c2,c3,c4,c5,c6,c7,c8,c9⟩:=hcells;have hlt:(n:Int) < ts.length:=by omega
 have hd0:decide ((n:Int) < 0)=false:=by simp
 have hd1:decide (ts.length≤n)=false:=by simpa using hn
 simp only [aS,hkv];rw [hkx] at c0;have HP:=hiQ (fun W => Rn v A1 A2 A3 n1 n2 n3 W hkv);simp only [aS,hkv,hp] at HP;have HF:=hiQ hf;have hr5:decide (0 < v.rest.length)=false:=decide_eq_false (by omega);have hr4:decide ((0:Int) < v.rest.length)=false:=decide_eq_false (by omega);clear hrl;have HT:=hiQ ht;have HV:=hiQ hv;have HX:=hiQ hx;have xI:=hiQ hkx;have Ul:=hiQ hkv;have hxs:=hx.lens;have hvl:=hv.lens;clear hf ht hv hx hkx hkv hp hn;go_enter Tryz.func113,Tryz.ntmps113
 go_wp2_with fail;refine (HP.out _).mono ?_;rintro e w2 ⟨rfl,hb2⟩;have HS:=(((Has.made _ _ _).alloc _).alloc _).below hb2 (by simp;omega);have HW:=((Has.made _ _ _).alloc _).below hb2 (by simp);have HY:=(Has.made _ _ _).below hb2 (by simp);rw [jG] at HW;rw [jG,jG] at HY;have h02:=(h3b _ _ _).trans (hb2.mono (h3b _ _ _).size);have hz2:=HY.here;have HT:=hiQ (HT.out.on h02);have HV:=hiQ (HV.out.on h02);have HX:=hiQ (HX.out.keep (fun _ hp => h02.cell hp) h02.size);obtain ⟨v0,v1,v2,v3,v4,v5,v6,v7⟩:=HW.c8;obtain ⟨t0,t1,t2,t3,t4,t5,t6,t7,t8,t9⟩:=HY.c10;have s0:=HS.cell 0;simp only [qI] at s0;clear hb2 h3b c0 c1 c2 c3 c4 c5 c6 c7 c8 c9;have HS:=hiQ HS;have HW:=hiQ HW;have HY:=hiQ HY;have HE:=hiQ (fun W hi ht => Jq ts (some ⟨b,o,none⟩) c x.elem true (fun y => cO ts true y x.elem) v.items (.slice A2 v.items.length n2) W (fun y vk vi vr W' hm => HF.out x.elem y vk vi vr W' (by simp [hm])) hvl.2.1 hi ht);rw [← uT] at HE;by_cases h1:(v.items.length≤1)
 ·
  have h1':decide (v.items.length≤1)=true:=decide_eq_true h1;have aeW:decide ((v.items.length:Int)≤1)=true:=decide_eq_true (by omega);have Hr:Hid (jT ts true x v=rC ts true v.items x.elem):=by show _=_;simp [ig,xI.out,h1]
  exact zDg
 have h1':decide (v.items.length≤1)=false:=decide_eq_false h1;have aeW:decide ((v.items.length:Int)≤1)=false:=decide_eq_false (by omega);have Hr:Hid (jT ts true x v=false):=by show _=_;simp [ig,xI.out,h1]
 exact zFg
theorem aDr
 (ts:List ay) (A:Option Addr) (c n:Nat) (v:Val) (A1 A2 A3:Option Addr) (n1 n2 n3:Nat) (w:World) (hn:n < ts.length) (hkx:ts[n].kind=6) (hkv:v.kind=6) (hp:aA v=true) (hrl:v.rest.length=0)
 (ht:aU w w.heap.size (.slice A ts.length c) ts) (hv:ValAt w w.heap.size v (.slice A1 v.keys.length n1) (.slice A2 v.items.length n2) (.slice A3 v.rest.length n3))
 (hf:∀ t,zL 113 ts (.slice A ts.length c) t true (fun y => cO ts true y t) (v.keys ++ v.items)) :
 Calls Tryz.prog 113 #[.agg #[.slice A ts.length c],.int .i64 n,aS v (.slice A1 v.keys.length n1) (.slice A2 v.items.length n2) (.slice A3 v.rest.length n3),.bool true] w (RTq w (.bool (jT ts true ts[n] v))):=by
 have h3b:=KH w;obtain ⟨b,o,rfl,hbb,hel⟩:=ht.elem (by omega);obtain ⟨vs,vm,hcells,hx⟩:=hel n hn;clear hel;generalize ts[n]=x at *;obtain ⟨C1,l1,C2,l2,rfl,rfl,-,-⟩:=hx.forms;obtain ⟨c0,c1,c2,c3,c4,c5,c6,c7,c8,c9⟩:=hcells;have hlt:(n:Int) < ts.length:=by omega
 have hd0:decide ((n:Int) < 0)=false:=by simp
 have hd1:decide (ts.length≤n)=false:=by simpa using hn
 simp only [aS,hkv];rw [hkx] at c0;have HP:=hiQ (fun W => Rj v A1 A2 A3 n1 n2 n3 W hkv);simp only [aS,hkv,hp] at HP;have HF:=hiQ hf;have hr5:decide (0 < v.rest.length)=false:=decide_eq_false (by omega);have hr4:decide ((0:Int) < v.rest.length)=false:=decide_eq_false (by omega);clear hrl;have HT:=hiQ ht;have HV:=hiQ hv;have HX:=hiQ hx;have xI:=hiQ hkx;have Ul:=hiQ hkv;have hxs:=hx.lens;have hvl:=hv.lens;clear hf ht hv hx hkx hkv hp hn;go_enter Tryz.func113,Tryz.ntmps113
 go_wp2_with fail;refine (HP.out _).mono ?_;rintro e w2 ⟨rfl,hb2⟩;have HS:=(((Has.made _ _ _).alloc _).alloc _).below hb2 (by simp;omega);have HW:=((Has.made _ _ _).alloc _).below hb2 (by simp);have HY:=(Has.made _ _ _).below hb2 (by simp);rw [jG] at HW;rw [jG,jG] at HY;have h02:=(h3b _ _ _).trans (hb2.mono (h3b _ _ _).size);have hz2:=HY.here;have HT:=hiQ (HT.out.on h02);have HV:=hiQ (HV.out.on h02);have HX:=hiQ (HX.out.keep (fun _ hp => h02.cell hp) h02.size);obtain ⟨v0,v1,v2,v3,v4,v5,v6,v7⟩:=HW.c8;obtain ⟨t0,t1,t2,t3,t4,t5,t6,t7,t8,t9⟩:=HY.c10;have s0:=HS.cell 0;simp only [qI] at s0;clear hb2 h3b c0 c1 c2 c3 c4 c5 c6 c7 c8 c9;have HS:=hiQ HS;have HW:=hiQ HW;have HY:=hiQ HY;have HM:=hiQ (fun W h => xC x (.slice C1 x.syms.length l1) (.slice C2 x.ah.length l2) v.id W h);simp only [dA,xI.out,xg] at HM;cases hsy:dN x v.id with
 | some i =>
  have hil:=zG x v.id i hsy;simp only [hsy,Option.isSome_some] at HM;have Oz:=hiQ hsy;clear hsy;go_wp2_with fail;refine (HM.out _ HX.out).mono ?_;rintro e w3 ⟨rfl,hb3⟩;have h03:=h02.trans (hb3.mono h02.size);have HV:=hiQ (HV.out.on hb3);have HT:=hiQ (HT.out.on hb3);have HX:=hiQ (HX.out.on hb3);have HS:=HS.out.below hb3 (by omega);have HW:=HW.out.below hb3 (by omega);have HY:=HY.out.below hb3 (by omega);have hz3:=HY.here;clear s0 v0 v1 v2 v3 v4 v5 v6 v7 t0 t1 t2 t3 t4 t5 t6 t7 t8 t9;have s0:=HS.cell 0;have v4:=HW.cell 4;have v5:=HW.cell 5;have v6:=HW.cell 6;have v7:=HW.cell 7;have t6:=HY.cell 6;have t8:=HY.cell 8;have t9:=HY.cell 9;simp only [qI] at s0 v4 v5 v6 v7 t6 t8 t9;have HS:=hiQ HS;have HW:=hiQ HW;have HY:=hiQ HY;clear hb3 h02;by_cases e1:v.items.length=1
  ·
   have d1:((v.items.length:Int) == 1)=true:=by simp [e1]
   by_cases e2:v.rest.length=0
   ·
    have d2:((v.rest.length:Int) == 0)=true:=by simp [e2]
    obtain ⟨bm,om,rfl,hbm,hem⟩:=HX.out.ah.elem (by omega);obtain ⟨mk,mi,mr,hmc,-⟩:=hem i hil;have m2:=hmc.2.2.1;obtain ⟨bv,ov,rfl,hbv,hev⟩:=HV.out.items.elem (by omega);obtain ⟨yk,yi,yr,hcy,hya⟩:=hev 0 (by omega);have hmem:v.items[0] ∈ v.items:=List.getElem_mem _;have Hr:Hid (jT ts true x v=cO ts true v.items[0] x.ah[i].ty):=by
     show _=_;simp [ig,xI.out,Oz.out,e1,e2,hil,ag0]
    exact zCj
   have d2:((v.rest.length:Int) == 0)=false:=beq_eq_false_iff_ne.2 (by omega);have Hr:Hid (jT ts true x v=false):=by
    show _=_;simp [ig,xI.out,Oz.out,e1,e2]
   clear e1 e2;exact zCu
  have d1:((v.items.length:Int) == 1)=false:=beq_eq_false_iff_ne.2 (by omega);have Hr:Hid (jT ts true x v=false):=by
   show _=_;simp [ig,xI.out,Oz.out,e1]
  clear e1;exact zCu
 | none =>
  simp only [hsy,Option.isSome_none] at HM;have Oz:=hiQ hsy;clear hsy;go_wp2_with fail;refine (HM.out _ HX.out).mono ?_;rintro e w3 ⟨rfl,hb3⟩;have h03:=h02.trans (hb3.mono h02.size);have HV:=hiQ (HV.out.on hb3);have HT:=hiQ (HT.out.on hb3);have HX:=hiQ (HX.out.on hb3);have HS:=HS.out.below hb3 (by omega);have HW:=HW.out.below hb3 (by omega);have HY:=HY.out.below hb3 (by omega);have hz3:=HY.here;clear s0 v0 v1 v2 v3 v4 v5 v6 v7 t0 t1 t2 t3 t4 t5 t6 t7 t8 t9;have s0:=HS.cell 0;have v4:=HW.cell 4;have v5:=HW.cell 5;have v6:=HW.cell 6;have v7:=HW.cell 7;have t6:=HY.cell 6;have t8:=HY.cell 8;have t9:=HY.cell 9;simp only [qI] at s0 v4 v5 v6 v7 t6 t8 t9;have HS:=hiQ HS;have HW:=hiQ HW;have HY:=hiQ HY;clear hb3 h02;have Ro:=fun (n:Nat) => Calls.quiet_of_same (n:=n) ((EX v.id false (w3.drewN n)).mono fun _ _ ⟨h1,h2⟩ => ⟨h1,h2.symm⟩);simp only [Bool.not_false,Bool.true_and] at Ro;have Hb:Hid (jT ts true x v=(x.opn && (!true && (mM v.id && (decide (v.items.length=0) && (decide (v.rest.length=1) && KW v.rest v.id)))))):=by
   show _=_;simp [ig,xI.out,Oz.out]
  cases hop:x.opn
  all_goals
   rw [hop] at t9 Hb;clear hop
  ·
   have Hr:Hid (jT ts true x v=false):=by show _=_;rw [Hb.out];simp
   exact zCu
  have Hr:Hid (jT ts true x v=false):=by show _=_;rw [Hb.out];simp
  exact zCu
theorem aDP
 (ts:List ay) (A:Option Addr) (c n:Nat) (v:Val) (A1 A2 A3:Option Addr) (n1 n2 n3:Nat) (w:World) (hn:n < ts.length) (hkx:ts[n].kind=8) (hkv:v.kind=8) (hp:aA v=true) (hrl:v.rest.length=0)
 (ht:aU w w.heap.size (.slice A ts.length c) ts) (hv:ValAt w w.heap.size v (.slice A1 v.keys.length n1) (.slice A2 v.items.length n2) (.slice A3 v.rest.length n3))
 (hf:∀ t,zL 113 ts (.slice A ts.length c) t true (fun y => cO ts true y t) (v.keys ++ v.items)) :
 Calls Tryz.prog 113 #[.agg #[.slice A ts.length c],.int .i64 n,aS v (.slice A1 v.keys.length n1) (.slice A2 v.items.length n2) (.slice A3 v.rest.length n3),.bool true] w (RTq w (.bool (jT ts true ts[n] v))):=by
 have h3b:=KH w;obtain ⟨b,o,rfl,hbb,hel⟩:=ht.elem (by omega);obtain ⟨vs,vm,hcells,hx⟩:=hel n hn;clear hel;generalize ts[n]=x at *;obtain ⟨C1,l1,C2,l2,rfl,rfl,-,-⟩:=hx.forms;obtain ⟨c0,c1,c2,c3,c4,c5,c6,c7,c8,c9⟩:=hcells;have hlt:(n:Int) < ts.length:=by omega
 have hd0:decide ((n:Int) < 0)=false:=by simp
 have hd1:decide (ts.length≤n)=false:=by simpa using hn
 simp only [aS,hkv];rw [hkx] at c0;have HP:=hiQ (fun W => Rl v A1 A2 A3 n1 n2 n3 W hkv);simp only [aS,hkv,hp] at HP;have HF:=hiQ hf;have hr5:decide (0 < v.rest.length)=false:=decide_eq_false (by omega);have hr4:decide ((0:Int) < v.rest.length)=false:=decide_eq_false (by omega);clear hrl;have HT:=hiQ ht;have HV:=hiQ hv;have HX:=hiQ hx;have xI:=hiQ hkx;have Ul:=hiQ hkv;have hxs:=hx.lens;have hvl:=hv.lens;clear hf ht hv hx hkx hkv hp hn;go_enter Tryz.func113,Tryz.ntmps113
 go_wp2_with fail;refine (HP.out _).mono ?_;rintro e w2 ⟨rfl,hb2⟩;have HS:=(((Has.made _ _ _).alloc _).alloc _).below hb2 (by simp;omega);have HW:=((Has.made _ _ _).alloc _).below hb2 (by simp);have HY:=(Has.made _ _ _).below hb2 (by simp);rw [jG] at HW;rw [jG,jG] at HY;have h02:=(h3b _ _ _).trans (hb2.mono (h3b _ _ _).size);have hz2:=HY.here;have HT:=hiQ (HT.out.on h02);have HV:=hiQ (HV.out.on h02);have HX:=hiQ (HX.out.keep (fun _ hp => h02.cell hp) h02.size);obtain ⟨v0,v1,v2,v3,v4,v5,v6,v7⟩:=HW.c8;obtain ⟨t0,t1,t2,t3,t4,t5,t6,t7,t8,t9⟩:=HY.c10;have s0:=HS.cell 0;simp only [qI] at s0;clear hb2 h3b c0 c1 c2 c3 c4 c5 c6 c7 c8 c9;have HS:=hiQ HS;have HW:=hiQ HW;have HY:=hiQ HY;have HK:=hiQ (fun W hi ht => Jq ts (some ⟨b,o,none⟩) c x.key true (fun y => cO ts true y x.key) v.keys (.slice A1 v.keys.length n1) W (fun y vk vi vr W' hm => HF.out x.key y vk vi vr W' (by simp [hm])) hvl.1 hi ht);have HE:=hiQ (fun W hi ht => Jq ts (some ⟨b,o,none⟩) c x.elem true (fun y => cO ts true y x.elem) v.items (.slice A2 v.items.length n2) W (fun y vk vi vr W' hm => HF.out x.elem y vk vi vr W' (by simp [hm])) hvl.2.1 hi ht);rw [← uT] at HE HK;have Hb:Hid (jT ts true x v=(decide ((v.keys.length:Int)≤x.max) && (decide (v.items.length=v.keys.length) && (rC ts true v.keys x.key && (ati v.keys && rC ts true v.items x.elem))))):=by
  show _=_;simp [ig,xI.out]
 by_cases h1:((v.keys.length:Int)≤x.max)
 ·
  have h1':decide (x.max < (v.keys.length:Int))=false:=decide_eq_false (by omega);by_cases h2:v.items.length=v.keys.length
  ·
   have h2':((v.items.length:Int) != (v.keys.length:Int))=false:=by simp [h2]
   rw [decide_eq_true h1,decide_eq_true h2] at Hb;clear h1 h2;cases hfk:rC ts true v.keys x.key
   · exact zFb
   rw [hfk] at HK Hb;clear hfk;go_wp2_with fail;refine (HK.out _ HV.out.keys HT.out).mono ?_;rintro e w3 ⟨rfl,hb3⟩;have h03:=h02.trans (hb3.mono h02.size);have HV:=hiQ (HV.out.on hb3);have HT:=hiQ (HT.out.on hb3);have HX:=hiQ (HX.out.on hb3);have HS:=HS.out.below hb3 (by omega);have HW:=HW.out.below hb3 (by omega);have HY:=HY.out.below hb3 (by omega);have hz3:=HY.here;clear s0 v0 v1 v2 v3 v4 v5 v6 v7 t0 t1 t2 t3 t4 t5 t6 t7 t8 t9;have s0:=HS.cell 0;have v4:=HW.cell 4;have v5:=HW.cell 5;have v6:=HW.cell 6;have v7:=HW.cell 7;have t6:=HY.cell 6;have t8:=HY.cell 8;have t9:=HY.cell 9;simp only [qI] at s0 v4 v5 v6 v7 t6 t8 t9;have HS:=hiQ HS;have HW:=hiQ HW;have HY:=hiQ HY;clear hb3 h02;go_wp2_with fail;refine (HE.out _ HV.out.items HT.out).mono ?_;rintro e w4 ⟨rfl,hb4⟩;have hb3:=hb4;have h02:=h03;clear hb4 h03;have h03:=h02.trans (hb3.mono h02.size);have HV:=hiQ (HV.out.on hb3);have HT:=hiQ (HT.out.on hb3);have HX:=hiQ (HX.out.on hb3);have HS:=HS.out.below hb3 (by omega);have HW:=HW.out.below hb3 (by omega);have HY:=HY.out.below hb3 (by omega);have hz3:=HY.here;clear s0 v4 v5 v6 v7 t6 t8 t9;have s0:=HS.cell 0;have v4:=HW.cell 4;have v5:=HW.cell 5;have v6:=HW.cell 6;have v7:=HW.cell 7;have t6:=HY.cell 6;have t8:=HY.cell 8;have t9:=HY.cell 9;simp only [qI] at s0 v4 v5 v6 v7 t6 t8 t9;have HS:=hiQ HS;have HW:=hiQ HW;have HY:=hiQ HY;clear hb3 h02;cases hfe:rC ts true v.items x.elem
   ·
    rw [hfe] at Hb;clear hfe;go_wp2_with fail;go_ret;exact ⟨au (by rw [Hb.out];simp),h03⟩
   rw [hfe] at Hb;clear hfe;go_wp2_with fail;have HHS:=HS;have HHW:=HW;have HHY:=HY;clear HS HW HY HP HK;go_loopw [15] (fun i wr => ∃ k:Nat,i = .int .i64 ((k:Int)+1)∧k≤v.keys.length∧ati v.keys=ati (v.keys.drop k)∧Below w4.heap.size w4 wr) (fun i _ => v.keys.length+1 - (intOf i).toNat)
   case atStart => exact ⟨0,rfl,by omega,rfl,Below.refl _ _⟩
   case round =>
    obtain ⟨k,rfl,hk,hix,hb⟩:=hrel;have q0:=(HHS.out.below hb (by omega)).cell 0;have q5:=(HHW.out.below hb (by omega)).cell 5;have q6:=(HHW.out.below hb (by omega)).cell 6;have q8:=(HHY.out.below hb (by omega)).cell 8;simp only [qI] at q0 q5 q6 q8;by_cases hlt:k+1 < v.keys.length
    ·
     obtain ⟨bk,ok,rfl,hbk,hek⟩:=(HV.out.on hb).keys.elem (by omega);obtain ⟨xk,xi,xr,hcx,hxa⟩:=hek k (by omega);obtain ⟨yk,yi,yr,hcy,hya⟩:=hek (k+1) hlt;rw [Yp _ _ hlt] at hix;generalize v.keys[k]=a at *;generalize v.keys[k+1]=d at *;obtain ⟨E1,k1,E2,k2,E3,k3,rfl,rfl,rfl,-,-,-⟩:=hxa.forms;obtain ⟨F1,m1,F2,m2,F3,m3,rfl,rfl,rfl,-,-,-⟩:=hya.forms;obtain ⟨a0,a1,a2,a3,a4,a5,a6,a7⟩:=hcx;obtain ⟨d0,d1,d2,d3,d4,d5,d6,d7⟩:=hcy;have HA:=hiQ hxa;have HD:=hiQ hya;have jB:=hiQ hix;have hi1:(k:Int)+1 < v.keys.length:=by omega
     have hi2:(k:Int) < v.keys.length:=by omega
     have h0r:=h03.trans (hb.mono h03.size);clear hek hxa hya hix;go_wp2_with fail;have hw0:IntKind.i64.wrap (k:Int)=k:=IntWalk.i64_in _ (by omega);have hw1:IntKind.i64.wrap ((k:Int)+1 - 1)=k:=by rw [Int.add_sub_cancel];exact hw0
     have hw2:((k:Int)+1).toNat=k+1:=by omega
     have hw3:0≤(k:Int)+1:=by omega
     go_still_tail 11,(by kernel_rfl)
     change wpList _ _ _ _ _ wr.drew
     have HA:=hiQ (HA.out.on (w':=wr.drew) (Below.refl _ _).drew);have HD:=hiQ (HD.out.on (w':=wr.drew) (Below.refl _ _).drew);have hbd:=hb.drew;have GK:=h0r.drew;obtain ⟨cv,hcv⟩ : ∃ cv,Hid (alD a d=cv):=⟨_,rfl⟩
     clear hb h0r a0 a1 a2 a3 a4 a5 a6 a7 d0 d1 d2 d3 d4 d5 d6 d7 q0 q5 q6 q8;generalize wr.drew=w4 at *;go_wp2_with fail;refine (aFH a d _ _ _ _ _ _ _ HA.out HD.out).mono ?_;exact zCy
    rw [Va _ _ (by omega)] at hix;rw [hix] at Hb;have h0r:=h03.trans (hb.mono h03.size);clear hix hb h03;go_wp2_with fail;go_ret;exact ⟨au (by rw [Hb.out];simp),h0r⟩
  exact zEz
 exact zFh
theorem aDQ
 (ts:List ay) (A:Option Addr) (c n:Nat) (v:Val) (A1 A2 A3:Option Addr) (n1 n2 n3:Nat) (w:World) (hn:n < ts.length) (hkx:ts[n].kind=5) (hkv:v.kind=5) (hp:aA v=true) (hrl:v.rest.length=0)
 (ht:aU w w.heap.size (.slice A ts.length c) ts) (hv:ValAt w w.heap.size v (.slice A1 v.keys.length n1) (.slice A2 v.items.length n2) (.slice A3 v.rest.length n3))
 (hf:∀ t,zL 113 ts (.slice A ts.length c) t true (fun y => cO ts true y t) (v.keys ++ v.items)) :
 Calls Tryz.prog 113 #[.agg #[.slice A ts.length c],.int .i64 n,aS v (.slice A1 v.keys.length n1) (.slice A2 v.items.length n2) (.slice A3 v.rest.length n3),.bool true] w (RTq w (.bool (jT ts true ts[n] v))):=by
 have h3b:=KH w;obtain ⟨b,o,rfl,hbb,hel⟩:=ht.elem (by omega);obtain ⟨vs,vm,hcells,hx⟩:=hel n hn;clear hel;generalize ts[n]=x at *;obtain ⟨C1,l1,C2,l2,rfl,rfl,-,-⟩:=hx.forms;obtain ⟨c0,c1,c2,c3,c4,c5,c6,c7,c8,c9⟩:=hcells;have hlt:(n:Int) < ts.length:=by omega
 have hd0:decide ((n:Int) < 0)=false:=by simp
 have hd1:decide (ts.length≤n)=false:=by simpa using hn
 simp only [aS,hkv];rw [hkx] at c0;have HP:=hiQ (fun W => Ri v A1 A2 A3 n1 n2 n3 W hkv);simp only [aS,hkv,hp] at HP;have HF:=hiQ hf;have hr5:decide (0 < v.rest.length)=false:=decide_eq_false (by omega);have hr4:decide ((0:Int) < v.rest.length)=false:=decide_eq_false (by omega);clear hrl;have HT:=hiQ ht;have HV:=hiQ hv;have HX:=hiQ hx;have xI:=hiQ hkx;have Ul:=hiQ hkv;have hxs:=hx.lens;have hvl:=hv.lens;clear hf ht hv hx hkx hkv hp hn;go_enter Tryz.func113,Tryz.ntmps113
 go_wp2_with fail;refine (HP.out _).mono ?_;rintro e w2 ⟨rfl,hb2⟩;have HS:=(((Has.made _ _ _).alloc _).alloc _).below hb2 (by simp;omega);have HW:=((Has.made _ _ _).alloc _).below hb2 (by simp);have HY:=(Has.made _ _ _).below hb2 (by simp);rw [jG] at HW;rw [jG,jG] at HY;have h02:=(h3b _ _ _).trans (hb2.mono (h3b _ _ _).size);have hz2:=HY.here;have HT:=hiQ (HT.out.on h02);have HV:=hiQ (HV.out.on h02);have HX:=hiQ (HX.out.keep (fun _ hp => h02.cell hp) h02.size);obtain ⟨v0,v1,v2,v3,v4,v5,v6,v7⟩:=HW.c8;obtain ⟨t0,t1,t2,t3,t4,t5,t6,t7,t8,t9⟩:=HY.c10;have s0:=HS.cell 0;simp only [qI] at s0;clear hb2 h3b c0 c1 c2 c3 c4 c5 c6 c7 c8 c9;have HS:=hiQ HS;have HW:=hiQ HW;have HY:=hiQ HY;have HRt:=hiQ (fun W h1 h2 => acN x (.slice C1 x.syms.length l1) (.slice C2 x.ah.length l2) v.rest (.slice A3 v.rest.length n3) W hvl.2.2 h1 h2);simp only [dA,xI.out] at HRt;have Hb:Hid (jT ts true x v=(decide (v.items.length=x.ah.length) && (xK x v.rest none && qL ts true v.items x.ah))):=by
  show _=_;rw [show jT ts true x v=(decide (v.items.length=x.ah.length) && (!(true && decide (0 < v.rest.length)) && (xK x v.rest none && qL ts true v.items x.ah))) by simp [ig,xI.out]];rw [hr5];rfl
 by_cases h1:v.items.length=x.ah.length
 ·
  have h1':((v.items.length:Int) != (x.ah.length:Int))=false:=by simp [h1]
  have H1:=hiQ h1;rw [decide_eq_true h1,Bool.true_and] at Hb;clear h1;go_wp2_with fail;refine (HRt.out _ HX.out HV.out.rest).mono ?_;rintro e w3 ⟨rfl,hb3⟩;have h03:=h02.trans (hb3.mono h02.size);have HV:=hiQ (HV.out.on hb3);have HT:=hiQ (HT.out.on hb3);have HX:=hiQ (HX.out.on hb3);have HS:=HS.out.below hb3 (by omega);have HW:=HW.out.below hb3 (by omega);have HY:=HY.out.below hb3 (by omega);have hz3:=HY.here;clear s0 v0 v1 v2 v3 v4 v5 v6 v7 t0 t1 t2 t3 t4 t5 t6 t7 t8 t9;have s0:=HS.cell 0;have v4:=HW.cell 4;have v5:=HW.cell 5;have v6:=HW.cell 6;have v7:=HW.cell 7;have t6:=HY.cell 6;have t8:=HY.cell 8;have t9:=HY.cell 9;simp only [qI] at s0 v4 v5 v6 v7 t6 t8 t9;have HS:=hiQ HS;have HW:=hiQ HW;have HY:=hiQ HY;clear hb3 h02;cases hrb:xK x v.rest none
  ·
   rw [hrb] at Hb;clear hrb;go_wp2_with fail;go_ret;exact ⟨au (by rw [Hb.out];rfl),h03⟩
  rw [hrb,Bool.true_and] at Hb;clear hrb;go_wp2_with fail;have HHS:=HS;have HHW:=HW;have HHY:=HY;clear HS HW HY HP HRt;go_loopw [12] (fun i wr => ∃ j:Nat,i = .int .i64 j∧j≤v.items.length∧qL ts true v.items x.ah=qL ts true (v.items.drop j) (x.ah.drop j)∧Below w3.heap.size w3 wr) (fun i _ => v.items.length - (intOf i).toNat)
  case atStart => exact ⟨0,rfl,by omega,rfl,Below.refl _ _⟩
  case round =>
   obtain ⟨j,rfl,hj,Um,hc⟩:=hrel;have g0:=(HHS.out.below hc (by omega)).cell 0;have g6:=(HHW.out.below hc (by omega)).cell 6;have g7:=(HHY.out.below hc (by omega)).cell 6;simp only [qI] at g0 g6 g7;have h0s:=h03.trans (hc.mono h03.size);by_cases hlj:j < v.items.length
   ·
    have ajj:j < x.ah.length:=by have:=H1.out;omega
    obtain ⟨bm,om,rfl,hbm,hem⟩:=((HX.out.on hc).ah).elem (by omega);obtain ⟨mk,mi,mr,hmc,-⟩:=hem j ajj;have m2:=hmc.2.2.1;obtain ⟨bv,ov,rfl,hbv,hev⟩:=((HV.out.on hc).items).elem (by omega);obtain ⟨yk,yi,yr,hcy,hya⟩:=hev j hlj;have hmem:v.items[j] ∈ v.items:=List.getElem_mem _;rw [agY ts true v.items x.ah j hlj ajj] at Um;have hi1:(j:Int) < x.ah.length:=by omega
    have hi2:(j:Int) < v.items.length:=by omega
    generalize x.ah[j].ty=ty at *;generalize v.items[j]=y at *;obtain ⟨B1,k1,B2,k2,B3,k3,rfl,rfl,rfl,-,-,-⟩:=hya.forms;obtain ⟨y0,y1,y2,y3,y4,y5,y6,y7⟩:=hcy;have sG:=hiQ hya;have xE:=hiQ hmem;have Hjx:=hiQ Um;have HTs:=hiQ (HT.out.on hc);have HFm:=hiQ (HF.out ty y);clear hem hev hmc hya hmem Um;go_wp2_with fail;go_still_tail 13,(by kernel_rfl)
    change wpList _ _ _ _ _ wr.drew
    have sG:=hiQ (sG.out.on (w':=wr.drew) (Below.refl _ _).drew);have HTs:=hiQ (HTs.out.on (w':=wr.drew) (Below.refl _ _).drew);have hcd:=hc.drew;have GK:=h0s.drew;clear g0 g6 g7 m2 y0 y1 y2 y3 y4 y5 y6 y7 hc h0s;generalize wr.drew=w8 at *;go_wp2_with fail;refine (HFm.out _ _ _ _ (by simp [xE.out]) sG.out HTs.out).mono ?_;rintro e w7 ⟨rfl,hb7⟩;have Z4:=hcd.trans (hb7.mono hcd.size);have h07:=GK.trans (hb7.mono GK.size);clear hb7 hcd GK;cases hfy:cO ts true y ty
    · exact zEq
    exact zEb
   rw [aee ts true v.items x.ah j (by omega) (by have:=H1.out;omega)] at Um;exact zFq
 exact zDt
theorem Un (x:Val) (A1 A2 A3:Option Addr) (n1 n2 n3:Nat) (w:World) (hk:iP x.kind) :
  Calls Tryz.prog 138 #[aS x (.slice A1 x.keys.length n1) (.slice A2 x.items.length n2) (.slice A3 x.rest.length n3)] w (RTq w (.bool (aA x))):=by
 rcases vF hk with h | h | h | h | h | h | h | h | h
 · exact Q8 x A1 A2 A3 n1 n2 n3 w h
 · exact Q9 x A1 A2 A3 n1 n2 n3 w h
 · exact Rf x A1 A2 A3 n1 n2 n3 w h
 · exact Rh x A1 A2 A3 n1 n2 n3 w h
 · exact Ri x A1 A2 A3 n1 n2 n3 w h
 · exact Rj x A1 A2 A3 n1 n2 n3 w h
 · exact Rk x A1 A2 A3 n1 n2 n3 w h
 · exact Rl x A1 A2 A3 n1 n2 n3 w h
 exact Rn x A1 A2 A3 n1 n2 n3 w h
theorem TJ (ts:List ay) (x:ay) (v:Val) (hp:aA v=true) (hkk:v.kind=x.kind) (hr:0 < v.rest.length):jT ts true x v=false:=by
 simp only [aA,Bool.and_eq_true,Bool.or_eq_true,decide_eq_true_eq] at hp;rcases hp.2.2.2.2.2.2 with (h | h) | h
 ·
  rw [hkk] at h;have hd:decide (0 < v.rest.length)=true:=decide_eq_true hr;unfold jT ig;rw [if_neg (by omega),if_neg (by omega),if_neg (by omega),if_pos h,hd];simp
 ·
  rw [hkk] at h;have hd:decide (v.rest.length=0)=false:=decide_eq_false (by omega);unfold jT ig;rw [if_neg (by omega),if_neg (by omega),if_neg (by omega),if_neg (by omega),if_pos h];cases dN x v.id with
  | none => simp
  | some i => simp only [hd];simp
 omega
theorem aeX (ts:List ay) (A:Option Addr) (c:Nat) (t:Int) (v:Val) (pl:Bool) (vk vi vr:Value) (w:World) (hn:bM ts t=none) (hv:ValAt w w.heap.size v vk vi vr) :
  Calls Tryz.prog 113 #[.agg #[.slice A ts.length c],.int .i64 t,aS v vk vi vr,.bool pl] w (RTq w (.bool false)):=by
 obtain ⟨A1,n1,A2,n2,A3,n3,rfl,rfl,rfl,-,-,-⟩:=hv.forms;have h2b:=Oe w;clear hv;by_cases h0:t < 0
 ·
  clear hn;go_enter Tryz.func113,Tryz.ntmps113
  exact zGf
 obtain ⟨n,rfl⟩ : ∃ n:Nat,t=n:=⟨t.toNat,by omega⟩
 have hlt:ts.length≤n:=by
  simpa [bM] using hn
 have hd0:decide ((n:Int) < 0)=false:=by simp
 have hd1:decide (ts.length≤n)=true:=by simpa using hlt
 clear hn h0;go_enter Tryz.func113,Tryz.ntmps113
 exact zGf
theorem ahd (ts:List ay) (A:Option Addr) (c n:Nat) (v:Val) (pl:Bool) (A1 A2 A3:Option Addr) (n1 n2 n3:Nat) (w:World) (hn:n < ts.length) (hk:iP ts[n].kind) (hno:(decide (v.kind=ts[n].kind) && aA v)=false)
  (ht:aU w w.heap.size (.slice A ts.length c) ts) :
  Calls Tryz.prog 113 #[.agg #[.slice A ts.length c],.int .i64 n,aS v (.slice A1 v.keys.length n1) (.slice A2 v.items.length n2) (.slice A3 v.rest.length n3),.bool pl] w (RTq w (.bool false)):=by
 have h3b:=KH w;obtain ⟨b,o,rfl,hbb,hel⟩:=ht.elem (by omega);obtain ⟨vs,vm,hcells,hx⟩:=hel n hn;clear hel;generalize ts[n]=x at *;obtain ⟨C1,l1,C2,l2,rfl,rfl,-,-⟩:=hx.forms;obtain ⟨c0,c1,c2,c3,c4,c5,c6,c7,c8,c9⟩:=hcells;have hlt:(n:Int) < ts.length:=by omega
 have hd0:decide ((n:Int) < 0)=false:=by simp
 have hd1:decide (ts.length≤n)=false:=by simpa using hn
 by_cases hkk:v.kind=x.kind
 ·
  rw [decide_eq_true hkk,Bool.true_and] at hno;have HP:=hiQ (fun W => Un v A1 A2 A3 n1 n2 n3 W (by rw [hkk];exact hk));have hne:(v.kind != x.kind)=false:=by simp [hkk]
  simp only [aS,hno] at HP ⊢;clear ht hx hno hkk hk;go_enter Tryz.func113,Tryz.ntmps113
  exact zFs
 have hne:(v.kind != x.kind)=true:=by simpa using hkk
 clear ht hx hno hkk hk;go_enter Tryz.func113,Tryz.ntmps113
 go_wp2_with fail;go_ret;exact ⟨rfl,h3b _ _ _⟩
theorem ahe (ts:List ay) (A:Option Addr) (c n:Nat) (v:Val) (A1 A2 A3:Option Addr) (n1 n2 n3:Nat) (w:World) (hn:n < ts.length) (hk:iP ts[n].kind) (hkk:v.kind=ts[n].kind) (hp:aA v=true) (hr:0 < v.rest.length)
  (ht:aU w w.heap.size (.slice A ts.length c) ts) :
  Calls Tryz.prog 113 #[.agg #[.slice A ts.length c],.int .i64 n,aS v (.slice A1 v.keys.length n1) (.slice A2 v.items.length n2) (.slice A3 v.rest.length n3),.bool true] w (RTq w (.bool false)):=by
 have h3b:=KH w;obtain ⟨b,o,rfl,hbb,hel⟩:=ht.elem (by omega);obtain ⟨vs,vm,hcells,hx⟩:=hel n hn;clear hel;generalize ts[n]=x at *;obtain ⟨C1,l1,C2,l2,rfl,rfl,-,-⟩:=hx.forms;obtain ⟨c0,c1,c2,c3,c4,c5,c6,c7,c8,c9⟩:=hcells;have hlt:(n:Int) < ts.length:=by omega
 have hd0:decide ((n:Int) < 0)=false:=by simp
 have hd1:decide (ts.length≤n)=false:=by simpa using hn
 have HP:=hiQ (fun W => Un v A1 A2 A3 n1 n2 n3 W (by rw [hkk];exact hk));have hne:(v.kind != x.kind)=false:=by simp [hkk]
 have hr5:decide (0 < v.rest.length)=true:=decide_eq_true hr;have hr4:decide ((0:Int) < v.rest.length)=true:=decide_eq_true (by omega);have hW0:=(Has.made (w.alloc (.cells #[.slice (some ⟨b,o,none⟩) ts.length c] 25)) 81 #[.int .i64 v.kind,.bool v.bool,.int .i64 v.num,.string ⟨v.str.toArray⟩,.int .i64 v.id,.slice A1 v.keys.length n1,.slice A2 v.items.length n2,.slice A3 v.rest.length n3]).alloc (.cells #[.int .i64 x.kind,.string ⟨x.name.toArray⟩,.int .i64 x.low,.int .i64 x.high,.int .i64 x.max,.slice C1 x.syms.length l1,.slice C2 x.ah.length l2,.int .i64 x.key,.int .i64 x.elem,.bool x.opn] 71);rw [jG] at hW0;simp only [aS,hp] at HP ⊢;clear ht hx hp hkk hk;go_enter Tryz.func113,Tryz.ntmps113
 go_wp2_with fail;refine (HP.out _).mono ?_;rintro e w2 ⟨rfl,hb2⟩;have c7:=(hW0.below hb2 (by simp)).cell 7;simp only [qI] at c7;have h02:=(h3b _ _ _).trans (hb2.mono (h3b _ _ _).size);clear hb2 hW0;go_wp2_with fail;go_ret;exact ⟨rfl,h02⟩
theorem aFT:∀ (N:Nat) (v:Val),nodes v≤N→∀ (ts:List ay) (A:Option Addr) (c:Nat) (t:Int) (vk vi vr:Value) (w:World),Kinds ts →
  aU w w.heap.size (.slice A ts.length c) ts→ValAt w w.heap.size v vk vi vr →
  Calls Tryz.prog 113 #[.agg #[.slice A ts.length c],.int .i64 t,aS v vk vi vr,.bool true] w (RTq w (.bool (cO ts true v t))):=by
 intro N
 induction N with
 | zero => intro v h;have:=zJ v;omega
 | succ N ih =>
  intro v hN ts A c t vk vi vr w hk ht hv;cases hta:bM ts t with
  | none =>
   rw [show cO ts true v t=false by rw [kG,hta]];exact aeX ts A c t v true vk vi vr w hta hv
  | some x =>
   obtain ⟨n,rfl,hn,rfl⟩ : ∃ n:Nat,t=n∧∃ hn:n < ts.length,ts[n]=x:=by
    exact zGd
   have hkn:iP ts[n].kind:=hk _ (List.getElem_mem hn);obtain ⟨A1,n1,A2,n2,A3,n3,rfl,rfl,rfl,-,-,-⟩:=hv.forms;have heq:cO ts true v n=((decide (v.kind=ts[n].kind) && aA v) && jT ts true ts[n] v):=by
    rw [kG,hta,Bool.and_assoc]
   rw [heq];cases hno:(decide (v.kind=ts[n].kind) && aA v) with
   | false =>
    rw [Bool.false_and];exact ahd ts A c n v true A1 A2 A3 n1 n2 n3 w hn hkn hno ht
   | true =>
    rw [Bool.true_and];simp only [Bool.and_eq_true,decide_eq_true_eq] at hno;obtain ⟨hkk,hp⟩:=hno;by_cases hpr:true=true∧0 < v.rest.length
    ·
     first
      | exact absurd hpr.1 (by decide)
      | (rw [TJ ts _ v hp hkk hpr.2];exact ahe ts A c n v A1 A2 A3 n1 n2 n3 w hn hkn hkk hp hpr.2 ht)
    have hrl:true=true→v.rest.length=0:=fun h => by
     rcases Nat.eq_zero_or_pos v.rest.length with h2 | h2
     · exact h2
     exact absurd ⟨h,h2⟩ hpr
    have hne:=Jp v;have hf:∀ t,zL 113 ts (.slice A ts.length c) t true (fun y => cO ts true y t) (v.keys ++ v.items):=by
     intro t y yk yi yr W hy hya hts;have hm:nodes y≤N:=by
      rcases List.mem_append.1 hy with h | h
      · have:=tY _ _ h;omega
      have:=tY _ _ h;omega
     exact ih y hm ts A c t yk yi yr W hk hts hya
    rcases vF hkn with h | h | h | h | h | h | h | h | h
    · first | exact aC9 ts A c n v A1 A2 A3 n1 n2 n3 w hn h (hkk.trans h) hp (hrl rfl) ht hv hf | exact aC9 ts A c n v A1 A2 A3 n1 n2 n3 w hn h (hkk.trans h) hp ht hv hf
    · first | exact aDd ts A c n v A1 A2 A3 n1 n2 n3 w hn h (hkk.trans h) hp (hrl rfl) ht hv hf | exact aDd ts A c n v A1 A2 A3 n1 n2 n3 w hn h (hkk.trans h) hp ht hv hf
    · first | exact aDf ts A c n v A1 A2 A3 n1 n2 n3 w hn h (hkk.trans h) hp (hrl rfl) ht hv hf | exact aDf ts A c n v A1 A2 A3 n1 n2 n3 w hn h (hkk.trans h) hp ht hv hf
    · first | exact aDn ts A c n v A1 A2 A3 n1 n2 n3 w hn h (hkk.trans h) hp (hrl rfl) ht hv hf | exact aDn ts A c n v A1 A2 A3 n1 n2 n3 w hn h (hkk.trans h) hp ht hv hf
    · first | exact aDQ ts A c n v A1 A2 A3 n1 n2 n3 w hn h (hkk.trans h) hp (hrl rfl) ht hv hf | exact aDQ ts A c n v A1 A2 A3 n1 n2 n3 w hn h (hkk.trans h) hp ht hv hf
    · first | exact aDr ts A c n v A1 A2 A3 n1 n2 n3 w hn h (hkk.trans h) hp (hrl rfl) ht hv hf | exact aDr ts A c n v A1 A2 A3 n1 n2 n3 w hn h (hkk.trans h) hp ht hv hf
    · first | exact aDo ts A c n v A1 A2 A3 n1 n2 n3 w hn h (hkk.trans h) hp (hrl rfl) ht hv hf | exact aDo ts A c n v A1 A2 A3 n1 n2 n3 w hn h (hkk.trans h) hp ht hv hf
    · first | exact aDP ts A c n v A1 A2 A3 n1 n2 n3 w hn h (hkk.trans h) hp (hrl rfl) ht hv hf | exact aDP ts A c n v A1 A2 A3 n1 n2 n3 w hn h (hkk.trans h) hp ht hv hf
    first | exact aDp ts A c n v A1 A2 A3 n1 n2 n3 w hn h (hkk.trans h) hp (hrl rfl) ht hv hf | exact aDp ts A c n v A1 A2 A3 n1 n2 n3 w hn h (hkk.trans h) hp ht hv hf
theorem aGg (v:Val) (ts:List ay) (A:Option Addr) (c:Nat) (t:Int) (vk vi vr:Value) (w:World) (hk:Kinds ts) (ht:aU w w.heap.size (.slice A ts.length c) ts) (hv:ValAt w w.heap.size v vk vi vr) :
  Calls Tryz.prog 85 #[.agg #[.slice A ts.length c],.int .i64 t,aS v vk vi vr] w (RTq w (.bool (cO ts true v t))):=by
 obtain ⟨A1,n1,A2,n2,A3,n3,rfl,rfl,rfl,-,-,-⟩:=hv.forms;have h2b:=Oe w;have HF:=hiQ (fun W => aFT (nodes v) v (Nat.le_refl _) ts A c t (.slice A1 v.keys.length n1) (.slice A2 v.items.length n2) (.slice A3 v.rest.length n3) W hk);have HV:=hiQ hv;have HT:=hiQ ht;clear hv ht hk;go_enter Tryz.func85,Tryz.ntmps85
 exact zFe
theorem zAy {p:Prop} (h:p:=by exact ⟨S.out.cell 0,(fun b o hlt => hb.cell (p:=⟨b,o,none⟩) hlt)⟩):p:=h
theorem aHT (ts:List ay) (A:Option Addr) (c:Nat) (w:World) (hs:Sizes ts) (ht:aU w w.heap.size (.slice A ts.length c) ts) :
  Calls Tryz.prog 49 #[.agg #[.slice A ts.length c]] w (aoT ts w):=by
 have HT:=hiQ ht;have HS:=hiQ hs;obtain ⟨ve,hve⟩ : ∃ ve,fF ts=ve:=⟨_,rfl⟩
 have hV:=fun W h => aaw ts A c W hs h;simp only [hve] at hV;have HV:=hiQ hV;clear hs ht hV;by_cases hv0:ve=0
 case neg =>
  have t1:(ve == 0)=false:=by simpa using hv0
  have t2:(ve != 0)=true:=by simpa using hv0
  have Hd:Hid (alu ts=(0,0,ve)):=by show _=_;unfold alu;rw [hve,if_neg hv0]
  clear hve hv0;go_enter Tryz.func49,Tryz.ntmps49
  exact zDy
 subst hv0;have HK:=hiQ (awz hve);have h32:=(atg hve).1;have aGY:(ts.length:Int)≤32:=by omega
 have Hd:Hid (alu ts=anW ts ts 0):=by show _=_;unfold alu;rw [hve];rfl
 clear hve;go_enter Tryz.func49,Tryz.ntmps49
 go_upto_region 1 with fail;refine aO (fun wd2 hb1 S => ?_);have hw3:=hb1;clear hb1;have aH:=S.out.e0;go_wp2_with fail;clear aH;((with_reducible refine (HV.out _ (HT.out.on hw3)).mono ?_);rintro e wd4 ⟨rfl,hb5⟩);replace S:=b1 S hb5;replace hw3:=dT hw3 hb5;clear hb5;have aH:=S.out.e0;have Eh:=hiQ S.out;have hB0:=hw3;go_upto_region 5 with fail;clear aH;go_loopw [6] (fun i wr => ∃ k:Nat,k≤ts.length∧i = .int .i64 k∧Has wr w.heap.size 25 #[.slice A ts.length c]∧anW ts ts 0=anW ts (ts.drop k) k∧Below w.heap.size w wr) (fun i _ => ts.length - (intOf i).toNat)
 case atStart => exact ⟨0,by omega,rfl,Eh.out,rfl,hB0⟩
 case round =>
  clear S hB0 Eh;obtain ⟨k,hk,rfl,S,hdt,hw⟩:=hrel;replace S:=hiQ S;by_cases hlt:k < ts.length
  ·
   obtain ⟨b,o,rfl,hbb,hel⟩:=HT.out.elem (by omega);obtain ⟨vs,vm,hcells,hxa⟩:=hel k hlt;rw [List.drop_eq_getElem_cons hlt] at hdt;generalize ts[k]=x at *;obtain ⟨C1,m1,C2,m2,rfl,rfl,-,-⟩:=hxa.forms;have Wj:=hiQ hxa;have Hdt:=hiQ hdt;have hi1:(k:Int) < ts.length:=by omega
   have hi0:(0:Int)≤(k:Int):=by omega
   have hls:=hxa.lens;obtain ⟨c0,c1,c2,c3,c4,c5,c6,c7,c8,c9⟩:=hcells.below hw hbb;clear hxa hdt hcells hel;have Ql:=hiQ S.out;have aH:=S.out.e0;go_upto_region 8 with fail;have hB0:=hw;have Eh:=hiQ S.out;clear aH c0 c1 c2 c3 c4 c5 c6 c7 c8 c9;go_wp2_with fail;go_loopw [8] (fun j ws => ∃ q:Nat,q≤x.ah.length∧j = .int .i64 q∧Has ws w.heap.size 25 #[.slice (some ⟨b,o,none⟩) ts.length c]∧alg ts x.ah=alg ts (x.ah.drop q)∧Below w.heap.size w ws) (fun j _ => x.ah.length - (intOf j).toNat)
   case atStart => exact ⟨0,by omega,rfl,Eh.out,rfl,hB0⟩
   case round =>
    clear S Eh Ql hB0;obtain ⟨q,hq,rfl,S,hdm,hb⟩:=hrel;replace S:=hiQ S;by_cases hlq:q < x.ah.length
    ·
     skip
     obtain ⟨bb1,o1,rfl,hb1,hel⟩:=Wj.out.ah.elem (by omega);obtain ⟨dk,di,dr,hcells,hma⟩:=hel q hlq;have hq1:(q:Int) < x.ah.length:=by omega
     have hq0:(0:Int)≤(q:Int):=by omega
     rw [List.drop_eq_getElem_cons hlq] at hdm;generalize x.ah[q]=m at *;obtain ⟨D1,d1,D2,d2,D3,d3,rfl,rfl,rfl,-,-,-⟩:=hma.dflt.forms;have Oo:=hiQ hma.dflt;have Hdm:=hiQ hdm;clear hel hma hdm;obtain ⟨y0,y1,y2,y3,y4,y5,y6,y7,y8,y9,GN,GR,GU⟩:=hcells;cases hhd:m.eG with
     | false =>
      have azP:Hid (alg ts x.ah=alg ts (x.ah.drop (q+1))):=by show _=_;rw [Hdm.out,awX ts [] m _ (.inl hhd)]
      have x4:=((hb).cell (p:=⟨bb1,_,none⟩) hb1).trans y4;rw [hhd] at x4;clear hhd y0 y1 y2 y3 y4 y5 y6 y7 y8 y9 GN GR GU;go_upto_region 11 with fail;go_quiet (fail)
      clear x4;go_wp2_with fail;go_roundw
      case rel => exact ⟨q+1,by omega,by go_num,S.out.drewN _,azP.out,below_drewN hb _⟩
      case measure => simp [intOf];omega
     | true =>
      rw [hhd] at y4;have hfp:=fun W h1 h2 => aGg m.dflt ts (some ⟨b,o,none⟩) c m.ty (.slice D1 m.dflt.keys.length d1) (.slice D2 m.dflt.items.length d2) (.slice D3 m.dflt.rest.length d3) W HK.out h1 h2;obtain ⟨fv,hfv⟩ : ∃ fv,cO ts true m.dflt m.ty=fv:=⟨_,rfl⟩
      simp only [hfv] at hfp;have HFP:=hiQ hfp;clear hfp;cases fv with
      | false =>
       have Hr:Hid (alu ts=((k:Int),m.id,1)):=by show _=_;rw [Hd.out,Hdt.out,auz ts _ x k m.id (by rw [Hdm.out,azO ts m _ hhd hfv])]
       clear hhd hfv y1 y3;go_upto_region 11 with fail;have aH:=S.out.e0;refine wp_region_held_drew (S:=(fun w' => w'.cell? ⟨w.heap.size,0,none⟩=some (.slice (some ⟨b,o,none⟩) ts.length c)∧(∀ (b o:Nat),b < w.heap.size→w'.cell? ⟨b,o,none⟩=w.cell? ⟨b,o,none⟩))) (by kernel_rfl) ⟨aH,(fun b o hlt => hb.cell (p:=⟨b,o,none⟩) hlt)⟩ (fun hHeld => ?_);clear aH;have hb6:Below wr.heap.size wr (wr.drew):=(Below.refl _ _).drew;replace S:=b1 S hb6;replace hb:=dT hb hb6;clear hb6;generalize wr.drew=jC at *;refine tk 0 ?_;refine tk 1 ?_;refine tk 2 ?_;refine tk 3 ?_;refine tk 4 ?_;refine tk 5 ?_;refine tk 6 ?_;refine tk 7 ?_;refine tk 8 ?_;refine tk 9 ?_;refine tk 10 ?_;refine tk 11 ?_;refine tk 12 ?_;refine tk 13 ?_;refine tk 14 ?_;refine tk 15 ?_;refine tk 16 ?_;refine iE 17 fun K hK => ?_;go_simp;((with_reducible refine (HFP.out _ (HT.out.on hb) (Oo.out.on hb)).mono ?_);rintro e qP ⟨rfl,zU⟩);replace S:=b1 S zU;replace hb:=dT hb zU;clear zU;(try clear hHeld);refine hK.out _ _ zAy (fun hHeld => ?_);clear hK K;refine tk 18 ?_;refine tk 19 ?_;refine wpAnyH_done (by kernel_rfl) ?_ _;(try clear hHeld);have x0:=((hb).cell (p:=⟨bb1,_,none⟩) hb1).trans y0;clear y0 y2 y4 y5 y6 y7 y8 y9 GN GR GU;exact zGp
      | true =>
       have azP:Hid (alg ts x.ah=alg ts (x.ah.drop (q+1))):=by show _=_;rw [Hdm.out,awX ts [] m _ (.inr hfv)]
       clear hhd hfv y1 y3;go_upto_region 11 with fail;have aH:=S.out.e0;refine wp_region_held_drew (S:=(fun w' => w'.cell? ⟨w.heap.size,0,none⟩=some (.slice (some ⟨b,o,none⟩) ts.length c)∧(∀ (b o:Nat),b < w.heap.size→w'.cell? ⟨b,o,none⟩=w.cell? ⟨b,o,none⟩))) (by kernel_rfl) ⟨aH,(fun b o hlt => hb.cell (p:=⟨b,o,none⟩) hlt)⟩ (fun hHeld => ?_);clear aH;have hb6:Below wr.heap.size wr (wr.drew):=(Below.refl _ _).drew;replace S:=b1 S hb6;replace hb:=dT hb hb6;clear hb6;generalize wr.drew=jC at *;refine tk 0 ?_;refine tk 1 ?_;refine tk 2 ?_;refine tk 3 ?_;refine tk 4 ?_;refine tk 5 ?_;refine tk 6 ?_;refine tk 7 ?_;refine tk 8 ?_;refine tk 9 ?_;refine tk 10 ?_;refine tk 11 ?_;refine tk 12 ?_;refine tk 13 ?_;refine tk 14 ?_;refine tk 15 ?_;refine tk 16 ?_;refine iE 17 fun K hK => ?_;go_simp;((with_reducible refine (HFP.out _ (HT.out.on hb) (Oo.out.on hb)).mono ?_);rintro e qP ⟨rfl,zU⟩);replace S:=b1 S zU;replace hb:=dT hb zU;clear zU;(try clear hHeld);refine hK.out _ _ zAy (fun hHeld => ?_);clear hK K;refine tk 18 ?_;refine tk 19 ?_;refine wpAnyH_done (by kernel_rfl) ?_ _;(try clear hHeld);clear y0 y2 y4 y5 y6 y7 y8 y9 GN GR GU;exact zEm
    exact zDz
  exact zFa
end Go.Proofs.YtlamhkffnlgofaaGreatDoor

/- Plain: a value that fits has no unknown parts exactly if it is plain. No condition. -/
import Derived.Test.YtkaedmpppnnamaaGreatDoorHAF
namespace Go.Proofs.YtkaedmpppnnamaaGreatDoor
open ChangeShapes WideShapes ChangeAt RowKit
def KY (ts:List ay) (v:Val) (t:Int):Prop:=cO ts false v t=true->0<=uz ts v t/\(uz ts v t=0↔cO ts true v t=true)
theorem zT {ts:List ay} {t:Int} : ∀ l:List Val,(∀ y ∈ l,KY ts y t)->rC ts false l t=true->0<=Ls ts l t/\(Ls ts l t=0↔rC ts true l t=true)
 | [],_,_ => by rw [Ls,rC];simp
 | y :: r,h,hf => by
  rw [rC,j_] at hf;obtain ⟨h1,h2⟩:=h y (by simp) hf.1;obtain ⟨h3,h4⟩:=zT r (fun z hz => h z (by simp [hz])) hf.2;rw [Ls,rC,j_,<- h2,<- h4];omega
theorem avF {ts:List ay} : ∀ (l:List Val) (ms:List Mem),(∀ y ∈ l,∀ t,KY ts y t)->qL ts false l ms=true->0<=AX ts l ms/\(AX ts l ms=0↔qL ts true l ms=true)
 | [],[],_,_ => by rw [AX,qL];simp
 | [],m :: ms,_,hf => by rw [qL] at hf;cases hf
 | y :: r,[],_,hf => by rw [qL] at hf;cases hf
 | y :: r,m :: ms,h,hf => by
  rw [qL,j_] at hf;obtain ⟨h1,h2⟩:=h y (by simp) m.ty hf.1;obtain ⟨h3,h4⟩:=avF r ms (fun z hz => h z (by simp [hz])) hf.2;rw [AX,qL,j_,<- h2,<- h4];omega
theorem aFF {ts:List ay} {t:Int} (l:List Val) (h:∀ y ∈ l,KY ts y t) (hf:zM ts false l t=true):0<=ab9 ts l t/\(ab9 ts l t=0↔zM ts true l t=true):=by
 cases l with
 | nil => rw [zM] at hf;cases hf
 | cons y r =>
  rw [zM] at hf;rw [ab9,zM];exact h y (by simp) hf
theorem aFG {ts:List ay} {pl:Bool} {v:Val} {t:Int} {x:ay} (hx:bM ts t=some x) (h1:v.kind=x.kind) (h2:aA v=true):cO ts pl v t=true↔jT ts pl x v=true:=by
 rw [kG,hx];simp only [h1,h2,decide_true,CX]
theorem auU {v:Val} (h:aA v=true) (hk:¬ (v.kind=5\/v.kind=6)):v.rest.length=0:=by
 unfold aA at h;simp only [j_,QF,w_] at h;exact h.2.2.2.2.2.2.resolve_left hk
theorem zJt {p:Prop} (h:p:=by
 have hk:=CO h1 h2 (by omega);obtain ⟨g1,g2⟩:=zT v.items (fun y hy => hI y hy x.elem) h3.2;rw [hk,Ls];exact ⟨by omega,fun h => ⟨h3.1,g2.1 (by omega)⟩,fun h => by have:=g2.2 h.2;omega⟩):p:=h
theorem aCU (ts:List ay):∀ (N:Nat) (v:Val) (t:Int),nodes v<=N->KY ts v t:=by
 intro N
 induction N with
 | zero => intro v t hn;have:=zJ v;omega
 | succ N ih =>
  intro v t hn hf;cases hx:bM ts t with
  | none => rw [kG,hx] at hf;cases hf
  | some x =>
   obtain ⟨h1,h2,h3⟩:=pI hx hf;have hne:=Jp v;have hK:∀ y ∈ v.keys,∀ t,KY ts y t:=fun y hy t => ih y t (by have:=tY _ y hy;omega);have hI:∀ y ∈ v.items,∀ t,KY ts y t:=fun y hy t => ih y t (by have:=tY _ y hy;omega);rw [aFG hx h1 h2,Lu ts v t x hx];have hr:=auU h2;rw [h1] at hr;unfold jT ig at h3 ⊢;unfold QV;by_cases k2:x.kind=2
   .
    have:=hr (by omega);simp only [k2,Int.reduceEq,↓reduceIte,or_self] at h3 ⊢;exact ⟨by omega,fun _ => h3,fun _ => by omega⟩
   by_cases k3:x.kind=3
   .
    have:=hr (by omega);simp only [k3,Int.reduceEq,↓reduceIte,or_self] at h3 ⊢;exact ⟨by omega,fun _ => h3,fun _ => by omega⟩
   by_cases k4:x.kind=4
   .
    have:=hr (by omega);simp only [k4,Int.reduceEq,↓reduceIte] at h3 ⊢;cases hs:(qm x v.id).isSome with
    | true => exact ⟨by simp,fun _ => by simp,fun _ => by rw [this];rfl⟩
    | false => exact ⟨by simp;omega,fun h => by simp at h;omega,fun h => by simp at h⟩
   by_cases k5:x.kind=5
   .
    simp only [k5,Int.reduceEq,↓reduceIte,j_,w_] at h3 ⊢;obtain ⟨e1,_,e2,e3⟩:=h3;obtain ⟨g1,g2⟩:=avF v.items x.ah hI e3;refine ⟨by omega,fun h => ⟨e1,?_,e2,g2.1 (by omega)⟩,fun h => ?_⟩
    .
     have:v.rest.length=0:=by omega
     rw [this];rfl
    obtain ⟨_,q,_,z⟩:=h;have h5:=g2.2 z;have q2:¬ (0 < v.rest.length):=fun hh => by rw [n_ hh] at q;cases q
    omega
   by_cases k6:x.kind=6
   .
    cases hm:dN x v.id with
    | none =>
     simp only [k6,hm,Int.reduceEq,↓reduceIte,j_,w_] at h3 ⊢;obtain ⟨_,_,_,_,e5,_⟩:=h3;exact ⟨by omega,fun h => by omega,fun h => absurd h.2.1 (by simp)⟩
    | some i =>
     simp only [k6,hm,Int.reduceEq,↓reduceIte,j_,w_] at h3 ⊢;obtain ⟨e1,e2,e3⟩:=h3;cases lY:x.ah[i]? with
     | none => rw [lY] at e3;cases e3
     | some m =>
      rw [lY] at e3;obtain ⟨g1,g2⟩:=aFF v.items (fun y hy => hI y hy m.ty) e3;simp only at g1 g2 ⊢;exact ⟨by omega,fun h => ⟨e1,e2,g2.1 (by omega)⟩,fun h => by have:=g2.2 h.2.2;omega⟩
   have h0:=hr (by omega);by_cases k7:x.kind=7
   .
    simp only [k7,Int.reduceEq,↓reduceIte,j_,w_,true_or] at h3 ⊢;exact zJt
   by_cases k8:x.kind=8
   .
    simp only [k8,Int.reduceEq,↓reduceIte,j_,w_,true_or,or_true] at h3 ⊢;obtain ⟨e1,e2,e3,e4,e5⟩:=h3;obtain ⟨g1,g2⟩:=zT v.items (fun y hy => hI y hy x.elem) e5;obtain ⟨g3,g4⟩:=zT v.keys (fun y hy => hK y hy x.key) e3;exact ⟨by omega,fun h => ⟨e1,e2,g4.1 (by omega),e4,g2.1 (by omega)⟩,fun h => by have h5:=g4.2 h.2.2.1;have h6:=g2.2 h.2.2.2.2;omega⟩
   by_cases k9:x.kind=9
   .
    simp only [k9,Int.reduceEq,↓reduceIte,j_,w_,or_true] at h3 ⊢;exact zJt
   simp only [k2,k3,k4,k5,k6,k7,k8,k9,↓reduceIte,or_self];exact ⟨by omega,fun _ => trivial,fun _ => by omega⟩

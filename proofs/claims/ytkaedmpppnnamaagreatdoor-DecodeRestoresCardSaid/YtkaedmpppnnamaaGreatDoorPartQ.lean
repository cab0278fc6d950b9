/- Plain: the unknown parts of a value that fits, item by item. No condition. -/
import Derived.Test.YtkaedmpppnnamaaGreatDoorPartP
import Derived.Test.YtkaedmpppnnamaaGreatDoorUnk
namespace Go.Proofs.YtkaedmpppnnamaaGreatDoor
open ChangeShapes WideShapes ChangeAt RowKit
def iy (x:ay) (id:Int) (k:Nat):Int :=
 if x.kind=5 then (match x.ah[k]? with | some m => m.ty | none => 0)
 else if x.kind=6 then (match dN x id with
  | some i => (match x.ah[i]? with | some m => m.ty | none => 0)
  | none => 0)
 else x.elem
def gu (ts:List ay) (x:ay) (id:Int):List Val->Nat->Int
 | [],_ => 0
 | y :: r,k => uz ts y (iy x id k)+gu ts x id r (k+1)
theorem aDR (ts:List ay) (x:ay) (id:Int) (l:List Val) (k:Nat) (h:k < l.length):gu ts x id (l.drop k) k=uz ts l[k] (iy x id k)+gu ts x id (l.drop (k+1)) (k+1):=by
 rw [A_ h,gu]
theorem avL (ts:List ay) (x:ay) (id:Int) (l:List Val) (k:Nat) (h:l.length<=k):gu ts x id (l.drop k) k=0:=by rw [G_ h,gu]
theorem NM (ts:List ay) (x:ay) (id:Int) (h5:x.kind=5):∀ (l:List Val) (k:Nat),l.length+k=x.ah.length->gu ts x id l k=AX ts l (x.ah.drop k)
 | [],k,_ => by rw [gu,AX]
 | y :: r,k,h => by
  have hk:k < x.ah.length:=by simp at h;omega
  rw [gu,NM ts x id h5 r (k+1) (by simp at h ⊢; omega),A_ hk,AX];unfold iy;rw [o_ h5,m_ hk]
theorem yt (ts:List ay) (x:ay) (id:Int) (h5:¬ x.kind=5) (h6:¬ x.kind=6):∀ (l:List Val) (k:Nat),gu ts x id l k=Ls ts l x.elem
 | [],k => by rw [gu,Ls]
 | y :: r,k => by
  rw [gu,yt ts x id h5 h6 r (k+1),Ls];unfold iy;rw [gB h5,gB h6]
theorem KG {ts:List ay} {v:Val} {t:Int} {x:ay} (hx:bM ts t=some x) (h:cO ts false v t=true) (hk:x.kind=6) (hm:dN x v.id=none):v.items = []:=by
 have h3:=(pI hx h).2.2;unfold jT ig at h3;simp only [hk,hm,Int.reduceEq,↓reduceIte,j_,w_] at h3;obtain ⟨_,_,_,e4,_⟩:=h3;exact yS e4
theorem auy {ts:List ay} {v:Val} {t:Int} {x:ay} {i:Nat} (hx:bM ts t=some x) (h:cO ts false v t=true) (hk:x.kind=6) (hi:dN x v.id=some i):v.items.length=1:=by
 have h3:=(pI hx h).2.2;unfold jT ig at h3;simp only [hk,hi,Int.reduceEq,↓reduceIte,j_,w_] at h3;exact h3.1
theorem OT {ts:List ay} {v:Val} {t:Int} {x:ay} (hx:bM ts t=some x) (h:cO ts false v t=true) (hk:1<=x.kind/\x.kind<=9) :
  uz ts v t=(v.rest.length:Int)+(if x.kind=4 then (if (qm x v.id).isSome then 0 else 1) else 0)+Ls ts v.keys x.key+gu ts x v.id v.items 0:=by
 obtain ⟨h1,h2,h3⟩:=pI hx h;rw [Lu ts v t x hx];unfold QV;dsimp only;have e0:∀ t,Ls ts [] t=0:=fun t => by rw [Ls]
 by_cases k8:x.kind=8
 .
  rw [yt ts x v.id (by omega) (by omega)];simp only [k8,Int.reduceEq,↓reduceIte,true_or,or_true];omega
 rw [show v.keys = [] from CO h1 h2 k8];simp only [e0];by_cases k5:x.kind=5
 .
  rw [NM ts x v.id k5 v.items 0 (by rw [(RZ hx h k5).1];omega)];simp only [k5,Int.reduceEq,↓reduceIte,WM];omega
 by_cases k6:x.kind=6
 .
  cases hm:dN x v.id with
  | none =>
   rw [KG hx h k6 hm,gu];simp [k6]
  | some i =>
   obtain ⟨e1,e2,_⟩:=avG hx h k6 hm;have e3:=auy hx h k6 hm;obtain ⟨y,hy⟩:=List.length_eq_one_iff.1 e3;rw [hy,gu,gu];unfold iy;simp only [k6,hm,Int.reduceEq,↓reduceIte,m_ e2,ab9];omega
 rw [yt ts x v.id k5 k6];by_cases k7:x.kind=7\/x.kind=9
 .
  rw [gB (by omega),gB k5,gB k6,o_ (by omega),gB (by omega)];omega
 rw [wB v h2 (by omega)];simp only [e0];by_cases k4:x.kind=4
 . simp only [k4,↓reduceIte];omega
 rw [gB k4,gB k5,gB k6,gB (by omega),gB k4];omega
theorem auB {ts:List ay} {v:Val} {t:Int} {x:ay} (hx:bM ts t=some x) (h:cO ts false v t=true) (hk:1<=x.kind/\x.kind<=9) (k:Nat) (hlt:k < v.items.length):cO ts false v.items[k] (iy x v.id k)=true:=by
 obtain ⟨h1,h2,h3⟩:=pI hx h;unfold iy;by_cases k5:x.kind=5
 .
  obtain ⟨e1,e2⟩:=RZ hx h k5;rw [o_ k5,m_ (by omega)];exact e2 k hlt (by omega)
 rw [gB k5];by_cases k6:x.kind=6
 .
  rw [o_ k6];cases hm:dN x v.id with
  | none => have:=KG hx h k6 hm;rw [this] at hlt;simp at hlt
  | some i =>
   obtain ⟨e1,e2,e3⟩:=avG hx h k6 hm;have e4:=auy hx h k6 hm;obtain rfl:k=0:=by omega
   simp only [m_ e2];exact e3
 rw [gB k6];by_cases k7:x.kind=7\/x.kind=8\/x.kind=9
 . exact (Ei hx h k7).2 _ (jl hlt)
 rw [wB v h2 (by omega)] at hlt;simp at hlt

/- Plain, and what else is used with it. No condition. -/
import Derived.Test.YtkaedmpppnnamaaGreatDoorJAO
import Derived.Test.YtkaedmpppnnamaaGreatDoorJAE
import Derived.Test.YtkaedmpppnnamaaGreatDoorHAJ
import Derived.Test.YtkaedmpppnnamaaGreatDoorPartQ
namespace Go.Proofs.YtkaedmpppnnamaaGreatDoor
open ChangeShapes WideShapes ChangeAt RowKit
mutual
theorem Vo:∀ v:Val,nodes v<=I8 v
 | .mk _ _ _ s _ ks is rs => by
  rw [nodes,I8];have:=MI ks;have:=MI is;omega
theorem MI:∀ l:List Val,lT l<=uK l
 | [] => by simp [lT]
 | y :: r => by
  rw [lT,uK];have:=Vo y;have:=MI r;omega
end
def fz:List kP->Nat
 | [] => 0
 | f :: r => 20+f.data.length+fz r
theorem Em:∀ a b:List kP,fz (a ++ b)=fz a+fz b
 | [],b => by simp [fz]
 | f :: r,b => by rw [Qu,fz,fz,Em r b];omega
theorem Xh (p:List UInt8):(jK p).length<=10+p.length:=by
 unfold jK;rw [h_];have:=qw 9 p.length;omega
theorem aCc (f:kP):(gW f).length<=20+f.data.length:=by
 unfold gW;rw [h_];have h1:=Xh f.data;have h2:=qw 9 (2*f.id+(if f.akb then 1 else 0));omega
theorem Ut:∀ l:List kP,(l.flatMap gW).length<=fz l
 | [] => by simp [fz]
 | f :: r => by
  rw [B_,h_,fz];have:=aCc f;have:=Ut r;omega
theorem avt (g h:Nat->List kP):∀ l:List Nat,fz (l.flatMap (fun id => g id ++ h id))=fz (l.flatMap g)+fz (l.flatMap h)
 | [] => by simp [fz]
 | a :: r => by
  rw [B_,B_,B_,Em,Em,Em,Em,avt g h r];omega
theorem avx (k:Raw->Nat):∀ l:List Raw,fz (l.map (fun r => ⟨k r,false,r.2⟩))=20*l.length+qx l
 | [] => by simp [fz,qx]
 | r :: l => by rw [Qv,fz,avx k l,qx,z_];dsimp only;omega
theorem avz (rest:List Raw):∀ l:List Nat,fz (l.flatMap (fun id => (rest.filter (fun r => r.1 == ((id:Nat):Int))).map (fun r => (⟨id,false,r.2⟩ : kP))))=20*(l.flatMap (fun id => rest.filter (fun r => r.1 == ((id:Nat):Int)))).length+qx (l.flatMap (fun id => rest.filter (fun r => r.1 == ((id:Nat):Int))))
 | [] => by simp [fz,qx]
 | a :: r => by
  rw [B_,B_,Em,avx (fun _ => a),avz rest r,h_];have:∀ x y:List Raw,qx (x ++ y)=qx x+qx y:=by
   intro x y
   induction x with
   | nil => simp [qx]
   | cons q x ih => rw [Qu,qx,qx,ih];omega
  rw [this];omega
def PZ (c:Nat->Nat):Nat->Nat->Nat
 | _,0 => 0
 | k,n+1 => c k+PZ c (k+1) n
theorem Xi:∀ (l:List Int) (id:Int) (k:Nat),(∀ a ∈ l,a≠id)->nY l id k=none
 | [],_,_,_ => rfl
 | a :: r,id,k,h => by rw [nY,gB (h a (by simp)),Xi r id (k+1) (fun b hb => h b (by simp [hb]))]
theorem G8 (c:Nat->Nat) (g:Nat->List kP):∀ (n s k:Nat) (l:List Int),l.Pairwise (· < ·)->(∀ a ∈ l,(s:Int)<=a)->(∀ id:Nat,s<=id->fz (g id)<=match nY l (id:Int) k with | some j => c j | none => 0)->fz ((List.range' s n).flatMap g)<=PZ c k l.length
 | 0,s,k,l,_,_,_ => by simp [fz]
 | n+1,s,k,[],hp,hs,hg => by
  rw [List.range'_succ,B_,Em];have h1:=hg s (b_ _);have h2:=G8 c g n (s+1) k [] hp (fun a h => by simp at h) (fun id h => hg id (by omega));simp only [nY] at h1;simp only [Q_,PZ] at h2 ⊢;omega
 | n+1,s,k,a :: r,hp,hs,hg => by
  rw [List.range'_succ,B_,Em];have h1:=hg s (b_ _);have hp2:=List.pairwise_cons.1 hp;have ha:=hs a (by simp);by_cases he:a=(s:Int)
  .
   rw [nY,o_ he] at h1;have h2:=G8 c g n (s+1) (k+1) r hp2.2 (fun b hb => by have:=hp2.1 b hb;omega) (fun id h => by
    have h3:=hg id (by omega);rw [nY,gB (by omega)] at h3;exact h3)
   rw [z_,PZ];simp only at h1;omega
  rw [Xi (a :: r) (s:Int) k (fun b hb => by
   rcases N_.1 hb with rfl | hb
   . exact he
   have:=hp2.1 b hb;omega)] at h1
  have h2:=G8 c g n (s+1) k (a :: r) hp (fun b hb => by
   rcases N_.1 hb with rfl | hb
   . omega
   have:=hp2.1 b hb;omega) (fun id h => hg id (by omega))
  simp only at h1;omega
theorem Rt (c:Nat->Nat):∀ (l:List Val) (k:Nat),(∀ j (h:j < l.length),c (k+j)<=20*I8 l[j])->PZ c k l.length<=20*uK l
 | [],k,_ => by simp [PZ]
 | y :: r,k,h => by
  rw [z_,PZ,uK];have h1:=h 0 (by simp);simp only [QB,QA] at h1;have h2:=Rt c r (k+1) (fun j hj => by
   have:=h (j+1) (by simpa using hj);rw [show k+1+j=k+(j+1) by omega];simpa using this)
  omega
theorem JI (ts:List ay) (t:Int):∀ l:List Val,(∀ y ∈ l,(fE ts y t).length+20<=20*I8 y)->((lu ts l t).flatMap jK).length<=20*uK l
 | [],_ => by simp [lu]
 | y :: r,h => by
  rw [lu,B_,h_,uK];have h1:=h y (by simp);have h2:=Xh (fE ts y t);have h3:=JI ts t r (fun z hz => h z (by simp [hz]));omega
theorem Xj:∀ a b:List (List UInt8),((inter a b).flatMap jK).length<=(a.flatMap jK).length+(b.flatMap jK).length
 | [],b => by simp [inter]
 | a :: r,[] => by simp [inter]
 | a :: r,b :: s => by
  rw [inter,B_,B_,B_,B_,h_,h_,h_,h_];have:=Xj r s;omega
theorem Xk:∀ (l:List Val) (h:0 < l.length),I8 l[0]<=uK l
 | [],h => by simp at h
 | y :: r,_ => by simp only [QA];rw [uK];omega
theorem abv (ts:List ay) (hv:fF ts=0):∀ (N:Nat) (v:Val) (t:Int),nodes v<=N->cO ts false v t=true->(fE ts v t).length+20<=20*I8 v:=by
 intro N
 induction N with
 | zero => intro v t hn;have:=zJ v;omega
 | succ N ih =>
  intro v t hn hf;cases hx:bM ts t with
  | none => rw [kG,hx] at hf;cases hf
  | some x =>
   have hxm:=Mc hx;obtain ⟨h1,h2,h3⟩:=pI hx hf;have hkr:=(IJ hv x hxm).1;obtain ⟨hnk,hni⟩:=JE hn;have hsz:=Vp v;have hcs:x.kind=1\/x.kind=2\/x.kind=3\/x.kind=4\/x.kind=5\/x.kind=6\/x.kind=7\/x.kind=8\/x.kind=9:=by omega
   have hp:=tu ts v t x hx;unfold Ce at hp;rcases hcs with hk | hk | hk | hk | hk | hk | hk | hk | hk
   .
    rw [o_ hk] at hp;rw [hp];split <;> simp <;> omega
   .
    rw [gB (by omega),o_ hk] at hp;have:=PE 8 (zig v.num).toNat [];rw [hp];simp at this;omega
   .
    rw [gB (by omega),gB (by omega),o_ hk] at hp;rw [hp];omega
   .
    rw [gB (by omega),gB (by omega),gB (by omega),o_ hk] at hp;have:=PE 8 v.id.toNat [];rw [hp];simp at this;omega
   .
    rw [gB (by omega),gB (by omega),gB (by omega),gB (by omega),gB (by omega),gB (by omega),gB (by omega),gB (by omega)] at hp;obtain ⟨hlen,hfit⟩:=RZ hx hf hk;obtain ⟨hm1,hm2⟩:=Dy hv hxm (.inl hk);unfold jT ig at h3;rw [gB (by omega),gB (by omega),gB (by omega),o_ hk] at h3;simp only [j_,w_] at h3;obtain ⟨hr1,hr2⟩:=L9 x _ _ h3.2.2.1;have hrr:=G6 1000 1 v.rest (fun r hr => by have:=hr1 r hr;omega) hr2;have hff:=Ut (Dz x v.items (uw ts v.items x.ah) v.rest 1000);have hfl:fz (Dz x v.items (uw ts v.items x.ah) v.rest 1000)=fz ((List.range' 1 1000).flatMap (fun id => match dN x ((id:Nat):Int) with
     | some i => (match x.ah[i]? with
      | some m => if m.eG && iK (v.items.getD i jm) m.dflt then [] else [⟨id,m.akb,(uw ts v.items x.ah).getD i []⟩]
      | none => [])
     | none => []))+fz ((List.range' 1 1000).flatMap (fun id => (v.rest.filter (fun r => r.1 == ((id:Nat):Int))).map (fun r => (⟨id,false,r.2⟩ : kP)))):=avt _ _ _
    rw [avz,hrr] at hfl;have hcs:=G8 (fun j => 20+((uw ts v.items x.ah).getD j []).length) (fun id => match dN x ((id:Nat):Int) with
     | some i => (match x.ah[i]? with
      | some m => if m.eG && iK (v.items.getD i jm) m.dflt then [] else [⟨id,m.akb,(uw ts v.items x.ah).getD i []⟩]
      | none => [])
     | none => []) 1000 1 0 (x.ah.map Mem.id) hm2 (fun a ha => by obtain ⟨m,hm,rfl⟩:=Pe.1 ha;exact (hm1 m hm).1) (fun id _ => by
      show fz (match dN x ((id:Nat):Int) with | some i => _ | none => _)<=match dN x ((id:Nat):Int) with | some j => _ | none => 0
      cases dN x ((id:Nat):Int) with
      | none => simp [fz]
      | some i =>
       simp only;cases x.ah[i]? with
       | none => simp [fz]
       | some m =>
        simp only;split
        . simp [fz]
        simp [fz])
    have hci:=Rt (fun j => 20+((uw ts v.items x.ah).getD j []).length) v.items 0 (fun j hj => by
     have hj2:j < x.ah.length:=by omega
     simp only [Ru];rw [NG ts v.items x.ah j hj hj2];have:=ih v.items[j] x.ah[j].ty (hni _ (jl hj)) (hfit j hj hj2);omega)
    rw [Qs,<- hlen] at hcs;rw [hp];dsimp only;omega
   .
    rcases agi hx hf hk with ⟨i,lY,hr0,hlt,h00,hfk,hp6⟩ | ⟨r,hr,hp6⟩
    .
     have:=ih v.items[0] x.ah[i].ty (hni _ (jl h00)) hfk;have hq:=qw 9 v.id.toNat;have hs:=Xk v.items h00;rw [hp6,h_];omega
    have hq:=qw 9 v.id.toNat;rw [hr] at hsz;simp only [qx,z_,Q_] at hsz;rw [hp6,h_];omega
   .
    rw [gB (by omega),gB (by omega),gB (by omega),gB (by omega),gB (by omega),gB (by omega),o_ hk] at hp;have:=JI ts x.elem v.items (fun y hy => ih y x.elem (hni y hy) ((Ei hx hf (.inl hk)).2 y hy));rw [hp];dsimp only;omega
   .
    rw [gB (by omega),gB (by omega),gB (by omega),gB (by omega),gB (by omega),gB (by omega),gB (by omega),o_ hk] at hp;have h4:=JI ts x.elem v.items (fun y hy => ih y x.elem (hni y hy) ((Ei hx hf (.inr (.inl hk))).2 y hy));have h5:=JI ts x.key v.keys (fun y hy => ih y x.key (hnk y hy) ((Ei hx hf (.inr (.inl hk))).1 y hy));have h6:=Xj (lu ts v.keys x.key) (lu ts v.items x.elem);rw [hp];dsimp only;omega
   rw [gB (by omega),gB (by omega),gB (by omega),gB (by omega),o_ hk] at hp;by_cases h0:v.items.length=0
   . rw [o_ h0] at hp;rw [hp];simp;omega
   rw [gB h0] at hp;dsimp only at hp;rw [NK ts v.items x.elem (by omega)] at hp;have h00:0 < v.items.length:=by omega
   have:=ih v.items[0] x.elem (hni _ (jl h00)) ((Ei hx hf (.inr (.inr hk))).2 _ (jl h00));have hs:=Xk v.items h00;rw [hp,z_];omega
theorem aD5 (ts:List ay) (hk:∀ x ∈ ts,1<=x.kind/\x.kind<=9):∀ (N:Nat) (v:Val) (t:Int),nodes v<=N->cO ts false v t=true->uz ts v t<=I8 v:=by
 intro N
 induction N with
 | zero => intro v t hn;have:=zJ v;omega
 | succ N ih =>
  intro v t hn hf;obtain ⟨n,rfl,hn2,hkv⟩:=ajB hf;have hx:bM ts n=some ts[n]:=by unfold bM;rw [o_ (by omega)];simp [hn2]
  have hkk:=hk _ (jl hn2);have hne:=Jp v;rw [OT hx hf hkk,Vp];have hK:∀ l:List Val,(∀ y ∈ l,uz ts y ts[n].key<=I8 y)->Ls ts l ts[n].key<=uK l:=by
   intro l
   induction l with
   | nil => intro _;rw [Ls,uK];omega
   | cons y r ihl => intro h;rw [Ls,uK];have h3:=h y (by simp);have h4:=ihl fun z hz => h z (by simp [hz]);omega
  have hI:∀ (l:List Val) (k:Nat),(∀ j (h:j < l.length),uz ts l[j] (iy ts[n] v.id (k+j))<=I8 l[j])->gu ts ts[n] v.id l k<=uK l:=by
   intro l
   induction l with
   | nil => intro k _;rw [gu,uK];omega
   | cons y r ihl =>
    intro k h;rw [gu,uK];have h3:=h 0 (by simp);have h4:=ihl (k+1) fun j hj => by
     have:=h (j+1) (by simp;omega);rw [show k+1+j=k+(j+1) by omega];exact this
    simp only [QA,QB] at h3;omega
  have h1:=hK v.keys fun y hy => ih y _ (by have:=tY _ y hy;omega) (by
   by_cases k8:ts[n].kind=8
   . exact (Ei hx hf (.inr (.inl k8))).1 y hy
   rw [CO (pI hx hf).1 (pI hx hf).2.1 k8] at hy;simp at hy)
  have h2:=hI v.items 0 fun j hj => by
   have:=auB hx hf hkk j hj;rw [Ru];exact ih _ _ (by have:=tY _ _ (jl hj);omega) this
  split
  . split <;> omega
  omega

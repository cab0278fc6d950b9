/- Plain, and what else is used with it. No condition. -/
import Derived.Test.YtkaedmpppnnamaaGreatDoorJAH
import Derived.Test.YtkaedmpppnnamaaGreatDoorHAG
set_option maxHeartbeats 2000000
set_option maxRecDepth 100000
namespace Go.Proofs.YtkaedmpppnnamaaGreatDoor
open ChangeShapes WideShapes ChangeAt RowKit
theorem Bo (xs:List fJ):(jw xs).length=xs.length:=by unfold jw;simp
theorem FW (xs:List fJ) (k:Nat) (h:k < xs.length):(jw xs)[k]'(by rw [Bo];exact h)=iL xs k xs[k]:=by unfold jw;simp
def Down (ts:List ay) (i:Nat) (t:Int):Prop := ∃ j:Nat,t=j/\∃ h:j < ts.length,j < i\/7<=ts[j].kind
structure Tf (ts:List ay) (i:Nat) (x:ay):Prop where
 three:x.kind=3->0<=x.max/\x.max<=3
 four:x.kind=4->1<=x.syms.length
 syms:x.syms.length<=6/\∀ a ∈ x.syms,1<=a.1/\a.1<=6
 ah:x.ah.length<=12/\∀ m ∈ x.ah,(1<=m.id/\m.id<=12)/\Down ts i m.ty
 six:x.kind=6->1<=x.ah.length
 max:x.kind=7\/x.kind=8->0<=x.max/\x.max<=3
 elem:7<=x.kind->∃ j:Nat,x.elem=j/\j < ts.length
 key:x.kind=8->∃ j:Nat,x.key=j/\∃ h:j < ts.length,1<=ts[j].kind/\ts[j].kind<=4
theorem CV (xs:List fJ) (i:Nat) (rc:Bool) (ps:List Aw) (k:Nat):(lH xs i rc ps k).length<=k:=by
 induction k with
 | zero => simp [lH]
 | succ k ih =>
  rw [lH,h_];have:(tK xs i rc ps (k+1)).length<=1:=by
   unfold tK;cases ps.findSome? (partOf xs i rc (k+1)) <;> simp
  omega
theorem Ye (xs:List fJ) (i:Nat) (x:fJ) (h:7<=ai5 x):7<=(iL xs i x).kind:=by
 unfold iL;have h1:ai5 x≠2:=by omega
 have h2:ai5 x≠3:=by omega
 have h3:ai5 x≠4:=by omega
 have h4:ai5 x≠5:=by omega
 have h5:ai5 x≠6:=by omega
 simp only [h1,h2,h3,h4,h5,if_false];by_cases h7:ai5 x=7
 . simp [h7]
 by_cases h8:ai5 x=8
 .
  simp only [h8];cases vw xs x.b <;> simp
 have h9:=(vX x).2;have h9:ai5 x=9:=by omega
 simp [h9]
theorem Yf (xs:List fJ) (i c t:Nat) (hi:i < xs.length) (h:uN xs i c=some t):Down (jw xs) i t:=by
 have hm:c % xs.length < xs.length:=Qo _ (by omega);have hk:∀ j (hj:j < xs.length),vS (an8 xs j)=true->∃ h:j < (jw xs).length,7<=(jw xs)[j].kind:=fun j hj hh => by
  refine ⟨by rw [Bo];exact hj,?_⟩;rw [FW xs j hj];rw [CU xs j hj] at hh;exact Ye xs j xs[j] (by simpa [vS] using hh)
 unfold uN at h;split at h
 .
  next h1 =>
  injection h with h;subst h;rcases QF _ _ ▸ h1 with h2 | h2
  .
   obtain ⟨h3,h4⟩:=hk _ hm h2;exact ⟨_,rfl,h3,.inr h4⟩
  exact ⟨_,rfl,by rw [Bo];exact hm,.inl (of_decide_eq_true h2)⟩
 split at h
 .
  next h1 =>
  injection h with h;subst h;have:=Qo (c % xs.length) h1;exact ⟨_,rfl,by rw [Bo];omega,.inl this⟩
 obtain ⟨_,h2,h3⟩:=Ip _ _ _ h;obtain ⟨h4,h5⟩:=hk t (by omega) h3;exact ⟨_,rfl,h4,.inr h5⟩
theorem CW (xs:List fJ) (i:Nat) (rc:Bool) (ps:List Aw) (k:Nat):∀ m ∈ lH xs i rc ps k,∃ (id:Nat) (p:Aw),1<=id/\id<=k/\p ∈ ps/\partOf xs i rc id p=some m:=by
 induction k with
 | zero => simp [lH]
 | succ k ih =>
  intro m hm;rw [lH,Dp] at hm;rcases hm with hm | hm
  .
   obtain ⟨id,p,h1,h2,h3⟩:=ih m hm;exact ⟨id,p,h1,by omega,h3⟩
  unfold tK at hm;cases h:ps.findSome? (partOf xs i rc (k+1)) with
  | none => rw [h] at hm;simp at hm
  | some q =>
   rw [h] at hm;have hq:m=q:=by simpa using hm
   subst hq;obtain ⟨p,hp,h2⟩:=List.exists_of_findSome?_eq_some h;exact ⟨k+1,p,by omega,b_ _,hp,h2⟩
theorem AZ (xs:List fJ) (i:Nat) (hi:i < xs.length) (rc:Bool) (id:Nat) (p:Aw) (m:Mem) (h:partOf xs i rc id p=some m):m.id=id/\Down (jw xs) i m.ty/\(m.eG=true->rc=true/\∃ t code,m.ty=(t:Nat)/\uN xs i p.2.1=some t/\aT xs t code=(m.dflt,true)):=by
 unfold partOf at h;cases ht:uN xs i p.2.1 with
 | none => rw [ht] at h;simp at h
 | some t =>
  rw [ht] at h;simp only at h;split at h
  .
   injection h with h;subst h;refine ⟨rfl,Yf xs i _ t hi ht,fun hd => ?_⟩;cases rc with
   | false => simp [jm] at hd
   | true =>
    refine ⟨rfl,t,p.2.2 / 4,rfl,rfl,?_⟩;by_cases h2:2<=p.2.2 % 4
    .
     simp only [CX,n_ h2,if_true] at hd ⊢;exact Prod.ext rfl hd
    simp [h2] at hd
  cases h
theorem MN (xs:List fJ) (i:Nat) (hi:i < xs.length):Tf (jw xs) i (iL xs i xs[i]):=by
 have hx:∀ c:Nat,∃ j:Nat,((c % xs.length:Nat):Int)=j/\j < (jw xs).length:=fun c => ⟨_,rfl,by rw [Bo];exact Qo _ (by omega)⟩
 have hmx:0<=((xs[i].a % 4:Nat):Int)/\((xs[i].a % 4:Nat):Int)<=3:=by omega
 have hp:∀ rc ps,(oH xs i rc ps).length<=12/\∀ m ∈ oH xs i rc ps,(1<=m.id/\m.id<=12)/\Down (jw xs) i m.ty:=fun rc ps => ⟨CV xs i rc ps 12,fun m hm => by
  obtain ⟨id,p,h1,h2,_,h3⟩:=CW xs i rc ps 12 m hm;obtain ⟨h4,h5,_⟩:=AZ xs i hi rc id p m h3;exact ⟨by omega,h5⟩⟩
 have h0:([] : List Mem).length<=12/\∀ m ∈ ([] : List Mem),(1<=m.id/\m.id<=12)/\Down (jw xs) i m.ty:=by simp
 have s0:([] : List (Int × List UInt8)).length<=6/\∀ a ∈ ([] : List (Int × List UInt8)),1<=a.1/\a.1<=6:=by simp
 unfold iL;simp only;split
 . exact ⟨by simp,by simp,s0,h0,by simp,by simp,by simp,by simp⟩
 split
 . exact ⟨fun _ => hmx,by simp,s0,h0,by simp,by simp,by simp,by simp⟩
 split
 .
  refine ⟨by simp,fun _ => ?_,⟨?_,?_⟩,h0,by simp,by simp,by simp,by simp⟩
  . simpa using (zC xs[i]).1
  . simpa using (zC xs[i]).2
  intro a ha;simp only [Pe] at ha;obtain ⟨b,hb,rfl⟩:=ha;exact Fv _ b hb
 split
 . exact ⟨by simp,by simp,s0,hp _ _,by simp,by simp,by simp,by simp⟩
 split
 .
  split
  . exact ⟨by simp,by simp,s0,h0,by simp,by simp,by simp,by simp⟩
  next he =>
  refine ⟨by simp,by simp,s0,hp _ _,fun _ => ?_,by simp,by simp,by simp⟩;cases hq:oH xs i false xs[i].parts with
  | nil => rw [hq] at he;simp at he
  | cons a r => simp
 split
 . exact ⟨by simp,by simp,s0,h0,by simp,fun _ => hmx,fun _ => hx _,by simp⟩
 split
 .
  cases hk:vw xs xs[i].b with
  | none => exact ⟨by simp,by simp,s0,h0,by simp,fun _ => hmx,fun _ => hx _,by simp⟩
  | some j =>
   obtain ⟨h1,h2⟩:=Td xs _ j hk;refine ⟨by simp,by simp,s0,h0,by simp,fun _ => hmx,fun _ => hx _,fun _ => ⟨j,rfl,by rw [Bo];exact h1,?_⟩⟩;rw [FW xs j h1];rw [CU xs j h1] at h2;have h3:1<=ai5 xs[j]/\ai5 xs[j]<=4:=by simpa [wI] using h2
   have h4:ai5 xs[j]=1\/ai5 xs[j]=2\/ai5 xs[j]=3\/ai5 xs[j]=4:=by omega
   rcases h4 with h4 | h4 | h4 | h4 <;> simp [iL,h4]
 split
 . exact ⟨by simp,by simp,s0,h0,by simp,by simp,fun _ => hx _,by simp⟩
 exact ⟨by simp,by simp,s0,h0,by simp,by simp,by simp,by simp⟩
theorem Yg {p:Nat->Bool} : ∀ (f k:Nat),uF p f k=none->∀ j,k<=j->j < k+f->p j=false:=by
 intro f
 induction f with
 | zero => intro k _ j h1 h2;omega
 | succ f ih =>
  intro k h j h1 h2;rw [uF] at h;split at h
  . cases h
  next hp =>
  rcases Nat.eq_or_lt_of_le h1 with h3 | h3
  . subst h3;simpa using hp
  exact ih (k+1) h j (by omega) (by omega)
theorem Uy (xs:List fJ) (c d:Nat) (h:vw xs c=none):vw xs d=none:=by
 cases hd:vw xs d with
 | none => rfl
 | some j =>
  obtain ⟨h1,h2⟩:=Td xs d j hd;unfold vw at h;have h3:uF (fun k => wI (an8 xs (pO xs c k))) xs.length 0=none:=by
   cases hq:uF (fun k => wI (an8 xs (pO xs c k))) xs.length 0 with
   | none => rfl
   | some q => rw [hq] at h;simp at h
  have h4:=Yg _ _ h3 ((j+xs.length - c % xs.length) % xs.length) (VZ _) (by have:=Qo (j+xs.length - c % xs.length) (show 0 < xs.length by omega);omega);have h5:pO xs c ((j+xs.length - c % xs.length) % xs.length)=j:=by
   have hc:=Qo c (show 0 < xs.length by omega);unfold pO;rw [Nat.add_mod,Nat.mod_mod,<- Nat.add_mod_mod,Nat.mod_mod];rw [show c % xs.length+(j+xs.length - c % xs.length) % xs.length=c % xs.length+(j+xs.length - c % xs.length) % xs.length from rfl,Nat.add_mod_mod,show c % xs.length+(j+xs.length - c % xs.length)=j+xs.length by omega,Nat.add_mod_right,Nat.mod_eq_of_lt h1]
  simp only [h5,h2] at h4;cases h4
theorem ayE (a:Int):∀ (l:List Int) (k:Nat),a ∈ l->(nY l a k).isSome=true
 | [],_,h => by simp at h
 | b :: r,k,h => by
  rw [vN];split
  . rfl
  next hb =>
  rcases N_.1 h with h | h
  . exact absurd h.symm hb
  exact ayE a r (k+1) h
theorem P6 (a:Int):∀ (l:List Int) (k:Nat),a ∉ l->nY l a k=none
 | [],_,_ => rfl
 | b :: r,k,h => by
  rw [vN,gB (fun e => h (by rw [e];exact List.mem_cons_self)),P6 a r (k+1) (fun e => h (List.mem_cons_of_mem _ e))]
theorem Tf.free {ts:List ay} {i:Nat} {x:ay} (h:Tf ts i x) (n:Int) (hn:13<=n):dN x n=none/\qm x n=none:=by
 refine ⟨P6 _ _ _ fun hm => ?_,P6 _ _ _ fun hm => ?_⟩
 .
  obtain ⟨m,hm,e⟩:=Pe.1 hm;have:=(h.ah.2 m hm).1;omega
 obtain ⟨m,hm,e⟩:=Pe.1 hm;have:=h.syms.2 m hm;omega
theorem afn (xs:List fJ) (t:Nat) (ht:t < xs.length):bM (jw xs) (t:Nat)=some (iL xs t xs[t]):=by
 unfold bM;rw [o_ (by omega),Int.toNat_natCast,m_ (by rw [Bo];exact ht),FW xs t ht]
theorem Yh (xs:List fJ) (t code:Nat) (d:Val) (ht:t < xs.length) (h:aT xs t code=(d,true)):cO (jw xs) true d (t:Nat)=true:=by
 rw [kG,afn xs t ht];unfold aT at h;rw [m_ ht] at h;simp only at h;have hkn:=vX xs[t];have hkk:ai5 xs[t]=1\/ai5 xs[t]=2\/ai5 xs[t]=3\/ai5 xs[t]=4\/ai5 xs[t]=5\/ai5 xs[t]=6\/ai5 xs[t]=7\/ai5 xs[t]=8\/ai5 xs[t]=9:=by omega
 rcases hkk with hk | hk | hk | hk | hk | hk | hk | hk | hk
 . simp [hk] at h;subst h;simp [iL,hk,aA,ig,Val.kind,Val.bool,Val.num,Val.str,Val.id,Val.keys,Val.items,Val.rest]
 .
  simp [hk] at h;subst h;have h1:tX xs[t] - vY xs[t]+1 > 0:=by unfold tX;omega
  have h2:=Int.emod_nonneg (code:Int) (show tX xs[t] - vY xs[t]+1≠0 by omega);have h3:=Int.emod_lt_of_pos (code:Int) h1;simp [iL,hk,aA,ig,Val.kind,Val.bool,Val.num,Val.str,Val.id,Val.keys,Val.items,Val.rest];omega
 .
  simp [hk] at h;subst h;simp [iL,hk,aA,ig,Val.kind,Val.bool,Val.num,Val.str,Val.id,Val.keys,Val.items,Val.rest];split <;> simp <;> omega
 .
  simp [hk] at h;subst h;have hl:=(zC xs[t]).1;have hlt:=Qo code (show 0 < (qK xs[t]).length by omega);have hm:(qK xs[t])[code % (qK xs[t]).length] ∈ qK xs[t]:=jl hlt;have hs:=ayE _ _ 0 hm;simp [iL,hk,aA,ig,qm,Val.kind,Val.bool,Val.num,Val.str,Val.id,Val.keys,Val.items,Val.rest];have hc:(Prod.fst ∘ fun a => (a,tN 115 a))=(id:Int->Int):=rfl;rw [hc,List.map_id,m_ hlt];exact hs
 . simp [hk] at h
 . simp [hk] at h
 . simp [hk] at h;subst h;simp [iL,hk,aA,ig,uT,Val.kind,Val.bool,Val.num,Val.str,Val.id,Val.keys,Val.items,Val.rest];omega
 .
  cases h0:vw xs 0 with
  | none =>
   have hb:=Uy xs 0 xs[t].b h0;simp [hk,h0] at h;subst h;simp [iL,hk,hb,aA,ig,uT,Val.kind,Val.bool,Val.num,Val.str,Val.id,Val.keys,Val.items,Val.rest];omega
  | some q =>
   cases hb:vw xs xs[t].b with
   | none => rw [Uy xs _ 0 hb] at h0;cases h0
   | some j =>
    simp [hk,h0] at h;subst h;simp [iL,hk,hb,aA,ig,uT,ati,Val.kind,Val.bool,Val.num,Val.str,Val.id,Val.keys,Val.items,Val.rest];omega
 simp [hk] at h;subst h;simp [iL,hk,aA,ig,uT,Val.kind,Val.bool,Val.num,Val.str,Val.id,Val.keys,Val.items,Val.rest]
theorem ac4 (xs:List fJ) (i:Nat) (hi:i < xs.length):∀ m ∈ (iL xs i xs[i]).ah,m.eG=true->cO (jw xs) true m.dflt m.ty=true:=by
 intro m hm hd;have hp:∀ rc ps,m ∈ oH xs i rc ps->cO (jw xs) true m.dflt m.ty=true:=fun rc ps hm => by
  obtain ⟨id,p,_,_,_,h3⟩:=CW xs i rc ps 12 m hm;obtain ⟨_,⟨j,hj,hjl,_⟩,h6⟩:=AZ xs i hi rc id p m h3;obtain ⟨_,t,code,h7,_,h8⟩:=h6 hd;have:t < xs.length:=by rw [Bo] at hjl;omega
  rw [h7];exact Yh xs t code _ this h8
 unfold iL at hm;simp only at hm
 repeat' split at hm
 all_goals first
  | (exfalso;simp [iM] at hm;done)
  | exact hp _ _ hm
theorem Xu (xs:List fJ) (i:Nat) (x:fJ) (h:(iL xs i x).kind=2) : -3<=(iL xs i x).low/\(iL xs i x).low<=(iL xs i x).high/\(iL xs i x).high<=8:=by
 have hl:=I7 x;by_cases h2:ai5 x=2
 .
  simp only [iL,h2,if_true];unfold tX;omega
 exfalso
 unfold iL at h;simp only [h2,if_false] at h
 repeat' split at h
 all_goals simp at h
theorem akC (c:Nat) (hc:c=109\/c=115) (i:Nat) (h:1<=i/\i<=12):nameB (tN c (i:Int))=true:=by
 rcases hc with rfl | rfl
 .
  have:∀ i:Fin 13,1<=i.val->nameB (tN 109 (i.val:Int))=true:=by decide
  exact this ⟨i,by omega⟩ h.1
 have:∀ i:Fin 13,1<=i.val->nameB (tN 115 (i.val:Int))=true:=by decide
 exact this ⟨i,by omega⟩ h.1
theorem ajL (c:Nat) (hc:c=109\/c=115) (i j:Nat) (hi:i<=12) (hj:j<=12) (h:tN c (i:Int)=tN c (j:Int)):i=j:=by
 rcases hc with rfl | rfl
 .
  have:∀ i j:Fin 13,tN 109 (i.val:Int)=tN 109 (j.val:Int)->i.val=j.val:=by decide
  exact this ⟨i,by omega⟩ ⟨j,by omega⟩ h
 have:∀ i j:Fin 13,tN 115 (i.val:Int)=tN 115 (j.val:Int)->i.val=j.val:=by decide
 exact this ⟨i,by omega⟩ ⟨j,by omega⟩ h
theorem Ti (c:Nat) (hc:c=109\/c=115):∀ (l:List Raw) (p:Option Int) (S:List (List UInt8)),(∀ r ∈ l,(1<=r.1/\r.1<=12)/\r.2=tN c r.1/\xH p r.1=true)->l.Pairwise (fun a b => a.1 < b.1)->(∀ r ∈ l,r.2 ∉ S)->nO l p S=true
 | [],p,S,_,_,_ => by rw [nO]
 | r :: l,p,S,h,hp,hS => by
  obtain ⟨⟨h1,h2⟩,h3,h4⟩:=h r (by simp);rw [List.pairwise_cons] at hp;have afo:∀ a:Int,1<=a->((a.toNat:Nat):Int)=a:=fun a h => by omega
  have hok:nameB r.2=true:=by
   rw [h3,<- afo r.1 h1];exact akC c hc r.1.toNat (by omega)
  rw [nO,h4,hok,Ti c hc l (some r.1) (S ++ [r.2]) (fun q hq => ?_) hp.2 (fun q hq => ?_)]
  .
   have hf:mM r.1=true:=by unfold mM;simp;omega
   have hs:S.contains r.2=false:=by
    have:=hS r (by simp);simpa using this
   rw [hf,hs];rfl
  .
   obtain ⟨a1,a2,_⟩:=h q (by simp [hq]);exact ⟨a1,a2,by have:=hp.1 q hq;simp [xH,this]⟩
  intro hm;rcases Dp.1 hm with hm | hm
  . exact hS q (by simp [hq]) hm
  rw [Qp] at hm;obtain ⟨⟨b1',b2'⟩,a2,_⟩:=h q (by simp [hq]);have hlt:=hp.1 q hq;rw [a2,h3,<- afo q.1 b1',<- afo r.1 h1] at hm;have:=ajL c hc _ _ (by omega) (by omega) hm;omega
theorem Xv (x:fJ):∀ k,(uU x k).Pairwise (· < ·)
 | 0 => List.Pairwise.nil
 | k+1 => by
  rw [uU,List.pairwise_append];refine ⟨Xv x k,by split <;> simp,fun a ha b hb => ?_⟩;have h1:=Xt x k a ha;split at hb
  . rw [Qp] at hb;omega
  simp at hb
theorem afp (x:fJ):(qK x).Pairwise (· < ·):=by
 unfold qK;split
 . simp
 exact Xv x 6
theorem MP (xs:List fJ) (i:Nat) (rc:Bool) (ps:List Aw) (k:Nat) (m:Mem) (h:m ∈ lH xs i rc ps k):∃ id:Nat,1<=id/\id<=k/\∃ p,partOf xs i rc id p=some m:=by
 obtain ⟨id,p,h1,h2,_,h3⟩:=CW xs i rc ps k m h;exact ⟨id,h1,h2,p,h3⟩
theorem Yi (xs:List fJ) (t code:Nat) (h:(aT xs t code).2=false):(aT xs t code).1=jm:=by
 revert h
 unfold aT;cases xs[t]? with
 | none => intro _;rfl
 | some x =>
  simp only;generalize (if ai5 x=8/\vw xs 0=none then 7 else ai5 x)=k;by_cases hk:k=5\/k=6
  . rw [o_ hk];intro _;rfl
  rw [gB hk];intro h;cases h
theorem G9 {xs:List fJ} {i:Nat} {rc:Bool} {id:Nat} {p:Aw} {m:Mem} (h:partOf xs i rc id p=some m):m.id=(id:Int)/\m.name=tN 109 (id:Int)/\(m.akb=true->rc=true/\p.2.2 % 4=1)/\(m.eG=true->rc=true/\2<=p.2.2 % 4)/\(m.eG=false->m.dflt=jm):=by
 unfold partOf at h;cases ht:uN xs i p.2.1 with
 | none => rw [ht] at h;simp at h
 | some t =>
  rw [ht] at h;simp only at h;split at h
  .
   injection h with h;subst h;refine ⟨rfl,rfl,fun hc => ?_,fun hd => ?_,fun hd => ?_⟩
   . simpa using hc
   .
    dsimp only at hd;by_cases h2:(rc && decide (2<=p.2.2 % 4))=true
    . simpa using h2
    rw [gB h2] at hd;cases hd
   dsimp only at hd ⊢;by_cases h2:(rc && decide (2<=p.2.2 % 4))=true
   .
    rw [o_ h2] at hd ⊢;exact Yi xs t _ hd
   rw [gB h2]
  cases h
theorem Rz (xs:List fJ) (i:Nat) (rc:Bool) (ps:List Aw):∀ k,((lH xs i rc ps k).map bW).Pairwise (fun a b => a.1 < b.1)
 | 0 => List.Pairwise.nil
 | k+1 => by
  rw [lH,Qw,List.pairwise_append];refine ⟨Rz xs i rc ps k,?_,fun a ha b hb => ?_⟩
  . unfold tK;cases List.findSome? (partOf xs i rc (k+1)) ps <;> simp
  obtain ⟨m,hm,rfl⟩:=Pe.1 ha;obtain ⟨m2,hm2,rfl⟩:=Pe.1 hb;obtain ⟨id,h1,h2,p,h3⟩:=MP xs i rc ps k m hm;unfold tK at hm2;cases hf:List.findSome? (partOf xs i rc (k+1)) ps with
  | none => rw [hf] at hm2;simp at hm2
  | some q =>
   rw [hf] at hm2;simp only [Option.toList_some,Qp] at hm2;subst hm2;obtain ⟨p2,_,h5⟩:=List.exists_of_findSome?_eq_some hf;have e1:=(G9 h3).1;have e2:=(G9 h5).1;show m.id < m2.id;omega
theorem Uz (xs:List fJ) (i:Nat) (rc:Bool) (ps:List Aw):nP ((oH xs i rc ps).map bW)=true/\(oH xs i rc ps).all (jf (!rc))=true:=by
 constructor
 .
  unfold nP oH;have hl:=CV xs i rc ps 12;rw [Ti 109 (.inl rfl) _ none [] (fun r hr => ?_) (Rz xs i rc ps 12) (fun _ _ h => by simp at h)]
  . simp;omega
  obtain ⟨m,hm,rfl⟩:=Pe.1 hr;obtain ⟨id,h1,h2,p,h3⟩:=MP xs i rc ps 12 m hm;obtain ⟨e1,e2,_⟩:=G9 h3;exact ⟨by show 1<=m.id/\m.id<=12;omega,by show m.name=tN 109 m.id;rw [e2,e1],rfl⟩
 rw [QD];intro m hm;obtain ⟨id,h1,h2,p,h3⟩:=MP xs i rc ps 12 m hm;obtain ⟨_,_,e3,e4,e5⟩:=G9 h3;unfold jf;have hv0:iK jm jm=true:=(vM _ _).2 rfl;cases hc:m.akb <;> cases hd:m.eG
 . rw [e5 hd,hv0];simp
 . simp [(e4 hd).1]
 . rw [e5 hd,hv0];simp [(e3 hc).1]
 have:=e3 hc;have:=e4 hd;omega
theorem ahp (x:ay) (h:x=iC):jy x iC=true:=by subst h;decide
theorem UA (xs:List fJ) (i:Nat) (x:fJ):(iL xs i x).name = []\/(iL xs i x).name=lN i:=by
 unfold iL;simp only
 repeat' split
 all_goals first | exact .inl rfl | exact .inr rfl
theorem ajM (i:Nat) (h:i < 5):nameB (lN i)=true:=by
 have:∀ i:Fin 5,nameB (lN i.val)=true:=by decide
 exact this ⟨i,h⟩
theorem ahq (i j:Nat) (hi:i < 5) (hj:j < 5) (h:lN i=lN j):i=j:=by
 have:∀ i j:Fin 5,lN i.val=lN j.val->i.val=j.val:=by decide
 exact this ⟨i,hi⟩ ⟨j,hj⟩ h
theorem ahr (x:fJ):wu ((qK x).map fun a => (a,tN 115 a))=true:=by
 unfold wu nP;have h1:=zC x;have hq:∀ r ∈ (qK x).map (fun a => (a,tN 115 a)),(1<=r.1/\r.1<=12)/\r.2=tN 115 r.1/\xH none r.1=true:=fun r hr => by
  obtain ⟨a,ha,rfl⟩:=Pe.1 hr;have:=Fv x a ha;exact ⟨by dsimp only;omega,rfl,rfl⟩
 have hp:((qK x).map (fun a => (a,tN 115 a))).Pairwise (fun a b => a.1 < b.1):=by rw [List.pairwise_map];exact afp x
 rw [Ti 115 (.inr rfl) _ none [] hq hp (fun _ _ h => by simp at h)];simp;omega
theorem zFp {p:Prop} (h:p:=by
 refine ⟨by simp,?_,hz _ (by simp [gZ,iM,iC])⟩;simp [rD];omega):p:=h
theorem ac5 (xs:List fJ) (i:Nat) (hi:i < xs.length) (h5:xs.length<=5):dY (iL xs i xs[i])=true:=by
 have hnm:=ajM i (by omega);have hp1:=Uz xs i true xs[i].parts;have hp2:=Uz xs i false xs[i].parts;have h2:=Xu xs i xs[i];have hk:=vX xs[i];have hn:ql (ai5 xs[i] : Nat)=true->(if ql (ai5 xs[i]) then lN i else [])=lN i:=fun h => by rw [o_ h]
 revert h2
 unfold dY iL;simp only;generalize hkk:ai5 xs[i]=k at *;intro h2;have hz:∀ x:ay,gZ x=iC->jy (gZ x) iC=true:=fun x h => ahp _ h;by_cases k2:k=2
 .
  rw [o_ k2] at h2 ⊢;have:=h2 rfl;rw [j_,j_];refine ⟨by simp,?_,hz _ (by simp [gZ,iM,iC])⟩;simp only [rD];simp at this ⊢;omega
 rw [gB k2];clear h2;by_cases k3:k=3
 .
  rw [o_ k3,j_,j_];exact zFp
 rw [gB k3];by_cases k4:k=4
 .
  rw [o_ k4,hn (by rw [k4];rfl),j_,j_];refine ⟨by simp,?_,hz _ (by simp [gZ,iM,iC])⟩;simp [rD,hnm,ahr]
 rw [gB k4];by_cases k5:k=5
 .
  rw [o_ k5,hn (by rw [k5];rfl),j_,j_];refine ⟨by simp,?_,hz _ (by simp [gZ,iM,iC])⟩;simp [rD,hnm,iQ,hp1.1];simpa using hp1.2
 rw [gB k5];by_cases k6:k=6
 .
  rw [o_ k6,hn (by rw [k6];rfl)];by_cases he:(oH xs i false xs[i].parts).isEmpty=true
  .
   rw [o_ he,j_,j_];refine ⟨by simp,?_,hz _ (by simp [gZ,iM,iC])⟩;simp [rD,hnm,iQ,iM,nP,nO]
  rw [gB he,j_,j_];refine ⟨by simp,?_,hz _ (by simp [gZ,iM,iC])⟩;have hpos:0 < (oH xs i false xs[i].parts).length:=by
   cases hq:oH xs i false xs[i].parts with
   | nil => rw [hq] at he;simp at he
   | cons _ _ => simp
  simp [rD,hnm,iQ,hp2.1,hpos];simpa using hp2.2
 rw [gB k6];by_cases k7:k=7
 .
  rw [o_ k7,j_,j_];exact zFp
 rw [gB k7];by_cases k8:k=8
 .
  rw [o_ k8];cases vw xs xs[i].b with
  | none =>
   simp only;rw [j_,j_];exact zFp
  | some j =>
   simp only;rw [j_,j_];exact zFp
 rw [gB k8];by_cases k9:k=9
 .
  rw [o_ k9,j_,j_];exact ⟨by simp,by simp [rD],hz _ (by simp [gZ,iM,iC])⟩
 rw [gB k9,j_,j_];exact ⟨by simp,by simp [rD],hz _ (by simp [gZ,iM,iC])⟩
theorem ahs {ts:List ay} {i:Nat} {t:Int} (h:Down ts i t):inB ts.length t=true:=by
 obtain ⟨j,rfl,hj,_⟩:=h;unfold inB;simp;exact hj
theorem ac6 (xs:List fJ) (i:Nat) (hi:i < xs.length):(lg (iL xs i xs[i])).all (inB (jw xs).length)=true/\¬ ((iL xs i xs[i]).kind=8/\akK (jw xs) (iL xs i xs[i])=false):=by
 have hm:=MN xs i hi;generalize iL xs i xs[i]=x at *
 constructor
 .
  rw [QD];intro u hu;unfold lg at hu;rcases Dp.1 hu with h | h
  .
   obtain ⟨m,hmm,rfl⟩:=Pe.1 h;exact ahs (hm.ah.2 m hmm).2
  rcases Dp.1 h with h | h
  .
   split at h
   .
    rename_i h8;rw [Qp] at h;subst h;obtain ⟨j,hj,hlt,_⟩:=hm.key h8;unfold inB;rw [hj];simp;exact hlt
   simp at h
  split at h
  .
   rename_i h7;rw [Qp] at h;subst h;obtain ⟨j,hj,hlt⟩:=hm.elem h7;unfold inB;rw [hj];simp;exact hlt
  simp at h
 rintro ⟨h8,hk⟩;obtain ⟨j,hj,hlt,h1,h2⟩:=hm.key h8;unfold akK bM at hk;rw [hj,o_ (by omega),Int.toNat_natCast,m_ hlt] at hk;simp at hk;have:=hk h1;omega
theorem UC (ts:List ay):∀ (l:List ay) (S:List (List UInt8)),(∀ x ∈ l,dY x=true/\(lg x).all (inB ts.length)=true/\¬ (x.kind=8/\akK ts x=false))->(∀ x ∈ l,x.name≠[]->x.name ∉ S)->l.Pairwise (fun a b => b.name≠[]->a.name≠b.name)->lU ts l S=0
 | [],S,_,_,_ => by rw [lU]
 | x :: r,S,h,hS,hp => by
  obtain ⟨h1,h2,h3⟩:=h x (by simp);rw [List.pairwise_cons] at hp;rw [Lj ts r x S (by
   rintro (h | ⟨h,h'⟩)
   . rw [h1] at h;cases h
   exact hS x (by simp) h (by simpa using h')) h2 h3]
  exact UC ts r (S ++ [x.name]) (fun y hy => h y (by simp [hy])) (fun y hy hne hm => by
   rcases Dp.1 hm with hm | hm
   . exact hS y (by simp [hy]) hne hm
   rw [Qp] at hm;exact hp.1 y hy hne hm.symm) hp.2
theorem ac7 (xs:List fJ) (h5:xs.length<=5):fF (jw xs)=0:=by
 unfold fF;rw [gB (by rw [Bo];omega)];refine UC _ _ _ (fun x hx => ?_) (fun _ _ _ h => by simp at h) ?_
 .
  obtain ⟨i,hi,rfl⟩:=List.mem_iff_getElem.1 hx;rw [Bo] at hi;rw [FW xs i hi];exact ⟨ac5 xs i hi h5,ac6 xs i hi⟩
 rw [List.pairwise_iff_getElem];intro i j hi hj hij hne he;rw [Bo] at hi hj;rw [FW xs i hi,FW xs j hj] at he;rw [FW xs j hj] at hne;rcases UA xs j xs[j] with h | h
 . exact hne h
 rcases UA xs i xs[i] with h' | h'
 . rw [h',h] at he;cases he
 rw [h',h] at he;have:=ahq i j (by omega) (by omega) he;omega
theorem ac8 (xs:List fJ):Sizes (jw xs):=by
 intro x hx;obtain ⟨i,hi,rfl⟩:=List.mem_iff_getElem.1 hx;rw [Bo] at hi;rw [FW xs i hi];have h:=MN xs i hi;exact ⟨by have:=h.syms.1;omega,by have:=h.ah.1;omega⟩
theorem afq (xs:List fJ) (i:Nat) (x:fJ):I64 (iL xs i x).low/\I64 (iL xs i x).high:=by
 have h0:I64 0/\I64 0:=⟨by unfold I64;omega,by unfold I64;omega⟩
 unfold iL;simp only;split
 . exact ⟨by unfold I64 vY;dsimp only;omega,by unfold I64 tX vY;dsimp only;omega⟩
 repeat' split
 all_goals exact h0
theorem aht (xs:List fJ):∀ x ∈ jw xs,I64 x.low/\I64 x.high:=by
 intro x hx;obtain ⟨i,hi,rfl⟩:=List.mem_iff_getElem.1 hx;rw [Bo] at hi;rw [FW xs i hi];exact afq xs i xs[i]
def Sm (x:fJ) (w:World) (e:Ending) (w':World):Prop := ∃ v,e = .returned v/\w'.ownsRow w.heap.size 3 1 v (qK x).length ((qK x).map (Value.int .i64))/\Below w.heap.size w w'
theorem Yy (x:fJ) (vp:Value) (w:World):Calls Tryz.prog 37 #[ae3 x vp] w (Sm x w):=by
 have hX:=Has.made w 80 #[.int .u8 x.kind,.int .u8 x.a,.int .u8 x.b,.int .u8 x.c,vp];have h01:=(g_ w.heap.size w).alloc (b_ _) (.cells #[.int .u8 x.kind,.int .u8 x.a,.int .u8 x.b,.int .u8 x.c,vp] 80);have HX:=hiQ hX;clear hX;go_enter Tryz.func37,Tryz.ntmps37
 go_wp2_with fail;go_loopw [3,4] (fun v i wr => ∃ k:Nat,k<=6/\i = .int .i64 k/\wr.ownsRow (w.heap.size+1) 3 1 v (uU x k).length ((uU x k).map (Value.int .i64))/\Below w.heap.size w wr/\Has wr w.heap.size 80 #[.int .u8 x.kind,.int .u8 x.a,.int .u8 x.b,.int .u8 x.c,vp])
  (fun _ i _ => 6 - (intOf i).toNat)
 case atStart => exact ⟨0,by omega,rfl,K_ _ _ _ _,h01,HX.out⟩
 case round =>
  obtain ⟨k,hk,rfl,hown,hb,hc⟩:=hrel;have c1:=hc.cell 1;simp only [qI] at c1;have hpw:((x.a:Int) / 2 ^ k)=((x.a / 2 ^ k:Nat):Int):=by push_cast;rfl
  have ht:(((x.a:Int) / 2 ^ k).tmod 2 == 1)=idB x k:=by
   rw [hpw];unfold idB;generalize x.a / 2 ^ k=q;rw [O_ (by omega),Bool.eq_iff_iff];simp;omega
  have hstep:uU x (k+1)=uU x k ++ (if idB x k then [((k+1:Nat):Int)] else []):=rfl;have hkl:=Xr x k;clear hpw;by_cases hlt:k < 6
  .
   cases hbit:idB x k with
   | true =>
    rw [hbit] at ht;rw [hbit,o_ rfl] at hstep;have Hs:=hiQ hstep;have Hb:=hiQ hbit;clear hbit hstep;go_wp2_with (at_builtin;refine tC rfl _ _ _ rfl (w.heap.size+1) 3 _ 1 8 Tryz.underlying57 oP rfl (by decide) _ (uU x k).length ((uU x k).map (Value.int .i64)) rfl hown [_] _ 1 _ rfl rfl rfl (by simp [Value.oneCell']) (by omega) (by omega) hc.here ?_;intro v' w3 hown3 hb3)
    have hc3:=hc.below hb3 (by omega);go_roundw
    case rel =>
     refine ⟨k+1,by omega,by go_num,?_,hb.trans (hb3.mono (by omega)),hc3⟩;rw [Hs.out,h_,Qw];exact hown3
    case measure => simp [intOf];omega
   | false =>
    rw [hbit] at ht;rw [hbit,gB (by simp)] at hstep;have Hs:=hiQ hstep;clear hbit hstep;go_wp2_with fail;go_roundw
    case rel =>
     refine ⟨k+1,by omega,by go_num,?_,hb,hc⟩;rw [Hs.out,Vs];exact hown
    case measure => simp [intOf];omega
  obtain rfl:k=6:=by omega
  clear hstep ht;by_cases he:(uU x 6).isEmpty=true
  .
   have hi:qK x = [1]:=by unfold qK;rw [o_ he]
   have h6:uU x 6 = []:=List.isEmpty_iff.1 he;rw [h6] at hown;have Hi:=hiQ hi;have Hl:Hid ((uU x 6).length=0):=by rw [h6];rfl
   clear hi h6 he;obtain ⟨A,cp,rfl⟩:=jF hown;go_wp2_with (at_builtin;refine tC rfl _ _ _ rfl (w.heap.size+1) 3 _ 1 8 Tryz.underlying57 oP rfl (by decide) _ 0 [] rfl hown [_] _ 1 _ rfl rfl rfl (by simp [Value.oneCell']) (by omega) (by omega) hc.here ?_;intro v' w3 hown3 hb3)
   go_ret;refine ⟨_,rfl,?_,hb.trans (hb3.mono (by omega))⟩;rw [Hi.out];exact own_base hown3 (by omega)
  have hi:qK x=uU x 6:=by unfold qK;rw [gB he]
  have hl:0 < (uU x 6).length:=by
   cases h2:uU x 6 with
   | nil => rw [h2] at he;simp at he
   | cons a r => simp
  have h0:(((uU x 6).length:Int) == 0)=false:=r_.2 (by omega);have Hi:=hiQ hi;clear hi he;obtain ⟨A,cp,rfl⟩:=jF hown;go_wp2_with fail;go_ret;refine ⟨_,rfl,?_,hb⟩;rw [Hi.out];exact own_base hown (by omega)
theorem OO (p:Nat->Bool) (f k:Nat):uF p (f+1) k=if p k then some k else uF p f (k+1):=rfl
theorem Sr (xs:List fJ) (vn:Value) (code:Nat) (w:World) (hc:code < 256) (h5:0 < xs.length/\xs.length<=5) (hr:jR w w.heap.size vn xs) :
  Calls Tryz.prog 39 #[.agg #[vn],.int .u8 code] w (RT w (.int .i64 (ajK (vw xs code)))):=by
 obtain ⟨A,c,rfl,hcap⟩:=hr.form;have hX:=Has.made w 24 #[.slice A xs.length c];have h01:=(g_ w.heap.size w).alloc (b_ _) (.cells #[.slice A xs.length c] 24);have HX:=hiQ hX;have HR:=hiQ hr;have Hk:Hid (vw xs code=(uF (fun k => wI (an8 xs (pO xs code k))) xs.length 0).map (pO xs code)):=rfl;generalize vw xs code=r at *;clear hX hr;have hz:((xs.length:Int) == 0)=false:=r_.2 (by omega);have hzl:(1:Int)<=xs.length:=by omega
 have hpl:(xs.length:Int)<=5:=by omega
 have hcc:(code:Int) < 256:=by omega
 go_enter Tryz.func39,Tryz.ntmps39
 have c0:=HX.out.cell 0;simp only [qI] at c0;go_wp2_with fail;clear c0;go_loopw [6] (fun i wr => ∃ k:Nat,k<=xs.length/\i = .int .i64 k/\Hid (r=(uF (fun k => wI (an8 xs (pO xs code k))) (xs.length - k) k).map (pO xs code))/\Below w.heap.size w wr/\Has wr w.heap.size 24 #[.slice A xs.length c])
  (fun i _ => 5 - (intOf i).toNat)
 case atStart => exact ⟨0,by omega,rfl,Hk,h01,HX.out⟩
 case round =>
  obtain ⟨k,hk,rfl,HK,hb,hx⟩:=hrel;clear Hk HX h01;have c0:=hx.cell 0;simp only [qI] at c0;by_cases hlt:k < xs.length
  .
   have hnx:=HK.out;obtain ⟨d,hd⟩ : ∃ d,xs.length - k=d+1:=⟨xs.length - k - 1,by omega⟩
   rw [hd,OO] at hnx;have hd2:d=xs.length - (k+1):=by omega
   rw [hd2] at hnx;have hpl2:pO xs code k < xs.length:=Qo _ h5.1;have hki:=fun W h => qp xs (.slice A xs.length c) (pO xs code k) W hpl2 h;have hkr:=vX xs[pO xs code k];rw [CU _ _ hpl2] at hnx;have aqh:((code:Int)+k) % xs.length=(pO xs code k:Int):=by unfold pO;push_cast;rfl
   generalize ai5 xs[pO xs code k]=q at *;have hkk:wI q=(decide (1<=(q:Int)) && decide ((q:Int)<=4)):=by unfold wI;rw [show decide (1<=(q:Int))=decide (1<=q) from decide_eq_decide.2 (by omega),show decide ((q:Int)<=4)=decide (q<=4) from decide_eq_decide.2 (by omega)]
   cases hq:wI q with
   | true =>
    rw [hq,o_ rfl] at hnx;rw [hq] at hkk;have HN:=hiQ hnx;have HKK:=hiQ hkk.symm;have HI:=hiQ hki;clear hnx hd hd2 hkk hki HK hq;go_wp2_with fail;refine (HI.out _ (HR.out.on hb)).mono ?_;rintro e w1 ⟨rfl,hb1⟩;go_wp2_with fail;refine (D8 _ _).mono ?_;rintro e w2 ⟨rfl,rfl⟩;rw [HKK.out];go_wp2_with fail;go_ret;exact ⟨bC (by rw [HN.out];rfl),hb.trans (hb1.mono hb.size)⟩
   | false =>
    rw [hq,gB (by simp)] at hnx;rw [hq] at hkk;have HN:=hiQ hnx;have HKK:=hiQ hkk.symm;have HI:=hiQ hki;clear hnx hd hd2 hkk hki HK hq;go_wp2_with fail;refine (HI.out _ (HR.out.on hb)).mono ?_;rintro e w1 ⟨rfl,hb1⟩;have hx1:=hx.below hb1 hx.here;clear c0;go_wp2_with fail;refine (D8 _ _).mono ?_;rintro e w2 ⟨rfl,rfl⟩;rw [HKK.out];go_wp2_with fail;go_roundw
    case rel => exact ⟨k+1,by omega,by go_num,HN,hb.trans (hb1.mono hb.size),hx1⟩
    case measure => simp [intOf];omega
  obtain rfl:k=xs.length:=by omega
  have hr0:=HK.out;rw [Nat.sub_self] at hr0;have HN:=hiQ hr0;clear hr0 HK;go_wp2_with fail;go_ret;exact ⟨bC (by rw [HN.out];rfl),hb⟩
theorem zDe {p:Prop} (h:p:=by
 go_enter Tryz.func59,Tryz.ntmps59
 have c0:=HX.out.cell 0;simp only [qI] at c0;go_wp2_with fail;refine (HI.out _ HR.out).mono ?_;rintro e w1 ⟨rfl,hb1⟩;clear c0;go_wp2_with fail;refine (Ae _ _).mono ?_;rintro e w2 ⟨rfl,rfl⟩;rw [HH.out];go_wp2_with fail;go_ret;exact ⟨bC (by rw [HN.out];rfl),h01.trans (hb1.mono h01.size)⟩):p:=h
theorem aaQ (xs:List fJ) (vn:Value) (i code:Nat) (w:World) (hc:code < 256) (h5:0 < xs.length/\xs.length<=5) (hr:jR w w.heap.size vn xs) :
  Calls Tryz.prog 59 #[.agg #[vn],.int .i64 i,.int .u8 code] w (RT w (.int .i64 (ajK (uN xs i code)))):=by
 obtain ⟨A,c,rfl,hcap⟩:=hr.form;have hX:=Has.made w 24 #[.slice A xs.length c];have h01:=(g_ w.heap.size w).alloc (b_ _) (.cells #[.slice A xs.length c] 24);have hr1:=hr.on h01;have HX:=hiQ hX;have Ht:Hid (uN xs i code=if vS (an8 xs (code % xs.length)) || decide (code % xs.length < i) then some (code % xs.length) else if 0 < i then some (code % xs.length % i) else uF (fun k => vS (an8 xs k)) xs.length 0):=rfl;have hm:code % xs.length < xs.length:=Qo _ h5.1;have hkA:=fun i hi W h => qp xs (.slice A xs.length c) i W hi h;have hki:=fun W h => qp xs (.slice A xs.length c) (code % xs.length) W hm h;have hkr:=vX xs[code % xs.length];have aj3:=CU xs _ hm;rw [aj3] at Ht;have hmod:(code:Int) % xs.length=((code % xs.length:Nat):Int):=by push_cast;rfl
 generalize ai5 xs[code % xs.length]=q at *;generalize code % xs.length=tt at *;generalize uN xs i code=r at *;have HI:=hiQ hki;have HA:=hiQ hkA;have HR:=hiQ hr1;clear hX hr hr1 aj3 hki hkA;have hz:((xs.length:Int) == 0)=false:=r_.2 (by omega);have hzl:(1:Int)<=xs.length:=by omega
 have hpl:(xs.length:Int)<=5:=by omega
 have hcc:(code:Int) < 256:=by omega
 have hho:vS q=decide (7<=(q:Int)):=by unfold vS;exact decide_eq_decide.2 (by omega)
 cases hq:vS q with
 | true =>
  have hr:=Ht.out;rw [hq,Bool.true_or,o_ rfl] at hr;rw [hq] at hho;have HN:=hiQ hr;have HH:=hiQ hho.symm;clear hr hho Ht hq;exact zDe
 | false =>
  have hr:=Ht.out;rw [hq,Bool.false_or] at hr;rw [hq] at hho;have HH:=hiQ hho.symm;clear hho hq Ht;by_cases hti:tt < i
  .
   rw [o_ (by simpa using hti)] at hr;have HN:=hiQ hr;have hlt:(tt:Int) < i:=by omega
   clear hr;exact zDe
  rw [gB (by simpa using hti)] at hr;by_cases hi0:0 < i
  .
   rw [o_ hi0] at hr;have HN:=hiQ hr;clear hr;have hi1:(1:Int)<=i:=by omega
   have hiz:((i:Int) == 0)=false:=r_.2 (by omega);have lY:(tt:Int) % i=((tt % i:Nat):Int):=by push_cast;rfl
   exact zDe
  rw [gB hi0] at hr;have HN:=hiQ hr;clear hr;go_enter Tryz.func59,Tryz.ntmps59
  have c0:=HX.out.cell 0;simp only [qI] at c0;go_wp2_with fail;refine (HI.out _ HR.out).mono ?_;rintro e w1 ⟨rfl,hb1⟩;have hx1:=HX.out.below hb1 HX.out.here;have h1:=h01.trans (hb1.mono h01.size);have HR1:=hiQ (HR.out.on hb1);clear c0;go_wp2_with fail;refine (Ae _ _).mono ?_;rintro e w2 ⟨rfl,rfl⟩;rw [HH.out];go_wp2_with fail;clear HH HI hkr;go_loopw [9] (fun i wr => ∃ k:Nat,k<=xs.length/\i = .int .i64 k/\Hid (r=uF (fun k => vS (an8 xs k)) (xs.length - k) k)/\Below w1.heap.size w1 wr/\Has wr w.heap.size 24 #[.slice A xs.length c])
   (fun i _ => 5 - (intOf i).toNat)
  case atStart => exact ⟨0,by omega,rfl,HN,g_ _ _,hx1⟩
  case round =>
   obtain ⟨k,hk,rfl,HK,hb,hx⟩:=hrel;clear HN HX;have c0:=hx.cell 0;simp only [qI] at c0;by_cases hlt:k < xs.length
   .
    have hnx:=HK.out;obtain ⟨d,hd⟩ : ∃ d,xs.length - k=d+1:=⟨xs.length - k - 1,by omega⟩
    rw [hd,OO] at hnx;have hd2:d=xs.length - (k+1):=by omega
    rw [hd2] at hnx;have hki:=fun W h => HA.out k hlt W h;have hkr:=vX xs[k];rw [CU _ _ hlt] at hnx;generalize ai5 xs[k]=q at *;have hho:vS q=decide (7<=(q:Int)):=by unfold vS;exact decide_eq_decide.2 (by omega)
    cases hq:vS q with
    | true =>
     rw [hq,o_ rfl] at hnx;rw [hq] at hho;have HN:=hiQ hnx;have HH:=hiQ hho.symm;have HI:=hiQ hki;clear hnx hd hd2 hki hho HK hq;go_wp2_with fail;refine (HI.out _ (HR1.out.on hb)).mono ?_;rintro e w2 ⟨rfl,hb2⟩;go_wp2_with fail;refine (Ae _ _).mono ?_;rintro e w3 ⟨rfl,rfl⟩;rw [HH.out];go_wp2_with fail;go_ret;exact ⟨bC (by rw [HN.out];rfl),h1.trans ((hb.trans (hb2.mono hb.size)).mono h1.size)⟩
    | false =>
     rw [hq,gB (by simp)] at hnx;rw [hq] at hho;have HN:=hiQ hnx;have HH:=hiQ hho.symm;have HI:=hiQ hki;clear hnx hd hd2 hki hho HK hq;go_wp2_with fail;refine (HI.out _ (HR1.out.on hb)).mono ?_;rintro e w2 ⟨rfl,hb2⟩;have hx2:=hx.below hb2 hx.here;clear c0;go_wp2_with fail;refine (Ae _ _).mono ?_;rintro e w3 ⟨rfl,rfl⟩;rw [HH.out];go_wp2_with fail;go_roundw
     case rel => exact ⟨k+1,by omega,by go_num,HN,hb.trans (hb2.mono hb.size),hx2⟩
     case measure => simp [intOf];omega
   obtain rfl:k=xs.length:=by omega
   have hr0:=HK.out;rw [Nat.sub_self] at hr0;have HN:=hiQ hr0;clear hr0 HK;go_wp2_with fail;go_ret;exact ⟨bC (by rw [HN.out];rfl),h1.trans (hb.mono h1.size)⟩

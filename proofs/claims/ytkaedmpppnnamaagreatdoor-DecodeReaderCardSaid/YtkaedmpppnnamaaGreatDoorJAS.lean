/- Plain, and what else is used with it. No condition. -/
import Derived.Test.YtkaedmpppnnamaaGreatDoorJAO
import Derived.Test.YtkaedmpppnnamaaGreatDoorJAE
import Derived.Test.YtkaedmpppnnamaaGreatDoorHAJ
set_option maxHeartbeats 1600000
namespace Go.Proofs.YtkaedmpppnnamaaGreatDoor
theorem agx {l q:List UInt8} {n:Nat} (h:xM l=some (n,q)):l=pJ 9 n ++ q/\oV n:=by
 obtain ⟨k,_,_,h3,hu,hg⟩:=EN h;have h4:=ak9 l (by rw [hg]);rw [hg] at h4;exact ⟨by rw [h4,h3,aa6],hu⟩
theorem ais {l p r:List UInt8} (h:CJ l=some (p,r)):l=jK p ++ r:=by
 unfold CJ at h;split at h
 . cases h
 next n q hq =>
 obtain ⟨h1,_⟩:=agx hq;split at h
 .
  next hn =>
  simp only [QB,Prod.mk.injEq] at h;obtain ⟨rfl,rfl⟩:=h;unfold jK;rw [OX,Nat.min_eq_left hn,XU,aa6];exact h1
 cases h
theorem ahP:∀ (f:Nat) (l:List UInt8) (acc ls:List (List UInt8)),zf f l acc=some ls->∃ qs,ls=acc ++ qs/\qs.flatMap jK=l
 | 0,l,acc,ls,h => by
  rw [zf] at h;split at h
  . next e => injection h with h;exact ⟨[],by simp [h],by simp [e]⟩
  cases h
 | f+1,l,acc,ls,h => by
  rw [zf] at h;split at h
  . next e => injection h with h;exact ⟨[],by simp [h],by simp [e]⟩
  split at h
  . cases h
  next p r hp =>
  obtain ⟨qs,h1,h2⟩:=ahP f r _ ls h;exact ⟨p :: qs,by rw [h1];simp,by rw [yJ,h2];exact (ais hp).symm⟩
theorem ahQ {l:List UInt8} {ls:List (List UInt8)} (h:BM l=some ls):l=ls.flatMap jK:=by
 obtain ⟨qs,h1,h2⟩:=ahP _ _ _ _ h;rw [h1,D_];exact h2.symm
def acU:Nat->List kP->Prop
 | _,[] => True
 | last,f :: r => last < f.id/\f.id<=1000/\acU f.id r
theorem agO:∀ (f:Nat) (l:List UInt8) (last:Nat) (acc fs:List kP),xQ f l last acc=some fs->∃ qs,fs=acc ++ qs/\qs.flatMap gW=l/\acU last qs
 | 0,l,last,acc,ls,h => by
  rw [xQ] at h;split at h
  . next e => injection h with h;exact ⟨[],by simp [h],by simp [e],trivial⟩
  cases h
 | f+1,l,last,acc,ls,h => by
  rw [xQ] at h;split at h
  . next e => injection h with h;exact ⟨[],by simp [h],by simp [e],trivial⟩
  split at h
  . cases h
  next hd r hn =>
  split at h
  . cases h
  next hr =>
  split at h
  . cases h
  next p r' hp =>
  obtain ⟨qs,h1,h2,h3⟩:=agO f r' _ _ ls h;obtain ⟨e1,_⟩:=agx hn;have e2:=ais hp;refine ⟨⟨hd / 2,decide (hd % 2=1),p⟩ :: qs,by rw [h1];simp,?_,by dsimp only;omega,by dsimp only;omega,h3⟩;rw [yJ,h2,e1,e2];unfold gW;have e3:2*(hd / 2)+(if decide (hd % 2=1)=true then 1 else 0)=hd:=by
   by_cases h5:hd % 2=1
   . simp [h5];omega
   simp [h5];omega
  dsimp only;rw [e3,XU]
theorem ai7 {l:List UInt8} {fs:List kP} (h:Dx l=some fs):l=fs.flatMap gW/\acU 0 fs:=by
 obtain ⟨qs,h1,h2,h3⟩:=agO _ _ _ _ _ h;rw [h1,D_];exact ⟨h2.symm,h3⟩
theorem anO {l r:List UInt8} {id:Nat} (h:Jv l=some (id,r)):l=pJ 9 id ++ r/\1<=id/\id<=1000:=by
 unfold Jv at h;split at h
 . cases h
 next n q hq =>
 split at h
 . cases h
 next hr =>
 simp only [QB,Prod.mk.injEq] at h;obtain ⟨rfl,rfl⟩:=h;exact ⟨(agx hq).1,by omega,by omega⟩
theorem ahH (l:List UInt8):∀ n,Ci l n=n*256 ^ l.length+Ci l 0:=by
 induction l with
 | nil => intro n;simp [Ci]
 | cons b r ih =>
  intro n;rw [Ci,ih,Ci,ih (0*256+b.toNat),yV,Uw];have:n*(256 ^ r.length*256)=(n*256)*256 ^ r.length:=by rw [Ru (256 ^ r.length),Nat.mul_assoc]
  have e:0*256+b.toNat=b.toNat:=by omega
  rw [this,Z_,e,V7]
theorem akX (l:List UInt8):Ci l 0 < 256 ^ l.length:=by
 induction l with
 | nil => simp [Ci]
 | cons b r ih =>
  rw [Ci,ahH,yV,Uw];have hb:=b.toNat_lt;have:(0*256+b.toNat)*256 ^ r.length<=255*256 ^ r.length:=Pe _ (by omega);omega
theorem akY (b:UInt8) (r:List UInt8) (h:b≠0):256 ^ r.length<=Ci (b :: r) 0:=by
 rw [Ci,ahH];have:1<=b.toNat:=by
  rcases Nat.eq_zero_or_pos b.toNat with h0 | h0
  . exact absurd (UInt8.toNat_inj.1 (by rw [h0];rfl)) h
  exact h0
 have:1*256 ^ r.length<=(0*256+b.toNat)*256 ^ r.length:=Pe _ (by omega);omega
theorem ahR (l:List UInt8) (h:(jX l).2=0):(wB 8 (jX l).1 []).length<=l.length:=by
 unfold jX at h ⊢;by_cases h1:l.head?=some 0
 . rw [r_ h1] at h;simp at h
 rw [g_ h1] at h ⊢;by_cases h2:8 < l.length
 . rw [r_ h2] at h;simp at h
 rw [g_ h2];show (wB 8 (Ci l 0) []).length<=l.length;have hlt:=akX l;have h8:256 ^ l.length<=256 ^ 8:=Nat.pow_le_pow_right (by omega) (by omega);have hu2:oV (Ci l 0):=by
  have e:(256:Nat) ^ 8=18446744073709551616:=by decide
  unfold oV;omega
 have hv:Ci (wB 8 (Ci l 0) []) 0=Ci l 0:=ace 8 _ [] (by omega);have hh:=aes _ hu2;generalize wB 8 (Ci l 0) []=q at *;rcases QF l.length q.length with h3 | h3
 .
  rcases q with _ | ⟨b,r⟩
  . simp at h3
  have h5:=akY b r (by simpa using hh);have:256 ^ l.length<=256 ^ r.length:=Nat.pow_le_pow_right (by omega) (by simp at h3;omega);omega
 exact h3
theorem ahS:∀ (f a b:Nat),a<=b->(pJ f a).length<=(pJ f b).length
 | 0,a,b,_ => by simp [pJ]
 | f+1,a,b,h => by
  rw [pJ,pJ];by_cases h1:a < 128
  . rw [r_ h1];split <;> simp
  rw [g_ h1,g_ (by omega)];simp only [yV];have:=ahS f (a / 128) (b / 128) (by omega);omega
theorem ala (f k:Nat):(pJ f (2*k+1)).length=(pJ f (2*k)).length:=by
 cases f with
 | zero => simp [pJ]
 | succ f =>
  rw [pJ,pJ];by_cases h1:2*k < 128
  . rw [r_ h1,r_ (by omega)];rfl
  rw [g_ h1,g_ (by omega)];simp only [yV];rw [show (2*k+1) / 128=2*k / 128 by omega]
theorem adg {p q:List UInt8} (h:p.length<=q.length):(jK p).length<=(jK q).length:=by
 unfold jK;have:=ahS 9 _ _ h;simp only [m_];omega
theorem afW (p:List UInt8):p.length+1<=(jK p).length:=by
 unfold jK;have:=List.length_pos_iff.2 (YQ p.length);simp only [m_];omega
theorem ahI {f g:kP} (hi:f.id=g.id) (h:f.data.length<=g.data.length):(gW f).length<=(gW g).length:=by
 unfold gW;have h1:=adg h;have h2:∀ c:Bool,(pJ 9 (2*g.id+if c=true then 1 else 0)).length=(pJ 9 (2*g.id)).length:=fun c => by
  cases c
  . simp
  exact ala 9 g.id
 simp only [m_,hi,h2];omega
theorem akZ (f:kP):f.data.length+2<=(gW f).length:=by
 unfold gW;have h1:=afW f.data;have h2:=List.length_pos_iff.2 (YQ (2*f.id+if f.gy=true then 1 else 0));simp only [m_];omega
theorem ade (f:Nat->mX):∀ (n i:Nat) (acc is:List Val),nR f n i acc = .ok is->∃ vs,is=acc ++ vs/\vs.length=n/\∀ (k:Nat) (h:k < vs.length),f (i+k) = .ok vs[k]
 | 0,i,acc,is,h => by rw [nR] at h;injection h with h;exact ⟨[],by simp [h],rfl,fun k h => by simp at h⟩
 | n+1,i,acc,is,h => by
  rw [nR] at h;split at h
  . cases h
  next v hv =>
  obtain ⟨vs,h1,h2,h3⟩:=ade f n (i+1) _ is h;refine ⟨v :: vs,by rw [h1];simp,by simp [h2],fun k hk => ?_⟩;cases k with
  | zero => simpa using hv
  | succ k =>
   have:=h3 k (by simpa using hk);rw [show i+(k+1)=i+1+k by omega];simpa using this
def Zt (x:ay) (fs:List kP):List Raw:=(fs.filter fun f => !(dN x f.id).isSome).map fun f => ((f.id:Int),f.data)
theorem agy (x:ay) (path:List Int):∀ (fs:List kP) (acc rs:List Raw),qQ x path fs acc = .ok rs->rs=acc ++ Zt x fs/\∀ f ∈ fs,dN x f.id=none->f.gy=false
 | [],acc,rs,h => by rw [qQ] at h;injection h with h;exact ⟨by simp [Zt,h],by simp⟩
 | f :: fs,acc,rs,h => by
  rw [qQ] at h;split at h
  .
   next hs =>
   obtain ⟨h1,h2⟩:=agy x path fs _ _ h;have hr:Zt x (f :: fs)=Zt x fs:=by unfold Zt;rw [Qp,g_ (by rw [hs];decide)]
   refine ⟨by rw [h1,hr],fun g hg hm => ?_⟩;rcases J5.1 hg with rfl | hg
   . rw [hm] at hs;cases hs
   exact h2 g hg hm
  next hs =>
  split at h
  . cases h
  next hc =>
  obtain ⟨h1,h2⟩:=agy x path fs _ _ h;refine ⟨?_,fun g hg hm => ?_⟩
  .
   rw [h1];have:dN x (f.id:Int)=none:=by cases hq:dN x (f.id:Int) with | none => rfl | some i => rw [hq] at hs;simp at hs
   simp [Zt,this]
  rcases J5.1 hg with rfl | hg
  . simpa using hc
  exact h2 g hg hm
theorem af9 (x:ay):∀ (fs:List kP) (last:Nat) (p:Option Int),acU last fs->(p=none\/∃ q:Int,p=some q/\q<=last)->xK x (Zt x fs) p=true
 | [],last,p,_,_ => by simp [Zt,xK]
 | f :: fs,last,p,ha,hp => by
  obtain ⟨a1,a2,a3⟩:=ha;unfold Zt;rw [Qp];split
  .
   next hs =>
   rw [Oa,xK];simp only [u_];refine ⟨by simpa using hs,by unfold mM;simp;omega,?_,af9 x fs f.id _ a3 (.inr ⟨f.id,rfl,Int.le_refl _⟩)⟩;unfold xH;rcases hp with rfl | ⟨q,rfl,hq⟩
   . rfl
   simp;omega
  refine af9 x fs f.id p a3 ?_;rcases hp with rfl | ⟨q,rfl,hq⟩
  . exact .inl rfl
  exact .inr ⟨q,rfl,by omega⟩
theorem ab2 (f:kP) (fs:List kP) (id:Nat):wY (f :: fs) (id:Int)=if f.id=id then some f else wY fs (id:Int):=by
 unfold wY;rw [List.find?_cons];by_cases h:f.id=id
 . rw [r_ h,show ((f.id:Int) == (id:Int))=true by simp [h]]
 rw [g_ h,show ((f.id:Int) == (id:Int))=false by rw [vJ];omega]
theorem agL:∀ (fs:List kP) (last id:Nat),acU last fs->id<=last->wY fs (id:Int)=none
 | [],_,_,_,_ => rfl
 | f :: fs,last,id,ha,h => by
  obtain ⟨a1,_,a3⟩:=ha;rw [ab2,g_ (by omega)];exact agL fs f.id id a3 (by omega)
theorem alb:∀ (fs:List kP) (a b:Nat),acU a fs->(∀ f ∈ fs,b < f.id)->acU b fs
 | [],_,_,_,_ => trivial
 | f :: fs,a,b,h,hb => ⟨hb f (by simp),h.2.1,h.2.2⟩
theorem adh (x:ay) (id:Nat) (hm:dN x (id:Int)=none):∀ (fs:List kP) (last:Nat),acU last fs->(Zt x fs).filter (fun r => r.1 == (id:Int))=match wY fs (id:Int) with | some f => [((id:Int),f.data)] | none => []
 | [],_,_ => rfl
 | f :: fs,last,ha => by
  obtain ⟨a1,a2,a3⟩:=ha;rw [ab2];by_cases h:f.id=id
  .
   rw [r_ h];have h1:Zt x (f :: fs)=((f.id:Int),f.data) :: Zt x fs:=by unfold Zt;rw [Qp,r_ (by rw [h,hm];rfl),Oa]
   have h2:=adh x id hm fs f.id a3;rw [agL fs f.id id a3 (by omega)] at h2;rw [h1,Qp,h];simp only [beq_self_eq_true,if_true];rw [h2]
  rw [g_ h,<- adh x id hm fs f.id a3];unfold Zt;rw [Qp];split
  . rw [Oa,Qp,show ((f.id:Int) == (id:Int))=false by rw [vJ];omega];rfl
  rfl
theorem adp (x:ay) (id:Nat) (i:Nat) (hm:dN x (id:Int)=some i):∀ (fs:List kP),(Zt x fs).filter (fun r => r.1 == (id:Int)) = []
 | [] => rfl
 | f :: fs => by
  unfold Zt;rw [Qp];split
  .
   next hs =>
   have hne:f.id≠id:=fun e => by rw [e,hm] at hs;simp at hs
   rw [Oa,Qp,show ((f.id:Int) == (id:Int))=false by rw [vJ];omega];exact adp x id i hm fs
  exact adp x id i hm fs
theorem zFa {p:Prop} (h:p:=by
 intro r
 induction r with
 | nil => intro l _ g hg;simp at hg
 | cons q r ih =>
  intro l h g hg;rcases J5.1 hg with rfl | hg
  . exact h.1
  have:=ih _ h.2.2 g hg;have:=h.1;omega):p:=h
theorem afY {G:Nat->List kP} : ∀ (n s:Nat) (fs:List kP) (last:Nat),last < s->acU last fs->(∀ f ∈ fs,s<=f.id/\f.id < s+n)->(∀ id:Nat,s<=id->((G id).flatMap gW).length<=match wY fs (id:Int) with | some f => (gW f).length | none => 0)->(((List.range' s n).flatMap G).flatMap gW).length<=(fs.flatMap gW).length
 | 0,s,fs,last,_,_,_,_ => by simp
 | n+1,s,fs,last,hs,ha,hr,hG => by
  rw [List.range'_succ,yJ,S_,m_];have h0:=hG s (b_ _);by_cases hf:∃ f r,fs=f :: r/\f.id=s
  .
   obtain ⟨f,r,rfl,hid⟩:=hf;rw [ab2,r_ hid] at h0;obtain ⟨a1,a2,a3⟩:=ha;have qN:∀ (r:List kP) (l:Nat),acU l r->∀ g ∈ r,l < g.id:=by
    exact zFa
   have h1:=afY n (s+1) r s (by omega) (hid ▸ a3) (fun g hg => by have:=hr g (by simp [hg]);have:=qN r f.id a3 g hg;omega) (fun id hi => by
    have:=hG id (by omega);rw [ab2,g_ (by omega)] at this;exact this)
   rw [yJ,m_];dsimp only at h0;omega
  have h2:wY fs (s:Int)=none:=by
   cases fs with
   | nil => rfl
   | cons f r =>
    have h3:f.id≠s:=fun e => hf ⟨f,r,rfl,e⟩;have h4:=(hr f (by simp)).1;rw [ab2,g_ h3];exact agL r f.id s ha.2.2 (by omega)
  rw [h2] at h0;have h5:∀ f ∈ fs,s+1<=f.id:=by
   intro f hm;cases fs with
   | nil => simp at hm
   | cons g r =>
    have h3:g.id≠s:=fun e => hf ⟨g,r,rfl,e⟩;have h4:=(hr g (by simp)).1;rcases J5.1 hm with rfl | hm
    . omega
    have qN:∀ (r:List kP) (l:Nat),acU l r->∀ g ∈ r,l < g.id:=by
     exact zFa
    have:=qN r g.id ha.2.2 f hm;omega
  have h1:=afY n (s+1) fs s (by omega) (alb fs last s ha fun f hm => by have:=h5 f hm;omega) (fun f hm => by have:=hr f hm;have:=h5 f hm;omega) (fun id hi => hG id (by omega));dsimp only at h0;omega
def Z8 (fs:List kP) (c:kP->Nat):List Mem->Nat
 | [] => 0
 | m :: ms => (match wY fs m.id with | some f => c f | none => 0)+Z8 fs c ms
theorem ahJ (f:kP) (fs:List kP) (c:kP->Nat):∀ (ms:List Mem),(ms.map Mem.id).Pairwise (· < ·)->(∀ m ∈ ms,0<=m.id)->Z8 (f :: fs) c ms<=c f+Z8 fs c ms/\((∀ m ∈ ms,m.id≠(f.id:Int))->Z8 (f :: fs) c ms=Z8 fs c ms)
 | [],_,_ => ⟨by simp [Z8],fun _ => by simp [Z8]⟩
 | m :: ms,hp,h0 => by
  rw [Oa,List.pairwise_cons] at hp;obtain ⟨h1,h2⟩:=ahJ f fs c ms hp.2 (fun q hq => h0 q (by simp [hq]));have hm0:=h0 m (by simp);have e:m.id=((m.id.toNat:Nat):Int):=by omega
  rw [Z8,Z8];by_cases h:m.id=(f.id:Int)
  .
   have h3:∀ q ∈ ms,q.id≠(f.id:Int):=fun q hq e => by
    have:=hp.1 q.id (List.mem_map_of_mem hq);omega
   have h4:=h2 h3;refine ⟨?_,fun hn => absurd h (hn m (by simp))⟩;have h5:wY (f :: fs) m.id=some f:=by rw [h,ab2,r_ rfl]
   rw [h5,h4];dsimp only;omega
  have h5:wY (f :: fs) m.id=wY fs m.id:=by rw [e,ab2,g_ (by omega)]
  rw [h5];exact ⟨by omega,fun hn => by rw [h2 fun q hq => hn q (by simp [hq])]⟩
theorem aiu (c:kP->Nat):∀ (fs:List kP) (ms:List Mem),(ms.map Mem.id).Pairwise (· < ·)->(∀ m ∈ ms,0<=m.id)->Z8 fs c ms<=(fs.map c).sum
 | [],ms,_,_ => by
  have:∀ ms:List Mem,Z8 [] c ms=0:=by
   intro ms
   induction ms with
   | nil => rfl
   | cons m ms ih => rw [Z8,ih];rfl
  rw [this];exact Vt _
 | f :: fs,ms,hp,h0 => by
  have h1:=(ahJ f fs c ms hp h0).1;have h2:=aiu c fs ms hp h0;rw [Oa,List.sum_cons];omega
structure ahN (ts:List ay) (L:Nat) (t:Int) (p:List UInt8) (v:Val):Prop where
 fit:cO ts false v t=true
 len:(fE ts v t).length<=p.length
 lev:jV ts v t<=L
 pos:1<=L
 nod:nodes v<=20*p.length+20
theorem aoZ {ts:List ay} {pl:Bool} {v:Val} {t:Int} {x:ay} (hx:bM ts t=some x) (hk:v.kind=x.kind) (hp:aA v=true) (hb:ig pl x v (fun t => rC ts pl v.keys t) (fun t => rC ts pl v.items t) (fun ms => qL ts pl v.items ms) (fun t => zM ts pl v.items t)=true):cO ts pl v t=true:=by
 rw [kG,hx];simp only;rw [hp,t_ hk];simpa [jT] using hb
theorem aiB {ts:List ay} {L:Nat} {e:Int} : ∀ (ls:List (List UInt8)) (is:List Val),is.length=ls.length->(∀ (k:Nat) (p:List UInt8) (v:Val),ls[k]?=some p->is[k]?=some v->ahN ts L e p v)->rC ts false is e=true/\((lu ts is e).flatMap jK).length<=(ls.flatMap jK).length/\oI ts is e<=L/\lT is<=20*(ls.flatMap jK).length
 | [],[],_,_ => ⟨by rw [rC],by simp [lu],by rw [oI];omega,by simp [lT]⟩
 | p :: ls,v :: is,hl,h => by
  obtain ⟨h1,h2,h3,h4⟩:=aiB ls is (by simpa using hl) fun k q w hq hw => h (k+1) q w (by simpa using hq) (by simpa using hw);have g:=h 0 p v rfl rfl;have m1:=adg g.len;have m2:=afW p;have m3:=g.nod;have m4:=g.lev;refine ⟨by rw [rC,g.fit,h1];rfl,?_,by rw [oI];omega,?_⟩
  . rw [lu,yJ,yJ,m_,m_];omega
  rw [lT,yJ,m_];omega
 | [],_ :: _,hl,_ => by simp at hl
 | _ :: _,[],hl,_ => by simp at hl
theorem ahT {ts:List ay} {L:Nat} {e f:Int} : ∀ (ks is:List Val) (ls:List (List UInt8)),is.length=ks.length->ls.length=2*ks.length->(∀ (k:Nat) (p:List UInt8) (v:Val),ls[2*k]?=some p->ks[k]?=some v->ahN ts L e p v)->(∀ (k:Nat) (p:List UInt8) (v:Val),ls[2*k+1]?=some p->is[k]?=some v->ahN ts L f p v) ->
  rC ts false ks e=true/\rC ts false is f=true/\((inter (lu ts ks e) (lu ts is f)).flatMap jK).length<=(ls.flatMap jK).length/\oI ts is f<=L/\(0 < ks.length->1<=L)/\lT ks+lT is<=20*(ls.flatMap jK).length
 | [],[],ls,_,h2,_,_ => by
  have:ls = []:=Dl (by simpa using h2);subst this;exact ⟨by rw [rC],by rw [rC],by simp [lu,inter],by rw [oI];omega,by simp,by simp [lT]⟩
 | k :: ks,v :: is,[],_,h2,_,_ => by simp at h2
 | k :: ks,v :: is,[_],_,h2,_,_ => by simp at h2;omega
 | k :: ks,v :: is,p :: q :: ls,h1,h2,hk,hi => by
  obtain ⟨a1,a2,a3,a4,a5,a6⟩:=ahT ks is ls (by simpa using h1) (by simp at h2;omega) (fun j r w hr hw => hk (j+1) r w (by simpa [Nat.mul_add] using hr) (by simpa using hw)) (fun j r w hr hw => hi (j+1) r w (by simpa [Nat.mul_add] using hr) (by simpa using hw));have g:=hk 0 p k rfl rfl;have g2:=hi 0 q v rfl rfl;have m1:=adg g.len;have m2:=afW p;have m3:=g.nod;have m4:=g.pos;have n1:=adg g2.len;have n2:=afW q;have n3:=g2.nod;have n4:=g2.lev;refine ⟨by rw [rC,g.fit,a1];rfl,by rw [rC,g2.fit,a2];rfl,?_,by rw [oI];omega,fun _ => m4,?_⟩
  .
   rw [lu,lu,inter];simp only [yJ,m_];omega
  rw [lT,lT];simp only [yJ,m_];omega
 | [],_ :: _,_,h1,_,_,_ => by simp at h1
 | _ :: _,[],_,h1,_,_,_ => by simp at h1
theorem ai1 {ts:List ay} {pl:Bool} : ∀ (is:List Val) (ms:List Mem),is.length=ms.length->(∀ (k:Nat) (v:Val) (m:Mem),is[k]?=some v->ms[k]?=some m->cO ts pl v m.ty=true)->qL ts pl is ms=true
 | [],[],_,_ => by rw [qL]
 | v :: is,m :: ms,hl,h => by rw [qL,h 0 v m rfl rfl,ai1 is ms (by simpa using hl) fun k w n hw hn => h (k+1) w n (by simpa using hw) (by simpa using hn)];rfl
 | [],_ :: _,hl,_ => by simp at hl
 | _ :: _,[],hl,_ => by simp at hl
theorem ai2 {ts:List ay} {L:Nat} : ∀ (is:List Val) (ms:List Mem),(∀ (k:Nat) (v:Val) (m:Mem),is[k]?=some v->ms[k]?=some m->(m.eG && iK v m.dflt)=true\/jV ts v m.ty<=L)->qZ ts is ms<=L
 | [],ms,_ => by rw [qZ];exact Vt _
 | _ :: _,[],_ => by rw [qZ];exact Vt _
 | v :: is,m :: ms,h => by
  rw [qZ];have h1:=ai2 is ms fun k w n hw hn => h (k+1) w n (by simpa using hw) (by simpa using hn);rcases h 0 v m rfl rfl with h2 | h2
  . rw [r_ h2];omega
  split <;> omega
theorem ahU {fs:List kP} : ∀ (is:List Val) (ms:List Mem),is.length=ms.length->(∀ (k:Nat) (v:Val) (m:Mem),is[k]?=some v->ms[k]?=some m->nodes v<=1+match wY fs m.id with | some f => 20*(gW f).length | none => 0)->lT is<=ms.length+Z8 fs (fun f => 20*(gW f).length) ms
 | [],[],_,_ => by simp [lT,Z8]
 | v :: is,m :: ms,hl,h => by
  have h1:=ahU is ms (by simpa using hl) fun k w n hw hn => h (k+1) w n (by simpa using hw) (by simpa using hn);have h2:=h 0 v m rfl rfl;rw [lT,Z8,yV];cases hf:wY fs m.id <;> rw [hf] at h2 <;> simp only at h2 ⊢ <;> omega
 | [],_ :: _,hl,_ => by simp at hl
 | _ :: _,[],hl,_ => by simp at hl
theorem alc {ts:List ay} (h:fF ts=0) {x:ay} (hx:x ∈ ts) (hk:x.kind=5\/x.kind=6):x.ah.length<=16:=by
 unfold fF at h;by_cases h32:32 < ts.length
 . rw [r_ h32] at h;cases h
 rw [g_ h32] at h;obtain ⟨hf,_⟩:=D7 ts ts [] h x hx;unfold dY rD at hf;rw [g_ (by omega),g_ (by omega),g_ (by omega),r_ hk] at hf;simp only [u_,yL] at hf;have hm:=hf.2.1.2;unfold iQ nP at hm;simp only [u_,yL] at hm;simpa using hm.2.2.2
theorem ai4:∀ (fs:List kP) (last:Nat),acU last fs->∀ f ∈ fs,last < f.id/\f.id<=1000
 | [],_,_,f,hf => by simp at hf
 | g :: fs,last,h,f,hf => by
  obtain ⟨h1,h2,h3⟩:=h;rcases J5.1 hf with rfl | hf
  . exact ⟨h1,h2⟩
  have:=ai4 fs g.id h3 f hf;omega
theorem ahM:∀ fs:List kP,(fs.map fun f => 20*(gW f).length).sum=20*(fs.flatMap gW).length
 | [] => rfl
 | f :: fs => by rw [Oa,List.sum_cons,ahM fs,yJ,m_];omega
theorem getD_at {l:List (List UInt8)} {k:Nat} {p:List UInt8} (h:l[k]?=some p):l.getD k []=p:=by rw [M_,h];rfl
theorem aja (n:Nat):zig (yU n)=n:=by
 unfold zig yU;split <;> split <;> omega
theorem ak2 {pl x v K I Z H} (h:x.kind=1):ig pl x v K I Z H=true:=by
 unfold ig;rw [g_ (by omega),g_ (by omega),g_ (by omega),g_ (by omega),g_ (by omega),g_ (by omega),g_ (by omega),g_ (by omega)]
theorem aqu {pl x v K I Z H} (h:x.kind=2):ig pl x v K I Z H=decide (x.low<=v.num/\v.num<=x.high):=by
 unfold ig;rw [r_ h]
theorem aqv {pl x v K I Z H} (h:x.kind=3):ig pl x v K I Z H=decide ((v.str.length:Int)<=x.max):=by
 unfold ig;rw [g_ (by omega),r_ h]
theorem aqw {pl x v K I Z H} (h:x.kind=4):ig pl x v K I Z H=((qm x v.id).isSome || (x.opn && (!pl && mM v.id))):=by
 unfold ig;rw [g_ (by omega),g_ (by omega),r_ h]
theorem aqx {pl x v K I Z H} (h:x.kind=5):ig pl x v K I Z H=(decide (v.items.length=x.ah.length) && (!(pl && decide (0 < v.rest.length)) && (xK x v.rest none && Z x.ah))):=by
 unfold ig;rw [g_ (by omega),g_ (by omega),g_ (by omega),r_ h]
theorem aqy {pl x v K I Z H} (h:x.kind=7):ig pl x v K I Z H=(decide ((v.items.length:Int)<=x.max) && I x.elem):=by
 unfold ig;rw [g_ (by omega),g_ (by omega),g_ (by omega),g_ (by omega),g_ (by omega),r_ h]
theorem aqz {pl x v K I Z H} (h:x.kind=8):ig pl x v K I Z H=(decide ((v.keys.length:Int)<=x.max) && (decide (v.items.length=v.keys.length) && (K x.key && (qR v.keys && I x.elem)))):=by
 unfold ig;rw [g_ (by omega),g_ (by omega),g_ (by omega),g_ (by omega),g_ (by omega),g_ (by omega),r_ h]
theorem ak3 {pl x v K I Z H} (h:x.kind=9):ig pl x v K I Z H=(decide (v.items.length<=1) && I x.elem):=by
 unfold ig;rw [g_ (by omega),g_ (by omega),g_ (by omega),g_ (by omega),g_ (by omega),g_ (by omega),g_ (by omega),r_ h]
theorem aqD {x v K I Z H} (h:x.kind=2):Ce x v K I Z H=wB 8 (zig v.num).toNat []:=by
 unfold Ce;rw [g_ (by omega),r_ h]
theorem anP {ts:List ay} (hv:fF ts=0) (hd:∀ x ∈ ts,∀ m ∈ x.ah,m.eG=true->cO ts false m.dflt m.ty=true/\nodes m.dflt<=1):∀ (L:Nat) (t:Int) (p:List UInt8) (path:List Int) (v:Val),decP ts L t p path = .ok v->ahN ts L t p v:=by
 intro L
 induction L with
 | zero => intro t p path v h;rw [decP] at h;cases h
 | succ L ih =>
  intro t p path v h;rw [decP] at h;cases hx:bM ts t with
  | none => rw [hx] at h;cases h
  | some x =>
   rw [hx] at h;simp only at h;have hxm:=Mc hx;have hkr:=(IJ hv x hxm).1;have hcs:x.kind=1\/x.kind=2\/x.kind=3\/x.kind=4\/x.kind=5\/x.kind=6\/x.kind=7\/x.kind=8\/x.kind=9:=by omega
   have hpay:=tu ts v t x hx;have ao0:=BH ts v t x hx;have mk:v.kind=x.kind->aA v=true->ig false x v (fun t => rC ts false v.keys t) (fun t => rC ts false v.items t) (fun ms => qL ts false v.items ms) (fun t => zM ts false v.items t)=true->(Ce x v (fun t => lu ts v.keys t) (fun t => lu ts v.items t) (fun ms => uw ts v.items ms) (fun t => SQ ts v.items t)).length<=p.length->Ia x v (fun t => oI ts v.items t) (fun ms => qZ ts v.items ms) (fun t => LC ts v.items t)<=L->nodes v<=20*p.length+20->ahN ts (L+1) t p v:=fun a b c d e f =>
    ⟨aoZ hx a b c,by rw [hpay];exact d,by rw [ao0];omega,by omega,f⟩
   clear hpay ao0;unfold fH at h;rcases hcs with hk | hk | hk | hk | hk | hk | hk | hk | hk
   .
    rw [r_ hk] at h;split at h
    .
     injection h with h;subst h;exact mk (by rw [hk];rfl) rfl (ak2 hk) (by simp [Ce,hk,Val.bool]) (by simp [Ia,hk,Val.items,Val.keys,oI]) (by simp [nodes,lT])
    split at h
    .
     next h1 =>
     injection h with h;subst h;exact mk (by rw [hk];rfl) rfl (ak2 hk) (by simp [Ce,hk,Val.bool,h1]) (by simp [Ia,hk,Val.items,Val.keys,oI]) (by simp [nodes,lT])
    cases h
   .
    rw [g_ (by omega),r_ hk] at h;split at h
    . cases h
    next h1 =>
    split at h
    . cases h
    next h2 =>
    injection h with h;subst h;have hb:=ahR p (by simpa using h1);exact mk (by rw [hk];rfl) rfl (by rw [aqu hk];exact t_ (by simp only [Val.num];omega)) (by rw [aqD hk];simp only [Val.num,aja,Int.toNat_natCast];exact hb) (by simp [Ia,hk,Val.items,Val.keys,oI]) (by simp [nodes,lT])
   .
    rw [g_ (by omega),g_ (by omega),r_ hk] at h;split at h
    . cases h
    next h1 =>
    injection h with h;subst h;exact mk (by rw [hk];rfl) rfl (by rw [aqv hk];exact t_ (by simp only [Val.str];omega)) (by simp [Ce,hk,Val.str]) (by simp [Ia,hk,Val.items,Val.keys,oI]) (by simp [nodes,lT])
   .
    rw [g_ (by omega),g_ (by omega),g_ (by omega),r_ hk] at h;split at h
    . cases h
    next h1 =>
    split at h
    . cases h
    next h2 =>
    injection h with h;subst h;have hb:=ahR p (by
     rcases Nat.eq_zero_or_pos (jX p).2 with h3 | h3
     . exact h3
     exact absurd (.inl (by omega)) h1)
    refine mk (by rw [hk];rfl) rfl ?_ (by simp only [Ce,hk,Val.id];simpa using hb) (by simp [Ia,hk,Val.items,Val.keys,oI]) (by simp [nodes,lT]);rw [aqw hk];simp only [Val.id];have h3:mM (((jX p).1:Nat):Int)=true:=by
     unfold mM;simp only [yL]
     constructor <;> (rcases QF (jX p).1 1 with h4 | h4 <;> rcases QF 1000 (jX p).1 with h5 | h5 <;> first | omega | exact absurd (.inr (.inl h4)) h1 | exact absurd (.inr (.inr h5)) h1)
    rw [h3];cases hs:(qm x (((jX p).1:Nat):Int)).isSome with
    | true => simp
    | false =>
     cases ho:x.opn with
     | true => simp
     | false => exact absurd ⟨hs,ho⟩ h2
   .
    rw [g_ (by omega),g_ (by omega),g_ (by omega),g_ (by omega),r_ hk] at h;split at h
    . cases h
    next fs hfs =>
    split at h
    . cases h
    next is his =>
    split at h
    . cases h
    next rs hrs =>
    injection h with h;subst h;obtain ⟨hp,hasc⟩:=ai7 hfs;obtain ⟨vs,e1,hlen,hat⟩:=ade _ _ _ _ _ his;rw [D_] at e1;subst e1;obtain ⟨e2,hcr⟩:=agy x path fs [] rs hrs;rw [D_] at e2;obtain ⟨DC,apG⟩:=Dy hv hxm (.inl hk);have hin:=ai4 fs 0 hasc
    -- each item is decoded, or the default
    have hit:∀ (k:Nat) (w:Val) (m:Mem),is[k]?=some w->x.ah[k]?=some m->(∃ f,wY fs m.id=some f/\ahN ts L m.ty f.data w)\/(wY fs m.id=none/\m.eG=true/\w=m.dflt):=by
     intro k w m hw hm;obtain ⟨hkl,hkw⟩:=yS.1 hw;have h1:=hat k hkl;rw [hkw,Qo] at h1;unfold E8 at h1;rw [hm] at h1;simp only at h1;cases hf:wY fs m.id with
     | some f => rw [hf] at h1;exact .inl ⟨f,rfl,ih _ _ _ _ h1⟩
     | none =>
      rw [hf] at h1;simp only at h1;cases hh:m.eG with
      | true => rw [hh,r_ rfl] at h1;injection h1 with h1;exact .inr ⟨rfl,rfl,h1.symm⟩
      | false => rw [hh] at h1;simp at h1
    have hfit:∀ (k:Nat) (w:Val) (m:Mem),is[k]?=some w->x.ah[k]?=some m->cO ts false w m.ty=true:=fun k w m hw hm => by
     rcases hit k w m hw hm with ⟨f,_,g⟩ | ⟨_,hh,rfl⟩
     . exact g.fit
     exact (hd x hxm m (V8 hm) hh).1
    have ato:lT is<=20*(fs.flatMap gW).length+16:=by
     have h1:=ahU (fs:=fs) is x.ah hlen fun k w m hw hm => by
      rcases hit k w m hw hm with ⟨f,hf,g⟩ | ⟨hf,hh,rfl⟩
      .
       rw [hf];have:=g.nod;have:=akZ f;show nodes w<=1+20*(gW f).length;omega
      have:=(hd x hxm m (V8 hm) hh).2;omega
     have h2:=aiu (fun f => 20*(gW f).length) fs x.ah apG (fun m hm => by have:=DC m hm;omega);rw [ahM] at h2;have h3:=alc hv hxm (.inl hk);omega
    refine mk (by rw [hk];rfl) rfl ?_ ?_ ?_ ?_
    .
     rw [aqx hk];simp only [Val.items,Val.rest];rw [e2,af9 x fs 0 none hasc (.inl rfl),ai1 is x.ah hlen hfit];simp [hlen]
    .
     unfold Ce;rw [g_ (by omega),g_ (by omega),g_ (by omega),g_ (by omega),g_ (by omega),g_ (by omega),g_ (by omega),g_ (by omega)];show ((Dz x is (uw ts is x.ah) rs 1000).flatMap gW).length<=p.length;rw [hp];unfold Dz;refine afY 1000 1 fs 0 (by omega) hasc (fun f hf => by have:=hin f hf;omega) fun id hid => ?_;unfold zF;cases hm:dN x (id:Int) with
     | none =>
      rw [e2,adh x id hm fs 0 hasc];cases hf:wY fs (id:Int) with
      | none => simp
      | some f =>
       have hfm:f ∈ fs:=List.mem_of_find?_eq_some hf;have hfi:f.id=id:=by have:=List.find?_some hf;simp at this;omega
       have hc:=hcr f hfm (by rw [hfi];exact hm);simp only [D_,Oa,Ya,yJ,List.flatMap_nil,Vk];exact ahI hfi.symm (b_ _)
     | some i =>
      rw [e2,adp x id i hm fs];simp only [Ya,Vk];have hml:i < x.ah.length/\∃ hh:i < x.ah.length,x.ah[i].id=id:=by
       unfold dN at hm;obtain ⟨hlt,he,_⟩:=IK _ _ _ _ hm;have hlt':i < x.ah.length:=by simpa using hlt
       refine ⟨hlt',hlt',?_⟩;rw [Px] at he;exact he
      obtain ⟨hml,_,hmid⟩:=hml;rw [n_ hml];simp only;have hil:i < is.length:=by rw [hlen];exact hml
      have hgi:is.getD i jm=is[i]:=by rw [M_,n_ hil];rfl
      rw [hgi,NG ts is x.ah i hil hml];rcases hit i _ _ (n_ hil) (n_ hml) with ⟨f,hf,g⟩ | ⟨hf,hh,he⟩
      .
       rw [hmid] at hf;rw [hf];have hfi:f.id=id:=by have:=List.find?_some hf;simp at this;omega
       split
       . simp
       simp only [yJ,List.flatMap_nil,Vk];exact ahI hfi.symm g.len
      rw [hh,he,(vM _ _).2 rfl];simp
    .
     unfold Ia;rw [r_ hk];refine ai2 is x.ah fun k w m hw hm => ?_;rcases hit k w m hw hm with ⟨f,_,g⟩ | ⟨_,hh,rfl⟩
     . exact .inr g.lev
     exact .inl (by rw [hh,(vM _ _).2 rfl];rfl)
    simp only [nodes,lT];rw [hp];omega
   .
    rw [g_ (by omega),g_ (by omega),g_ (by omega),g_ (by omega),g_ (by omega),r_ hk] at h;split at h
    . cases h
    next id r har =>
    obtain ⟨hp,i1,i2⟩:=anO har;split at h
    .
     next hm =>
     split at h
     .
      next ho =>
      injection h with h;subst h;refine mk (by rw [hk];rfl) rfl ?_ ?_ ?_ ?_
      .
       simp only [ig,hk,Val.id,Val.items,Val.rest,hm,ho];simp [mM,KW];omega
      .
       simp only [Ce,hk,Val.id,Val.rest];simp [hp]
      . simp only [Ia,hk,Val.id,hm];simp
      simp [nodes,lT]
     cases h
    next i hm =>
    have hml:i < x.ah.length:=by
     unfold dN at hm;obtain ⟨hlt,_,_⟩:=IK _ _ _ _ hm;simpa using hlt
    rw [n_ hml] at h;simp only [X_,WM] at h;split at h
    . cases h
    next w hw =>
    injection h with h;subst h;have g:=ih _ _ _ _ hw;have g1:=g.len;have g2:=g.lev;have g3:=g.nod;have hpl:=List.length_pos_iff.2 (YQ id);refine mk (by rw [hk];rfl) rfl ?_ ?_ ?_ ?_
    . simp only [ig,hk,Val.id,Val.items,Val.rest,hm,n_ hml,zM,g.fit];simp
    .
     simp only [Ce,hk,Val.id,Val.rest,Val.items,hm,n_ hml,SQ];simp [hp];omega
    . simp only [Ia,hk,Val.id,Val.items,hm,n_ hml,LC];simp;exact g2
    simp only [nodes,lT];rw [hp,m_];omega
   .
    rw [g_ (by omega),g_ (by omega),g_ (by omega),g_ (by omega),g_ (by omega),g_ (by omega),r_ hk] at h;split at h
    . cases h
    next ls hls =>
    split at h
    . cases h
    next hmx =>
    split at h
    . cases h
    next is his =>
    injection h with h;subst h;have hp:=ahQ hls;obtain ⟨vs,e1,hlen,hat⟩:=ade _ _ _ _ _ his;rw [D_] at e1;subst e1;obtain ⟨d1,d2,d3,d4⟩:=aiB (ts:=ts) (L:=L) (e:=x.elem) ls is hlen fun k q w hq hw => by
     obtain ⟨hkl,hkw⟩:=yS.1 hw;have h1:=hat k hkl;rw [hkw,Qo,getD_at hq] at h1;exact ih _ _ _ _ h1
    refine mk (by rw [hk];rfl) rfl ?_ ?_ ?_ ?_
    . rw [aqy hk];simp only [Val.items,d1,hlen,Bool.and_true,yL];omega
    . simp only [Ce,hk,Val.items];rw [hp];simpa using d2
    . simp only [Ia,hk,Val.items,Val.keys];simp;exact d3
    simp only [nodes,lT];rw [hp];omega
   .
    rw [g_ (by omega),g_ (by omega),g_ (by omega),g_ (by omega),g_ (by omega),g_ (by omega),g_ (by omega),r_ hk] at h;split at h
    . cases h
    next ls hls =>
    split at h
    . cases h
    next hev =>
    split at h
    . cases h
    next hmx =>
    split at h
    . cases h
    next ks hks =>
    split at h
    . cases h
    next hasc =>
    split at h
    . cases h
    next is his =>
    injection h with h;subst h;have hp:=ahQ hls;obtain ⟨vs,e1,hlen,hat⟩:=ade _ _ _ _ _ his;rw [D_] at e1;subst e1;obtain ⟨us,e2,atp,arH⟩:=ade _ _ _ _ _ hks;rw [D_] at e2;subst e2;obtain ⟨d1,d2,d3,d4,d5,d6⟩:=ahT (ts:=ts) (L:=L) (e:=x.key) (f:=x.elem) ks is ls (by omega) (by omega) (fun k q w hq hw => by
     obtain ⟨hkl,hkw⟩:=yS.1 hw;have h1:=arH k hkl;rw [hkw,Qo,getD_at hq] at h1;exact ih _ _ _ _ h1) (fun k q w hq hw => by
     obtain ⟨hkl,hkw⟩:=yS.1 hw;have h1:=hat k hkl;rw [hkw,Qo,getD_at hq] at h1;exact ih _ _ _ _ h1)
    refine mk (by rw [hk];rfl) rfl ?_ ?_ ?_ ?_
    .
     rw [aqz hk];simp only [Bool.not_eq_false] at hasc;refine Bool.and_eq_true_iff.2 ⟨t_ (by simp only [Val.keys];omega),Bool.and_eq_true_iff.2 ⟨t_ (by simp only [Val.keys,Val.items];omega),?_⟩⟩;simp only [Val.keys,Val.items,d1,d2,hasc,Bool.and_true]
    . simp only [Ce,hk,Val.items,Val.keys];rw [hp];simpa using d3
    . simp only [Ia,hk,Val.items,Val.keys];rw [g_ (by omega),g_ (by omega)];by_cases hk0:0 < ks.length <;> simp only [hk0,if_true,if_false] <;> omega
    simp only [nodes];rw [hp];omega
   rw [g_ (by omega),g_ (by omega),g_ (by omega),g_ (by omega),g_ (by omega),g_ (by omega),g_ (by omega),g_ (by omega)] at h;split at h
   .
    injection h with h;subst h;exact mk (by rw [hk];rfl) rfl (by rw [ak3 hk];simp [agc,Val.items,rC]) (by simp [Ce,hk,agc,Val.items]) (by simp [Ia,hk,agc,Val.items,Val.keys,oI]) (by simp [agc,nodes,lT])
   next b r =>
   split at h
   . cases h
   split at h
   . cases h
   next w hw =>
   injection h with h;subst h;have g:=ih _ _ _ _ hw;have g1:=g.len;have g2:=g.lev;have g3:=g.nod;refine mk (by rw [hk];rfl) rfl ?_ ?_ ?_ ?_
   . rw [ak3 hk];simp [Val.items,rC,g.fit]
   . simp only [Ce,hk,Val.items,SQ];simp;omega
   . simp only [Ia,hk,Val.items,Val.keys,oI];simp;exact g2
   simp only [nodes,lT,yV];omega
end Go.Proofs.YtkaedmpppnnamaaGreatDoor
namespace Go.Proofs.YtkaedmpppnnamaaGreatDoor
open ChangeShapes WideShapes ChangeAt RowKit
mutual
theorem Vo:∀ v:Val,nodes v<=I8 v
 | .mk _ _ _ s _ ks is rs => by
  rw [nodes,I8];have:=MI ks;have:=MI is;omega
theorem MI:∀ l:List Val,lT l<=uK l
 | [] => by simp [lT]
 | y :: r => by
  rw [lT,uK];have:=Vo y;have:=MI r;omega
end
def fz:List kP->Nat
 | [] => 0
 | f :: r => 20+f.data.length+fz r
theorem Em:∀ a b:List kP,fz (a ++ b)=fz a+fz b
 | [],b => by simp [fz]
 | f :: r,b => by rw [R_,fz,fz,Em r b];omega
theorem Xh (p:List UInt8):(jK p).length<=10+p.length:=by
 unfold jK;rw [m_];have:=qw 9 p.length;omega
theorem KA (f:kP):(gW f).length<=20+f.data.length:=by
 unfold gW;rw [m_];have h1:=Xh f.data;have h2:=qw 9 (2*f.id+(if f.gy then 1 else 0));omega
theorem Ut:∀ l:List kP,(l.flatMap gW).length<=fz l
 | [] => by simp [fz]
 | f :: r => by
  rw [yJ,m_,fz];have:=KA f;have:=Ut r;omega
theorem Y5 (g h:Nat->List kP):∀ l:List Nat,fz (l.flatMap (fun id => g id ++ h id))=fz (l.flatMap g)+fz (l.flatMap h)
 | [] => by simp [fz]
 | a :: r => by
  rw [yJ,yJ,yJ,Em,Em,Em,Em,Y5 g h r];omega
theorem Y6 (k:Raw->Nat):∀ l:List Raw,fz (l.map (fun r => ⟨k r,false,r.2⟩))=20*l.length+qx l
 | [] => by simp [fz,qx]
 | r :: l => by rw [Oa,fz,Y6 k l,qx,yV];dsimp only;omega
theorem Y7 (rest:List Raw):∀ l:List Nat,fz (l.flatMap (fun id => (rest.filter (fun r => r.1 == ((id:Nat):Int))).map (fun r => (⟨id,false,r.2⟩ : kP))))=20*(l.flatMap (fun id => rest.filter (fun r => r.1 == ((id:Nat):Int)))).length+qx (l.flatMap (fun id => rest.filter (fun r => r.1 == ((id:Nat):Int))))
 | [] => by simp [fz,qx]
 | a :: r => by
  rw [yJ,yJ,Em,Y6 (fun _ => a),Y7 rest r,m_];have:∀ x y:List Raw,qx (x ++ y)=qx x+qx y:=by
   intro x y
   induction x with
   | nil => simp [qx]
   | cons q x ih => rw [R_,qx,qx,ih];omega
  rw [this];omega
def PZ (c:Nat->Nat):Nat->Nat->Nat
 | _,0 => 0
 | k,n+1 => c k+PZ c (k+1) n
theorem Xi:∀ (l:List Int) (id:Int) (k:Nat),(∀ a ∈ l,a≠id)->nY l id k=none
 | [],_,_,_ => rfl
 | a :: r,id,k,h => by rw [nY,g_ (h a (by simp)),Xi r id (k+1) (fun b hb => h b (by simp [hb]))]
theorem G8 (c:Nat->Nat) (g:Nat->List kP):∀ (n s k:Nat) (l:List Int),l.Pairwise (· < ·)->(∀ a ∈ l,(s:Int)<=a)->(∀ id:Nat,s<=id->fz (g id)<=match nY l (id:Int) k with | some j => c j | none => 0)->fz ((List.range' s n).flatMap g)<=PZ c k l.length
 | 0,s,k,l,_,_,_ => by simp [fz]
 | n+1,s,k,[],hp,hs,hg => by
  rw [List.range'_succ,yJ,Em];have h1:=hg s (b_ _);have h2:=G8 c g n (s+1) k [] hp (fun a h => by simp at h) (fun id h => hg id (by omega));simp only [nY] at h1;simp only [Vq,PZ] at h2 ⊢;omega
 | n+1,s,k,a :: r,hp,hs,hg => by
  rw [List.range'_succ,yJ,Em];have h1:=hg s (b_ _);have hp2:=List.pairwise_cons.1 hp;have ha:=hs a (by simp);by_cases he:a=(s:Int)
  .
   rw [nY,r_ he] at h1;have h2:=G8 c g n (s+1) (k+1) r hp2.2 (fun b hb => by have:=hp2.1 b hb;omega) (fun id h => by
    have h3:=hg id (by omega);rw [nY,g_ (by omega)] at h3;exact h3)
   rw [yV,PZ];simp only at h1;omega
  rw [Xi (a :: r) (s:Int) k (fun b hb => by
   rcases J5.1 hb with rfl | hb
   . exact he
   have:=hp2.1 b hb;omega)] at h1
  have h2:=G8 c g n (s+1) k (a :: r) hp (fun b hb => by
   rcases J5.1 hb with rfl | hb
   . omega
   have:=hp2.1 b hb;omega) (fun id h => hg id (by omega))
  simp only at h1;omega
theorem Rt (c:Nat->Nat):∀ (l:List Val) (k:Nat),(∀ j (h:j < l.length),c (k+j)<=20*I8 l[j])->PZ c k l.length<=20*uK l
 | [],k,_ => by simp [PZ]
 | y :: r,k,h => by
  rw [yV,PZ,uK];have h1:=h 0 (by simp);simp only [Uu,T_] at h1;have h2:=Rt c r (k+1) (fun j hj => by
   have:=h (j+1) (by simpa using hj);rw [show k+1+j=k+(j+1) by omega];simpa using this)
  omega
theorem JI (ts:List ay) (t:Int):∀ l:List Val,(∀ y ∈ l,(fE ts y t).length+20<=20*I8 y)->((lu ts l t).flatMap jK).length<=20*uK l
 | [],_ => by simp [lu]
 | y :: r,h => by
  rw [lu,yJ,m_,uK];have h1:=h y (by simp);have h2:=Xh (fE ts y t);have h3:=JI ts t r (fun z hz => h z (by simp [hz]));omega
theorem Xj:∀ a b:List (List UInt8),((inter a b).flatMap jK).length<=(a.flatMap jK).length+(b.flatMap jK).length
 | [],b => by simp [inter]
 | a :: r,[] => by simp [inter]
 | a :: r,b :: s => by
  rw [inter,yJ,yJ,yJ,yJ,m_,m_,m_,m_];have:=Xj r s;omega
theorem Xk:∀ (l:List Val) (h:0 < l.length),I8 l[0]<=uK l
 | [],h => by simp at h
 | y :: r,_ => by simp only [T_];rw [uK];omega
theorem abv (ts:List ay) (hv:fF ts=0):∀ (N:Nat) (v:Val) (t:Int),nodes v<=N->cO ts false v t=true->(fE ts v t).length+20<=20*I8 v:=by
 intro N
 induction N with
 | zero => intro v t hn;have:=zJ v;omega
 | succ N ih =>
  intro v t hn hf;cases hx:bM ts t with
  | none => rw [kG,hx] at hf;cases hf
  | some x =>
   have hxm:=Mc hx;obtain ⟨h1,h2,h3⟩:=pI hx hf;have hkr:=(IJ hv x hxm).1;obtain ⟨hnk,hni⟩:=JE hn;have hsz:=Vp v;have hcs:x.kind=1\/x.kind=2\/x.kind=3\/x.kind=4\/x.kind=5\/x.kind=6\/x.kind=7\/x.kind=8\/x.kind=9:=by omega
   have hp:=tu ts v t x hx;unfold Ce at hp;rcases hcs with hk | hk | hk | hk | hk | hk | hk | hk | hk
   .
    rw [r_ hk] at hp;rw [hp];split <;> simp <;> omega
   .
    rw [g_ (by omega),r_ hk] at hp;have:=PE 8 (zig v.num).toNat [];rw [hp];simp at this;omega
   .
    rw [g_ (by omega),g_ (by omega),r_ hk] at hp;rw [hp];omega
   .
    rw [g_ (by omega),g_ (by omega),g_ (by omega),r_ hk] at hp;have:=PE 8 v.id.toNat [];rw [hp];simp at this;omega
   .
    rw [g_ (by omega),g_ (by omega),g_ (by omega),g_ (by omega),g_ (by omega),g_ (by omega),g_ (by omega),g_ (by omega)] at hp;obtain ⟨hlen,hfit⟩:=RZ hx hf hk;obtain ⟨hm1,hm2⟩:=Dy hv hxm (.inl hk);unfold jT ig at h3;rw [g_ (by omega),g_ (by omega),g_ (by omega),r_ hk] at h3;simp only [u_,yL] at h3;obtain ⟨hr1,hr2⟩:=L9 x _ _ h3.2.2.1;have hrr:=G6 1000 1 v.rest (fun r hr => by have:=hr1 r hr;omega) hr2;have hff:=Ut (Dz x v.items (uw ts v.items x.ah) v.rest 1000);have hfl:fz (Dz x v.items (uw ts v.items x.ah) v.rest 1000)=fz ((List.range' 1 1000).flatMap (fun id => match dN x ((id:Nat):Int) with
     | some i => (match x.ah[i]? with
      | some m => if m.eG && iK (v.items.getD i jm) m.dflt then [] else [⟨id,m.gy,(uw ts v.items x.ah).getD i []⟩]
      | none => [])
     | none => []))+fz ((List.range' 1 1000).flatMap (fun id => (v.rest.filter (fun r => r.1 == ((id:Nat):Int))).map (fun r => (⟨id,false,r.2⟩ : kP)))):=Y5 _ _ _
    rw [Y7,hrr] at hfl;have hcs:=G8 (fun j => 20+((uw ts v.items x.ah).getD j []).length) (fun id => match dN x ((id:Nat):Int) with
     | some i => (match x.ah[i]? with
      | some m => if m.eG && iK (v.items.getD i jm) m.dflt then [] else [⟨id,m.gy,(uw ts v.items x.ah).getD i []⟩]
      | none => [])
     | none => []) 1000 1 0 (x.ah.map Mem.id) hm2 (fun a ha => by obtain ⟨m,hm,rfl⟩:=P_.1 ha;exact (hm1 m hm).1) (fun id _ => by
      show fz (match dN x ((id:Nat):Int) with | some i => _ | none => _)<=match dN x ((id:Nat):Int) with | some j => _ | none => 0
      cases dN x ((id:Nat):Int) with
      | none => simp [fz]
      | some i =>
       simp only;cases x.ah[i]? with
       | none => simp [fz]
       | some m =>
        simp only;split
        . simp [fz]
        simp [fz])
    have hci:=Rt (fun j => 20+((uw ts v.items x.ah).getD j []).length) v.items 0 (fun j hj => by
     have hj2:j < x.ah.length:=by omega
     simp only [Qo];rw [NG ts v.items x.ah j hj hj2];have:=ih v.items[j] x.ah[j].ty (hni _ (o_ hj)) (hfit j hj hj2);omega)
    rw [QD,<- hlen] at hcs;rw [hp];dsimp only;omega
   .
    rcases agi hx hf hk with ⟨i,lY,hr0,hlt,h00,hfk,hp6⟩ | ⟨r,hr,hp6⟩
    .
     have:=ih v.items[0] x.ah[i].ty (hni _ (o_ h00)) hfk;have hq:=qw 9 v.id.toNat;have hs:=Xk v.items h00;rw [hp6,m_];omega
    have hq:=qw 9 v.id.toNat;rw [hr] at hsz;simp only [qx,yV,Vq] at hsz;rw [hp6,m_];omega
   .
    rw [g_ (by omega),g_ (by omega),g_ (by omega),g_ (by omega),g_ (by omega),g_ (by omega),r_ hk] at hp;have:=JI ts x.elem v.items (fun y hy => ih y x.elem (hni y hy) ((Ei hx hf (.inl hk)).2 y hy));rw [hp];dsimp only;omega
   .
    rw [g_ (by omega),g_ (by omega),g_ (by omega),g_ (by omega),g_ (by omega),g_ (by omega),g_ (by omega),r_ hk] at hp;have h4:=JI ts x.elem v.items (fun y hy => ih y x.elem (hni y hy) ((Ei hx hf (.inr (.inl hk))).2 y hy));have h5:=JI ts x.key v.keys (fun y hy => ih y x.key (hnk y hy) ((Ei hx hf (.inr (.inl hk))).1 y hy));have h6:=Xj (lu ts v.keys x.key) (lu ts v.items x.elem);rw [hp];dsimp only;omega
   rw [g_ (by omega),g_ (by omega),g_ (by omega),g_ (by omega),r_ hk] at hp;by_cases h0:v.items.length=0
   . rw [r_ h0] at hp;rw [hp];simp;omega
   rw [g_ h0] at hp;dsimp only at hp;rw [NK ts v.items x.elem (by omega)] at hp;have h00:0 < v.items.length:=by omega
   have:=ih v.items[0] x.elem (hni _ (o_ h00)) ((Ei hx hf (.inr (.inr hk))).2 _ (o_ h00));have hs:=Xk v.items h00;rw [hp,yV];omega

/- Plain: the schema of a draft is valid. Plain: what fingerprints ask of the schema of a draft. No condition. -/
import Derived.Test.YtlamhkffnlgofaaGreatDoorHAT
import Derived.Test.YtlamhkffnlgofaaGreatDoorHAL
set_option maxHeartbeats 2000000
namespace Go.Proofs.YtlamhkffnlgofaaGreatDoor
open Go.ChangeShapes Go.WideShapes Go.ChangeAt Go.RowKit
theorem akC (c:Nat) (hc:c=109∨c=115) (i:Nat) (h:1≤i∧i≤12):nameB (tN c (i:Int))=true:=by
 rcases hc with rfl | rfl
 ·
  have:∀ i:Fin 13,1≤i.val→nameB (tN 109 (i.val:Int))=true:=by decide
  exact this ⟨i,by omega⟩ h.1
 have:∀ i:Fin 13,1≤i.val→nameB (tN 115 (i.val:Int))=true:=by decide
 exact this ⟨i,by omega⟩ h.1
theorem ajL (c:Nat) (hc:c=109∨c=115) (i j:Nat) (hi:i≤12) (hj:j≤12) (h:tN c (i:Int)=tN c (j:Int)):i=j:=by
 rcases hc with rfl | rfl
 ·
  have:∀ i j:Fin 13,tN 109 (i.val:Int)=tN 109 (j.val:Int)→i.val=j.val:=by decide
  exact this ⟨i,by omega⟩ ⟨j,by omega⟩ h
 have:∀ i j:Fin 13,tN 115 (i.val:Int)=tN 115 (j.val:Int)→i.val=j.val:=by decide
 exact this ⟨i,by omega⟩ ⟨j,by omega⟩ h
theorem Ti (c:Nat) (hc:c=109∨c=115):∀ (l:List Raw) (p:Option Int) (S:List (List UInt8)),(∀ r ∈ l,(1≤r.1∧r.1≤12)∧r.2=tN c r.1∧xH p r.1=true)→l.Pairwise (fun a b => a.1 < b.1)→(∀ r ∈ l,r.2 ∉ S)→nO l p S=true
 | [],p,S,_,_,_ => by rw [nO]
 | r :: l,p,S,h,hp,hS => by
  obtain ⟨⟨h1,h2⟩,h3,h4⟩:=h r (by simp);rw [List.pairwise_cons] at hp;have afo:∀ a:Int,1≤a→((a.toNat:Nat):Int)=a:=fun a h => by omega
  have hok:nameB r.2=true:=by
   rw [h3,← afo r.1 h1];exact akC c hc r.1.toNat (by omega)
  rw [nO,h4,hok,Ti c hc l (some r.1) (S ++ [r.2]) (fun q hq => ?_) hp.2 (fun q hq => ?_)]
  ·
   have hf:mM r.1=true:=by unfold mM;simp;omega
   have hs:S.contains r.2=false:=by
    have:=hS r (by simp);simpa using this
   rw [hf,hs];rfl
  ·
   obtain ⟨a1,a2,_⟩:=h q (by simp [hq]);exact ⟨a1,a2,by have:=hp.1 q hq;simp [xH,this]⟩
  intro hm;rcases List.mem_append.1 hm with hm | hm
  · exact hS q (by simp [hq]) hm
  rw [List.mem_singleton] at hm;obtain ⟨⟨b1',b2'⟩,a2,_⟩:=h q (by simp [hq]);have hlt:=hp.1 q hq;rw [a2,h3,← afo q.1 b1',← afo r.1 h1] at hm;have:=ajL c hc _ _ (by omega) (by omega) hm;omega
theorem Xv (x:fJ):∀ k,(uU x k).Pairwise (· < ·)
 | 0 => List.Pairwise.nil
 | k+1 => by
  rw [uU,List.pairwise_append];refine ⟨Xv x k,by split <;> simp,fun a ha b hb => ?_⟩;have h1:=Xt x k a ha;split at hb
  · rw [List.mem_singleton] at hb;omega
  simp at hb
theorem afp (x:fJ):(qK x).Pairwise (· < ·):=by
 unfold qK;split
 · simp
 exact Xv x 6
theorem MP (xs:List fJ) (i:Nat) (rc:Bool) (ps:List Aw) (k:Nat) (m:Mem) (h:m ∈ lH xs i rc ps k):∃ id:Nat,1≤id∧id≤k∧∃ p,partOf xs i rc id p=some m:=by
 obtain ⟨id,p,h1,h2,_,h3⟩:=CW xs i rc ps k m h;exact ⟨id,h1,h2,p,h3⟩
theorem Yi (xs:List fJ) (t code:Nat) (h:(aT xs t code).2=false):(aT xs t code).1=jm:=by
 revert h
 unfold aT;cases xs[t]? with
 | none => intro _;rfl
 | some x =>
  simp only;generalize (if ai5 x=8∧vw xs 0=none then 7 else ai5 x)=k;by_cases hk:k=5∨k=6
  · rw [if_pos hk];intro _;rfl
  rw [if_neg hk];intro h;cases h
theorem G9 {xs:List fJ} {i:Nat} {rc:Bool} {id:Nat} {p:Aw} {m:Mem} (h:partOf xs i rc id p=some m):m.id=(id:Int)∧m.name=tN 109 (id:Int)∧(m.akb=true→rc=true∧p.2.2 % 4=1)∧(m.eG=true→rc=true∧2≤p.2.2 % 4)∧(m.eG=false→m.dflt=jm):=by
 unfold partOf at h;cases ht:uN xs i p.2.1 with
 | none => rw [ht] at h;simp at h
 | some t =>
  rw [ht] at h;simp only at h;split at h
  ·
   injection h with h;subst h;refine ⟨rfl,rfl,fun hc => ?_,fun hd => ?_,fun hd => ?_⟩
   · simpa using hc
   ·
    dsimp only at hd;by_cases h2:(rc && decide (2≤p.2.2 % 4))=true
    · simpa using h2
    rw [if_neg h2] at hd;cases hd
   dsimp only at hd ⊢;by_cases h2:(rc && decide (2≤p.2.2 % 4))=true
   ·
    rw [if_pos h2] at hd ⊢;exact Yi xs t _ hd
   rw [if_neg h2]
  cases h
theorem Rz (xs:List fJ) (i:Nat) (rc:Bool) (ps:List Aw):∀ k,((lH xs i rc ps k).map bW).Pairwise (fun a b => a.1 < b.1)
 | 0 => List.Pairwise.nil
 | k+1 => by
  rw [lH,List.map_append,List.pairwise_append];refine ⟨Rz xs i rc ps k,?_,fun a ha b hb => ?_⟩
  · unfold tK;cases List.findSome? (partOf xs i rc (k+1)) ps <;> simp
  obtain ⟨m,hm,rfl⟩:=List.mem_map.1 ha;obtain ⟨m2,hm2,rfl⟩:=List.mem_map.1 hb;obtain ⟨id,h1,h2,p,h3⟩:=MP xs i rc ps k m hm;unfold tK at hm2;cases hf:List.findSome? (partOf xs i rc (k+1)) ps with
  | none => rw [hf] at hm2;simp at hm2
  | some q =>
   rw [hf] at hm2;simp only [Option.toList_some,List.mem_singleton] at hm2;subst hm2;obtain ⟨p2,_,h5⟩:=List.exists_of_findSome?_eq_some hf;have e1:=(G9 h3).1;have e2:=(G9 h5).1;show m.id < m2.id;omega
theorem Uz (xs:List fJ) (i:Nat) (rc:Bool) (ps:List Aw):nP ((oH xs i rc ps).map bW)=true∧(oH xs i rc ps).all (jf (!rc))=true:=by
 constructor
 ·
  unfold nP oH;have hl:=CV xs i rc ps 12;rw [Ti 109 (.inl rfl) _ none [] (fun r hr => ?_) (Rz xs i rc ps 12) (fun _ _ h => by simp at h)]
  · simp;omega
  obtain ⟨m,hm,rfl⟩:=List.mem_map.1 hr;obtain ⟨id,h1,h2,p,h3⟩:=MP xs i rc ps 12 m hm;obtain ⟨e1,e2,_⟩:=G9 h3;exact ⟨by show 1≤m.id∧m.id≤12;omega,by show m.name=tN 109 m.id;rw [e2,e1],rfl⟩
 rw [List.all_eq_true];intro m hm;obtain ⟨id,h1,h2,p,h3⟩:=MP xs i rc ps 12 m hm;obtain ⟨_,_,e3,e4,e5⟩:=G9 h3;unfold jf;have hv0:iK jm jm=true:=(vM _ _).2 rfl;cases hc:m.akb <;> cases hd:m.eG
 · rw [e5 hd,hv0];simp
 · simp [(e4 hd).1]
 · rw [e5 hd,hv0];simp [(e3 hc).1]
 have:=e3 hc;have:=e4 hd;omega
theorem ahp (x:ay) (h:x=iC):jy x iC=true:=by subst h;decide
theorem UA (xs:List fJ) (i:Nat) (x:fJ):(iL xs i x).name = []∨(iL xs i x).name=lN i:=by
 unfold iL;simp only
 repeat' split
 all_goals first | exact .inl rfl | exact .inr rfl
theorem ajM (i:Nat) (h:i < 5):nameB (lN i)=true:=by
 have:∀ i:Fin 5,nameB (lN i.val)=true:=by decide
 exact this ⟨i,h⟩
theorem ahq (i j:Nat) (hi:i < 5) (hj:j < 5) (h:lN i=lN j):i=j:=by
 have:∀ i j:Fin 5,lN i.val=lN j.val→i.val=j.val:=by decide
 exact this ⟨i,hi⟩ ⟨j,hj⟩ h
theorem ahr (x:fJ):wu ((qK x).map fun a => (a,tN 115 a))=true:=by
 unfold wu nP;have h1:=zC x;have hq:∀ r ∈ (qK x).map (fun a => (a,tN 115 a)),(1≤r.1∧r.1≤12)∧r.2=tN 115 r.1∧xH none r.1=true:=fun r hr => by
  obtain ⟨a,ha,rfl⟩:=List.mem_map.1 hr;have:=Fv x a ha;exact ⟨by dsimp only;omega,rfl,rfl⟩
 have hp:((qK x).map (fun a => (a,tN 115 a))).Pairwise (fun a b => a.1 < b.1):=by rw [List.pairwise_map];exact afp x
 rw [Ti 115 (.inr rfl) _ none [] hq hp (fun _ _ h => by simp at h)];simp;omega
theorem zEq {p:Prop} (h:p:=by
 refine ⟨by simp,?_,hz _ (by simp [gZ,iM,iC])⟩;simp [rD];omega):p:=h
theorem ac5 (xs:List fJ) (i:Nat) (hi:i < xs.length) (h5:xs.length≤5):dY (iL xs i xs[i])=true:=by
 have hnm:=ajM i (by omega);have hp1:=Uz xs i true xs[i].parts;have hp2:=Uz xs i false xs[i].parts;have h2:=Xu xs i xs[i];have hk:=vX xs[i];have hn:ql (ai5 xs[i] : Nat)=true→(if ql (ai5 xs[i]) then lN i else [])=lN i:=fun h => by rw [if_pos h]
 revert h2
 unfold dY iL;simp only;generalize hkk:ai5 xs[i]=k at *;intro h2;have hz:∀ x:ay,gZ x=iC→jy (gZ x) iC=true:=fun x h => ahp _ h;by_cases k2:k=2
 ·
  rw [if_pos k2] at h2 ⊢;have:=h2 rfl;rw [Bool.and_eq_true,Bool.and_eq_true];refine ⟨by simp,?_,hz _ (by simp [gZ,iM,iC])⟩;simp only [rD];simp at this ⊢;omega
 rw [if_neg k2];clear h2;by_cases k3:k=3
 ·
  rw [if_pos k3,Bool.and_eq_true,Bool.and_eq_true];exact zEq
 rw [if_neg k3];by_cases k4:k=4
 ·
  rw [if_pos k4,hn (by rw [k4];rfl),Bool.and_eq_true,Bool.and_eq_true];refine ⟨by simp,?_,hz _ (by simp [gZ,iM,iC])⟩;simp [rD,hnm,ahr]
 rw [if_neg k4];by_cases k5:k=5
 ·
  rw [if_pos k5,hn (by rw [k5];rfl),Bool.and_eq_true,Bool.and_eq_true];refine ⟨by simp,?_,hz _ (by simp [gZ,iM,iC])⟩;simp [rD,hnm,iQ,hp1.1];simpa using hp1.2
 rw [if_neg k5];by_cases k6:k=6
 ·
  rw [if_pos k6,hn (by rw [k6];rfl)];by_cases he:(oH xs i false xs[i].parts).isEmpty=true
  ·
   rw [if_pos he,Bool.and_eq_true,Bool.and_eq_true];refine ⟨by simp,?_,hz _ (by simp [gZ,iM,iC])⟩;simp [rD,hnm,iQ,iM,nP,nO]
  rw [if_neg he,Bool.and_eq_true,Bool.and_eq_true];refine ⟨by simp,?_,hz _ (by simp [gZ,iM,iC])⟩;have hpos:0 < (oH xs i false xs[i].parts).length:=by
   cases hq:oH xs i false xs[i].parts with
   | nil => rw [hq] at he;simp at he
   | cons _ _ => simp
  simp [rD,hnm,iQ,hp2.1,hpos];simpa using hp2.2
 rw [if_neg k6];by_cases k7:k=7
 ·
  rw [if_pos k7,Bool.and_eq_true,Bool.and_eq_true];exact zEq
 rw [if_neg k7];by_cases k8:k=8
 ·
  rw [if_pos k8];cases vw xs xs[i].b with
  | none =>
   simp only;rw [Bool.and_eq_true,Bool.and_eq_true];exact zEq
  | some j =>
   simp only;rw [Bool.and_eq_true,Bool.and_eq_true];exact zEq
 rw [if_neg k8];by_cases k9:k=9
 ·
  rw [if_pos k9,Bool.and_eq_true,Bool.and_eq_true];exact ⟨by simp,by simp [rD],hz _ (by simp [gZ,iM,iC])⟩
 rw [if_neg k9,Bool.and_eq_true,Bool.and_eq_true];exact ⟨by simp,by simp [rD],hz _ (by simp [gZ,iM,iC])⟩
theorem ahs {ts:List ay} {i:Nat} {t:Int} (h:Down ts i t):inB ts.length t=true:=by
 obtain ⟨j,rfl,hj,_⟩:=h;unfold inB;simp;exact hj
theorem ac6 (xs:List fJ) (i:Nat) (hi:i < xs.length):(lg (iL xs i xs[i])).all (inB (jw xs).length)=true∧¬ ((iL xs i xs[i]).kind=8∧akK (jw xs) (iL xs i xs[i])=false):=by
 have hm:=MN xs i hi;generalize iL xs i xs[i]=x at *
 constructor
 ·
  rw [List.all_eq_true];intro u hu;unfold lg at hu;rcases List.mem_append.1 hu with h | h
  ·
   obtain ⟨m,hmm,rfl⟩:=List.mem_map.1 h;exact ahs (hm.ah.2 m hmm).2
  rcases List.mem_append.1 h with h | h
  ·
   split at h
   ·
    rename_i h8;rw [List.mem_singleton] at h;subst h;obtain ⟨j,hj,hlt,_⟩:=hm.key h8;unfold inB;rw [hj];simp;exact hlt
   simp at h
  split at h
  ·
   rename_i h7;rw [List.mem_singleton] at h;subst h;obtain ⟨j,hj,hlt⟩:=hm.elem h7;unfold inB;rw [hj];simp;exact hlt
  simp at h
 rintro ⟨h8,hk⟩;obtain ⟨j,hj,hlt,h1,h2⟩:=hm.key h8;unfold akK bM at hk;rw [hj,if_pos (by omega),Int.toNat_natCast,List.getElem?_eq_getElem hlt] at hk;simp at hk;have:=hk h1;omega
theorem UC (ts:List ay):∀ (l:List ay) (S:List (List UInt8)),(∀ x ∈ l,dY x=true∧(lg x).all (inB ts.length)=true∧¬ (x.kind=8∧akK ts x=false))→(∀ x ∈ l,x.name≠[]→x.name ∉ S)→l.Pairwise (fun a b => b.name≠[]→a.name≠b.name)→lU ts l S=0
 | [],S,_,_,_ => by rw [lU]
 | x :: r,S,h,hS,hp => by
  obtain ⟨h1,h2,h3⟩:=h x (by simp);rw [List.pairwise_cons] at hp;rw [Lj ts r x S (by
   rintro (h | ⟨h,h'⟩)
   · rw [h1] at h;cases h
   exact hS x (by simp) h (by simpa using h')) h2 h3]
  exact UC ts r (S ++ [x.name]) (fun y hy => h y (by simp [hy])) (fun y hy hne hm => by
   rcases List.mem_append.1 hm with hm | hm
   · exact hS y (by simp [hy]) hne hm
   rw [List.mem_singleton] at hm;exact hp.1 y hy hne hm.symm) hp.2
theorem ac7 (xs:List fJ) (h5:xs.length≤5):fF (jw xs)=0:=by
 unfold fF;rw [if_neg (by rw [Bo];omega)];refine UC _ _ _ (fun x hx => ?_) (fun _ _ _ h => by simp at h) ?_
 ·
  obtain ⟨i,hi,rfl⟩:=List.mem_iff_getElem.1 hx;rw [Bo] at hi;rw [FW xs i hi];exact ⟨ac5 xs i hi h5,ac6 xs i hi⟩
 rw [List.pairwise_iff_getElem];intro i j hi hj hij hne he;rw [Bo] at hi hj;rw [FW xs i hi,FW xs j hj] at he;rw [FW xs j hj] at hne;rcases UA xs j xs[j] with h | h
 · exact hne h
 rcases UA xs i xs[i] with h' | h'
 · rw [h',h] at he;cases he
 rw [h',h] at he;have:=ahq i j (by omega) (by omega) he;omega
theorem auS (xs:List fJ):Sizes (jw xs):=by
 intro x hx;obtain ⟨i,hi,rfl⟩:=List.mem_iff_getElem.1 hx;rw [Bo] at hi;rw [FW xs i hi];have h:=MN xs i hi;exact ⟨by have:=h.syms.1;omega,by have:=h.ah.1;omega⟩
theorem aAA (xs:List fJ) (i:Nat) (x:fJ):I64 (iL xs i x).low∧I64 (iL xs i x).high:=by
 have h0:I64 0∧I64 0:=⟨by unfold I64;omega,by unfold I64;omega⟩
 unfold iL;simp only;split
 · exact ⟨by unfold I64 vY;dsimp only;omega,by unfold I64 tX vY;dsimp only;omega⟩
 repeat' split
 all_goals exact h0
theorem axk (xs:List fJ):akg (jw xs):=by
 intro x hx;obtain ⟨i,hi,rfl⟩:=List.mem_iff_getElem.1 hx;rw [Bo] at hi;rw [FW xs i hi];exact aAA xs i xs[i]
theorem axl (xs:List fJ):acM (jw xs):=by
 intro x hx m hm hd;obtain ⟨i,hi,rfl⟩:=List.mem_iff_getElem.1 hx;rw [Bo] at hi;rw [FW xs i hi] at hm;exact ac4 xs i hi m hm hd
theorem awo (xs:List fJ) (t code:Nat) (d:Val) (h:aT xs t code=(d,true)):atV d:=by
 unfold aT at h;split at h
 · simp at h
 next x hx =>
 generalize hk:(if ai5 x=8∧vw xs 0=none then 7 else ai5 x)=k at h;simp only at h;by_cases h5:k=5∨k=6
 · rw [if_pos h5] at h;simp at h
 rw [if_neg h5] at h;have h1:=(Prod.mk.inj h).1;rw [← h1];refine ⟨rfl,rfl,rfl,fun e => h5 (.inl ?_)⟩;have e2:(k:Int)=5:=e;omega
theorem awp (xs:List fJ):aqB (jw xs):=by
 intro x hx m hm hd;obtain ⟨i,hi,rfl⟩:=List.mem_iff_getElem.1 hx;rw [Bo] at hi;rw [FW xs i hi] at hm;have hp:∀ rc ps,m ∈ oH xs i rc ps→atV m.dflt:=fun rc ps hm => by
  obtain ⟨id,p,_,_,_,h3⟩:=CW xs i rc ps 12 m hm;obtain ⟨_,_,h6⟩:=AZ xs i hi rc id p m h3;obtain ⟨_,t,code,_,_,h8⟩:=h6 hd;exact awo xs t code _ h8
 unfold iL at hm;simp only at hm
 repeat' split at hm
 all_goals first
  | exact hp _ _ hm
  | (simp [iM] at hm;done)
end Go.Proofs.YtlamhkffnlgofaaGreatDoor

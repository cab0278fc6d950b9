/- Plain: the schema of a draft is valid. Plain: what fingerprints ask of the schema of a draft. Pairs of drafts that come in. What sheaveref18.Roots computes of a pair. What sheaveref18.Error, Equivalent and Wire compute. Plain: the bytes of a valid schema with bare defaults are few. No condition. -/
import Derived.Test.YtlamhkffnlgofaaGreatDoorDraftG
import Derived.Test.YtlamhkffnlgofaaGreatDoorChg
import Derived.Deep.QuietTactic
import Derived.Test.YtlamhkffnlgofaaGreatDoorGrt
import Derived.Test.YtlamhkffnlgofaaGreatDoorHAQ
set_option maxHeartbeats 4000000
set_option maxRecDepth 100000
namespace Go.Proofs.YtlamhkffnlgofaaGreatDoor
open Go.ChangeShapes Go.WideShapes Go.ChangeAt Go.RowKit
theorem akC (c:Nat) (hc:c=109∨c=115) (i:Nat) (h:1≤i∧i≤12):nameB (tN c (i:Int))=true:=by
 rcases hc with rfl | rfl
 ·
  have:∀ i:Fin 13,1≤i.val→nameB (tN 109 (i.val:Int))=true:=by decide
  exact this ⟨i,by omega⟩ h.1
 have:∀ i:Fin 13,1≤i.val→nameB (tN 115 (i.val:Int))=true:=by decide
 exact this ⟨i,by omega⟩ h.1
theorem ajL (c:Nat) (hc:c=109∨c=115) (i j:Nat) (hi:i≤12) (hj:j≤12) (h:tN c (i:Int)=tN c (j:Int)):i=j:=by
 rcases hc with rfl | rfl
 ·
  have:∀ i j:Fin 13,tN 109 (i.val:Int)=tN 109 (j.val:Int)→i.val=j.val:=by decide
  exact this ⟨i,by omega⟩ ⟨j,by omega⟩ h
 have:∀ i j:Fin 13,tN 115 (i.val:Int)=tN 115 (j.val:Int)→i.val=j.val:=by decide
 exact this ⟨i,by omega⟩ ⟨j,by omega⟩ h
theorem Ti (c:Nat) (hc:c=109∨c=115):∀ (l:List Raw) (p:Option Int) (S:List (List UInt8)),(∀ r ∈ l,(1≤r.1∧r.1≤12)∧r.2=tN c r.1∧xH p r.1=true)→l.Pairwise (fun a b => a.1 < b.1)→(∀ r ∈ l,r.2 ∉ S)→nO l p S=true
 | [],p,S,_,_,_ => by rw [nO]
 | r :: l,p,S,h,hp,hS => by
  obtain ⟨⟨h1,h2⟩,h3,h4⟩:=h r (by simp);rw [List.pairwise_cons] at hp;have afo:∀ a:Int,1≤a→((a.toNat:Nat):Int)=a:=fun a h => by omega
  have hok:nameB r.2=true:=by
   rw [h3,← afo r.1 h1];exact akC c hc r.1.toNat (by omega)
  rw [nO,h4,hok,Ti c hc l (some r.1) (S ++ [r.2]) (fun q hq => ?_) hp.2 (fun q hq => ?_)]
  ·
   have hf:mM r.1=true:=by unfold mM;simp;omega
   have hs:S.contains r.2=false:=by
    have:=hS r (by simp);simpa using this
   rw [hf,hs];rfl
  ·
   obtain ⟨a1,a2,_⟩:=h q (by simp [hq]);exact ⟨a1,a2,by have:=hp.1 q hq;simp [xH,this]⟩
  intro hm;rcases List.mem_append.1 hm with hm | hm
  · exact hS q (by simp [hq]) hm
  rw [List.mem_singleton] at hm;obtain ⟨⟨b1',b2'⟩,a2,_⟩:=h q (by simp [hq]);have hlt:=hp.1 q hq;rw [a2,h3,← afo q.1 b1',← afo r.1 h1] at hm;have:=ajL c hc _ _ (by omega) (by omega) hm;omega
theorem Xv (x:fJ):∀ k,(uU x k).Pairwise (· < ·)
 | 0 => List.Pairwise.nil
 | k+1 => by
  rw [uU,List.pairwise_append];refine ⟨Xv x k,by split <;> simp,fun a ha b hb => ?_⟩;have h1:=Xt x k a ha;split at hb
  · rw [List.mem_singleton] at hb;omega
  simp at hb
theorem afp (x:fJ):(qK x).Pairwise (· < ·):=by
 unfold qK;split
 · simp
 exact Xv x 6
theorem MP (xs:List fJ) (i:Nat) (rc:Bool) (ps:List Aw) (k:Nat) (m:Mem) (h:m ∈ lH xs i rc ps k):∃ id:Nat,1≤id∧id≤k∧∃ p,partOf xs i rc id p=some m:=by
 obtain ⟨id,p,h1,h2,_,h3⟩:=CW xs i rc ps k m h;exact ⟨id,h1,h2,p,h3⟩
theorem Yi (xs:List fJ) (t code:Nat) (h:(aT xs t code).2=false):(aT xs t code).1=jm:=by
 revert h
 unfold aT;cases xs[t]? with
 | none => intro _;rfl
 | some x =>
  simp only;generalize (if ai5 x=8∧vw xs 0=none then 7 else ai5 x)=k;by_cases hk:k=5∨k=6
  · rw [if_pos hk];intro _;rfl
  rw [if_neg hk];intro h;cases h
theorem G9 {xs:List fJ} {i:Nat} {rc:Bool} {id:Nat} {p:Aw} {m:Mem} (h:partOf xs i rc id p=some m):m.id=(id:Int)∧m.name=tN 109 (id:Int)∧(m.akb=true→rc=true∧p.2.2 % 4=1)∧(m.eG=true→rc=true∧2≤p.2.2 % 4)∧(m.eG=false→m.dflt=jm):=by
 unfold partOf at h;cases ht:uN xs i p.2.1 with
 | none => rw [ht] at h;simp at h
 | some t =>
  rw [ht] at h;simp only at h;split at h
  ·
   injection h with h;subst h;refine ⟨rfl,rfl,fun hc => ?_,fun hd => ?_,fun hd => ?_⟩
   · simpa using hc
   ·
    dsimp only at hd;by_cases h2:(rc && decide (2≤p.2.2 % 4))=true
    · simpa using h2
    rw [if_neg h2] at hd;cases hd
   dsimp only at hd ⊢;by_cases h2:(rc && decide (2≤p.2.2 % 4))=true
   ·
    rw [if_pos h2] at hd ⊢;exact Yi xs t _ hd
   rw [if_neg h2]
  cases h
theorem Rz (xs:List fJ) (i:Nat) (rc:Bool) (ps:List Aw):∀ k,((lH xs i rc ps k).map bW).Pairwise (fun a b => a.1 < b.1)
 | 0 => List.Pairwise.nil
 | k+1 => by
  rw [lH,List.map_append,List.pairwise_append];refine ⟨Rz xs i rc ps k,?_,fun a ha b hb => ?_⟩
  · unfold tK;cases List.findSome? (partOf xs i rc (k+1)) ps <;> simp
  obtain ⟨m,hm,rfl⟩:=List.mem_map.1 ha;obtain ⟨m2,hm2,rfl⟩:=List.mem_map.1 hb;obtain ⟨id,h1,h2,p,h3⟩:=MP xs i rc ps k m hm;unfold tK at hm2;cases hf:List.findSome? (partOf xs i rc (k+1)) ps with
  | none => rw [hf] at hm2;simp at hm2
  | some q =>
   rw [hf] at hm2;simp only [Option.toList_some,List.mem_singleton] at hm2;subst hm2;obtain ⟨p2,_,h5⟩:=List.exists_of_findSome?_eq_some hf;have e1:=(G9 h3).1;have e2:=(G9 h5).1;show m.id < m2.id;omega
theorem Uz (xs:List fJ) (i:Nat) (rc:Bool) (ps:List Aw):nP ((oH xs i rc ps).map bW)=true∧(oH xs i rc ps).all (jf (!rc))=true:=by
 constructor
 ·
  unfold nP oH;have hl:=CV xs i rc ps 12;rw [Ti 109 (.inl rfl) _ none [] (fun r hr => ?_) (Rz xs i rc ps 12) (fun _ _ h => by simp at h)]
  · simp;omega
  obtain ⟨m,hm,rfl⟩:=List.mem_map.1 hr;obtain ⟨id,h1,h2,p,h3⟩:=MP xs i rc ps 12 m hm;obtain ⟨e1,e2,_⟩:=G9 h3;exact ⟨by show 1≤m.id∧m.id≤12;omega,by show m.name=tN 109 m.id;rw [e2,e1],rfl⟩
 rw [List.all_eq_true];intro m hm;obtain ⟨id,h1,h2,p,h3⟩:=MP xs i rc ps 12 m hm;obtain ⟨_,_,e3,e4,e5⟩:=G9 h3;unfold jf;have hv0:iK jm jm=true:=(vM _ _).2 rfl;cases hc:m.akb <;> cases hd:m.eG
 · rw [e5 hd,hv0];simp
 · simp [(e4 hd).1]
 · rw [e5 hd,hv0];simp [(e3 hc).1]
 have:=e3 hc;have:=e4 hd;omega
theorem ahp (x:ay) (h:x=iC):jy x iC=true:=by subst h;decide
theorem UA (xs:List fJ) (i:Nat) (x:fJ):(iL xs i x).name = []∨(iL xs i x).name=lN i:=by
 unfold iL;simp only
 repeat' split
 all_goals first | exact .inl rfl | exact .inr rfl
theorem ajM (i:Nat) (h:i < 5):nameB (lN i)=true:=by
 have:∀ i:Fin 5,nameB (lN i.val)=true:=by decide
 exact this ⟨i,h⟩
theorem ahq (i j:Nat) (hi:i < 5) (hj:j < 5) (h:lN i=lN j):i=j:=by
 have:∀ i j:Fin 5,lN i.val=lN j.val→i.val=j.val:=by decide
 exact this ⟨i,hi⟩ ⟨j,hj⟩ h
theorem ahr (x:fJ):wu ((qK x).map fun a => (a,tN 115 a))=true:=by
 unfold wu nP;have h1:=zC x;have hq:∀ r ∈ (qK x).map (fun a => (a,tN 115 a)),(1≤r.1∧r.1≤12)∧r.2=tN 115 r.1∧xH none r.1=true:=fun r hr => by
  obtain ⟨a,ha,rfl⟩:=List.mem_map.1 hr;have:=Fv x a ha;exact ⟨by dsimp only;omega,rfl,rfl⟩
 have hp:((qK x).map (fun a => (a,tN 115 a))).Pairwise (fun a b => a.1 < b.1):=by rw [List.pairwise_map];exact afp x
 rw [Ti 115 (.inr rfl) _ none [] hq hp (fun _ _ h => by simp at h)];simp;omega
theorem zEj {p:Prop} (h:p:=by
 refine ⟨by simp,?_,hz _ (by simp [gZ,iM,iC])⟩;simp [rD];omega):p:=h
theorem ac5 (xs:List fJ) (i:Nat) (hi:i < xs.length) (h5:xs.length≤5):dY (iL xs i xs[i])=true:=by
 have hnm:=ajM i (by omega);have hp1:=Uz xs i true xs[i].parts;have hp2:=Uz xs i false xs[i].parts;have h2:=Xu xs i xs[i];have hk:=vX xs[i];have hn:ql (ai5 xs[i] : Nat)=true→(if ql (ai5 xs[i]) then lN i else [])=lN i:=fun h => by rw [if_pos h]
 revert h2
 unfold dY iL;simp only;generalize hkk:ai5 xs[i]=k at *;intro h2;have hz:∀ x:ay,gZ x=iC→jy (gZ x) iC=true:=fun x h => ahp _ h;by_cases k2:k=2
 ·
  rw [if_pos k2] at h2 ⊢;have:=h2 rfl;rw [Bool.and_eq_true,Bool.and_eq_true];refine ⟨by simp,?_,hz _ (by simp [gZ,iM,iC])⟩;simp only [rD];simp at this ⊢;omega
 rw [if_neg k2];clear h2;by_cases k3:k=3
 ·
  rw [if_pos k3,Bool.and_eq_true,Bool.and_eq_true];exact zEj
 rw [if_neg k3];by_cases k4:k=4
 ·
  rw [if_pos k4,hn (by rw [k4];rfl),Bool.and_eq_true,Bool.and_eq_true];refine ⟨by simp,?_,hz _ (by simp [gZ,iM,iC])⟩;simp [rD,hnm,ahr]
 rw [if_neg k4];by_cases k5:k=5
 ·
  rw [if_pos k5,hn (by rw [k5];rfl),Bool.and_eq_true,Bool.and_eq_true];refine ⟨by simp,?_,hz _ (by simp [gZ,iM,iC])⟩;simp [rD,hnm,iQ,hp1.1];simpa using hp1.2
 rw [if_neg k5];by_cases k6:k=6
 ·
  rw [if_pos k6,hn (by rw [k6];rfl)];by_cases he:(oH xs i false xs[i].parts).isEmpty=true
  ·
   rw [if_pos he,Bool.and_eq_true,Bool.and_eq_true];refine ⟨by simp,?_,hz _ (by simp [gZ,iM,iC])⟩;simp [rD,hnm,iQ,iM,nP,nO]
  rw [if_neg he,Bool.and_eq_true,Bool.and_eq_true];refine ⟨by simp,?_,hz _ (by simp [gZ,iM,iC])⟩;have hpos:0 < (oH xs i false xs[i].parts).length:=by
   cases hq:oH xs i false xs[i].parts with
   | nil => rw [hq] at he;simp at he
   | cons _ _ => simp
  simp [rD,hnm,iQ,hp2.1,hpos];simpa using hp2.2
 rw [if_neg k6];by_cases k7:k=7
 ·
  rw [if_pos k7,Bool.and_eq_true,Bool.and_eq_true];exact zEj
 rw [if_neg k7];by_cases k8:k=8
 ·
  rw [if_pos k8];cases vw xs xs[i].b with
  | none =>
   simp only;rw [Bool.and_eq_true,Bool.and_eq_true];exact zEj
  | some j =>
   simp only;rw [Bool.and_eq_true,Bool.and_eq_true];exact zEj
 rw [if_neg k8];by_cases k9:k=9
 ·
  rw [if_pos k9,Bool.and_eq_true,Bool.and_eq_true];exact ⟨by simp,by simp [rD],hz _ (by simp [gZ,iM,iC])⟩
 rw [if_neg k9,Bool.and_eq_true,Bool.and_eq_true];exact ⟨by simp,by simp [rD],hz _ (by simp [gZ,iM,iC])⟩
theorem ahs {ts:List ay} {i:Nat} {t:Int} (h:Down ts i t):inB ts.length t=true:=by
 obtain ⟨j,rfl,hj,_⟩:=h;unfold inB;simp;exact hj
theorem ac6 (xs:List fJ) (i:Nat) (hi:i < xs.length):(lg (iL xs i xs[i])).all (inB (jw xs).length)=true∧¬ ((iL xs i xs[i]).kind=8∧akK (jw xs) (iL xs i xs[i])=false):=by
 have hm:=MN xs i hi;generalize iL xs i xs[i]=x at *
 constructor
 ·
  rw [List.all_eq_true];intro u hu;unfold lg at hu;rcases List.mem_append.1 hu with h | h
  ·
   obtain ⟨m,hmm,rfl⟩:=List.mem_map.1 h;exact ahs (hm.ah.2 m hmm).2
  rcases List.mem_append.1 h with h | h
  ·
   split at h
   ·
    rename_i h8;rw [List.mem_singleton] at h;subst h;obtain ⟨j,hj,hlt,_⟩:=hm.key h8;unfold inB;rw [hj];simp;exact hlt
   simp at h
  split at h
  ·
   rename_i h7;rw [List.mem_singleton] at h;subst h;obtain ⟨j,hj,hlt⟩:=hm.elem h7;unfold inB;rw [hj];simp;exact hlt
  simp at h
 rintro ⟨h8,hk⟩;obtain ⟨j,hj,hlt,h1,h2⟩:=hm.key h8;unfold akK bM at hk;rw [hj,if_pos (by omega),Int.toNat_natCast,List.getElem?_eq_getElem hlt] at hk;simp at hk;have:=hk h1;omega
theorem UC (ts:List ay):∀ (l:List ay) (S:List (List UInt8)),(∀ x ∈ l,dY x=true∧(lg x).all (inB ts.length)=true∧¬ (x.kind=8∧akK ts x=false))→(∀ x ∈ l,x.name≠[]→x.name ∉ S)→l.Pairwise (fun a b => b.name≠[]→a.name≠b.name)→lU ts l S=0
 | [],S,_,_,_ => by rw [lU]
 | x :: r,S,h,hS,hp => by
  obtain ⟨h1,h2,h3⟩:=h x (by simp);rw [List.pairwise_cons] at hp;rw [Lj ts r x S (by
   rintro (h | ⟨h,h'⟩)
   · rw [h1] at h;cases h
   exact hS x (by simp) h (by simpa using h')) h2 h3]
  exact UC ts r (S ++ [x.name]) (fun y hy => h y (by simp [hy])) (fun y hy hne hm => by
   rcases List.mem_append.1 hm with hm | hm
   · exact hS y (by simp [hy]) hne hm
   rw [List.mem_singleton] at hm;exact hp.1 y hy hne hm.symm) hp.2
theorem ac7 (xs:List fJ) (h5:xs.length≤5):fF (jw xs)=0:=by
 unfold fF;rw [if_neg (by rw [Bo];omega)];refine UC _ _ _ (fun x hx => ?_) (fun _ _ _ h => by simp at h) ?_
 ·
  obtain ⟨i,hi,rfl⟩:=List.mem_iff_getElem.1 hx;rw [Bo] at hi;rw [FW xs i hi];exact ⟨ac5 xs i hi h5,ac6 xs i hi⟩
 rw [List.pairwise_iff_getElem];intro i j hi hj hij hne he;rw [Bo] at hi hj;rw [FW xs i hi,FW xs j hj] at he;rw [FW xs j hj] at hne;rcases UA xs j xs[j] with h | h
 · exact hne h
 rcases UA xs i xs[i] with h' | h'
 · rw [h',h] at he;cases he
 rw [h',h] at he;have:=ahq i j (by omega) (by omega) he;omega
theorem auS (xs:List fJ):Sizes (jw xs):=by
 intro x hx;obtain ⟨i,hi,rfl⟩:=List.mem_iff_getElem.1 hx;rw [Bo] at hi;rw [FW xs i hi];have h:=MN xs i hi;exact ⟨by have:=h.syms.1;omega,by have:=h.ah.1;omega⟩
theorem aAA (xs:List fJ) (i:Nat) (x:fJ):I64 (iL xs i x).low∧I64 (iL xs i x).high:=by
 have h0:I64 0∧I64 0:=⟨by unfold I64;omega,by unfold I64;omega⟩
 unfold iL;simp only;split
 · exact ⟨by unfold I64 vY;dsimp only;omega,by unfold I64 tX vY;dsimp only;omega⟩
 repeat' split
 all_goals exact h0
theorem axk (xs:List fJ):akg (jw xs):=by
 intro x hx;obtain ⟨i,hi,rfl⟩:=List.mem_iff_getElem.1 hx;rw [Bo] at hi;rw [FW xs i hi];exact aAA xs i xs[i]
theorem axl (xs:List fJ):acM (jw xs):=by
 intro x hx m hm hd;obtain ⟨i,hi,rfl⟩:=List.mem_iff_getElem.1 hx;rw [Bo] at hi;rw [FW xs i hi] at hm;exact ac4 xs i hi m hm hd
theorem awo (xs:List fJ) (t code:Nat) (d:Val) (h:aT xs t code=(d,true)):atV d:=by
 unfold aT at h;split at h
 · simp at h
 next x hx =>
 generalize hk:(if ai5 x=8∧vw xs 0=none then 7 else ai5 x)=k at h;simp only at h;by_cases h5:k=5∨k=6
 · rw [if_pos h5] at h;simp at h
 rw [if_neg h5] at h;have h1:=(Prod.mk.inj h).1;rw [← h1];refine ⟨rfl,rfl,rfl,fun e => h5 (.inl ?_)⟩;have e2:(k:Int)=5:=e;omega
theorem awp (xs:List fJ):aqB (jw xs):=by
 intro x hx m hm hd;obtain ⟨i,hi,rfl⟩:=List.mem_iff_getElem.1 hx;rw [Bo] at hi;rw [FW xs i hi] at hm;have hp:∀ rc ps,m ∈ oH xs i rc ps→atV m.dflt:=fun rc ps hm => by
  obtain ⟨id,p,_,_,_,h3⟩:=CW xs i rc ps 12 m hm;obtain ⟨_,_,h6⟩:=AZ xs i hi rc id p m h3;obtain ⟨_,t,code,_,_,h8⟩:=h6 hd;exact awo xs t code _ h8
 unfold iL at hm;simp only at hm
 repeat' split at hm
 all_goals first
  | exact hp _ _ hm
  | (simp [iM] at hm;done)
end Go.Proofs.YtlamhkffnlgofaaGreatDoor
namespace Go.Proofs.YtlamhkffnlgofaaGreatDoor
open Go.ChangeShapes Go.WideShapes Go.ChangeAt Go.RowKit Go.Joins
section
variable {H:Type} {enc:TypeId × Value→H} {w:World} {base:Nat} {spare:Nat→Bool} {held:Bool}
theorem ao1 (N:Nat) (cs:List Value) (D:DataW H) (Q:List MemPlace) (hl:cs.length=4)
  (h:DataW.trod enc Tryz.prog w base spare held N 147 cs=some (D,Q)):∃ x:Chg,cs=ahO x∧ahX x:=by
 obtain ⟨xs,n,rfl,hx,_,hxl,hg⟩:=DataW.trod_struct Tryz.underlying147 h;obtain ⟨c0,c1,c2,c3,rfl⟩ : ∃ a b c d,cs = [a,b,c,d]:=by
  match cs,hl with
  | [a,b,c,d],_ => exact ⟨a,b,c,d,rfl⟩
 match xs,hxl with
 | [y0,y1,y2,y3],_ =>
  have k0:Tryz.prog.cellsOf 5=1:=by kernel_rfl
  have h0:DataW.trod enc Tryz.prog w base spare held n 5 (([c0,c1,c2,c3].drop 0).take (Tryz.prog.cellsOf 5))=some y0:=hg 0 _ rfl;have h1:DataW.trod enc Tryz.prog w base spare held n 5 (([c0,c1,c2,c3].drop 1).take (Tryz.prog.cellsOf 5))=some y1:=hg 1 _ rfl;have h2:DataW.trod enc Tryz.prog w base spare held n 5 (([c0,c1,c2,c3].drop 2).take (Tryz.prog.cellsOf 5))=some y2:=hg 2 _ rfl;have h3:DataW.trod enc Tryz.prog w base spare held n 5 (([c0,c1,c2,c3].drop 3).take (Tryz.prog.cellsOf 5))=some y3:=hg 3 _ rfl;rw [k0] at h0 h1 h2 h3;obtain ⟨n0,e0,_,w0⟩:=DataW.trod_int Tryz.underlying5 h0;obtain ⟨n1,e1,_,w1⟩:=DataW.trod_int Tryz.underlying5 h1;obtain ⟨n2,e2,_,w2⟩:=DataW.trod_int Tryz.underlying5 h2;obtain ⟨n3,e3,_,w3⟩:=DataW.trod_int Tryz.underlying5 h3;obtain ⟨m0,rfl,b0⟩:=CS w0;obtain ⟨m1,rfl,b1⟩:=CS w1;obtain ⟨m2,rfl,b2⟩:=CS w2;obtain ⟨m3,rfl,b3⟩:=CS w3;simp only [List.drop,List.take,List.cons.injEq,and_true] at e0 e1 e2 e3;subst e0 e1 e2 e3;exact ⟨(m0,m1,m2,m3),rfl,b0,b1,b2,b3⟩
theorem adu (N:Nat) (cs:List Value) (D:DataW H) (Q:List MemPlace) (hl:cs.length=1)
  (h:DataW.trod enc Tryz.prog w base spare held N 49 cs=some (D,Q)) (hs:Sz 49 D):∃ (xs:List fJ) (vn:Value),cs = [vn]∧xs.length≤4398046510976∧jR w w.heap.size vn xs:=by
 obtain ⟨xs,n,rfl,hx,_,hxl,hg⟩:=DataW.trod_struct Tryz.underlying49 h
 match xs,hxl with
 | [y0],_ =>
  injection hx with hx1 hx2;have h0:DataW.trod enc Tryz.prog w base spare held n 47 ((cs.drop 0).take (Tryz.prog.cellsOf 47))=some y0:=hg 0 _ rfl;have k0:Tryz.prog.cellsOf 47=1:=by kernel_rfl
  subst hx1;have sz0:=Sz.field hs Tryz.underlying49 (i:=0) rfl rfl;obtain ⟨vn,ns,e,l,r⟩:=ahi h0 sz0;refine ⟨ns,vn,?_,l,r⟩;rw [k0,List.drop_zero,List.take_of_length_le (by omega)] at e;exact e
end
theorem open_pair {H:Type} {enc:TypeId × Value→H} {W:World} {base0:Nat} {v:Value} {d:DataW H} {p:List MemPlace} (hv:Value.okWide Tryz.prog W .any base0 52 v) (h:DataW.Trod enc Tryz.prog W 0 (fun _ => true) true 52 v d p) (hs:Sz 52 d) :
  ∃ (xs:List fJ) (vn:Value) (l:List Chg) (vl:Value) (t q:Nat),v = .agg #[vn,vl,.int .u8 t,.int .u8 q]∧t < 256∧q < 256∧xs.length≤4398046510976∧l.length≤140737488351232∧jR W W.heap.size vn xs∧agN W W.heap.size vl l:=by
 obtain ⟨cs,rfl,hsz⟩:=okWide_struct Tryz.underlying52 hv;obtain ⟨fuel,hf⟩:=h;have hC:Tryz.prog.cellsOf 52=4:=by kernel_rfl
 have hl:cs.toList.length=4:=by simpa [hC] using hsz
 obtain ⟨xs,n,rfl,hx,_,hxl,hg⟩:=DataW.trod_struct Tryz.underlying52 hf;have hce:(Value.agg cs).cells.toList=cs.toList:=rfl;rw [hce] at hg;obtain ⟨c0,c1,c2,c3,hcs⟩ : ∃ a b c d,cs.toList = [a,b,c,d]:=by
  match hcl:cs.toList,hl with
  | [a,b,c,d],_ => exact ⟨a,b,c,d,rfl⟩
 rw [hcs] at hg
 match xs,hxl with
 | [y0,y1,y2,y3],_ =>
  injection hx with hx1 hx2;have k0:Tryz.prog.cellsOf 49=1:=by kernel_rfl
  have k1:Tryz.prog.cellsOf 50=1:=by kernel_rfl
  have k2:Tryz.prog.cellsOf 5=1:=by kernel_rfl
  have h0:DataW.trod enc Tryz.prog W 0 (fun _ => true) true n 49 (([c0,c1,c2,c3].drop 0).take (Tryz.prog.cellsOf 49))=some y0:=hg 0 _ rfl;have h1:DataW.trod enc Tryz.prog W 0 (fun _ => true) true n 50 (([c0,c1,c2,c3].drop 1).take (Tryz.prog.cellsOf 50))=some y1:=hg 1 _ rfl;have h2:DataW.trod enc Tryz.prog W 0 (fun _ => true) true n 5 (([c0,c1,c2,c3].drop 2).take (Tryz.prog.cellsOf 5))=some y2:=hg 2 _ rfl;have h3:DataW.trod enc Tryz.prog W 0 (fun _ => true) true n 5 (([c0,c1,c2,c3].drop 3).take (Tryz.prog.cellsOf 5))=some y3:=hg 3 _ rfl;rw [k0] at h0;rw [k1] at h1;rw [k2] at h2 h3;subst hx1;have sz0:=Sz.field hs Tryz.underlying52 (i:=0) rfl rfl;have sz1:=Sz.field hs Tryz.underlying52 (i:=1) rfl rfl;obtain ⟨ns,vn,e0,l0,r0⟩:=adu n _ y0.1 y0.2 (by simp) h0 sz0;obtain ⟨vl,l,el,ll,gl,rl⟩:=open_list (f:=ahO) Tryz.underlying50 (size:=4) (by kernel_rfl) (by decide) af0 h1 sz1 (good:=ahX) (fun N cs' D Q hl ht _ => ao1 N cs' D Q hl ht);have hbb:Tryz.prog.bytesOf 147=4:=by kernel_rfl
  rw [hbb] at ll;obtain ⟨n2,e2,_,w2⟩:=DataW.trod_int Tryz.underlying5 h2;obtain ⟨m2,rfl,xb2⟩:=CS w2;obtain ⟨n3,e3,_,w3⟩:=DataW.trod_int Tryz.underlying5 h3;obtain ⟨m3,rfl,xb3⟩:=CS w3;simp only [List.drop,List.take,List.cons.injEq,and_true] at e0 e2 e3 el;subst e0 e2 e3 el;refine ⟨ns,_,l,_,m2,m3,?_,xb2,xb3,l0,by omega,r0,⟨rl,gl⟩⟩
  congr 1
  apply Array.toList_inj.1
  exact hcs
end Go.Proofs.YtlamhkffnlgofaaGreatDoor
namespace Go.Proofs.YtlamhkffnlgofaaGreatDoor
open Go.ChangeShapes Go.WideShapes Go.ChangeAt Go.RowKit
theorem awN {w:World} {B:Nat} {v:Value} {xs:List fJ} (h:jR w B v xs):∀ x ∈ xs,x.parts.length≤46912496117077:=by
 obtain ⟨c,_,h2⟩:=h;intro x hx;obtain ⟨i,hi,rfl⟩:=List.mem_iff_getElem.1 hx;obtain ⟨vp,_,h3⟩:=h2 i hi;exact h3.len
theorem auk {w W:World} {v:Value} {cs:List Chg} (h:agN w w.heap.size v cs) (hb:Below w.heap.size w W):agN W W.heap.size v cs:=⟨(h.1.below hb).mono hb.size,h.2⟩
theorem Kept.ava {w:World} {L B:Nat} {v:Value} {xs:List ay} (h:Kept (fun w => aU w B v xs) w L B):aU w w.heap.size v xs:=h.now.keep (fun _ _ => rfl) h.le
def auT (xs:List fJ) (p q:Nat) (w:World) (e:Ending) (w':World):Prop :=
 Below w.heap.size w w'∧(e = .returned (.tuple #[.agg #[.slice none 0 0,.int .i64 0],.agg #[.slice none 0 0,.int .i64 0],.bool false]) ∨
  ∃ ys A c B d,ys.length=xs.length∧0 < xs.length∧xs.length≤5∧e = .returned (.tuple #[.agg #[.slice A (jw xs).length c,.int .i64 (p % xs.length:Nat)],.agg #[.slice B (jw ys).length d,.int .i64 (q % xs.length:Nat)],.bool true]) ∧
   aU w' w'.heap.size (.slice A (jw xs).length c) (jw xs)∧aU w' w'.heap.size (.slice B (jw ys).length d) (jw ys))
theorem zAs {p:Prop} (h:p:=by exact ⟨S1.out.cell 0,⟨S2.out.cell 0,⟨P.out.cell 2,P.out.cell 3⟩⟩⟩):p:=h
theorem azw (xs:List fJ) (cs:List Chg) (vn vl:Value) (p q:Nat) (hpb:p < 256) (JY:q < 256) (w:World) (hnx:xs.length≤4398046510976) (hcs:cs.length≤140737488351232) (hr:jR w w.heap.size vn xs) (hl:agN w w.heap.size vl cs) :
  Calls Tryz.prog 25 #[.agg #[vn,vl,.int .u8 p,.int .u8 q]] w (auT xs p q w):=by
 obtain ⟨A,c,rfl,hcap⟩:=hr.form;obtain ⟨A3,c3,rfl,atm⟩:=hl.1.form;have hpp:=awN hr;have HCA:=hiQ (fun W h1 h2 => aiO xs cs (.slice A xs.length c) (.slice A3 cs.length c3) W hnx hpp hcs h1 h2);have HR:=hiQ hr;have HC:=hiQ hl;clear hr hl hpp hcs;cases hok:Vu xs with
 | false =>
  have HN6:=hiQ (fun W h => akk xs (.slice A xs.length c) W hok h);have HN7:=hiQ (fun (ys:List fJ) (hl:ys.length=xs.length) v W h => akk ys v W (by unfold Vu at hok ⊢; rw [hl];exact hok) h);clear hok;go_enter Tryz.func25,Tryz.ntmps25
  go_upto_region 1 with fail;refine Fj (fun wd2 hb1 P Z1 Z2 => ?_);have hw3:=hb1;clear hb1;have afM:=P.out.e0;go_wp2_with fail;clear afM;((with_reducible refine (HN6.out _ (HR.out.on hw3)).mono ?_);rintro e wd4 ⟨rfl,hb5⟩);obtain ⟨P,Z1,Z2⟩:=b3 P Z1 Z2 hb5;replace hw3:=dT hw3 hb5;clear hb5;go_upto_region 2 with fail;refine aO (fun jC hb6 S1 => ?_);have kH:=P.out.here;have oC:=Z1.out.here;have sH:=Z2.out.here;have hl12:=hw3.size;obtain ⟨P,Z1,Z2⟩:=b3 P Z1 Z2 hb6;replace hw3:=dT hw3 hb6;clear hb6;generalize wd4.heap.size=g8 at *;have afM:=P.out.e0;have XD:=P.out.e1;go_wp2_with fail;clear afM XD;((with_reducible refine (HCA.out _ (HR.out.on hw3) (auk HC.out hw3)).mono ?_);rintro e dQ ⟨v2,ys,rfl,hyl,hyr,jh⟩);obtain ⟨P,Z1,Z2,S1⟩:=b4 P Z1 Z2 S1 jh;replace hw3:=dT hw3 jh;clear jh;go_wp2_with fail;((with_reducible refine (HN7.out ys hyl _ _ hyr).mono ?_);rintro e jA ⟨rfl,hb16⟩);obtain ⟨P,Z1,Z2,S1⟩:=b4 P Z1 Z2 S1 hb16;replace hw3:=dT hw3 hb16;clear hb16 hyr;go_upto_region 3 with fail;refine aO (fun yx mG S2 => ?_);have BQ:=P.out.here;have Dv:=Z1.out.here;have Dw:=Z2.out.here;have Es:=S1.out.here;have sJ:=hw3.size;obtain ⟨P,Z1,Z2,S1⟩:=b4 P Z1 Z2 S1 mG;replace hw3:=dT hw3 mG;clear mG;generalize jA.heap.size=g19 at *;go_wp2_with (first | (refine sR Z1.out ?_) | (refine sR (oO (cs':=#[.slice none 0 0,.int .i64 0]) Z2.out (show w.heap.size+1+1≠w.heap.size+1 by omega)) ?_))
  generalize CZ:yx.setRow _ _=pF;obtain ⟨P,Z2,S1,S2⟩:=f4 P Z2 S1 S2 (eR CZ);replace Z1:=dV Z1 CZ;replace hw3:=tr hw3 CZ;clear CZ;generalize rX:pF.setRow _ _=Bd;obtain ⟨P,Z1,S1,S2⟩:=f4 P Z1 S1 S2 (eR rX);replace Z2:=dV Z2 rX;replace hw3:=tr hw3 rX;clear rX;exact bodyPost_ret (v:=.tuple #[.agg #[.slice none 0 0,.int .i64 0],.agg #[.slice none 0 0,.int .i64 0],.bool false]) (by simp [results,Tryz.results25,go_sem,Z1.out.c2,Z2.out.c2]) rfl (⟨hw3,.inl rfl⟩)
 | true =>
  have hok2:0 < xs.length∧xs.length≤5:=by unfold Vu at hok;simp at hok;omega
  have HO6:=hiQ (fun W h => aiq xs (.slice A xs.length c) W hok2 h);have HO7:=hiQ (fun (ys:List fJ) (hl:ys.length=xs.length) v W h => aiq ys v W (by rw [hl];exact hok2) h);unfold abB at HO6 HO7;clear hok;go_enter Tryz.func25,Tryz.ntmps25
  go_upto_region 1 with fail;refine Fj (fun wd2 hb1 P Z1 Z2 => ?_);have hw3:=hb1;clear hb1;have afM:=P.out.e0;have hz1:=P.out.here;have hz2:=Z1.out.here;have hz3:=Z2.out.here;obtain ⟨L1,hL1⟩ : ∃ L,L=wd2.heap.size:=⟨_,rfl⟩
  have hL2:w.heap.size+2 < L1:=by omega
  clear hz1 hz2 hz3;go_wp2_with fail;clear afM;((with_reducible refine (HO6.out _ (HR.out.on hw3)).mono ?_);rintro e wd4 ⟨v1,rfl,hur,hb5⟩);obtain ⟨P,Z1,Z2⟩:=b3 P Z1 Z2 hb5;replace hw3:=dT hw3 hb5;clear hb5;rw [← hL1] at hur;clear hL1;have HTL:Hid ((jw xs).length=xs.length):=hiQ (Bo xs);have hfin:∀ (w':World) (ys:List fJ) (us:List ay) (A1 A2:Option Addr) (c1 c2:Nat),us=jw ys→ys.length=xs.length→Below w.heap.size w w'→aU w' w'.heap.size (.slice A1 (jw xs).length c1) (jw xs)→aU w' w'.heap.size (.slice A2 us.length c2) us →
    auT xs p q w (.returned (.tuple #[.agg #[.slice A1 (jw xs).length c1,.int .i64 (p % (jw xs).length:Nat)],.agg #[.slice A2 us.length c2,.int .i64 (q % us.length:Nat)],.bool true])) w':=by
   intro w' ys us A1 A2 c1 c2 e1 h1 h2 h3 h4;subst e1;refine ⟨h2,.inr ⟨ys,A1,c1,A2,c2,h1,hok2.1,hok2.2,?_,h3,h4⟩⟩;rw [Bo,Bo,h1]
  have HFI:=hiQ hfin;clear hfin HO6;generalize jw xs=ts at *;have ajc:=hur.now;obtain ⟨A1,c1,rfl,_⟩:=ajc.form;obtain ⟨B1,hB1⟩ : ∃ B,B=wd4.heap.size:=⟨_,rfl⟩
  rw [← hB1] at hur;have T1:=hiQ (hur);clear hur ajc hB1;go_upto_region 2 with fail;refine aO (fun jC hb6 S1 => ?_);have kH:=P.out.here;have oC:=Z1.out.here;have sH:=Z2.out.here;have hl12:=T1.out.le;have alh:=hw3.size;obtain ⟨P,Z1,Z2,T1⟩:=b4 P Z1 Z2 T1 hb6;replace hw3:=dT hw3 hb6;clear hb6;generalize wd4.heap.size=g8 at *;have afM:=P.out.e0;have XD:=P.out.e1;go_wp2_with fail;clear afM XD;((with_reducible refine (HCA.out _ (HR.out.on hw3) (auk HC.out hw3)).mono ?_);rintro e oZ ⟨v2,ys,rfl,hyl,hyr,o7⟩);obtain ⟨P,Z1,Z2,S1,T1⟩:=b5 P Z1 Z2 S1 T1 o7;replace hw3:=dT hw3 o7;clear o7;obtain ⟨L3,hL3⟩ : ∃ L,L=oZ.heap.size:=⟨_,rfl⟩
  have hL4:w.heap.size+2 < L3:=by have:=Z2.out.here;omega
  go_wp2_with fail;((with_reducible refine (HO7.out ys hyl _ _ hyr).mono ?_);rintro e yN ⟨v3,rfl,hur,mG⟩);obtain ⟨P,Z1,Z2,S1,T1⟩:=b5 P Z1 Z2 S1 T1 mG;replace hw3:=dT hw3 mG;clear mG;rw [← hL3] at hur;clear hL3;have Wn:(jw ys).length=ts.length:=by rw [Bo,hyl,HTL.out]
  have hys:∃ us,us=jw ys:=⟨_,rfl⟩
  obtain ⟨us,hus⟩:=hys;rw [← hus] at hur Wn;have ajc:=hur.now;obtain ⟨A2,c2,rfl,_⟩:=ajc.form;obtain ⟨B3,hB3⟩ : ∃ B,B=yN.heap.size:=⟨_,rfl⟩
  rw [← hB3] at hur;have T2:=hiQ (hur);clear hB3;have HFJ:=hiQ (fun w' A1 A2 c1 c2 => HFI.out w' ys us A1 A2 c1 c2 hus hyl);clear hur ajc hyr hus hyl HFI HO7;have HUL:=hiQ Wn;clear Wn;go_upto_region 3 with fail;refine aO (fun fZ nU S2 => ?_);have Dv:=P.out.here;have Dw:=Z1.out.here;have Es:=Z2.out.here;have sJ:=S1.out.here;have uP:=T1.out.le;have sN:=T2.out.le;have uQ:=hw3.size;obtain ⟨P,Z1,Z2,S1,T1,T2⟩:=b6 P Z1 Z2 S1 T1 T2 nU;replace hw3:=dT hw3 nU;clear nU;generalize yN.heap.size=g20 at *;by_cases h4:4 < cs.length
  ·
   have h4i:(4:Int) < cs.length:=by omega
   have XD:=P.out.e1;go_wp2_with (first | (refine sR Z1.out ?_) | (refine sR (oO (cs':=#[.slice none 0 0,.int .i64 0]) Z2.out (show w.heap.size+1+1≠w.heap.size+1 by omega)) ?_))
   clear XD;generalize abp:fZ.setRow _ _=Eu;obtain ⟨P,Z2,S1,S2,T1,T2⟩:=f6 P Z2 S1 S2 T1 T2 (eR abp);replace Z1:=dV Z1 abp;replace hw3:=tr hw3 abp;clear abp;generalize aaP:Eu.setRow _ _=ank;obtain ⟨P,Z1,S1,S2,T1,T2⟩:=f6 P Z1 S1 S2 T1 T2 (eR aaP);replace Z2:=dV Z2 aaP;replace hw3:=tr hw3 aaP;clear aaP;exact bodyPost_ret (v:=.tuple #[.agg #[.slice none 0 0,.int .i64 0],.agg #[.slice none 0 0,.int .i64 0],.bool false]) (by simp [results,Tryz.results25,go_sem,Z1.out.c2,Z2.out.c2]) rfl (⟨hw3,.inl rfl⟩)
  have h4i:¬ (4:Int) < cs.length:=by omega
  have XD:=P.out.e1;have hu0:¬ (ts = []):=by intro e;have:=HTL.out;rw [e] at this;simp at this;omega
  have hu1:¬ (us = []):=by intro e;have:=HUL.out;have:=HTL.out;rw [e] at *;simp at *;omega
  have aHb:0 < ts.length:=by have:=HTL.out;omega
  have aHc:0 < us.length:=by have:=HUL.out;have:=HTL.out;omega
  have hp1:IntKind.i64.wrap (p:Int)=p:=IntWalk.i64_in _ (by omega);have hq1:IntKind.i64.wrap (q:Int)=q:=IntWalk.i64_in _ (by omega);have hp0:(p:Int).tmod ts.length=((p % ts.length:Nat):Int):=by rw [Int.tmod_eq_emod_of_nonneg (by omega)];push_cast;rfl
  have hq0:(q:Int).tmod us.length=((q % us.length:Nat):Int):=by rw [Int.tmod_eq_emod_of_nonneg (by omega)];push_cast;rfl
  go_upto_region 5 with fail;clear XD;have aBm:=S1.out.e0;have acZ:=S2.out.e0;have afN:=P.out.e2;have axZ:=P.out.e3;refine wp_region_held_drew (S:=(fun w' => w'.cell? ⟨g8,0,none⟩=some (.slice A1 ts.length c1)∧w'.cell? ⟨g20,0,none⟩=some (.slice A2 us.length c2)∧w'.cell? ⟨w.heap.size,2,none⟩=some (.int .u8 p)∧w'.cell? ⟨w.heap.size,3,none⟩=some (.int .u8 q))) (by kernel_rfl) ⟨aBm,acZ,afN,axZ⟩ (fun hHeld => ?_);clear aBm acZ afN axZ;have Kr:Below fZ.heap.size fZ (fZ.drew):=(Below.refl _ _).drew;obtain ⟨P,Z1,Z2,S1,S2,T1,T2⟩:=b7 P Z1 Z2 S1 S2 T1 T2 Kr;replace hw3:=dT hw3 Kr;clear Kr;generalize fZ.drew=BR at *;refine tk 0 ?_;refine tk 1 ?_;refine tk 2 ?_;refine tk 3 ?_;refine tk 4 ?_;refine tk 5 ?_;refine tk 6 ?_;refine tk 7 ?_;refine tk 8 ?_;refine tk 9 ?_;refine tk 10 ?_;refine tk 11 ?_;refine tk 12 ?_;refine tk 13 ?_;refine tk 14 ?_;refine tk 15 ?_;refine tk 16 ?_;refine tk 17 ?_;refine iE 18 fun K hK => ?_;refine eY (by rfl) 27 _ _ (by rfl) (w.heap.size+1) #[.slice A1 ts.length c1,.int .i64 (p % ts.length:Nat)] (by rfl) (by rfl) 27 _ Z1.out (by kernel_rfl) rfl (by first | assumption | simp [Value.oneCell']) ?_;generalize aaP:BR.setRow _ _=ank;obtain ⟨P,Z2,S1,S2,T1,T2⟩:=f6 P Z2 S1 S2 T1 T2 (eR aaP);replace Z1:=dV Z1 aaP;replace hw3:=tr hw3 aaP;clear aaP;(try clear hHeld);refine hK.out _ _ zAs (fun hHeld => ?_);clear hK K;refine iE 19 fun K hK => ?_;refine eY (by rfl) 27 _ _ (by rfl) (w.heap.size+1+1) #[.slice A2 us.length c2,.int .i64 (q % us.length:Nat)] (by rfl) (by rfl) 27 _ Z2.out (by kernel_rfl) rfl (by first | assumption | simp [Value.oneCell']) ?_
  generalize xU:ank.setRow _ _=zy;obtain ⟨P,Z1,S1,S2,T1,T2⟩:=f6 P Z1 S1 S2 T1 T2 (eR xU);replace Z2:=dV Z2 xU;replace hw3:=tr hw3 xU;clear xU;(try clear hHeld);refine hK.out _ _ zAs (fun hHeld => ?_);clear hK K;refine tk 20 ?_;refine wpAnyH_done (by kernel_rfl) ?_ _;(try clear hHeld);go_wp2_with fail;have hfi:=HFJ.out _ A1 A2 c1 c2 hw3 T1.out.now T2.out.now;exact bodyPost_ret (v:=.tuple #[.agg #[.slice A1 ts.length c1,.int .i64 (p % ts.length:Nat)],.agg #[.slice A2 us.length c2,.int .i64 (q % us.length:Nat)],.bool true]) (by simp [results,Tryz.results25,go_sem,Z1.out.c2,Z2.out.c2]) rfl (hfi)
theorem atY (ts:List ay) (A:Option Addr) (c:Nat) (t:Int) (w:World) (hs:Sizes ts) (ht:aU w w.heap.size (.slice A ts.length c) ts) :
  Calls Tryz.prog 65 #[.agg #[.slice A ts.length c,.int .i64 t]] w (RT w (.int .i64 (oq ts t))) :=
 awK ts A c t w ht (fun W h => aaw ts A c W hs h)
theorem zAt {p:Prop} (h:p:=by exact ⟨X.out.cell 0,⟨X.out.cell 1,⟨Y.out.cell 0,Y.out.cell 1⟩⟩⟩):p:=h
theorem zCj {p:Prop} (h:p:=by
 refine tk 7 ?_;refine tk 8 ?_;refine tks 9 ?_;simp only [aF];refine tks 10 ?_;simp only [aF];refine tks 11 ?_;simp only [aF];refine tks 12 ?_;simp only [aF];refine tks 13 ?_;simp only [aF];refine tks 14 ?_;simp only [aF];refine tks 15 ?_;simp only [aF];refine tks 16 ?_;simp only [aF];refine tks 17 ?_;simp only [aF];refine tks 18 ?_;simp only [aF];refine tks 19 ?_;simp only [aF];refine tks 20 ?_;simp only [aF];refine tks 21 ?_;simp only [aF];refine tks 22 ?_;simp only [aF];refine tk 23 ?_;refine tk 24 ?_;refine wpAnyH_done (by kernel_rfl) ?_ _;(try clear hHeld);go_wp2_with fail;go_ret;exact ⟨au hw.out.symm,hw3⟩):p:=h
theorem ax0 (ts us:List ay) (A A':Option Addr) (c c':Nat) (t t':Int) (w:World) (hs:Sizes ts) (hs':Sizes us) (ht:aU w w.heap.size (.slice A ts.length c) ts) (hu:aU w w.heap.size (.slice A' us.length c') us) :
  Calls Tryz.prog 41 #[.agg #[.slice A ts.length c,.int .i64 t],.agg #[.slice A' us.length c',.int .i64 t'],.bool false] w (RT w (.bool (aot ts t us t'))):=by
 have HT:=hiQ ht;have HU:=hiQ hu;have H1:=hiQ (fun W h => atY ts A c t W hs h);have H2:=hiQ (fun W h => atY us A' c' t' W hs' h);clear ht hu hs hs';by_cases h1:oq ts t=0
 ·
  obtain ⟨hv1,ht0,htl⟩:=aro h1;rw [h1] at H1;by_cases h2:oq us t'=0
  ·
   obtain ⟨hv2,hu0,Wn⟩:=aro h2;rw [h2] at H2;obtain ⟨i,rfl⟩ : ∃ i:Nat,t=(i:Int):=⟨t.toNat,by omega⟩
   obtain ⟨k,rfl⟩ : ∃ k:Nat,t'=(k:Int):=⟨t'.toNat,by omega⟩
   have hw:Hid (aot ts i us k=aoY ts us i k):=by show _=_;unfold aot;rw [if_pos ⟨h1,h2⟩];rfl
   have hil:i < ts.length:=by omega
   have hkl:k < us.length:=by omega
   have HR:=hiQ (fun W h1 h2 => avN ts us A A' c c' W (by have:=(akN hv1).len;omega) (by have:=(akN hv2).len;omega) (akN hv1).ah (akN hv2).ah (akN hv1).inu (akN hv2).inu h1 h2);have hd0:decide ((i:Int) < 0)=false:=by simp
   have hd1:decide (ts.length≤i)=false:=by simpa using hil
   have hd2:decide ((k:Int) < 0)=false:=by simp
   have hd3:decide (us.length≤k)=false:=by simpa using hkl
   clear h1 h2 hv1 hv2 ht0 hu0 htl Wn;go_enter Tryz.func41,Tryz.ntmps41
   go_upto_region 1 with fail;refine jg (fun wd2 hb1 X Y => ?_);have hw3:=hb1;clear hb1;obtain ⟨aK,bJ⟩:=X.out.c2;obtain ⟨kT,kU⟩:=Y.out.c2;refine wp_region_held_drew (S:=(fun w' => w'.cell? ⟨w.heap.size,0,none⟩=some (.slice A ts.length c)∧w'.cell? ⟨w.heap.size,1,none⟩=some (.int .i64 (i))∧w'.cell? ⟨w.heap.size+1,0,none⟩=some (.slice A' us.length c')∧w'.cell? ⟨w.heap.size+1,1,none⟩=some (.int .i64 (k)))) (by kernel_rfl) ⟨aK,bJ,kT,kU⟩ (fun hHeld => ?_);clear aK bJ kT kU;have hb4:Below wd2.heap.size wd2 (wd2.drew):=(Below.refl _ _).drew;obtain ⟨X,Y⟩:=b2 X Y hb4;replace hw3:=dT hw3 hb4;clear hb4;generalize wd2.drew=fG at *;refine tk 0 ?_;refine iE 1 fun K hK => ?_;go_simp;((with_reducible refine (H1.out _ (HT.out.on hw3)).mono ?_);rintro e wL ⟨rfl,hb7⟩);obtain ⟨X,Y⟩:=b2 X Y hb7;replace hw3:=dT hw3 hb7;clear hb7;(try clear hHeld);refine hK.out _ _ zAt (fun hHeld => ?_);clear hK K;refine tk 2 ?_;refine tk 3 ?_;refine tk 4 ?_;refine iE 5 fun K hK => ?_;go_simp;((with_reducible refine (H2.out _ (HU.out.on hw3)).mono ?_);rintro e qP ⟨rfl,zU⟩);obtain ⟨X,Y⟩:=b2 X Y zU;replace hw3:=dT hw3 zU;clear zU;(try clear hHeld);refine hK.out _ _ zAt (fun hHeld => ?_);clear hK K;refine tk 6 ?_;refine tk 7 ?_;refine tk 8 ?_;refine tk 9 ?_;refine tk 10 ?_;refine tk 11 ?_;refine tk 12 ?_;refine tk 13 ?_;refine tk 15 ?_;refine tk 16 ?_;refine tk 19 ?_;refine tk 20 ?_;refine iE 14 fun K hK => ?_;go_simp;((with_reducible refine (HR.out _ (HT.out.on hw3) (HU.out.on hw3)).mono ?_);rintro e kL ⟨rb,cc,M,rfl,htab,hsh,awg,iR⟩)
   obtain ⟨X,Y⟩:=b2 X Y iR;replace hw3:=dT hw3 iR;clear iR;have hiM:i < M.length:=by rw [hsh.1];exact hil
   have hkM:k < M[i].length:=by rw [hsh.2];exact hkl
   have aoi:M.at_ i k=M[i][k]:=by simp [Tab.at_,List.getD,hiM,hkM]
   obtain ⟨u,hrow⟩:=htab.row hiM;obtain ⟨rg,cu,rfl,-,-,-,hbc,-⟩:=hrow.pos hkM;rw [hsh.2 i hiM] at hrow;have hrc:=hrow.cell;rw [← aoi,awg] at hbc;have KC:=hiQ (RX hrc);have KB:=hiQ (RX hbc);clear hrow hrc hbc aoi htab hsh awg hiM hkM;(try clear hHeld);refine hK.out _ _ zAt (fun hHeld => ?_);clear hK K;refine iE 17 fun K hK => ?_;go_simp;(try clear hHeld);refine hK.out _ _ zAt (fun hHeld => ?_);clear hK K;refine iE 18 fun K hK => ?_;have hrc:=KC.out.now;go_simp;clear hrc;(try clear hHeld);refine hK.out _ _ zAt (fun hHeld => ?_);clear hK K;refine iE 21 fun K hK => ?_;go_simp;(try clear hHeld);refine hK.out _ _ zAt (fun hHeld => ?_);clear hK K;refine iE 22 fun K hK => ?_;have hbc:=KB.out.now;go_simp;clear hbc;(try clear hHeld);refine hK.out _ _ zAt (fun hHeld => ?_);clear hK K;refine tk 23 ?_;refine tk 24 ?_;refine wpAnyH_done (by kernel_rfl) ?_ _;(try clear hHeld);go_wp2_with fail;go_ret;exact ⟨au hw.out.symm,hw3⟩
  have hw:Hid (aot ts t us t'=false):=by show _=_;unfold aot;rw [if_neg (fun h => h2 h.2)]
  obtain ⟨r2,hr2⟩ : ∃ r,r=oq us t':=⟨_,rfl⟩
  rw [← hr2] at H2 h2;have t2:(r2 == 0)=false:=by simpa using h2
  clear h1 h2 hr2 hv1 ht0 htl;go_enter Tryz.func41,Tryz.ntmps41
  go_upto_region 1 with fail;refine jg (fun wd2 hb1 X Y => ?_);have hw3:=hb1;clear hb1;obtain ⟨aK,bJ⟩:=X.out.c2;obtain ⟨kT,kU⟩:=Y.out.c2;refine wp_region_held_drew (S:=(fun w' => w'.cell? ⟨w.heap.size,0,none⟩=some (.slice A ts.length c)∧w'.cell? ⟨w.heap.size,1,none⟩=some (.int .i64 (t))∧w'.cell? ⟨w.heap.size+1,0,none⟩=some (.slice A' us.length c')∧w'.cell? ⟨w.heap.size+1,1,none⟩=some (.int .i64 (t')))) (by kernel_rfl) ⟨aK,bJ,kT,kU⟩ (fun hHeld => ?_);clear aK bJ kT kU;have hb4:Below wd2.heap.size wd2 (wd2.drew):=(Below.refl _ _).drew;obtain ⟨X,Y⟩:=b2 X Y hb4;replace hw3:=dT hw3 hb4;clear hb4;generalize wd2.drew=fG at *;refine tk 0 ?_;refine iE 1 fun K hK => ?_;go_simp;((with_reducible refine (H1.out _ (HT.out.on hw3)).mono ?_);rintro e wL ⟨rfl,hb7⟩);obtain ⟨X,Y⟩:=b2 X Y hb7;replace hw3:=dT hw3 hb7;clear hb7;(try clear hHeld);refine hK.out _ _ zAt (fun hHeld => ?_);clear hK K;refine tk 2 ?_;refine tk 3 ?_;refine tk 4 ?_;refine iE 5 fun K hK => ?_;go_simp;((with_reducible refine (H2.out _ (HU.out.on hw3)).mono ?_);rintro e qP ⟨rfl,zU⟩);obtain ⟨X,Y⟩:=b2 X Y zU;replace hw3:=dT hw3 zU;clear zU;(try clear hHeld);refine hK.out _ _ zAt (fun hHeld => ?_);clear hK K;refine tk 6 ?_;exact zCj
 have hw:Hid (aot ts t us t'=false):=by show _=_;unfold aot;rw [if_neg (fun h => h1 h.1)]
 obtain ⟨r1,hr1⟩ : ∃ r,r=oq ts t:=⟨_,rfl⟩
 rw [← hr1] at H1 h1;have t1:(r1 == 0)=false:=by simpa using h1
 clear h1 hr1;go_enter Tryz.func41,Tryz.ntmps41
 go_upto_region 1 with fail;refine jg (fun wd2 hb1 X Y => ?_);have hw3:=hb1;clear hb1;obtain ⟨aK,bJ⟩:=X.out.c2;obtain ⟨kT,kU⟩:=Y.out.c2;refine wp_region_held_drew (S:=(fun w' => w'.cell? ⟨w.heap.size,0,none⟩=some (.slice A ts.length c)∧w'.cell? ⟨w.heap.size,1,none⟩=some (.int .i64 (t))∧w'.cell? ⟨w.heap.size+1,0,none⟩=some (.slice A' us.length c')∧w'.cell? ⟨w.heap.size+1,1,none⟩=some (.int .i64 (t')))) (by kernel_rfl) ⟨aK,bJ,kT,kU⟩ (fun hHeld => ?_);clear aK bJ kT kU;have hb4:Below wd2.heap.size wd2 (wd2.drew):=(Below.refl _ _).drew;obtain ⟨X,Y⟩:=b2 X Y hb4;replace hw3:=dT hw3 hb4;clear hb4;generalize wd2.drew=fG at *;refine tk 0 ?_;refine iE 1 fun K hK => ?_;go_simp;((with_reducible refine (H1.out _ (HT.out.on hw3)).mono ?_);rintro e wL ⟨rfl,hb7⟩);obtain ⟨X,Y⟩:=b2 X Y hb7;replace hw3:=dT hw3 hb7;clear hb7;(try clear hHeld);refine hK.out _ _ zAt (fun hHeld => ?_);clear hK K;refine tk 2 ?_;refine tk 3 ?_;refine tks 4 ?_;simp only [aF];refine tks 5 ?_;simp only [aF];refine tks 6 ?_;simp only [aF];exact zCj
theorem azz (ts us:List ay) (A A':Option Addr) (c c':Nat) (t t':Int) (w:World) (hs:Sizes ts) (hs':Sizes us) (ht:aU w w.heap.size (.slice A ts.length c) ts) (hu:aU w w.heap.size (.slice A' us.length c') us) :
  Calls Tryz.prog 15 #[.agg #[.slice A ts.length c,.int .i64 t],.agg #[.slice A' us.length c',.int .i64 t']] w (RT w (.bool (aot ts t us t'))):=by
 have HT:=hiQ ht;have HU:=hiQ hu;have HR:=hiQ (fun W h1 h2 => ax0 ts us A A' c c' t t' W hs hs' h1 h2);clear ht hu hs hs';go_enter Tryz.func15,Tryz.ntmps15
 go_upto_region 1 with fail;refine jg (fun wd2 hb1 X Y => ?_);have hw3:=hb1;clear hb1;obtain ⟨aK,bJ⟩:=X.out.c2;obtain ⟨kT,kU⟩:=Y.out.c2;go_wp2_with fail;clear aK bJ kT kU;((with_reducible refine (HR.out _ (HT.out.on hw3) (HU.out.on hw3)).mono ?_);rintro e wd4 ⟨rfl,hb5⟩);obtain ⟨X,Y⟩:=b2 X Y hb5;replace hw3:=dT hw3 hb5;clear hb5;exact zDl
theorem aor {α:Type} (f:α→List UInt8) (K:Nat):∀ (l:List α),(∀ a ∈ l,(f a).length≤K)→(l.flatMap f).length≤K*l.length
 | [],_ => by simp
 | a :: r,h => by
  have h1:=h a (by simp);have h2:=aor f K r fun b hb => h b (by simp [hb]);rw [List.flatMap_cons,List.length_append,List.length_cons,Nat.mul_succ];omega
theorem agu (n:Nat):(pJ 9 n).length≤10:=by have:=qw 9 n;omega
theorem aul (n:Int):(akT n).length≤10:=agu _
theorem awq (b:Bool):(Z4 b).length≤10:=agu _
theorem aAB {x:ay} (hs:x.syms.length≤16) (hm:x.ah.length≤1000):(kS x).length≤31000:=by
 have h1:(x.syms.flatMap fun s => pJ 9 s.1.toNat).length≤10*x.syms.length:=aor _ 10 _ fun s _ => agu _;have h2:(x.ah.flatMap LY).length≤30*x.ah.length:=aor _ 30 _ fun m _ => by
  unfold LY;rw [List.length_append,List.length_append];have a1:=agu m.id.toNat;have a2:=agu (O4 m);have a3:=agu m.ty.toNat;omega
 have b1:=agu x.kind.toNat;have b2:=aul x.low;have b3:=aul x.high;have b4:=agu x.max.toNat;have b5:=awq x.opn;have b6:=agu x.syms.length;have b7:=agu x.ah.length;have b8:=agu x.elem.toNat;have b9:=agu x.key.toNat;unfold kS;rw [List.length_append]
 repeat' split
 all_goals try simp only [List.length_append,List.length_nil]
 all_goals omega
theorem azA {ts:List ay} {v:Val} {t:Int} (h:cO ts true v t=true):∃ x,bM ts t=some x:=by
 cases hx:bM ts t with
 | some x => exact ⟨x,rfl⟩
 | none => cases v;rw [cO,hx] at h;cases h
theorem aAC {ts:List ay} (hv:fF ts=0) (hD:acM ts) (h0:aqB ts) {x:ay} (hx:x ∈ ts) (hm:x.ah.length≤1000):(Y0 ts x).length≤210000:=by
 have h1:(Y0 ts x).length≤210*x.ah.length:=aor _ 210 _ fun m hmm => by
  unfold FP;cases hd:m.eG with
  | false => simp
  | true =>
   rw [if_pos rfl];have hf:=hD x hx m hmm hd;obtain ⟨y,hy⟩:=azA hf;rcases arz hv hy hf (h0 x hx m hmm hd) with ⟨b,_,_,he⟩ | ⟨n,_,_,he,_⟩ | ⟨s,_,_,he,hs⟩ | ⟨n,_,_,he,_⟩ | ⟨k,_,_,_,he⟩
   · rw [he];have:=awq b;omega
   · rw [he];have:=aul n;omega
   · rw [he,List.length_append];have:=agu s.length;omega
   · rw [he];have:=agu n.toNat;omega
   rw [he];have:=agu 0;omega
 omega
theorem azB {ts:List ay} (hv:fF ts=0) (hD:acM ts) (h0:aqB ts):(BN ts).length≤10000000:=by
 have hg:=akN hv;have h1:(ts.flatMap kS).length≤31000*ts.length:=aor _ _ _ fun x hx => aAB (avm ((nG hv).2 x hx).1) (hg.ah x hx);have h2:(ts.flatMap (Y0 ts)).length≤210000*ts.length:=aor _ _ _ fun x hx => aAC hv hD h0 hx (hg.ah x hx);have h3:=agu ts.length;have h4:=hg.len;unfold BN;rw [List.length_append,List.length_append];omega
theorem aBn {ts:List ay} (hv:fF ts=0) {t:Nat} (ht:t < ts.length) (hD:acM ts) (h0:aqB ts):aj2 ts t=(BN (og ts t),0)∧(BN (og ts t)).length≤1000000000000:=by
 refine ⟨arh hv ht hD,?_⟩;have:=azB (akP hv ht) (aoU hv ht hD) (as7 hv ht h0);omega
end Go.Proofs.YtlamhkffnlgofaaGreatDoor

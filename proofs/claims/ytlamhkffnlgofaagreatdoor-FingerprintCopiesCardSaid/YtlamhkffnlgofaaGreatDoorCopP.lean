/- Plain: copies of types: a schema with two copies of each type is valid, and its types are those of the schema. No condition. -/
import Derived.Test.YtlamhkffnlgofaaGreatDoorHAK
namespace Go.Proofs.YtlamhkffnlgofaaGreatDoor
def aq6 (sx:Bool) (l:List UInt8):List UInt8:=if sx then l ++ [120] else l
def Moved (n:Nat) (a b:Int):Prop:=b=a∨b=a+n
structure aF4 (n:Nat) (sx:Bool) (m m':Mem):Prop where
 id:m'.id=m.id
 name:m'.name=aq6 sx m.name
 ty:Moved n m.ty m'.ty
 akb:m'.akb=m.akb
 eG:m'.eG=m.eG
 dflt:m'.dflt=m.dflt
structure awQ (n:Nat) (sx:Bool) (x y:ay):Prop where
 kind:y.kind=x.kind
 name:y.name=if x.name = [] then [] else aq6 sx x.name
 low:y.low=x.low
 high:y.high=x.high
 max:y.max=x.max
 syms:y.syms=x.syms.map fun s => (s.1,aq6 sx s.2)
 arT:y.ah.length=x.ah.length
 ah:∀ (j:Nat) (m m':Mem),x.ah[j]?=some m→y.ah[j]?=some m'→aF4 n sx m m'
 key:if x.kind=8 then Moved n x.key y.key else y.key=x.key
 elem:if x.kind=7∨x.kind=8∨x.kind=9 then Moved n x.elem y.elem else y.elem=x.elem
 opn:y.opn=x.opn
def ayk (ts us:List ay):Prop:=us.length=2*ts.length∧∀ (i:Nat) (x y:ay),ts[i % ts.length]?=some x→us[i]?=some y→awQ ts.length (decide (ts.length≤i)) x y
theorem ayN {α β:Type} {f:α→β} : ∀ (a b:List α),a.length=b.length→(∀ (j:Nat) (x y:α),a[j]?=some x→b[j]?=some y→f x=f y)→a.map f=b.map f
 | [],[],_,_ => rfl
 | x :: a,y :: b,hl,h => by rw [List.map_cons,List.map_cons,h 0 x y rfl rfl,ayN a b (by simpa using hl) fun j p q hp hq => h (j+1) p q (by simpa using hp) (by simpa using hq)]
 | [],_ :: _,hl,_ => by simp at hl
 | _ :: _,[],hl,_ => by simp at hl
theorem aCf {n:Nat} {sx:Bool} {x y:ay} (h:awQ n sx x y):Alike x y:=by
 refine ⟨h.kind.symm,h.low.symm,h.high.symm,h.max.symm,h.opn.symm,by rw [h.syms,List.map_map];rfl,ayN _ _ h.arT.symm fun j m m' hm hm' => ?_⟩;have hc:=h.ah j m m' hm hm';unfold aoW;rw [hc.id,hc.akb,hc.eG,hc.dflt]
theorem awV {n:Nat} {a b:Int} (h:Moved n a b) (ha:0≤a) (hl:a < n):b.toNat % n=a.toNat∧b.toNat < 2*n∧0≤b:=by
 rcases h with rfl | rfl
 · exact ⟨Nat.mod_eq_of_lt (by omega),by omega,ha⟩
 have e:(a+(n:Int)).toNat=a.toNat+n:=by omega
 rw [e];exact ⟨by rw [Nat.add_mod_right];exact Nat.mod_eq_of_lt (by omega),by omega,by omega⟩
theorem aEk {ts us:List ay} (hv:fF ts=0) (h:ayk ts us) {i:Nat} (hi:i < ts.length):Bis ts us i i:=by
 refine ⟨fun a b => b < 2*ts.length∧b % ts.length=a,?_,by omega,Nat.mod_eq_of_lt hi⟩;rintro a b ⟨hb,rfl⟩;have hn:0 < ts.length:=by omega
 have ha:b % ts.length < ts.length:=Nat.mod_lt _ hn;have hx:=List.getElem?_eq_getElem ha;have hy:=List.getElem?_eq_getElem (l:=us) (i:=b) (by rw [h.1];exact hb);have hc:=h.2 b _ _ hx hy;have hal:=aCf hc;generalize ts[b % ts.length]=x at *;generalize us[b]'(by rw [h.1];exact hb)=y at *;have hxm:=List.mem_of_getElem? hx;obtain ⟨k9,_,hu⟩:=akc hv x hxm;refine ⟨x,y,hx,hy,hal,fun j p q hp hq => ?_⟩;have hmv:∀ (u w:Int),u ∈ lg x→Moved ts.length u w→w.toNat < 2*ts.length∧w.toNat % ts.length=u.toNat:=fun u w hu1 hm => by
  obtain ⟨k,rfl,hk⟩:=hu u hu1;obtain ⟨h1,h2,_⟩:=awV hm (by omega) (by omega);exact ⟨h2,h1⟩
 -- the j-th use of both
 unfold outs bg at hp hq;rw [List.map_append,List.map_append] at hp hq;rcases Nat.lt_or_ge j x.ah.length with hj | hj
 ·
  rw [List.getElem?_append_left (by simpa using hj),List.map_map,List.getElem?_map,List.getElem?_eq_getElem hj] at hp;rw [List.getElem?_append_left (by simpa [hc.arT] using hj),List.map_map,List.getElem?_map,List.getElem?_eq_getElem (by rw [hc.arT];exact hj)] at hq;simp at hp hq;subst hp;subst hq;exact hmv _ _ (alE x _ (List.getElem_mem hj)) (hc.ah j _ _ (List.getElem?_eq_getElem hj) (List.getElem?_eq_getElem _)).ty
 rw [List.getElem?_append_right (by simpa using hj)] at hp;rw [List.getElem?_append_right (by simpa [hc.arT] using hj)] at hq;simp only [List.length_map,hc.arT] at hp hq;have h8k:=hc.key;have Fb:=hc.elem;rw [hc.kind] at hq;generalize j - x.ah.length=d at hp hq;by_cases h8:x.kind=8
 ·
  rw [if_pos h8] at h8k hp hq;rw [if_pos (by omega)] at Fb hp hq
  match d,hp,hq with
  | 0,hp,hq => simp at hp hq;subst hp;subst hq;exact hmv _ _ (aon x h8) h8k
  | 1,hp,hq => simp at hp hq;subst hp;subst hq;exact hmv _ _ (aqY x (by omega)) Fb
  | d+2,hp,hq => simp at hp
 rw [if_neg h8] at hp hq;by_cases h7:x.kind=7∨x.kind=8∨x.kind=9
 ·
  rw [if_pos h7] at Fb hp hq
  match d,hp,hq with
  | 0,hp,hq => simp at hp hq;subst hp;subst hq;exact hmv _ _ (aqY x (by omega)) Fb
  | d+1,hp,hq => simp at hp
 rw [if_neg h7] at hp;simp at hp
theorem aAI {sx:Bool} {a b:List UInt8} (h:aq6 sx a=aq6 sx b):a=b:=by
 unfold aq6 at h;cases sx
 · simpa using h
 simpa using h
theorem awW {sx:Bool} {l:List UInt8} (h:nameB l=true) (hl:l.length≤20):nameB (aq6 sx l)=true:=by
 unfold aq6;cases sx
 · exact h
 rw [if_pos rfl];unfold nameB at h ⊢;simp only [Bool.and_eq_true,decide_eq_true_eq] at h ⊢;obtain ⟨h1,_,h3,h4⟩:=h;refine ⟨by simp,by simp;omega,?_,?_⟩
 ·
  cases l with
  | nil => simp at h1
  | cons c r => simpa using h3
 rw [List.all_append,h4];decide
theorem ayO (sx:Bool):∀ (l:List Raw) (p:Option Int) (S:List (List UInt8)),nO l p S=true→(∀ r ∈ l,r.2.length≤20)→nO (l.map fun s => (s.1,aq6 sx s.2)) p (S.map (aq6 sx))=true
 | [],p,S,_,_ => by simp [nO]
 | r :: l,p,S,h,hl => by
  rw [nO] at h;simp only [Bool.and_eq_true] at h;obtain ⟨h1,h2,h3,h4,h5⟩:=h;rw [List.map_cons,nO];simp only [Bool.and_eq_true];refine ⟨h1,h2,?_,awW h4 (hl r (by simp)),?_⟩
  ·
   cases hc:(S.map (aq6 sx)).contains (aq6 sx r.2) with
   | false => rfl
   | true =>
    have h6:aq6 sx r.2 ∈ S.map (aq6 sx):=by simpa using hc
    obtain ⟨q,hq,he⟩:=List.mem_map.1 h6;have:=aAI he;rw [this] at hq;rw [show S.contains r.2=true by simpa using hq] at h3;cases h3
  have:=ayO sx l _ _ h5 (fun q hq => hl q (by simp [hq]));simpa using this
theorem ayP (sx:Bool) {l:List Raw} (h:nP l=true) (hl:∀ r ∈ l,r.2.length≤20):nP (l.map fun s => (s.1,aq6 sx s.2))=true:=by
 unfold nP at h ⊢;simp only [Bool.and_eq_true] at h;have:=ayO sx l none [] h.1 hl;simp only [List.map_nil] at this;rw [this,List.length_map];simpa using h.2
structure ayj (x:ay):Prop where
 name:x.name.length≤20
 syms:∀ s ∈ x.syms,s.2.length≤20
 ah:∀ m ∈ x.ah,m.name.length≤20
theorem aDu {n:Nat} {sx:Bool} {x y:ay} (hf:dY x=true) (hs:ayj x) (h:awQ n sx x y):dY y=true:=by
 have hz:=V4 hf;have hr:=asb hf;have hk:=Us hf;have hnl:=form_nil hf;have hf2:=hf;unfold dY at hf2 ⊢;simp only [Bool.and_eq_true] at hf2 ⊢;have hname:(x.kind=4∨x.kind=5∨x.kind=6)→y.name=aq6 sx x.name:=fun h4 => by
  rw [h.name,if_neg (fun e => hz.1.1 e h4)]
 rw [h.kind];refine ⟨hf2.1,?_,aAj ?_⟩
 ·
  have ho:=hf2.2.1;unfold rD at ho ⊢;rw [h.kind,h.low,h.high,h.max];by_cases h2:x.kind=2
  · rw [if_pos h2] at ho ⊢; exact ho
  rw [if_neg h2] at ho ⊢;by_cases h3:x.kind=3
  · rw [if_pos h3] at ho ⊢; exact ho
  rw [if_neg h3] at ho ⊢;by_cases h4:x.kind=4
  ·
   rw [if_pos h4] at ho ⊢;rw [hname (.inl h4),h.syms];rw [Bool.and_eq_true] at ho ⊢;refine ⟨awW ho.1 hs.name,?_⟩;have h5:=ho.2;unfold wu at h5 ⊢;rw [Bool.and_eq_true] at h5 ⊢;exact ⟨by simpa using h5.1,ayP sx h5.2 hs.syms⟩
  rw [if_neg h4] at ho ⊢;by_cases h5:x.kind=5∨x.kind=6
  ·
   rw [if_pos h5] at ho ⊢;rw [hname (.inr h5)];rw [Bool.and_eq_true] at ho ⊢;refine ⟨awW ho.1 hs.name,?_⟩;have hm:=ho.2;unfold iQ at hm ⊢;simp only [Bool.and_eq_true] at hm ⊢;obtain ⟨m1,m2,m3⟩:=hm;rw [h.kind,h.arT];refine ⟨?_,m2,?_⟩
   ·
    rw [List.all_eq_true];intro q hq;obtain ⟨j,hj⟩:=List.getElem?_of_mem hq;have hl:j < x.ah.length:=by rw [← h.arT];exact (List.getElem?_eq_some_iff.1 hj).1
    have hc:=h.ah j _ _ (List.getElem?_eq_getElem hl) hj;have h6:=List.all_eq_true.1 m1 _ (List.getElem_mem hl);unfold jf at h6 ⊢;rw [hc.akb,hc.eG,hc.dflt];exact h6
   have e:y.ah.map bW=(x.ah.map bW).map fun s => (s.1,aq6 sx s.2):=by
    rw [List.map_map];refine List.ext_getElem? fun j => ?_;rw [List.getElem?_map,List.getElem?_map];cases hm:x.ah[j]? with
    | none => rw [List.getElem?_eq_none_iff] at hm;rw [List.getElem?_eq_none (by rw [h.arT];exact hm)];rfl
    | some m =>
     have hl:j < y.ah.length:=by rw [h.arT];exact (List.getElem?_eq_some_iff.1 hm).1
     rw [List.getElem?_eq_getElem hl];have hc:=h.ah j m _ hm (List.getElem?_eq_getElem hl);simp only [Option.map_some,Function.comp_apply,bW,hc.id,hc.name]
   rw [e];refine ayP sx m3 fun r hr => ?_;obtain ⟨m,hm,rfl⟩:=List.mem_map.1 hr;exact hs.ah m hm
  rw [if_neg h5] at ho ⊢;exact ho
 obtain ⟨z1,z2,z3,z4,z5⟩:=hz;have hcs:x.kind=1∨x.kind=2∨x.kind=3∨x.kind=4∨x.kind=5∨x.kind=6∨x.kind=7∨x.kind=8∨x.kind=9:=by omega
 have hym:x.ah = []→y.ah = []:=fun e => List.eq_nil_of_length_eq_zero (by rw [h.arT,e];rfl);have hys:x.syms = []→y.syms = []:=fun e => by rw [h.syms,e];rfl
 have hyn:x.name = []→y.name = []:=fun e => by rw [h.name,if_pos e]
 have hyk:x.kind≠8→y.key=0:=fun e => by have:=h.key;rw [if_neg e] at this;rw [this,z2 e]
 have hye:¬ (x.kind=7∨x.kind=8∨x.kind=9)→y.elem=0:=fun e => by have:=h.elem;rw [if_neg e] at this;rw [this,z3 e]
 unfold gZ;rw [h.kind];have e1:=h.low;have e2:=h.high;have e3:=h.max;have e4:=h.opn;obtain ⟨n1,n2,n3⟩:=hnl;rcases hcs with hk | hk | hk | hk | hk | hk | hk | hk | hk
 all_goals
  simp [hk] at n1 n2 n3 z1 z4 z5 hyk hye
  first
   | (have q1:=hyn z1;have q2:=hym z4;have q3:=hys z5;simp [hk,iC,q1,q2,q3,e1,e2,e3,e4,n1,n2,n3,hyk,hye])
   | (have q2:=hym z4;simp [hk,iC,q2,e1,e2,e3,n1,n2,hyk,hye])
   | (have q3:=hys z5;simp [hk,iC,q3,e1,e2,e3,e4,n1,n2,n3,hyk,hye])
   | (have q1:=hyn z1;have q2:=hym z4;have q3:=hys z5;simp [hk,iC,q1,q2,q3,e1,e2,e3,e4,n1,n2,n3,hye])
   | (have q1:=hyn z1;have q2:=hym z4;have q3:=hys z5;simp [hk,iC,q1,q2,q3,e1,e2,e3,e4,n1,n2,n3,hyk])
   | (have q1:=hyn z1;have q2:=hym z4;have q3:=hys z5;simp [hk,iC,q1,q2,q3,e1,e2,e3,e4,n1,n2,n3])
theorem ayl {ts us:List ay} (hv:fF ts=0) (h16:ts.length≤16) (hs:∀ x ∈ ts,ayj x) (h1:∀ x ∈ ts,x.name.length≤1) (hp:ts.Pairwise fun a b => b.name≠[]→a.name≠b.name) (h:ayk ts us):fF us=0:=by
 unfold fF;rw [if_neg (by rw [h.1];omega)];have at_:∀ (i:Nat) (y:ay),us[i]?=some y→∃ x,ts[i % ts.length]?=some x∧x ∈ ts∧awQ ts.length (decide (ts.length≤i)) x y:=fun i y hy => by
  have hl:i < us.length:=(List.getElem?_eq_some_iff.1 hy).1;rw [h.1] at hl;have ha:i % ts.length < ts.length:=Nat.mod_lt _ (by omega);have hx:=List.getElem?_eq_getElem ha;exact ⟨_,hx,List.getElem_mem ha,h.2 i _ y hx hy⟩
 refine atQ _ _ _ (fun y hy => ?_) (fun _ _ _ h => by simp at h) ?_
 ·
  obtain ⟨i,hi⟩:=List.getElem?_of_mem hy;obtain ⟨x,hx,hxm,hc⟩:=at_ i y hi;obtain ⟨hf,_,hk8⟩:=(nG hv).2 x hxm;obtain ⟨k9,_,hu⟩:=akc hv x hxm;have hmv:∀ (u w:Int),u ∈ lg x→Moved ts.length u w→inB us.length w=true:=fun u w hu1 hm => by
   obtain ⟨k,rfl,hk⟩:=hu u hu1;obtain ⟨_,h2,h3⟩:=awV hm (by omega) (by omega);unfold inB;rw [h.1];simp;omega
  refine ⟨aDu hf (hs x hxm) hc,?_,?_⟩
  ·
   rw [List.all_eq_true];intro u hu1;unfold lg at hu1;rw [hc.kind] at hu1;rcases List.mem_append.1 hu1 with h2 | h2
   ·
    obtain ⟨m',hm',rfl⟩:=List.mem_map.1 h2;obtain ⟨j,hj⟩:=List.getElem?_of_mem hm';have hl:j < x.ah.length:=by rw [← hc.arT];exact (List.getElem?_eq_some_iff.1 hj).1
    exact hmv _ _ (alE x _ (List.getElem_mem hl)) (hc.ah j _ _ (List.getElem?_eq_getElem hl) hj).ty
   rcases List.mem_append.1 h2 with h2 | h2
   ·
    split at h2
    ·
     next h8 =>
     rw [List.mem_singleton] at h2;subst h2;have:=hc.key;rw [if_pos h8] at this;exact hmv _ _ (aon x h8) this
    simp at h2
   split at h2
   ·
    next h7 =>
    rw [List.mem_singleton] at h2;subst h2;have:=hc.elem;rw [if_pos (by omega)] at this;exact hmv _ _ (aqY x h7) this
   simp at h2
  rintro ⟨h8,hk⟩;rw [hc.kind] at h8;have hkx:akK ts x=true:=by
   cases h9:akK ts x with
   | true => rfl
   | false => exact absurd ⟨h8,h9⟩ hk8
  obtain ⟨k,hk1,hk2⟩:=hu _ (aon x h8);have hm:=hc.key;rw [if_pos h8,hk1] at hm;obtain ⟨m1,m2,m3⟩:=awV hm (by omega) (by omega);rw [Int.toNat_natCast] at m1;have hy2:=List.getElem?_eq_getElem (l:=us) (i:=y.key.toNat) (by rw [h.1];exact m2);obtain ⟨z,hz,_,hcz⟩:=at_ _ _ hy2;rw [m1] at hz;unfold akK at hk hkx;rw [hk1,akQ,hz] at hkx;have e:y.key=((y.key.toNat:Nat):Int):=by omega
  rw [e,akQ,hy2] at hk;dsimp only at hk hkx;rw [hcz.kind,hkx] at hk;cases hk
 rw [List.pairwise_iff_getElem];intro i j hi hj hij hne he;obtain ⟨x,hx,hxm,hcx⟩:=at_ i _ (List.getElem?_eq_getElem hi);obtain ⟨z,hz,hzm,hcz⟩:=at_ j _ (List.getElem?_eq_getElem hj);rw [hcx.name,hcz.name] at he;rw [hcz.name] at hne;by_cases hz0:z.name = []
 · rw [if_pos hz0] at hne;exact hne rfl
 rw [if_neg hz0] at he;by_cases hx0:x.name = []
 ·
  rw [if_pos hx0] at he;unfold aq6 at he;cases hd:decide (ts.length≤j)
  · rw [hd] at he;exact hz0 he.symm
  rw [hd] at he;simp at he
 rw [if_neg hx0] at he;have lx:=h1 x hxm;have lz:=h1 z hzm;have px:0 < x.name.length:=List.length_pos_iff.2 hx0;have pz:0 < z.name.length:=List.length_pos_iff.2 hz0;have hlen:=congrArg List.length he;rw [h.1] at hi hj;have hsame:decide (ts.length≤i)=decide (ts.length≤j):=by
  unfold aq6 at hlen;cases h3:decide (ts.length≤i) <;> cases h4:decide (ts.length≤j) <;> rw [h3,h4] at hlen <;> simp at hlen <;> first | rfl | omega
 rw [hsame] at he;have hee:=aAI he;have hmod:i % ts.length≠j % ts.length:=by
  simp only [decide_eq_decide] at hsame;rcases Nat.lt_or_ge i ts.length with h5 | h5
  ·
   have h6:j < ts.length:=by omega
   rw [Nat.mod_eq_of_lt h5,Nat.mod_eq_of_lt h6];omega
  have h6:ts.length≤j:=by omega
  rw [Nat.mod_eq_sub_mod h5,Nat.mod_eq_sub_mod h6,Nat.mod_eq_of_lt (by omega),Nat.mod_eq_of_lt (by omega)];omega
 obtain ⟨g1,e1⟩:=List.getElem?_eq_some_iff.1 hx;obtain ⟨g2,e2⟩:=List.getElem?_eq_some_iff.1 hz;have hpw:=List.pairwise_iff_getElem.1 hp;rcases Nat.lt_or_gt_of_ne hmod with h7 | h7
 · exact hpw _ _ g1 g2 h7 (by rw [e2];exact hz0) (by rw [e1,e2];exact hee)
 exact hpw _ _ g2 g1 h7 (by rw [e1];exact hx0) (by rw [e1,e2];exact hee.symm)
end Go.Proofs.YtlamhkffnlgofaaGreatDoor

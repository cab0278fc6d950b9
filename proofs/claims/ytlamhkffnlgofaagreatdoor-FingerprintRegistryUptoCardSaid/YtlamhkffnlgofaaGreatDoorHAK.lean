/- Plain: what fits a type fits its equals; a canonical root is valid. Plain: the unknown parts of a value that fits. Plain: the canonical bytes of a root; that they tell the root. No condition. -/
import Derived.Test.YtlamhkffnlgofaaGreatDoorHAJ
set_option maxHeartbeats 1600000
namespace Go.Proofs.YtlamhkffnlgofaaGreatDoor
theorem akQ (ts:List ay) (k:Nat):bM ts (k:Int)=ts[k]?:=by unfold bM;rw [if_pos (by omega),Int.toNat_natCast]
structure aod (x y:ay):Prop where
 kind:x.kind=y.kind
 low:x.low=y.low
 high:x.high=y.high
 max:x.max=y.max
 opn:x.opn=y.opn
 syms:x.syms.map Prod.fst=y.syms.map Prod.fst
 ah:x.ah.map Mem.id=y.ah.map Mem.id
theorem Alike.zero {x y:ay} (h:Alike x y):aod x y:=⟨h.1,h.2,h.3,h.4,h.5,h.6,by
 have:=congrArg (List.map (fun q:Int × Bool × Bool × Val => q.1)) h.ah;simpa [aoW,List.map_map,Function.comp_def] using this⟩
theorem aod.len {x y:ay} (h:aod x y):x.ah.length=y.ah.length:=by have:=congrArg List.length h.ah;simpa using this
def asB (ts us:List ay) (R:Nat→Nat→Prop):Prop :=
 ∀ i k,R i k→∃ x y,ts[i]?=some x∧us[k]?=some y∧aod x y∧∀ (j a b:Nat),(outs x)[j]?=some a→(outs y)[j]?=some b→R a b
theorem awF {ts us:List ay} {R:Nat→Nat→Prop} (h:Closed ts us R):asB ts us R:=fun i k hr => by
 obtain ⟨x,y,hx,hy,ha,hj⟩:=h i k hr;exact ⟨x,y,hx,hy,ha.zero,hj⟩
theorem aqM {x y:ay} (h:aod x y) (id:Int):dN x id=dN y id:=by unfold dN;rw [h.ah]
theorem avZ {x y:ay} (h:aod x y) (id:Int):qm x id=qm y id:=by unfold qm;rw [h.syms]
theorem asP {x y:ay} (h:aod x y):∀ (rs:List Raw) (p:Option Int),xK x rs p=xK y rs p
 | [],p => by rw [xK,xK]
 | r :: rs,p => by rw [xK,xK,aqM h,asP h rs]
def Held (ts:List ay):Prop := ∀ x ∈ ts,x.kind≤9∧1≤x.kind∧∀ u ∈ lg x,∃ k:Nat,u=k∧k < ts.length
theorem akc {ts:List ay} (h:fF ts=0):Held ts:=fun x hx => by
 obtain ⟨h1,h2,_⟩:=(ni h).2 x hx;refine ⟨(Us h1).2,(Us h1).1,fun u hu => ?_⟩;rw [List.all_eq_true] at h2;exact Ad (h2 u hu)
theorem alE (x:ay) (m:Mem) (h:m ∈ x.ah):m.ty ∈ lg x:=by unfold lg;exact List.mem_append_left _ (List.mem_map_of_mem h)
theorem aon (x:ay) (h:x.kind=8):x.key ∈ lg x:=by unfold lg;simp [h]
theorem aqY (x:ay) (h:7≤x.kind):x.elem ∈ lg x:=by unfold lg;simp [h]
structure aDF (R:Nat→Nat→Prop) (x y:ay):Prop where
 mem:∀ (j:Nat) (m n:Mem),x.ah[j]?=some m→y.ah[j]?=some n→∃ a b:Nat,m.ty=a∧n.ty=b∧R a b
 key:x.kind=8→∃ a b:Nat,x.key=a∧y.key=b∧R a b
 elem:7≤x.kind→∃ a b:Nat,x.elem=a∧y.elem=b∧R a b
theorem aBd {ts us:List ay} {R:Nat→Nat→Prop} (gt:Held ts) (gu:Held us) {a b:Nat} {x y:ay} (hx:ts[a]?=some x) (hy:us[b]?=some y) (ha:aod x y) (hj:∀ (j p q:Nat),(outs x)[j]?=some p→(outs y)[j]?=some q→R p q):aDF R x y:=by
 obtain ⟨kx,_,ux⟩:=gt x (List.mem_of_getElem? hx);obtain ⟨ky,_,uy⟩:=gu y (List.mem_of_getElem? hy);have hl:x.ah.length=y.ah.length:=ha.len;refine ⟨fun j m n hm hn => ?_,fun h8 => ?_,fun h7 => ?_⟩
 ·
  obtain ⟨p,hp,_⟩:=ux m.ty (alE x m (List.mem_of_getElem? hm));obtain ⟨q,hq,_⟩:=uy n.ty (alE y n (List.mem_of_getElem? hn));refine ⟨p,q,hp,hq,hj j p q ?_ ?_⟩
  ·
   rw [alr kx];unfold lg;rw [List.map_append,List.getElem?_append_left (by have:=(List.getElem?_eq_some_iff.1 hm).1;simpa using this),List.map_map,List.getElem?_map,hm];simp [hp]
  rw [alr ky];unfold lg;rw [List.map_append,List.getElem?_append_left (by have:=(List.getElem?_eq_some_iff.1 hn).1;simpa using this),List.map_map,List.getElem?_map,hn];simp [hq]
 ·
  have h8':y.kind=8:=ha.kind ▸ h8;obtain ⟨p,hp,_⟩:=ux _ (aon x h8);obtain ⟨q,hq,_⟩:=uy _ (aon y h8');refine ⟨p,q,hp,hq,hj x.ah.length p q ?_ ?_⟩
  · rw [alr kx];unfold lg;rw [List.map_append,List.getElem?_append_right (by simp),if_pos h8];simp [hp]
  rw [alr ky,hl];unfold lg;rw [List.map_append,List.getElem?_append_right (by simp),if_pos h8'];simp [hq]
 have h7':7≤y.kind:=ha.kind ▸ h7;obtain ⟨p,hp,_⟩:=ux _ (aqY x h7);obtain ⟨q,hq,_⟩:=uy _ (aqY y h7');refine ⟨p,q,hp,hq,hj (x.ah.length+(if x.kind=8 then 1 else 0)) p q ?_ ?_⟩
 ·
  rw [alr kx];unfold lg;rw [List.map_append,List.getElem?_append_right (by simp),if_pos h7];by_cases h8:x.kind=8 <;> simp [h8,hp]
 rw [alr ky,hl,ha.kind];unfold lg;rw [List.map_append,List.getElem?_append_right (by simp),if_pos h7'];by_cases h8:y.kind=8 <;> simp [h8,hq]
theorem av1 {ts us:List ay} {pl:Bool} : ∀ (is:List Val) (ms ns:List Mem),ms.length=ns.length→(∀ (j:Nat) (m n:Mem),ms[j]?=some m→ns[j]?=some n→∀ v ∈ is,cO ts pl v m.ty=cO us pl v n.ty)→qL ts pl is ms=qL us pl is ns
 | [],[],[],_,_ => by rw [qL,qL]
 | [],_ :: _,_ :: _,_,_ => by rw [qL,qL]
 | _ :: _,[],[],_,_ => by rw [qL,qL]
 | v :: is,m :: ms,n :: ns,hl,h => by
  rw [qL,qL,h 0 m n rfl rfl v (by simp),av1 is ms ns (by simpa using hl) fun j m' n' h1 h2 w hw => h (j+1) m' n' (by simpa using h1) (by simpa using h2) w (by simp [hw])]
 | _,[],_ :: _,hl,_ => by simp at hl
 | _,_ :: _,[],hl,_ => by simp at hl
theorem aAi {ts us:List ay} {pl:Bool} (is:List Val) (t u:Int) (h:∀ v ∈ is,cO ts pl v t=cO us pl v u):zM ts pl is t=zM us pl is u:=by
 cases is with
 | nil => rw [zM,zM]
 | cons v r => rw [zM,zM];exact h v (by simp)
theorem av2 {ts us:List ay} {pl:Bool} (is:List Val) (t u:Int) (h:∀ v ∈ is,cO ts pl v t=cO us pl v u):rC ts pl is t=rC us pl is u:=by
 rw [uT,uT,Bool.eq_iff_iff,List.all_eq_true,List.all_eq_true];exact ⟨fun h1 v hv => by rw [← h v hv];exact h1 v hv,fun h1 v hv => by rw [h v hv];exact h1 v hv⟩
theorem atS (v:Val):lT v.keys < nodes v∧lT v.items < nodes v:=by cases v;rw [nodes];simp only [Val.keys,Val.items];omega
theorem asC {ts us:List ay} {R:Nat→Nat→Prop} (gt:Held ts) (gu:Held us) (hR:asB ts us R) (pl:Bool):∀ (n:Nat) (v:Val) (a b:Nat),nodes v≤n→R a b→cO ts pl v a=cO us pl v b
 | 0,v,a,b,hn,_ => by have:=zJ v;omega
 | n+1,v,a,b,hn,h => by
  obtain ⟨x,y,hx,hy,ha,hj⟩:=hR a b h;have hu:=aBd gt gu hx hy ha hj;have hlt:=atS v;have ihk:∀ w ∈ v.keys,∀ c d:Nat,R c d→cO ts pl w c=cO us pl w d:=fun w hw c d hb => asC gt gu hR pl n w c d (by have:=tY _ w hw;omega) hb;have ihi:∀ w ∈ v.items,∀ c d:Nat,R c d→cO ts pl w c=cO us pl w d:=fun w hw c d hb => asC gt gu hR pl n w c d (by have:=tY _ w hw;omega) hb;have hL:7≤x.kind→rC ts pl v.items x.elem=rC us pl v.items y.elem:=fun h7 => by
   obtain ⟨c,d,hc,hd,hcd⟩:=hu.elem h7;rw [hc,hd];exact av2 _ _ _ fun w hw => ihi w hw c d hcd
  have hK:x.kind=8→rC ts pl v.keys x.key=rC us pl v.keys y.key:=fun h8 => by
   obtain ⟨c,d,hc,hd,hcd⟩:=hu.key h8;rw [hc,hd];exact av2 _ _ _ fun w hw => ihk w hw c d hcd
  have hZ:qL ts pl v.items x.ah=qL us pl v.items y.ah:=av1 _ _ _ ha.len fun j m n hm hn w hw => by
   obtain ⟨c,d,hc,hd,hcd⟩:=hu.mem j m n hm hn;rw [hc,hd];exact ihi w hw c d hcd
  have hH:∀ i:Nat,(match x.ah[i]? with | some m => zM ts pl v.items m.ty | none => false)=(match y.ah[i]? with | some m => zM us pl v.items m.ty | none => false):=fun i => by
   cases hm:x.ah[i]? with
   | none => rw [show y.ah[i]?=none by rw [List.getElem?_eq_none_iff] at hm ⊢; rw [← ha.len];exact hm]
   | some m =>
    have hl:i < y.ah.length:=by rw [← ha.len];exact (List.getElem?_eq_some_iff.1 hm).1
    rw [List.getElem?_eq_getElem hl];obtain ⟨c,d,hc,hd,hcd⟩:=hu.mem i m _ hm (List.getElem?_eq_getElem hl);simp only;rw [hc,hd];exact aAi _ _ _ fun w hw => ihi w hw c d hcd
  rw [kG,kG,akQ,akQ,hx,hy];simp only;rw [ha.kind]
  congr 2
  unfold ig;rw [ha.kind];dsimp only;have hk9:=(gu y (List.mem_of_getElem? hy)).1;by_cases h2:y.kind=2
  · rw [if_pos h2,if_pos h2,ha.low,ha.high]
  rw [if_neg h2,if_neg h2];by_cases h3:y.kind=3
  · rw [if_pos h3,if_pos h3,ha.max]
  rw [if_neg h3,if_neg h3];by_cases h4:y.kind=4
  · rw [if_pos h4,if_pos h4,avZ ha,ha.opn]
  rw [if_neg h4,if_neg h4];by_cases h5:y.kind=5
  · rw [if_pos h5,if_pos h5,ha.len,asP ha,hZ]
  rw [if_neg h5,if_neg h5];by_cases h6:y.kind=6
  ·
   rw [if_pos h6,if_pos h6,aqM ha,ha.opn];cases dN y v.id with
   | none => rfl
   | some i => dsimp only;congr 2;exact hH i
  rw [if_neg h6,if_neg h6];by_cases h7:y.kind=7
  · rw [if_pos h7,if_pos h7,ha.max,hL (by rw [ha.kind];omega)]
  rw [if_neg h7,if_neg h7];by_cases h8:y.kind=8
  · rw [if_pos h8,if_pos h8,ha.max,hL (by rw [ha.kind];omega),hK (by rw [ha.kind];exact h8)]
  rw [if_neg h8,if_neg h8];by_cases h9:y.kind=9
  · rw [if_pos h9,if_pos h9,hL (by rw [ha.kind];omega)]
  rw [if_neg h9,if_neg h9]
theorem aBC {ts us:List ay} (gt:Held ts) (gu:Held us) (pl:Bool) (v:Val) {a b:Nat} (h:Y5 ts us a b):cO ts pl v a=cO us pl v b:=asC gt gu (awF (abg ts us)) pl (nodes v) v a b (Nat.le_refl _) h
theorem av3 {c:UInt8} (hc:Cj c=true):∀ (l:List Raw) (p:Option Int) (S S':List (List UInt8)),nO l p S=true→(∀ s ∈ S',∃ j a:Int,p=some a∧0≤j∧j≤a∧s=rF c j)→nO (l.map fun s => (s.1,rF c s.1)) p S'=true
 | [],p,S,S',_,_ => by simp [nO]
 | r :: l,p,S,S',h,hS => by
  rw [nO] at h;simp only [Bool.and_eq_true] at h;obtain ⟨h1,h2,_,_,h5⟩:=h;have hr:1≤r.1∧r.1≤1000:=by unfold mM at h1;simpa using h1
  rw [List.map_cons,nO];simp only [Bool.and_eq_true];refine ⟨h1,h2,?_,avW hc (by omega) (by omega),av3 hc l _ _ _ h5 fun s hs => ?_⟩
  ·
   cases hcn:S'.contains (rF c r.1) with
   | false => rfl
   | true =>
    obtain ⟨j,a,hp,hj,hja,he⟩:=hS _ (by simpa using hcn);have:=axc (by omega) hj he;subst hp;unfold xH at h2;simp at h2;omega
  rcases List.mem_append.1 hs with hs | hs
  ·
   obtain ⟨j,a,hp,hj,hja,he⟩:=hS s hs;refine ⟨j,r.1,rfl,hj,?_,he⟩;subst hp;unfold xH at h2;simp at h2;omega
  rw [List.mem_singleton] at hs;exact ⟨r.1,r.1,rfl,by omega,Int.le_refl _,hs⟩
theorem av4 {c:UInt8} (hc:Cj c=true) {l:List Raw} (h:nP l=true):nP (l.map fun s => (s.1,rF c s.1))=true:=by
 unfold nP at h ⊢;simp only [Bool.and_eq_true] at h;rw [av3 hc l none [] [] h.1 (by simp),List.length_map];simpa using h.2
theorem form_nil {x:ay} (h:dY x=true):(x.kind≠2→x.low=0∧x.high=0)∧(¬ (x.kind=3∨x.kind=7∨x.kind=8)→x.max=0)∧(¬ (x.kind=4∨x.kind=6)→x.opn=false):=by
 have hr:=asb h;have hk:=Us h;have e1:=congrArg ay.low hr;have e2:=congrArg ay.high hr;have e3:=congrArg ay.max hr;have e4:=congrArg ay.opn hr;unfold gZ at e1 e2 e3 e4;have hc:x.kind=1∨x.kind=2∨x.kind=3∨x.kind=4∨x.kind=5∨x.kind=6∨x.kind=7∨x.kind=8∨x.kind=9:=by omega
 refine ⟨fun h1 => ?_,fun h1 => ?_,fun h1 => ?_⟩
 all_goals rcases hc with hk | hk | hk | hk | hk | hk | hk | hk | hk <;> simp [hk,iC] at h1 e1 e2 e3 e4 ⊢ <;> first | assumption | exact ⟨e1,e2⟩
theorem aAj {x:ay} (h:x=iC):jy x iC=true:=by subst h;decide
theorem aAk {x:ay} (h:dY x=true) (n:Nat) (ix:Nat→Nat) (hn:n≤1000):dY (Aq n ix x)=true:=by
 have hz:=U0 h;have hk:=Us h;have hr:=asb h;have hf:=h;unfold dY at hf ⊢;simp only [Bool.and_eq_true] at hf ⊢;have hnm:nameB (rF 84 (n:Int))=true:=avW (by decide) (by omega) (by omega);have hname:(x.kind=4∨x.kind=5∨x.kind=6)→(Aq n ix x).name=rF 84 n:=fun hk4 => by
  show (if x.name = [] then [] else rF 84 n)=_;rw [if_neg (fun e => (hz.1.1 e) hk4)]
 refine ⟨hf.1,?_,aAj ?_⟩
 ·
  have ho:=hf.2.1;unfold rD at ho ⊢;show (if x.kind=2 then _ else if x.kind=3 then _ else if x.kind=4 then nameB (Aq n ix x).name && wu (x.syms.map anL) else if x.kind=5∨x.kind=6 then nameB (Aq n ix x).name && iQ (Aq n ix x) else if x.kind=7∨x.kind=8 then _ else _)=true;by_cases h2:x.kind=2
  · rw [if_pos h2] at ho ⊢; exact ho
  rw [if_neg h2] at ho ⊢;by_cases h3:x.kind=3
  · rw [if_pos h3] at ho ⊢; exact ho
  rw [if_neg h3] at ho ⊢;by_cases h4:x.kind=4
  ·
   rw [if_pos h4] at ho ⊢;rw [hname (.inl h4),hnm];unfold wu at ho ⊢;simp only [Bool.and_eq_true] at ho ⊢;exact ⟨trivial,by simpa using ho.2.1,av4 (by decide) ho.2.2⟩
  rw [if_neg h4] at ho ⊢;by_cases h5:x.kind=5∨x.kind=6
  ·
   rw [if_pos h5] at ho ⊢;rw [hname (.inr h5),hnm];unfold iQ at ho ⊢;simp only [Bool.and_eq_true] at ho ⊢;have e1:(Aq n ix x).ah=x.ah.map (aoc ix):=rfl;have e2:(Aq n ix x).kind=x.kind:=rfl;rw [e1,e2,List.length_map,List.all_map];refine ⟨trivial,?_,ho.2.2.1,?_⟩
   · exact ho.2.1
   have:=av4 (c:=102) (by decide) ho.2.2.2;rw [List.map_map] at this ⊢;exact this
  rw [if_neg h5] at ho ⊢;exact ho
 obtain ⟨z1,z2,z3,z4,z5⟩:=hz;have hc:x.kind=1∨x.kind=2∨x.kind=3∨x.kind=4∨x.kind=5∨x.kind=6∨x.kind=7∨x.kind=8∨x.kind=9:=by omega
 have e1:=congrArg ay.low hr;have e2:=congrArg ay.high hr;have e3:=congrArg ay.max hr;have e4:=congrArg ay.opn hr;unfold gZ at e1 e2 e3 e4 ⊢;have e2k:(Aq n ix x).kind=x.kind:=rfl;rw [e2k];rcases hc with hk | hk | hk | hk | hk | hk | hk | hk | hk
 all_goals
  simp [hk,iC] at e1 e2 e3 e4 z1 z2 z3 z4 z5 ⊢;simp [Aq,hk,z1,z2,z3,z4,z5,e1,e2,e3,e4]
section
variable {ts:List ay} (hv:fF ts=0) {t:Nat} (ht:t < ts.length)
include hv ht
theorem aqN {n:Nat} {y:ay} (h:(jk ts t)[n]?=some y):∃ a x,(Ht ts t)[n]?=some a∧ts[a]?=some x∧y=Aq n (ixN ts t) x:=by
 obtain ⟨hr,_,_⟩:=akS (FP hv) ht;have hl:n < (Ht ts t).length:=by rw [← aoS];exact (List.getElem?_eq_some_iff.1 h).1
 have hg:=List.getElem?_eq_getElem hl;have ha:=(hr.lt _ (List.getElem_mem hl)).1;rw [aq9 ts t n _ hg] at h;injection h with h;refine ⟨_,ts[(Ht ts t)[n]],hg,List.getElem?_eq_getElem ha,?_⟩;rw [← h,List.getD_eq_getElem?_getD,List.getElem?_eq_getElem ha];rfl
theorem aDG {a u:Nat} (ha:a ∈ Ht ts t) (hu:u ∈ og ts a):ixN ts t u < (jk ts t).length:=by
 obtain ⟨_,_,hd⟩:=akS (FP hv) ht;rw [aoS];exact List.idxOf_lt_length_of_mem (hd a ha u hu)
theorem auG:(jk ts t).length≤32:=by
 obtain ⟨hr,_,_⟩:=akS (FP hv) ht;rw [aoS];have:=hr.len;have:=(ni hv).1;omega
theorem akP:fF (jk ts t)=0:=by
 have hin:=FP hv;obtain ⟨hr,_,hd⟩:=akS hin ht;unfold fF;rw [if_neg (by have:=auG hv ht;omega)];refine atQ _ _ _ (fun y hy => ?_) (fun _ _ _ h => by simp at h) ?_
 ·
  obtain ⟨n,hn⟩:=List.getElem?_of_mem hy;obtain ⟨a,x,ha,hx,rfl⟩:=aqN hv ht hn;have hln:n < (jk ts t).length:=(List.getElem?_eq_some_iff.1 hn).1;have hsm:=auG hv ht;obtain ⟨hf,_,hk8⟩:=(ni hv).2 x (List.mem_of_getElem? hx);have hf2:=aAk hf n (ixN ts t) (by omega);have hoa:og ts a=outs x:=by unfold og;rw [hx]
  refine ⟨hf2,?_,?_⟩
  ·
   rw [List.all_eq_true];intro u hu;have h9:(Aq n (ixN ts t) x).kind≤9:=(Us hf2).2;have h1:u.toNat ∈ outs (Aq n (ixN ts t) x):=by rw [alr h9];exact List.mem_map_of_mem hu
   rw [avX] at h1;obtain ⟨v,hv1,hv2⟩:=List.mem_map.1 h1;have h2:=aDG hv ht (List.mem_of_getElem? ha) (u:=v) (by rw [hoa];exact hv1);have h3:0≤u:=by
    have hs:=(ni hv).2 x (List.mem_of_getElem? hx);unfold lg at hu;rcases List.mem_append.1 hu with h | h
    ·
     obtain ⟨m,hm,rfl⟩:=List.mem_map.1 h;obtain ⟨m',_,rfl⟩:=List.mem_map.1 hm;exact Int.natCast_nonneg _
    rcases List.mem_append.1 h with h | h
    ·
     split at h
     ·
      next h8 =>
      rw [List.mem_singleton] at h;subst h;show 0≤(if x.kind=8 then ((ixN ts t x.key.toNat:Nat):Int) else x.key);rw [if_pos (show x.kind=8 from h8)];exact Int.natCast_nonneg _
     simp at h
    split at h
    ·
     next h7 =>
     rw [List.mem_singleton] at h;subst h;have h7':7≤x.kind:=h7;have:=(Us hf).2;show 0≤(if x.kind=7∨x.kind=8∨x.kind=9 then ((ixN ts t x.elem.toNat:Nat):Int) else x.elem);rw [if_pos (by omega)];exact Int.natCast_nonneg _
    simp at h
   unfold inB;simp;omega
  rintro ⟨h8,hk⟩;have h8':x.kind=8:=h8;have hkx:akK ts x=true:=by
   cases h:akK ts x with
   | true => rfl
   | false => exact absurd ⟨h8',h⟩ hk8
  obtain ⟨k,hk1,hk2⟩:=(akc hv x (List.mem_of_getElem? hx)).2.2 _ (aon x h8');have hku:k ∈ og ts a:=by rw [hoa,alr (Us hf).2];have:=List.mem_map_of_mem (f:=Int.toNat) (aon x h8');rwa [hk1,Int.toNat_natCast] at this
  have hbk:=auf hin ht hk2 (aqL (hd a (List.mem_of_getElem? ha) k hku));obtain ⟨z,z',hz,hz',hal,_⟩:=abg _ _ _ _ hbk;unfold akK at hk hkx;rw [hk1,akQ,hz] at hkx;have e:(Aq n (ixN ts t) x).key=((ixN ts t k:Nat):Int):=by
   show (if x.kind=8 then ((ixN ts t x.key.toNat:Nat):Int) else x.key)=_;rw [if_pos h8',hk1,Int.toNat_natCast]
  rw [e,akQ] at hk;unfold ixN at hk;rw [hz'] at hk;dsimp only at hk hkx;rw [← hal.kind,hkx] at hk;cases hk
 rw [List.pairwise_iff_getElem];intro i j hi hj hij hne he;have h1:=List.getElem?_eq_getElem hi;have h2:=List.getElem?_eq_getElem hj;obtain ⟨a,x,_,_,e1⟩:=aqN hv ht h1;obtain ⟨b,y,_,_,e2⟩:=aqN hv ht h2;rw [e1,e2] at he;rw [e2] at hne;have n2:(Aq j (ixN ts t) y).name=rF 84 j:=by
  show (if y.name = [] then [] else rF 84 (j:Int))=_;split
  · next h => exact absurd (show (if y.name = [] then [] else rF 84 (j:Int)) = [] by rw [if_pos h]) hne
  rfl
 rw [n2] at he;have n1:(Aq i (ixN ts t) x).name=rF 84 i:=by
  show (if x.name = [] then [] else rF 84 (i:Int))=_;split
  ·
   next h =>
   have:(Aq i (ixN ts t) x).name = []:=show (if x.name = [] then [] else rF 84 (i:Int)) = [] by rw [if_pos h]
   rw [this] at he;exact absurd he.symm (aC5 _ _)
  rfl
 rw [n1] at he;have:=axc (Int.natCast_nonneg i) (Int.natCast_nonneg j) he;omega
end
end Go.Proofs.YtlamhkffnlgofaaGreatDoor
namespace Go.Proofs.YtlamhkffnlgofaaGreatDoor
open Go.ChangeShapes Go.WideShapes Go.ChangeAt Go.RowKit
def QV (x:ay) (id:Int) (K I:Int→Int) (Z:List Mem→Int) (H:Int→Int):Int :=
 if x.kind=4 then (if (qm x id).isSome then 0 else 1)
 else if x.kind=5 then Z x.ah
 else if x.kind=6 then (match dN x id with
  | some i => (match x.ah[i]? with | some m => H m.ty | none => 0)
  | none => 0)
 else if x.kind=7∨x.kind=8∨x.kind=9 then K x.key+I x.elem
 else 0
mutual
def uz (ts:List ay):Val→Int→Int
 | .mk _ _ _ _ id ks is rs,t => match bM ts t with
  | none => 0
  | some x => (rs.length:Int)+QV x id (fun t => Ls ts ks t) (fun t => Ls ts is t) (fun ms => AX ts is ms) (fun t => ab9 ts is t)
def Ls (ts:List ay):List Val→Int→Int
 | [],_ => 0
 | y :: r,t => uz ts y t+Ls ts r t
def AX (ts:List ay):List Val→List Mem→Int
 | y :: r,m :: ms => uz ts y m.ty+AX ts r ms
 | [],_ => 0
 | _ :: _,[] => 0
def ab9 (ts:List ay):List Val→Int→Int
 | [],_ => 0
 | y :: _,t => uz ts y t
end
theorem pI {ts:List ay} {pl:Bool} {v:Val} {t:Int} {x:ay} (hx:bM ts t=some x) (h:cO ts pl v t=true):v.kind=x.kind∧aA v=true∧jT ts pl x v=true:=by
 rw [kG,hx] at h;simp only [Bool.and_eq_true,decide_eq_true_eq] at h;exact h
def F6 (b:Bool):List UInt8:=pJ 9 (if b then 1 else 0)
def MF (m:Mem):Nat:=if m.akb then 1 else if m.eG then 2 else 0
def BN (m:Mem):List UInt8:=pJ 9 m.id.toNat ++ (pJ 9 (MF m) ++ pJ 9 m.ty.toNat)
def akT (n:Int):List UInt8:=pJ 9 (zig n).toNat
def dF (x:ay):List UInt8:=pJ 9 x.kind.toNat ++
 (if x.kind=2 then akT x.low ++ akT x.high
 else if x.kind=3 then pJ 9 x.max.toNat
 else if x.kind=4 then F6 x.opn ++ (pJ 9 x.syms.length ++ x.syms.flatMap fun s => pJ 9 s.1.toNat)
 else if x.kind=5 then pJ 9 x.ah.length ++ x.ah.flatMap BN
 else if x.kind=6 then F6 x.opn ++ (pJ 9 x.ah.length ++ x.ah.flatMap BN)
 else if x.kind=7 then pJ 9 x.max.toNat ++ pJ 9 x.elem.toNat
 else if x.kind=8 then pJ 9 x.max.toNat ++ (pJ 9 x.key.toNat ++ pJ 9 x.elem.toNat)
 else if x.kind=9 then pJ 9 x.elem.toNat
 else [])
def asc:List (List UInt8)→List (List UInt8)→List UInt8
 | a :: r,b :: s => a ++ (b ++ asc r s)
 | _,_ => []
def atT (x:ay) (v:Val) (K I:Int→List (List UInt8)) (Z:List Mem→List UInt8) (H:Int→List UInt8):List UInt8 :=
 if x.kind=1 then F6 v.bool
 else if x.kind=2 then akT v.num
 else if x.kind=3 then pJ 9 v.str.length ++ v.str
 else if x.kind=4 then pJ 9 v.id.toNat
 else if x.kind=5 then Z x.ah
 else if x.kind=6 then pJ 9 v.id.toNat ++ (match dN x v.id with
  | some i => (match x.ah[i]? with | some m => H m.ty | none => [])
  | none => [])
 else pJ 9 v.items.length ++ (if x.kind=8 then asc (K x.key) (I x.elem) else (I x.elem).flatten)
mutual
def gI (ts:List ay):Val→Int→List UInt8
 | .mk k b n s id ks is rs,t => match bM ts t with
  | none => []
  | some x => atT x (.mk k b n s id ks is rs) (fun t => Y0 ts ks t) (fun t => Y0 ts is t) (fun ms => ajD ts is ms) (fun t => anV ts is t)
def Y0 (ts:List ay):List Val→Int→List (List UInt8)
 | [],_ => []
 | y :: r,t => gI ts y t :: Y0 ts r t
def ajD (ts:List ay):List Val→List Mem→List UInt8
 | y :: r,m :: ms => gI ts y m.ty ++ ajD ts r ms
 | [],_ => []
 | _ :: _,[] => []
def anV (ts:List ay):List Val→Int→List UInt8
 | [],_ => []
 | y :: _,t => gI ts y t
end
theorem aqO (ts:List ay) (v:Val) (t:Int) (x:ay) (h:bM ts t=some x):gI ts v t=atT x v (fun t => Y0 ts v.keys t) (fun t => Y0 ts v.items t) (fun ms => ajD ts v.items ms) (fun t => anV ts v.items t):=by
 cases v;rw [gI,h];rfl
def Ap (ts:List ay) (m:Mem):List UInt8:=if m.eG then gI ts m.dflt m.ty else []
def BX (ts:List ay) (x:ay):List UInt8:=x.ah.flatMap (Ap ts)
def Lp (ts:List ay):List UInt8:=pJ 9 ts.length ++ (ts.flatMap dF ++ ts.flatMap (BX ts))
theorem ajU {v w:Val} (h1:v.kind=w.kind) (h2:v.bool=w.bool) (h3:v.num=w.num) (h4:v.str=w.str) (h5:v.id=w.id) (h6:v.keys=w.keys) (h7:v.items=w.items) (h8:v.rest=w.rest):v=w:=by
 cases v;cases w;simp only [Val.kind,Val.bool,Val.num,Val.str,Val.id,Val.keys,Val.items,Val.rest] at *;subst h1 h2 h3 h4 h5 h6 h7 h8;rfl
theorem auH {v:Val} {N:Nat} (h:nodes v≤N+1):(∀ y ∈ v.keys,nodes y≤N)∧∀ y ∈ v.items,nodes y≤N:=by
 have:=atS v;exact ⟨fun y hy => by have:=tY _ y hy;omega,fun y hy => by have:=tY _ y hy;omega⟩
theorem aoa {ts:List ay} {t:Int} {x:ay} (h:bM ts t=some x):x ∈ ts:=by
 unfold bM at h;split at h
 · exact List.mem_of_getElem? h
 cases h
theorem alo {ts:List ay} {pl:Bool} {l:List Val} {t:Int} (h:rC ts pl l t=true):∀ v ∈ l,cO ts pl v t=true:=by
 rw [uT,List.all_eq_true] at h;exact h
theorem asx {ts:List ay} (hv:fF ts=0) {x:ay} (hx:x ∈ ts):(x.kind=3→0≤x.max∧x.max≤200)∧(x.kind=7∨x.kind=8→0≤x.max∧x.max≤50):=by
 have hf:=((ni hv).2 x hx).1;unfold dY at hf;simp only [Bool.and_eq_true] at hf;have ho:=hf.2.1;unfold rD at ho
 constructor
 · intro h;rw [if_neg (by omega),if_pos h] at ho;simpa using ho
 intro h;rw [if_neg (by omega),if_neg (by omega),if_neg (by omega),if_neg (by omega),if_pos h] at ho;simpa using ho
theorem axd:∀ (l:List Raw) (p:Option Int) (S:List (List UInt8)),nO l p S=true→∀ r ∈ l,1≤r.1∧r.1≤1000
 | [],_,_,_,r,hr => by simp at hr
 | a :: l,p,S,h,r,hr => by
  rw [nO] at h;simp only [Bool.and_eq_true] at h;rcases List.mem_cons.1 hr with rfl | hr
  · have:=h.1;unfold mM at this;simpa using this
  exact axd l _ _ h.2.2.2.2 r hr
theorem axe {l:List Raw} (h:nP l=true):l.length≤16∧∀ r ∈ l,1≤r.1∧r.1≤1000:=by
 unfold nP at h;simp only [Bool.and_eq_true,decide_eq_true_eq] at h;exact ⟨h.2,axd l _ _ h.1⟩
theorem av5 {x:ay} (h:dY x=true) (hk:x.kind=4):x.syms.length≤16∧∀ r ∈ x.syms,1≤r.1∧r.1≤1000:=by
 unfold dY rD at h;rw [if_neg (by omega),if_neg (by omega),if_pos hk] at h;simp only [Bool.and_eq_true] at h;have:=h.2.1.2;unfold wu at this;rw [Bool.and_eq_true] at this;exact axe this.2
theorem as2 {x:ay} (h:dY x=true) (hk:x.kind=5∨x.kind=6):x.ah.length≤16∧∀ m ∈ x.ah,(1≤m.id∧m.id≤1000)∧¬ (m.akb=true∧m.eG=true):=by
 unfold dY rD at h;rw [if_neg (by omega),if_neg (by omega),if_neg (by omega),if_pos hk] at h;simp only [Bool.and_eq_true] at h;have:=h.2.1.2;unfold iQ at this;simp only [Bool.and_eq_true] at this;obtain ⟨h1,h2⟩:=axe this.2.2;refine ⟨by simpa using h1,fun m hm => ⟨h2 (bW m) (List.mem_map_of_mem hm),fun hc => ?_⟩⟩;have h3:=List.all_eq_true.1 this.1 m hm;unfold jf at h3;rw [hc.1,hc.2] at h3;simp at h3
theorem av6:∀ (l:List Int) (id:Int) (k j:Nat),nY l id k=some j→id ∈ l
 | [],id,k,j,h => by simp [nY] at h
 | a :: r,id,k,j,h => by
  rw [nY] at h;split at h
  · next e => rw [e];simp
  exact List.mem_cons_of_mem _ (av6 r id (k+1) j h)
theorem auh {ts:List ay} (hv:fF ts=0) {x:ay} (hx:x ∈ ts) (hk:x.kind=4) {id:Int} (h:(qm x id).isSome=true):1≤id∧id≤1000:=by
 cases hs:qm x id with
 | none => rw [hs] at h;cases h
 | some i =>
  unfold qm at hs;obtain ⟨s,hm,rfl⟩:=List.mem_map.1 (av6 _ _ _ _ hs);exact (av5 ((ni hv).2 x hx).1 hk).2 s hm
theorem axf {ts:List ay} (hv:fF ts=0) {x:ay} (hx:x ∈ ts) (hk:x.kind=5∨x.kind=6) {id:Int} {i:Nat} (h:dN x id=some i):1≤id∧id≤1000:=by
 unfold dN at h;obtain ⟨s,hm,rfl⟩:=List.mem_map.1 (av6 _ _ _ _ h);exact ((as2 ((ni hv).2 x hx).1 hk).2 s hm).1
def alp (m:Mem):Int × Bool × Bool × Int:=(m.id,m.akb,m.eG,m.ty)
structure atU (x y:ay):Prop where
 kind:x.kind=y.kind
 low:x.low=y.low
 high:x.high=y.high
 max:x.max=y.max
 opn:x.opn=y.opn
 key:x.key=y.key
 elem:x.elem=y.elem
 syms:x.syms.map Prod.fst=y.syms.map Prod.fst
 ah:x.ah.map alp=y.ah.map alp
def aqZ (m:Mem):Prop:=(1≤m.id∧m.id≤1000)∧(0≤m.ty∧m.ty≤1000)∧¬ (m.akb=true∧m.eG=true)
structure aru (x:ay):Prop where
 form:dY x=true
 ints:I64 x.low∧I64 x.high
 max:0≤x.max∧x.max≤200
 syms:x.syms.length≤16∧∀ q ∈ x.syms,1≤q.1∧q.1≤1000
 ah:x.ah.length≤16∧∀ q ∈ x.ah,aqZ q
 key:0≤x.key∧x.key≤1000
 elem:0≤x.elem∧x.elem≤1000
end Go.Proofs.YtlamhkffnlgofaaGreatDoor

/- Plain: types that are alike, the greatest relation of two schemas. Plain: classes of types, the order of a canonical root. What IsName of both packages computes. A set of strings in a map that the call has made. No condition. -/
import Derived.Test.YtlamhkffnlgofaaGreatDoorHAD
import Derived.Maps.OwnSet
import Derived.Maps.Views
set_option maxHeartbeats 800000
set_option maxRecDepth 100000
namespace Go.Proofs.YtlamhkffnlgofaaGreatDoor
def bn (x:ay):List (Int × Int):=x.ah.map (fun m => (m.id,m.ty)) ++ ((if x.kind=8 then [(0,x.key)] else []) ++ (if x.kind=7∨x.kind=8∨x.kind=9 then [(-1,x.elem)] else []))
def outs (x:ay):List Nat:=(bn x).map fun u => u.2.toNat
def aoW (m:Mem):Int × Bool × Bool × Val:=(m.id,m.akb,m.eG,m.dflt)
structure Alike (x y:ay):Prop where
 kind:x.kind=y.kind
 low:x.low=y.low
 high:x.high=y.high
 max:x.max=y.max
 opn:x.opn=y.opn
 syms:x.syms.map Prod.fst=y.syms.map Prod.fst
 ah:x.ah.map aoW=y.ah.map aoW
theorem Alike.refl (x:ay):Alike x x:=⟨rfl,rfl,rfl,rfl,rfl,rfl,rfl⟩
theorem Alike.symm {x y:ay} (h:Alike x y):Alike y x:=⟨h.1.symm,h.2.symm,h.3.symm,h.4.symm,h.5.symm,h.6.symm,h.7.symm⟩
theorem Alike.trans {x y z:ay} (h:Alike x y) (g:Alike y z):Alike x z:=⟨h.1.trans g.1,h.2.trans g.2,h.3.trans g.3,h.4.trans g.4,h.5.trans g.5,h.6.trans g.6,h.7.trans g.7⟩
theorem Alike.len {x y:ay} (h:Alike x y):x.ah.length=y.ah.length:=by have:=congrArg List.length h.ah;simpa using this
theorem Alike.outs {x y:ay} (h:Alike x y):(outs x).length=(outs y).length:=by
 unfold Go.Proofs.YtlamhkffnlgofaaGreatDoor.outs bn;simp only [List.length_map,List.length_append,h.kind,h.len];split <;> split <;> rfl
def Closed (ts us:List ay) (R:Nat→Nat→Prop):Prop :=
 ∀ i k,R i k→∃ x y,ts[i]?=some x∧us[k]?=some y∧Alike x y∧∀ (j a b:Nat),(outs x)[j]?=some a→(outs y)[j]?=some b→R a b
def Y5 (ts us:List ay) (i k:Nat):Prop := ∃ R,Closed ts us R∧R i k
theorem abg (ts us:List ay):Closed ts us (Y5 ts us):=by
 rintro i k ⟨R,hR,h⟩;obtain ⟨x,y,hx,hy,ha,hj⟩:=hR i k h;exact ⟨x,y,hx,hy,ha,fun j a b h1 h2 => ⟨R,hR,hj j a b h1 h2⟩⟩
theorem Y5.lt {ts us:List ay} {i k:Nat} (h:Y5 ts us i k):i < ts.length∧k < us.length:=by
 obtain ⟨x,y,hx,hy,_⟩:=abg ts us i k h;exact ⟨(List.getElem?_eq_some_iff.1 hx).1,(List.getElem?_eq_some_iff.1 hy).1⟩
def Inside (ts:List ay):Prop := ∀ x ∈ ts,∀ u ∈ outs x,u < ts.length
theorem Y5.refl {ts:List ay} (hin:Inside ts) {i:Nat} (h:i < ts.length):Y5 ts ts i i:=by
 refine ⟨fun a b => a=b∧a < ts.length,?_,rfl,h⟩;rintro a _ ⟨rfl,ha⟩;refine ⟨ts[a],ts[a],List.getElem?_eq_getElem ha,List.getElem?_eq_getElem ha,Alike.refl _,fun j c d h1 h2 => ?_⟩;rw [h1] at h2;injection h2 with h2;exact ⟨h2,hin _ (List.getElem_mem ha) c (List.mem_of_getElem? h1)⟩
theorem Y5.symm {ts us:List ay} {i k:Nat} (h:Y5 ts us i k):Y5 us ts k i:=by
 refine ⟨fun a b => Y5 ts us b a,fun a b hb => ?_,h⟩;obtain ⟨x,y,hx,hy,ha,hj⟩:=abg ts us b a hb;exact ⟨y,x,hy,hx,ha.symm,fun j c d h1 h2 => hj j d c h2 h1⟩
theorem Y5.trans {ts us vs:List ay} {i k l:Nat} (h:Y5 ts us i k) (g:Y5 us vs k l):Y5 ts vs i l:=by
 refine ⟨fun a c => ∃ b,Y5 ts us a b∧Y5 us vs b c,?_,k,h,g⟩;rintro a c ⟨b,h1,h2⟩;obtain ⟨x,y,hx,hy,ha,hj⟩:=abg ts us a b h1;obtain ⟨y',z,hy',hz,hb,hl⟩:=abg us vs b c h2;rw [hy] at hy';injection hy' with hy';subst hy';refine ⟨x,z,hx,hz,ha.trans hb,fun j p q h3 h4 => ?_⟩;have hlt:j < (Go.Proofs.YtlamhkffnlgofaaGreatDoor.outs y).length:=by rw [← ha.outs];exact (List.getElem?_eq_some_iff.1 h3).1
 exact ⟨_,hj j p _ h3 (List.getElem?_eq_getElem hlt),hl j _ q (List.getElem?_eq_getElem hlt) h4⟩
abbrev Tab:=List (List Bool)
def Tab.at_ (M:Tab) (i k:Nat):Bool:=(M.getD i []).getD k false
def Tab.off (M:Tab) (i k:Nat):Tab:=M.set i ((M.getD i []).set k false)
def Tab.cnt (M:Tab):Nat:=(M.map fun r => r.count true).sum
def Tab.shape (M:Tab) (n m:Nat):Prop:=M.length=n∧∀ (i:Nat) (h:i < M.length),M[i].length=m
theorem Tab.ay1 (M:Tab) (i k a b:Nat):(M.off i k).at_ a b=if a=i∧b=k then false else M.at_ a b:=by
 unfold Tab.off Tab.at_;by_cases ha:a=i
 ·
  subst ha;by_cases hl:a < M.length
  ·
   have h1:(M.set a ((M.getD a []).set k false)).getD a []=(M.getD a []).set k false:=by simp [List.getD,hl]
   rw [h1];by_cases hb:b=k
   ·
    subst hb;rw [if_pos ⟨rfl,rfl⟩];show ((M.getD a []).set b false)[b]?.getD false=false;rw [List.getElem?_set];split
    · split <;> rfl
    next h => exact absurd rfl h
   rw [if_neg (fun h => hb h.2)];show ((M.getD a []).set k false)[b]?.getD false=_;rw [List.getElem?_set,if_neg (fun h => hb h.symm)]
   rfl
  have h1:M.set a ((M.getD a []).set k false)=M:=List.set_eq_of_length_le (Nat.le_of_not_lt hl);rw [h1];split
  ·
   show ((M[a]?).getD [])[b]?.getD false=false;rw [List.getElem?_eq_none (Nat.le_of_not_lt hl)];rfl
  rfl
 rw [if_neg (fun h => ha h.1)];show ((M.set i ((M.getD i []).set k false))[a]?.getD [])[b]?.getD false=_;rw [List.getElem?_set,if_neg (fun h => ha h.symm)]
 rfl
theorem Tab.aur {M:Tab} {n m:Nat} (h:M.shape n m) (i k:Nat):(M.off i k).shape n m:=by
 refine ⟨by unfold Tab.off;rw [List.length_set];exact h.1,fun a ha => ?_⟩;have ha':a < M.length:=by unfold Tab.off at ha;rwa [List.length_set] at ha
 have hg:(M.off i k)[a]=if i=a then (M.getD i []).set k false else M[a]:=List.getElem_set (l:=M) (i:=i) (a:=(M.getD i []).set k false) (j:=a) ha
 rw [hg];split
 · next e => subst e;rw [List.length_set];simp [List.getD,ha',h.2]
 exact h.2 a ha'
theorem ay2 (r:List Bool) (k:Nat) (h:r.getD k false=true):(r.set k false).count true+1=r.count true:=by
 induction r generalizing k with
 | nil => simp [List.getD] at h
 | cons b r ih =>
  cases k with
  | zero =>
   simp [List.getD] at h;subst h;simp
  | succ k =>
   have h2:=ih k (by simpa [List.getD] using h);rw [List.set_cons_succ,List.count_cons,List.count_cons];omega
theorem aBx (l:List Nat) (i x:Nat) (h:i < l.length):(l.set i x).sum+l[i]=l.sum+x:=by
 induction l generalizing i with
 | nil => simp at h
 | cons a r ih =>
  cases i with
  | zero => simp;omega
  | succ i =>
   have:=ih i (by simpa using h);simp only [List.set_cons_succ,List.sum_cons,List.getElem_cons_succ];omega
theorem Tab.awT {M:Tab} {i k:Nat} (h:M.at_ i k=true):(M.off i k).cnt+1=M.cnt:=by
 unfold Tab.at_ at h;by_cases hl:i < M.length
 ·
  have hg:M.getD i []=M[i]:=by simp [List.getD,hl]
  rw [hg] at h;have h1:=ay2 _ _ h;have h2:=aBx (M.map fun r => r.count true) i ((M[i].set k false).count true) (by simpa using hl);unfold Tab.cnt Tab.off;rw [List.map_set,hg];simp only [List.getElem_map] at h2;omega
 rw [show M.getD i [] = [] by simp [List.getD,List.getElem?_eq_none (Nat.le_of_not_lt hl)]] at h;simp [List.getD] at h
def Sound (ts us:List ay) (M:Tab):Prop := ∀ i k,Y5 ts us i k→M.at_ i k=true
def Marks (ts us:List ay) (M:Tab):Prop := ∀ i k,M.at_ i k=true→∃ x y,ts[i]?=some x∧us[k]?=some y∧Alike x y
def aoX (M:Tab) (a b:List Nat):Bool:=(a.zip b).all fun p => M.at_ p.1 p.2
theorem avP {M:Tab} {a b:List Nat} : aoX M a b=true↔∀ (j c d:Nat),a[j]?=some c→b[j]?=some d→M.at_ c d=true:=by
 unfold aoX;rw [List.all_eq_true]
 constructor
 ·
  intro h j c d h1 h2;have h3:(c,d) ∈ a.zip b:=by
   refine List.mem_of_getElem? (i:=j) ?_;rw [List.getElem?_zip_eq_some];exact ⟨h1,h2⟩
  exact h _ h3
 rintro h ⟨c,d⟩ hm;obtain ⟨j,hj⟩:=List.getElem?_of_mem hm;rw [List.getElem?_zip_eq_some] at hj;exact h j c d hj.1 hj.2
theorem Sound.off {ts us:List ay} {M:Tab} (h:Sound ts us M) {i k:Nat} {x y:ay} (hx:ts[i]?=some x) (hy:us[k]?=some y) (hr:aoX M (outs x) (outs y)=false):Sound ts us (M.off i k):=by
 intro a b hb;rw [Tab.ay1];split
 ·
  next e =>
  obtain ⟨rfl,rfl⟩:=e;obtain ⟨x',y',hx',hy',_,hj⟩:=abg ts us a b hb;rw [hx] at hx';injection hx' with hx';subst hx';rw [hy] at hy';injection hy' with hy';subst hy';have:aoX M (outs x) (outs y)=true:=avP.2 fun j c d h1 h2 => h c d (hj j c d h1 h2);rw [hr] at this;cases this
 exact h a b hb
theorem Marks.off {ts us:List ay} {M:Tab} (h:Marks ts us M) (i k:Nat):Marks ts us (M.off i k):=by
 intro a b hb;rw [Tab.ay1] at hb;split at hb
 · cases hb
 exact h a b hb
def aly (ts us:List ay) (M:Tab) (i k:Nat):Prop := ∀ a b x y,(a < i∨a=i∧b < k)→M.at_ a b=true→ts[a]?=some x→us[b]?=some y→aoX M (outs x) (outs y)=true
theorem aBy {ts us:List ay} {M:Tab} (h:Sound ts us M) (hm:Marks ts us M) (hs:aly ts us M ts.length 0) (i k:Nat):M.at_ i k=true↔Y5 ts us i k:=by
 refine ⟨fun hb => ⟨fun a b => M.at_ a b=true,fun a b hab => ?_,hb⟩,h i k⟩;obtain ⟨x,y,hx,hy,ha⟩:=hm a b hab;exact ⟨x,y,hx,hy,ha,avP.1 (hs a b x y (.inl (List.getElem?_eq_some_iff.1 hx).1) hab hx hy)⟩
noncomputable def aoY (ts us:List ay) (i k:Nat):Bool:=@decide (Y5 ts us i k) (Classical.propDecidable _)
theorem aop {ts us:List ay} {i k:Nat} : aoY ts us i k=true↔Y5 ts us i k:=by
 unfold aoY;exact @decide_eq_true_iff _ (Classical.propDecidable _)
theorem avg {ts us:List ay} {M:Tab} (h:Sound ts us M) (hm:Marks ts us M) (hs:aly ts us M ts.length 0) (i k:Nat):M.at_ i k=aoY ts us i k:=by
 have h1:=aBy h hm hs i k;cases hb:aoY ts us i k with
 | true => exact h1.2 (aop.1 hb)
 | false =>
  cases hc:M.at_ i k with
  | true => rw [aop.2 (h1.1 hc)] at hb;cases hb
  | false => rfl
theorem aly.next {ts us:List ay} {M:Tab} {i k:Nat} {x y:ay} (h:aly ts us M i k) (hx:ts[i]?=some x) (hy:us[k]?=some y) (hr:M.at_ i k=true→aoX M (outs x) (outs y)=true):aly ts us M i (k+1):=by
 intro a b x' y' hab hm hx' hy';rcases hab with h1 | ⟨rfl,h1⟩
 · exact h a b x' y' (.inl h1) hm hx' hy'
 rcases Nat.lt_or_ge b k with h2 | h2
 · exact h a b x' y' (.inr ⟨rfl,h2⟩) hm hx' hy'
 obtain rfl:b=k:=by omega
 rw [hx] at hx';injection hx' with hx';subst hx';rw [hy] at hy';injection hy' with hy';subst hy';exact hr hm
theorem aly.row {ts us:List ay} {M:Tab} {i:Nat} (h:aly ts us M i us.length):aly ts us M (i+1) 0:=by
 intro a b x y hab hm hx hy;rcases hab with h1 | ⟨_,h1⟩
 ·
  rcases Nat.lt_or_ge a i with h2 | h2
  · exact h a b x y (.inl h2) hm hx hy
  exact h a b x y (.inr ⟨by omega,(List.getElem?_eq_some_iff.1 hy).1⟩) hm hx hy
 omega
def og (ts:List ay) (a:Nat):List Nat:=match ts[a]? with | some x => outs x | none => []
theorem ar9 {ts:List ay} (hin:Inside ts) (a:Nat):∀ u ∈ og ts a,u < ts.length:=by
 intro u hu;unfold og at hu;cases h:ts[a]? with
 | none => rw [h] at hu;simp at hu
 | some x => rw [h] at hu;exact hin x (List.mem_of_getElem? h) u hu
noncomputable def rowB (ts us:List ay) (i:Nat):List Bool:=(List.range us.length).map (aoY ts us i)
noncomputable def dR (ts:List ay) (i:Nat):Nat:=(rowB ts ts i).findIdx (fun b => b)
theorem alG (ts us:List ay) (i:Nat):(rowB ts us i).length=us.length:=by unfold rowB;simp
theorem arK (ts us:List ay) (i k:Nat) (h:k < (rowB ts us i).length):(rowB ts us i)[k]=aoY ts us i k:=by
 have h2:(rowB ts us i)[k]=aoY ts us i ((List.range us.length)[k]'(by rw [alG] at h;simpa using h)):=List.getElem_map ..;rw [h2,List.getElem_range]
section
variable {ts us:List ay} (hin:Inside ts) {i k:Nat}
include hin
theorem aqA (hi:i < ts.length):dR ts i < ts.length:=by
 unfold dR;have h:(rowB ts ts i).findIdx (fun b => b) < (rowB ts ts i).length:=by
  refine List.findIdx_lt_length_of_exists ⟨true,?_,rfl⟩;have h2:i < (rowB ts ts i).length:=by rw [alG];exact hi
  have h3:=arK ts ts i i h2;rw [aop.2 (Y5.refl hin hi)] at h3;rw [← h3];exact List.getElem_mem h2
 rwa [alG] at h
theorem alk (hi:i < ts.length):Y5 ts ts i (dR ts i):=by
 have h:=aqA hin hi;have h2:(rowB ts ts i).findIdx (fun b => b) < (rowB ts ts i).length:=by rw [alG];exact h
 have h3:=List.findIdx_getElem (w:=h2);rw [arK] at h3;exact aop.1 h3
omit hin in
theorem atO (h:Y5 ts ts i k):dR ts i≤k:=by
 rcases Nat.lt_or_ge k (dR ts i) with h2 | h2
 ·
  have h4:k < (rowB ts ts i).length:=by rw [alG];exact h.lt.2
  have h3:=List.not_of_lt_findIdx (p:=fun b => b) (xs:=rowB ts ts i) (i:=k) h2;rw [arK,aop.2 h] at h3;cases h3
 exact h2
theorem atP (h:Y5 ts ts i k):dR ts i=dR ts k:=by
 have h1:=atO (h.trans (alk hin h.lt.2));have h2:=atO (h.symm.trans (alk hin h.lt.1));omega
theorem axa (hi:i < ts.length):dR ts (dR ts i)=dR ts i:=(atP hin (alk hin hi)).symm
end
def ajJ (c:Nat→Nat):List Nat→List Nat→List Nat
 | f,[] => f
 | f,u :: us => ajJ c (if c u ∈ f then f else f ++ [c u]) us
def bfs (c:Nat→Nat) (o:Nat→List Nat):Nat→Nat→List Nat→List Nat
 | 0,_,f => f
 | k+1,n,f => match f[n]? with
  | none => f
  | some a => bfs c o k (n+1) (ajJ c f (o a))
noncomputable def Ht (ts:List ay) (t:Nat):List Nat:=bfs (dR ts) (og ts) ts.length 0 [dR ts t]
structure aj1 (ts:List ay) (f:List Nat):Prop where
 nodup:f.Nodup
 lt:∀ a ∈ f,a < ts.length∧dR ts a=a
theorem aAf {n:Nat} : ∀ (f:List Nat),f.Nodup→(∀ a ∈ f,a < n)→f.length≤n:=by
 induction n with
 | zero => intro f _ h;cases f with | nil => simp | cons a r => exact absurd (h a (by simp)) (by omega)
 | succ n ih =>
  intro f hn h;have h1:=ih (f.erase n) (hn.erase n) (fun a ha => by
   have h2:=h a (List.mem_of_mem_erase ha);have h3:a≠n:=fun e => by subst e;exact (List.Nodup.not_mem_erase hn) ha
   omega)
  have h2:=List.length_erase (a:=n) (l:=f);split at h2 <;> omega
theorem aj1.len {ts:List ay} {f:List Nat} (h:aj1 ts f):f.length≤ts.length:=aAf f h.nodup fun a ha => (h.lt a ha).1
theorem aj1.add1 {ts:List ay} (hin:Inside ts) {f:List Nat} (h:aj1 ts f) {u:Nat} (hu:u < ts.length):aj1 ts (if dR ts u ∈ f then f else f ++ [dR ts u]):=by
 split
 · exact h
 next hn =>
 refine ⟨?_,?_⟩
 ·
  rw [List.nodup_append];refine ⟨h.nodup,by simp,?_⟩;intro a ha b hb e;rw [List.mem_singleton] at hb;subst hb;subst e;exact hn ha
 intro a ha;rcases List.mem_append.1 ha with ha | ha
 · exact h.lt a ha
 rw [List.mem_singleton] at ha;subst ha;exact ⟨aqA hin hu,axa hin hu⟩
theorem aj1.add {ts:List ay} (hin:Inside ts):∀ (us:List Nat) {f:List Nat},aj1 ts f→(∀ u ∈ us,u < ts.length)→aj1 ts (ajJ (dR ts) f us)
 | [],_,h,_ => by rw [ajJ];exact h
 | u :: us,f,h,hu => by rw [ajJ];exact aj1.add hin us (h.add1 hin (hu u (by simp))) fun v hv => hu v (by simp [hv])
theorem aok (c:Nat→Nat):∀ (us f:List Nat),∃ r,ajJ c f us=f ++ r
 | [],f => ⟨[],by rw [ajJ];simp⟩
 | u :: us,f => by
  rw [ajJ];split
  · exact aok c us f
  obtain ⟨r,hr⟩:=aok c us (f ++ [c u]);exact ⟨c u :: r,by rw [hr];simp⟩
theorem avQ (c:Nat→Nat):∀ (us f:List Nat) (u:Nat),u ∈ us→c u ∈ ajJ c f us
 | [],_,_,h => by simp at h
 | v :: us,f,u,h => by
  rw [ajJ];rcases List.mem_cons.1 h with rfl | h
  ·
   obtain ⟨r,hr⟩:=aok c us (if c u ∈ f then f else f ++ [c u]);rw [hr];refine List.mem_append_left _ ?_;split <;> simp_all
  exact avQ c us _ u h
def asa (c:Nat→Nat) (o:Nat→List Nat) (n:Nat) (f:List Nat):Prop := ∀ (j a:Nat),j < n→f[j]?=some a→∀ u ∈ o a,c u ∈ f
theorem asa.next {c:Nat→Nat} {o:Nat→List Nat} {n a:Nat} {f:List Nat} (h:asa c o n f) (ha:f[n]?=some a):asa c o (n+1) (ajJ c f (o a)):=by
 obtain ⟨r,hr⟩:=aok c (o a) f;intro j b hj hb u hu;have hl:n < f.length:=(List.getElem?_eq_some_iff.1 ha).1;rw [hr,List.getElem?_append_left (by omega)] at hb;rcases Nat.lt_or_ge j n with h1 | h1
 · rw [hr];exact List.mem_append_left _ (h j b h1 hb u hu)
 obtain rfl:j=n:=by omega
 rw [ha] at hb;injection hb with hb;subst hb;exact avQ c _ f u hu
theorem avR {ts:List ay} (hin:Inside ts):∀ (k n:Nat) (f:List Nat),aj1 ts f→ts.length≤k+n→asa (dR ts) (og ts) n f→aj1 ts (bfs (dR ts) (og ts) k n f)∧(∃ r,bfs (dR ts) (og ts) k n f=f ++ r)∧asa (dR ts) (og ts) (bfs (dR ts) (og ts) k n f).length (bfs (dR ts) (og ts) k n f)
 | 0,n,f,h,hk,hd => by
  rw [bfs];refine ⟨h,⟨[],by simp⟩,fun j a hj => hd j a ?_⟩;have:=h.len;omega
 | k+1,n,f,h,hk,hd => by
  rw [bfs];cases hf:f[n]? with
  | none =>
   simp only;refine ⟨h,⟨[],by simp⟩,fun j a hj => hd j a ?_⟩;have:=List.getElem?_eq_none_iff.1 hf;omega
  | some a =>
   simp only;obtain ⟨h1,⟨r,h2⟩,h3⟩:=avR hin k (n+1) (ajJ (dR ts) f (og ts a)) (h.add hin _ (ar9 hin a)) (by omega) (hd.next hf);obtain ⟨q,hq⟩:=aok (dR ts) (og ts a) f;exact ⟨h1,⟨q ++ r,by rw [h2,hq];simp⟩,h3⟩
section
variable {ts:List ay} (hin:Inside ts) {t:Nat} (ht:t < ts.length)
include hin ht
theorem arp:aj1 ts [dR ts t]:=⟨by simp,fun a ha => by rw [List.mem_singleton] at ha;subst ha;exact ⟨aqA hin ht,axa hin ht⟩⟩
theorem akS:aj1 ts (Ht ts t)∧(∃ r,Ht ts t=dR ts t :: r)∧∀ a ∈ Ht ts t,∀ u ∈ og ts a,dR ts u ∈ Ht ts t:=by
 obtain ⟨h1,⟨r,h2⟩,h3⟩:=avR hin ts.length 0 [dR ts t] (arp hin ht) (by omega) (fun j a h => by omega);refine ⟨h1,⟨r,h2⟩,fun a ha u hu => ?_⟩;obtain ⟨j,hj⟩:=List.getElem?_of_mem ha;exact h3 j a (List.getElem?_eq_some_iff.1 hj).1 hj u hu
theorem aAg:(Ht ts t)[0]?=some (dR ts t):=by
 obtain ⟨_,⟨r,h⟩,_⟩:=akS hin ht;rw [h];rfl
end
def Cor (ts us:List ay) (f g:List Nat):Prop:=f.length=g.length∧∀ (n a b:Nat),f[n]?=some a→g[n]?=some b→Y5 ts us a b
section
variable {ts us:List ay} (hts:Inside ts) (hus:Inside us)
include hts hus
theorem Cor.mem {f g:List Nat} (h:Cor ts us f g) (_:aj1 ts f) (hg:aj1 us g) {u v:Nat} (huv:Y5 ts us u v) (hm:dR ts u ∈ f):dR us v ∈ g:=by
 obtain ⟨n,hn⟩:=List.getElem?_of_mem hm;have hl:n < g.length:=by rw [← h.1];exact (List.getElem?_eq_some_iff.1 hn).1
 have hgn:=List.getElem?_eq_getElem hl;have h1:=h.2 n _ _ hn hgn;have h2:Y5 us us v g[n]:=(huv.symm.trans (alk hts huv.lt.1)).trans h1;have h3:=atP hus h2;rw [h3,(hg.lt _ (List.getElem_mem hl)).2];exact List.getElem_mem hl
theorem Cor.add1 {f g:List Nat} (h:Cor ts us f g) (hf:aj1 ts f) (hg:aj1 us g) {u v:Nat} (huv:Y5 ts us u v):Cor ts us (if dR ts u ∈ f then f else f ++ [dR ts u]) (if dR us v ∈ g then g else g ++ [dR us v]):=by
 have hs:Cor us ts g f:=⟨h.1.symm,fun n a b h1 h2 => (h.2 n b a h2 h1).symm⟩
 by_cases h1:dR ts u ∈ f
 · rw [if_pos h1,if_pos (Cor.mem hts hus h hf hg huv h1)];exact h
 rw [if_neg h1,if_neg (fun h2 => h1 (Cor.mem hus hts hs hg hf huv.symm h2))];refine ⟨by simp [h.1],fun n a b ha hb => ?_⟩;rcases Nat.lt_or_ge n f.length with h2 | h2
 ·
  rw [List.getElem?_append_left h2] at ha;rw [List.getElem?_append_left (by rw [← h.1];exact h2)] at hb;exact h.2 n a b ha hb
 rw [List.getElem?_append_right h2] at ha;rw [List.getElem?_append_right (by rw [← h.1];exact h2),← h.1] at hb;cases hn:n - f.length with
 | zero =>
  rw [hn] at ha hb;simp at ha hb;subst ha;subst hb;exact ((alk hts huv.lt.1).symm.trans huv).trans (alk hus huv.lt.2)
 | succ j => rw [hn] at ha;simp at ha
theorem Cor.add:∀ (xs ys:List Nat) {f g:List Nat},Cor ts us f g→aj1 ts f→aj1 us g→xs.length=ys.length→(∀ (j a b:Nat),xs[j]?=some a→ys[j]?=some b→Y5 ts us a b)→Cor ts us (ajJ (dR ts) f xs) (ajJ (dR us) g ys)
 | [],[],_,_,h,_,_,_,_ => by rw [ajJ,ajJ];exact h
 | x :: xs,y :: ys,f,g,h,hf,hg,hl,hb => by
  rw [ajJ,ajJ];have h0:=hb 0 x y rfl rfl;exact Cor.add xs ys (Cor.add1 hts hus h hf hg h0) (hf.add1 hts h0.lt.1) (hg.add1 hus h0.lt.2) (by simpa using hl) fun j a b h1 h2 => hb (j+1) a b (by simpa using h1) (by simpa using h2)
 | [],_ :: _,_,_,_,_,_,hl,_ => by simp at hl
 | _ :: _,[],_,_,_,_,_,hl,_ => by simp at hl
theorem axb:∀ (k1 k2 n:Nat) {f g:List Nat},Cor ts us f g→aj1 ts f→aj1 us g→ts.length≤k1+n→us.length≤k2+n→Cor ts us (bfs (dR ts) (og ts) k1 n f) (bfs (dR us) (og us) k2 n g)
 | 0,k2,n,f,g,h,hf,hg,h1,h2 => by
  have hn:f[n]?=none:=List.getElem?_eq_none (by have:=hf.len;omega);have hm:g[n]?=none:=List.getElem?_eq_none (by rw [← h.1];have:=hf.len;omega);cases k2 with
  | zero => rw [bfs,bfs];exact h
  | succ k2 => rw [bfs,bfs,hm];exact h
 | k1+1,0,n,f,g,h,hf,hg,h1,h2 => by
  have hm:g[n]?=none:=List.getElem?_eq_none (by have:=hg.len;omega);have hn:f[n]?=none:=List.getElem?_eq_none (by rw [h.1];have:=hg.len;omega);rw [bfs,bfs,hn];exact h
 | k1+1,k2+1,n,f,g,h,hf,hg,h1,h2 => by
  rw [bfs,bfs];cases hn:f[n]? with
  | none =>
   have hm:g[n]?=none:=by rw [List.getElem?_eq_none_iff] at hn ⊢; rw [← h.1];exact hn
   rw [hm];exact h
  | some a =>
   have hl:n < g.length:=by rw [← h.1];exact (List.getElem?_eq_some_iff.1 hn).1
   rw [List.getElem?_eq_getElem hl];have hab:=h.2 n a _ hn (List.getElem?_eq_getElem hl);obtain ⟨x,y,hx,hy,hal,hj⟩:=abg ts us _ _ hab;have ox:og ts a=outs x:=by unfold og;rw [hx]
   have oy:og us g[n]=outs y:=by unfold og;rw [hy]
   simp only;refine axb k1 k2 (n+1) (Cor.add hts hus _ _ h hf hg (by rw [ox,oy];exact hal.outs) (by rw [ox,oy];exact hj)) (hf.add hts _ (ar9 hts a)) (hg.add hus _ (ar9 hus _)) (by omega) (by omega)
theorem aBz {i k:Nat} (h:Y5 ts us i k):Cor ts us (Ht ts i) (Ht us k):=by
 refine axb hts hus ts.length us.length 0 ⟨rfl,fun n a b ha hb => ?_⟩ (arp hts h.lt.1) (arp hus h.lt.2) (by omega) (by omega);cases n with
 | zero =>
  simp at ha hb;subst ha;subst hb;exact ((alk hts h.lt.1).symm.trans h).trans (alk hus h.lt.2)
 | succ n => simp at ha
end
end Go.Proofs.YtlamhkffnlgofaaGreatDoor
namespace Go.Proofs.YtlamhkffnlgofaaGreatDoor
open Go.ChangeShapes Go.WideShapes Go.ChangeAt Go.RowKit
def Cj (c:UInt8):Bool:=c.toNat == 95 || (decide (97≤c.toNat) && decide (c.toNat≤122)) || (decide (65≤c.toNat) && decide (c.toNat≤90))
def Ih (c:UInt8):Bool:=decide (48≤c.toNat) && decide (c.toNat≤57)
def nameB (l:List UInt8):Bool:=decide (0 < l.length) && (decide (l.length≤24) && (Cj (l.headD 0) && l.all (fun c => Cj c || Ih c)))
theorem zEj {p:Prop} (h:p:=by
 go_wp2
 all_goals
  go_ret;refine ⟨au ?_,rfl⟩;rw [Bool.eq_iff_iff];simp;try omega):p:=h
theorem VJ (c:UInt8) (w:World):Calls Tryz.prog 144 #[B8 c] w fun e w' => e = .returned (.bool (Cj c))∧w=w':=by
 have h0:c.toNat < 256:=c.toNat_lt;unfold B8;unfold Cj;generalize c.toNat=n at *;go_enter Tryz.func144,Tryz.ntmps144
 exact zEj
theorem TU (c:UInt8) (w:World):Calls Tryz.prog 171 #[B8 c] w fun e w' => e = .returned (.bool (Cj c))∧w=w':=by
 have h0:c.toNat < 256:=c.toNat_lt;unfold B8;unfold Cj;generalize c.toNat=n at *;go_enter Tryz.func171,Tryz.ntmps171
 exact zEj
theorem ad7 (c:UInt8) (w:World):Calls Tryz.prog 145 #[B8 c] w fun e w' => e = .returned (.bool (Ih c))∧w=w':=by
 have h0:c.toNat < 256:=c.toNat_lt;unfold B8;unfold Ih;generalize c.toNat=n at *;go_enter Tryz.func145,Tryz.ntmps145
 exact zEj
theorem abS (c:UInt8) (w:World):Calls Tryz.prog 172 #[B8 c] w fun e w' => e = .returned (.bool (Ih c))∧w=w':=by
 have h0:c.toNat < 256:=c.toNat_lt;unfold B8;unfold Ih;generalize c.toNat=n at *;go_enter Tryz.func172,Tryz.ntmps172
 exact zEj
theorem Jo (l:List UInt8) (k:Nat) (h:k < l.length):∃ (b:UInt8) (r:List UInt8),l.drop k=b :: r∧({ data:=l.toArray } : ByteArray)[k]'(by simpa [ByteArray.size] using h)=b∧l.drop (k+1)=r:=by
 refine ⟨l[k],l.drop (k+1),List.drop_eq_getElem_cons h,?_,rfl⟩;show l.toArray[k]=_;simp
theorem SC (l:List UInt8) (h:l.length=0∨24 < l.length):nameB l=false:=by
 unfold nameB;rcases h with h | h
 · rw [decide_eq_false (by omega)];rfl
 rw [decide_eq_false (p:=l.length≤24) (by omega)];simp
theorem VK (l:List UInt8) (c:UInt8) (r:List UInt8) (h:0 < l.length) (h2:l.length≤24) (hd:l.drop 0=c :: r):nameB l=(Cj c && l.all (fun c => Cj c || Ih c)):=by
 rw [List.drop_zero] at hd;unfold nameB;rw [decide_eq_true h,decide_eq_true h2,hd];rfl
theorem zIy {p:Prop} (h:p:=by
 rintro e w2 ⟨rfl,rfl⟩;go_wp2_with fail;go_round
 case rel => exact ⟨k+1,by omega,by go_num,Hp.out⟩
 case measure => simp [intOf];omega):p:=h
theorem zCe {p:Prop} (h:p:=by
 clear hd2 hr2;cases hlb:Cj b with
 | true =>
  rw [hlb] at hLb hp;rw [Bool.true_or,Bool.true_and] at hp;have Gy:=hiQ hLb;have Hp:=hiQ hp;clear hLb FC hp hlb;go_wp2_with fail;refine (Gy.out _).mono ?_;exact zIy
 | false =>
  cases hdb:Ih b with
  | true =>
   rw [hlb] at hLb hp;rw [hdb] at FC hp;rw [Bool.or_true,Bool.true_and] at hp;have Gy:=hiQ hLb;have VL:=hiQ FC;have Hp:=hiQ hp;clear hLb FC hp hlb hdb;go_wp2_with fail;refine (Gy.out _).mono ?_;rintro e w2 ⟨rfl,rfl⟩;go_wp2_with fail;refine (VL.out _).mono ?_;exact zIy
  | false =>
   rw [hlb] at hLb hp;rw [hdb] at FC hp;rw [Bool.or_false,Bool.false_and] at hp;have Gy:=hiQ hLb;have VL:=hiQ FC;have Hp:=hiQ hp;clear hLb FC hp hlb hdb;go_wp2_with fail;refine (Gy.out _).mono ?_;rintro e w2 ⟨rfl,rfl⟩;go_wp2_with fail;refine (VL.out _).mono ?_;rintro e w2 ⟨rfl,rfl⟩;go_wp2_with fail;go_ret;exact ⟨au Hp.out.symm,rfl⟩):p:=h
theorem zGb {p:Prop} (h:p:=by
 rw [List.drop_eq_nil_of_le (by omega)] at hp;have Hp:=hiQ hp;clear hp;go_wp2_with fail;go_ret;exact ⟨au (by rw [Hp.out];rfl),rfl⟩):p:=h
theorem zGc {p:Prop} (h:p:=by
 go_wp2_with fail;refine (HL.out _).mono ?_;rintro e w2 ⟨rfl,rfl⟩;go_wp2_with fail;go_ret;exact ⟨au (by rw [Hn.out];rfl),rfl⟩):p:=h
theorem yj (l:List UInt8) (w:World):Calls Tryz.prog 117 #[.string ⟨l.toArray⟩] w fun e w' => e = .returned (.bool (nameB l))∧w=w':=by
 by_cases h0:l.length=0
 ·
  obtain rfl:l = []:=List.eq_nil_of_length_eq_zero h0;go_enter Tryz.func117,Tryz.ntmps117
  go_wp2
  go_ret;exact ⟨rfl,rfl⟩
 have hne:¬ l = []:=fun h => h0 (by rw [h];rfl);by_cases hl:24 < l.length
 ·
  have hn:=hiQ (SC l (.inr hl));go_enter Tryz.func117,Tryz.ntmps117
  go_wp2
  go_ret;exact ⟨au hn.out.symm,rfl⟩
 have hl1:0 < l.length:=by omega
 have hl2:(l.length:Int)≤24:=by omega
 have hie:l.isEmpty=false:=by cases l with | nil => exact absurd rfl hne | cons _ _ => rfl
 have h24:decide (24 < (l.length:Int))=false:=decide_eq_false (by omega);obtain ⟨c,r,hd,hb,-⟩:=Jo l 0 hl1;have hn:=VK l c r hl1 (by omega) hd;have hL:=fun W => VJ c W;clear hd h0 hl;cases hc:Cj c with
 | false =>
  rw [hc] at hL hn;have HL:=hiQ hL;have Hn:=hiQ hn;clear hL hc hn;go_enter Tryz.func117,Tryz.ntmps117
  exact zGc
 | true =>
  rw [hc] at hL hn;rw [Bool.true_and] at hn;have HL:=hiQ hL;have Hn:=hiQ hn;clear hL hc hn;go_enter Tryz.func117,Tryz.ntmps117
  go_wp2_with fail;refine (HL.out _).mono ?_;rintro e w2 ⟨rfl,rfl⟩;clear hb;go_wp2_with fail;go_loop [19] (fun i => ∃ k:Nat,k≤l.length∧i = .int .i64 k∧nameB l=(l.drop k).all (fun c => Cj c || Ih c)) (fun i => l.length - (intOf i).toNat)
  case atStart => exact ⟨0,by omega,rfl,by rw [Hn.out];rfl⟩
  case round =>
   obtain ⟨k,hk,rfl,hp⟩:=hrel;by_cases hlt:k < l.length
   ·
    obtain ⟨b,r2,hd2,hb2,hr2⟩:=Jo l k hlt;rw [hd2,List.all_cons,← hr2] at hp;have hLb:=fun W => VJ b W;have FC:=fun W => ad7 b W;exact zCe
   exact zGb
theorem D5 (l:List UInt8) (w:World):Calls Tryz.prog 135 #[.string ⟨l.toArray⟩] w fun e w' => e = .returned (.bool (nameB l))∧w=w':=by
 by_cases h0:l.length=0
 ·
  obtain rfl:l = []:=List.eq_nil_of_length_eq_zero h0;go_enter Tryz.func135,Tryz.ntmps135
  go_wp2
  go_ret;exact ⟨rfl,rfl⟩
 have hne:¬ l = []:=fun h => h0 (by rw [h];rfl);by_cases hl:24 < l.length
 ·
  have hn:=hiQ (SC l (.inr hl));go_enter Tryz.func135,Tryz.ntmps135
  go_wp2
  go_ret;exact ⟨au hn.out.symm,rfl⟩
 have hl1:0 < l.length:=by omega
 have hl2:(l.length:Int)≤24:=by omega
 have hie:l.isEmpty=false:=by cases l with | nil => exact absurd rfl hne | cons _ _ => rfl
 have h24:decide (24 < (l.length:Int))=false:=decide_eq_false (by omega);obtain ⟨c,r,hd,hb,-⟩:=Jo l 0 hl1;have hn:=VK l c r hl1 (by omega) hd;have hL:=fun W => TU c W;clear hd h0 hl;cases hc:Cj c with
 | false =>
  rw [hc] at hL hn;have HL:=hiQ hL;have Hn:=hiQ hn;clear hL hc hn;go_enter Tryz.func135,Tryz.ntmps135
  exact zGc
 | true =>
  rw [hc] at hL hn;rw [Bool.true_and] at hn;have HL:=hiQ hL;have Hn:=hiQ hn;clear hL hc hn;go_enter Tryz.func135,Tryz.ntmps135
  go_wp2_with fail;refine (HL.out _).mono ?_;rintro e w2 ⟨rfl,rfl⟩;clear hb;go_wp2_with fail;go_loop [3] (fun i => ∃ k:Nat,k≤l.length∧i = .int .i64 k∧nameB l=(l.drop k).all (fun c => Cj c || Ih c)) (fun i => l.length - (intOf i).toNat)
  case atStart => exact ⟨0,by omega,rfl,by rw [Hn.out];rfl⟩
  case round =>
   obtain ⟨k,hk,rfl,hp⟩:=hrel;by_cases hlt:k < l.length
   ·
    obtain ⟨b,r2,hd2,hb2,hr2⟩:=Jo l k hlt;rw [hd2,List.all_cons,← hr2] at hp;have hLb:=fun W => TU b W;have FC:=fun W => abS b W;exact zCe
   exact zGb
end Go.Proofs.YtlamhkffnlgofaaGreatDoor
namespace Go.Proofs.YtlamhkffnlgofaaGreatDoor
open Go.ChangeShapes Go.WideShapes Go.ChangeAt Go.RowKit
open Go.Maps (Keyed)
open Go.WideMaps
def qh (w:World) (b n:Nat) (S:List (List UInt8)):Prop :=
 ∃ D:DataW Unit,w.ownsMap Tryz.prog 9 (plainElem Tryz.prog 4) b n D∧∀ s:List UInt8,D.atKey (.string s) (.lit (.bool false)) = .lit (.bool (S.contains s))
theorem KL {H:Type} {P:Program} {e:TypeId} (he:P.underlying e=some .bool) {v:Value} {z:DataW H × List MemPlace} (h:plainElem P e v=some z):∃ a,v = .bool a∧z=(.lit (.bool a),[]):=by
 unfold plainElem at h;rw [he] at h;cases v <;> simp at h;exact ⟨_,rfl,h.symm⟩
theorem YE:Keyed Tryz.prog 9:=Maps.string_keyed Tryz.underlying9
theorem ad8 (w:World):(zeroValue 4).run Tryz.prog w = .ok (.bool false) w:=by kernel_rfl
theorem qh.made (w:World):qh (w.alloc (.map #[] 0)) w.heap.size 0 []:=⟨.map [],World.ownsMap_made _ _ _ _,fun _ => rfl⟩
theorem qh.here {w:World} {b n:Nat} {S:List (List UInt8)} (h:qh w b n S):b < w.heap.size:=by
 obtain ⟨D,h1,_⟩:=h;exact h1.lt
theorem qh.keep {w w':World} {b n:Nat} {S:List (List UInt8)} (h:qh w b n S) (hk:w'.heap[b]?=w.heap[b]?):qh w' b n S:=by
 obtain ⟨D,⟨es,clock,h1,h2⟩,h3⟩:=h;exact ⟨D,⟨es,clock,hk.trans h1,h2⟩,h3⟩
theorem qh.below {w w':World} {b n:Nat} {S:List (List UInt8)} (h:qh w b n S) {B:Nat} (hb:Below B w w') (hB:b < B):qh w' b n S:=h.keep (hb.block b hB)
theorem qh.look {w:World} {b n:Nat} {S:List (List UInt8)} (h:qh w b n S) (s:List UInt8) (hs:s.length≤maxLen) :
  (Instr.lookup 156 (.map (some b)) (.string ⟨s.toArray⟩) false).run Tryz.prog w = .ok (.bool (S.contains s)) w:=by
 obtain ⟨D,h1,h2⟩:=h;obtain ⟨v,ps,hrun,hv⟩:=h1.lookup YE Tryz.underlying156 (ad8 w) (plainElem_bool Tryz.underlying4 false) (keyOf_string_mk Tryz.underlying9 (s:=⟨s.toArray⟩) (by simpa [ByteArray.size] using hs));have h3:=h2 s;have h4:plainElem Tryz.prog 4 v=some ((DataW.lit (Lit.bool (S.contains s)):DataW Unit),ps):=by rw [← h3];exact hv
 obtain ⟨a,rfl,he⟩:=KL Tryz.underlying4 h4;have h5:S.contains s=a:=by
  have:=congrArg Prod.fst he;simpa using this
 exact h5 ▸ hrun
theorem qh.put {w:World} {b n:Nat} {S:List (List UInt8)} (h:qh w b n S) (s:List UInt8) (hs:s.length≤maxLen) (hn:n < maxLen) :
  ∃ w',(Instr.mapUpdate 156 (.map (some b)) (.string ⟨s.toArray⟩) (.bool true)).run Tryz.prog w = .ok () w'∧qh w' b (n+1) (S ++ [s])∧w.grownBy w' (some b):=by
 obtain ⟨D,h1,h2⟩:=h;have hm:=h1.isMap;obtain ⟨w',r1,r2,r3⟩:=h1.update YE Tryz.underlying156 hn (keyOf_string_mk Tryz.underlying9 (s:=⟨s.toArray⟩) (by simpa [ByteArray.size] using hs)) (plainElem_bool Tryz.underlying4 true);refine ⟨w',r1,⟨_,r2,fun q => ?_⟩,r3⟩;rw [show (⟨s.toArray⟩ : ByteArray).data.toList=s by simp];by_cases hq:q=s
 ·
  subst hq;rw [Maps.atKey_put_same hm (by trivial)];simp
 rw [Maps.atKey_put_other (by intro h;injection h with h;exact hq h),h2];simp [hq]
theorem aqP {ops:Array Oper} {rest:List Oper} {o:Oper} {a:Act} {Q:Exit→Act→World→Prop} {w:World} (hg:o.guard=none) (m x v:Operand) (hop:o.op=Op.mapUpdate 156 m x v)
  (b n:Nat) (S:List (List UInt8)) (hm:a.eval m = .map (some b)) (hown:qh w b n S) (hn:n < maxLen) (s:List UInt8) (hx:a.eval x = .string ⟨s.toArray⟩) (hv:a.eval v = .bool true) (hl:s.length≤maxLen)
  (hK:∀ w',qh w' b (n+1) (S ++ [s])→w.grownBy w' (some b)→wpList Tryz.prog ops Q rest (a.put o.dst undef) w'):wpList Tryz.prog ops Q (o :: rest) a w:=by
 refine wpList_plain hg fun K' hK' => ?_;obtain ⟨w',hrun,r1,r2⟩:=hown.put s hl hn;unfold Oper.wp;simp [execOp,hop,hm,hx,hv,hrun,Result.andThen];exact hK' _ _ (hK w' r1 r2)
end Go.Proofs.YtlamhkffnlgofaaGreatDoor

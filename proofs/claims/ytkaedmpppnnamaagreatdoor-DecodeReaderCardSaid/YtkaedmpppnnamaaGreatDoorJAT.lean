/- Plain and heap, and what else is used with it. No condition. -/
import Derived.Deep.AppendLies
import Derived.Laws.OwnMore
import Derived.Test.YtkaedmpppnnamaaGreatDoorJAK
set_option maxRecDepth 100000
namespace Go.Proofs.YtkaedmpppnnamaaGreatDoor
open ChangeShapes WideShapes ChangeAt RowKit Joins
abbrev Chg:=Nat × Nat × Nat × Nat
def ahO (c:Chg):List Value:=[.int .u8 c.1,.int .u8 c.2.1,.int .u8 c.2.2.1,.int .u8 c.2.2.2]
theorem af0 (c:Chg):(ahO c).length=4:=rfl
def ahX (c:Chg):Prop:=c.1 < 256/\c.2.1 < 256/\c.2.2.1 < 256/\c.2.2.2 < 256
def agN (w:World) (B:Nat) (v:Value) (cs:List Chg):Prop:=Rd w B 4 v cs.length (cs.flatMap ahO)/\∀ c ∈ cs,ahX c
theorem adf:∀ (cs:List Chg) (i j:Nat) (h:i < cs.length),j < 4->(cs.flatMap ahO)[i*4+j]?=(ahO cs[i])[j]?
 | [],_,_,h,_ => by simp at h
 | c :: cs,0,j,_,hj => by
  rw [yJ,Zu (by rw [af0];omega)];simp
 | c :: cs,i+1,j,h,hj => by
  rw [yJ,Yt (by rw [af0];omega),af0,show (i+1)*4+j - 4=i*4+j by omega,adf cs i j (by simpa using h) hj];simp
theorem agN.elem {w:World} {B c:Nat} {A:Option Addr} {cs:List Chg} (h:agN w B (.slice A cs.length c) cs) (hpos:0 < cs.length):∃ b o,A=some ⟨b,o,none⟩/\b < B/\∀ i (hi:i < cs.length),ahX cs[i]/\w.cell? ⟨b,o+i*4,none⟩=some (.int .u8 cs[i].1)/\w.cell? ⟨b,o+i*4+1,none⟩=some (.int .u8 cs[i].2.1)/\w.cell? ⟨b,o+i*4+2,none⟩=some (.int .u8 cs[i].2.2.1)/\w.cell? ⟨b,o+i*4+3,none⟩=some (.int .u8 cs[i].2.2.2):=by
 obtain ⟨b,o,hA,hb,hc⟩:=h.1.at_ hpos;refine ⟨b,o,hA,hb,fun i hi => ⟨h.2 _ (o_ hi),?_,?_,?_,?_⟩⟩
 . exact hc (i*4+0) _ ((adf cs i 0 hi (by omega)).trans rfl)
 . exact hc (i*4+1) _ ((adf cs i 1 hi (by omega)).trans rfl)
 . exact hc (i*4+2) _ ((adf cs i 2 hi (by omega)).trans rfl)
 exact hc (i*4+3) _ ((adf cs i 3 hi (by omega)).trans rfl)
def XW (ys:List Value):Prop := ∀ u ∈ ys,∃ a:Nat,a < 256/\u = .int .u8 a
theorem XW.app {xs ys:List Value} (h:XW xs) (h2:XW ys):XW (xs ++ ys):=fun u hu => (H_.1 hu).elim (h u) (h2 u)
theorem XW.take {xs:List Value} (h:XW xs) (k:Nat):XW (xs.take k):=fun u hu => h u (List.mem_of_mem_take hu)
theorem XW.drop {xs:List Value} (h:XW xs) (k:Nat):XW (xs.drop k):=fun u hu => h u (List.mem_of_mem_drop hu)
theorem XW.set {xs:List Value} (h:XW xs) (k:Nat) {a:Nat} (ha:a < 256):XW (xs.set k (.int .u8 a)):=fun u hu => by
 rcases List.mem_or_eq_of_mem_set hu with h2 | h2
 . exact h u h2
 exact ⟨a,ha,h2⟩
theorem XW.at_ {xs:List Value} (h:XW xs) {k:Nat} (hk:k < xs.length):∃ a:Nat,a < 256/\xs[k]?=some (.int .u8 a):=by
 obtain ⟨a,h1,h2⟩:=h _ (o_ hk);exact ⟨a,h1,by rw [n_ hk,h2]⟩
theorem XW.one {xs:List Value} (h:XW xs):∀ u ∈ xs,u.oneCell'=true:=fun u hu => by
 obtain ⟨a,_,rfl⟩:=h u hu;rfl
theorem aik:∀ (l:List Aw),(∀ p ∈ l,Xd p)->XW (l.flatMap aav)
 | [],_ => by intro u hu;simp at hu
 | p :: l,h => by
  rw [yJ];refine XW.app (fun u hu => ?_) (aik l fun q hq => h q (List.mem_cons_of_mem _ hq));obtain ⟨h1,h2,h3⟩:=h p List.mem_cons_self;simp [aav] at hu;rcases hu with rfl | rfl | rfl
  . exact ⟨_,h1,rfl⟩
  . exact ⟨_,h2,rfl⟩
  exact ⟨_,h3,rfl⟩
theorem aiD:∀ (m:Nat) (ys:List Value),ys.length=m*3->XW ys->∃ ps:List Aw,ys=ps.flatMap aav/\ps.length=m/\∀ p ∈ ps,Xd p
 | 0,ys,hl,_ => ⟨[],Dl (by omega),rfl,by simp⟩
 | m+1,ys,hl,h => by
  match ys,hl with
  | a :: b :: c :: r,hl =>
   obtain ⟨ps,h1,h2,h3⟩:=aiD m r (by simp at hl;omega) fun u hu => h u (by simp [hu]);obtain ⟨x,hx,rfl⟩:=h a (by simp);obtain ⟨y,hy,rfl⟩:=h b (by simp);obtain ⟨z,hz,rfl⟩:=h c (by simp);refine ⟨(x,y,z) :: ps,by rw [h1,yJ];rfl,by simp [h2],?_⟩;intro p hp;rcases J5.1 hp with rfl | hp
   . exact ⟨hx,hy,hz⟩
   exact h3 p hp
  | [],hl => simp at hl
  | [_],hl => simp at hl;omega
  | [_,_],hl => simp at hl;omega
def MX (w:World) (S:Nat->Prop) (B n:Nat) (xs:List Value):Prop := ∀ k,k < n->∃ (x:fJ) (vp:Value),(∀ j u,(Zq x vp)[j]?=some u->xs[k*5+j]?=some u)/\U4 w B x vp/\x.parts.length<=46912496117077/\(0 < x.parts.length->∀ b,vp.ownBlock=some b->¬ S b)
theorem Rd.ao7 {w w':World} {B size n:Nat} {S:Nat->Prop} {v:Value} {xs:List Value} (h:Rd w B size v n xs) (hv:0 < n->∀ b,v.ownBlock=some b->¬ S b) (hk:∀ p:Addr,p.block < B->¬ S p.block->w'.cell? p=w.cell? p):Rd w' B size v n xs:=by
 obtain ⟨hl,A,c,hv',hc,h2⟩:=h;refine ⟨hl,A,c,hv',hc,?_⟩;by_cases h0:n=0
 . exact .inl h0
 rcases h2 with h2 | ⟨b,o,hA,hb,hcell⟩
 . exact .inl h2
 refine .inr ⟨b,o,hA,hb,fun j u hu => (hk _ hb ?_).trans (hcell j u hu)⟩;exact hv (by omega) b (by rw [hv',hA];rfl)
theorem MX.keep {w w':World} {S:Nat->Prop} {B B' n:Nat} {xs:List Value} (h:MX w S B n xs) (hk:∀ p:Addr,p.block < B->¬ S p.block->w'.cell? p=w.cell? p) (hB:B<=B'):MX w' S B' n xs:=fun k hkn => by
 obtain ⟨x,vp,h1,h2,h3⟩:=h k hkn;exact ⟨x,vp,h1,⟨h2.ints,h2.len,h2.ins,(h2.parts.ao7 h3.2 hk).mono hB⟩,h3⟩
theorem zFk {p:Prop} (h:p:=by
 have hj':j' < 5:=by
  have:=(yS.1 hu).1;simp [Zq] at this;omega
 rw [List.getElem?_set_ne (by omega)];exact h1 j' u hu):p:=h
theorem MX.set {w:World} {S:Nat->Prop} {B n:Nat} {xs:List Value} (h:MX w S B n xs) (hl:xs.length=n*5) {k j a:Nat} (hk:k < n) (hj:j < 4) (ha:a < 256):MX w S B n (xs.set (k*5+j) (.int .u8 a)):=fun i hi => by
 obtain ⟨x,vp,h1,h2,h3⟩:=h i hi;by_cases e:i=k
 .
  subst e;have hset:∀ j' u,j'≠j->(Zq x vp)[j']?=some u->(xs.set (i*5+j) (.int .u8 a))[i*5+j']?=some u:=fun j' u hne hu => by
   rw [List.getElem?_set_ne (by omega)];exact h1 j' u hu
  have hat:(xs.set (i*5+j) (.int .u8 a))[i*5+j]?=some (.int .u8 a):=by rw [List.getElem?_set_self (by omega)]
  obtain ⟨i1,i2,i3,i4⟩:=h2.ints;have hc:j=0\/j=1\/j=2\/j=3:=by omega
  rcases hc with rfl | rfl | rfl | rfl
  .
   refine ⟨{ x with kind:=a },vp,fun j' u hu => ?_,⟨⟨ha,i2,i3,i4⟩,h2.len,h2.ins,h2.parts⟩,h3⟩
   match j',hu with
   | 0,hu => rw [hat];exact hu
   | 1,hu => exact hset 1 u (by omega) hu
   | 2,hu => exact hset 2 u (by omega) hu
   | 3,hu => exact hset 3 u (by omega) hu
   | 4,hu => exact hset 4 u (by omega) hu
   | n+5,hu => simp [Zq] at hu
  .
   refine ⟨{ x with a:=a },vp,fun j' u hu => ?_,⟨⟨i1,ha,i3,i4⟩,h2.len,h2.ins,h2.parts⟩,h3⟩
   match j',hu with
   | 0,hu => exact hset 0 u (by omega) hu
   | 1,hu => rw [hat];exact hu
   | 2,hu => exact hset 2 u (by omega) hu
   | 3,hu => exact hset 3 u (by omega) hu
   | 4,hu => exact hset 4 u (by omega) hu
   | n+5,hu => simp [Zq] at hu
  .
   refine ⟨{ x with b:=a },vp,fun j' u hu => ?_,⟨⟨i1,i2,ha,i4⟩,h2.len,h2.ins,h2.parts⟩,h3⟩
   match j',hu with
   | 0,hu => exact hset 0 u (by omega) hu
   | 1,hu => exact hset 1 u (by omega) hu
   | 2,hu => rw [hat];exact hu
   | 3,hu => exact hset 3 u (by omega) hu
   | 4,hu => exact hset 4 u (by omega) hu
   | n+5,hu => simp [Zq] at hu
  refine ⟨{ x with c:=a },vp,fun j' u hu => ?_,⟨⟨i1,i2,i3,ha⟩,h2.len,h2.ins,h2.parts⟩,h3⟩
  match j',hu with
  | 0,hu => exact hset 0 u (by omega) hu
  | 1,hu => exact hset 1 u (by omega) hu
  | 2,hu => exact hset 2 u (by omega) hu
  | 3,hu => rw [hat];exact hu
  | 4,hu => exact hset 4 u (by omega) hu
  | n+5,hu => simp [Zq] at hu
 refine ⟨x,vp,fun j' u hu => ?_,h2,h3⟩;exact zFk
theorem MX.arI {w:World} {S:Nat->Prop} {B n:Nat} {xs ys:List Value} {vp:Value} {m:Nat} (h:MX w S B n xs) (hl:xs.length=n*5) {k:Nat} (hk:k < n) (hr:Rd w B 3 vp m ys) (hu8:XW ys) (hm:m<=46912496117077) (hv:0 < m->∀ b,vp.ownBlock=some b->¬ S b):MX w S B n (xs.set (k*5+4) vp):=fun i hi => by
 obtain ⟨x,vp0,h1,h2,h3⟩:=h i hi;by_cases e:i=k
 .
  subst e;obtain ⟨ps,rfl,rfl,hin⟩:=aiD m ys hr.1 hu8;refine ⟨{ x with parts:=ps },vp,fun j' u hu => ?_,⟨h2.ints,by show ps.length<=_;omega,hin,hr⟩,hm,hv⟩;have hset:∀ j' u,j'≠4->(Zq x vp0)[j']?=some u->(xs.set (i*5+4) vp)[i*5+j']?=some u:=fun j' u hne hu => by
   rw [List.getElem?_set_ne (by omega)];exact h1 j' u hu
  match j',hu with
  | 0,hu => exact hset 0 u (by omega) hu
  | 1,hu => exact hset 1 u (by omega) hu
  | 2,hu => exact hset 2 u (by omega) hu
  | 3,hu => exact hset 3 u (by omega) hu
  | 4,hu => rw [List.getElem?_set_self (by omega)];exact hu
  | n+5,hu => simp [Zq] at hu
 refine ⟨x,vp0,fun j' u hu => ?_,h2,h3⟩;exact zFk
theorem MX.at_ {w:World} {S:Nat->Prop} {B n:Nat} {xs:List Value} (h:MX w S B n xs) {k:Nat} (hk:k < n):∃ (x:fJ) (vp:Value),xs[k*5]?=some (.int .u8 x.kind)/\xs[k*5+1]?=some (.int .u8 x.a)/\xs[k*5+2]?=some (.int .u8 x.b)/\xs[k*5+3]?=some (.int .u8 x.c)/\xs[k*5+4]?=some vp/\U4 w B x vp/\x.parts.length<=46912496117077:=by
 obtain ⟨x,vp,h1,h2,h3,_⟩:=h k hk;exact ⟨x,vp,h1 0 _ rfl,h1 1 _ rfl,h1 2 _ rfl,h1 3 _ rfl,h1 4 _ rfl,h2,h3⟩
theorem ai0 {w:World} {S:Nat->Prop} {base nb n cap:Nat} {e:TypeId} {xs:List Value} (ho:w.ownsRow base e 5 (.slice (some ⟨nb,0,none⟩) n cap) n xs) (h:MX w S w.heap.size n xs) (hc:n<=cap):∃ ys:List fJ,ys.length=n/\jR w w.heap.size (.slice (some ⟨nb,0,none⟩) n cap) ys:=by
 have hex:∀ i:Nat,∃ p:fJ × Value,i < n->(∀ j u,(Zq p.1 p.2)[j]?=some u->xs[i*5+j]?=some u)/\U4 w w.heap.size p.1 p.2:=fun i => by
  by_cases hi:i < n
  .
   obtain ⟨x,vp,h1,h2,_⟩:=h i hi;exact ⟨(x,vp),fun _ => ⟨h1,h2⟩⟩
  exact ⟨(⟨0,0,0,0,[]⟩,.bool false),fun h => absurd h hi⟩
 obtain ⟨F,hF⟩:=Classical.axiomOfChoice hex;have hnb:nb < w.heap.size:=(ho.lt nb rfl).2;refine ⟨(List.range n).map fun i => (F i).1,by simp,fun i => Zq (F i).1 (F i).2,⟨_,cap,by simp,by simpa using hc,.inr ⟨nb,0,rfl,hnb,fun i hi j u hu => ?_⟩⟩,fun i hi => ?_⟩
 .
  have hi':i < n:=by simpa using hi
  have h1:=(hF i hi').1 j u hu;have hj:j < 5:=by have:=(yS.1 hu).1;simp [Zq] at this;omega
  have:=ho.cellAt (i*5+j) (by omega);rw [h1] at this;rw [show 0+i*5+j=i*5+j by omega];exact this
 have hi':i < n:=by simpa using hi
 refine ⟨(F i).2,by simp,?_⟩;simpa using (hF i hi').2
def af2 (c:Nat->List Value) (n:Nat):List Value:=(List.range (n*5)).map fun j => ((c (j / 5))[j % 5]?).getD (.int .u8 0)
theorem agh (c:Nat->List Value) (n:Nat):(af2 c n).length=n*5:=by simp [af2]
theorem ald (c:Nat->List Value) (n:Nat) (k j:Nat) (hk:k < n) (u:Value) (hj:(c k)[j]?=some u) (h5:j < 5):(af2 c n)[k*5+j]?=some u:=by
 unfold af2;rw [Vs,List.getElem?_range (by omega)];have h1:(k*5+j) / 5=k:=by omega
 have h2:(k*5+j) % 5=j:=by omega
 simp only [X_,h1,h2,hj,WM]
theorem ajo {w:World} {v:Value} {xs:List fJ} (h:jR w w.heap.size v xs) (hp:∀ x ∈ xs,x.parts.length<=46912496117077) :
  ∃ news:List Value,news.length=xs.length*5/\(∀ u ∈ news,u.oneCell'=true)/\(∀ S:Nat->Prop,(∀ b,S b->w.heap.size<=b)->MX w S w.heap.size xs.length news)/\Rd w w.heap.size 5 v xs.length news:=by
 obtain ⟨c,⟨A,cap,hv,hcap,hrow⟩,hn⟩:=h;have hlen:∀ i (hi:i < xs.length),(c i).length=5:=fun i hi => by
  obtain ⟨vp,e,_⟩:=hn i hi;rw [e];rfl
 refine ⟨af2 c xs.length,agh _ _,?_,?_,agh _ _,A,cap,hv,hcap,?_⟩
 .
  intro u hu;unfold af2 at hu;obtain ⟨j,hj,rfl⟩:=P_.1 hu;have hj':j / 5 < xs.length:=by have:=List.mem_range.1 hj;omega
  obtain ⟨vp,e,h2⟩:=hn _ hj';obtain ⟨A2,c2,hvp,_⟩:=h2.parts.form;rw [e,hvp];have h5:j % 5 < 5:=O_ _ (by omega);have hcs:j % 5=0\/j % 5=1\/j % 5=2\/j % 5=3\/j % 5=4:=by omega
  rcases hcs with h | h | h | h | h <;> rw [h] <;> rfl
 .
  intro S hS k hk;obtain ⟨vp,e,h2⟩:=hn k hk;refine ⟨xs[k],vp,fun j u hu => ?_,h2,hp _ (o_ hk),?_⟩
  .
   have hj:j < 5:=by have:=(yS.1 hu).1;simp [Zq] at this;omega
   exact ald c _ k j hk u (by rw [e];exact hu) hj
  intro h0 b' h3 hs;obtain ⟨_,A3,c3,hv3,_,h4⟩:=h2.parts;rcases h4 with h4 | ⟨b,o,hA,hb,_⟩
  . omega
  rw [hv3,hA] at h3;injection h3 with h3;have h5:b=b':=h3;have:=hS b' hs;omega
 by_cases h0:xs.length=0
 . exact .inl h0
 rcases hrow with hrow | ⟨b,o,hA,hb,hcell⟩
 . exact .inl hrow
 refine .inr ⟨b,o,hA,hb,fun j u hu => ?_⟩;have hj:j < xs.length*5:=by have:=(yS.1 hu).1;rw [agh] at this;exact this
 have hk:j / 5 < xs.length:=by omega
 have h5:j % 5 < (c (j / 5)).length:=by rw [hlen _ hk];omega
 have hu2:(c (j / 5))[j % 5]?=some u:=by
  unfold af2 at hu;rw [Vs,List.getElem?_range hj] at hu;simp only [X_] at hu;rw [n_ h5] at hu ⊢;simpa using hu
 have:=hcell (j / 5) hk (j % 5) u hu2;rw [show o+j / 5*5+j % 5=o+j by omega] at this;exact this
theorem MX.close {wr W:World} {nb G n q m:Nat} {S:Nat->Prop} {ns ys:List Value} {vp:Value} (h:MX wr S G n ns) (hl:ns.length=n*5) (hS:∀ b,S b->b < G) (hSn:S nb) (hk:∀ p:Addr,p.block < G->p.block≠nb->W.cell? p=wr.cell? p) (hG:G<=W.heap.size) (hq:q < n) (hr:Rd W W.heap.size 3 vp m ys) (hu:XW ys) (hm:m<=46912496117077) (hv:∀ b,vp.ownBlock=some b->G<=b):MX W S W.heap.size n (ns.set (q*5+4) vp) :=
 (h.keep (fun p hp hs => hk p hp fun e => hs (by rw [e];exact hSn)) hG).arI hl hq hr hu hm fun _ b hb hs => by have:=hv b hb;have:=hS b hs;omega
theorem adv (z:Int):∃ a:Nat,a < 256/\z % 256=(a:Int):=⟨(z % 256).toNat,by omega,by omega⟩
theorem acS (z:Int):∃ a:Nat,a < 256/\IntKind.u8.wrap z=(a:Int):=by
 refine ⟨(z % 256).toNat,by omega,?_⟩;rw [IntKind.wrap_u8];omega
section
variable {P:Program} {w:World}
theorem ahW (t ty:TypeId) (base:Nat) (e:TypeId) (z:Value) (size bytes:Nat) (ht:P.underlying t=some (.slice e)) (hinfo:(P.info? e).map (fun i => (i.zero,i.size,i.bytes))=some (some z,size,bytes)) (hzs:z.cells.size=size) (hsz:0 < size)
  {g0 n cap0:Nat} {xs:List Value} (hown:w.ownsRow base e size (.slice (some ⟨g0,0,none⟩) n cap0) n xs) {v:Value} {m:Nat} {news:List Value} (hr:Rd w w.heap.size size v m news) (h1:∀ u ∈ news,u.oneCell'=true)
  (h63:n+m<=maxLen) (hby:(n+m)*bytes<=140737488355328) (hbase:base<=w.heap.size) :
  ∃ g cap w',(Builtin.append_ #[t,t] ty #[.slice (some ⟨g0,0,none⟩) n cap0,v]).run P w = .ok (.slice (some ⟨g,0,none⟩) (n+m) cap) w' /\
   w'.ownsRow base e size (.slice (some ⟨g,0,none⟩) (n+m) cap) (n+m) (xs ++ news)/\w.grownBy w' (some g0)/\(g=g0\/g=w.heap.size):=by
 obtain ⟨i,hi,hz0,hz1,hz2⟩:=info_parts hinfo;obtain ⟨hl,A,c,rfl,hmc,h2⟩:=hr;by_cases h0:m=0
 .
  subst h0;have hnil:news = []:=Dl (by omega);subst hnil;cases A with
  | none =>
   refine ⟨g0,cap0,w,?_,by simpa using hown,⟨rfl,rfl,rfl,b_ _,fun _ _ _ => rfl⟩,.inl rfl⟩;rcases hown.2 with ⟨h,_⟩ | ⟨g,cap,cur,h,_,_,hnc,_⟩
   . cases h
   simp only [Value.slice.injEq,QB,Addr.mk.injEq,Y_,true_and] at h;obtain ⟨rfl,rfl⟩:=h;simp [Builtin.append_,run_underlying ht,sizeOf,typeInfo,hi,Builtin.lenOf,Builtin.firstCells,hnc,storeCells]
  | some ad =>
   have hroom:n+0<=cap0:=by
    rcases hown.2 with ⟨h,_⟩ | ⟨g,cap,cur,h,_,_,hnc,_⟩
    . cases h
    simp only [Value.slice.injEq,QB,Addr.mk.injEq,Y_,true_and] at h;obtain ⟨rfl,rfl⟩:=h;exact hnc
   obtain ⟨w',hr,ho,hg⟩:=run_append_fits (P:=P) w base t ty e i size ht hi hz1 g0 n cap0 xs hown ad 0 c [] (by simp) (by simp) (by simp) hroom;exact ⟨g0,cap0,w',hr,ho,hg,.inl rfl⟩
 rcases h2 with h2 | ⟨b,o,rfl,hb,hcell⟩
 . exact absurd h2 h0
 obtain ⟨g,cap,w',hr,ho,hg,hat,_⟩:=run_append_lies (P:=P) w t ty base e i z size bytes ht hi hz0 hz1 hz2 hzs hsz _ n xs hown ⟨b,o,none⟩ m c news hl (fun j u hu => by
  have hadd:(⟨b,o,none⟩ : Addr).add j=⟨b,o+j,none⟩:=by unfold Addr.add;split <;> simp_all
  rw [hadd];exact hcell j u hu) h1 (by omega) h63 hby hbase w.heap.size rfl
 refine ⟨g,cap,w',hr,ho,hg,?_⟩;rcases hat with h | h
 . left;injection h with h;exact h.symm
 exact .inr h
theorem agj {o:Oper} {a:Act} {K:Act->World->Prop} {Q:Exit->Act->World->Prop} (s x:Operand) (t:TypeId)
  (ho:o.op = .call { callee:=.builtin .append,args:=#[s,x],argTypes:=#[t,t] })
  (base:Nat) (e:TypeId) (z:Value) (size bytes:Nat) (ht:P.underlying t=some (.slice e)) (hinfo:(P.info? e).map (fun i => (i.zero,i.size,i.bytes))=some (some z,size,bytes)) (hzs:z.cells.size=size) (hsz:0 < size)
  {g0 n cap0:Nat} {xs:List Value} (hs:a.eval s = .slice (some ⟨g0,0,none⟩) n cap0) (hown:w.ownsRow base e size (.slice (some ⟨g0,0,none⟩) n cap0) n xs) {v:Value} {m:Nat} {news:List Value} (hx:a.eval x=v) (hr:Rd w w.heap.size size v m news) (h1:∀ u ∈ news,u.oneCell'=true)
  (h63:n+m<=maxLen) (hby:(n+m)*bytes<=140737488355328) (hbase:base<=w.heap.size)
  (h:∀ g cap w',w'.ownsRow base e size (.slice (some ⟨g,0,none⟩) (n+m) cap) (n+m) (xs ++ news)->w.grownBy w' (some g0)->(g=g0\/g=w.heap.size)->K (a.put o.dst (.slice (some ⟨g,0,none⟩) (n+m) cap)) w'):o.wp P a w K Q:=by
 obtain ⟨g,cap,w',hrun,h2,h3,h4⟩:=ahW (P:=P) t o.type base e z size bytes ht hinfo hzs hsz hown hr h1 h63 hby hbase;unfold Oper.wp execOp;simp only [ho,resolve,invoke,builtin,Sem.run_bind,Sem.run_pure,Result.andThen_ok,List.map_toArray,Oa,Ya,hs,hx,hrun];exact h g cap w' h2 h3 h4
theorem ac3 {ops:Array Oper} {rest:List Oper} {o:Oper} {a:Act} {Q:Exit->Act->World->Prop} (hgd:o.guard=none) (s x:Operand) (t:TypeId)
  (ho:o.op = .call { callee:=.builtin .append,args:=#[s,x],argTypes:=#[t,t] })
  (base:Nat) (e:TypeId) (z:Value) (size bytes:Nat) (ht:P.underlying t=some (.slice e)) (hinfo:(P.info? e).map (fun i => (i.zero,i.size,i.bytes))=some (some z,size,bytes)) (hzs:z.cells.size=size) (hsz:0 < size)
  {g0 n cap0:Nat} {xs:List Value} (hs:a.eval s = .slice (some ⟨g0,0,none⟩) n cap0) (hown:w.ownsRow base e size (.slice (some ⟨g0,0,none⟩) n cap0) n xs) {v:Value} {m:Nat} {news:List Value} (hx:a.eval x=v) (hr:Rd w w.heap.size size v m news) (h1:∀ u ∈ news,u.oneCell'=true)
  (h63:n+m<=maxLen) (hby:(n+m)*bytes<=140737488355328) (hbase:base<=w.heap.size)
  (h:∀ g cap w',w'.ownsRow base e size (.slice (some ⟨g,0,none⟩) (n+m) cap) (n+m) (xs ++ news)->w.grownBy w' (some g0)->(g=g0\/g=w.heap.size)->wpList P ops Q rest (a.put o.dst (.slice (some ⟨g,0,none⟩) (n+m) cap)) w'):wpList P ops Q (o :: rest) a w :=
 wpList_plain hgd fun _ hK => agj s x t ho base e z size bytes ht hinfo hzs hsz hs hown hx hr h1 h63 hby hbase fun g cap w' h2 h3 h4 => hK _ _ (h g cap w' h2 h3 h4)
theorem adw {ops:Array Oper} {o:Oper} {a:Act} {K:Act->World->Prop} {Q:Exit->Act->World->Prop} {E:Prop} (hgd:o.guard=none) (s x:Operand) (t:TypeId)
  (ho:o.op = .call { callee:=.builtin .append,args:=#[s,x],argTypes:=#[t,t] })
  (base:Nat) (e:TypeId) (z:Value) (size bytes:Nat) (ht:P.underlying t=some (.slice e)) (hinfo:(P.info? e).map (fun i => (i.zero,i.size,i.bytes))=some (some z,size,bytes)) (hzs:z.cells.size=size) (hsz:0 < size)
  {g0 n cap0:Nat} {xs:List Value} (hs:a.eval s = .slice (some ⟨g0,0,none⟩) n cap0) (hown:w.ownsRow base e size (.slice (some ⟨g0,0,none⟩) n cap0) n xs) {v:Value} {m:Nat} {news:List Value} (hx:a.eval x=v) (hr:Rd w w.heap.size size v m news) (h1:∀ u ∈ news,u.oneCell'=true)
  (h63:n+m<=maxLen) (hby:(n+m)*bytes<=140737488355328) (hbase:base<=w.heap.size)
  (h:∀ g cap w',w'.ownsRow base e size (.slice (some ⟨g,0,none⟩) (n+m) cap) (n+m) (xs ++ news)->w.grownBy w' (some g0)->(g=g0\/g=w.heap.size)->K (a.put o.dst (.slice (some ⟨g,0,none⟩) (n+m) cap)) w') :
  if Region.wanted o (yielded ops a.tmps)=true then Oper.wp P o a w K Q else E:=by
 have hw:Region.wanted o (yielded ops a.tmps)=true:=by simp [Region.wanted,hgd]
 rw [r_ hw];exact agj s x t ho base e z size bytes ht hinfo hzs hsz hs hown hx hr h1 h63 hby hbase h
end
theorem ajp {w:World} {base g n cap k size:Nat} {e:TypeId} {xs:List Value} (h:w.ownsRow base e size (.slice (some ⟨g,0,none⟩) n cap) n xs) (hk:k<=n):w.ownsRow base e size (.slice (some ⟨g,0,none⟩) k cap) k (xs.take (k*size)):=by
 have hks:k*size<=n*size:=Pe _ hk;refine ⟨by rw [OX,h.1];omega,?_⟩;rcases h.2 with ⟨h',_⟩ | ⟨g',cap',cur,h',hb,hg,hnc,hcm,hcs,htake⟩
 . cases h'
 simp only [Value.slice.injEq,QB,Addr.mk.injEq,Y_,true_and] at h';obtain ⟨rfl,rfl⟩:=h';refine .inr ⟨g,cap,cur,rfl,hb,hg,by omega,hcm,hcs,?_⟩;rw [<- htake,List.take_take,Nat.min_eq_left hks]
theorem anU {w:World} {g:Nat} {T:TypeId} {a b c:Value} (h:Has w g T #[a,b,c]):Rd w w.heap.size 3 (.slice (some ⟨g,0,none⟩) 1 1) 1 [a,b,c]:=by
 refine ⟨rfl,_,1,rfl,b_ _,.inr ⟨g,0,rfl,h.here,fun j u hu => ?_⟩⟩;rw [Qo]
 match j,hu with
 | 0,hu => injection hu with hu;rw [<- hu];exact h.cell 0
 | 1,hu => injection hu with hu;rw [<- hu];exact h.cell 1
 | 2,hu => injection hu with hu;rw [<- hu];exact h.cell 2
 | n+3,hu => simp at hu
theorem ajq {w:World} {base g n cap k c:Nat} {e:TypeId} {xs:List Value} {p:Prop} [Decidable p] {ad:Addr} (h:w.ownsRow base e 3 (.slice (some ⟨g,0,none⟩) n cap) n xs) (hk:k<=n) (hc:n - k<=c) (hp:p->n<=k):Rd w w.heap.size 3 (.slice (if p then some ad else some ⟨g,k*3,none⟩) (n - k) c) (n - k) (xs.drop (k*3)):=by
 have hl:=h.1;refine ⟨by rw [QE];omega,_,c,rfl,hc,?_⟩;by_cases h0:p
 . exact .inl (by have:=hp h0;omega)
 rw [g_ h0];refine .inr ⟨g,k*3,rfl,(h.lt g rfl).2,fun j u hu => ?_⟩;rw [List.getElem?_drop] at hu;have hj:=(yS.1 hu).1;rw [h.cellAt _ (by omega)];exact hu
theorem FB {w:World} {base g n cap size:Nat} {e:TypeId} {xs:List Value} (h:w.ownsRow base e size (.slice (some ⟨g,0,none⟩) n cap) n xs):Kept (fun w => w.ownsRow base e size (.slice (some ⟨g,0,none⟩) n cap) n xs) w g (g+1) :=
 ⟨h,fun w' hk => by
  obtain ⟨h1,h2⟩:=h;refine ⟨h1,?_⟩;rcases h2 with ⟨hv,_⟩ | ⟨g',cap',cur,hv,hb,hh,h3⟩
  . cases hv
  injection hv with hv1 hv2 hv3;injection hv1 with hv1;injection hv1 with hv1;subst hv1;exact .inr ⟨g,cap',cur,by rw [hv3],hb,by rw [hk g (b_ _) (O1 _),hh],h3⟩,(h.lt g rfl).2⟩
theorem CX {w:World} {g o:Nat} {u:Value} (h:w.cell? ⟨g,o,none⟩=some u):Kept (fun w => w.cell? ⟨g,o,none⟩=some u) w g (g+1) :=
 ⟨h,fun _ hk => (D6 (hk g (b_ _) (O1 _))).trans h,World.block_lt_of_cell? _ _ h⟩
theorem acL {w wr:World} {G nb:Nat} (h:∀ p:Addr,p.block < G->p.block≠nb->w.cell? p=wr.cell? p) (hG:G<=w.heap.size):Kept (fun w => ∀ p:Addr,p.block < G->p.block≠nb->w.cell? p=wr.cell? p) w 0 G :=
 ⟨h,fun _ hk p h1 h2 => (D6 (hk p.block (Vt _) h1)).trans (h p h1 h2),hG⟩
section
variable {H:Type} {enc:TypeId × Value->H} {w:World} {base:Nat} {spare:Nat->Bool} {held:Bool}
theorem ao1 (N:Nat) (cs:List Value) (D:DataW H) (Q:List MemPlace) (hl:cs.length=4)
  (h:DataW.trod enc Tryz.prog w base spare held N 90 cs=some (D,Q)):∃ x:Chg,cs=ahO x/\ahX x:=by
 obtain ⟨xs,n,rfl,hx,_,hxl,hg⟩:=DataW.trod_struct Tryz.underlying90 h;obtain ⟨c0,c1,c2,c3,rfl⟩ : ∃ a b c d,cs = [a,b,c,d]:=by
  match cs,hl with
  | [a,b,c,d],_ => exact ⟨a,b,c,d,rfl⟩
 match xs,hxl with
 | [y0,y1,y2,y3],_ =>
  have k0:Tryz.prog.cellsOf 5=1:=by kernel_rfl
  have h0:DataW.trod enc Tryz.prog w base spare held n 5 (([c0,c1,c2,c3].drop 0).take (Tryz.prog.cellsOf 5))=some y0:=hg 0 _ rfl;have h1:DataW.trod enc Tryz.prog w base spare held n 5 (([c0,c1,c2,c3].drop 1).take (Tryz.prog.cellsOf 5))=some y1:=hg 1 _ rfl;have h2:DataW.trod enc Tryz.prog w base spare held n 5 (([c0,c1,c2,c3].drop 2).take (Tryz.prog.cellsOf 5))=some y2:=hg 2 _ rfl;have h3:DataW.trod enc Tryz.prog w base spare held n 5 (([c0,c1,c2,c3].drop 3).take (Tryz.prog.cellsOf 5))=some y3:=hg 3 _ rfl;rw [k0] at h0 h1 h2 h3;obtain ⟨n0,e0,_,w0⟩:=DataW.trod_int Tryz.underlying5 h0;obtain ⟨n1,e1,_,w1⟩:=DataW.trod_int Tryz.underlying5 h1;obtain ⟨n2,e2,_,w2⟩:=DataW.trod_int Tryz.underlying5 h2;obtain ⟨n3,e3,_,w3⟩:=DataW.trod_int Tryz.underlying5 h3;obtain ⟨m0,rfl,b0⟩:=CS w0;obtain ⟨m1,rfl,b1⟩:=CS w1;obtain ⟨m2,rfl,b2⟩:=CS w2;obtain ⟨m3,rfl,b3⟩:=CS w3;simp only [List.drop,List.take,List.cons.injEq,Y_] at e0 e1 e2 e3;subst e0 e1 e2 e3;exact ⟨(m0,m1,m2,m3),rfl,b0,b1,b2,b3⟩
end
theorem ale {H:Type} {enc:TypeId × Value->H} {W:World} {base0:Nat} {v:Value} {d:DataW H} {p:List MemPlace} (hv:Value.okWide Tryz.prog W .any base0 50 v) (h:DataW.Trod enc Tryz.prog W 0 (fun _ => true) true 50 v d p) (hs:Sz 50 d) :
  ∃ cs:List Chg,cs.length<=140737488351232/\agN W W.heap.size v cs:=by
 obtain ⟨a0,len0,cap0,rfl⟩:=okWide_slice Tryz.underlying50 hv;obtain ⟨fuel,hf⟩:=h;obtain ⟨v',xs,h1,h2,h3,h4⟩:=open_list (f:=ahO) Tryz.underlying50 (size:=4) (by kernel_rfl) (by decide) af0 hf hs (good:=ahX) (fun N cs' D Q hl ht _ => ao1 N cs' D Q hl ht);simp only [Value.cells,List.cons.injEq,Y_] at h1;have hb:Tryz.prog.bytesOf 90=4:=by kernel_rfl
 rw [hb] at h2;subst h1;exact ⟨xs,by omega,h4,h3⟩

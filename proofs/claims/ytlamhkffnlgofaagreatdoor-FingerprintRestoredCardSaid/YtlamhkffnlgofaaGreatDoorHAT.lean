/- Plain and heap: changes of drafts that come in; the rows of a draft that is being changed. Types whose lists are slices of the call's own. Plain: what the types of a draft's schema have, for the maker of values. Plain: the types of a draft's schema have small numbers and short lists. No condition. -/
import Derived.Deep.AppendLies
import Derived.Laws.OwnMore
import Derived.Test.YtlamhkffnlgofaaGreatDoorHAS
import Derived.Test.YtlamhkffnlgofaaGreatDoorHAD
set_option maxHeartbeats 2000000
namespace Go.Proofs.YtlamhkffnlgofaaGreatDoor
open Go.ChangeShapes Go.WideShapes Go.ChangeAt Go.RowKit Go.Joins
abbrev Chg:=Nat × Nat × Nat × Nat
def ahO (c:Chg):List Value:=[.int .u8 c.1,.int .u8 c.2.1,.int .u8 c.2.2.1,.int .u8 c.2.2.2]
theorem af0 (c:Chg):(ahO c).length=4:=rfl
def ahX (c:Chg):Prop:=c.1 < 256∧c.2.1 < 256∧c.2.2.1 < 256∧c.2.2.2 < 256
def agN (w:World) (B:Nat) (v:Value) (cs:List Chg):Prop:=Rd w B 4 v cs.length (cs.flatMap ahO)∧∀ c ∈ cs,ahX c
theorem adf:∀ (cs:List Chg) (i j:Nat) (h:i < cs.length),j < 4→(cs.flatMap ahO)[i*4+j]?=(ahO cs[i])[j]?
 | [],_,_,h,_ => by simp at h
 | c :: cs,0,j,_,hj => by
  rw [List.flatMap_cons,List.getElem?_append_left (by rw [af0];omega)];simp
 | c :: cs,i+1,j,h,hj => by
  rw [List.flatMap_cons,List.getElem?_append_right (by rw [af0];omega),af0,show (i+1)*4+j - 4=i*4+j by omega,adf cs i j (by simpa using h) hj];simp
theorem agN.elem {w:World} {B c:Nat} {A:Option Addr} {cs:List Chg} (h:agN w B (.slice A cs.length c) cs) (hpos:0 < cs.length):∃ b o,A=some ⟨b,o,none⟩∧b < B∧∀ i (hi:i < cs.length),ahX cs[i]∧w.cell? ⟨b,o+i*4,none⟩=some (.int .u8 cs[i].1)∧w.cell? ⟨b,o+i*4+1,none⟩=some (.int .u8 cs[i].2.1)∧w.cell? ⟨b,o+i*4+2,none⟩=some (.int .u8 cs[i].2.2.1)∧w.cell? ⟨b,o+i*4+3,none⟩=some (.int .u8 cs[i].2.2.2):=by
 obtain ⟨b,o,hA,hb,hc⟩:=h.1.at_ hpos;refine ⟨b,o,hA,hb,fun i hi => ⟨h.2 _ (List.getElem_mem hi),?_,?_,?_,?_⟩⟩
 · exact hc (i*4+0) _ ((adf cs i 0 hi (by omega)).trans rfl)
 · exact hc (i*4+1) _ ((adf cs i 1 hi (by omega)).trans rfl)
 · exact hc (i*4+2) _ ((adf cs i 2 hi (by omega)).trans rfl)
 exact hc (i*4+3) _ ((adf cs i 3 hi (by omega)).trans rfl)
def U8L (ys:List Value):Prop := ∀ u ∈ ys,∃ a:Nat,a < 256∧u = .int .u8 a
theorem U8L.app {xs ys:List Value} (h:U8L xs) (h2:U8L ys):U8L (xs ++ ys):=fun u hu => (List.mem_append.1 hu).elim (h u) (h2 u)
theorem U8L.take {xs:List Value} (h:U8L xs) (k:Nat):U8L (xs.take k):=fun u hu => h u (List.mem_of_mem_take hu)
theorem U8L.drop {xs:List Value} (h:U8L xs) (k:Nat):U8L (xs.drop k):=fun u hu => h u (List.mem_of_mem_drop hu)
theorem U8L.set {xs:List Value} (h:U8L xs) (k:Nat) {a:Nat} (ha:a < 256):U8L (xs.set k (.int .u8 a)):=fun u hu => by
 rcases List.mem_or_eq_of_mem_set hu with h2 | h2
 · exact h u h2
 exact ⟨a,ha,h2⟩
theorem U8L.at_ {xs:List Value} (h:U8L xs) {k:Nat} (hk:k < xs.length):∃ a:Nat,a < 256∧xs[k]?=some (.int .u8 a):=by
 obtain ⟨a,h1,h2⟩:=h _ (List.getElem_mem hk);exact ⟨a,h1,by rw [List.getElem?_eq_getElem hk,h2]⟩
theorem U8L.one {xs:List Value} (h:U8L xs):∀ u ∈ xs,u.oneCell'=true:=fun u hu => by
 obtain ⟨a,_,rfl⟩:=h u hu;rfl
theorem aik:∀ (l:List Aw),(∀ p ∈ l,Xd p)→U8L (l.flatMap aav)
 | [],_ => by intro u hu;simp at hu
 | p :: l,h => by
  rw [List.flatMap_cons];refine U8L.app (fun u hu => ?_) (aik l fun q hq => h q (List.mem_cons_of_mem _ hq));obtain ⟨h1,h2,h3⟩:=h p List.mem_cons_self;simp [aav] at hu;rcases hu with rfl | rfl | rfl
  · exact ⟨_,h1,rfl⟩
  · exact ⟨_,h2,rfl⟩
  exact ⟨_,h3,rfl⟩
theorem aiD:∀ (m:Nat) (ys:List Value),ys.length=m*3→U8L ys→∃ ps:List Aw,ys=ps.flatMap aav∧ps.length=m∧∀ p ∈ ps,Xd p
 | 0,ys,hl,_ => ⟨[],List.eq_nil_of_length_eq_zero (by omega),rfl,by simp⟩
 | m+1,ys,hl,h => by
  match ys,hl with
  | a :: b :: c :: r,hl =>
   obtain ⟨ps,h1,h2,h3⟩:=aiD m r (by simp at hl;omega) fun u hu => h u (by simp [hu]);obtain ⟨x,hx,rfl⟩:=h a (by simp);obtain ⟨y,hy,rfl⟩:=h b (by simp);obtain ⟨z,hz,rfl⟩:=h c (by simp);refine ⟨(x,y,z) :: ps,by rw [h1,List.flatMap_cons];rfl,by simp [h2],?_⟩;intro p hp;rcases List.mem_cons.1 hp with rfl | hp
   · exact ⟨hx,hy,hz⟩
   exact h3 p hp
  | [],hl => simp at hl
  | [_],hl => simp at hl;omega
  | [_,_],hl => simp at hl;omega
def MX (w:World) (S:Nat→Prop) (B n:Nat) (xs:List Value):Prop := ∀ k,k < n→∃ (x:fJ) (vp:Value),(∀ j u,(ae2 x vp)[j]?=some u→xs[k*5+j]?=some u)∧U4 w B x vp∧x.parts.length≤46912496117077∧(0 < x.parts.length→∀ b,vp.ownBlock=some b→¬ S b)
theorem Rd.ao7 {w w':World} {B size n:Nat} {S:Nat→Prop} {v:Value} {xs:List Value} (h:Rd w B size v n xs) (hv:0 < n→∀ b,v.ownBlock=some b→¬ S b) (hk:∀ p:Addr,p.block < B→¬ S p.block→w'.cell? p=w.cell? p):Rd w' B size v n xs:=by
 obtain ⟨hl,A,c,hv',hc,h2⟩:=h;refine ⟨hl,A,c,hv',hc,?_⟩;by_cases h0:n=0
 · exact .inl h0
 rcases h2 with h2 | ⟨b,o,hA,hb,hcell⟩
 · exact .inl h2
 refine .inr ⟨b,o,hA,hb,fun j u hu => (hk _ hb ?_).trans (hcell j u hu)⟩;exact hv (by omega) b (by rw [hv',hA];rfl)
theorem MX.keep {w w':World} {S:Nat→Prop} {B B' n:Nat} {xs:List Value} (h:MX w S B n xs) (hk:∀ p:Addr,p.block < B→¬ S p.block→w'.cell? p=w.cell? p) (hB:B≤B'):MX w' S B' n xs:=fun k hkn => by
 obtain ⟨x,vp,h1,h2,h3⟩:=h k hkn;exact ⟨x,vp,h1,⟨h2.ints,h2.len,h2.ins,(h2.parts.ao7 h3.2 hk).mono hB⟩,h3⟩
theorem zEy {p:Prop} (h:p:=by
 have hj':j' < 5:=by
  have:=(List.getElem?_eq_some_iff.1 hu).1;simp [ae2] at this;omega
 rw [List.getElem?_set_ne (by omega)];exact h1 j' u hu):p:=h
theorem MX.set {w:World} {S:Nat→Prop} {B n:Nat} {xs:List Value} (h:MX w S B n xs) (hl:xs.length=n*5) {k j a:Nat} (hk:k < n) (hj:j < 4) (ha:a < 256):MX w S B n (xs.set (k*5+j) (.int .u8 a)):=fun i hi => by
 obtain ⟨x,vp,h1,h2,h3⟩:=h i hi;by_cases e:i=k
 ·
  subst e;have hset:∀ j' u,j'≠j→(ae2 x vp)[j']?=some u→(xs.set (i*5+j) (.int .u8 a))[i*5+j']?=some u:=fun j' u hne hu => by
   rw [List.getElem?_set_ne (by omega)];exact h1 j' u hu
  have hat:(xs.set (i*5+j) (.int .u8 a))[i*5+j]?=some (.int .u8 a):=by rw [List.getElem?_set_self (by omega)]
  obtain ⟨i1,i2,i3,i4⟩:=h2.ints;have hc:j=0∨j=1∨j=2∨j=3:=by omega
  rcases hc with rfl | rfl | rfl | rfl
  ·
   refine ⟨{ x with kind:=a },vp,fun j' u hu => ?_,⟨⟨ha,i2,i3,i4⟩,h2.len,h2.ins,h2.parts⟩,h3⟩
   match j',hu with
   | 0,hu => rw [hat];exact hu
   | 1,hu => exact hset 1 u (by omega) hu
   | 2,hu => exact hset 2 u (by omega) hu
   | 3,hu => exact hset 3 u (by omega) hu
   | 4,hu => exact hset 4 u (by omega) hu
   | n+5,hu => simp [ae2] at hu
  ·
   refine ⟨{ x with a:=a },vp,fun j' u hu => ?_,⟨⟨i1,ha,i3,i4⟩,h2.len,h2.ins,h2.parts⟩,h3⟩
   match j',hu with
   | 0,hu => exact hset 0 u (by omega) hu
   | 1,hu => rw [hat];exact hu
   | 2,hu => exact hset 2 u (by omega) hu
   | 3,hu => exact hset 3 u (by omega) hu
   | 4,hu => exact hset 4 u (by omega) hu
   | n+5,hu => simp [ae2] at hu
  ·
   refine ⟨{ x with b:=a },vp,fun j' u hu => ?_,⟨⟨i1,i2,ha,i4⟩,h2.len,h2.ins,h2.parts⟩,h3⟩
   match j',hu with
   | 0,hu => exact hset 0 u (by omega) hu
   | 1,hu => exact hset 1 u (by omega) hu
   | 2,hu => rw [hat];exact hu
   | 3,hu => exact hset 3 u (by omega) hu
   | 4,hu => exact hset 4 u (by omega) hu
   | n+5,hu => simp [ae2] at hu
  refine ⟨{ x with c:=a },vp,fun j' u hu => ?_,⟨⟨i1,i2,i3,ha⟩,h2.len,h2.ins,h2.parts⟩,h3⟩
  match j',hu with
  | 0,hu => exact hset 0 u (by omega) hu
  | 1,hu => exact hset 1 u (by omega) hu
  | 2,hu => exact hset 2 u (by omega) hu
  | 3,hu => rw [hat];exact hu
  | 4,hu => exact hset 4 u (by omega) hu
  | n+5,hu => simp [ae2] at hu
 refine ⟨x,vp,fun j' u hu => ?_,h2,h3⟩;exact zEy
theorem MX.arI {w:World} {S:Nat→Prop} {B n:Nat} {xs ys:List Value} {vp:Value} {m:Nat} (h:MX w S B n xs) (hl:xs.length=n*5) {k:Nat} (hk:k < n) (hr:Rd w B 3 vp m ys) (hu8:U8L ys) (hm:m≤46912496117077) (hv:0 < m→∀ b,vp.ownBlock=some b→¬ S b):MX w S B n (xs.set (k*5+4) vp):=fun i hi => by
 obtain ⟨x,vp0,h1,h2,h3⟩:=h i hi;by_cases e:i=k
 ·
  subst e;obtain ⟨ps,rfl,rfl,hin⟩:=aiD m ys hr.1 hu8;refine ⟨{ x with parts:=ps },vp,fun j' u hu => ?_,⟨h2.ints,by show ps.length≤_;omega,hin,hr⟩,hm,hv⟩;have hset:∀ j' u,j'≠4→(ae2 x vp0)[j']?=some u→(xs.set (i*5+4) vp)[i*5+j']?=some u:=fun j' u hne hu => by
   rw [List.getElem?_set_ne (by omega)];exact h1 j' u hu
  match j',hu with
  | 0,hu => exact hset 0 u (by omega) hu
  | 1,hu => exact hset 1 u (by omega) hu
  | 2,hu => exact hset 2 u (by omega) hu
  | 3,hu => exact hset 3 u (by omega) hu
  | 4,hu => rw [List.getElem?_set_self (by omega)];exact hu
  | n+5,hu => simp [ae2] at hu
 refine ⟨x,vp0,fun j' u hu => ?_,h2,h3⟩;exact zEy
theorem MX.at_ {w:World} {S:Nat→Prop} {B n:Nat} {xs:List Value} (h:MX w S B n xs) {k:Nat} (hk:k < n):∃ (x:fJ) (vp:Value),xs[k*5]?=some (.int .u8 x.kind)∧xs[k*5+1]?=some (.int .u8 x.a)∧xs[k*5+2]?=some (.int .u8 x.b)∧xs[k*5+3]?=some (.int .u8 x.c)∧xs[k*5+4]?=some vp∧U4 w B x vp∧x.parts.length≤46912496117077:=by
 obtain ⟨x,vp,h1,h2,h3,_⟩:=h k hk;exact ⟨x,vp,h1 0 _ rfl,h1 1 _ rfl,h1 2 _ rfl,h1 3 _ rfl,h1 4 _ rfl,h2,h3⟩
theorem ai0 {w:World} {S:Nat→Prop} {base nb n cap:Nat} {e:TypeId} {xs:List Value} (ho:w.ownsRow base e 5 (.slice (some ⟨nb,0,none⟩) n cap) n xs) (h:MX w S w.heap.size n xs) (hc:n≤cap):∃ ys:List fJ,ys.length=n∧jR w w.heap.size (.slice (some ⟨nb,0,none⟩) n cap) ys:=by
 have hex:∀ i:Nat,∃ p:fJ × Value,i < n→(∀ j u,(ae2 p.1 p.2)[j]?=some u→xs[i*5+j]?=some u)∧U4 w w.heap.size p.1 p.2:=fun i => by
  by_cases hi:i < n
  ·
   obtain ⟨x,vp,h1,h2,_⟩:=h i hi;exact ⟨(x,vp),fun _ => ⟨h1,h2⟩⟩
  exact ⟨(⟨0,0,0,0,[]⟩,.bool false),fun h => absurd h hi⟩
 obtain ⟨F,hF⟩:=Classical.axiomOfChoice hex;have hnb:nb < w.heap.size:=(ho.lt nb rfl).2;refine ⟨(List.range n).map fun i => (F i).1,by simp,fun i => ae2 (F i).1 (F i).2,⟨_,cap,by simp,by simpa using hc,.inr ⟨nb,0,rfl,hnb,fun i hi j u hu => ?_⟩⟩,fun i hi => ?_⟩
 ·
  have hi':i < n:=by simpa using hi
  have h1:=(hF i hi').1 j u hu;have hj:j < 5:=by have:=(List.getElem?_eq_some_iff.1 hu).1;simp [ae2] at this;omega
  have:=ho.cellAt (i*5+j) (by omega);rw [h1] at this;rw [show 0+i*5+j=i*5+j by omega];exact this
 have hi':i < n:=by simpa using hi
 refine ⟨(F i).2,by simp,?_⟩;simpa using (hF i hi').2
def af2 (c:Nat→List Value) (n:Nat):List Value:=(List.range (n*5)).map fun j => ((c (j / 5))[j % 5]?).getD (.int .u8 0)
theorem agh (c:Nat→List Value) (n:Nat):(af2 c n).length=n*5:=by simp [af2]
theorem ald (c:Nat→List Value) (n:Nat) (k j:Nat) (hk:k < n) (u:Value) (hj:(c k)[j]?=some u) (h5:j < 5):(af2 c n)[k*5+j]?=some u:=by
 unfold af2;rw [List.getElem?_map,List.getElem?_range (by omega)];have h1:(k*5+j) / 5=k:=by omega
 have h2:(k*5+j) % 5=j:=by omega
 simp only [Option.map_some,h1,h2,hj,Option.getD_some]
theorem ajo {w:World} {v:Value} {xs:List fJ} (h:jR w w.heap.size v xs) (hp:∀ x ∈ xs,x.parts.length≤46912496117077) :
  ∃ news:List Value,news.length=xs.length*5∧(∀ u ∈ news,u.oneCell'=true)∧(∀ S:Nat→Prop,(∀ b,S b→w.heap.size≤b)→MX w S w.heap.size xs.length news)∧Rd w w.heap.size 5 v xs.length news:=by
 obtain ⟨c,⟨A,cap,hv,hcap,hrow⟩,hn⟩:=h;have hlen:∀ i (hi:i < xs.length),(c i).length=5:=fun i hi => by
  obtain ⟨vp,e,_⟩:=hn i hi;rw [e];rfl
 refine ⟨af2 c xs.length,agh _ _,?_,?_,agh _ _,A,cap,hv,hcap,?_⟩
 ·
  intro u hu;unfold af2 at hu;obtain ⟨j,hj,rfl⟩:=List.mem_map.1 hu;have hj':j / 5 < xs.length:=by have:=List.mem_range.1 hj;omega
  obtain ⟨vp,e,h2⟩:=hn _ hj';obtain ⟨A2,c2,hvp,_⟩:=h2.parts.form;rw [e,hvp];have h5:j % 5 < 5:=Nat.mod_lt _ (by omega);have hcs:j % 5=0∨j % 5=1∨j % 5=2∨j % 5=3∨j % 5=4:=by omega
  rcases hcs with h | h | h | h | h <;> rw [h] <;> rfl
 ·
  intro S hS k hk;obtain ⟨vp,e,h2⟩:=hn k hk;refine ⟨xs[k],vp,fun j u hu => ?_,h2,hp _ (List.getElem_mem hk),?_⟩
  ·
   have hj:j < 5:=by have:=(List.getElem?_eq_some_iff.1 hu).1;simp [ae2] at this;omega
   exact ald c _ k j hk u (by rw [e];exact hu) hj
  intro h0 b' h3 hs;obtain ⟨_,A3,c3,hv3,_,h4⟩:=h2.parts;rcases h4 with h4 | ⟨b,o,hA,hb,_⟩
  · omega
  rw [hv3,hA] at h3;injection h3 with h3;have h5:b=b':=h3;have:=hS b' hs;omega
 by_cases h0:xs.length=0
 · exact .inl h0
 rcases hrow with hrow | ⟨b,o,hA,hb,hcell⟩
 · exact .inl hrow
 refine .inr ⟨b,o,hA,hb,fun j u hu => ?_⟩;have hj:j < xs.length*5:=by have:=(List.getElem?_eq_some_iff.1 hu).1;rw [agh] at this;exact this
 have hk:j / 5 < xs.length:=by omega
 have h5:j % 5 < (c (j / 5)).length:=by rw [hlen _ hk];omega
 have hu2:(c (j / 5))[j % 5]?=some u:=by
  unfold af2 at hu;rw [List.getElem?_map,List.getElem?_range hj] at hu;simp only [Option.map_some] at hu;rw [List.getElem?_eq_getElem h5] at hu ⊢;simpa using hu
 have:=hcell (j / 5) hk (j % 5) u hu2;rw [show o+j / 5*5+j % 5=o+j by omega] at this;exact this
theorem MX.close {wr W:World} {nb G n q m:Nat} {S:Nat→Prop} {ns ys:List Value} {vp:Value} (h:MX wr S G n ns) (hl:ns.length=n*5) (hS:∀ b,S b→b < G) (hSn:S nb) (hk:∀ p:Addr,p.block < G→p.block≠nb→W.cell? p=wr.cell? p) (hG:G≤W.heap.size) (hq:q < n) (hr:Rd W W.heap.size 3 vp m ys) (hu:U8L ys) (hm:m≤46912496117077) (hv:∀ b,vp.ownBlock=some b→G≤b):MX W S W.heap.size n (ns.set (q*5+4) vp) :=
 (h.keep (fun p hp hs => hk p hp fun e => hs (by rw [e];exact hSn)) hG).arI hl hq hr hu hm fun _ b hb hs => by have:=hv b hb;have:=hS b hs;omega
theorem adv (z:Int):∃ a:Nat,a < 256∧z % 256=(a:Int):=⟨(z % 256).toNat,by omega,by omega⟩
theorem acS (z:Int):∃ a:Nat,a < 256∧IntKind.u8.wrap z=(a:Int):=by
 refine ⟨(z % 256).toNat,by omega,?_⟩;rw [IntKind.wrap_u8];omega
section
variable {P:Program} {w:World}
theorem ahW (t ty:TypeId) (base:Nat) (e:TypeId) (z:Value) (size bytes:Nat) (ht:P.underlying t=some (.slice e)) (hinfo:(P.info? e).map (fun i => (i.zero,i.size,i.bytes))=some (some z,size,bytes)) (hzs:z.cells.size=size) (hsz:0 < size)
  {g0 n cap0:Nat} {xs:List Value} (hown:w.ownsRow base e size (.slice (some ⟨g0,0,none⟩) n cap0) n xs) {v:Value} {m:Nat} {news:List Value} (hr:Rd w w.heap.size size v m news) (h1:∀ u ∈ news,u.oneCell'=true)
  (h63:n+m≤maxLen) (hby:(n+m)*bytes≤140737488355328) (hbase:base≤w.heap.size) :
  ∃ g cap w',(Builtin.append_ #[t,t] ty #[.slice (some ⟨g0,0,none⟩) n cap0,v]).run P w = .ok (.slice (some ⟨g,0,none⟩) (n+m) cap) w' ∧
   w'.ownsRow base e size (.slice (some ⟨g,0,none⟩) (n+m) cap) (n+m) (xs ++ news)∧w.grownBy w' (some g0)∧(g=g0∨g=w.heap.size):=by
 obtain ⟨i,hi,hz0,hz1,hz2⟩:=info_parts hinfo;obtain ⟨hl,A,c,rfl,hmc,h2⟩:=hr;by_cases h0:m=0
 ·
  subst h0;have hnil:news = []:=List.eq_nil_of_length_eq_zero (by omega);subst hnil;cases A with
  | none =>
   refine ⟨g0,cap0,w,?_,by simpa using hown,⟨rfl,rfl,rfl,Nat.le_refl _,fun _ _ _ => rfl⟩,.inl rfl⟩;rcases hown.2 with ⟨h,_⟩ | ⟨g,cap,cur,h,_,_,hnc,_⟩
   · cases h
   simp only [Value.slice.injEq,Option.some.injEq,Addr.mk.injEq,and_true,true_and] at h;obtain ⟨rfl,rfl⟩:=h;simp [Builtin.append_,run_underlying ht,sizeOf,typeInfo,hi,Builtin.lenOf,Builtin.firstCells,hnc,storeCells]
  | some ad =>
   have hroom:n+0≤cap0:=by
    rcases hown.2 with ⟨h,_⟩ | ⟨g,cap,cur,h,_,_,hnc,_⟩
    · cases h
    simp only [Value.slice.injEq,Option.some.injEq,Addr.mk.injEq,and_true,true_and] at h;obtain ⟨rfl,rfl⟩:=h;exact hnc
   obtain ⟨w',hr,ho,hg⟩:=run_append_fits (P:=P) w base t ty e i size ht hi hz1 g0 n cap0 xs hown ad 0 c [] (by simp) (by simp) (by simp) hroom;exact ⟨g0,cap0,w',hr,ho,hg,.inl rfl⟩
 rcases h2 with h2 | ⟨b,o,rfl,hb,hcell⟩
 · exact absurd h2 h0
 obtain ⟨g,cap,w',hr,ho,hg,hat,_⟩:=run_append_lies (P:=P) w t ty base e i z size bytes ht hi hz0 hz1 hz2 hzs hsz _ n xs hown ⟨b,o,none⟩ m c news hl (fun j u hu => by
  have hadd:(⟨b,o,none⟩ : Addr).add j=⟨b,o+j,none⟩:=by unfold Addr.add;split <;> simp_all
  rw [hadd];exact hcell j u hu) h1 (by omega) h63 hby hbase w.heap.size rfl
 refine ⟨g,cap,w',hr,ho,hg,?_⟩;rcases hat with h | h
 · left;injection h with h;exact h.symm
 exact .inr h
theorem agj {o:Oper} {a:Act} {K:Act→World→Prop} {Q:Exit→Act→World→Prop} (s x:Operand) (t:TypeId)
  (ho:o.op = .call { callee:=.builtin .append,args:=#[s,x],argTypes:=#[t,t] })
  (base:Nat) (e:TypeId) (z:Value) (size bytes:Nat) (ht:P.underlying t=some (.slice e)) (hinfo:(P.info? e).map (fun i => (i.zero,i.size,i.bytes))=some (some z,size,bytes)) (hzs:z.cells.size=size) (hsz:0 < size)
  {g0 n cap0:Nat} {xs:List Value} (hs:a.eval s = .slice (some ⟨g0,0,none⟩) n cap0) (hown:w.ownsRow base e size (.slice (some ⟨g0,0,none⟩) n cap0) n xs) {v:Value} {m:Nat} {news:List Value} (hx:a.eval x=v) (hr:Rd w w.heap.size size v m news) (h1:∀ u ∈ news,u.oneCell'=true)
  (h63:n+m≤maxLen) (hby:(n+m)*bytes≤140737488355328) (hbase:base≤w.heap.size)
  (h:∀ g cap w',w'.ownsRow base e size (.slice (some ⟨g,0,none⟩) (n+m) cap) (n+m) (xs ++ news)→w.grownBy w' (some g0)→(g=g0∨g=w.heap.size)→K (a.put o.dst (.slice (some ⟨g,0,none⟩) (n+m) cap)) w'):o.wp P a w K Q:=by
 obtain ⟨g,cap,w',hrun,h2,h3,h4⟩:=ahW (P:=P) t o.type base e z size bytes ht hinfo hzs hsz hown hr h1 h63 hby hbase;unfold Oper.wp execOp;simp only [ho,resolve,invoke,builtin,Sem.run_bind,Sem.run_pure,Result.andThen_ok,List.map_toArray,List.map_cons,List.map_nil,hs,hx,hrun];exact h g cap w' h2 h3 h4
theorem ac3 {ops:Array Oper} {rest:List Oper} {o:Oper} {a:Act} {Q:Exit→Act→World→Prop} (hgd:o.guard=none) (s x:Operand) (t:TypeId)
  (ho:o.op = .call { callee:=.builtin .append,args:=#[s,x],argTypes:=#[t,t] })
  (base:Nat) (e:TypeId) (z:Value) (size bytes:Nat) (ht:P.underlying t=some (.slice e)) (hinfo:(P.info? e).map (fun i => (i.zero,i.size,i.bytes))=some (some z,size,bytes)) (hzs:z.cells.size=size) (hsz:0 < size)
  {g0 n cap0:Nat} {xs:List Value} (hs:a.eval s = .slice (some ⟨g0,0,none⟩) n cap0) (hown:w.ownsRow base e size (.slice (some ⟨g0,0,none⟩) n cap0) n xs) {v:Value} {m:Nat} {news:List Value} (hx:a.eval x=v) (hr:Rd w w.heap.size size v m news) (h1:∀ u ∈ news,u.oneCell'=true)
  (h63:n+m≤maxLen) (hby:(n+m)*bytes≤140737488355328) (hbase:base≤w.heap.size)
  (h:∀ g cap w',w'.ownsRow base e size (.slice (some ⟨g,0,none⟩) (n+m) cap) (n+m) (xs ++ news)→w.grownBy w' (some g0)→(g=g0∨g=w.heap.size)→wpList P ops Q rest (a.put o.dst (.slice (some ⟨g,0,none⟩) (n+m) cap)) w'):wpList P ops Q (o :: rest) a w :=
 wpList_plain hgd fun _ hK => agj s x t ho base e z size bytes ht hinfo hzs hsz hs hown hx hr h1 h63 hby hbase fun g cap w' h2 h3 h4 => hK _ _ (h g cap w' h2 h3 h4)
theorem adw {ops:Array Oper} {o:Oper} {a:Act} {K:Act→World→Prop} {Q:Exit→Act→World→Prop} {E:Prop} (hgd:o.guard=none) (s x:Operand) (t:TypeId)
  (ho:o.op = .call { callee:=.builtin .append,args:=#[s,x],argTypes:=#[t,t] })
  (base:Nat) (e:TypeId) (z:Value) (size bytes:Nat) (ht:P.underlying t=some (.slice e)) (hinfo:(P.info? e).map (fun i => (i.zero,i.size,i.bytes))=some (some z,size,bytes)) (hzs:z.cells.size=size) (hsz:0 < size)
  {g0 n cap0:Nat} {xs:List Value} (hs:a.eval s = .slice (some ⟨g0,0,none⟩) n cap0) (hown:w.ownsRow base e size (.slice (some ⟨g0,0,none⟩) n cap0) n xs) {v:Value} {m:Nat} {news:List Value} (hx:a.eval x=v) (hr:Rd w w.heap.size size v m news) (h1:∀ u ∈ news,u.oneCell'=true)
  (h63:n+m≤maxLen) (hby:(n+m)*bytes≤140737488355328) (hbase:base≤w.heap.size)
  (h:∀ g cap w',w'.ownsRow base e size (.slice (some ⟨g,0,none⟩) (n+m) cap) (n+m) (xs ++ news)→w.grownBy w' (some g0)→(g=g0∨g=w.heap.size)→K (a.put o.dst (.slice (some ⟨g,0,none⟩) (n+m) cap)) w') :
  if Region.wanted o (yielded ops a.tmps)=true then Oper.wp P o a w K Q else E:=by
 have hw:Region.wanted o (yielded ops a.tmps)=true:=by simp [Region.wanted,hgd]
 rw [if_pos hw];exact agj s x t ho base e z size bytes ht hinfo hzs hsz hs hown hx hr h1 h63 hby hbase h
end
theorem ajp {w:World} {base g n cap k size:Nat} {e:TypeId} {xs:List Value} (h:w.ownsRow base e size (.slice (some ⟨g,0,none⟩) n cap) n xs) (hk:k≤n):w.ownsRow base e size (.slice (some ⟨g,0,none⟩) k cap) k (xs.take (k*size)):=by
 have hks:k*size≤n*size:=Nat.mul_le_mul_right _ hk;refine ⟨by rw [List.length_take,h.1];omega,?_⟩;rcases h.2 with ⟨h',_⟩ | ⟨g',cap',cur,h',hb,hg,hnc,hcm,hcs,htake⟩
 · cases h'
 simp only [Value.slice.injEq,Option.some.injEq,Addr.mk.injEq,and_true,true_and] at h';obtain ⟨rfl,rfl⟩:=h';refine .inr ⟨g,cap,cur,rfl,hb,hg,by omega,hcm,hcs,?_⟩;rw [← htake,List.take_take,Nat.min_eq_left hks]
theorem anU {w:World} {g:Nat} {T:TypeId} {a b c:Value} (h:Has w g T #[a,b,c]):Rd w w.heap.size 3 (.slice (some ⟨g,0,none⟩) 1 1) 1 [a,b,c]:=by
 refine ⟨rfl,_,1,rfl,Nat.le_refl _,.inr ⟨g,0,rfl,h.here,fun j u hu => ?_⟩⟩;rw [Nat.zero_add]
 match j,hu with
 | 0,hu => injection hu with hu;rw [← hu];exact h.cell 0
 | 1,hu => injection hu with hu;rw [← hu];exact h.cell 1
 | 2,hu => injection hu with hu;rw [← hu];exact h.cell 2
 | n+3,hu => simp at hu
theorem ajq {w:World} {base g n cap k c:Nat} {e:TypeId} {xs:List Value} {p:Prop} [Decidable p] {ad:Addr} (h:w.ownsRow base e 3 (.slice (some ⟨g,0,none⟩) n cap) n xs) (hk:k≤n) (hc:n - k≤c) (hp:p→n≤k):Rd w w.heap.size 3 (.slice (if p then some ad else some ⟨g,k*3,none⟩) (n - k) c) (n - k) (xs.drop (k*3)):=by
 have hl:=h.1;refine ⟨by rw [List.length_drop];omega,_,c,rfl,hc,?_⟩;by_cases h0:p
 · exact .inl (by have:=hp h0;omega)
 rw [if_neg h0];refine .inr ⟨g,k*3,rfl,(h.lt g rfl).2,fun j u hu => ?_⟩;rw [List.getElem?_drop] at hu;have hj:=(List.getElem?_eq_some_iff.1 hu).1;rw [h.cellAt _ (by omega)];exact hu
theorem FB {w:World} {base g n cap size:Nat} {e:TypeId} {xs:List Value} (h:w.ownsRow base e size (.slice (some ⟨g,0,none⟩) n cap) n xs):Kept (fun w => w.ownsRow base e size (.slice (some ⟨g,0,none⟩) n cap) n xs) w g (g+1) :=
 ⟨h,fun w' hk => by
  obtain ⟨h1,h2⟩:=h;refine ⟨h1,?_⟩;rcases h2 with ⟨hv,_⟩ | ⟨g',cap',cur,hv,hb,hh,h3⟩
  · cases hv
  injection hv with hv1 hv2 hv3;injection hv1 with hv1;injection hv1 with hv1;subst hv1;exact .inr ⟨g,cap',cur,by rw [hv3],hb,by rw [hk g (Nat.le_refl _) (Nat.lt_succ_self _),hh],h3⟩,(h.lt g rfl).2⟩
theorem CX {w:World} {g o:Nat} {u:Value} (h:w.cell? ⟨g,o,none⟩=some u):Kept (fun w => w.cell? ⟨g,o,none⟩=some u) w g (g+1) :=
 ⟨h,fun _ hk => (World.cell?_of_block (hk g (Nat.le_refl _) (Nat.lt_succ_self _))).trans h,World.block_lt_of_cell? _ _ h⟩
theorem acL {w wr:World} {G nb:Nat} (h:∀ p:Addr,p.block < G→p.block≠nb→w.cell? p=wr.cell? p) (hG:G≤w.heap.size):Kept (fun w => ∀ p:Addr,p.block < G→p.block≠nb→w.cell? p=wr.cell? p) w 0 G :=
 ⟨h,fun _ hk p h1 h2 => (World.cell?_of_block (hk p.block (Nat.zero_le _) h1)).trans (h p h1 h2),hG⟩
end Go.Proofs.YtlamhkffnlgofaaGreatDoor
namespace Go.Proofs.YtlamhkffnlgofaaGreatDoor
open Go.ChangeShapes Go.WideShapes Go.ChangeAt Go.RowKit
def KD (v:Value) (r:Option Nat):Prop:=v.ownBlock=none∨v.ownBlock≠r
def JO (m:Mem):Prop:=I64 m.id∧I64 m.ty∧m.name.length≤140737488351232∧I64 m.dflt.kind∧I64 m.dflt.num∧I64 m.dflt.id∧m.dflt.str.length≤140737488351232∧m.dflt.keys = []∧m.dflt.items = []∧m.dflt.rest = []
structure qJ (t:ay):Prop where
 ints:I64 t.kind∧I64 t.low∧I64 t.high∧I64 t.max∧I64 t.key∧I64 t.elem
 GI:t.name.length≤140737488351232
 lens:t.syms.length≤140737488351232∧t.ah.length≤140737488351232
 QL:∀ r ∈ t.syms,yR r
 adr:∀ m ∈ t.ah,JO m
structure XE (w:World) (base:Nat) (t:ay) (vs vm:Value):Prop where
 sy:w.ownsRow base 105 2 vs t.syms.length (jO t.syms)
 me:w.ownsRow base 83 13 vm t.ah.length (t.ah.flatMap Qc)
inductive jP (w:World) (base:Nat) (r:Option Nat):List ay→List Value→Prop
 | nil:jP w base r [] []
 | snoc (ts:List ay) (cs:List Value) (t:ay) (vs vm:Value) (h:jP w base r ts cs) (ho:XE w base t vs vm) (h1:KD vs r) (h2:KD vm r) (hp:qJ t):jP w base r (ts ++ [t]) (cs ++ Pq t vs vm)
theorem jP.heap {w w':World} {base:Nat} {r:Option Nat} {ts:List ay} {cs:List Value} (h:jP w base r ts cs) (hk:∀ k:Nat,base≤k→k < w.heap.size→w'.heap[k]?=w.heap[k]?):jP w' base r ts cs:=by
 induction h with
 | nil => exact .nil
 | snoc ts cs t vs vm _ ho h1 h2 hp ih => exact .snoc ts cs t vs vm ih ⟨DI ho.sy hk,DI ho.me hk⟩ h1 h2 hp
theorem Kept.typs {w:World} {base:Nat} {r:Option Nat} {ts:List ay} {cs:List Value} (h:jP w base r ts cs):Kept (fun w => jP w base r ts cs) w base w.heap.size:=⟨h,fun _ hk => h.heap hk,Nat.le_refl _⟩
theorem UK {w:World} {base:Nat} {e:TypeId} {size n:Nat} {v:Value} {xs:List Value} (ho:w.ownsRow base e size v n xs) {r r':Option Nat} (h1:KD v r) {H:Nat} (hH:w.heap.size≤H) (hr:r'=r∨r'=some H):KD v r':=by
 rcases hr with rfl | rfl
 · exact h1
 rcases h1 with h1 | h1
 · exact .inl h1
 cases hv:v.ownBlock with
 | none => exact .inl hv
 | some k =>
  right
  rw [hv];intro he;injection he with he;have:=(ho.lt k hv).2;omega
theorem jP.grown {W w':World} {base:Nat} {r r':Option Nat} {ts:List ay} {cs:List Value} {o:Obj} (h:jP W base r ts cs) (hg:(W.alloc o).grownBy w' r) {H:Nat} (hH:W.heap.size≤H) (hr:r'=r∨r'=some H):jP w' base r' ts cs:=by
 induction h with
 | nil => exact .nil
 | snoc ts cs t vs vm _ ho h1 h2 hp ih => exact .snoc ts cs t vs vm ih ⟨TV ho.sy hg h1,TV ho.me hg h2⟩ (UK ho.sy h1 hH hr) (UK ho.me h2 hH hr) hp
theorem jP.len {w:World} {base:Nat} {r:Option Nat} {ts:List ay} {cs:List Value} (h:jP w base r ts cs):cs.length=ts.length*10:=by
 induction h with
 | nil => rfl
 | snoc ts cs t vs vm _ _ _ _ _ ih => rw [List.length_append,List.length_append,ih,Nat.add_mul];rfl
theorem ahC {w:World} {base:Nat} {vm:Value} {ms:List Mem} (h:w.ownsRow base 83 13 vm ms.length (ms.flatMap Qc)) (hp:∀ m ∈ ms,JO m):rW w w.heap.size vm ms:=by
 have hr:=Rd.uX h;obtain ⟨hl,A,c,hv,hc,h2⟩:=hr;refine ⟨fun i => match ms[i]? with | some m => Qc m | none => [],⟨A,c,hv,hc,?_⟩,fun i hi => ?_⟩
 ·
  rcases h2 with h2 | ⟨b,o,hA,hb,hcell⟩
  · exact .inl h2
  refine .inr ⟨b,o,hA,hb,fun i hi j u hu => ?_⟩;simp only [List.getElem?_eq_getElem hi] at hu;have hj:j < 13:=by
   have:=(List.getElem?_eq_some_iff.1 hu).1;simpa [ayA] using this
  rw [Nat.add_assoc];exact hcell _ _ (by rw [flat_get ayA ms i j hi hj];exact hu)
 obtain ⟨a1,a2,a3,a4,a5,a6,a7,a8,a9,a10⟩:=hp ms[i] (List.getElem_mem hi);refine ⟨.slice none 0 0,.slice none 0 0,.slice none 0 0,?_,⟨a1,a2⟩,a3,⟨⟨a4,a5,a6⟩,a7,by rw [a8,a9,a10];simp,by rw [a10];simp,?_,?_,?_⟩⟩
 · simp only [List.getElem?_eq_getElem hi];rfl
 · rw [a8];exact ⟨fun _ => [],⟨none,0,rfl,Nat.le_refl _,.inl rfl⟩,fun i hi => by simp at hi⟩
 · rw [a9];exact ⟨fun _ => [],⟨none,0,rfl,Nat.le_refl _,.inl rfl⟩,fun i hi => by simp at hi⟩
 rw [a10];exact Rd.nil_ _ _ _
theorem XE.at_ {w:World} {base:Nat} {t:ay} {vs vm:Value} (h:XE w base t vs vm) (hp:qJ t):jc w w.heap.size t vs vm :=
 ⟨hp.ints,hp.GI,hp.lens,hp.QL,Rd.uX h.sy,ahC h.me hp.adr⟩
theorem jP.cell {w:World} {base:Nat} {r:Option Nat} {ts:List ay} {cs:List Value} (h:jP w base r ts cs):∀ (i:Nat) (hi:i < ts.length),∃ vs vm,(cs.drop (i*10)).take 10=Pq ts[i] vs vm∧jc w w.heap.size ts[i] vs vm:=by
 induction h with
 | nil => intro i hi;simp at hi
 | snoc ts cs t vs vm h0 ho h1 h2 hp ih =>
  intro i hi;have hl:=h0.len;by_cases hlt:i < ts.length
  ·
   obtain ⟨a,b,h3,h4⟩:=ih i hlt;refine ⟨a,b,?_,?_⟩
   · rw [List.drop_append_of_le_length (by omega),List.take_append_of_le_length (by rw [List.length_drop];omega),h3,List.getElem_append_left hlt]
   rw [List.getElem_append_left hlt];exact h4
  obtain rfl:i=ts.length:=by simp at hi;omega
  refine ⟨vs,vm,?_,?_⟩
  ·
   rw [← hl,List.drop_left,List.getElem_append_right (Nat.le_refl _)];simp
   rfl
  rw [List.getElem_append_right (Nat.le_refl _)];simpa using ho.at_ hp
theorem Yw {w:World} {base:Nat} {r:Option Nat} {v:Value} {ts:List ay} {cs:List Value} (ho:w.ownsRow base 71 10 v ts.length cs) (h:jP w base r ts cs):aU w w.heap.size v ts:=by
 have hr:=Rd.uX ho;obtain ⟨hl,A,c,hv,hc,h2⟩:=hr;refine ⟨fun i => (cs.drop (i*10)).take 10,⟨A,c,hv,hc,?_⟩,h.cell⟩;rcases h2 with h2 | ⟨b,o,hA,hb,hcell⟩
 · exact .inl h2
 refine .inr ⟨b,o,hA,hb,fun i hi j u hu => ?_⟩;have hj:j < 10:=by
  have:=(List.getElem?_eq_some_iff.1 hu).1;rw [List.length_take] at this;omega
 rw [List.getElem?_take_of_lt hj,List.getElem?_drop] at hu;rw [Nat.add_assoc];exact hcell _ _ hu
theorem Bo (xs:List fJ):(jw xs).length=xs.length:=by unfold jw;simp
theorem FW (xs:List fJ) (k:Nat) (h:k < xs.length):(jw xs)[k]'(by rw [Bo];exact h)=iL xs k xs[k]:=by unfold jw;simp
def Down (ts:List ay) (i:Nat) (t:Int):Prop := ∃ j:Nat,t=j∧∃ h:j < ts.length,j < i∨7≤ts[j].kind
structure Tf (ts:List ay) (i:Nat) (x:ay):Prop where
 three:x.kind=3→0≤x.max∧x.max≤3
 four:x.kind=4→1≤x.syms.length
 syms:x.syms.length≤6∧∀ a ∈ x.syms,1≤a.1∧a.1≤6
 ah:x.ah.length≤12∧∀ m ∈ x.ah,(1≤m.id∧m.id≤12)∧Down ts i m.ty
 six:x.kind=6→1≤x.ah.length
 max:x.kind=7∨x.kind=8→0≤x.max∧x.max≤3
 elem:7≤x.kind→∃ j:Nat,x.elem=j∧j < ts.length
 key:x.kind=8→∃ j:Nat,x.key=j∧∃ h:j < ts.length,1≤ts[j].kind∧ts[j].kind≤4
theorem CV (xs:List fJ) (i:Nat) (rc:Bool) (ps:List Aw) (k:Nat):(lH xs i rc ps k).length≤k:=by
 induction k with
 | zero => simp [lH]
 | succ k ih =>
  rw [lH,List.length_append];have:(tK xs i rc ps (k+1)).length≤1:=by
   unfold tK;cases ps.findSome? (partOf xs i rc (k+1)) <;> simp
  omega
theorem Ye (xs:List fJ) (i:Nat) (x:fJ) (h:7≤ai5 x):7≤(iL xs i x).kind:=by
 unfold iL;have h1:ai5 x≠2:=by omega
 have h2:ai5 x≠3:=by omega
 have h3:ai5 x≠4:=by omega
 have h4:ai5 x≠5:=by omega
 have h5:ai5 x≠6:=by omega
 simp only [h1,h2,h3,h4,h5,if_false];by_cases h7:ai5 x=7
 · simp [h7]
 by_cases h8:ai5 x=8
 ·
  simp only [h8];cases vw xs x.b <;> simp
 have h9:=(vX x).2;have h9:ai5 x=9:=by omega
 simp [h9]
theorem Yf (xs:List fJ) (i c t:Nat) (hi:i < xs.length) (h:uN xs i c=some t):Down (jw xs) i t:=by
 have hm:c % xs.length < xs.length:=Nat.mod_lt _ (by omega);have hk:∀ j (hj:j < xs.length),vS (an8 xs j)=true→∃ h:j < (jw xs).length,7≤(jw xs)[j].kind:=fun j hj hh => by
  refine ⟨by rw [Bo];exact hj,?_⟩;rw [FW xs j hj];rw [CU xs j hj] at hh;exact Ye xs j xs[j] (by simpa [vS] using hh)
 unfold uN at h;split at h
 ·
  next h1 =>
  injection h with h;subst h;rcases Bool.or_eq_true _ _ ▸ h1 with h2 | h2
  ·
   obtain ⟨h3,h4⟩:=hk _ hm h2;exact ⟨_,rfl,h3,.inr h4⟩
  exact ⟨_,rfl,by rw [Bo];exact hm,.inl (of_decide_eq_true h2)⟩
 split at h
 ·
  next h1 =>
  injection h with h;subst h;have:=Nat.mod_lt (c % xs.length) h1;exact ⟨_,rfl,by rw [Bo];omega,.inl this⟩
 obtain ⟨_,h2,h3⟩:=Ip _ _ _ h;obtain ⟨h4,h5⟩:=hk t (by omega) h3;exact ⟨_,rfl,h4,.inr h5⟩
theorem CW (xs:List fJ) (i:Nat) (rc:Bool) (ps:List Aw) (k:Nat):∀ m ∈ lH xs i rc ps k,∃ (id:Nat) (p:Aw),1≤id∧id≤k∧p ∈ ps∧partOf xs i rc id p=some m:=by
 induction k with
 | zero => simp [lH]
 | succ k ih =>
  intro m hm;rw [lH,List.mem_append] at hm;rcases hm with hm | hm
  ·
   obtain ⟨id,p,h1,h2,h3⟩:=ih m hm;exact ⟨id,p,h1,by omega,h3⟩
  unfold tK at hm;cases h:ps.findSome? (partOf xs i rc (k+1)) with
  | none => rw [h] at hm;simp at hm
  | some q =>
   rw [h] at hm;have hq:m=q:=by simpa using hm
   subst hq;obtain ⟨p,hp,h2⟩:=List.exists_of_findSome?_eq_some h;exact ⟨k+1,p,by omega,Nat.le_refl _,hp,h2⟩
theorem AZ (xs:List fJ) (i:Nat) (hi:i < xs.length) (rc:Bool) (id:Nat) (p:Aw) (m:Mem) (h:partOf xs i rc id p=some m):m.id=id∧Down (jw xs) i m.ty∧(m.eG=true→rc=true∧∃ t code,m.ty=(t:Nat)∧uN xs i p.2.1=some t∧aT xs t code=(m.dflt,true)):=by
 unfold partOf at h;cases ht:uN xs i p.2.1 with
 | none => rw [ht] at h;simp at h
 | some t =>
  rw [ht] at h;simp only at h;split at h
  ·
   injection h with h;subst h;refine ⟨rfl,Yf xs i _ t hi ht,fun hd => ?_⟩;cases rc with
   | false => simp [jm] at hd
   | true =>
    refine ⟨rfl,t,p.2.2 / 4,rfl,rfl,?_⟩;by_cases h2:2≤p.2.2 % 4
    ·
     simp only [Bool.true_and,decide_eq_true h2,if_true] at hd ⊢;exact Prod.ext rfl hd
    simp [h2] at hd
  cases h
theorem MN (xs:List fJ) (i:Nat) (hi:i < xs.length):Tf (jw xs) i (iL xs i xs[i]):=by
 have hx:∀ c:Nat,∃ j:Nat,((c % xs.length:Nat):Int)=j∧j < (jw xs).length:=fun c => ⟨_,rfl,by rw [Bo];exact Nat.mod_lt _ (by omega)⟩
 have hmx:0≤((xs[i].a % 4:Nat):Int)∧((xs[i].a % 4:Nat):Int)≤3:=by omega
 have hp:∀ rc ps,(oH xs i rc ps).length≤12∧∀ m ∈ oH xs i rc ps,(1≤m.id∧m.id≤12)∧Down (jw xs) i m.ty:=fun rc ps => ⟨CV xs i rc ps 12,fun m hm => by
  obtain ⟨id,p,h1,h2,_,h3⟩:=CW xs i rc ps 12 m hm;obtain ⟨h4,h5,_⟩:=AZ xs i hi rc id p m h3;exact ⟨by omega,h5⟩⟩
 have h0:([] : List Mem).length≤12∧∀ m ∈ ([] : List Mem),(1≤m.id∧m.id≤12)∧Down (jw xs) i m.ty:=by simp
 have s0:([] : List (Int × List UInt8)).length≤6∧∀ a ∈ ([] : List (Int × List UInt8)),1≤a.1∧a.1≤6:=by simp
 unfold iL;simp only;split
 · exact ⟨by simp,by simp,s0,h0,by simp,by simp,by simp,by simp⟩
 split
 · exact ⟨fun _ => hmx,by simp,s0,h0,by simp,by simp,by simp,by simp⟩
 split
 ·
  refine ⟨by simp,fun _ => ?_,⟨?_,?_⟩,h0,by simp,by simp,by simp,by simp⟩
  · simpa using (zC xs[i]).1
  · simpa using (zC xs[i]).2
  intro a ha;simp only [List.mem_map] at ha;obtain ⟨b,hb,rfl⟩:=ha;exact Fv _ b hb
 split
 · exact ⟨by simp,by simp,s0,hp _ _,by simp,by simp,by simp,by simp⟩
 split
 ·
  split
  · exact ⟨by simp,by simp,s0,h0,by simp,by simp,by simp,by simp⟩
  next he =>
  refine ⟨by simp,by simp,s0,hp _ _,fun _ => ?_,by simp,by simp,by simp⟩;cases hq:oH xs i false xs[i].parts with
  | nil => rw [hq] at he;simp at he
  | cons a r => simp
 split
 · exact ⟨by simp,by simp,s0,h0,by simp,fun _ => hmx,fun _ => hx _,by simp⟩
 split
 ·
  cases hk:vw xs xs[i].b with
  | none => exact ⟨by simp,by simp,s0,h0,by simp,fun _ => hmx,fun _ => hx _,by simp⟩
  | some j =>
   obtain ⟨h1,h2⟩:=Td xs _ j hk;refine ⟨by simp,by simp,s0,h0,by simp,fun _ => hmx,fun _ => hx _,fun _ => ⟨j,rfl,by rw [Bo];exact h1,?_⟩⟩;rw [FW xs j h1];rw [CU xs j h1] at h2;have h3:1≤ai5 xs[j]∧ai5 xs[j]≤4:=by simpa [wI] using h2
   have h4:ai5 xs[j]=1∨ai5 xs[j]=2∨ai5 xs[j]=3∨ai5 xs[j]=4:=by omega
   rcases h4 with h4 | h4 | h4 | h4 <;> simp [iL,h4]
 split
 · exact ⟨by simp,by simp,s0,h0,by simp,by simp,fun _ => hx _,by simp⟩
 exact ⟨by simp,by simp,s0,h0,by simp,by simp,by simp,by simp⟩
theorem Yg {p:Nat→Bool} : ∀ (f k:Nat),uF p f k=none→∀ j,k≤j→j < k+f→p j=false:=by
 intro f
 induction f with
 | zero => intro k _ j h1 h2;omega
 | succ f ih =>
  intro k h j h1 h2;rw [uF] at h;split at h
  · cases h
  next hp =>
  rcases Nat.eq_or_lt_of_le h1 with h3 | h3
  · subst h3;simpa using hp
  exact ih (k+1) h j (by omega) (by omega)
theorem Uy (xs:List fJ) (c d:Nat) (h:vw xs c=none):vw xs d=none:=by
 cases hd:vw xs d with
 | none => rfl
 | some j =>
  obtain ⟨h1,h2⟩:=Td xs d j hd;unfold vw at h;have h3:uF (fun k => wI (an8 xs (pO xs c k))) xs.length 0=none:=by
   cases hq:uF (fun k => wI (an8 xs (pO xs c k))) xs.length 0 with
   | none => rfl
   | some q => rw [hq] at h;simp at h
  have h4:=Yg _ _ h3 ((j+xs.length - c % xs.length) % xs.length) (Nat.zero_le _) (by have:=Nat.mod_lt (j+xs.length - c % xs.length) (show 0 < xs.length by omega);omega);have h5:pO xs c ((j+xs.length - c % xs.length) % xs.length)=j:=by
   have hc:=Nat.mod_lt c (show 0 < xs.length by omega);unfold pO;rw [Nat.add_mod,Nat.mod_mod,← Nat.add_mod_mod,Nat.mod_mod];rw [show c % xs.length+(j+xs.length - c % xs.length) % xs.length=c % xs.length+(j+xs.length - c % xs.length) % xs.length from rfl,Nat.add_mod_mod,show c % xs.length+(j+xs.length - c % xs.length)=j+xs.length by omega,Nat.add_mod_right,Nat.mod_eq_of_lt h1]
  simp only [h5,h2] at h4;cases h4
theorem ayE (a:Int):∀ (l:List Int) (k:Nat),a ∈ l→(nY l a k).isSome=true
 | [],_,h => by simp at h
 | b :: r,k,h => by
  rw [vN];split
  · rfl
  next hb =>
  rcases List.mem_cons.1 h with h | h
  · exact absurd h.symm hb
  exact ayE a r (k+1) h
theorem P6 (a:Int):∀ (l:List Int) (k:Nat),a ∉ l→nY l a k=none
 | [],_,_ => rfl
 | b :: r,k,h => by
  rw [vN,if_neg (fun e => h (by rw [e];exact List.mem_cons_self)),P6 a r (k+1) (fun e => h (List.mem_cons_of_mem _ e))]
theorem Tf.free {ts:List ay} {i:Nat} {x:ay} (h:Tf ts i x) (n:Int) (hn:13≤n):dN x n=none∧qm x n=none:=by
 refine ⟨P6 _ _ _ fun hm => ?_,P6 _ _ _ fun hm => ?_⟩
 ·
  obtain ⟨m,hm,e⟩:=List.mem_map.1 hm;have:=(h.ah.2 m hm).1;omega
 obtain ⟨m,hm,e⟩:=List.mem_map.1 hm;have:=h.syms.2 m hm;omega
theorem afn (xs:List fJ) (t:Nat) (ht:t < xs.length):bM (jw xs) (t:Nat)=some (iL xs t xs[t]):=by
 unfold bM;rw [if_pos (by omega),Int.toNat_natCast,List.getElem?_eq_getElem (by rw [Bo];exact ht),FW xs t ht]
theorem Yh (xs:List fJ) (t code:Nat) (d:Val) (ht:t < xs.length) (h:aT xs t code=(d,true)):cO (jw xs) true d (t:Nat)=true:=by
 rw [kG,afn xs t ht];unfold aT at h;rw [List.getElem?_eq_getElem ht] at h;simp only at h;have hkn:=vX xs[t];have hkk:ai5 xs[t]=1∨ai5 xs[t]=2∨ai5 xs[t]=3∨ai5 xs[t]=4∨ai5 xs[t]=5∨ai5 xs[t]=6∨ai5 xs[t]=7∨ai5 xs[t]=8∨ai5 xs[t]=9:=by omega
 rcases hkk with hk | hk | hk | hk | hk | hk | hk | hk | hk
 · simp [hk] at h;subst h;simp [iL,hk,aA,ig,Val.kind,Val.bool,Val.num,Val.str,Val.id,Val.keys,Val.items,Val.rest]
 ·
  simp [hk] at h;subst h;have h1:tX xs[t] - vY xs[t]+1 > 0:=by unfold tX;omega
  have h2:=Int.emod_nonneg (code:Int) (show tX xs[t] - vY xs[t]+1≠0 by omega);have h3:=Int.emod_lt_of_pos (code:Int) h1;simp [iL,hk,aA,ig,Val.kind,Val.bool,Val.num,Val.str,Val.id,Val.keys,Val.items,Val.rest];omega
 ·
  simp [hk] at h;subst h;simp [iL,hk,aA,ig,Val.kind,Val.bool,Val.num,Val.str,Val.id,Val.keys,Val.items,Val.rest];split <;> simp <;> omega
 ·
  simp [hk] at h;subst h;have hl:=(zC xs[t]).1;have hlt:=Nat.mod_lt code (show 0 < (qK xs[t]).length by omega);have hm:(qK xs[t])[code % (qK xs[t]).length] ∈ qK xs[t]:=List.getElem_mem hlt;have hs:=ayE _ _ 0 hm;simp [iL,hk,aA,ig,qm,Val.kind,Val.bool,Val.num,Val.str,Val.id,Val.keys,Val.items,Val.rest];have hc:(Prod.fst ∘ fun a => (a,tN 115 a))=(id:Int→Int):=rfl;rw [hc,List.map_id,List.getElem?_eq_getElem hlt];exact hs
 · simp [hk] at h
 · simp [hk] at h
 · simp [hk] at h;subst h;simp [iL,hk,aA,ig,uT,Val.kind,Val.bool,Val.num,Val.str,Val.id,Val.keys,Val.items,Val.rest];omega
 ·
  cases h0:vw xs 0 with
  | none =>
   have hb:=Uy xs 0 xs[t].b h0;simp [hk,h0] at h;subst h;simp [iL,hk,hb,aA,ig,uT,Val.kind,Val.bool,Val.num,Val.str,Val.id,Val.keys,Val.items,Val.rest];omega
  | some q =>
   cases hb:vw xs xs[t].b with
   | none => rw [Uy xs _ 0 hb] at h0;cases h0
   | some j =>
    simp [hk,h0] at h;subst h;simp [iL,hk,hb,aA,ig,uT,ati,Val.kind,Val.bool,Val.num,Val.str,Val.id,Val.keys,Val.items,Val.rest];omega
 simp [hk] at h;subst h;simp [iL,hk,aA,ig,uT,Val.kind,Val.bool,Val.num,Val.str,Val.id,Val.keys,Val.items,Val.rest]
theorem ac4 (xs:List fJ) (i:Nat) (hi:i < xs.length):∀ m ∈ (iL xs i xs[i]).ah,m.eG=true→cO (jw xs) true m.dflt m.ty=true:=by
 intro m hm hd;have hp:∀ rc ps,m ∈ oH xs i rc ps→cO (jw xs) true m.dflt m.ty=true:=fun rc ps hm => by
  obtain ⟨id,p,_,_,_,h3⟩:=CW xs i rc ps 12 m hm;obtain ⟨_,⟨j,hj,hjl,_⟩,h6⟩:=AZ xs i hi rc id p m h3;obtain ⟨_,t,code,h7,_,h8⟩:=h6 hd;have:t < xs.length:=by rw [Bo] at hjl;omega
  rw [h7];exact Yh xs t code _ this h8
 unfold iL at hm;simp only at hm
 repeat' split at hm
 all_goals first
  | (exfalso;simp [iM] at hm;done)
  | exact hp _ _ hm
theorem Xu (xs:List fJ) (i:Nat) (x:fJ) (h:(iL xs i x).kind=2) : -3≤(iL xs i x).low∧(iL xs i x).low≤(iL xs i x).high∧(iL xs i x).high≤8:=by
 have hl:=I7 x;by_cases h2:ai5 x=2
 ·
  simp only [iL,h2,if_true];unfold tX;omega
 exfalso
 unfold iL at h;simp only [h2,if_false] at h
 repeat' split at h
 all_goals simp at h
theorem Tm (xs:List fJ) (t code:Nat):I64 (aT xs t code).1.kind∧I64 (aT xs t code).1.num∧I64 (aT xs t code).1.id∧(aT xs t code).1.str.length≤140737488351232∧(aT xs t code).1.keys = []∧(aT xs t code).1.items = []∧(aT xs t code).1.rest = []:=by
 unfold aT;cases xs[t]? with
 | none => simp [jm,Val.kind,Val.num,Val.id,Val.str,Val.keys,Val.items,Val.rest,I64]
 | some x =>
  simp only;generalize hk:(if ai5 x=8∧vw xs 0=none then 7 else ai5 x)=k;have hk9:1≤k∧k≤9:=by have:=vX x;rw [← hk];split <;> omega
  by_cases h56:k=5∨k=6
  · rw [if_pos h56];simp [jm,Val.kind,Val.num,Val.id,Val.str,Val.keys,Val.items,Val.rest,I64]
  rw [if_neg h56];have hlo:=I7 x;have hhi:tX x - vY x+1=(x.b:Int) % 6+1:=by unfold tX;omega
  refine ⟨by simp only [Val.kind,I64];omega,?_,?_,?_,rfl,rfl,rfl⟩
  ·
   simp only [Val.num,I64];split
   ·
    rw [hhi];have h1:=Int.emod_nonneg (code:Int) (show (x.b:Int) % 6+1≠0 by omega);have h2:=Int.emod_lt_of_pos (code:Int) (show 0 < (x.b:Int) % 6+1 by omega);omega
   omega
  ·
   simp only [Val.id,I64];split
   ·
    have hm:code % (qK x).length < (qK x).length:=Nat.mod_lt _ (by have:=zC x;omega);rw [List.getD_eq_getElem?_getD,List.getElem?_eq_getElem hm];have:=Fv x _ (List.getElem_mem hm);simp only [Option.getD_some];omega
   omega
  simp only [Val.str];split <;> simp
theorem XF (xs:List fJ) (i:Nat) (rc:Bool) (id:Nat) (hid:id≤12) (h5:xs.length≤5) (hi:i < xs.length) (p:Aw) (m:Mem) (h:partOf xs i rc id p=some m):JO m:=by
 unfold partOf at h;cases ht:uN xs i p.2.1 with
 | none => rw [ht] at h;cases h
 | some t =>
  rw [ht] at h;have htl:=RG xs i p.2.1 hi t ht;simp only at h;split at h
  ·
   injection h with h;subst h;have hd:∀ b:Bool,I64 (if b then aT xs t (p.2.2 / 4) else (jm,false)).1.kind∧I64 (if b then aT xs t (p.2.2 / 4) else (jm,false)).1.num∧I64 (if b then aT xs t (p.2.2 / 4) else (jm,false)).1.id∧(if b then aT xs t (p.2.2 / 4) else (jm,false)).1.str.length≤140737488351232∧(if b then aT xs t (p.2.2 / 4) else (jm,false)).1.keys = []∧(if b then aT xs t (p.2.2 / 4) else (jm,false)).1.items = []∧(if b then aT xs t (p.2.2 / 4) else (jm,false)).1.rest = []:=by
    intro b;cases b with
    | true => exact Tm xs t _
    | false => simp [jm,Val.kind,Val.num,Val.id,Val.str,Val.keys,Val.items,Val.rest,I64]
   obtain ⟨d1,d2,d3,d4,d5,d6,d7⟩:=hd (rc && decide (2≤p.2.2 % 4));exact ⟨by simp only [I64];omega,by simp only [I64];omega,by simp [tN],d1,d2,d3,d4,d5,d6,d7⟩
  cases h
theorem XG (xs:List fJ) (i:Nat) (rc:Bool) (ps:List Aw) (h5:xs.length≤5) (hi:i < xs.length) (k:Nat) (hk:k≤12):∀ m ∈ lH xs i rc ps k,JO m:=by
 induction k with
 | zero => simp [lH]
 | succ k ih =>
  intro m hm;rw [lH] at hm;rcases List.mem_append.1 hm with h | h
  · exact ih (by omega) m h
  unfold tK at h;cases hf:ps.findSome? (partOf xs i rc (k+1)) with
  | none => rw [hf] at h;simp at h
  | some m2 =>
   rw [hf] at h;have:m=m2:=by simpa using h
   subst this;obtain ⟨p,_,hp⟩:=List.exists_of_findSome?_eq_some hf;exact XF xs i rc (k+1) hk h5 hi p m hp
theorem alm (xs:List fJ) (i:Nat) (x:fJ) (h5:xs.length≤5) (hi:i < xs.length):qJ (iL xs i x):=by
 have hk:=vX x;have hlo:=I7 x;have hhi:tX x≤8 ∧ -3≤tX x:=by unfold tX;omega
 have hmp:=fun rc => XG xs i rc x.parts h5 hi 12 (Nat.le_refl _);have hml:=fun rc => CV xs i rc x.parts 12;have hnl:(if ql (ai5 x) then lN i else []).length≤140737488351232:=by split <;> simp [lN]
 have hc:x.c % xs.length < 5:=by have:=Nat.mod_lt x.c (show 0 < xs.length by omega);omega
 have ha:x.a % 4 < 4:=Nat.mod_lt _ (by omega);unfold iL;simp only;have hb:∀ t:ay,t.syms = []→t.ah = []→(I64 t.kind∧I64 t.low∧I64 t.high∧I64 t.max∧I64 t.key∧I64 t.elem)→t.name.length≤140737488351232→qJ t:=by
  intro t h1 h2 h3 h4;exact ⟨h3,h4,by rw [h1,h2];simp,by rw [h1];simp,by rw [h2];simp⟩
 split
 · exact hb _ rfl rfl (by simp only [iM,I64];omega) (by simp [iM])
 split
 · exact hb _ rfl rfl (by simp only [iM,I64];omega) (by simp [iM])
 split
 ·
  refine ⟨by simp only [iM,I64];omega,hnl,by have:=zC x;simp [iM];omega,?_,by simp [iM]⟩;intro r hr;obtain ⟨a,ha2,rfl⟩:=List.mem_map.1 hr;have:=Fv x a ha2;exact ⟨by simp only [I64];omega,by simp [tN]⟩
 split
 · exact ⟨by simp only [iM,I64];omega,hnl,by have:=hml true;simp [iM,oH];omega,by simp [iM],hmp true⟩
 split
 ·
  split
  · exact hb _ rfl rfl (by simp only [iM,I64];omega) hnl
  exact ⟨by simp only [iM,I64];omega,hnl,by have:=hml false;simp [iM,oH];omega,by simp [iM],hmp false⟩
 split
 · exact hb _ rfl rfl (by simp only [iM,I64];omega) (by simp [iM])
 split
 ·
  cases hkn:vw xs x.b with
  | none => exact hb _ rfl rfl (by simp only [iM,I64];omega) (by simp [iM])
  | some j =>
   have:=(Td xs x.b j hkn).1;exact hb _ rfl rfl (by simp only [iM,I64];omega) (by simp [iM])
 split
 · exact hb _ rfl rfl (by simp only [iM,I64];omega) (by simp [iM])
 exact hb _ rfl rfl (by simp only [iM,I64];omega) (by simp [iM])
theorem EW (xs:List fJ):(jw xs).length=xs.length:=by unfold jw;simp
theorem ahD (xs:List fJ) (k:Nat) (h:k < xs.length):(jw xs)[k]'(by rw [EW];exact h)=iL xs k xs[k]:=by unfold jw;simp
theorem adS (xs:List fJ) (k:Nat) (h:k < xs.length):(jw xs).take (k+1)=(jw xs).take k ++ [iL xs k xs[k]]:=by
 rw [List.take_succ_eq_append_getElem (by rw [EW];exact h),ahD]
end Go.Proofs.YtlamhkffnlgofaaGreatDoor

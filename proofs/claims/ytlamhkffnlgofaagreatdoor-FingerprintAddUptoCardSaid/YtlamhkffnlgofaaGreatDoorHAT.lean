/- Plain and heap: changes of drafts that come in; the rows of a draft that is being changed. No condition. -/
import Derived.Test.YtlamhkffnlgofaaGreatDoorHAF
import Derived.Deep.AppendLies
import Derived.Laws.OwnMore
namespace Go.Proofs.YtlamhkffnlgofaaGreatDoor
open Go.ChangeShapes Go.WideShapes Go.ChangeAt Go.RowKit Go.Joins
abbrev Chg:=Nat × Nat × Nat × Nat
def ahO (c:Chg):List Value:=[.int .u8 c.1,.int .u8 c.2.1,.int .u8 c.2.2.1,.int .u8 c.2.2.2]
theorem af0 (c:Chg):(ahO c).length=4:=rfl
def ahX (c:Chg):Prop:=c.1 < 256∧c.2.1 < 256∧c.2.2.1 < 256∧c.2.2.2 < 256
def agN (w:World) (B:Nat) (v:Value) (cs:List Chg):Prop:=Rd w B 4 v cs.length (cs.flatMap ahO)∧∀ c ∈ cs,ahX c
theorem adf:∀ (cs:List Chg) (i j:Nat) (h:i < cs.length),j < 4→(cs.flatMap ahO)[i*4+j]?=(ahO cs[i])[j]?
 | [],_,_,h,_ => by simp at h
 | c :: cs,0,j,_,hj => by
  rw [List.flatMap_cons,List.getElem?_append_left (by rw [af0];omega)];simp
 | c :: cs,i+1,j,h,hj => by
  rw [List.flatMap_cons,List.getElem?_append_right (by rw [af0];omega),af0,show (i+1)*4+j - 4=i*4+j by omega,adf cs i j (by simpa using h) hj];simp
theorem agN.elem {w:World} {B c:Nat} {A:Option Addr} {cs:List Chg} (h:agN w B (.slice A cs.length c) cs) (hpos:0 < cs.length):∃ b o,A=some ⟨b,o,none⟩∧b < B∧∀ i (hi:i < cs.length),ahX cs[i]∧w.cell? ⟨b,o+i*4,none⟩=some (.int .u8 cs[i].1)∧w.cell? ⟨b,o+i*4+1,none⟩=some (.int .u8 cs[i].2.1)∧w.cell? ⟨b,o+i*4+2,none⟩=some (.int .u8 cs[i].2.2.1)∧w.cell? ⟨b,o+i*4+3,none⟩=some (.int .u8 cs[i].2.2.2):=by
 obtain ⟨b,o,hA,hb,hc⟩:=h.1.at_ hpos;refine ⟨b,o,hA,hb,fun i hi => ⟨h.2 _ (List.getElem_mem hi),?_,?_,?_,?_⟩⟩
 · exact hc (i*4+0) _ ((adf cs i 0 hi (by omega)).trans rfl)
 · exact hc (i*4+1) _ ((adf cs i 1 hi (by omega)).trans rfl)
 · exact hc (i*4+2) _ ((adf cs i 2 hi (by omega)).trans rfl)
 exact hc (i*4+3) _ ((adf cs i 3 hi (by omega)).trans rfl)
def U8L (ys:List Value):Prop := ∀ u ∈ ys,∃ a:Nat,a < 256∧u = .int .u8 a
theorem U8L.take {xs:List Value} (h:U8L xs) (k:Nat):U8L (xs.take k):=fun u hu => h u (List.mem_of_mem_take hu)
theorem U8L.drop {xs:List Value} (h:U8L xs) (k:Nat):U8L (xs.drop k):=fun u hu => h u (List.mem_of_mem_drop hu)
theorem U8L.set {xs:List Value} (h:U8L xs) (k:Nat) {a:Nat} (ha:a < 256):U8L (xs.set k (.int .u8 a)):=fun u hu => by
 rcases List.mem_or_eq_of_mem_set hu with h2 | h2
 · exact h u h2
 exact ⟨a,ha,h2⟩
theorem U8L.at_ {xs:List Value} (h:U8L xs) {k:Nat} (hk:k < xs.length):∃ a:Nat,a < 256∧xs[k]?=some (.int .u8 a):=by
 obtain ⟨a,h1,h2⟩:=h _ (List.getElem_mem hk);exact ⟨a,h1,by rw [List.getElem?_eq_getElem hk,h2]⟩
theorem U8L.one {xs:List Value} (h:U8L xs):∀ u ∈ xs,u.oneCell'=true:=fun u hu => by
 obtain ⟨a,_,rfl⟩:=h u hu;rfl
def MX (w:World) (S:Nat→Prop) (B n:Nat) (xs:List Value):Prop := ∀ k,k < n→∃ (x:fJ) (vp:Value),(∀ j u,(ae2 x vp)[j]?=some u→xs[k*5+j]?=some u)∧U4 w B x vp∧x.parts.length≤46912496117077∧(0 < x.parts.length→∀ b,vp.ownBlock=some b→¬ S b)
theorem Rd.ao7 {w w':World} {B size n:Nat} {S:Nat→Prop} {v:Value} {xs:List Value} (h:Rd w B size v n xs) (hv:0 < n→∀ b,v.ownBlock=some b→¬ S b) (hk:∀ p:Addr,p.block < B→¬ S p.block→w'.cell? p=w.cell? p):Rd w' B size v n xs:=by
 obtain ⟨hl,A,c,hv',hc,h2⟩:=h;refine ⟨hl,A,c,hv',hc,?_⟩;by_cases h0:n=0
 · exact .inl h0
 rcases h2 with h2 | ⟨b,o,hA,hb,hcell⟩
 · exact .inl h2
 refine .inr ⟨b,o,hA,hb,fun j u hu => (hk _ hb ?_).trans (hcell j u hu)⟩;exact hv (by omega) b (by rw [hv',hA];rfl)
theorem MX.keep {w w':World} {S:Nat→Prop} {B B' n:Nat} {xs:List Value} (h:MX w S B n xs) (hk:∀ p:Addr,p.block < B→¬ S p.block→w'.cell? p=w.cell? p) (hB:B≤B'):MX w' S B' n xs:=fun k hkn => by
 obtain ⟨x,vp,h1,h2,h3⟩:=h k hkn;exact ⟨x,vp,h1,⟨h2.ints,h2.len,h2.ins,(h2.parts.ao7 h3.2 hk).mono hB⟩,h3⟩
theorem MX.set {w:World} {S:Nat→Prop} {B n:Nat} {xs:List Value} (h:MX w S B n xs) (hl:xs.length=n*5) {k j a:Nat} (hk:k < n) (hj:j < 4) (ha:a < 256):MX w S B n (xs.set (k*5+j) (.int .u8 a)):=fun i hi => by
 obtain ⟨x,vp,h1,h2,h3⟩:=h i hi;by_cases e:i=k
 ·
  subst e;have hset:∀ j' u,j'≠j→(ae2 x vp)[j']?=some u→(xs.set (i*5+j) (.int .u8 a))[i*5+j']?=some u:=fun j' u hne hu => by
   rw [List.getElem?_set_ne (by omega)];exact h1 j' u hu
  have hat:(xs.set (i*5+j) (.int .u8 a))[i*5+j]?=some (.int .u8 a):=by rw [List.getElem?_set_self (by omega)]
  obtain ⟨i1,i2,i3,i4⟩:=h2.ints;have hc:j=0∨j=1∨j=2∨j=3:=by omega
  rcases hc with rfl | rfl | rfl | rfl
  ·
   refine ⟨{ x with kind:=a },vp,fun j' u hu => ?_,⟨⟨ha,i2,i3,i4⟩,h2.len,h2.ins,h2.parts⟩,h3⟩
   match j',hu with
   | 0,hu => rw [hat];exact hu
   | 1,hu => exact hset 1 u (by omega) hu
   | 2,hu => exact hset 2 u (by omega) hu
   | 3,hu => exact hset 3 u (by omega) hu
   | 4,hu => exact hset 4 u (by omega) hu
   | n+5,hu => simp [ae2] at hu
  ·
   refine ⟨{ x with a:=a },vp,fun j' u hu => ?_,⟨⟨i1,ha,i3,i4⟩,h2.len,h2.ins,h2.parts⟩,h3⟩
   match j',hu with
   | 0,hu => exact hset 0 u (by omega) hu
   | 1,hu => rw [hat];exact hu
   | 2,hu => exact hset 2 u (by omega) hu
   | 3,hu => exact hset 3 u (by omega) hu
   | 4,hu => exact hset 4 u (by omega) hu
   | n+5,hu => simp [ae2] at hu
  ·
   refine ⟨{ x with b:=a },vp,fun j' u hu => ?_,⟨⟨i1,i2,ha,i4⟩,h2.len,h2.ins,h2.parts⟩,h3⟩
   match j',hu with
   | 0,hu => exact hset 0 u (by omega) hu
   | 1,hu => exact hset 1 u (by omega) hu
   | 2,hu => rw [hat];exact hu
   | 3,hu => exact hset 3 u (by omega) hu
   | 4,hu => exact hset 4 u (by omega) hu
   | n+5,hu => simp [ae2] at hu
  refine ⟨{ x with c:=a },vp,fun j' u hu => ?_,⟨⟨i1,i2,i3,ha⟩,h2.len,h2.ins,h2.parts⟩,h3⟩
  match j',hu with
  | 0,hu => exact hset 0 u (by omega) hu
  | 1,hu => exact hset 1 u (by omega) hu
  | 2,hu => exact hset 2 u (by omega) hu
  | 3,hu => rw [hat];exact hu
  | 4,hu => exact hset 4 u (by omega) hu
  | n+5,hu => simp [ae2] at hu
 refine ⟨x,vp,fun j' u hu => ?_,h2,h3⟩;have hj':j' < 5:=by
  have:=(List.getElem?_eq_some_iff.1 hu).1;simp [ae2] at this;omega
 rw [List.getElem?_set_ne (by omega)];exact h1 j' u hu
theorem MX.at_ {w:World} {S:Nat→Prop} {B n:Nat} {xs:List Value} (h:MX w S B n xs) {k:Nat} (hk:k < n):∃ (x:fJ) (vp:Value),xs[k*5]?=some (.int .u8 x.kind)∧xs[k*5+1]?=some (.int .u8 x.a)∧xs[k*5+2]?=some (.int .u8 x.b)∧xs[k*5+3]?=some (.int .u8 x.c)∧xs[k*5+4]?=some vp∧U4 w B x vp∧x.parts.length≤46912496117077:=by
 obtain ⟨x,vp,h1,h2,h3,_⟩:=h k hk;exact ⟨x,vp,h1 0 _ rfl,h1 1 _ rfl,h1 2 _ rfl,h1 3 _ rfl,h1 4 _ rfl,h2,h3⟩
section
variable {P:Program} {w:World}
theorem ahW (t ty:TypeId) (base:Nat) (e:TypeId) (z:Value) (size bytes:Nat) (ht:P.underlying t=some (.slice e)) (hinfo:(P.info? e).map (fun i => (i.zero,i.size,i.bytes))=some (some z,size,bytes)) (hzs:z.cells.size=size) (hsz:0 < size)
  {g0 n cap0:Nat} {xs:List Value} (hown:w.ownsRow base e size (.slice (some ⟨g0,0,none⟩) n cap0) n xs) {v:Value} {m:Nat} {news:List Value} (hr:Rd w w.heap.size size v m news) (h1:∀ u ∈ news,u.oneCell'=true)
  (h63:n+m≤maxLen) (hby:(n+m)*bytes≤140737488355328) (hbase:base≤w.heap.size) :
  ∃ g cap w',(Builtin.append_ #[t,t] ty #[.slice (some ⟨g0,0,none⟩) n cap0,v]).run P w = .ok (.slice (some ⟨g,0,none⟩) (n+m) cap) w' ∧
   w'.ownsRow base e size (.slice (some ⟨g,0,none⟩) (n+m) cap) (n+m) (xs ++ news)∧w.grownBy w' (some g0)∧(g=g0∨g=w.heap.size):=by
 obtain ⟨i,hi,hz0,hz1,hz2⟩:=info_parts hinfo;obtain ⟨hl,A,c,rfl,hmc,h2⟩:=hr;by_cases h0:m=0
 ·
  subst h0;have hnil:news = []:=List.eq_nil_of_length_eq_zero (by omega);subst hnil;cases A with
  | none =>
   refine ⟨g0,cap0,w,?_,by simpa using hown,⟨rfl,rfl,rfl,Nat.le_refl _,fun _ _ _ => rfl⟩,.inl rfl⟩;rcases hown.2 with ⟨h,_⟩ | ⟨g,cap,cur,h,_,_,hnc,_⟩
   · cases h
   simp only [Value.slice.injEq,Option.some.injEq,Addr.mk.injEq,and_true,true_and] at h;obtain ⟨rfl,rfl⟩:=h;simp [Builtin.append_,run_underlying ht,sizeOf,typeInfo,hi,Builtin.lenOf,Builtin.firstCells,hnc,storeCells]
  | some ad =>
   have hroom:n+0≤cap0:=by
    rcases hown.2 with ⟨h,_⟩ | ⟨g,cap,cur,h,_,_,hnc,_⟩
    · cases h
    simp only [Value.slice.injEq,Option.some.injEq,Addr.mk.injEq,and_true,true_and] at h;obtain ⟨rfl,rfl⟩:=h;exact hnc
   obtain ⟨w',hr,ho,hg⟩:=run_append_fits (P:=P) w base t ty e i size ht hi hz1 g0 n cap0 xs hown ad 0 c [] (by simp) (by simp) (by simp) hroom;exact ⟨g0,cap0,w',hr,ho,hg,.inl rfl⟩
 rcases h2 with h2 | ⟨b,o,rfl,hb,hcell⟩
 · exact absurd h2 h0
 obtain ⟨g,cap,w',hr,ho,hg,hat,_⟩:=run_append_lies (P:=P) w t ty base e i z size bytes ht hi hz0 hz1 hz2 hzs hsz _ n xs hown ⟨b,o,none⟩ m c news hl (fun j u hu => by
  have hadd:(⟨b,o,none⟩ : Addr).add j=⟨b,o+j,none⟩:=by unfold Addr.add;split <;> simp_all
  rw [hadd];exact hcell j u hu) h1 (by omega) h63 hby hbase w.heap.size rfl
 refine ⟨g,cap,w',hr,ho,hg,?_⟩;rcases hat with h | h
 · left;injection h with h;exact h.symm
 exact .inr h
theorem agj {o:Oper} {a:Act} {K:Act→World→Prop} {Q:Exit→Act→World→Prop} (s x:Operand) (t:TypeId)
  (ho:o.op = .call { callee:=.builtin .append,args:=#[s,x],argTypes:=#[t,t] })
  (base:Nat) (e:TypeId) (z:Value) (size bytes:Nat) (ht:P.underlying t=some (.slice e)) (hinfo:(P.info? e).map (fun i => (i.zero,i.size,i.bytes))=some (some z,size,bytes)) (hzs:z.cells.size=size) (hsz:0 < size)
  {g0 n cap0:Nat} {xs:List Value} (hs:a.eval s = .slice (some ⟨g0,0,none⟩) n cap0) (hown:w.ownsRow base e size (.slice (some ⟨g0,0,none⟩) n cap0) n xs) {v:Value} {m:Nat} {news:List Value} (hx:a.eval x=v) (hr:Rd w w.heap.size size v m news) (h1:∀ u ∈ news,u.oneCell'=true)
  (h63:n+m≤maxLen) (hby:(n+m)*bytes≤140737488355328) (hbase:base≤w.heap.size)
  (h:∀ g cap w',w'.ownsRow base e size (.slice (some ⟨g,0,none⟩) (n+m) cap) (n+m) (xs ++ news)→w.grownBy w' (some g0)→(g=g0∨g=w.heap.size)→K (a.put o.dst (.slice (some ⟨g,0,none⟩) (n+m) cap)) w'):o.wp P a w K Q:=by
 obtain ⟨g,cap,w',hrun,h2,h3,h4⟩:=ahW (P:=P) t o.type base e z size bytes ht hinfo hzs hsz hown hr h1 h63 hby hbase;unfold Oper.wp execOp;simp only [ho,resolve,invoke,builtin,Sem.run_bind,Sem.run_pure,Result.andThen_ok,List.map_toArray,List.map_cons,List.map_nil,hs,hx,hrun];exact h g cap w' h2 h3 h4
theorem ac3 {ops:Array Oper} {rest:List Oper} {o:Oper} {a:Act} {Q:Exit→Act→World→Prop} (hgd:o.guard=none) (s x:Operand) (t:TypeId)
  (ho:o.op = .call { callee:=.builtin .append,args:=#[s,x],argTypes:=#[t,t] })
  (base:Nat) (e:TypeId) (z:Value) (size bytes:Nat) (ht:P.underlying t=some (.slice e)) (hinfo:(P.info? e).map (fun i => (i.zero,i.size,i.bytes))=some (some z,size,bytes)) (hzs:z.cells.size=size) (hsz:0 < size)
  {g0 n cap0:Nat} {xs:List Value} (hs:a.eval s = .slice (some ⟨g0,0,none⟩) n cap0) (hown:w.ownsRow base e size (.slice (some ⟨g0,0,none⟩) n cap0) n xs) {v:Value} {m:Nat} {news:List Value} (hx:a.eval x=v) (hr:Rd w w.heap.size size v m news) (h1:∀ u ∈ news,u.oneCell'=true)
  (h63:n+m≤maxLen) (hby:(n+m)*bytes≤140737488355328) (hbase:base≤w.heap.size)
  (h:∀ g cap w',w'.ownsRow base e size (.slice (some ⟨g,0,none⟩) (n+m) cap) (n+m) (xs ++ news)→w.grownBy w' (some g0)→(g=g0∨g=w.heap.size)→wpList P ops Q rest (a.put o.dst (.slice (some ⟨g,0,none⟩) (n+m) cap)) w'):wpList P ops Q (o :: rest) a w :=
 wpList_plain hgd fun _ hK => agj s x t ho base e z size bytes ht hinfo hzs hsz hs hown hx hr h1 h63 hby hbase fun g cap w' h2 h3 h4 => hK _ _ (h g cap w' h2 h3 h4)
theorem adw {ops:Array Oper} {o:Oper} {a:Act} {K:Act→World→Prop} {Q:Exit→Act→World→Prop} {E:Prop} (hgd:o.guard=none) (s x:Operand) (t:TypeId)
  (ho:o.op = .call { callee:=.builtin .append,args:=#[s,x],argTypes:=#[t,t] })
  (base:Nat) (e:TypeId) (z:Value) (size bytes:Nat) (ht:P.underlying t=some (.slice e)) (hinfo:(P.info? e).map (fun i => (i.zero,i.size,i.bytes))=some (some z,size,bytes)) (hzs:z.cells.size=size) (hsz:0 < size)
  {g0 n cap0:Nat} {xs:List Value} (hs:a.eval s = .slice (some ⟨g0,0,none⟩) n cap0) (hown:w.ownsRow base e size (.slice (some ⟨g0,0,none⟩) n cap0) n xs) {v:Value} {m:Nat} {news:List Value} (hx:a.eval x=v) (hr:Rd w w.heap.size size v m news) (h1:∀ u ∈ news,u.oneCell'=true)
  (h63:n+m≤maxLen) (hby:(n+m)*bytes≤140737488355328) (hbase:base≤w.heap.size)
  (h:∀ g cap w',w'.ownsRow base e size (.slice (some ⟨g,0,none⟩) (n+m) cap) (n+m) (xs ++ news)→w.grownBy w' (some g0)→(g=g0∨g=w.heap.size)→K (a.put o.dst (.slice (some ⟨g,0,none⟩) (n+m) cap)) w') :
  if Region.wanted o (yielded ops a.tmps)=true then Oper.wp P o a w K Q else E:=by
 have hw:Region.wanted o (yielded ops a.tmps)=true:=by simp [Region.wanted,hgd]
 rw [if_pos hw];exact agj s x t ho base e z size bytes ht hinfo hzs hsz hs hown hx hr h1 h63 hby hbase h
end
end Go.Proofs.YtlamhkffnlgofaaGreatDoor

/- Values all of whose parts lie in blocks of a set; how much a value holds; rows that a call owns, read as rows. What slices.Clone computes for values and for unknown parts. What slices.Clone computes for integers. No condition. -/
import Derived.Test.YtlamhkffnlgofaaGreatDoorHAB
set_option maxHeartbeats 800000
set_option maxRecDepth 100000
namespace Go.Proofs.YtlamhkffnlgofaaGreatDoor
open Go.ChangeShapes Go.WideShapes Go.ChangeAt Go.RowKit
mutual
def wt:Val→Nat
 | .mk _ _ _ _ _ ks is rs => GL ks+GL is+rs.length+1
def GL:List Val→Nat
 | [] => 0
 | x :: r => wt x+GL r
end
theorem af8 (x:Val):wt x=GL x.keys+GL x.items+x.rest.length+1:=by cases x;rw [wt];rfl
theorem ab1 (x:Val):1≤wt x:=by rw [af8];omega
theorem YJ (l:List Val) (x:Val) (h:x ∈ l):wt x≤GL l:=by
 induction l with
 | nil => simp at h
 | cons y r ih =>
  rw [GL];rcases List.mem_cons.1 h with rfl | h
  · omega
  have:=ih h;omega
theorem YK (l:List Val):l.length≤GL l:=by
 induction l with
 | nil => simp
 | cons y r ih => rw [GL,List.length_cons];have:=ab1 y;omega
mutual
theorem aeg:∀ (x:Val) (n:Int),0≤D6 x n→(wt x:Int)≤n - D6 x n
 | .mk _ _ _ s _ ks is rs,n => by
  rw [D6,wt];intro h;have h1:=VO rs (n - (10+s.length+rs.length));have h2:=(yL ks (EK rs (n - (10+s.length+rs.length)))).1;have h3:=(yL is (yV ks (EK rs (n - (10+s.length+rs.length))))).1;have h4:=Px is _ h;have h5:=Px ks (EK rs (n - (10+s.length+rs.length))) (by omega);omega
theorem Px:∀ (l:List Val) (n:Int),0≤yV l n→(GL l:Int)≤n - yV l n
 | [],n => by rw [yV,GL];omega
 | x :: r,n => by
  rw [yV,GL];split
  · omega
  intro h;have h1:=Px r _ h;have h2:=(yL r (D6 x n)).1;have h3:=aeg x n (by omega);omega
end
def IB (w:World) (S:Nat→Prop) (size:Nat) (v:Value) (n:Nat) (xs:List Value):Prop :=
 xs.length=n*size∧∃ A c,v = .slice A n c∧n≤c∧(n=0∨∃ b o,A=some ⟨b,o,none⟩∧S b∧∀ j u,xs[j]?=some u→w.cell? ⟨b,o+j,none⟩=some u)
def Bh (w:World) (S:Nat→Prop) (size:Nat) (v:Value) (n:Nat) (c:Nat→List Value):Prop :=
 ∃ A cap,v = .slice A n cap∧n≤cap∧(n=0∨∃ b o,A=some ⟨b,o,none⟩∧S b∧∀ i,i < n→∀ j u,(c i)[j]?=some u→w.cell? ⟨b,o+i*size+j,none⟩=some u)
section
variable {w w':World} {S S':Nat→Prop} {B size n:Nat} {v:Value} {xs:List Value} {c:Nat→List Value}
theorem IB.keep (h:IB w S size v n xs) (hk:∀ p:Addr,S p.block→w'.cell? p=w.cell? p) (hS:∀ b,S b→S' b):IB w' S' size v n xs:=by
 obtain ⟨hl,A,c,hv,hc,h2⟩:=h;refine ⟨hl,A,c,hv,hc,?_⟩;rcases h2 with h2 | ⟨b,o,hA,hb,hcell⟩
 · exact .inl h2
 exact .inr ⟨b,o,hA,hS b hb,fun j u hu => (hk ⟨b,o+j,none⟩ hb).trans (hcell j u hu)⟩
theorem Bh.keep (h:Bh w S size v n c) (hk:∀ p:Addr,S p.block→w'.cell? p=w.cell? p) (hS:∀ b,S b→S' b):Bh w' S' size v n c:=by
 obtain ⟨A,cap,hv,hc,h2⟩:=h;refine ⟨A,cap,hv,hc,?_⟩;rcases h2 with h2 | ⟨b,o,hA,hb,hcell⟩
 · exact .inl h2
 exact .inr ⟨b,o,hA,hS b hb,fun i hi j u hu => (hk ⟨b,o+i*size+j,none⟩ hb).trans (hcell i hi j u hu)⟩
theorem zGr {p:Prop} (h:p:=by
 rcases h2 with h2 | ⟨b,o,hA,hb,hcell⟩
 · exact .inl h2
 exact .inr ⟨b,o,hA,hS b hb,hcell⟩):p:=h
theorem IB.rd (h:IB w S size v n xs) (hS:∀ b,S b→b < B):Rd w B size v n xs:=by
 obtain ⟨hl,A,c,hv,hc,h2⟩:=h;refine ⟨hl,A,c,hv,hc,?_⟩;exact zGr
theorem Bh.row (h:Bh w S size v n c) (hS:∀ b,S b→b < B):Row w B size v n c:=by
 obtain ⟨A,cap,hv,hc,h2⟩:=h;refine ⟨A,cap,hv,hc,?_⟩;exact zGr
end
inductive lD (w:World) (S:Nat→Prop):Val→List Value→Prop
 | mk (k:Int) (b:Bool) (n:Int) (s:List UInt8) (id:Int) (ks is:List Val) (rs:List Raw) (vk vi vr:Value) (ck ci:Nat→List Value)
   (hn:I64 k∧I64 n∧I64 id) (hs:s.length≤140737488351232) (hl:ks.length≤1172812402926∧is.length≤1172812402926∧rs.length≤5864062014634) (hri:∀ r ∈ rs,yR r)
   (hk:Bh w S 8 vk ks.length ck) (hkr:∀ (i:Nat) (h:i < ks.length),lD w S ks[i] (ck i))
   (hi:Bh w S 8 vi is.length ci) (hir:∀ (i:Nat) (h:i < is.length),lD w S is[i] (ci i))
   (hr:IB w S 2 vr rs.length (jO rs)):lD w S (.mk k b n s id ks is rs) [.int .i64 k,.bool b,.int .i64 n,.string ⟨s.toArray⟩,.int .i64 id,vk,vi,vr]
theorem lD.keep {w w':World} {S S':Nat→Prop} {v:Val} {cs:List Value} (h:lD w S v cs) (hk:∀ p:Addr,S p.block→w'.cell? p=w.cell? p) (hS:∀ b,S b→S' b):lD w' S' v cs:=by
 induction h with
 | mk k b n s id ks is rs vk vi vr ck ci hn hs hl hri h1 _ h2 _ h3 ih1 ih2 =>
  exact .mk k b n s id ks is rs vk vi vr ck ci hn hs hl hri (h1.keep hk hS) ih1 (h2.keep hk hS) ih2 (h3.keep hk hS)
theorem lD.rd {w:World} {S:Nat→Prop} {B:Nat} {v:Val} {cs:List Value} (h:lD w S v cs) (hS:∀ b,S b→b < B):wJ w B v cs:=by
 induction h with
 | mk k b n s id ks is rs vk vi vr ck ci hn hs hl hri h1 _ h2 _ h3 ih1 ih2 =>
  exact .mk k b n s id ks is rs vk vi vr ck ci hn hs hl hri (h1.row hS) ih1 (h2.row hS) ih2 (h3.rd hS)
theorem wJ.toP {w:World} {B:Nat} {v:Val} {cs:List Value} (h:wJ w B v cs):lD w (· < B) v cs:=by
 induction h with
 | mk k b n s id ks is rs vk vi vr ck ci hn hs hl hri h1 _ h2 _ h3 ih1 ih2 =>
  exact .mk k b n s id ks is rs vk vi vr ck ci hn hs hl hri h1 ih1 h2 ih2 h3
def lM (w:World) (S:Nat→Prop) (v:Value) (xs:List Val):Prop := ∃ c:Nat→List Value,Bh w S 8 v xs.length c∧∀ (i:Nat) (h:i < xs.length),lD w S xs[i] (c i)
theorem lM.keep {w w':World} {S S':Nat→Prop} {v:Value} {xs:List Val} (h:lM w S v xs) (hk:∀ p:Addr,S p.block→w'.cell? p=w.cell? p) (hS:∀ b,S b→S' b):lM w' S' v xs:=by
 obtain ⟨c,h1,h2⟩:=h;exact ⟨c,h1.keep hk hS,fun i hi => (h2 i hi).keep hk hS⟩
structure jq (w:World) (S:Nat→Prop) (x:Val) (vk vi vr:Value):Prop where
 ints:I64 x.kind∧I64 x.num∧I64 x.id
 AL:x.str.length≤140737488351232
 FH:x.keys.length≤1172812402926∧x.items.length≤1172812402926∧x.rest.length≤5864062014634
 Ie:∀ r ∈ x.rest,yR r
 keys:lM w S vk x.keys
 items:lM w S vi x.items
 rest:IB w S 2 vr x.rest.length (jO x.rest)
theorem jq.lens {w:World} {S:Nat→Prop} {x:Val} {vk vi vr:Value} (h:jq w S x vk vi vr):x.keys.length≤140737488351232∧x.items.length≤140737488351232∧x.rest.length≤140737488351232:=by have:=h.FH;omega
theorem jq.rd {w:World} {S:Nat→Prop} {x:Val} {vk vi vr:Value} (h:jq w S x vk vi vr):lD w S x (oD x vk vi vr):=by
 exact zGa
theorem jq.at_ {w:World} {S:Nat→Prop} {B:Nat} {x:Val} {vk vi vr:Value} (h:jq w S x vk vi vr) (hS:∀ b,S b→b < B):ValAt w B x vk vi vr:=by
 obtain ⟨hn,hs,hl,hri,⟨ck,h1,h2⟩,⟨ci,h3,h4⟩,h5⟩:=h;exact ⟨hn,hs,hl,hri,⟨ck,h1.row hS,fun i hi => (h2 i hi).rd hS⟩,⟨ci,h3.row hS,fun i hi => (h4 i hi).rd hS⟩,h5.rd hS⟩
theorem jq.keep {w w':World} {S S':Nat→Prop} {x:Val} {vk vi vr:Value} (h:jq w S x vk vi vr) (hk:∀ p:Addr,S p.block→w'.cell? p=w.cell? p) (hS:∀ b,S b→S' b):jq w' S' x vk vi vr :=
 ⟨h.ints,h.AL,h.FH,h.Ie,h.keys.keep hk hS,h.items.keep hk hS,h.rest.keep hk hS⟩
def nN (c:Nat→List Value):Nat→List Value
 | 0 => []
 | n+1 => nN c n ++ c n
theorem arY (c:Nat→List Value) (size n:Nat) (h:∀ i,i < n→(c i).length=size):(nN c n).length=n*size:=by
 induction n with
 | zero => simp [nN]
 | succ n ih => rw [nN,List.length_append,ih (fun i hi => h i (by omega)),h n (by omega),Nat.add_mul];omega
theorem zN (c:Nat→List Value) (size n:Nat) (h:∀ i,i < n→(c i).length=size) (i j:Nat) (hi:i < n) (hj:j < size):(nN c n)[i*size+j]?=(c i)[j]?:=by
 induction n with
 | zero => omega
 | succ n ih =>
  have hl:=arY c size n (fun i hi => h i (by omega));rw [nN];by_cases hin:i < n
  ·
   have:i*size+j < n*size:=by
    have h1:(i+1)*size≤n*size:=Nat.mul_le_mul_right _ hin;rw [Nat.add_mul] at h1;omega
   rw [List.getElem?_append_left (by omega)];exact ih (fun i hi => h i (by omega)) hin
  obtain rfl:i=n:=by omega
  rw [List.getElem?_append_right (by omega),hl]
  congr 1
  omega
theorem Ub (c:Nat→List Value) (size n:Nat) (hs:0 < size) (h:∀ i,i < n→(c i).length=size) (q:Nat) (u:Value) (hq:(nN c n)[q]?=some u):q / size < n∧(c (q / size))[q % size]?=some u:=by
 have hl:=arY c size n h;have hlt:q < n*size:=by rw [← hl];exact (List.getElem?_eq_some_iff.1 hq).1
 have h1:q / size < n:=Nat.div_lt_of_lt_mul (by rwa [Nat.mul_comm] at hlt);refine ⟨h1,?_⟩;have h2:=zN c size n h (q / size) (q % size) h1 (Nat.mod_lt _ hs);rw [show q / size*size+q % size=q by rw [Nat.mul_comm];exact Nat.div_add_mod q size] at h2;rw [← h2];exact hq
theorem Row.flat {w:World} {B size n cap:Nat} {A:Option Addr} {c:Nat→List Value} (h:Row w B size (.slice A n cap) n c) (hs:0 < size) (hc:∀ i,i < n→(c i).length=size) (a:Addr) (hA:A=some a) :
  ∀ j u,(nN c n)[j]?=some u→w.cell? (a.add j)=some u:=by
 intro q u hq;obtain ⟨h1,h2⟩:=Ub c size n hs hc q u hq;obtain ⟨A',c',hv,_,h3⟩:=h;injection hv with h4 h5 h6;subst h4;rcases h3 with h3 | ⟨b,o,hb,_,hcell⟩
 · rw [h3] at h1;exact absurd h1 (Nat.not_lt_zero _)
 rw [hb] at hA;injection hA with hA;subst hA;have e:(⟨b,o,none⟩ : Addr).add q=⟨b,o+q / size*size+q % size,none⟩:=by
  unfold Addr.add;split <;> simp_all
  rw [Nat.add_assoc,Nat.mul_comm,Nat.div_add_mod]
 rw [e];exact hcell _ h1 _ _ h2
theorem Bh.uX {w:World} {base n size:Nat} {e:TypeId} {v:Value} {c:Nat→List Value} (h:w.ownsRow base e size v n (nN c n)) (hc:∀ i,i < n→(c i).length=size):Bh w (fun b => v.ownBlock=some b) size v n c:=by
 have h0:=h;obtain ⟨hl,h2⟩:=h;rcases h2 with ⟨rfl,rfl⟩ | ⟨g,cap,cur,rfl,hb,hh,hn,hm,hsz,ht⟩
 · exact ⟨none,0,rfl,Nat.le_refl _,.inl rfl⟩
 refine ⟨_,cap,rfl,hn,.inr ⟨g,0,rfl,rfl,fun i hi j u hu => ?_⟩⟩;have hj:j < size:=by rw [← hc i hi];exact (List.getElem?_eq_some_iff.1 hu).1
 have:=h0.cells (g:=g) rfl (i*size+j) u (by rw [zN c size n hc i j hi hj];exact hu);have e:(⟨g,0,none⟩ : Addr).add (i*size+j)=⟨g,0+i*size+j,none⟩:=by unfold Addr.add;split <;> simp_all
 rwa [e] at this
theorem aeh:(Tryz.prog.info? 81).map (fun i => (i.zero,i.size,i.bytes))=some (some (.agg #[.int .i64 0,.bool false,.int .i64 0,.string ByteArray.empty,.int .i64 0,.slice none 0 0,.slice none 0 0,.slice none 0 0]),8,120):=by kernel_rfl
theorem Vh:(Tryz.prog.info? 129).map (fun i => (i.zero,i.size,i.bytes))=some (some (.agg #[.int .i64 0,.string ByteArray.empty]),2,24):=by kernel_rfl
def DJ (w:World) (e:TypeId) (size n:Nat) (xs:List Value) (r:Ending) (w':World):Prop :=
 ∃ v',r = .returned v'∧w'.ownsRow w.heap.size e size v' n xs∧Below w.heap.size w w'
theorem zCn {p:Prop} (h:p:=by
 rw [Nat.zero_add,List.nil_append] at hown2;have h02:Below w.heap.size w w2:=h01.grown hgrow (by simp) (fun k hk => (Lc.out.lt k hk).1);have HO:=hiQ hown2;clear hown2 hgrow;go_wp2_with fail;go_ret;exact ⟨_,rfl,HO.out,h02⟩):p:=h
theorem zDf {p:Prop} (h:p:=by
 intro j u hu;have h:=hr a rfl j u hu;have hb:=World.block_lt_of_cell? _ _ h;rw [← h];exact World.cell?_of_block (Below.heap_alloc w _ _ hb)):p:=h
theorem zEa {p:Prop} (h:p:=by
 go_wp2_with fail;go_ret;exact ⟨_,rfl,⟨rfl,.inl ⟨rfl,rfl⟩⟩,Below.refl _ _⟩):p:=h
theorem QU (n:Nat) (A:Option Addr) (cap:Nat) (xs:List Value) (w:World) (hn:n≤1172812402926) (hA:A=none→n=0) (hl:xs.length=n*8) (hr:∀ a,A=some a→∀ j u,xs[j]?=some u→w.cell? (a.add j)=some u) (hlt:∀ a,A=some a→0 < n→a.block < w.heap.size) (h1:∀ u ∈ xs,u.oneCell'=true) :
  Calls Tryz.prog 127 #[.slice A n cap] w (DJ w 81 8 n xs):=by
 have heq:=fun (W:World) => Lib.run_eql_slice_nil (P:=Tryz.prog) W 78 81 A n cap 0 0 Tryz.underlying78;cases A with
 | none =>
  obtain rfl:=hA rfl;simp only [Option.isNone_none] at heq;have hx:xs = []:=by simpa using hl
  subst hx;clear hr hlt h1;go_enter Tryz.func127,Tryz.ntmps127
  exact zEa
 | some a =>
  simp only [Option.isNone_some] at heq;have hcell:∀ j u,xs[j]?=some u→(w.alloc (.cells #[] 81)).cell? (a.add j)=some u:=by
   exact zDf
  have HR:=hiQ hcell;have hown:(w.alloc (.cells #[] 81)).ownsRow w.heap.size 81 8 (.slice (some ⟨w.heap.size,0,none⟩) 0 0) 0 [] :=
   ⟨rfl,.inr ⟨w.heap.size,0,#[],rfl,Nat.le_refl _,heap_alloc_new w _,Nat.le_refl _,by simp [maxLen],rfl,rfl⟩⟩
  have h01:=(Below.refl w.heap.size w).alloc (Nat.le_refl _) (.cells #[] 81);have Lc:=hiQ hown;have H1:=hiQ h1;have HL:=hiQ hl;obtain ⟨i0,hi,hz0,hz1,hz2⟩:=info_parts aeh;have Hi:=hiQ hi;have Hz0:=hiQ hz0;have Hz1:=hiQ hz1;have Hz2:=hiQ hz2;clear hr hcell hown h1 hl hlt hA hi hz0 hz1 hz2;go_enter Tryz.func127,Tryz.ntmps127
  go_wp2_with (at_builtin;refine wpList_append_own _ rfl _ _ _ rfl w.heap.size 81 i0 _ 8 120 Tryz.underlying78 Hi.out Hz0.out Hz1.out Hz2.out rfl (by decide) _ 0 [] rfl Lc.out a n cap xs rfl HL.out HR.out H1.out (by simp only [maxLen];omega) (by omega) (by simp) ?_;intro v' w2 hown2 hgrow _)
  exact zCn
theorem ZO (n:Nat) (A:Option Addr) (cap:Nat) (xs:List Value) (w:World) (hn:n≤5864062014634) (hA:A=none→n=0) (hl:xs.length=n*2) (hr:∀ a,A=some a→∀ j u,xs[j]?=some u→w.cell? (a.add j)=some u) (hlt:∀ a,A=some a→0 < n→a.block < w.heap.size) (h1:∀ u ∈ xs,u.oneCell'=true) :
  Calls Tryz.prog 128 #[.slice A n cap] w (DJ w 129 2 n xs):=by
 have heq:=fun (W:World) => Lib.run_eql_slice_nil (P:=Tryz.prog) W 79 129 A n cap 0 0 Tryz.underlying79;cases A with
 | none =>
  obtain rfl:=hA rfl;simp only [Option.isNone_none] at heq;have hx:xs = []:=by simpa using hl
  subst hx;clear hr hlt h1;go_enter Tryz.func128,Tryz.ntmps128
  exact zEa
 | some a =>
  simp only [Option.isNone_some] at heq;have hcell:∀ j u,xs[j]?=some u→(w.alloc (.cells #[] 129)).cell? (a.add j)=some u:=by
   exact zDf
  have HR:=hiQ hcell;have hown:(w.alloc (.cells #[] 129)).ownsRow w.heap.size 129 2 (.slice (some ⟨w.heap.size,0,none⟩) 0 0) 0 [] :=
   ⟨rfl,.inr ⟨w.heap.size,0,#[],rfl,Nat.le_refl _,heap_alloc_new w _,Nat.le_refl _,by simp [maxLen],rfl,rfl⟩⟩
  have h01:=(Below.refl w.heap.size w).alloc (Nat.le_refl _) (.cells #[] 129);have Lc:=hiQ hown;have H1:=hiQ h1;have HL:=hiQ hl;obtain ⟨i0,hi,hz0,hz1,hz2⟩:=info_parts Vh;have Hi:=hiQ hi;have Hz0:=hiQ hz0;have Hz1:=hiQ hz1;have Hz2:=hiQ hz2;clear hr hcell hown h1 hl hlt hA hi hz0 hz1 hz2;go_enter Tryz.func128,Tryz.ntmps128
  go_wp2_with (at_builtin;refine wpList_append_own _ rfl _ _ _ rfl w.heap.size 129 i0 _ 2 24 Tryz.underlying79 Hi.out Hz0.out Hz1.out Hz2.out rfl (by decide) _ 0 [] rfl Lc.out a n cap xs rfl HL.out HR.out H1.out (by simp only [maxLen];omega) (by omega) (by simp) ?_;intro v' w2 hown2 hgrow _)
  exact zCn
theorem oP:(Tryz.prog.info? 3).map (fun i => (i.zero,i.size,i.bytes))=some (some (.int .i64 0),1,8):=by kernel_rfl
end Go.Proofs.YtlamhkffnlgofaaGreatDoor

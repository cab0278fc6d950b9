/- Types all of whose parts lie in blocks of a set; tiles that change in part. What slices.Clone computes for symbols, members and roots. The numbers of classes in a map that the call has made. No condition. -/
import Derived.Test.YtlamhkffnlgofaaGreatDoorHCC
import Derived.Test.YtlamhkffnlgofaaGreatDoorHCB
import Derived.Lib.ItoaLen
import Derived.Maps.OwnSet
import Derived.Maps.Views
set_option maxHeartbeats 800000
set_option maxRecDepth 100000
namespace Go.Proofs.YtlamhkffnlgofaaGreatDoor
open Go.ChangeShapes Go.WideShapes Go.ChangeAt Go.RowKit
theorem af5 (c:UInt8) (n:Int) (h:I64 n):(rF c n).length≤30:=by
 have:=Lib.itoa_length_le n h.1 h.2;unfold rF;rw [List.length_cons];omega
theorem EM.set1 {size n:Nat} {xs:List Value} {c:Nat→List Value} (h:EM size n xs c) (k j:Nat) (v:Value) (hk:k < n) (hj:j < size):EM size n (xs.set (k*size+j) v) (fun i => if i=k then (c i).set j v else c i):=by
 obtain ⟨h1,h2,h3⟩:=h;refine ⟨by rw [List.length_set];exact h1,fun i hi => ?_,fun i hi q u hu => ?_⟩
 ·
  show (if i=k then (c i).set j v else c i).length=size;split
  · rw [List.length_set];exact h2 i hi
  exact h2 i hi
 have hkn:=IC (size:=size) hk;have hq:q < size:=by
  have:=(List.getElem?_eq_some_iff.1 hu).1;dsimp only at this;split at this
  · rwa [List.length_set,h2 i hi] at this
  rwa [h2 i hi] at this
 dsimp only at hu;by_cases e:i=k
 ·
  subst e;rw [if_pos rfl] at hu;by_cases e2:q=j
  ·
   subst e2;rw [List.getElem?_set_self (by rw [h2 i hi];exact hq)] at hu;injection hu with hu;rw [List.getElem?_set_self (by rw [h1];omega),hu]
  rw [List.getElem?_set_ne (fun h => e2 h.symm)] at hu;rw [List.getElem?_set_ne (by omega)];exact h3 i hi q u hu
 rw [if_neg e] at hu;have hne:k*size+j≠i*size+q:=by
  intro he;rcases Nat.lt_or_ge i k with h4 | h4
  · have:=IC (size:=size) h4;omega
  have:=IC (size:=size) (show k < i by omega);omega
 rw [List.getElem?_set_ne hne];exact h3 i hi q u hu
theorem EM.sub {size n:Nat} (k:Nat) (hk:k < n):∀ (vs:List Value) (j:Nat) {xs:List Value} {c:Nat→List Value},EM size n xs c→j+vs.length≤size→EM size n (Js xs (k*size+j) vs) (fun i => if i=k then Js (c i) j vs else c i)
 | [],j,xs,c,h,_ => by
  have e:(fun i => if i=k then Js (c i) j [] else c i)=c:=by funext i;split <;> rfl
  rw [e];exact h
 | v :: r,j,xs,c,h,hj => by
  have h1:=h.set1 k j v hk (by simp at hj;omega);have h2:=EM.sub k hk r (j+1) h1 (by simp at hj;omega);have e:(fun i => if i=k then Js (if i=k then (c i).set j v else c i) (j+1) r else if i=k then (c i).set j v else c i)=fun i => if i=k then Js (c i) j (v :: r) else c i:=by
   funext i
   by_cases e:i=k
   · simp only [if_pos e];rfl
   simp only [if_neg e]
  rw [e] at h2;exact h2
structure as5 (w:World) (S:Nat→Prop) (m:Mem) (vk vi vr:Value):Prop where
 ints:I64 m.id∧I64 m.ty
 GI:m.name.length≤140737488351232
 dflt:jq w S m.dflt vk vi vr
def asi (w:World) (S:Nat→Prop) (m:Mem) (cs:List Value):Prop := ∃ vk vi vr,cs=ZK m vk vi vr∧as5 w S m vk vi vr
def als (w:World) (S:Nat→Prop) (v:Value) (ms:List Mem):Prop := ∃ c:Nat→List Value,Bh w S 13 v ms.length c∧∀ (i:Nat) (h:i < ms.length),asi w S ms[i] (c i)
structure alC (w:World) (S:Nat→Prop) (t:ay) (vs vm:Value):Prop where
 ints:I64 t.kind∧I64 t.low∧I64 t.high∧I64 t.max∧I64 t.key∧I64 t.elem
 GI:t.name.length≤140737488351232
 lens:t.syms.length≤140737488351232∧t.ah.length≤140737488351232
 QL:∀ r ∈ t.syms,yR r
 syms:IB w S 2 vs t.syms.length (jO t.syms)
 ah:als w S vm t.ah
section
variable {w w':World} {S S':Nat→Prop} {B:Nat} {m:Mem} {t:ay} {v vk vi vr vs vm:Value} {ms:List Mem} {cs:List Value}
theorem as5.keep (h:as5 w S m vk vi vr) (hk:∀ p:Addr,S p.block→w'.cell? p=w.cell? p) (hS:∀ b,S b→S' b):as5 w' S' m vk vi vr:=⟨h.ints,h.GI,h.dflt.keep hk hS⟩
theorem asi.keep (h:asi w S m cs) (hk:∀ p:Addr,S p.block→w'.cell? p=w.cell? p) (hS:∀ b,S b→S' b):asi w' S' m cs:=by
 obtain ⟨a,b,c,h1,h2⟩:=h;exact ⟨a,b,c,h1,h2.keep hk hS⟩
theorem als.keep (h:als w S v ms) (hk:∀ p:Addr,S p.block→w'.cell? p=w.cell? p) (hS:∀ b,S b→S' b):als w' S' v ms:=by
 obtain ⟨c,h1,h2⟩:=h;exact ⟨c,h1.keep hk hS,fun i hi => (h2 i hi).keep hk hS⟩
theorem alC.keep (h:alC w S t vs vm) (hk:∀ p:Addr,S p.block→w'.cell? p=w.cell? p) (hS:∀ b,S b→S' b):alC w' S' t vs vm :=
 ⟨h.ints,h.GI,h.lens,h.QL,h.syms.keep hk hS,h.ah.keep hk hS⟩
theorem as5.at_ (h:as5 w S m vk vi vr) (hS:∀ b,S b→b < B):GH w B m vk vi vr:=⟨h.ints,h.GI,h.dflt.at_ hS⟩
theorem als.rd (h:als w S v ms) (hS:∀ b,S b→b < B):rW w B v ms:=by
 obtain ⟨c,h1,h2⟩:=h;refine ⟨c,h1.row hS,fun i hi => ?_⟩;obtain ⟨a,b,c,h3,h4⟩:=h2 i hi;exact ⟨a,b,c,h3,h4.at_ hS⟩
theorem alC.at_ (h:alC w S t vs vm) (hS:∀ b,S b→b < B):jc w B t vs vm:=⟨h.ints,h.GI,h.lens,h.QL,h.syms.rd hS,h.ah.rd hS⟩
theorem alC.forms (h:alC w S t vs vm):∃ A1 c1 A2 c2,vs = .slice A1 t.syms.length c1∧vm = .slice A2 t.ah.length c2:=by
 obtain ⟨_,A1,c1,e1,_⟩:=h.syms;obtain ⟨_,⟨A2,c2,e2,_⟩,_⟩:=h.ah;exact ⟨A1,c1,A2,c2,e1,e2⟩
end
structure anG (w0:World) (L:Nat) (v:Value) (n k:Nat) (ix:Nat→Nat) (ms:List Mem) (wr:World):Prop where
 ex:∃ (c:Nat→List Value) (xs:List Value),wr.ownsRow L 83 13 v n xs∧EM 13 n xs c ∧
  (∀ (i:Nat) (h:i < ms.length),i < k→asi wr (fun b => L≤b∧b < wr.heap.size∧v.ownBlock≠some b) (aoc ix ms[i]) (c i)) ∧
  ∀ (i:Nat) (h:i < ms.length),k≤i→∃ vk vi vr,c i=ZK ms[i] vk vi vr∧GH w0 w0.heap.size ms[i] vk vi vr
theorem anG.all {w0 wr:World} {L n:Nat} {v:Value} {ix:Nat→Nat} {ms:List Mem} (h:anG w0 L v n n ix ms wr) (hn:n=ms.length):als wr (fun b => L≤b∧b < wr.heap.size) v (ms.map (aoc ix)):=by
 subst hn;obtain ⟨c,xs,h1,h2,h3,_⟩:=h.ex;refine ⟨c,?_,fun i hi => ?_⟩
 ·
  rw [List.length_map];exact (Bh.aek h1 h2).keep (fun _ _ => rfl) (fun b hb => h1.lt b hb)
 rw [List.length_map] at hi;rw [List.getElem_map];exact (h3 i hi hi).keep (fun _ _ => rfl) (fun b hb => ⟨hb.1,hb.2.1⟩)
theorem anG.kept {w0 wr:World} {L n k:Nat} {v:Value} {ix:Nat→Nat} {ms:List Mem} (h:anG w0 L v n k ix ms wr):Kept (fun wr => anG w0 L v n k ix ms wr) wr L wr.heap.size:=by
 refine ⟨h,fun w' hk => ?_,Nat.le_refl _⟩;obtain ⟨c,xs,h1,h2,h3,h4⟩:=h.ex;have hsz:wr.heap.size≤w'.heap.size∨wr.heap.size≤L:=by
  rcases Nat.lt_or_ge L wr.heap.size with h5 | h5
  ·
   left
   have h6:=hk (wr.heap.size - 1) (by omega) (by omega);rcases Nat.lt_or_ge (wr.heap.size - 1) w'.heap.size with h7 | h7
   · omega
   rw [Array.getElem?_eq_none h7,Array.getElem?_eq_getElem (by omega)] at h6;cases h6
  exact .inr h5
 exact ⟨c,xs,DI h1 hk,h2,fun i hi hik => (h3 i hi hik).keep (fun p hp => World.cell?_of_block (hk p.block hp.1 hp.2.1)) (fun b hb => ⟨hb.1,by have:=hb.1;have:=hb.2.1;omega,hb.2.2⟩),h4⟩
def aoJ (W:World) (L g n cap k:Nat) (xs cells:List Value):Prop:=W.ownsRow L 83 13 (.slice (some ⟨g,0,none⟩) n cap) n xs∧k < n∧cells.length=13∧∀ j u,cells[j]?=some u→xs[k*13+j]?=some u
section
variable {W:World} {L g n cap k:Nat} {xs cells:List Value}
theorem aoJ.c (h:aoJ W L g n cap k xs cells) (j:Nat) {u:Value} (hu:cells[j]?=some u):W.cell? ⟨g,k*13+j,none⟩=some u:=by
 obtain ⟨h1,h2,h3,h4⟩:=h;have hj:=(List.getElem?_eq_some_iff.1 hu).1;have:=IC (size:=13) h2;rw [h1.cellAt (k*13+j) (by omega)];exact h4 j u hu
theorem aoJ.f (h:aoJ W L g n cap k xs cells) (j:Nat):W.frozen? ⟨g,k*13+j,none⟩=false:=h.1.frozenAt _
theorem aoJ.put (h:aoJ W L g n cap k xs cells) (j:Nat) (v:Value):aoJ (W.setCell ⟨g,k*13+j,none⟩ v) L g n cap k (xs.set (k*13+j) v) (cells.set j v):=by
 obtain ⟨h1,h2,h3,h4⟩:=h;refine ⟨(h1.stored _ v).1,h2,by rw [List.length_set];exact h3,fun q u hu => ?_⟩;by_cases e:q=j
 ·
  subst e;have hq:q < cells.length:=by have:=(List.getElem?_eq_some_iff.1 hu).1;rwa [List.length_set] at this
  rw [List.getElem?_set_self hq] at hu;injection hu with hu;have:=IC (size:=13) h2;rw [List.getElem?_set_self (by rw [h1.1];omega),hu]
 rw [List.getElem?_set_ne (fun h => e h.symm)] at hu;rw [List.getElem?_set_ne (by omega)];exact h4 q u hu
theorem aoJ.kept (h:aoJ W L g n cap k xs cells):Kept (fun W => aoJ W L g n cap k xs cells) W g (g+1) :=
 ⟨h,fun _ hk => ⟨qo h.1 fun b hb => by simp only [Value.ownBlock,Option.some.injEq] at hb;subst hb;exact hk _ (Nat.le_refl _) (by omega),h.2⟩,(h.1.lt g rfl).2⟩
end
def aoe (ss:List Raw) (k:Nat):List Value:=jO ((ss.take k).map anL ++ ss.drop k)
theorem aoz (a b:List Raw):jO (a ++ b)=jO a ++ jO b:=List.flatMap_append
theorem axM (ss:List Raw):aoe ss 0=jO ss:=by simp [aoe]
theorem azc (ss:List Raw):aoe ss ss.length=jO (ss.map anL):=by simp [aoe]
theorem zGh {p:Prop} (h:p:=by
 show ((((ss.take k).map anL)).flatMap Kw).length=_;rw [VN Jl,List.length_map,List.length_take];rw [Nat.min_eq_left (by omega)]):p:=h
theorem axN (ss:List Raw) (k:Nat) (h:k < ss.length):(aoe ss k).set (k*2+1) (.string ⟨(rF 115 ss[k].1).toArray⟩)=aoe ss (k+1):=by
 have hl:(jO ((ss.take k).map anL)).length=k*2:=by
  exact zGh
 unfold aoe;rw [List.drop_eq_getElem_cons h,aoz,aoz,List.take_succ_eq_append_getElem h,List.map_append,aoz,List.append_assoc];rw [List.set_append_right _ _ (by omega),hl,show k*2+1 - k*2=1 by omega]
 rfl
theorem aAn (ss:List Raw) (k:Nat) (h:k < ss.length):(aoe ss k)[k*2]?=some (.int .i64 ss[k].1)∧(aoe ss k)[k*2+1]?=some (.string ⟨ss[k].2.toArray⟩):=by
 have hl:(jO ((ss.take k).map anL)).length=k*2:=by
  exact zGh
 unfold aoe;rw [List.drop_eq_getElem_cons h,aoz]
 constructor
 · rw [List.getElem?_append_right (by omega),hl,show k*2 - k*2=0 by omega];rfl
 rw [List.getElem?_append_right (by omega),hl,show k*2+1 - k*2=1 by omega];rfl
theorem auF:(Tryz.prog.info? 105).map (fun i => (i.zero,i.size,i.bytes))=some (some (.agg #[.int .i64 0,.string ByteArray.empty]),2,24):=by kernel_rfl
theorem ar8:(Tryz.prog.info? 83).map (fun i => (i.zero,i.size,i.bytes))=some (some (.agg #[.int .i64 0,.string ByteArray.empty,.int .i64 0,.bool false,.bool false,.int .i64 0,.bool false,.int .i64 0,.string ByteArray.empty,.int .i64 0,.slice none 0 0,.slice none 0 0,.slice none 0 0]),13,160):=by kernel_rfl
theorem awH (n:Nat) (A:Option Addr) (cap:Nat) (xs:List Value) (w:World) (hn:n≤1000000) (hA:A=none→n=0) (hl:xs.length=n*2) (hr:∀ a,A=some a→∀ j u,xs[j]?=some u→w.cell? (a.add j)=some u) (hlt:∀ a,A=some a→0 < n→a.block < w.heap.size) (h1:∀ u ∈ xs,u.oneCell'=true) :
  Calls Tryz.prog 104 #[.slice A n cap] w (DJ w 105 2 n xs):=by
 have heq:=fun (W:World) => Lib.run_eql_slice_nil (P:=Tryz.prog) W 68 105 A n cap 0 0 Tryz.underlying68;cases A with
 | none =>
  obtain rfl:=hA rfl;simp only [Option.isNone_none] at heq;have hx:xs = []:=by simpa using hl
  subst hx;clear hr hlt h1;go_enter Tryz.func104,Tryz.ntmps104
  exact zEa
 | some a =>
  simp only [Option.isNone_some] at heq;have hcell:∀ j u,xs[j]?=some u→(w.alloc (.cells #[] 105)).cell? (a.add j)=some u:=by
   exact zDf
  have HR:=hiQ hcell;have hown:(w.alloc (.cells #[] 105)).ownsRow w.heap.size 105 2 (.slice (some ⟨w.heap.size,0,none⟩) 0 0) 0 [] :=
   ⟨rfl,.inr ⟨w.heap.size,0,#[],rfl,Nat.le_refl _,heap_alloc_new w _,Nat.le_refl _,by simp [maxLen],rfl,rfl⟩⟩
  have h01:=(Below.refl w.heap.size w).alloc (Nat.le_refl _) (.cells #[] 105);have Lc:=hiQ hown;have H1:=hiQ h1;have HL:=hiQ hl;obtain ⟨i0,hi,hz0,hz1,hz2⟩:=info_parts auF;have Hi:=hiQ hi;have Hz0:=hiQ hz0;have Hz1:=hiQ hz1;have Hz2:=hiQ hz2;clear hr hcell hown h1 hl hlt hA hi hz0 hz1 hz2;go_enter Tryz.func104,Tryz.ntmps104
  go_wp2_with (at_builtin;refine wpList_append_own _ rfl _ _ _ rfl w.heap.size 105 i0 _ 2 24 Tryz.underlying68 Hi.out Hz0.out Hz1.out Hz2.out rfl (by decide) _ 0 [] rfl Lc.out a n cap xs rfl HL.out HR.out H1.out (by simp only [maxLen];omega) (by omega) (by simp) ?_;intro v' w2 hown2 hgrow _)
  exact zCn
theorem axO (n:Nat) (A:Option Addr) (cap:Nat) (xs:List Value) (w:World) (hn:n≤1000000) (hA:A=none→n=0) (hl:xs.length=n*13) (hr:∀ a,A=some a→∀ j u,xs[j]?=some u→w.cell? (a.add j)=some u) (hlt:∀ a,A=some a→0 < n→a.block < w.heap.size) (h1:∀ u ∈ xs,u.oneCell'=true) :
  Calls Tryz.prog 105 #[.slice A n cap] w (DJ w 83 13 n xs):=by
 have heq:=fun (W:World) => Lib.run_eql_slice_nil (P:=Tryz.prog) W 69 83 A n cap 0 0 Tryz.underlying69;cases A with
 | none =>
  obtain rfl:=hA rfl;simp only [Option.isNone_none] at heq;have hx:xs = []:=by simpa using hl
  subst hx;clear hr hlt h1;go_enter Tryz.func105,Tryz.ntmps105
  exact zEa
 | some a =>
  simp only [Option.isNone_some] at heq;have hcell:∀ j u,xs[j]?=some u→(w.alloc (.cells #[] 83)).cell? (a.add j)=some u:=by
   exact zDf
  have HR:=hiQ hcell;have hown:(w.alloc (.cells #[] 83)).ownsRow w.heap.size 83 13 (.slice (some ⟨w.heap.size,0,none⟩) 0 0) 0 [] :=
   ⟨rfl,.inr ⟨w.heap.size,0,#[],rfl,Nat.le_refl _,heap_alloc_new w _,Nat.le_refl _,by simp [maxLen],rfl,rfl⟩⟩
  have h01:=(Below.refl w.heap.size w).alloc (Nat.le_refl _) (.cells #[] 83);have Lc:=hiQ hown;have H1:=hiQ h1;have HL:=hiQ hl;obtain ⟨i0,hi,hz0,hz1,hz2⟩:=info_parts ar8;have Hi:=hiQ hi;have Hz0:=hiQ hz0;have Hz1:=hiQ hz1;have Hz2:=hiQ hz2;clear hr hcell hown h1 hl hlt hA hi hz0 hz1 hz2;go_enter Tryz.func105,Tryz.ntmps105
  go_wp2_with (at_builtin;refine wpList_append_own _ rfl _ _ _ rfl w.heap.size 83 i0 _ 13 160 Tryz.underlying69 Hi.out Hz0.out Hz1.out Hz2.out rfl (by decide) _ 0 [] rfl Lc.out a n cap xs rfl HL.out HR.out H1.out (by simp only [maxLen];omega) (by omega) (by simp) ?_;intro v' w2 hown2 hgrow _)
  exact zCn
end Go.Proofs.YtlamhkffnlgofaaGreatDoor
namespace Go.Proofs.YtlamhkffnlgofaaGreatDoor
open Go.ChangeShapes Go.WideShapes Go.ChangeAt Go.RowKit
open Go.Maps (Keyed)
open Go.WideMaps
def numLit (c:Nat):Lit:=.int .i64 (c:Int)
def O4 (w:World) (b:Nat) (f:List Nat):Prop :=
 ∃ D:DataW Unit,w.ownsMap Tryz.prog 3 (plainElem Tryz.prog 3) b f.length D∧∀ c:Nat,c≤4294967296→Maps.has D (numLit c)=decide (c ∈ f)∧D.atKey (numLit c) (.lit (.int .i64 0)) = .lit (.int .i64 (if c ∈ f then f.idxOf c else 0:Nat))
theorem aum:Keyed Tryz.prog 3:=Maps.int_keyed Tryz.underlying3
theorem awr (w:World):(zeroValue 3).run Tryz.prog w = .ok (.int .i64 0) w:=by kernel_rfl
theorem azD (c:Nat) (h:c≤4294967296):(numLit c).wf=true:=by unfold numLit Lit.wf;simp [IntKind.min,IntKind.max,IntKind.signed,IntKind.bits];omega
theorem aun (c:Nat) (h:c≤4294967296):keyOf Tryz.prog 3 (.int .i64 (c:Int))=some (numLit c):=Maps.keyOf_int_mk Tryz.underlying3 (azD c h)
theorem O4.made (w:World):O4 (w.alloc (.map #[] 0)) w.heap.size []:=⟨.map [],World.ownsMap_made _ _ _ _,fun _ _ => ⟨rfl,rfl⟩⟩
theorem O4.here {w:World} {b:Nat} {f:List Nat} (h:O4 w b f):b < w.heap.size:=by
 obtain ⟨D,h1,_⟩:=h;exact h1.lt
theorem O4.keep {w w':World} {b:Nat} {f:List Nat} (h:O4 w b f) (hk:w'.heap[b]?=w.heap[b]?):O4 w' b f:=by
 obtain ⟨D,⟨es,clock,h1,h2⟩,h3⟩:=h;exact ⟨D,⟨es,clock,hk.trans h1,h2⟩,h3⟩
theorem O4.kept {w:World} {b:Nat} {f:List Nat} (h:O4 w b f):Kept (fun w => O4 w b f) w b (b+1) :=
 ⟨h,fun _ hk => h.keep (hk b (Nat.le_refl _) (Nat.lt_succ_self _)),h.here⟩
theorem O4.look {w:World} {b:Nat} {f:List Nat} (h:O4 w b f) (c:Nat) (hc:c≤4294967296) :
  (Instr.lookup 130 (.map (some b)) (.int .i64 (c:Int)) true).run Tryz.prog w = .ok (.tuple #[.int .i64 (if c ∈ f then f.idxOf c else 0:Nat),.bool (decide (c ∈ f))]) w:=by
 obtain ⟨D,h1,h2⟩:=h;obtain ⟨h3,h4⟩:=h2 c hc;obtain ⟨v,ps,hrun,hv⟩:=h1.look_ok aum Tryz.underlying130 (awr w) (plainElem_int Tryz.underlying3 (by decide)) (aun c hc);rw [h4] at hv;obtain ⟨a,rfl,he,_⟩:=plainElem_int_inv Tryz.underlying3 hv;have h5:=congrArg Prod.fst he;simp only [DataW.lit.injEq,Lit.int.injEq,true_and] at h5;rw [h3,← h5] at hrun;exact hrun
theorem O4.look1 {w:World} {b:Nat} {f:List Nat} (h:O4 w b f) (c:Nat) (hc:c≤4294967296) :
  (Instr.lookup 130 (.map (some b)) (.int .i64 (c:Int)) false).run Tryz.prog w = .ok (.int .i64 (if c ∈ f then f.idxOf c else 0:Nat)) w:=by
 obtain ⟨D,h1,h2⟩:=h;obtain ⟨_,h4⟩:=h2 c hc;obtain ⟨v,ps,hrun,hv⟩:=h1.lookup aum Tryz.underlying130 (awr w) (plainElem_int Tryz.underlying3 (by decide)) (aun c hc);rw [h4] at hv;obtain ⟨a,rfl,he,_⟩:=plainElem_int_inv Tryz.underlying3 hv;have h5:=congrArg Prod.fst he;simp only [DataW.lit.injEq,Lit.int.injEq,true_and] at h5;rw [← h5] at hrun;exact hrun
theorem O4.put {w:World} {b:Nat} {f:List Nat} (h:O4 w b f) (c:Nat) (hc:c≤4294967296) (hf:c ∉ f) (hl:f.length≤4294967295) :
  ∃ w',(Instr.mapUpdate 130 (.map (some b)) (.int .i64 (c:Int)) (.int .i64 (f.length:Nat))).run Tryz.prog w = .ok () w'∧O4 w' b (f ++ [c])∧w.grownBy w' (some b):=by
 obtain ⟨D,h1,h2⟩:=h;have hm:=h1.isMap;obtain ⟨w',r1,r2,r3⟩:=h1.update aum Tryz.underlying130 (by unfold maxLen;omega) (aun c hc) (plainElem_int Tryz.underlying3 (azD f.length (by omega)));refine ⟨w',r1,⟨_,by rw [List.length_append];exact r2,fun q hq => ?_⟩,r3⟩;by_cases h3:q=c
 ·
  subst h3;rw [Maps.has_put_same hm (by trivial),Maps.atKey_put_same hm (by trivial)];have h4:(f ++ [q]).idxOf q=f.length:=by rw [List.idxOf_append];simp [hf]
  rw [if_pos (by simp),h4];exact ⟨by simp,rfl⟩
 have h4:numLit q≠numLit c:=by intro h;unfold numLit at h;injection h with _ h;omega
 obtain ⟨h5,h6⟩:=h2 q hq;have h7:q ∈ f ++ [c]↔q ∈ f:=by simp [h3]
 rw [Maps.has_put_other h4,Maps.atKey_put_other h4,h5,h6];refine ⟨by simp [h3],?_⟩;by_cases h8:q ∈ f
 · rw [if_pos h8,if_pos (h7.2 h8),List.idxOf_append,if_pos h8]
 rw [if_neg h8,if_neg (fun h => h8 (h7.1 h))]
theorem aq8 {ops:Array Oper} {rest:List Oper} {o:Oper} {a:Act} {Q:Exit→Act→World→Prop} {w:World} (hg:o.guard=none) (m x v:Operand) (hop:o.op=Op.mapUpdate 130 m x v∨o.op=Op.insert 130 m x v)
  (b:Nat) (f:List Nat) (hm:a.eval m = .map (some b)) (hown:O4 w b f) (hl:f.length≤4294967295) (c:Nat) (hx:a.eval x = .int .i64 (c:Int)) (hv:a.eval v = .int .i64 (f.length:Nat)) (hc:c≤4294967296) (hf:c ∉ f)
  (hK:∀ w',O4 w' b (f ++ [c])→w.grownBy w' (some b)→wpList Tryz.prog ops Q rest (a.put o.dst undef) w'):wpList Tryz.prog ops Q (o :: rest) a w:=by
 refine wpList_plain hg fun K' hK' => ?_;obtain ⟨w',hrun,r1,r2⟩:=hown.put c hc hf hl;unfold Oper.wp;rcases hop with hop | hop
 ·
  simp [execOp,hop,hm,hx,hv,hrun,Result.andThen];exact hK' _ _ (hK w' r1 r2)
 simp [execOp,hop,hm,hx,hv,hrun,Result.andThen];exact hK' _ _ (hK w' r1 r2)
end Go.Proofs.YtlamhkffnlgofaaGreatDoor

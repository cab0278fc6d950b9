/- Plain helpers: byte values, blocks of bytes turned into strings, small facts on worlds. Small words on blocks of cells that a call has made. Opening arguments of any depth: slices, structs, strings, with the reach. Append that tells which block may have changed; operations under a guard that holds. Values as trees, and how memory reads as one. What Depth, Nodes and their references compute. What size and Small compute. No condition. -/
import Derived.Test.YthkfapcadhnaeaaGreatDoorRows
import Derived.Handy
import Derived.Lib.Hide
import Derived.Lib.AppendStr
import Derived.Deep.QuietTactic
import Derived.BigQuiet
import Derived.WalkSpells
import Derived.WalkLawsBesides
import Derived.ShutString
import Derived.ChangeOld
import Derived.Carry
import Derived.SizedLaws
import Derived.Deep.RegionHeld3
import Derived.Deep.Slices
set_option maxHeartbeats 1600000
namespace Go.Proofs.YthkfapcadhnaeaaGreatDoor
open Go.ChangeShapes Go.WideShapes Go.ChangeAt Go.RowKit
open Go.ChangeMaps (open_string shut_string)
def B8 (b:UInt8):Value:=.int .u8 (b.toNat:Int)
def yD (n:Nat):Prop:=n < 18446744073709551616
theorem aV {k:IntKind} {a b:Int} (h:a=b):Ending.returned (.int k a) = .returned (.int k b):=by rw [h]
theorem au {a b:Bool} (h:a=b):Ending.returned (.bool a) = .returned (.bool b):=by rw [h]
theorem Qc (l:List UInt8) (i j:Nat):({ data:=l.toArray } : ByteArray).extract i j = { data:=((l.take j).drop i).toArray }:=by
 ext1
 rw [ByteArray.data_extract]
 simp [List.extract_eq_take_drop,List.drop_take]
theorem xK (l:List UInt8) (i j:Nat) (h:j=l.length):({ data:=l.toArray } : ByteArray).extract i j = { data:=(l.drop i).toArray }:=by
 rw [Qc,h,List.take_length]
theorem below_drewN {B:Nat} {a w:World} (h:Below B a w) (n:Nat):Below B a (w.drewN n):=⟨h.os,h.tape,h.output,h.size,h.block⟩
theorem QO (w:World) (o:Obj):(w.alloc o).heap[w.heap.size]?=some o:=heap_alloc_new w o
theorem oD {P:Program} {ops:Array Oper} {rest:List Oper} {o:Oper} {a:Act} {Q:Exit→Act→World→Prop} (hgd:o.guard=none) (s x:Operand) (t:TypeId)
  (ho:o.op = .call { callee:=.builtin .append,args:=#[s,x],argTypes:=#[t,t] })
  (base:Nat) (e:TypeId) (z:Value) (size bytes:Nat) (ht:P.underlying t=some (.slice e)) (hinfo:(P.info? e).map (fun i => (i.zero,i.size,i.bytes))=some (some z,size,bytes)) (hzs:z.cells.size=size) (hsz:0 < size)
  (v:Value) (n:Nat) (xs:List Value) (hs:a.eval s=v) {W:World} (hown:W.ownsRow base e size v n xs) (news:List Value) (te:TypeId) (c:Nat)
  (hx:a.eval x = .slice (some ⟨W.heap.size,0,none⟩) 1 c) (hl:news.length=size) (h1:∀ u ∈ news,u.oneCell'=true) (hsmall:n < 1048576) (hby:bytes≤1048576) (hbase:base≤W.heap.size)
  (h:∀ v' w',w'.ownsRow base e size v' (n+1) (xs ++ news)→Below base W w'→wpList P ops Q rest (a.put o.dst v') w'):wpList P ops Q (o :: rest) a (W.alloc (.cells news.toArray te)):=by
 obtain ⟨i0,hi,hz0,hz1,hz2⟩:=info_parts hinfo
 refine wpList_append_own _ hgd s x t ho base e i0 z size bytes ht hi hz0 hz1 hz2 hzs hsz v n xs hs (hown.alloc _) ⟨W.heap.size,0,none⟩ 1 c news hx (by omega) ?_ h1 (by simp only [maxLen];omega) ?_ (by simp;omega) ?_
 ·
  intro j u hu
  have hj:(⟨W.heap.size,0,none⟩ : Addr).add j=⟨W.heap.size,j,none⟩:=by unfold Addr.add;split <;> simp_all
  rw [hj]
  simp only [World.cell?,QO]
  simpa using hu
 ·
  have:(n+1)*bytes≤1048576*1048576:=Nat.mul_le_mul (by omega) hby
  omega
 intro v' w' h2 h3 _
 exact h v' w' h2 (((Below.refl base W).alloc hbase _).grown h3 (by simp;omega) (fun k hk => (hown.lt k hk).1))
def Rd (w:World) (B size:Nat) (v:Value) (n:Nat) (xs:List Value):Prop :=
 xs.length=n*size∧∃ A c,v = .slice A n c∧n≤c∧(n=0∨∃ b o,A=some ⟨b,o,none⟩∧b < B∧∀ j u,xs[j]?=some u→w.cell? ⟨b,o+j,none⟩=some u)
section
variable {w w':World} {B B' size n:Nat} {v:Value} {xs:List Value}
theorem Rd.nil_ (w:World) (B size:Nat):Rd w B size (.slice none 0 0) 0 []:=⟨by simp,none,0,rfl,Nat.le_refl _,.inl rfl⟩
theorem Rd.keep (h:Rd w B size v n xs) (hk:∀ p:Addr,p.block < B→w'.cell? p=w.cell? p):Rd w' B size v n xs:=by
 obtain ⟨hl,A,c,hv,hc,h2⟩:=h
 refine ⟨hl,A,c,hv,hc,?_⟩
 rcases h2 with h2 | ⟨b,o,hA,hb,hcell⟩
 · exact .inl h2
 exact .inr ⟨b,o,hA,hb,fun j u hu => (hk _ hb).trans (hcell j u hu)⟩
theorem Rd.mono (h:Rd w B size v n xs) (hB:B≤B'):Rd w B' size v n xs:=by
 obtain ⟨hl,A,c,hv,hc,h2⟩:=h
 refine ⟨hl,A,c,hv,hc,?_⟩
 rcases h2 with h2 | ⟨b,o,hA,hb,hcell⟩
 · exact .inl h2
 exact .inr ⟨b,o,hA,by omega,hcell⟩
theorem Rd.below (h:Rd w B size v n xs) (hb:Below B w w'):Rd w' B size v n xs:=h.keep fun _ hp => hb.cell hp
theorem Rd.alloc (h:Rd w B size v n xs) (hB:B≤w.heap.size) (o:Obj):Rd (w.alloc o) B size v n xs:=h.keep fun p hp => World.cell?_of_block (Below.heap_alloc w o p.block (by omega))
theorem Rd.form (h:Rd w B size v n xs):∃ A c,v = .slice A n c∧n≤c:=by
 obtain ⟨_,A,c,hv,hc,_⟩:=h
 exact ⟨A,c,hv,hc⟩
theorem Rd.at_ {A:Option Addr} {c:Nat} (h:Rd w B size (.slice A n c) n xs) (hn:0 < n):∃ b o,A=some ⟨b,o,none⟩∧b < B∧∀ j u,xs[j]?=some u→w.cell? ⟨b,o+j,none⟩=some u:=by
 obtain ⟨hl,A',c',hv,hc,h2⟩:=h
 injection hv with h3 h4 h5
 subst h3
 rcases h2 with h2 | h2
 · omega
 exact h2
theorem Rd.pq {base:Nat} {e:TypeId} (h:w.ownsRow base e size v n xs):Rd w w.heap.size size v n xs:=by
 have h0:=h
 obtain ⟨hl,h2⟩:=h
 rcases h2 with ⟨rfl,rfl⟩ | ⟨g,cap,cur,rfl,hb,hh,hn,hm,hsz,ht⟩
 · exact ⟨hl,none,0,rfl,Nat.le_refl _,.inl rfl⟩
 refine ⟨hl,_,cap,rfl,hn,.inr ⟨g,0,rfl,?_,fun j u hu => ?_⟩⟩
 ·
  rcases Nat.lt_or_ge g w.heap.size with h3 | h3
  · exact h3
  rw [Array.getElem?_eq_none h3] at hh;cases hh
 have:=h0.cells (g:=g) rfl j u hu
 have e:(⟨g,0,none⟩ : Addr).add j=⟨g,0+j,none⟩:=by unfold Addr.add;split <;> simp_all
 rwa [e] at this
theorem own_below {base:Nat} {e:TypeId} (h:w.ownsRow base e size v n xs) (hb:Below w.heap.size w w'):w'.ownsRow base e size v n xs :=
 h.kept (row:=none) ⟨hb.os,hb.tape,hb.output,hb.size,fun k hk _ => hb.block k hk⟩ (by
  cases hv:v.ownBlock with
  | none => exact .inl rfl
  | some k => exact .inr (by simp))
end
/-! what a row's frame needs -/
def I64 (n:Int):Prop := -9223372036854775808≤n∧n≤9223372036854775807
theorem wf_i64 {a:Int} (h:(Lit.int .i64 a).wf=true):I64 a:=by
 simp [Lit.wf,IntKind.min,IntKind.max,IntKind.bits,IntKind.signed] at h
 unfold I64;omega
theorem yg (s:ByteArray):∃ l:List UInt8,s = { data:=l.toArray }∧s.size=l.length:=⟨s.data.toList,by cases s;simp,by cases s;simp [ByteArray.size]⟩
theorem Vx:ownKnob Tryz.prog.godebug=none:=by kernel_rfl
theorem Vy:laidOutB Tryz.prog=true:=by kernel_rfl
theorem IK {H:Type} {enc:TypeId × Value→H} {P:Program} (hl:laidOutB P=true) {W W':World} (hb:Below W.heap.size W W') :
  ∀ (ts:List TypeId) (vs:List Value) (ds:List (DataW H)) (ps:List MemPlace),ts.all (fun t => P.readableRec t && decide (t < P.types.size))=true →
   DataW.TrodAll enc P W 0 (fun _ => true) true ts vs ds ps→(∀ x ∈ ps,x.block < W.heap.size)→DataW.TrodAll enc P W' 0 (fun b => decide (b < W.heap.size)) true ts vs ds ps:=by
 intro ts
 induction ts with
 | nil => intro vs ds ps _ h _;exact (match vs,ds,h with | [],[],h => h)
 | cons t ts ih =>
  intro vs ds ps hall h hlt
  match vs,ds,h with
  | v :: vs,d :: ds,⟨p,q,h1,h2,e⟩ =>
   subst e
   simp only [List.all_cons,Bool.and_eq_true,decide_eq_true_eq] at hall
   exact ⟨p,q,Below.trod hl hall.1.1 hall.1.2 h1 hb (fun x hx => hlt x (List.mem_append_left _ hx)),ih vs ds q hall.2 h2 (fun x hx => hlt x (List.mem_append_right _ hx)),rfl⟩
theorem FW:(∀ (l:List Value) (i:Nat),l.toArray[i]?=l[i]?)∧(∀ (x:Value) (l:List Value) (i:Nat),(x :: l)[i+1]?=l[i]?)∧(∀ (x:Value) (l:List Value),(x :: l)[0]?=some x):=⟨fun _ _ => by simp,fun _ _ _ => by simp,fun _ _ => by simp⟩
theorem QS (w:World):∀ o1 o2:Obj,Below w.heap.size w ((w.alloc o1).alloc o2):=fun o1 o2 => ((Below.refl w.heap.size w).alloc (Nat.le_refl _) o1).alloc (show w.heap.size≤(w.alloc o1).heap.size by simp) o2
end Go.Proofs.YthkfapcadhnaeaaGreatDoor
namespace Go.Proofs.YthkfapcadhnaeaaGreatDoor
open Go.ChangeShapes Go.WideShapes Go.ChangeAt Go.RowKit
def Has (w:World) (g:Nat) (t:TypeId) (cs:Array Value):Prop:=w.heap[g]?=some (.cells cs t (0,0))
section
variable {w w':World} {g:Nat} {t:TypeId} {cs:Array Value}
theorem Has.here (h:Has w g t cs):g < w.heap.size:=by
 rcases Nat.lt_or_ge g w.heap.size with h1 | h1
 · exact h1
 unfold Has at h;rw [Array.getElem?_eq_none h1] at h;cases h
theorem Has.cell (h:Has w g t cs) (i:Nat):w.cell? ⟨g,i,none⟩=cs[i]?:=by
 unfold Has at h
 simp [World.cell?,h]
theorem Has.free (h:Has w g t cs) (i:Nat):w.frozen? ⟨g,i,none⟩=false:=by
 unfold Has at h
 simp [World.frozen?,h]
theorem Has.made (w:World) (t:TypeId) (cs:Array Value):Has (w.alloc (.cells cs t)) w.heap.size t cs:=heap_alloc_new w _
theorem Has.alloc (h:Has w g t cs) (o:Obj):Has (w.alloc o) g t cs:=(Below.heap_alloc w o g h.here).trans h
theorem Has.drew (h:Has w g t cs):Has w.drew g t cs:=h
theorem Has.drewN (h:Has w g t cs) (n:Nat):Has (w.drewN n) g t cs:=h
theorem Has.set (h:Has w g t cs) (i:Nat) (u:Value):Has (w.setCell ⟨g,i,none⟩ u) g t (cs.setIfInBounds i u):=by
 unfold Has at h ⊢
 simp [World.setCell,Array.getElem?_modify,h]
theorem Has.far (h:Has w g t cs) {p:Addr} (hp:g≠p.block) (u:Value):Has (w.setCell p u) g t cs:=(Below.heap_setCell w p u g hp).trans h
theorem Has.below {B:Nat} (h:Has w g t cs) (hb:Below B w w') (hg:g < B):Has w' g t cs:=(hb.block g hg).trans h
end
end Go.Proofs.YthkfapcadhnaeaaGreatDoor
namespace Go.Proofs.YthkfapcadhnaeaaGreatDoor
open Go.ChangeShapes Go.WideShapes Go.ChangeAt Go.RowKit
def Sz {H:Type} (t:TypeId) (d:DataW H):Prop := ∀ n ∈ d.weights Tryz.prog t,n≤140737488351232
theorem aby:reachBytes=140737488351232:=by decide
theorem Oz {H:Type} {ts:List TypeId} {ds:List (DataW H)} (h:(DataW.weightsEach Tryz.prog ts ds).all (· ≤ reachBytes)=true) {j:Nat} {t:TypeId} {d:DataW H} (ht:ts[j]?=some t) (hd:ds[j]?=some d):Sz t d:=fun n hn => by
 have:=List.all_eq_true.1 h n (DataW.weights_mem_each ht hd n hn)
 rw [← aby]
 simpa using this
theorem FX {H:Type} {P:Program} {e:TypeId} : ∀ {ds:List (DataW H)} {d:DataW H},d ∈ ds→∀ n ∈ d.weights P e,n ∈ DataW.weightsAll P e ds
 | d0 :: ds,d,hd,n,hn => by
  rw [DataW.weightsAll]
  rcases List.mem_cons.1 hd with rfl | hd
  · exact List.mem_append_left _ hn
  exact List.mem_append_right _ (FX hd n hn)
theorem OA {H:Type} {P:Program} : ∀ {ts:List TypeId} {ds:List (DataW H)} {j:Nat} {t:TypeId} {d:DataW H},ts[j]?=some t→ds[j]?=some d→∀ n ∈ d.weights P t,n ∈ DataW.weightsEach P ts ds:=DataW.weights_mem_each
theorem Sz.str {H:Type} {t:TypeId} {b:List UInt8} (h:Sz t (.lit (.string b):DataW H)):b.length≤140737488351232:=h _ (by simp [DataW.weights])
theorem Sz.field {H:Type} {t:TypeId} {fs:Array Field} {parts:List (DataW H)} (h:Sz t (.agg parts)) (ht:Tryz.prog.underlying t=some (.struct fs)) {i:Nat} {f:Field} {d:DataW H} (hf:fs[i]?=some f) (hd:parts[i]?=some d):Sz f.type d:=fun n hn => by
 refine h n ?_
 simp only [DataW.weights,ht]
 exact OA (j:=i) (by simpa using ⟨f,hf,rfl⟩) hd n hn
theorem Sz.len {H:Type} {t e:TypeId} {es sp:List (DataW H)} (h:Sz t (.slice es sp)) (ht:Tryz.prog.underlying t=some (.slice e)):(es.length+sp.length)*Tryz.prog.bytesOf e≤140737488351232 :=
 h _ (by simp [DataW.weights,ht])
theorem Sz.elem {H:Type} {t e:TypeId} {es sp:List (DataW H)} (h:Sz t (.slice es sp)) (ht:Tryz.prog.underlying t=some (.slice e)) {d:DataW H} (hd:d ∈ es):Sz e d:=fun n hn =>
 h n (by simp only [DataW.weights,ht];exact List.mem_cons_of_mem _ (List.mem_append_left _ (FX hd n hn)))
section
variable {H:Type} {enc:TypeId × Value→H} {w:World} {base:Nat} {spare:Nat→Bool} {held:Bool}
set_option maxRecDepth 100000 in
theorem abz {t e:TypeId} {size fuel:Nat} {cs:List Value} {x:DataW H × List MemPlace} (ht:Tryz.prog.underlying t=some (.slice e)) (hC:Tryz.prog.cellsOf e=size) (hpos:0 < size)
  (h:DataW.trod enc Tryz.prog w base spare held fuel t cs=some x) (hs:Sz t x.1) :
  ∃ (A:Option Addr) (len cap:Nat),cs = [.slice A len cap]∧len≤cap∧len*Tryz.prog.bytesOf e≤140737488351232 ∧
   (len=0∨∃ b o,A=some ⟨b,o,none⟩∧b < w.heap.size∧∃ (N:Nat) (D:Nat→DataW H) (Pl:Nat→List MemPlace),∀ i,i < len→∃ cs',cs'.length=size ∧
    (∀ j u,cs'[j]?=some u→w.cell? ⟨b,o+i*size+j,none⟩=some u)∧DataW.trod enc Tryz.prog w base spare held N e cs'=some (D i,Pl i)∧Sz e (D i)):=by
 rcases Go.Deep.open_slice ht h with ⟨rfl,_⟩ | ⟨a,len,cap,m,n,D,Pl,rfl,hb,hl,hm,hmm,rfl,hel⟩
 · exact ⟨none,0,0,rfl,Nat.le_refl _,by simp,.inl rfl⟩
 have hlm:len≤m:=by rw [hmm];split <;> omega
 refine ⟨some a,len,cap,rfl,hl,?_,?_⟩
 ·
  have:=hs.len ht
  simp only [List.length_map,List.length_range] at this
  exact Nat.le_trans (Nat.mul_le_mul_right _ (by omega)) this
 by_cases h0:len=0
 · exact .inl h0
 right
 have hcell:∀ i,i < len→∃ cs',cs'.length=size∧(∀ j,j < size→w.cell? ((a.add (i*size)).add j)=cs'[j]?)∧DataW.trod enc Tryz.prog w base spare held n e cs'=some (D i,Pl i):=fun i hi => by
  obtain ⟨cs',h1,h2⟩:=hel i (by omega)
  rw [hC] at h1
  obtain ⟨_,h3,h4⟩:=World.cells?_some h1
  exact ⟨cs',h3,h4,h2⟩
 have h00:∃ u,w.cell? a=some u:=by
  obtain ⟨cs',h1,h2,_⟩:=hcell 0 (by omega)
  have:=h2 0 hpos
  have e0:(a.add (0*size)).add 0=a:=by simp [Addr.add]
  rw [e0] at this
  exact ⟨cs'[0]'(by omega),by rw [this];exact List.getElem?_eq_getElem (by omega)⟩
 obtain ⟨u,hu⟩:=h00
 have hsp:a.spot=none:=by
  cases hs:a.spot with
  | none => rfl
  | some s => simp [World.cell?,hs] at hu;split at hu <;> simp at hu
 obtain ⟨b,o,sp⟩:=a
 simp only at hsp
 subst hsp
 refine ⟨b,o,rfl,World.block_lt_of_cell? _ _ hu,n,D,Pl,fun i hi => ?_⟩
 obtain ⟨cs',h1,h2,h3⟩:=hcell i hi
 refine ⟨cs',h1,fun j v hv => ?_,h3,hs.elem ht (List.mem_map.2 ⟨i,by simpa using hi,rfl⟩)⟩
 have hj:j < size:=by rw [← h1];exact (List.getElem?_eq_some_iff.1 hv).1
 have e1:((⟨b,o,none⟩ : Addr).add (i*size)).add j=⟨b,o+i*size+j,none⟩:=by unfold Addr.add;split <;> split <;> simp_all
 rw [← e1,h2 j hj,hv]
end
theorem Vz {α:Type} {f:α→List Value} {size:Nat} (hf:∀ a,(f a).length=size) (xs:List α):(xs.flatMap f).length=xs.length*size:=by
 induction xs with
 | nil => simp
 | cons x r ih => rw [List.flatMap_cons,List.length_append,hf,ih,List.length_cons,Nat.succ_mul,Nat.add_comm]
theorem flat_get {α:Type} {f:α→List Value} {size:Nat} (hf:∀ a,(f a).length=size) (xs:List α):∀ (k j:Nat) (h:k < xs.length),j < size→(xs.flatMap f)[k*size+j]?=(f xs[k])[j]?:=by
 induction xs with
 | nil => intro k j h;simp at h
 | cons x r ih =>
  intro k j h hj
  rw [List.flatMap_cons]
  cases k with
  | zero => rw [List.getElem?_append_left (by rw [hf];omega)];simp
  | succ k =>
   rw [List.getElem?_append_right (by rw [hf,Nat.succ_mul];omega),hf]
   have e2:(k+1)*size+j - size=k*size+j:=by rw [Nat.succ_mul];omega
   rw [e2,ih k j (by simpa using h) hj]
   simp
theorem adz {α:Type} {f:α→List Value} {size:Nat} (hf:∀ a,(f a).length=size) (hpos:0 < size) (xs:List α) (j:Nat) (u:Value) (h:(xs.flatMap f)[j]?=some u):∃ hk:j / size < xs.length,(f (xs[j / size]))[j % size]?=some u:=by
 have hl:=(List.getElem?_eq_some_iff.1 h).1
 rw [Vz hf] at hl
 have hk:j / size < xs.length:=Nat.div_lt_of_lt_mul (by rw [Nat.mul_comm];exact hl)
 refine ⟨hk,?_⟩
 rw [← flat_get hf xs (j / size) (j % size) hk (Nat.mod_lt _ hpos)]
 have:j / size*size+j % size=j:=by rw [Nat.mul_comm];exact Nat.div_add_mod j size
 rw [this,h]
set_option maxRecDepth 100000 in
theorem open_list {H:Type} {enc:TypeId × Value→H} {w:World} {base:Nat} {spare:Nat→Bool} {held:Bool} {α:Type} {good:α→Prop} {f:α→List Value}
  {t e:TypeId} {size fuel:Nat} {cs:List Value} {x:DataW H × List MemPlace} (ht:Tryz.prog.underlying t=some (.slice e)) (hC:Tryz.prog.cellsOf e=size) (hpos:0 < size) (hf:∀ a,(f a).length=size)
  (h:DataW.trod enc Tryz.prog w base spare held fuel t cs=some x) (hs:Sz t x.1)
  (hel:∀ (N:Nat) (cs':List Value) (D:DataW H) (Q:List MemPlace),cs'.length=size→DataW.trod enc Tryz.prog w base spare held N e cs'=some (D,Q)→Sz e D→∃ a,cs'=f a∧good a) :
  ∃ (v:Value) (xs:List α),cs = [v]∧xs.length*Tryz.prog.bytesOf e≤140737488351232∧(∀ a ∈ xs,good a)∧Rd w w.heap.size size v xs.length (xs.flatMap f):=by
 obtain ⟨A,len,cap,rfl,hl,hb,hrow⟩:=abz ht hC hpos h hs
 rcases hrow with rfl | ⟨b,o,rfl,hlt,N,D,Pl,hi⟩
 · exact ⟨_,[],rfl,by simp,by simp,by simp,A,cap,rfl,hl,.inl rfl⟩
 have hex:∀ i,i < len→∃ a,good a∧∀ j u,(f a)[j]?=some u→w.cell? ⟨b,o+i*size+j,none⟩=some u:=fun i h0 => by
  obtain ⟨cs',h1,h2,h3,h4⟩:=hi i h0
  obtain ⟨a,rfl,hg⟩:=hel N cs' (D i) (Pl i) h1 h3 h4
  exact ⟨a,hg,h2⟩
 have hall:∀ n,n≤len→∃ xs:List α,xs.length=n∧(∀ a ∈ xs,good a)∧∀ i (h:i < xs.length),∀ j u,(f xs[i])[j]?=some u→w.cell? ⟨b,o+i*size+j,none⟩=some u:=by
  intro n
  induction n with
  | zero => intro _;exact ⟨[],rfl,by simp,fun i h => by simp at h⟩
  | succ n ih =>
   intro hn
   obtain ⟨xs,h1,h2,h3⟩:=ih (by omega)
   obtain ⟨a,hg,ha⟩:=hex n (by omega)
   refine ⟨xs ++ [a],by simp [h1],fun y hy => ?_,fun i hi j u hu => ?_⟩
   ·
    rcases List.mem_append.1 hy with hy | hy
    · exact h2 y hy
    rw [List.mem_singleton.1 hy];exact hg
   rw [List.length_append,List.length_singleton] at hi
   rcases Nat.lt_or_ge i xs.length with hlt | hge
   · rw [List.getElem_append_left hlt] at hu;exact h3 i hlt j u hu
   obtain rfl:i=xs.length:=by omega
   rw [List.getElem_append_right (Nat.le_refl _)] at hu
   simp only [Nat.sub_self,List.getElem_cons_zero] at hu
   rw [h1];exact ha j u hu
 obtain ⟨xs,h1,h2,h3⟩:=hall len (Nat.le_refl _)
 subst h1
 refine ⟨_,xs,rfl,hb,h2,Vz hf xs,_,cap,rfl,hl,?_⟩
 refine .inr ⟨b,o,rfl,hlt,fun j u hu => ?_⟩
 obtain ⟨hk,hu2⟩:=adz hf hpos xs j u hu
 have:=h3 _ hk _ _ hu2
 have e:o+j / size*size+j % size=o+j:=by
  have:=Nat.div_add_mod j size
  rw [Nat.mul_comm] at this
  omega
 rw [e] at this
 exact this
end Go.Proofs.YthkfapcadhnaeaaGreatDoor
namespace Go.Proofs.YthkfapcadhnaeaaGreatDoor
open Go.ChangeShapes Go.WideShapes Go.ChangeAt Go.RowKit
theorem grown_below {W w':World} {base:Nat} {e:TypeId} {size n:Nat} {v:Value} {xs:List Value} {o:Obj} (hown:W.ownsRow base e size v n xs) (hb:base≤W.heap.size) (h:(W.alloc o).grownBy w' v.ownBlock):Below base W w' :=
 ((Below.refl base W).alloc hb o).grown h (by simp;omega) (fun k hk => (hown.lt k hk).1)
end Go.Proofs.YthkfapcadhnaeaaGreatDoor
namespace Go.Proofs.YthkfapcadhnaeaaGreatDoor
open Go.ChangeShapes Go.WideShapes Go.ChangeAt Go.RowKit
abbrev Raw:=Int × List UInt8
inductive Val where
 | mk (kind:Int) (bool:Bool) (num:Int) (str:List UInt8) (id:Int) (keys items:List Val) (rest:List Raw):Val
namespace Val
def kind:Val→Int | .mk k _ _ _ _ _ _ _ => k
def bool:Val→Bool | .mk _ b _ _ _ _ _ _ => b
def num:Val→Int | .mk _ _ n _ _ _ _ _ => n
def str:Val→List UInt8 | .mk _ _ _ s _ _ _ _ => s
def id:Val→Int | .mk _ _ _ _ i _ _ _ => i
def keys:Val→List Val | .mk _ _ _ _ _ ks _ _ => ks
def items:Val→List Val | .mk _ _ _ _ _ _ is _ => is
def rest:Val→List Raw | .mk _ _ _ _ _ _ _ rs => rs
end Val
def kJ:Val:=.mk 0 false 0 [] 0 [] [] []
mutual
def nodes:Val→Nat
 | .mk _ _ _ _ _ ks is _ => l9 ks+l9 is+1
def l9:List Val→Nat
 | [] => 0
 | x :: r => nodes x+l9 r
end
mutual
def depth:Val→Nat
 | .mk _ _ _ _ _ ks is _ => max (FY ks) (FY is)+1
def FY:List Val→Nat
 | [] => 0
 | x :: r => max (depth x) (FY r)
end
theorem abA (v:Val):1≤nodes v:=by cases v;rw [nodes];omega
theorem vX (l:List Val) (x:Val) (h:x ∈ l):nodes x≤l9 l:=by
 induction l with
 | nil => simp at h
 | cons y r ih =>
  rw [l9]
  rcases List.mem_cons.1 h with rfl | h
  · omega
  have:=ih h;omega
mutual
theorem WT:∀ v:Val,depth v≤nodes v
 | .mk _ _ _ _ _ ks is _ => by
  rw [depth,nodes]
  have h1:=D5 ks
  have h2:=D5 is
  omega
theorem D5:∀ l:List Val,FY l≤l9 l
 | [] => by simp [FY]
 | x :: r => by
  rw [FY,l9]
  have h1:=WT x
  have h2:=D5 r
  omega
end
def Bz (r:Raw):List Value:=[.int .i64 r.1,.string ⟨r.2.toArray⟩]
theorem H6 (r:Raw):(Bz r).length=2:=rfl
def iV (rs:List Raw):List Value:=rs.flatMap Bz
def pV (r:Raw):Prop:=I64 r.1∧r.2.length≤140737488351232
def Row (w:World) (B size:Nat) (v:Value) (n:Nat) (c:Nat→List Value):Prop :=
 ∃ A cap,v = .slice A n cap∧n≤cap∧(n=0∨∃ b o,A=some ⟨b,o,none⟩∧b < B∧∀ i,i < n→∀ j u,(c i)[j]?=some u→w.cell? ⟨b,o+i*size+j,none⟩=some u)
section
variable {w w':World} {B B' size n:Nat} {v:Value} {c:Nat→List Value}
theorem Row.keep (h:Row w B size v n c) (hk:∀ p:Addr,p.block < B→w'.cell? p=w.cell? p):Row w' B size v n c:=by
 obtain ⟨A,cap,hv,hc,h2⟩:=h
 refine ⟨A,cap,hv,hc,?_⟩
 rcases h2 with h2 | ⟨b,o,hA,hb,hcell⟩
 · exact .inl h2
 exact .inr ⟨b,o,hA,hb,fun i hi j u hu => (hk _ hb).trans (hcell i hi j u hu)⟩
theorem Row.mono (h:Row w B size v n c) (hB:B≤B'):Row w B' size v n c:=by
 obtain ⟨A,cap,hv,hc,h2⟩:=h
 refine ⟨A,cap,hv,hc,?_⟩
 rcases h2 with h2 | ⟨b,o,hA,hb,hcell⟩
 · exact .inl h2
 exact .inr ⟨b,o,hA,by omega,hcell⟩
end
inductive mP (w:World) (B:Nat):Val→List Value→Prop
 | mk (k:Int) (b:Bool) (n:Int) (s:List UInt8) (id:Int) (ks is:List Val) (rs:List Raw) (vk vi vr:Value) (ck ci:Nat→List Value)
   (hn:I64 k∧I64 n∧I64 id) (hs:s.length≤140737488351232) (hl:ks.length≤1172812402926∧is.length≤1172812402926∧rs.length≤5864062014634) (kT:∀ r ∈ rs,pV r)
   (hk:Row w B 8 vk ks.length ck) (hkr:∀ (i:Nat) (h:i < ks.length),mP w B ks[i] (ck i))
   (hi:Row w B 8 vi is.length ci) (hir:∀ (i:Nat) (h:i < is.length),mP w B is[i] (ci i))
   (hr:Rd w B 2 vr rs.length (iV rs)):mP w B (.mk k b n s id ks is rs) [.int .i64 k,.bool b,.int .i64 n,.string ⟨s.toArray⟩,.int .i64 id,vk,vi,vr]
def kN (w:World) (B:Nat) (v:Value) (xs:List Val):Prop := ∃ c:Nat→List Value,Row w B 8 v xs.length c∧∀ (i:Nat) (h:i < xs.length),mP w B xs[i] (c i)
theorem mP.keep {w w':World} {B B':Nat} {v:Val} {cs:List Value} (h:mP w B v cs) (hk:∀ p:Addr,p.block < B→w'.cell? p=w.cell? p) (hB:B≤B'):mP w' B' v cs:=by
 induction h with
 | mk k b n s id ks is rs vk vi vr ck ci hn hs hl kT h1 _ h2 _ h3 ih1 ih2 =>
  exact .mk k b n s id ks is rs vk vi vr ck ci hn hs hl kT ((h1.keep hk).mono hB) ih1 ((h2.keep hk).mono hB) ih2 ((h3.keep hk).mono hB)
theorem mP.on {w w':World} {v:Val} {cs:List Value} (h:mP w w.heap.size v cs) (hb:Below w.heap.size w w'):mP w' w'.heap.size v cs:=h.keep (fun _ hp => hb.cell hp) hb.size
theorem kN.keep {w w':World} {B B':Nat} {v:Value} {xs:List Val} (h:kN w B v xs) (hk:∀ p:Addr,p.block < B→w'.cell? p=w.cell? p) (hB:B≤B'):kN w' B' v xs:=by
 obtain ⟨c,h1,h2⟩:=h
 exact ⟨c,(h1.keep hk).mono hB,fun i hi => (h2 i hi).keep hk hB⟩
theorem kN.on {w w':World} {v:Value} {xs:List Val} (h:kN w w.heap.size v xs) (hb:Below w.heap.size w w'):kN w' w'.heap.size v xs:=h.keep (fun _ hp => hb.cell hp) hb.size
theorem kN.form {w:World} {B:Nat} {v:Value} {xs:List Val} (h:kN w B v xs):∃ A c,v = .slice A xs.length c∧xs.length≤c:=by
 obtain ⟨_,⟨A,c,h1,h2,_⟩,_⟩:=h
 exact ⟨A,c,h1,h2⟩
theorem kN.at_ {w:World} {B n cap:Nat} {A:Option Addr} {xs:List Val} (h:kN w B (.slice A n cap) xs) (hpos:0 < xs.length):∃ b o,A=some ⟨b,o,none⟩∧b < B∧∀ k (hk:k < xs.length),∃ cs,(∀ j u,cs[j]?=some u→w.cell? ⟨b,o+k*8+j,none⟩=some u)∧mP w B xs[k] cs:=by
 obtain ⟨c,⟨A',c',hv,hc,h2⟩,h3⟩:=h
 injection hv with h4 h5 h6
 subst h4
 rcases h2 with h2 | ⟨b,o,hA,hb,hcell⟩
 · omega
 exact ⟨b,o,hA,hb,fun k hk => ⟨c k,hcell k hk,h3 k hk⟩⟩
def Cells8 (w:World) (b o:Nat) (x:Val) (vk vi vr:Value):Prop :=
 w.cell? ⟨b,o,none⟩=some (.int .i64 x.kind)∧w.cell? ⟨b,o+1,none⟩=some (.bool x.bool)∧w.cell? ⟨b,o+2,none⟩=some (.int .i64 x.num)∧w.cell? ⟨b,o+3,none⟩=some (.string ⟨x.str.toArray⟩) ∧
 w.cell? ⟨b,o+4,none⟩=some (.int .i64 x.id)∧w.cell? ⟨b,o+5,none⟩=some vk∧w.cell? ⟨b,o+6,none⟩=some vi∧w.cell? ⟨b,o+7,none⟩=some vr
def iQ (x:Val) (vk vi vr:Value):List Value:=[.int .i64 x.kind,.bool x.bool,.int .i64 x.num,.string ⟨x.str.toArray⟩,.int .i64 x.id,vk,vi,vr]
structure ValAt (w:World) (B:Nat) (x:Val) (vk vi vr:Value):Prop where
 ints:I64 x.kind∧I64 x.num∧I64 x.id
 yP:x.str.length≤140737488351232
 I7:x.keys.length≤1172812402926∧x.items.length≤1172812402926∧x.rest.length≤5864062014634
 PS:∀ r ∈ x.rest,pV r
 keys:kN w B vk x.keys
 items:kN w B vi x.items
 rest:Rd w B 2 vr x.rest.length (iV x.rest)
theorem ValAt.lens {w:World} {B:Nat} {x:Val} {vk vi vr:Value} (h:ValAt w B x vk vi vr):x.keys.length≤140737488351232∧x.items.length≤140737488351232∧x.rest.length≤140737488351232:=by have:=h.I7;omega
theorem mP.inv {w:World} {B:Nat} {x:Val} {cs:List Value} (h:mP w B x cs):∃ vk vi vr,cs=iQ x vk vi vr∧ValAt w B x vk vi vr:=by
 cases h with
 | mk k b n s id ks is rs vk vi vr ck ci hn hs hl kT h1 h2 h3 h4 h5 => exact ⟨vk,vi,vr,rfl,hn,hs,hl,kT,⟨ck,h1,h2⟩,⟨ci,h3,h4⟩,h5⟩
theorem ValAt.forms {w:World} {B:Nat} {x:Val} {vk vi vr:Value} (h:ValAt w B x vk vi vr):∃ A1 c1 A2 c2 A3 c3,vk = .slice A1 x.keys.length c1∧vi = .slice A2 x.items.length c2∧vr = .slice A3 x.rest.length c3∧x.keys.length≤c1∧x.items.length≤c2∧x.rest.length≤c3:=by
 obtain ⟨A1,c1,e1,h1⟩:=h.keys.form
 obtain ⟨A2,c2,e2,h2⟩:=h.items.form
 obtain ⟨A3,c3,e3,h3⟩:=h.rest.form
 exact ⟨A1,c1,A2,c2,A3,c3,e1,e2,e3,h1,h2,h3⟩
theorem ValAt.rd {w:World} {B:Nat} {x:Val} {vk vi vr:Value} (h:ValAt w B x vk vi vr):mP w B x (iQ x vk vi vr):=by
 obtain ⟨hn,hs,hl,kT,⟨ck,h1,h2⟩,⟨ci,h3,h4⟩,h5⟩:=h
 cases x
 exact .mk _ _ _ _ _ _ _ _ vk vi vr ck ci hn hs hl kT h1 h2 h3 h4 h5
theorem ValAt.on {w w':World} {x:Val} {vk vi vr:Value} (h:ValAt w w.heap.size x vk vi vr) (hb:Below w.heap.size w w'):ValAt w' w'.heap.size x vk vi vr :=
 ⟨h.ints,h.yP,h.I7,h.PS,h.keys.on hb,h.items.on hb,(h.rest.below hb).mono hb.size⟩
theorem kN.elem {w:World} {B n cap:Nat} {A:Option Addr} {xs:List Val} (h:kN w B (.slice A n cap) xs) (hpos:0 < xs.length):∃ b o,A=some ⟨b,o,none⟩∧b < B∧∀ k (hk:k < xs.length),∃ vk vi vr,Cells8 w b (o+k*8) xs[k] vk vi vr∧ValAt w B xs[k] vk vi vr:=by
 obtain ⟨b,o,h1,h2,h3⟩:=h.at_ hpos
 refine ⟨b,o,h1,h2,fun k hk => ?_⟩
 obtain ⟨cs,hc,hr⟩:=h3 k hk
 obtain ⟨vk,vi,vr,rfl,hv⟩:=hr.inv
 exact ⟨vk,vi,vr,⟨hc 0 _ rfl,hc 1 _ rfl,hc 2 _ rfl,hc 3 _ rfl,hc 4 _ rfl,hc 5 _ rfl,hc 6 _ rfl,hc 7 _ rfl⟩,hv⟩
theorem Cells8.below {w w':World} {B b o:Nat} {x:Val} {vk vi vr:Value} (h:Cells8 w b o x vk vi vr) (hb:Below B w w') (hlt:b < B):Cells8 w' b o x vk vi vr:=by
 obtain ⟨h0,h1,h2,h3,h4,h5,h6,h7⟩:=h
 exact ⟨(hb.cell hlt).trans h0,(hb.cell hlt).trans h1,(hb.cell hlt).trans h2,(hb.cell hlt).trans h3,(hb.cell hlt).trans h4,(hb.cell hlt).trans h5,(hb.cell hlt).trans h6,(hb.cell hlt).trans h7⟩
end Go.Proofs.YthkfapcadhnaeaaGreatDoor
namespace Go.Proofs.YthkfapcadhnaeaaGreatDoor
open Go.ChangeShapes Go.WideShapes Go.ChangeAt Go.RowKit
abbrev iC (x:Val) (vk vi vr:Value):Value:=.agg #[.int .i64 x.kind,.bool x.bool,.int .i64 x.num,.string ⟨x.str.toArray⟩,.int .i64 x.id,vk,vi,vr]
theorem MX (x:Val):nodes x=l9 x.keys+l9 x.items+1:=by cases x;rw [nodes];rfl
end Go.Proofs.YthkfapcadhnaeaaGreatDoor
namespace Go.Proofs.YthkfapcadhnaeaaGreatDoor
open Go.ChangeShapes Go.WideShapes Go.ChangeAt Go.RowKit
def CV:List Raw→Int→Int
 | [],n => n
 | r :: rs,n => if n < 0 then n else CV rs (n - r.2.length)
mutual
def AA:Val→Int→Int
 | .mk _ _ _ s _ ks is rs,n => uy is (uy ks (CV rs (n - (10+s.length+rs.length))))
def uy:List Val→Int→Int
 | [],n => n
 | x :: r,n => if n < 0 then n else uy r (AA x n)
end
theorem VA (rs:List Raw):∀ n,CV rs n≤n:=by
 induction rs with
 | nil => intro n;exact Int.le_refl _
 | cons r rs ih =>
  intro n
  rw [CV]
  split
  · omega
  have:=ih (n - r.2.length);omega
mutual
theorem WU:∀ (x:Val) (n:Int),AA x n≤n - 10∧(0≤AA x n→10*(nodes x:Int)≤n - AA x n)
 | .mk _ _ _ s _ ks is rs,n => by
  rw [AA,nodes]
  have h1:=VA rs (n - (10+s.length+rs.length))
  have h2:=tq ks (CV rs (n - (10+s.length+rs.length)))
  have h3:=tq is (uy ks (CV rs (n - (10+s.length+rs.length))))
  refine ⟨by omega,fun h => ?_⟩
  have h4:=h3.2 h
  have h5:=h2.2 (by omega)
  omega
theorem tq:∀ (l:List Val) (n:Int),uy l n≤n∧(0≤uy l n→10*(l9 l:Int)≤n - uy l n)
 | [],n => by rw [uy,l9];omega
 | x :: r,n => by
  rw [uy,l9]
  split
  · omega
  have h1:=WU x n
  have h2:=tq r (AA x n)
  refine ⟨by omega,fun h => ?_⟩
  have h3:=h2.2 h
  have h4:=h1.2 (by omega)
  omega
end
theorem nP {w:World} {b o:Nat} {rs:List Raw} (hcell:∀ j u,(iV rs)[j]?=some u→w.cell? ⟨b,o+j,none⟩=some u) (k:Nat) (h:k < rs.length) :
  w.cell? ⟨b,o+k*2,none⟩=some (.int .i64 rs[k].1)∧w.cell? ⟨b,o+k*2+1,none⟩=some (.string ⟨rs[k].2.toArray⟩) :=
 ⟨hcell (k*2) _ (flat_get H6 rs k 0 h (by omega)),hcell (k*2+1) _ (flat_get H6 rs k 1 h (by omega))⟩
end Go.Proofs.YthkfapcadhnaeaaGreatDoor

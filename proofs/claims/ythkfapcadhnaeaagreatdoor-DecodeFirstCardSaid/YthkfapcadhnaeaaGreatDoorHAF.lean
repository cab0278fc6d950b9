/- Small words that carry facts on blocks from world to world. Steps of regions that draw: a store of a whole block. What slices.Clone computes for values and for unknown parts. What slices.Clone computes for integers. Two rows of one-cell elements that a call owns, and appends to them within a region that draws. No condition. -/
import Derived.Test.YthkfapcadhnaeaaGreatDoorHAA
import Derived.Deep.RegionHeld3
import Derived.Deep.RegionWith
import Derived.Deep.Cut
import Derived.Deep.DeepCutAuto
import Derived.Laws.Tables
import Derived.Deep.AppendLies
import Derived.Laws.CopyOwn
import Derived.IntWalk
import Derived.Deep.CutBlock
import Derived.Test.YthkfapcadhnaeaaGreatDoorHAD
set_option maxHeartbeats 800000
namespace Go.Proofs.YthkfapcadhnaeaaGreatDoor
open Go.ChangeShapes Go.WideShapes Go.ChangeAt Go.RowKit
theorem Has.c8 {w:World} {g:Nat} {T:TypeId} {a0 a1 a2 a3 a4 a5 a6 a7:Value} (h:Has w g T #[a0,a1,a2,a3,a4,a5,a6,a7]):w.cell? ⟨g,0,none⟩=some a0∧w.cell? ⟨g,1,none⟩=some a1∧w.cell? ⟨g,2,none⟩=some a2∧w.cell? ⟨g,3,none⟩=some a3∧w.cell? ⟨g,4,none⟩=some a4∧w.cell? ⟨g,5,none⟩=some a5∧w.cell? ⟨g,6,none⟩=some a6∧w.cell? ⟨g,7,none⟩=some a7 :=
 ⟨h.cell 0,h.cell 1,h.cell 2,h.cell 3,h.cell 4,h.cell 5,h.cell 6,h.cell 7⟩
theorem Has.c10 {w:World} {g:Nat} {T:TypeId} {a0 a1 a2 a3 a4 a5 a6 a7 a8 a9:Value} (h:Has w g T #[a0,a1,a2,a3,a4,a5,a6,a7,a8,a9]):w.cell? ⟨g,0,none⟩=some a0∧w.cell? ⟨g,1,none⟩=some a1∧w.cell? ⟨g,2,none⟩=some a2∧w.cell? ⟨g,3,none⟩=some a3∧w.cell? ⟨g,4,none⟩=some a4∧w.cell? ⟨g,5,none⟩=some a5∧w.cell? ⟨g,6,none⟩=some a6∧w.cell? ⟨g,7,none⟩=some a7∧w.cell? ⟨g,8,none⟩=some a8∧w.cell? ⟨g,9,none⟩=some a9 :=
 ⟨h.cell 0,h.cell 1,h.cell 2,h.cell 3,h.cell 4,h.cell 5,h.cell 6,h.cell 7,h.cell 8,h.cell 9⟩
theorem Has.c13 {w:World} {g:Nat} {T:TypeId} {a0 a1 a2 a3 a4 a5 a6 a7 a8 a9 a10 a11 a12:Value} (h:Has w g T #[a0,a1,a2,a3,a4,a5,a6,a7,a8,a9,a10,a11,a12]):w.cell? ⟨g,0,none⟩=some a0∧w.cell? ⟨g,1,none⟩=some a1∧w.cell? ⟨g,2,none⟩=some a2∧w.cell? ⟨g,3,none⟩=some a3∧w.cell? ⟨g,4,none⟩=some a4∧w.cell? ⟨g,5,none⟩=some a5∧w.cell? ⟨g,6,none⟩=some a6∧w.cell? ⟨g,7,none⟩=some a7∧w.cell? ⟨g,8,none⟩=some a8∧w.cell? ⟨g,9,none⟩=some a9∧w.cell? ⟨g,10,none⟩=some a10∧w.cell? ⟨g,11,none⟩=some a11∧w.cell? ⟨g,12,none⟩=some a12 :=
 ⟨h.cell 0,h.cell 1,h.cell 2,h.cell 3,h.cell 4,h.cell 5,h.cell 6,h.cell 7,h.cell 8,h.cell 9,h.cell 10,h.cell 11,h.cell 12⟩
theorem mJ (w:World) (o:Obj):(w.alloc o).heap.size=w.heap.size+1:=by simp
theorem Nl {B:Nat} {a w:World} (h:Below B a w) (hs:B≤a.heap.size) (o:Obj):Below B a (w.alloc o):=h.alloc (Nat.le_trans hs h.size) o
theorem QY {B g:Nat} {a w:World} (h:Below B a w) (hB:B≤g) (i:Nat) (u:Value):Below B a (w.setCell ⟨g,i,none⟩ u):=h.setCell (p:=⟨g,i,none⟩) hB u
theorem kR {w:World} {g k:Nat} {T:TypeId} {cs cs':Array Value} (h:Has w g T cs) (hne:g≠k):Has (w.setRow k cs') g T cs:=(setRow_other _ _ _ _ hne).trans h
theorem iU {w:World} {g:Nat} {T:TypeId} {cs:Array Value} (h:Has w g T cs) (cs':Array Value):Has (w.setRow g cs') g T cs':=setRow_heap w g cs cs' T (0,0) h
theorem aF {w:World} {base:Nat} {e:TypeId} {size n:Nat} {v:Value} {xs:List Value} (h:w.ownsRow base e size v n xs):∃ A c,v = .slice A n c:=by
 obtain ⟨_,h2⟩:=h
 rcases h2 with ⟨rfl,rfl⟩ | ⟨g,cap,cur,rfl,_⟩
 · exact ⟨_,_,rfl⟩
 exact ⟨_,_,rfl⟩
theorem ru {w:World} {base:Nat} {e:TypeId} {n:Nat} {v:Value} {xs:List Value} (h:w.ownsRow base e 1 v n xs) (hn:0 < n):∃ g c,v = .slice (some ⟨g,0,none⟩) n c∧base≤g∧g < w.heap.size∧n≤c∧∀ (j:Nat) (u:Value),xs[j]?=some u→w.cell? ⟨g,j,none⟩=some u:=by
 have h0:=h
 obtain ⟨_,h2⟩:=h
 rcases h2 with ⟨rfl,rfl⟩ | ⟨g,cap,cur,rfl,hb,hh,hc,_⟩
 · omega
 refine ⟨g,cap,rfl,hb,?_,hc,fun j u hu => ?_⟩
 ·
  rcases Nat.lt_or_ge g w.heap.size with h3 | h3
  · exact h3
  rw [Array.getElem?_eq_none h3] at hh;cases hh
 have:=h0.cells (g:=g) rfl j u hu
 have e:(⟨g,0,none⟩ : Addr).add j=⟨g,j,none⟩:=by unfold Addr.add;split <;> simp_all
 rwa [e] at this
theorem gW {P:Program} {ops:Array Oper} {rest:List Oper} {o:Oper} {a:Act} {Q:Exit→Act→World→Prop} (hgd:o.guard=none) (s x:Operand) (t:TypeId)
  (ho:o.op = .call { callee:=.builtin .append,args:=#[s,x],argTypes:=#[t,t] })
  (base:Nat) (e:TypeId) (z:Value) (size bytes:Nat) (ht:P.underlying t=some (.slice e)) (hinfo:(P.info? e).map (fun i => (i.zero,i.size,i.bytes))=some (some z,size,bytes)) (hzs:z.cells.size=size) (hsz:0 < size)
  (v:Value) (n:Nat) (xs:List Value) (hs:a.eval s=v) {W:World} (hown:W.ownsRow base e size v n xs) (news:List Value) (te:TypeId) (c g0:Nat)
  (hx:a.eval x = .slice (some ⟨g0,0,none⟩) 1 c) (hg:g0=W.heap.size) (hl:news.length=size) (h1:∀ u ∈ news,u.oneCell'=true) (hsmall:n < 8000000000000) (hby:(n+1)*bytes≤140737488355328) (hbase:base≤W.heap.size)
  (h:∀ g cap w',w'.ownsRow base e size (.slice (some ⟨g,0,none⟩) (n+1) cap) (n+1) (xs ++ news)→(W.alloc (.cells news.toArray te)).grownBy w' v.ownBlock→(v.ownBlock=some g∨g=W.heap.size+1)→Below base W w'→wpList P ops Q rest (a.put o.dst (.slice (some ⟨g,0,none⟩) (n+1) cap)) w'):wpList P ops Q (o :: rest) a (W.alloc (.cells news.toArray te)):=by
 subst hg
 obtain ⟨i0,hi,hz0,hz1,hz2⟩:=info_parts hinfo
 refine wpList_append_lies _ hgd s x t ho base e i0 z size bytes ht hi hz0 hz1 hz2 hzs hsz v n xs hs (hown.alloc _) ⟨W.heap.size,0,none⟩ 1 c news hx (by omega) ?_ h1 (by omega) (by simp only [maxLen];omega) ?_ (by simp;omega) (W.heap.size+1) (by simp) ?_
 ·
  intro j u hu
  have hj:(⟨W.heap.size,0,none⟩ : Addr).add j=⟨W.heap.size,j,none⟩:=by unfold Addr.add;split <;> simp_all
  rw [hj]
  simp only [World.cell?,QO]
  simpa using hu
 · omega
 intro g cap w' h2 h3 h4 _
 exact h g cap w' h2 h3 h4 (grown_below hown hbase h3)
structure Kept (P:World→Prop) (w:World) (L B:Nat):Prop where
 now:P w
 st:∀ w',(∀ k:Nat,L≤k→k < B→w'.heap[k]?=w.heap[k]?)→P w'
 le:B≤w.heap.size
theorem Kept.move {P:World→Prop} {w w':World} {L B:Nat} (h:Kept P w L B) (hk:∀ k:Nat,L≤k→k < B→w'.heap[k]?=w.heap[k]?) (hs:w.heap.size≤w'.heap.size):Kept P w' L B :=
 ⟨h.st w' hk,fun w2 h2 => h.st w2 fun p hl hp => (h2 p hl hp).trans (hk p hl hp),Nat.le_trans h.le hs⟩
theorem Kept.on {P:World→Prop} {w w':World} {L B:Nat} (h:Kept P w L B) (hb:Below w.heap.size w w'):Kept P w' L B :=
 h.move (fun _ _ hp => hb.block _ (Nat.lt_of_lt_of_le hp h.le)) hb.size
theorem Kept.EL {P:World→Prop} {w w':World} {L B C:Nat} (h:Kept P w L B) (hb:Below C w w') (hc:B≤C):Kept P w' L B :=
 h.move (fun _ _ hp => hb.block _ (Nat.lt_of_lt_of_le hp hc)) hb.size
theorem Kept.set {P:World→Prop} {w:World} {L B:Nat} (h:Kept P w L B) (g:Nat) (hg:B≤g∨g < L) (i:Nat) (u:Value):Kept P (w.setCell ⟨g,i,none⟩ u) L B :=
 h.move (fun k hl hk => Below.heap_setCell w ⟨g,i,none⟩ u k (by show k≠g;omega)) (by simp [World.setCell])
theorem Kept.row {P:World→Prop} {w:World} {L B:Nat} (h:Kept P w L B) (g:Nat) (hg:B≤g∨g < L) (cs:Array Value):Kept P (w.setRow g cs) L B :=
 h.move (fun k hl hk => setRow_other _ _ _ _ (by omega)) (by simp)
theorem Np {w w':World} {base:Nat} {e:TypeId} {size n:Nat} {v:Value} {xs:List Value} (h:w.ownsRow base e size v n xs) (hk:∀ k:Nat,base≤k→k < w.heap.size→w'.heap[k]?=w.heap[k]?):w'.ownsRow base e size v n xs:=by
 obtain ⟨h1,h2⟩:=h
 refine ⟨h1,?_⟩
 rcases h2 with h2 | ⟨g,cap,cur,hv,hb,hh,h3⟩
 · exact .inl h2
 refine .inr ⟨g,cap,cur,hv,hb,?_,h3⟩
 rw [hk g hb,hh]
 rcases Nat.lt_or_ge g w.heap.size with h4 | h4
 · exact h4
 rw [Array.getElem?_eq_none h4] at hh;cases hh
theorem Kept.own {w:World} {base:Nat} {e:TypeId} {size n:Nat} {v:Value} {xs:List Value} (h:w.ownsRow base e size v n xs):Kept (fun w => w.ownsRow base e size v n xs) w base w.heap.size :=
 ⟨h,fun _ hk => Np h hk,Nat.le_refl _⟩
theorem Kept.rd {P:World→Nat→Prop} {w:World} {B:Nat} (h:P w B) (hB:B≤w.heap.size) (hk:∀ w',(∀ p:Addr,p.block < B→w'.cell? p=w.cell? p)→P w' B):Kept (fun w => P w B) w 0 B :=
 ⟨h,fun w' h2 => hk w' fun p hp => World.cell?_of_block (h2 p.block (Nat.zero_le _) hp),hB⟩
section
variable {w w' w0:World} {g g' i L B:Nat} {T T':TypeId} {cs cs':Array Value} {P:World→Prop} {v:Value} {o:Obj}
theorem dB (h:Hid (Has w g T cs)) (hb:Below w.heap.size w w'):Hid (Has w' g T cs):=h.out.below hb h.out.here
theorem dK (h:Hid (Kept P w L B)) (hb:Below w.heap.size w w'):Hid (Kept P w' L B):=h.out.on hb
theorem dT (h:Below w0.heap.size w0 w) (hb:Below w.heap.size w w'):Below w0.heap.size w0 w':=h.trans (hb.mono h.size)
theorem aB (h:w'=w.alloc o):Below w.heap.size w w':=by rw [h];exact Nl (Below.refl _ _) (Nat.le_refl _) _
theorem aN (h:w'=w.alloc (.cells cs T)):Hid (Has w' w.heap.size T cs):=by rw [h];exact Has.made w T cs
theorem aZ {n:Nat} (h:w'=w.alloc o) (hn:w.heap.size=n):w'.heap.size=n+1:=by rw [h,mJ,hn]
theorem aM {n:Nat} (h:w'=w.alloc (.cells cs T)) (hn:w.heap.size=n):Hid (Has w' n T cs):=hn ▸ aN h
theorem dF (h:Hid (Has w g T cs)) (hE:w'=w.setCell ⟨g',i,none⟩ v) (hn:g≠g'):Hid (Has w' g T cs):=by rw [hE];exact h.out.far (p:=⟨g',i,none⟩) hn v
theorem dS (h:Hid (Has w g T cs)) (hE:w'=w.setCell ⟨g,i,none⟩ v):Has w' g T (cs.setIfInBounds i v):=by rw [hE];exact h.out.set i v
theorem dR (h:Hid (Has w g T cs)) (hE:w'=w.setRow g' cs') (hn:g≠g'):Hid (Has w' g T cs):=by rw [hE];exact kR h.out hn
theorem dO (h:Hid (Has w g T cs)) (hE:w'=w.setRow g cs'):Hid (Has w' g T cs'):=by rw [hE];exact iU h.out _
theorem tF (h:Below w0.heap.size w0 w) (hE:w'=w.setCell ⟨g',i,none⟩ v) (hn:w0.heap.size≤g'):Below w0.heap.size w0 w':=by rw [hE];exact QY h hn i v
theorem tR (h:Below w0.heap.size w0 w) (hE:w'=w.setRow g' cs') (hn:w0.heap.size≤g'):Below w0.heap.size w0 w':=by rw [hE];exact below_setRow h hn cs'
theorem dG {row:Option Nat} (h:Hid (Has w g T cs)) (hk:∀ k,k < w.heap.size→row≠some k→w'.heap[k]?=w.heap[k]?) (hn:row≠some g):Hid (Has w' g T cs):=(hk g h.out.here hn).trans h.out
theorem d8 {R:Prop} {a0 a1 a2 a3 a4 a5 a6 a7:Value} (h:Hid (Has w g T #[a0,a1,a2,a3,a4,a5,a6,a7])) (r:R):w.cell? ⟨g,0,none⟩=some a0∧w.cell? ⟨g,1,none⟩=some a1∧w.cell? ⟨g,2,none⟩=some a2∧w.cell? ⟨g,3,none⟩=some a3∧w.cell? ⟨g,4,none⟩=some a4∧w.cell? ⟨g,5,none⟩=some a5∧w.cell? ⟨g,6,none⟩=some a6∧w.cell? ⟨g,7,none⟩=some a7∧R :=
 ⟨h.out.cell 0,h.out.cell 1,h.out.cell 2,h.out.cell 3,h.out.cell 4,h.out.cell 5,h.out.cell 6,h.out.cell 7,r⟩
theorem Has.e0 {a0:Value} {r:List Value} (h:Has w g T (a0 :: r).toArray):w.cell? ⟨g,0,none⟩=some a0:=h.cell 0
theorem Has.e1 {a0 a1:Value} {r:List Value} (h:Has w g T (a0 :: a1 :: r).toArray):w.cell? ⟨g,1,none⟩=some a1:=h.cell 1
theorem Has.e2 {a0 a1 a2:Value} {r:List Value} (h:Has w g T (a0 :: a1 :: a2 :: r).toArray):w.cell? ⟨g,2,none⟩=some a2:=h.cell 2
theorem Has.e3 {a0 a1 a2 a3:Value} {r:List Value} (h:Has w g T (a0 :: a1 :: a2 :: a3 :: r).toArray):w.cell? ⟨g,3,none⟩=some a3:=h.cell 3
theorem Has.e4 {a0 a1 a2 a3 a4:Value} {r:List Value} (h:Has w g T (a0 :: a1 :: a2 :: a3 :: a4 :: r).toArray):w.cell? ⟨g,4,none⟩=some a4:=h.cell 4
theorem Has.e5 {a0 a1 a2 a3 a4 a5:Value} {r:List Value} (h:Has w g T (a0 :: a1 :: a2 :: a3 :: a4 :: a5 :: r).toArray):w.cell? ⟨g,5,none⟩=some a5:=h.cell 5
theorem Has.e6 {a0 a1 a2 a3 a4 a5 a6:Value} {r:List Value} (h:Has w g T (a0 :: a1 :: a2 :: a3 :: a4 :: a5 :: a6 :: r).toArray):w.cell? ⟨g,6,none⟩=some a6:=h.cell 6
theorem Has.e7 {a0 a1 a2 a3 a4 a5 a6 a7:Value} {r:List Value} (h:Has w g T (a0 :: a1 :: a2 :: a3 :: a4 :: a5 :: a6 :: a7 :: r).toArray):w.cell? ⟨g,7,none⟩=some a7:=h.cell 7
theorem Has.e8 {a0 a1 a2 a3 a4 a5 a6 a7 a8:Value} {r:List Value} (h:Has w g T (a0 :: a1 :: a2 :: a3 :: a4 :: a5 :: a6 :: a7 :: a8 :: r).toArray):w.cell? ⟨g,8,none⟩=some a8:=h.cell 8
theorem Has.e9 {a0 a1 a2 a3 a4 a5 a6 a7 a8 a9:Value} {r:List Value} (h:Has w g T (a0 :: a1 :: a2 :: a3 :: a4 :: a5 :: a6 :: a7 :: a8 :: a9 :: r).toArray):w.cell? ⟨g,9,none⟩=some a9:=h.cell 9
theorem Has.c2 {a0 a1:Value} (h:Has w g T #[a0,a1]):w.cell? ⟨g,0,none⟩=some a0∧w.cell? ⟨g,1,none⟩=some a1:=⟨h.cell 0,h.cell 1⟩
theorem Has.c3 {a0 a1 a2:Value} (h:Has w g T #[a0,a1,a2]):w.cell? ⟨g,0,none⟩=some a0∧w.cell? ⟨g,1,none⟩=some a1∧w.cell? ⟨g,2,none⟩=some a2:=⟨h.cell 0,h.cell 1,h.cell 2⟩
theorem Has.c11 {a0 a1 a2 a3 a4 a5 a6 a7 a8 a9 a10:Value} (h:Has w g T #[a0,a1,a2,a3,a4,a5,a6,a7,a8,a9,a10]):w.cell? ⟨g,0,none⟩=some a0∧w.cell? ⟨g,1,none⟩=some a1∧w.cell? ⟨g,2,none⟩=some a2∧w.cell? ⟨g,3,none⟩=some a3∧w.cell? ⟨g,4,none⟩=some a4∧w.cell? ⟨g,5,none⟩=some a5∧w.cell? ⟨g,6,none⟩=some a6∧w.cell? ⟨g,7,none⟩=some a7∧w.cell? ⟨g,8,none⟩=some a8∧w.cell? ⟨g,9,none⟩=some a9∧w.cell? ⟨g,10,none⟩=some a10:=⟨h.cell 0,h.cell 1,h.cell 2,h.cell 3,h.cell 4,h.cell 5,h.cell 6,h.cell 7,h.cell 8,h.cell 9,h.cell 10⟩
theorem IJ {a0:Value} {r:List Value} (h:Hid (Has w g T (a0 :: r).toArray)) (hE:w.setCell ⟨g,0,none⟩ v=w'):Hid (Has w' g T (v :: r).toArray):=Lib.hid (by simpa using dS h hE.symm)
theorem yC {a0 a1:Value} {r:List Value} (h:Hid (Has w g T (a0 :: a1 :: r).toArray)) (hE:w.setCell ⟨g,1,none⟩ v=w'):Hid (Has w' g T (a0 :: v :: r).toArray):=Lib.hid (by simpa using dS h hE.symm)
theorem dS2 {a0 a1 a2:Value} {r:List Value} (h:Hid (Has w g T (a0 :: a1 :: a2 :: r).toArray)) (hE:w.setCell ⟨g,2,none⟩ v=w'):Hid (Has w' g T (a0 :: a1 :: v :: r).toArray):=Lib.hid (by simpa using dS h hE.symm)
theorem dS3 {a0 a1 a2 a3:Value} {r:List Value} (h:Hid (Has w g T (a0 :: a1 :: a2 :: a3 :: r).toArray)) (hE:w.setCell ⟨g,3,none⟩ v=w'):Hid (Has w' g T (a0 :: a1 :: a2 :: v :: r).toArray):=Lib.hid (by simpa using dS h hE.symm)
theorem Jk {a0 a1 a2 a3 a4:Value} {r:List Value} (h:Hid (Has w g T (a0 :: a1 :: a2 :: a3 :: a4 :: r).toArray)) (hE:w.setCell ⟨g,4,none⟩ v=w'):Hid (Has w' g T (a0 :: a1 :: a2 :: a3 :: v :: r).toArray):=Lib.hid (by simpa using dS h hE.symm)
theorem Xe {a0 a1 a2 a3 a4 a5:Value} {r:List Value} (h:Hid (Has w g T (a0 :: a1 :: a2 :: a3 :: a4 :: a5 :: r).toArray)) (hE:w.setCell ⟨g,5,none⟩ v=w'):Hid (Has w' g T (a0 :: a1 :: a2 :: a3 :: a4 :: v :: r).toArray):=Lib.hid (by simpa using dS h hE.symm)
theorem uf {a0 a1 a2 a3 a4 a5 a6:Value} {r:List Value} (h:Hid (Has w g T (a0 :: a1 :: a2 :: a3 :: a4 :: a5 :: a6 :: r).toArray)) (hE:w.setCell ⟨g,6,none⟩ v=w'):Hid (Has w' g T (a0 :: a1 :: a2 :: a3 :: a4 :: a5 :: v :: r).toArray):=Lib.hid (by simpa using dS h hE.symm)
theorem U5 {a0 a1 a2 a3 a4 a5 a6 a7:Value} {r:List Value} (h:Hid (Has w g T (a0 :: a1 :: a2 :: a3 :: a4 :: a5 :: a6 :: a7 :: r).toArray)) (hE:w.setCell ⟨g,7,none⟩ v=w'):Hid (Has w' g T (a0 :: a1 :: a2 :: a3 :: a4 :: a5 :: a6 :: v :: r).toArray):=Lib.hid (by simpa using dS h hE.symm)
theorem Vu {a0 a1 a2 a3 a4 a5 a6 a7 a8:Value} {r:List Value} (h:Hid (Has w g T (a0 :: a1 :: a2 :: a3 :: a4 :: a5 :: a6 :: a7 :: a8 :: r).toArray)) (hE:w.setCell ⟨g,8,none⟩ v=w'):Hid (Has w' g T (a0 :: a1 :: a2 :: a3 :: a4 :: a5 :: a6 :: a7 :: v :: r).toArray):=Lib.hid (by simpa using dS h hE.symm)
theorem DX {a0 a1 a2 a3 a4 a5 a6 a7 a8 a9:Value} {r:List Value} (h:Hid (Has w g T (a0 :: a1 :: a2 :: a3 :: a4 :: a5 :: a6 :: a7 :: a8 :: a9 :: r).toArray)) (hE:w.setCell ⟨g,9,none⟩ v=w'):Hid (Has w' g T (a0 :: a1 :: a2 :: a3 :: a4 :: a5 :: a6 :: a7 :: a8 :: v :: r).toArray):=Lib.hid (by simpa using dS h hE.symm)
theorem bH (h:w.alloc (.cells cs T)=w'):Below w.heap.size w w'∧Hid (Has w' w.heap.size T cs):=⟨aB h.symm,aN h.symm⟩
theorem dN {w1:World} (h:w.alloc (.cells cs T)=w1) (h2:w1.alloc (.cells cs' T')=w'):Below w.heap.size w w'∧Hid (Has w' w.heap.size T cs)∧Hid (Has w' (w.heap.size+1) T' cs'):=⟨dT (aB h.symm) (aB h2.symm),dB (aN h.symm) (aB h2.symm),aM h2.symm (aZ h.symm rfl)⟩
theorem an3 {w1 w2:World} {cs2:Array Value} {T2:TypeId} (h:w.alloc (.cells cs T)=w1) (h2:w1.alloc (.cells cs' T')=w2) (h3:w2.alloc (.cells cs2 T2)=w'):Below w.heap.size w w'∧Hid (Has w' w.heap.size T cs)∧Hid (Has w' (w.heap.size+1) T' cs')∧Hid (Has w' (w.heap.size+1+1) T2 cs2) :=
 ⟨dT (dN h h2).1 (aB h3.symm),dB (dN h h2).2.1 (aB h3.symm),dB (dN h h2).2.2 (aB h3.symm),aM h3.symm (aZ h2.symm (aZ h.symm rfl))⟩
theorem tf (h:Below w0.heap.size w0 w) (hE:w.setCell ⟨g',i,none⟩ v=w') (hn:w0.heap.size≤g':=by omega):Below w0.heap.size w0 w':=tF h hE.symm hn
theorem tr (h:Below w0.heap.size w0 w) (hE:w.setRow g' cs'=w') (hn:w0.heap.size≤g':=by omega):Below w0.heap.size w0 w':=tR h hE.symm hn
theorem aK (h:Hid (Has w g T cs)) (hE:w.setRow g cs'=w'):Hid (Has w' g T cs'):=dO h hE.symm
class fC (w w':World) (A:Prop) (B:outParam Prop):Prop where
 out:Below w.heap.size w w'→A→B
instance ata:fC w w' (Has w g T cs) (Has w' g T cs):=⟨fun hb h => (dB (Lib.hid h) hb).out⟩
instance atb:fC w w' (Kept P w L B) (Kept P w' L B):=⟨fun hb h => (dK (Lib.hid h) hb).out⟩
structure Jy (w w':World) (g:Nat):Prop where
 blk:∀ k,k≠g→w'.heap[k]?=w.heap[k]?
 sz:w.heap.size≤w'.heap.size
theorem eF (h:w.setCell ⟨g,i,none⟩ v=w'):Jy w w' g:=by subst h;exact ⟨fun k hk => Below.heap_setCell w ⟨g,i,none⟩ v k hk,by simp [World.setCell]⟩
theorem eR (h:w.setRow g cs=w'):Jy w w' g:=by subst h;exact ⟨fun k hk => setRow_other _ _ _ _ hk,by simp⟩
class ig (w w':World) (g':Nat) (A:Prop) (B C:outParam Prop):Prop where
 out:Jy w w' g'→C→A→B
instance atc:ig w w' g' (Has w g T cs) (Has w' g T cs) (g≠g'):=⟨fun e hn h => (e.blk g hn).trans h⟩
instance atd:ig w w' g' (Kept P w L B) (Kept P w' L B) (B≤g'∨g' < L):=⟨fun e hn h => ⟨h.st w' (fun k h1 h2 => e.blk k (by omega)),fun w2 hk => h.st w2 (fun k h1 h2 => (hk k h1 h2).trans (e.blk k (by omega))),Nat.le_trans h.le e.sz⟩⟩
theorem b1 {A1 B1:Prop} [fC w w' A1 B1] (h1:Hid A1) (hb:Below w.heap.size w w'):Hid B1:=Lib.hid (fC.out hb h1.out)
theorem b2 {A1 B1 A2 B2:Prop} [fC w w' A1 B1] [fC w w' A2 B2] (h1:Hid A1) (h2:Hid A2) (hb:Below w.heap.size w w'):Hid B1∧Hid B2:=⟨Lib.hid (fC.out hb h1.out),Lib.hid (fC.out hb h2.out)⟩
theorem b3 {A1 B1 A2 B2 A3 B3:Prop} [fC w w' A1 B1] [fC w w' A2 B2] [fC w w' A3 B3] (h1:Hid A1) (h2:Hid A2) (h3:Hid A3) (hb:Below w.heap.size w w'):Hid B1∧Hid B2∧Hid B3:=⟨Lib.hid (fC.out hb h1.out),Lib.hid (fC.out hb h2.out),Lib.hid (fC.out hb h3.out)⟩
theorem b4 {A1 B1 A2 B2 A3 B3 A4 B4:Prop} [fC w w' A1 B1] [fC w w' A2 B2] [fC w w' A3 B3] [fC w w' A4 B4] (h1:Hid A1) (h2:Hid A2) (h3:Hid A3) (h4:Hid A4) (hb:Below w.heap.size w w'):Hid B1∧Hid B2∧Hid B3∧Hid B4:=⟨Lib.hid (fC.out hb h1.out),Lib.hid (fC.out hb h2.out),Lib.hid (fC.out hb h3.out),Lib.hid (fC.out hb h4.out)⟩
theorem b5 {A1 B1 A2 B2 A3 B3 A4 B4 A5 B5:Prop} [fC w w' A1 B1] [fC w w' A2 B2] [fC w w' A3 B3] [fC w w' A4 B4] [fC w w' A5 B5] (h1:Hid A1) (h2:Hid A2) (h3:Hid A3) (h4:Hid A4) (h5:Hid A5) (hb:Below w.heap.size w w'):Hid B1∧Hid B2∧Hid B3∧Hid B4∧Hid B5:=⟨Lib.hid (fC.out hb h1.out),Lib.hid (fC.out hb h2.out),Lib.hid (fC.out hb h3.out),Lib.hid (fC.out hb h4.out),Lib.hid (fC.out hb h5.out)⟩
theorem b6 {A1 B1 A2 B2 A3 B3 A4 B4 A5 B5 A6 B6:Prop} [fC w w' A1 B1] [fC w w' A2 B2] [fC w w' A3 B3] [fC w w' A4 B4] [fC w w' A5 B5] [fC w w' A6 B6] (h1:Hid A1) (h2:Hid A2) (h3:Hid A3) (h4:Hid A4) (h5:Hid A5) (h6:Hid A6) (hb:Below w.heap.size w w'):Hid B1∧Hid B2∧Hid B3∧Hid B4∧Hid B5∧Hid B6:=⟨Lib.hid (fC.out hb h1.out),Lib.hid (fC.out hb h2.out),Lib.hid (fC.out hb h3.out),Lib.hid (fC.out hb h4.out),Lib.hid (fC.out hb h5.out),Lib.hid (fC.out hb h6.out)⟩
theorem b7 {A1 B1 A2 B2 A3 B3 A4 B4 A5 B5 A6 B6 A7 B7:Prop} [fC w w' A1 B1] [fC w w' A2 B2] [fC w w' A3 B3] [fC w w' A4 B4] [fC w w' A5 B5] [fC w w' A6 B6] [fC w w' A7 B7] (h1:Hid A1) (h2:Hid A2) (h3:Hid A3) (h4:Hid A4) (h5:Hid A5) (h6:Hid A6) (h7:Hid A7) (hb:Below w.heap.size w w'):Hid B1∧Hid B2∧Hid B3∧Hid B4∧Hid B5∧Hid B6∧Hid B7:=⟨Lib.hid (fC.out hb h1.out),Lib.hid (fC.out hb h2.out),Lib.hid (fC.out hb h3.out),Lib.hid (fC.out hb h4.out),Lib.hid (fC.out hb h5.out),Lib.hid (fC.out hb h6.out),Lib.hid (fC.out hb h7.out)⟩
theorem b8 {A1 B1 A2 B2 A3 B3 A4 B4 A5 B5 A6 B6 A7 B7 A8 B8:Prop} [fC w w' A1 B1] [fC w w' A2 B2] [fC w w' A3 B3] [fC w w' A4 B4] [fC w w' A5 B5] [fC w w' A6 B6] [fC w w' A7 B7] [fC w w' A8 B8] (h1:Hid A1) (h2:Hid A2) (h3:Hid A3) (h4:Hid A4) (h5:Hid A5) (h6:Hid A6) (h7:Hid A7) (h8:Hid A8) (hb:Below w.heap.size w w'):Hid B1∧Hid B2∧Hid B3∧Hid B4∧Hid B5∧Hid B6∧Hid B7∧Hid B8:=⟨Lib.hid (fC.out hb h1.out),Lib.hid (fC.out hb h2.out),Lib.hid (fC.out hb h3.out),Lib.hid (fC.out hb h4.out),Lib.hid (fC.out hb h5.out),Lib.hid (fC.out hb h6.out),Lib.hid (fC.out hb h7.out),Lib.hid (fC.out hb h8.out)⟩
theorem b9 {A1 B1 A2 B2 A3 B3 A4 B4 A5 B5 A6 B6 A7 B7 A8 B8 A9 B9:Prop} [fC w w' A1 B1] [fC w w' A2 B2] [fC w w' A3 B3] [fC w w' A4 B4] [fC w w' A5 B5] [fC w w' A6 B6] [fC w w' A7 B7] [fC w w' A8 B8] [fC w w' A9 B9] (h1:Hid A1) (h2:Hid A2) (h3:Hid A3) (h4:Hid A4) (h5:Hid A5) (h6:Hid A6) (h7:Hid A7) (h8:Hid A8) (h9:Hid A9) (hb:Below w.heap.size w w'):Hid B1∧Hid B2∧Hid B3∧Hid B4∧Hid B5∧Hid B6∧Hid B7∧Hid B8∧Hid B9:=⟨Lib.hid (fC.out hb h1.out),Lib.hid (fC.out hb h2.out),Lib.hid (fC.out hb h3.out),Lib.hid (fC.out hb h4.out),Lib.hid (fC.out hb h5.out),Lib.hid (fC.out hb h6.out),Lib.hid (fC.out hb h7.out),Lib.hid (fC.out hb h8.out),Lib.hid (fC.out hb h9.out)⟩
theorem f1 {A1 B1 C1:Prop} [ig w w' g A1 B1 C1] (h1:Hid A1) (e:Jy w w' g) (c1:C1:=by omega):Hid B1:=Lib.hid (ig.out e c1 h1.out)
theorem f2 {A1 B1 C1 A2 B2 C2:Prop} [ig w w' g A1 B1 C1] [ig w w' g A2 B2 C2] (h1:Hid A1) (h2:Hid A2) (e:Jy w w' g) (c1:C1:=by omega) (c2:C2:=by omega):Hid B1∧Hid B2:=⟨Lib.hid (ig.out e c1 h1.out),Lib.hid (ig.out e c2 h2.out)⟩
theorem f3 {A1 B1 C1 A2 B2 C2 A3 B3 C3:Prop} [ig w w' g A1 B1 C1] [ig w w' g A2 B2 C2] [ig w w' g A3 B3 C3] (h1:Hid A1) (h2:Hid A2) (h3:Hid A3) (e:Jy w w' g) (c1:C1:=by omega) (c2:C2:=by omega) (c3:C3:=by omega):Hid B1∧Hid B2∧Hid B3:=⟨Lib.hid (ig.out e c1 h1.out),Lib.hid (ig.out e c2 h2.out),Lib.hid (ig.out e c3 h3.out)⟩
theorem f4 {A1 B1 C1 A2 B2 C2 A3 B3 C3 A4 B4 C4:Prop} [ig w w' g A1 B1 C1] [ig w w' g A2 B2 C2] [ig w w' g A3 B3 C3] [ig w w' g A4 B4 C4] (h1:Hid A1) (h2:Hid A2) (h3:Hid A3) (h4:Hid A4) (e:Jy w w' g) (c1:C1:=by omega) (c2:C2:=by omega) (c3:C3:=by omega) (c4:C4:=by omega):Hid B1∧Hid B2∧Hid B3∧Hid B4:=⟨Lib.hid (ig.out e c1 h1.out),Lib.hid (ig.out e c2 h2.out),Lib.hid (ig.out e c3 h3.out),Lib.hid (ig.out e c4 h4.out)⟩
theorem f5 {A1 B1 C1 A2 B2 C2 A3 B3 C3 A4 B4 C4 A5 B5 C5:Prop} [ig w w' g A1 B1 C1] [ig w w' g A2 B2 C2] [ig w w' g A3 B3 C3] [ig w w' g A4 B4 C4] [ig w w' g A5 B5 C5] (h1:Hid A1) (h2:Hid A2) (h3:Hid A3) (h4:Hid A4) (h5:Hid A5) (e:Jy w w' g) (c1:C1:=by omega) (c2:C2:=by omega) (c3:C3:=by omega) (c4:C4:=by omega) (c5:C5:=by omega):Hid B1∧Hid B2∧Hid B3∧Hid B4∧Hid B5:=⟨Lib.hid (ig.out e c1 h1.out),Lib.hid (ig.out e c2 h2.out),Lib.hid (ig.out e c3 h3.out),Lib.hid (ig.out e c4 h4.out),Lib.hid (ig.out e c5 h5.out)⟩
theorem f6 {A1 B1 C1 A2 B2 C2 A3 B3 C3 A4 B4 C4 A5 B5 C5 A6 B6 C6:Prop} [ig w w' g A1 B1 C1] [ig w w' g A2 B2 C2] [ig w w' g A3 B3 C3] [ig w w' g A4 B4 C4] [ig w w' g A5 B5 C5] [ig w w' g A6 B6 C6] (h1:Hid A1) (h2:Hid A2) (h3:Hid A3) (h4:Hid A4) (h5:Hid A5) (h6:Hid A6) (e:Jy w w' g) (c1:C1:=by omega) (c2:C2:=by omega) (c3:C3:=by omega) (c4:C4:=by omega) (c5:C5:=by omega) (c6:C6:=by omega):Hid B1∧Hid B2∧Hid B3∧Hid B4∧Hid B5∧Hid B6:=⟨Lib.hid (ig.out e c1 h1.out),Lib.hid (ig.out e c2 h2.out),Lib.hid (ig.out e c3 h3.out),Lib.hid (ig.out e c4 h4.out),Lib.hid (ig.out e c5 h5.out),Lib.hid (ig.out e c6 h6.out)⟩
theorem f7 {A1 B1 C1 A2 B2 C2 A3 B3 C3 A4 B4 C4 A5 B5 C5 A6 B6 C6 A7 B7 C7:Prop} [ig w w' g A1 B1 C1] [ig w w' g A2 B2 C2] [ig w w' g A3 B3 C3] [ig w w' g A4 B4 C4] [ig w w' g A5 B5 C5] [ig w w' g A6 B6 C6] [ig w w' g A7 B7 C7] (h1:Hid A1) (h2:Hid A2) (h3:Hid A3) (h4:Hid A4) (h5:Hid A5) (h6:Hid A6) (h7:Hid A7) (e:Jy w w' g) (c1:C1:=by omega) (c2:C2:=by omega) (c3:C3:=by omega) (c4:C4:=by omega) (c5:C5:=by omega) (c6:C6:=by omega) (c7:C7:=by omega):Hid B1∧Hid B2∧Hid B3∧Hid B4∧Hid B5∧Hid B6∧Hid B7:=⟨Lib.hid (ig.out e c1 h1.out),Lib.hid (ig.out e c2 h2.out),Lib.hid (ig.out e c3 h3.out),Lib.hid (ig.out e c4 h4.out),Lib.hid (ig.out e c5 h5.out),Lib.hid (ig.out e c6 h6.out),Lib.hid (ig.out e c7 h7.out)⟩
theorem f8 {A1 B1 C1 A2 B2 C2 A3 B3 C3 A4 B4 C4 A5 B5 C5 A6 B6 C6 A7 B7 C7 A8 B8 C8:Prop} [ig w w' g A1 B1 C1] [ig w w' g A2 B2 C2] [ig w w' g A3 B3 C3] [ig w w' g A4 B4 C4] [ig w w' g A5 B5 C5] [ig w w' g A6 B6 C6] [ig w w' g A7 B7 C7] [ig w w' g A8 B8 C8] (h1:Hid A1) (h2:Hid A2) (h3:Hid A3) (h4:Hid A4) (h5:Hid A5) (h6:Hid A6) (h7:Hid A7) (h8:Hid A8) (e:Jy w w' g) (c1:C1:=by omega) (c2:C2:=by omega) (c3:C3:=by omega) (c4:C4:=by omega) (c5:C5:=by omega) (c6:C6:=by omega) (c7:C7:=by omega) (c8:C8:=by omega):Hid B1∧Hid B2∧Hid B3∧Hid B4∧Hid B5∧Hid B6∧Hid B7∧Hid B8:=⟨Lib.hid (ig.out e c1 h1.out),Lib.hid (ig.out e c2 h2.out),Lib.hid (ig.out e c3 h3.out),Lib.hid (ig.out e c4 h4.out),Lib.hid (ig.out e c5 h5.out),Lib.hid (ig.out e c6 h6.out),Lib.hid (ig.out e c7 h7.out),Lib.hid (ig.out e c8 h8.out)⟩
theorem sR {ops:Array Oper} {rest:List Oper} {op:Oper} {a:Act} {Q:Exit→Act→World→Prop} {ty:TypeId} {x y:Operand} (hg:Has w g T cs) (h:wpList Tryz.prog ops Q rest (a.put op.dst undef) (w.setRow g cs')) (hgd:op.guard=none:=by rfl) (ho:op.op = .store ty x y:=by rfl) (hx:a.eval x = .pointer (some ⟨g,0,none⟩):=by rfl) (hy:a.eval y = .agg cs':=by rfl)
  (hi:(Tryz.prog.info? ty).map (·.size)=some cs'.size:=by kernel_rfl) (hold:cs.size=cs'.size:=by rfl) (h1:cs'.all (·.oneCell')=true:=by first | assumption | simp [Value.oneCell']):wpList Tryz.prog ops Q (op :: rest) a w:=wpList_store_row hgd ty x y ho g cs' hx hy T cs hg hi hold h1 h
theorem JU (h:Hid (Has w g T cs)) (i:Nat):∀ ob,(w.alloc ob).frozen? ⟨g,i,none⟩=false:=fun ob => (h.out.alloc ob).free i
end
end Go.Proofs.YthkfapcadhnaeaaGreatDoor
namespace Go.Proofs.YthkfapcadhnaeaaGreatDoor
open Go.ChangeShapes Go.WideShapes Go.ChangeAt Go.RowKit
theorem dQ:(∀ (a:Act) (v:Value),a.put none v=a)∧(∀ (ts:Array Value) (ds:List _) (i:Nat) (v:Value),Act.put ⟨ts,ds⟩ (some i) v=⟨ts.setIfInBounds i v,ds⟩) ∧
  (∀ (l:List Value) (i:Nat) (v:Value),l.toArray.setIfInBounds i v=(l.set i v).toArray)∧(∀ (x:Value) (l:List Value) (v:Value),(x :: l).set 0 v=v :: l)∧(∀ (x:Value) (l:List Value) (i:Nat) (v:Value),(x :: l).set (i+1) v=x :: l.set i v) :=
 ⟨fun _ _ => rfl,fun _ _ _ _ => rfl,fun _ _ _ => by simp,fun _ _ _ => rfl,fun _ _ _ _ => rfl⟩
theorem Gi {w:World} {b o:Nat} {u:Value} (h:w.cell? ⟨b,o,none⟩=some u):∀ ob,(w.alloc ob).cell? ⟨b,o,none⟩=some u:=fun ob =>
 (((Below.refl w.heap.size w).alloc (Nat.le_refl _) ob).cell (p:=⟨b,o,none⟩) (World.block_lt_of_cell? _ _ h)).trans h
theorem aU {P:Program} {ops:Array Oper} {op:Oper} {a:Act} {w:World} {K:Act→World→Prop} {Q:Exit→Act→World→Prop} {E:Prop} (hgd:op.guard=none) (ty:TypeId) (x y:Operand) (ho:op.op = .store ty x y)
  (g:Nat) (cells:Array Value) (hx:a.eval x = .pointer (some ⟨g,0,none⟩)) (hy:a.eval y = .agg cells)
  (t:TypeId) (old:Array Value) (hg:w.heap[g]?=some (.cells old t (0,0))) (hi:(P.info? ty).map (·.size)=some cells.size) (hold:old.size=cells.size) (h1:cells.all (·.oneCell')=true)
  (h:K (a.put op.dst undef) (w.setRow g cells)):if Region.wanted op (yielded ops a.tmps)=true then Oper.wp P op a w K Q else E:=by
 rw [if_pos (by simp [Region.wanted,hgd])]
 exact wp_store_row ty x y ho g cells hx hy t old hg hi hold h1 h
end Go.Proofs.YthkfapcadhnaeaaGreatDoor
namespace Go.Proofs.YthkfapcadhnaeaaGreatDoor
open Go.ChangeShapes Go.WideShapes Go.ChangeAt Go.RowKit
theorem adL:(Tryz.prog.info? 30).map (fun i => (i.zero,i.size,i.bytes))=some (some (.agg #[.int .i64 0,.bool false,.int .i64 0,.string ByteArray.empty,.int .i64 0,.slice none 0 0,.slice none 0 0,.slice none 0 0]),8,120):=by kernel_rfl
theorem Mc:(Tryz.prog.info? 123).map (fun i => (i.zero,i.size,i.bytes))=some (some (.agg #[.int .i64 0,.string ByteArray.empty]),2,24):=by kernel_rfl
def zI (w:World) (e:TypeId) (size n:Nat) (xs:List Value) (r:Ending) (w':World):Prop :=
 ∃ v',r = .returned v'∧w'.ownsRow w.heap.size e size v' n xs∧Below w.heap.size w w'
set_option maxRecDepth 100000 in
theorem N8 (n:Nat) (A:Option Addr) (cap:Nat) (xs:List Value) (w:World) (hn:n≤1172812402926) (hA:A=none→n=0) (hl:xs.length=n*8) (hr:∀ a,A=some a→∀ j u,xs[j]?=some u→w.cell? (a.add j)=some u) (hlt:∀ a,A=some a→0 < n→a.block < w.heap.size) (h1:∀ u ∈ xs,u.oneCell'=true) :
  Calls Tryz.prog 168 #[.slice A n cap] w (zI w 30 8 n xs):=by
 have heq:=fun (W:World) => Lib.run_eql_slice_nil (P:=Tryz.prog) W 27 30 A n cap 0 0 Tryz.underlying27
 cases A with
 | none =>
  obtain rfl:=hA rfl
  simp only [Option.isNone_none] at heq
  have hx:xs = []:=by simpa using hl
  subst hx
  clear hr hlt h1
  go_enter Tryz.func168,Tryz.ntmps168
  go_wp2_with fail
  go_ret
  exact ⟨_,rfl,⟨rfl,.inl ⟨rfl,rfl⟩⟩,Below.refl _ _⟩
 | some a =>
  simp only [Option.isNone_some] at heq
  have hcell:∀ j u,xs[j]?=some u→(w.alloc (.cells #[] 30)).cell? (a.add j)=some u:=by
   intro j u hu
   have h:=hr a rfl j u hu
   have hb:=World.block_lt_of_cell? _ _ h
   rw [← h]
   exact World.cell?_of_block (Below.heap_alloc w _ _ hb)
  have HR:=Lib.hid hcell
  have hown:(w.alloc (.cells #[] 30)).ownsRow w.heap.size 30 8 (.slice (some ⟨w.heap.size,0,none⟩) 0 0) 0 [] :=
   ⟨rfl,.inr ⟨w.heap.size,0,#[],rfl,Nat.le_refl _,heap_alloc_new w _,Nat.le_refl _,by simp [maxLen],rfl,rfl⟩⟩
  have h01:=(Below.refl w.heap.size w).alloc (Nat.le_refl _) (.cells #[] 30)
  have Jz:=Lib.hid hown
  have H1:=Lib.hid h1
  have HL:=Lib.hid hl
  obtain ⟨i0,hi,hz0,hz1,hz2⟩:=info_parts adL
  have Hi:=Lib.hid hi
  have Hz0:=Lib.hid hz0
  have Hz1:=Lib.hid hz1
  have Hz2:=Lib.hid hz2
  clear hr hcell hown h1 hl hlt hA hi hz0 hz1 hz2
  go_enter Tryz.func168,Tryz.ntmps168
  go_wp2_with (at_builtin;refine wpList_append_own _ rfl _ _ _ rfl w.heap.size 30 i0 _ 8 120 Tryz.underlying27 Hi.out Hz0.out Hz1.out Hz2.out rfl (by decide) _ 0 [] rfl Jz.out a n cap xs rfl HL.out HR.out H1.out (by simp only [maxLen];omega) (by omega) (by simp) ?_;intro v' w2 hown2 hgrow _)
  rw [Nat.zero_add,List.nil_append] at hown2
  have h02:Below w.heap.size w w2:=h01.grown hgrow (by simp) (fun k hk => (Jz.out.lt k hk).1)
  have HO:=Lib.hid hown2
  clear hown2 hgrow
  go_wp2_with fail
  go_ret
  exact ⟨_,rfl,HO.out,h02⟩
set_option maxRecDepth 100000 in
theorem X9 (n:Nat) (A:Option Addr) (cap:Nat) (xs:List Value) (w:World) (hn:n≤5864062014634) (hA:A=none→n=0) (hl:xs.length=n*2) (hr:∀ a,A=some a→∀ j u,xs[j]?=some u→w.cell? (a.add j)=some u) (hlt:∀ a,A=some a→0 < n→a.block < w.heap.size) (h1:∀ u ∈ xs,u.oneCell'=true) :
  Calls Tryz.prog 169 #[.slice A n cap] w (zI w 123 2 n xs):=by
 have heq:=fun (W:World) => Lib.run_eql_slice_nil (P:=Tryz.prog) W 28 123 A n cap 0 0 Tryz.underlying28
 cases A with
 | none =>
  obtain rfl:=hA rfl
  simp only [Option.isNone_none] at heq
  have hx:xs = []:=by simpa using hl
  subst hx
  clear hr hlt h1
  go_enter Tryz.func169,Tryz.ntmps169
  go_wp2_with fail
  go_ret
  exact ⟨_,rfl,⟨rfl,.inl ⟨rfl,rfl⟩⟩,Below.refl _ _⟩
 | some a =>
  simp only [Option.isNone_some] at heq
  have hcell:∀ j u,xs[j]?=some u→(w.alloc (.cells #[] 123)).cell? (a.add j)=some u:=by
   intro j u hu
   have h:=hr a rfl j u hu
   have hb:=World.block_lt_of_cell? _ _ h
   rw [← h]
   exact World.cell?_of_block (Below.heap_alloc w _ _ hb)
  have HR:=Lib.hid hcell
  have hown:(w.alloc (.cells #[] 123)).ownsRow w.heap.size 123 2 (.slice (some ⟨w.heap.size,0,none⟩) 0 0) 0 [] :=
   ⟨rfl,.inr ⟨w.heap.size,0,#[],rfl,Nat.le_refl _,heap_alloc_new w _,Nat.le_refl _,by simp [maxLen],rfl,rfl⟩⟩
  have h01:=(Below.refl w.heap.size w).alloc (Nat.le_refl _) (.cells #[] 123)
  have Jz:=Lib.hid hown
  have H1:=Lib.hid h1
  have HL:=Lib.hid hl
  obtain ⟨i0,hi,hz0,hz1,hz2⟩:=info_parts Mc
  have Hi:=Lib.hid hi
  have Hz0:=Lib.hid hz0
  have Hz1:=Lib.hid hz1
  have Hz2:=Lib.hid hz2
  clear hr hcell hown h1 hl hlt hA hi hz0 hz1 hz2
  go_enter Tryz.func169,Tryz.ntmps169
  go_wp2_with (at_builtin;refine wpList_append_own _ rfl _ _ _ rfl w.heap.size 123 i0 _ 2 24 Tryz.underlying28 Hi.out Hz0.out Hz1.out Hz2.out rfl (by decide) _ 0 [] rfl Jz.out a n cap xs rfl HL.out HR.out H1.out (by simp only [maxLen];omega) (by omega) (by simp) ?_;intro v' w2 hown2 hgrow _)
  rw [Nat.zero_add,List.nil_append] at hown2
  have h02:Below w.heap.size w w2:=h01.grown hgrow (by simp) (fun k hk => (Jz.out.lt k hk).1)
  have HO:=Lib.hid hown2
  clear hown2 hgrow
  go_wp2_with fail
  go_ret
  exact ⟨_,rfl,HO.out,h02⟩
end Go.Proofs.YthkfapcadhnaeaaGreatDoor
namespace Go.Proofs.YthkfapcadhnaeaaGreatDoor
open Go.ChangeShapes Go.WideShapes Go.ChangeAt Go.RowKit
theorem jP:(Tryz.prog.info? 3).map (fun i => (i.zero,i.size,i.bytes))=some (some (.int .i64 0),1,8):=by kernel_rfl
set_option maxRecDepth 100000 in
theorem Zk (n:Nat) (A:Option Addr) (cap:Nat) (xs:List Value) (w:World) (hn:n≤1000000) (hA:A=none→n=0) (hl:xs.length=n*1) (hr:∀ a,A=some a→∀ j u,xs[j]?=some u→w.cell? (a.add j)=some u) (hlt:∀ a,A=some a→0 < n→a.block < w.heap.size) (h1:∀ u ∈ xs,u.oneCell'=true) :
  Calls Tryz.prog 130 #[.slice A n cap] w (zI w 3 1 n xs):=by
 have heq:=fun (W:World) => Lib.run_eql_slice_nil (P:=Tryz.prog) W 36 3 A n cap 0 0 Tryz.underlying36
 cases A with
 | none =>
  obtain rfl:=hA rfl
  simp only [Option.isNone_none] at heq
  have hx:xs = []:=by simpa using hl
  subst hx
  clear hr hlt h1
  go_enter Tryz.func130,Tryz.ntmps130
  go_wp2_with fail
  go_ret
  exact ⟨_,rfl,⟨rfl,.inl ⟨rfl,rfl⟩⟩,Below.refl _ _⟩
 | some a =>
  simp only [Option.isNone_some] at heq
  have hcell:∀ j u,xs[j]?=some u→(w.alloc (.cells #[] 3)).cell? (a.add j)=some u:=by
   intro j u hu
   have h:=hr a rfl j u hu
   have hb:=World.block_lt_of_cell? _ _ h
   rw [← h]
   exact World.cell?_of_block (Below.heap_alloc w _ _ hb)
  have HR:=Lib.hid hcell
  have hown:(w.alloc (.cells #[] 3)).ownsRow w.heap.size 3 1 (.slice (some ⟨w.heap.size,0,none⟩) 0 0) 0 [] :=
   ⟨rfl,.inr ⟨w.heap.size,0,#[],rfl,Nat.le_refl _,heap_alloc_new w _,Nat.le_refl _,by simp [maxLen],rfl,rfl⟩⟩
  have h01:=(Below.refl w.heap.size w).alloc (Nat.le_refl _) (.cells #[] 3)
  have Jz:=Lib.hid hown
  have H1:=Lib.hid h1
  have HL:=Lib.hid hl
  obtain ⟨i0,hi,hz0,hz1,hz2⟩:=info_parts jP
  have Hi:=Lib.hid hi
  have Hz0:=Lib.hid hz0
  have Hz1:=Lib.hid hz1
  have Hz2:=Lib.hid hz2
  clear hr hcell hown h1 hl hlt hA hi hz0 hz1 hz2
  go_enter Tryz.func130,Tryz.ntmps130
  go_wp2_with (at_builtin;refine wpList_append_own _ rfl _ _ _ rfl w.heap.size 3 i0 _ 1 8 Tryz.underlying36 Hi.out Hz0.out Hz1.out Hz2.out rfl (by decide) _ 0 [] rfl Jz.out a n cap xs rfl HL.out HR.out H1.out (by simp only [maxLen];omega) (by omega) (by simp) ?_;intro v' w2 hown2 hgrow _)
  rw [Nat.zero_add,List.nil_append] at hown2
  have h02:Below w.heap.size w w2:=h01.grown hgrow (by simp) (fun k hk => (Jz.out.lt k hk).1)
  have HO:=Lib.hid hown2
  clear hown2 hgrow
  go_wp2_with fail
  go_ret
  exact ⟨_,rfl,HO.out,h02⟩
end Go.Proofs.YthkfapcadhnaeaaGreatDoor
namespace Go.Proofs.YthkfapcadhnaeaaGreatDoor
open Go.ChangeShapes Go.WideShapes Go.ChangeAt Go.RowKit
theorem abO:(Tryz.prog.info? 9).map (fun i => (i.zero,i.size,i.bytes))=some (some (.string ByteArray.empty),1,16):=by kernel_rfl
structure Two (w:World) (B:Nat) (v1:Value) (n1:Nat) (xs1:List Value) (v2:Value) (n2:Nat) (xs2:List Value):Prop where
 o1:w.ownsRow B 3 1 v1 n1 xs1
 o2:w.ownsRow B 9 1 v2 n2 xs2
 sp:∀ k,v1.ownBlock=some k→v2.ownBlock=some k→False
section
variable {w w':World} {B n1 n2:Nat} {v1 v2:Value} {xs1 xs2:List Value}
theorem Two.nil (w:World) (B:Nat):Two w B (.slice none 0 0) 0 [] (.slice none 0 0) 0 []:=⟨World.ownsRow_nil _ _ _ _,World.ownsRow_nil _ _ _ _,fun k h => by cases h⟩
theorem Two.heap (h:Two w B v1 n1 xs1 v2 n2 xs2) (hk:∀ k:Nat,B≤k→k < w.heap.size→w'.heap[k]?=w.heap[k]?):Two w' B v1 n1 xs1 v2 n2 xs2 :=
 ⟨Np h.o1 hk,Np h.o2 hk,h.sp⟩
theorem Two.on (h:Two w B v1 n1 xs1 v2 n2 xs2) (hb:Below w.heap.size w w'):Two w' B v1 n1 xs1 v2 n2 xs2:=h.heap fun _ _ hk => hb.block _ hk
theorem Two.lt1 (h:Two w B v1 n1 xs1 v2 n2 xs2):∀ k,v1.ownBlock=some k→k < w.heap.size:=fun k hk => (h.o1.lt k hk).2
theorem Two.lt2 (h:Two w B v1 n1 xs1 v2 n2 xs2):∀ k,v2.ownBlock=some k→k < w.heap.size:=fun k hk => (h.o2.lt k hk).2
end
theorem sepL {a b:Value} (h:∀ k,a.ownBlock=some k→b.ownBlock=some k→False):b.ownBlock=none∨b.ownBlock≠a.ownBlock:=by
 cases hv:b.ownBlock with
 | none => exact .inl rfl
 | some k => exact .inr (fun e => h k e.symm hv)
theorem Ba {w w1:World} {B:Nat} {r:Option Nat} (h:w.grownBy w1 r) (hB:B≤w.heap.size) (hr:∀ k,r=some k→B≤k):Below B w w1:=(Below.refl B w).grown h hB hr
theorem yF {ops:Array Oper} {op:Oper} {a:Act} {w:World} {K:Act→World→Prop} {Q:Exit→Act→World→Prop} {E:Prop} (hgd:op.guard=none) (s x:Operand)
  (ho:op.op = .call { callee:=.builtin .append,args:=#[s,x],argTypes:=#[36,36] }) {B gN n1 n2:Nat} {v1 v2:Value} {xs1 xs2:List Value} (ht:Two w B v1 n1 xs1 v2 n2 xs2) (u:Value) (hs:a.eval s=v1)
  (hN:Has w gN 3 #[u]) (hx:a.eval x = .slice (some ⟨gN,0,none⟩) 1 1) (h1:u.oneCell'=true) (hn:n1 < 8000000000000) (hB:B≤w.heap.size)
  (h:∀ v w1,Two w1 B v (n1+1) (xs1 ++ [u]) v2 n2 xs2→Below B w w1→(∀ k,k < w.heap.size→v1.ownBlock≠some k→w1.heap[k]?=w.heap[k]?)→K (a.put op.dst v) w1) :
  if Region.wanted op (yielded ops a.tmps)=true then Oper.wp Tryz.prog op a w K Q else E:=by
 obtain ⟨i0,hi,hz0,hz1,hz2⟩:=info_parts jP
 refine step_append_lies (P:=Tryz.prog) w hgd s x _ ho B 3 i0 _ 1 8 Tryz.underlying36 hi hz0 hz1 hz2 rfl (by decide) v1 n1 xs1 hs ht.o1 ⟨gN,0,none⟩ 1 1 [u] hx rfl (World.news_of_block hN) (by simpa using h1) (by omega) (by simp only [maxLen];omega) (by omega) hB w.heap.size rfl ?_
 intro g cap w1 hown hgr hat _
 have hsp:∀ k,(Value.slice (some ⟨g,0,none⟩) (n1+1) cap).ownBlock=some k→v2.ownBlock=some k→False:=by
  intro k hk hk2
  have hg:g=k:=by injection hk
  rcases hat with h2 | h2
  · rw [hg] at h2;exact ht.sp k h2 hk2
  have:=ht.lt2 k hk2;omega
 refine h _ w1 ⟨hown,ht.o2.kept hgr (sepL ht.sp),hsp⟩ (Ba hgr hB (fun k hk => (ht.o1.lt k hk).1)) (fun k hk hne => hgr.block k hk (fun e => hne e.symm))
theorem yG {ops:Array Oper} {op:Oper} {a:Act} {w:World} {K:Act→World→Prop} {Q:Exit→Act→World→Prop} {E:Prop} (hgd:op.guard=none) (s x:Operand)
  (ho:op.op = .call { callee:=.builtin .append,args:=#[s,x],argTypes:=#[63,63] }) {B gN n1 n2:Nat} {v1 v2:Value} {xs1 xs2:List Value} (ht:Two w B v1 n1 xs1 v2 n2 xs2) (u:Value) (hs:a.eval s=v2)
  (hN:Has w gN 9 #[u]) (hx:a.eval x = .slice (some ⟨gN,0,none⟩) 1 1) (h1:u.oneCell'=true) (hn:n2 < 8000000000000) (hB:B≤w.heap.size)
  (h:∀ v w1,Two w1 B v1 n1 xs1 v (n2+1) (xs2 ++ [u])→Below B w w1→(∀ k,k < w.heap.size→v2.ownBlock≠some k→w1.heap[k]?=w.heap[k]?)→K (a.put op.dst v) w1) :
  if Region.wanted op (yielded ops a.tmps)=true then Oper.wp Tryz.prog op a w K Q else E:=by
 obtain ⟨i0,hi,hz0,hz1,hz2⟩:=info_parts abO
 refine step_append_lies (P:=Tryz.prog) w hgd s x _ ho B 9 i0 _ 1 16 Tryz.underlying63 hi hz0 hz1 hz2 rfl (by decide) v2 n2 xs2 hs ht.o2 ⟨gN,0,none⟩ 1 1 [u] hx rfl (World.news_of_block hN) (by simpa using h1) (by omega) (by simp only [maxLen];omega) (by omega) hB w.heap.size rfl ?_
 intro g cap w1 hown hgr hat _
 have hsp:∀ k,(Value.slice (some ⟨g,0,none⟩) (n2+1) cap).ownBlock=some k→v1.ownBlock=some k→False:=by
  intro k hk hk2
  have hg:g=k:=by injection hk
  rcases hat with h2 | h2
  · rw [hg] at h2;exact ht.sp k hk2 h2
  have:=ht.lt1 k hk2;omega
 refine h _ w1 ⟨ht.o1.kept hgr (sepL fun k h1 h2 => ht.sp k h2 h1),hown,fun k h1 h2 => hsp k h2 h1⟩ (Ba hgr hB (fun k hk => (ht.o2.lt k hk).1)) (fun k hk hne => hgr.block k hk (fun e => hne e.symm))
end Go.Proofs.YthkfapcadhnaeaaGreatDoor

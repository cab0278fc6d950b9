/- A list of types that a call builds by append. Lists of types of the call's own, whose members are written in place. Lists of types and of members that a call builds by append, parts of which lie below the call's own blocks. No condition. -/
import Derived.Test.YtlamhkffnlgofaaGreatDoorHCD
namespace Go.Proofs.YtlamhkffnlgofaaGreatDoor
open Go.ChangeShapes Go.WideShapes Go.ChangeAt Go.RowKit
def LX (w:World) (L B:Nat) (v:Value) (xs:List ay):Prop :=
 ∃ cs:List Value,w.ownsRow L 71 10 v xs.length cs∧(∀ k,v.ownBlock=some k→k < B)∧∀ (i:Nat) (h:i < xs.length),∃ vs vm,(cs.drop (i*10)).take 10=Pq xs[i] vs vm∧alC w (fun b => L≤b∧b < B∧v.ownBlock≠some b) xs[i] vs vm
section
variable {w w' w1:World} {L B:Nat} {v:Value} {xs:List ay}
theorem LX.nil (w:World) (L B:Nat):LX w L B (.slice none 0 0) []:=⟨[],World.ownsRow_nil _ _ _ _,fun k h => (by cases h),fun i h => by simp at h⟩
theorem LX.keep (h:LX w L B v xs) (hk:∀ k,L≤k→k < B→w'.heap[k]?=w.heap[k]?):LX w' L B v xs:=by
 obtain ⟨cs,h1,h0,h2⟩:=h;refine ⟨cs,qo h1 fun k hb => hk k (h1.lt k hb).1 (h0 k hb),h0,fun i hi => ?_⟩;obtain ⟨vs,vm,h3,h4⟩:=h2 i hi;exact ⟨vs,vm,h3,h4.keep (fun p hp => World.cell?_of_block (hk p.block hp.1 hp.2.1)) fun b hb => hb⟩
theorem LX.kept (h:LX w L B v xs) (hB:B≤w.heap.size):Kept (fun w' => LX w' L B v xs) w L B:=⟨h,fun _ hk => h.keep hk,hB⟩
theorem LX.mono {B':Nat} (h:LX w L B v xs) (hB:B≤B'):LX w L B' v xs:=by
 obtain ⟨cs,h1,h0,h2⟩:=h;refine ⟨cs,h1,fun k hk => Nat.lt_of_lt_of_le (h0 k hk) hB,fun i hi => ?_⟩;obtain ⟨vs,vm,h3,h4⟩:=h2 i hi;exact ⟨vs,vm,h3,h4.keep (fun _ _ => rfl) fun b hb => ⟨hb.1,by omega,hb.2.2⟩⟩
theorem LX.form (h:LX w L B v xs):∃ A c,v = .slice A xs.length c:=by
 obtain ⟨cs,h1,_⟩:=h;exact jF h1
theorem zEp {p:Prop} (h:p:=by
 rw [List.getElem_append_right (Nat.le_refl _),List.drop_append,List.drop_eq_nil_of_le (by omega),hcl,Nat.sub_self];simp [Pq]):p:=h
theorem LX.row (h:LX w L B v xs):∃ cs:List Value,w.ownsRow L 71 10 v xs.length cs∧∀ (w1:World) (v1:Value) (y:ay) (vs vm:Value) (B1:Nat),w.grownBy w1 v.ownBlock→w1.ownsRow L 71 10 v1 (xs.length+1) (cs ++ Pq y vs vm) →
  (∀ k,v1.ownBlock=some k→v.ownBlock=some k∨B≤k)→B≤w.heap.size→(∀ k,v1.ownBlock=some k→k < B1)→B≤B1→alC w (fun b => L≤b∧b < B1∧b < w.heap.size∧v.ownBlock≠some b∧v1.ownBlock≠some b) y vs vm→LX w1 L B1 v1 (xs ++ [y]):=by
 obtain ⟨cs,h1,h0,h2⟩:=h;refine ⟨cs,h1,fun w1 v1 y vs vm B1 hg ho hr hB hlt hB1 hy => ⟨cs ++ Pq y vs vm,by rw [List.length_append];exact ho,hlt,fun i hi => ?_⟩⟩;have hcl:cs.length=xs.length*10:=h1.1;have hkeep:∀ p:Addr,p.block < w.heap.size→v.ownBlock≠some p.block→w1.cell? p=w.cell? p:=fun p hp hn => World.cell?_of_block (hg.block p.block hp (fun e => hn e.symm));rcases Nat.lt_or_ge i xs.length with h3 | h3
 ·
  obtain ⟨vs2,vm2,h4,h5⟩:=h2 i h3;refine ⟨vs2,vm2,?_,?_⟩
  · rw [List.getElem_append_left h3,← h4,List.drop_append_of_le_length (by omega),List.take_append_of_le_length (by rw [List.length_drop];omega)]
  rw [List.getElem_append_left h3];refine h5.keep (fun p hp => hkeep p (by have:=hp.2.1;omega) hp.2.2) fun b hb => ⟨hb.1,by have:=hb.2.1;omega,fun e => ?_⟩
  rcases hr b e with h6 | h6
  · exact hb.2.2 h6
  have:=hb.2.1;omega
 have h4:i=xs.length:=by rw [List.length_append] at hi;simp at hi;omega
 subst h4;refine ⟨vs,vm,?_,?_⟩
 · exact zEp
 rw [List.getElem_append_right (Nat.le_refl _)];simp only [Nat.sub_self,List.getElem_cons_zero];exact hy.keep (fun p hp => hkeep p hp.2.2.1 hp.2.2.2.1) fun b hb => ⟨hb.1,hb.2.1,hb.2.2.2.2⟩
theorem zDi {p:Prop} (h:p:=by
 refine .inr ⟨b,o,hA,hb,fun i hi j u hu => ?_⟩;have hj:j < 10:=by
  have:=(List.getElem?_eq_some_iff.1 hu).1;simp at this;omega
 rw [List.getElem?_take_of_lt hj,List.getElem?_drop] at hu;have h4:=hcell (i*10+j) u hu;rwa [show o+(i*10+j)=o+i*10+j by omega] at h4):p:=h
theorem zJl {p:Prop} (h:p:=by
 refine ⟨A,c,hv,hc,?_⟩;rcases h3 with h3 | ⟨b,o,hA,hb,hcell⟩
 · exact .inl h3
 exact zDi):p:=h
theorem LX.rd (h:LX w L B v xs) (hB:B≤w.heap.size):aU w w.heap.size v xs:=by
 obtain ⟨cs,h1,h0,h2⟩:=h;have hcl:cs.length=xs.length*10:=h1.1;obtain ⟨A,c,hv,hc,h3⟩:=Rd.uX h1 |>.2;refine ⟨fun i => (cs.drop (i*10)).take 10,?_,fun i hi => ?_⟩
 · exact zJl
 obtain ⟨vs,vm,h3,h4⟩:=h2 i hi;exact ⟨vs,vm,h3,h4.at_ fun b hb => by have:=hb.2.1;omega⟩
end
structure ar4 (m:Mem):Prop where
 ints:I64 m.id∧I64 m.ty
 GI:m.name.length≤140737488351232
 bare:m.dflt.keys = []∧m.dflt.items = []∧m.dflt.rest = []
 aGV:I64 m.dflt.kind∧I64 m.dflt.num∧I64 m.dflt.id
 AL:m.dflt.str.length≤140737488351232
structure aq2 (x:ay):Prop where
 ints:I64 x.kind∧I64 x.low∧I64 x.high∧I64 x.max∧I64 x.key∧I64 x.elem
 GI:x.name.length≤140737488351232
 lens:x.syms.length≤1000∧x.ah.length≤1000
 QL:∀ r ∈ x.syms,yR r
 ah:∀ m ∈ x.ah,ar4 m
theorem asQ (w:World) (B:Nat):qF w B (.slice none 0 0) []:=⟨fun _ => [],⟨none,0,rfl,Nat.le_refl _,.inl rfl⟩,fun i h => by simp at h⟩
theorem ar4.at_ {m:Mem} (h:ar4 m) (w:World) (B:Nat):GH w B m (.slice none 0 0) (.slice none 0 0) (.slice none 0 0):=by
 obtain ⟨h1,h2,⟨h3,h4,h5⟩,h6,h7⟩:=h;refine ⟨h1,h2,h6,h7,by rw [h3,h4,h5];simp,by rw [h5];simp,by rw [h3];exact asQ w B,by rw [h4];exact asQ w B,by rw [h5];exact Rd.nil_ w B 2⟩
theorem aqQ (m:Mem):(ail m).length=13:=rfl
theorem air.at_ {w:World} {lo hi:Nat} {x:ay} {vs vm:Value} (h:air w lo hi x vs vm) (hx:aq2 x):jc w w.heap.size x vs vm:=by
 refine ⟨hx.ints,hx.GI,by have:=hx.lens;exact ⟨by omega,by omega⟩,hx.QL,Rd.uX h.syms,?_⟩;obtain ⟨hl,A,c,hv,hc,h3⟩:=Rd.uX h.ah;refine ⟨fun i => ail (x.ah.getD i { id:=0,name:=[],ty:=0,akb:=false,eG:=false,dflt:=jm }),⟨A,c,hv,hc,?_⟩,fun i hi => ?_⟩
 ·
  rcases h3 with h3 | ⟨b,o,hA,hb,hcell⟩
  · exact .inl h3
  refine .inr ⟨b,o,hA,hb,fun i hi j u hu => ?_⟩;dsimp only at hu;rw [List.getD_eq_getElem?_getD,List.getElem?_eq_getElem hi,Option.getD_some] at hu;have hj:j < 13:=by have:=(List.getElem?_eq_some_iff.1 hu).1;rwa [aqQ] at this
  have h4:=hcell (i*13+j) u ((flat_get aqQ x.ah i j hi hj).trans hu);rwa [show o+(i*13+j)=o+i*13+j by omega] at h4
 dsimp only;rw [List.getD_eq_getElem?_getD,List.getElem?_eq_getElem hi,Option.getD_some];exact ⟨_,_,_,rfl,(hx.ah _ (List.getElem_mem hi)).at_ w _⟩
theorem air.aBe {w w':World} {lo hi:Nat} {x:ay} {vs vm:Value} (h:air w lo hi x vs vm) (hk:∀ k,lo≤k→k < hi→w'.heap[k]?=w.heap[k]?):air w' lo hi x vs vm :=
 ⟨qo h.syms fun k hb => hk k (h.syms.lt k hb).1 (h.atI k hb),h.atI,qo h.ah fun k hb => hk k (h.ah.lt k hb).1 (h.arC k hb),h.arC⟩
theorem air.aBf {w w':World} {lo hi:Nat} {x:ay} {vs vm:Value} (h:air w lo hi x vs vm) (hk:∀ k,vs.ownBlock=some k∨vm.ownBlock=some k→w'.heap[k]?=w.heap[k]?):air w' lo hi x vs vm :=
 ⟨qo h.syms fun k hb => hk k (.inl hb),h.atI,qo h.ah fun k hb => hk k (.inr hb),h.arC⟩
theorem air.mono {w:World} {lo hi lo' hi':Nat} {x:ay} {vs vm:Value} (h:air w lo hi x vs vm) (h1:lo'≤lo) (h2:hi≤hi'):air w lo' hi' x vs vm :=
 ⟨own_base h.syms h1,fun k hk => by have:=h.atI k hk;omega,own_base h.ah h1,fun k hk => by have:=h.arC k hk;omega⟩
theorem air.kept {w:World} {lo hi:Nat} {x:ay} {vs vm:Value} (h:air w lo hi x vs vm) (hh:hi≤w.heap.size):Kept (fun w => air w lo hi x vs vm) w lo hi:=⟨h,fun _ hk => h.aBe hk,hh⟩
def MO (w:World) (L B:Nat) (v:Value) (xs:List ay):Prop :=
 ∃ (cs:List Value) (bd:Nat→Nat),w.ownsRow L 71 10 v xs.length cs∧(∀ k,v.ownBlock=some k→k < B)∧L≤bd 0∧(∀ i j,i≤j→j≤xs.length→bd i≤bd j)∧bd xs.length≤B ∧
  ∀ (i:Nat) (h:i < xs.length),∃ vs vm,(cs.drop (i*10)).take 10=Pq xs[i] vs vm∧air w (bd i) (bd (i+1)) xs[i] vs vm
section
variable {w w':World} {L B:Nat} {v:Value} {xs:List ay}
theorem MO.nil (w:World) (L B:Nat) (h:L≤B):MO w L B (.slice none 0 0) []:=⟨[],fun _ => L,World.ownsRow_nil _ _ _ _,fun k h => (by cases h),Nat.le_refl _,fun _ _ _ _ => Nat.le_refl _,h,fun i h => by simp at h⟩
theorem MO.keep (h:MO w L B v xs) (hk:∀ k,L≤k→k < B→w'.heap[k]?=w.heap[k]?):MO w' L B v xs:=by
 obtain ⟨cs,bd,h1,h2,h3,h4,h5,h6⟩:=h;refine ⟨cs,bd,qo h1 fun k hb => hk k (h1.lt k hb).1 (h2 k hb),h2,h3,h4,h5,fun i hi => ?_⟩;obtain ⟨vs,vm,h7,h8⟩:=h6 i hi;have a1:=h4 0 i (by omega) (by omega);have a2:=h4 (i+1) xs.length (by omega) (Nat.le_refl _);exact ⟨vs,vm,h7,h8.aBe fun k hl hh => hk k (by omega) (by omega)⟩
theorem MO.kept (h:MO w L B v xs) (hB:B≤w.heap.size):Kept (fun w' => MO w' L B v xs) w L B:=⟨h,fun _ hk => h.keep hk,hB⟩
theorem MO.mono {B':Nat} (h:MO w L B v xs) (hB:B≤B'):MO w L B' v xs:=by
 obtain ⟨cs,bd,h1,h2,h3,h4,h5,h6⟩:=h;exact ⟨cs,bd,h1,fun k hk => Nat.lt_of_lt_of_le (h2 k hk) hB,h3,h4,Nat.le_trans h5 hB,h6⟩
theorem MO.row (h:MO w L B v xs):∃ cs:List Value,w.ownsRow L 71 10 v xs.length cs∧(∀ k,v.ownBlock=some k→k < B)∧∀ (w1:World) (v1:Value) (y:ay) (vs vm:Value) (B1 z6 z7:Nat),w.grownBy w1 v.ownBlock→w1.ownsRow L 71 10 v1 (xs.length+1) (cs ++ Pq y vs vm) →
  (∀ k,v1.ownBlock=some k→k < B1)→B≤z6→z6≤z7→z7≤w.heap.size→z7≤B1→air w z6 z7 y vs vm→MO w1 L B1 v1 (xs ++ [y]):=by
 obtain ⟨cs,bd,h1,h2,h3,h4,h5,h6⟩:=h;refine ⟨cs,h1,h2,fun w1 v1 y vs vm B1 z6 z7 hg ho hlt hz6 aHa hz7 hzB hy => ?_⟩;have hcl:cs.length=xs.length*10:=h1.1;have hkeep:∀ {lo hi:Nat} {x:ay} {us um:Value},air w lo hi x us um→air w1 lo hi x us um:=fun {lo hi x us um} hx => hx.aBf fun k hk => by
  refine hg.block k ?_ (fun e => ?_)
  ·
   rcases hk with hk | hk
   · exact (hx.syms.lt k hk).2
   exact (hx.ah.lt k hk).2
  rcases hk with hk | hk
  · exact akR h1 hx.syms (by decide) e.symm hk
  exact akR h1 hx.ah (by decide) e.symm hk
 refine ⟨cs ++ Pq y vs vm,fun i => if i≤xs.length then bd i else z7,by rw [List.length_append];exact ho,hlt,by simpa using h3,fun i j hij hj => ?_,?_,fun i hi => ?_⟩
 ·
  simp only [List.length_append,List.length_singleton] at hj;dsimp only;by_cases e1:j≤xs.length
  · rw [if_pos (by omega),if_pos e1];exact h4 i j hij e1
  rw [if_neg e1];by_cases e2:i≤xs.length
  · rw [if_pos e2];have:=h4 i xs.length e2 (Nat.le_refl _);omega
  rw [if_neg e2];exact Nat.le_refl _
 ·
  dsimp only;rw [List.length_append,List.length_singleton,if_neg (by omega)];exact hzB
 rw [List.length_append,List.length_singleton] at hi;dsimp only;rcases Nat.lt_or_ge i xs.length with hlt2 | hge
 ·
  obtain ⟨us,um,h7,h8⟩:=h6 i hlt2;refine ⟨us,um,?_,?_⟩
  · rw [List.getElem_append_left hlt2,← h7,List.drop_append_of_le_length (by omega),List.take_append_of_le_length (by rw [List.length_drop];omega)]
  rw [List.getElem_append_left hlt2,if_pos (by omega),if_pos (by omega)];exact hkeep h8
 have e:i=xs.length:=by omega
 subst e;refine ⟨vs,vm,?_,?_⟩
 · exact zEp
 rw [List.getElem_append_right (Nat.le_refl _),if_pos (Nat.le_refl _),if_neg (by omega)];simp only [Nat.sub_self,List.getElem_cons_zero];exact (hkeep hy).mono (by omega) (Nat.le_refl _)
theorem MO.at_ (h:MO w L B v xs) {t:Nat} (ht:t < xs.length):∃ g c vs vm lo hi,v = .slice (some ⟨g,0,none⟩) xs.length c∧L≤g∧g < B∧NI w g (t*10) xs[t] vs vm∧air w lo hi xs[t] vs vm∧L≤lo∧hi≤B ∧
  ∀ (w2:World) (ms:List Mem),ms.length=xs[t].ah.length→(∀ k,k < w.heap.size→vm.ownBlock≠some k→w2.heap[k]?=w.heap[k]?)→w2.ownsRow lo 83 13 vm ms.length (ms.flatMap ail)→MO w2 L B v (xs.set t { xs[t] with ah:=ms }):=by
 obtain ⟨cs,bd,h1,h2,h3,h4,h5,h6⟩:=h;obtain ⟨vs,vm,h7,h8⟩:=h6 t ht;have hcl:cs.length=xs.length*10:=h1.1;obtain ⟨g,c,rfl⟩ : ∃ g c,v = .slice (some ⟨g,0,none⟩) xs.length c:=by
  rcases h1.2 with ⟨h,h9⟩ | ⟨g,c,cur,h,_⟩
  · omega
  exact ⟨g,c,h⟩
 have hg:=h1.lt g rfl;have hcell:∀ j u,(Pq xs[t] vs vm)[j]?=some u→w.cell? ⟨g,t*10+j,none⟩=some u:=fun j u hu => by
  have hj:j < 10:=by have:=(List.getElem?_eq_some_iff.1 hu).1;simpa [Pq] using this
  rw [h1.cellAt (t*10+j) (by omega)];rw [← h7,List.getElem?_take_of_lt hj,List.getElem?_drop] at hu;exact hu
 have b1:=h4 0 t (by omega) (by omega);have b2:=h4 (t+1) xs.length (by omega) (Nat.le_refl _);refine ⟨g,c,vs,vm,bd t,bd (t+1),rfl,hg.1,h2 g rfl,⟨hcell 0 _ rfl,hcell 1 _ rfl,hcell 2 _ rfl,hcell 3 _ rfl,hcell 4 _ rfl,hcell 5 _ rfl,hcell 6 _ rfl,hcell 7 _ rfl,hcell 8 _ rfl,hcell 9 _ rfl⟩,h8,by omega,by omega,fun w2 ms hlen hk hown => ?_⟩;refine ⟨cs,bd,?_,h2,h3,by rw [List.length_set];exact h4,by rw [List.length_set];exact h5,fun i hi => ?_⟩
 ·
  rw [List.length_set];exact qo h1 fun k hb => hk k (h1.lt k hb).2 (akR h1 h8.ah (by decide) hb)
 rw [List.length_set] at hi;by_cases e:i=t
 ·
  subst e;refine ⟨vs,vm,by rw [List.getElem_set_self,h7];rfl,?_⟩;rw [List.getElem_set_self];exact ⟨qo h8.syms fun k hb => hk k (h8.syms.lt k hb).2 (akR h8.syms h8.ah (by decide) hb),h8.atI,hown,h8.arC⟩
 obtain ⟨us,um,h9,h10⟩:=h6 i hi;refine ⟨us,um,by rw [List.getElem_set_ne (fun h => e h.symm)];exact h9,?_⟩;rw [List.getElem_set_ne (fun h => e h.symm)];refine h10.aBf fun k hkk => hk k (by rcases hkk with hkk | hkk;exact (h10.syms.lt k hkk).2;exact (h10.ah.lt k hkk).2) (fun hvm => ?_);rcases hkk with hkk | hkk
 · exact akR h10.syms h8.ah (by decide) hkk hvm
 have q1:=(h10.ah.lt k hkk).1;have q2:=h10.arC k hkk;have q3:=(h8.ah.lt k hvm).1;have q4:=h8.arC k hvm;rcases Nat.lt_or_ge i t with hit | hit
 · have:=h4 (i+1) t (by omega) (by omega);omega
 have:=h4 (t+1) i (by omega) (by omega);omega
theorem MO.rd (h:MO w L B v xs) (hx:∀ x ∈ xs,aq2 x):aU w w.heap.size v xs:=by
 obtain ⟨cs,bd,h1,h2,h3,h4,h5,h6⟩:=h;obtain ⟨A,c,hv,hc,h7⟩:=Rd.uX h1 |>.2;refine ⟨fun i => (cs.drop (i*10)).take 10,?_,fun i hi => ?_⟩
 ·
  refine ⟨A,c,hv,hc,?_⟩;rcases h7 with h7 | ⟨b,o,hA,hb,hcell⟩
  · exact .inl h7
  exact zDi
 obtain ⟨vs,vm,h8,h9⟩:=h6 i hi;exact ⟨vs,vm,h8,h9.at_ (hx _ (List.getElem_mem hi))⟩
end
def LJ (ms:List Mem) (i:Nat):List Mem:=ms.take i ++ (ms.drop i).map unM
def aos (x:ay) (i:Nat):ay:={ x with ah:=LJ x.ah i }
def alz (x:ay) (t i j:Nat):Nat:=if j < t then x.ah.length else if j=t then i else 0
def LK (us:List ay) (t i:Nat):List ay:=us.mapIdx fun j x => aos x (alz x t i j)
theorem axP (ms:List Mem):LJ ms 0=ms.map unM:=by simp [LJ]
theorem azd (ms:List Mem):LJ ms ms.length=ms:=by simp [LJ]
theorem an5 (ms:List Mem) (i:Nat):(LJ ms i).length=ms.length:=by
 unfold LJ;rw [List.length_append,List.length_map,← List.length_append,List.take_append_drop]
theorem auN (ms:List Mem) (i:Nat) (h:i < ms.length):(LJ ms i)[i]?=some (unM ms[i]):=by
 unfold LJ;rw [List.getElem?_append_right (by rw [List.length_take];omega),List.length_take,Nat.min_eq_left (by omega),Nat.sub_self,List.drop_eq_getElem_cons h]
 rfl
theorem arL (ms:List Mem) (i:Nat) (h:i < ms.length):(LJ ms i).set i ms[i]=LJ ms (i+1):=by
 unfold LJ;rw [List.set_append_right _ _ (by rw [List.length_take];omega),List.length_take,Nat.min_eq_left (by omega),Nat.sub_self,List.drop_eq_getElem_cons h,List.map_cons,List.set_cons_zero,List.take_succ_eq_append_getElem h,List.append_assoc]
 rfl
theorem axQ (ms:List Mem) (i:Nat) (h:i < ms.length) (hu:unM ms[i]=ms[i]):LJ ms (i+1)=LJ ms i:=by
 unfold LJ;rw [List.drop_eq_getElem_cons h,List.map_cons,hu,List.take_succ_eq_append_getElem h,List.append_assoc]
 rfl
theorem aze (x:ay):aos x x.ah.length=x:=by unfold aos;rw [azd]
theorem axR (x:ay):aos x 0=unT x:=by unfold aos unT;rw [axP]
theorem Si (us:List ay) (t i:Nat):(LK us t i).length=us.length:=by unfold LK;simp
theorem an4 (us:List ay) (t i j:Nat) (h:j < us.length):(LK us t i)[j]?=some (aos us[j] (alz us[j] t i j)):=by
 unfold LK;rw [List.getElem?_mapIdx,List.getElem?_eq_getElem h];rfl
theorem arM (us:List ay) (t i j:Nat) (h:j < us.length) (h2:j < (LK us t i).length):(LK us t i)[j]=aos us[j] (alz us[j] t i j):=by
 have:=an4 us t i j h;rw [List.getElem?_eq_getElem h2] at this;exact Option.some.inj this
theorem aoD {us vs:List ay} {t i:Nat} (hl:vs.length=us.length) (h:∀ (j:Nat) (hj:j < us.length),vs[j]?=some (aos us[j] (alz us[j] t i j))):vs=LK us t i:=by
 apply List.ext_getElem?
 intro j;by_cases hj:j < us.length
 · rw [h j hj,an4 us t i j hj]
 rw [List.getElem?_eq_none (by omega),List.getElem?_eq_none (by rw [Si];omega)]
theorem atG (us:List ay):us.map unT=LK us 0 0:=aoD (by simp) fun j hj => by
 rw [List.getElem?_map,List.getElem?_eq_getElem hj,Option.map_some,← axR];unfold alz;rw [if_neg (by omega)];split <;> rfl
theorem ar6 (us:List ay):us=LK us us.length 0:=aoD rfl fun j hj => by
 unfold alz;rw [if_pos hj,aze,List.getElem?_eq_getElem hj]
theorem ayL (us:List ay) (t:Nat) (ht:t < us.length):LK us t us[t].ah.length=LK us (t+1) 0:=aoD (Si _ _ _) fun j hj => by
 rw [an4 us t _ j hj]
 congr 2
 unfold alz;by_cases h1:j < t
 · rw [if_pos h1,if_pos (by omega)]
 by_cases h2:j=t
 · subst h2;rw [if_neg (by omega),if_pos rfl,if_pos (by omega)]
 rw [if_neg h1,if_neg h2,if_neg (by omega)];split <;> rfl
theorem axC (us:List ay) (t i:Nat) (ht:t < us.length) (hi:i < us[t].ah.length) (hu:unM us[t].ah[i]=us[t].ah[i]):LK us t i=LK us t (i+1):=aoD (Si _ _ _) fun j hj => by
 rw [an4 us t _ j hj]
 congr 1
 unfold alz;by_cases h1:j < t
 · rw [if_pos h1,if_pos h1]
 by_cases h2:j=t
 ·
  subst h2;rw [if_neg (by omega),if_pos rfl,if_neg (by omega),if_pos rfl];unfold aos;rw [axQ _ _ hi hu]
 rw [if_neg h1,if_neg h2,if_neg h1,if_neg h2]
theorem azf (us:List ay) (t i:Nat) (ht:t < us.length) (hi:i < us[t].ah.length) (h2:t < (LK us t i).length):(LK us t i).set t { (LK us t i)[t] with ah:=(LJ us[t].ah i).set i us[t].ah[i] }=LK us t (i+1):=aoD (by rw [List.length_set,Si]) fun j hj => by
 by_cases e:j=t
 ·
  subst e;rw [List.getElem?_set_self h2,arM us j i j hj h2,arL _ _ hi]
  congr 1
  have e2:alz us[j] j (i+1) j=i+1:=by unfold alz;rw [if_neg (by omega),if_pos rfl]
  rw [e2];rfl
 rw [List.getElem?_set_ne (fun h => e h.symm),an4 us t i j hj]
 congr 2
 unfold alz;rw [if_neg e,if_neg e]
theorem awe:∀ (l:List Mem) (k:Nat) (h:k < l.length) (m:Mem),unM m=unM l[k]→Js (l.flatMap ail) (k*13+5) (oD m.dflt (.slice none 0 0) (.slice none 0 0) (.slice none 0 0))=(l.set k m).flatMap ail
 | [],_,h,_,_ => by simp at h
 | x :: r,0,_,m,hm => by
  obtain ⟨x1,x2,x3,x4,x5,x6⟩:=x;obtain ⟨m1,m2,m3,m4,m5,m6⟩:=m;simp only [unM,List.getElem_cons_zero,Mem.mk.injEq] at hm;obtain ⟨rfl,rfl,rfl,rfl,rfl,_⟩:=hm
  rfl
 | x :: r,k+1,h,m,hm => by
  have ih:=awe r k (by simpa using h) m (by simpa using hm);have e:∀ (vs xs ys:List Value) (o:Nat),Js (xs ++ ys) (xs.length+o) vs=xs ++ Js ys o vs:=by
   intro vs
   induction vs with
   | nil => intro xs ys o;rfl
   | cons v vs ih2 =>
    intro xs ys o;rw [Js,Js,List.set_append_right _ _ (by omega),Nat.add_sub_cancel_left];exact ih2 xs _ (o+1)
  rw [List.flatMap_cons,List.set_cons_succ,List.flatMap_cons,← ih,show (k+1)*13+5=(ail x).length+(k*13+5) by rw [aqQ];omega];exact e _ _ _ _
theorem auE {w:World} {L B t i:Nat} {v:Value} {us:List ay} (h:MO w L B v (LK us t i)) {j:Nat} (hj:j < us.length) :
  ∃ g c y C1 n1 l1 C2 l2,v = .slice (some ⟨g,0,none⟩) us.length c∧L≤g∧g < B∧NI w g (0+j*10) y (.slice C1 n1 l1) (.slice C2 us[j].ah.length l2)∧y.kind=us[j].kind:=by
 obtain ⟨g,c,vs,vm,lo,hi,hA,Eo,hgB,hct,hte,-,-,-⟩:=h.at_ (t:=j) (by rw [Si];exact hj);rw [Si] at hA;have hx:=arM us t i j hj (by rw [Si];exact hj);obtain ⟨A5,c5,rfl⟩:=jF hte.syms;obtain ⟨A6,c6,rfl⟩:=jF hte.ah;have hml:((LK us t i)[j]'(by rw [Si];exact hj)).ah.length=us[j].ah.length:=by rw [hx];show (LJ _ _).length=_;rw [an5]
 have hk:((LK us t i)[j]'(by rw [Si];exact hj)).kind=us[j].kind:=by rw [hx];rfl
 rw [hml] at hct;rw [Nat.zero_add];exact ⟨g,c,_,A5,_,c5,A6,c6,hA,Eo,hgB,hct,hk⟩
theorem aw4 {w:World} {L B t i:Nat} {v:Value} {us:List ay} (h:MO w L B v (LK us t i)) (ht:t < us.length) (hi:i < us[t].ah.length) :
  ∃ g c gm cm lo,v = .slice (some ⟨g,0,none⟩) us.length c∧w.cell? ⟨g,t*10+6,none⟩=some (.slice (some ⟨gm,0,none⟩) us[t].ah.length cm) ∧
   w.ownsRow lo 83 13 (.slice (some ⟨gm,0,none⟩) us[t].ah.length cm) us[t].ah.length ((LJ us[t].ah i).flatMap ail)∧L≤lo∧lo≤gm∧gm < w.heap.size ∧
   ∀ w2:World,(∀ k,k < w.heap.size→k≠gm→w2.heap[k]?=w.heap[k]?)→w2.ownsRow lo 83 13 (.slice (some ⟨gm,0,none⟩) us[t].ah.length cm) us[t].ah.length ((LJ us[t].ah (i+1)).flatMap ail)→MO w2 L B v (LK us t (i+1)):=by
 have htf:t < (LK us t i).length:=by rw [Si];exact ht
 obtain ⟨g,c,vs,vm,lo,hh,hA,Eo,hgB,hct,hte,hlo,hhi,hset⟩:=h.at_ htf;have hx:=arM us t i t ht htf;have hfn:alz us[t] t i t=i:=by unfold alz;rw [if_neg (by omega),if_pos rfl]
 rw [hfn] at hx;have hfs:=azf us t i ht hi htf;rw [Si] at hA;have hm:=hte.ah;rw [hx] at hset hm hfs;have hml:(aos us[t] i).ah.length=us[t].ah.length:=an5 _ _;rw [hml] at hset hm;obtain ⟨gm,cm,rfl⟩ : ∃ gm cm,vm = .slice (some ⟨gm,0,none⟩) us[t].ah.length cm:=by
  rcases hm.2 with ⟨h1,h2⟩ | ⟨gm,cm,cur,h1,_⟩
  · omega
  exact ⟨gm,cm,h1⟩
 have hlt:=hm.lt gm rfl;refine ⟨g,c,gm,cm,lo,hA,hct.2.2.2.2.2.2.1,hm,hlo,hlt.1,hlt.2,fun w2 hk hown => ?_⟩;have hl2:((LJ us[t].ah i).set i us[t].ah[i]).length=us[t].ah.length:=by rw [List.length_set,an5]
 have h9:=hset w2 ((LJ us[t].ah i).set i us[t].ah[i]) hl2 (fun k hkl hne => hk k hkl (fun e => hne (by rw [e];rfl))) (by rw [hl2,arL _ _ hi];exact hown);rw [hfs] at h9;exact h9
theorem aAa {us:List ay} {t i:Nat} (ht:t < us.length) (hi:i < us[t].ah.length):Js ((LJ us[t].ah i).flatMap ail) (i*13+5) (oD us[t].ah[i].dflt (.slice none 0 0) (.slice none 0 0) (.slice none 0 0))=(LJ us[t].ah (i+1)).flatMap ail:=by
 have h:=auN us[t].ah i hi;have hl:i < (LJ us[t].ah i).length:=by rw [an5];exact hi
 rw [List.getElem?_eq_getElem hl] at h;rw [awe _ i hl us[t].ah[i] (by rw [Option.some.inj h];rfl),arL _ _ hi]
theorem az9 {us:List ay} {t i:Nat} (ht:t < us.length) (hi:i < us[t].ah.length) (j:Nat) (u:Value) (hu:(ail (unM us[t].ah[i]))[j]?=some u):((LJ us[t].ah i).flatMap ail)[i*13+j]?=some u:=by
 have hl:i < (LJ us[t].ah i).length:=by rw [an5];exact hi
 have hj:j < 13:=by have:=(List.getElem?_eq_some_iff.1 hu).1;rwa [aqQ] at this
 rw [flat_get aqQ _ i j hl hj];have h:=auN us[t].ah i hi;rw [List.getElem?_eq_getElem hl] at h;rw [Option.some.inj h];exact hu
def alf (w:World) (C L B:Nat) (v:Value) (xs:List ay):Prop :=
 ∃ cs:List Value,w.ownsRow L 71 10 v xs.length cs∧(∀ k,v.ownBlock=some k→k < B)∧∀ (i:Nat) (h:i < xs.length),∃ vs vm,(cs.drop (i*10)).take 10=Pq xs[i] vs vm∧alC w (fun b => b < C∨(L≤b∧b < B∧v.ownBlock≠some b)) xs[i] vs vm
section
variable {w w' w0 w1:World} {C L B:Nat} {v:Value} {xs:List ay}
theorem alf.nil (w:World) (C L B:Nat):alf w C L B (.slice none 0 0) []:=⟨[],World.ownsRow_nil _ _ _ _,fun k h => (by cases h),fun i h => by simp at h⟩
theorem alf.keep (h:alf w C L B v xs) (hk:∀ k,L≤k→k < B→w'.heap[k]?=w.heap[k]?) (hC:∀ k,k < C→w'.heap[k]?=w.heap[k]?):alf w' C L B v xs:=by
 obtain ⟨cs,h1,h0,h2⟩:=h;refine ⟨cs,qo h1 fun k hb => hk k (h1.lt k hb).1 (h0 k hb),h0,fun i hi => ?_⟩;obtain ⟨vs,vm,h3,h4⟩:=h2 i hi;refine ⟨vs,vm,h3,h4.keep (fun p hp => World.cell?_of_block ?_) fun b hb => hb⟩;rcases hp with hp | hp
 · exact hC _ hp
 exact hk p.block hp.1 hp.2.1
theorem alf.kept (h:alf w C L B v xs) (hB:B≤w.heap.size) (h0:Below C w0 w):Kept (fun w' => Below C w0 w'→alf w' C L B v xs) w L B :=
 ⟨fun _ => h,fun _ hk hb => h.keep hk fun k hC => (hb.block k hC).trans (h0.block k hC).symm,hB⟩
theorem alf.mono {B':Nat} (h:alf w C L B v xs) (hB:B≤B'):alf w C L B' v xs:=by
 obtain ⟨cs,h1,h0,h2⟩:=h;refine ⟨cs,h1,fun k hk => Nat.lt_of_lt_of_le (h0 k hk) hB,fun i hi => ?_⟩;obtain ⟨vs,vm,h3,h4⟩:=h2 i hi;refine ⟨vs,vm,h3,h4.keep (fun _ _ => rfl) fun b hb => ?_⟩;rcases hb with hb | hb
 · exact .inl hb
 exact .inr ⟨hb.1,by omega,hb.2.2⟩
theorem alf.row (h:alf w C L B v xs) (hCL:C≤L):∃ cs:List Value,w.ownsRow L 71 10 v xs.length cs∧(∀ k,v.ownBlock=some k→k < B)∧∀ (w1:World) (v1:Value) (y:ay) (vs vm:Value) (B1:Nat),w.grownBy w1 v.ownBlock→w1.ownsRow L 71 10 v1 (xs.length+1) (cs ++ Pq y vs vm) →
  (∀ k,v1.ownBlock=some k→v.ownBlock=some k∨B≤k)→B≤w.heap.size→(∀ k,v1.ownBlock=some k→k < B1)→B≤B1→alC w (fun b => b < C∨(L≤b∧b < B1∧b < w.heap.size∧v.ownBlock≠some b∧v1.ownBlock≠some b)) y vs vm→C≤w.heap.size→alf w1 C L B1 v1 (xs ++ [y]):=by
 obtain ⟨cs,h1,h0,h2⟩:=h;refine ⟨cs,h1,h0,fun w1 v1 y vs vm B1 hg ho hr hB hlt hB1 hy hCw => ⟨cs ++ Pq y vs vm,by rw [List.length_append];exact ho,hlt,fun i hi => ?_⟩⟩;have hcl:cs.length=xs.length*10:=h1.1;have hkeep:∀ p:Addr,p.block < w.heap.size→v.ownBlock≠some p.block→w1.cell? p=w.cell? p:=fun p hp hn => World.cell?_of_block (hg.block p.block hp (fun e => hn e.symm));have hlow:∀ p:Addr,p.block < C→w1.cell? p=w.cell? p:=fun p hp => hkeep p (by omega) fun e => by have:=(h1.lt _ e).1;omega
 rcases Nat.lt_or_ge i xs.length with h3 | h3
 ·
  obtain ⟨vs2,vm2,h4,h5⟩:=h2 i h3;refine ⟨vs2,vm2,?_,?_⟩
  · rw [List.getElem_append_left h3,← h4,List.drop_append_of_le_length (by omega),List.take_append_of_le_length (by rw [List.length_drop];omega)]
  rw [List.getElem_append_left h3];refine h5.keep (fun p hp => ?_) fun b hb => ?_
  ·
   rcases hp with hp | hp
   · exact hlow p hp
   exact hkeep p (by have:=hp.2.1;omega) hp.2.2
  rcases hb with hb | hb
  · exact .inl hb
  refine .inr ⟨hb.1,by have:=hb.2.1;omega,fun e => ?_⟩;rcases hr b e with h6 | h6
  · exact hb.2.2 h6
  have:=hb.2.1;omega
 have h4:i=xs.length:=by rw [List.length_append] at hi;simp at hi;omega
 subst h4;refine ⟨vs,vm,?_,?_⟩
 · exact zEp
 rw [List.getElem_append_right (Nat.le_refl _)];simp only [Nat.sub_self,List.getElem_cons_zero];refine hy.keep (fun p hp => ?_) fun b hb => ?_
 ·
  rcases hp with hp | hp
  · exact hlow p hp
  exact hkeep p hp.2.2.1 hp.2.2.2.1
 rcases hb with hb | hb
 · exact .inl hb
 exact .inr ⟨hb.1,hb.2.1,hb.2.2.2.2⟩
theorem alf.rd (h:alf w C L B v xs) (hB:B≤w.heap.size) (hC:C≤w.heap.size):aU w w.heap.size v xs:=by
 obtain ⟨cs,h1,h0,h2⟩:=h;have hcl:cs.length=xs.length*10:=h1.1;obtain ⟨A,c,hv,hc,h3⟩:=Rd.uX h1 |>.2;refine ⟨fun i => (cs.drop (i*10)).take 10,?_,fun i hi => ?_⟩
 · exact zJl
 obtain ⟨vs,vm,h3,h4⟩:=h2 i hi;refine ⟨vs,vm,h3,h4.at_ fun b hb => ?_⟩;rcases hb with hb | hb
 · omega
 have:=hb.2.1;omega
end
structure aoh (w0 wr:World) (L:Nat) (v:Value) (ms:List Mem):Prop where
 ex:∃ cs:List Value,wr.ownsRow L 83 13 v ms.length cs ∧
  ∀ (i:Nat) (h:i < ms.length),∃ vk vi vr,(cs.drop (i*13)).take 13=ZK ms[i] vk vi vr∧GH w0 w0.heap.size ms[i] vk vi vr
section
variable {w0 wr w1:World} {L:Nat} {v:Value} {ms:List Mem}
theorem aoh.nil (w0 wr:World) (L:Nat):aoh w0 wr L (.slice none 0 0) []:=⟨⟨[],World.ownsRow_nil _ _ _ _,fun i h => by simp at h⟩⟩
theorem aoh.kept (h:aoh w0 wr L v ms):Kept (fun W => aoh w0 W L v ms) wr L wr.heap.size:=by
 obtain ⟨cs,h1,h2⟩:=h.ex;exact ⟨h,fun _ hk => ⟨⟨cs,DI h1 hk,h2⟩⟩,Nat.le_refl _⟩
theorem aoh.row (h:aoh w0 wr L v ms):∃ cs:List Value,wr.ownsRow L 83 13 v ms.length cs∧∀ (w1:World) (v1:Value) (m:Mem) (vk vi vr:Value),w1.ownsRow L 83 13 v1 (ms.length+1) (cs ++ ZK m vk vi vr)→GH w0 w0.heap.size m vk vi vr→aoh w0 w1 L v1 (ms ++ [m]):=by
 obtain ⟨cs,h1,h2⟩:=h.ex;have hcl:cs.length=ms.length*13:=h1.1;refine ⟨cs,h1,fun w1 v1 m vk vi vr ho hm => ⟨⟨cs ++ ZK m vk vi vr,by rw [List.length_append];exact ho,fun i hi => ?_⟩⟩⟩;rcases Nat.lt_or_ge i ms.length with h3 | h3
 ·
  obtain ⟨a,b,c,h4,h5⟩:=h2 i h3;refine ⟨a,b,c,?_,?_⟩
  · rw [List.getElem_append_left h3,← h4,List.drop_append_of_le_length (by omega),List.take_append_of_le_length (by rw [List.length_drop];omega)]
  rw [List.getElem_append_left h3];exact h5
 have h4:i=ms.length:=by rw [List.length_append] at hi;simp at hi;omega
 subst h4;refine ⟨vk,vi,vr,?_,?_⟩
 ·
  rw [List.getElem_append_right (Nat.le_refl _),List.drop_append,List.drop_eq_nil_of_le (by omega),hcl,Nat.sub_self];simp [ZK,oD]
 rw [List.getElem_append_right (Nat.le_refl _)];simp only [Nat.sub_self,List.getElem_cons_zero];exact hm
theorem ValAt.aHA {w:World} {B:Nat} {x:Val} {vk vi vr:Value} (h:ValAt w B x vk vi vr):jq w (· < B) x vk vi vr:=by
 obtain ⟨hn,hs,hl,hri,⟨ck,h1,h2⟩,⟨ci,h3,h4⟩,h5⟩:=h;exact ⟨hn,hs,hl,hri,⟨ck,h1,fun i hi => (h2 i hi).toP⟩,⟨ci,h3,fun i hi => (h4 i hi).toP⟩,h5⟩
theorem GH.toP {w:World} {B:Nat} {m:Mem} {vk vi vr:Value} (h:GH w B m vk vi vr):as5 w (· < B) m vk vi vr:=⟨h.ints,h.GI,h.dflt.aHA⟩
theorem aoh.all (h:aoh w0 wr L v ms) (hb:Below w0.heap.size w0 wr):als wr (fun b => b < w0.heap.size∨(L≤b∧b < wr.heap.size)) v ms:=by
 obtain ⟨cs,h1,h2⟩:=h.ex;have hcl:cs.length=ms.length*13:=h1.1;obtain ⟨A,c,hv,hc,h3⟩:=(Rd.uX h1).2;refine ⟨fun i => (cs.drop (i*13)).take 13,?_,fun i hi => ?_⟩
 ·
  refine ⟨A,c,hv,hc,?_⟩;rcases h3 with h3 | ⟨b,o,hA,hS,hcell⟩
  · exact .inl h3
  refine .inr ⟨b,o,hA,.inr ⟨(h1.lt b (by rw [hv,hA];rfl)).1,hS⟩,fun i hi j u hu => ?_⟩;have hj:j < 13:=by
   have:=(List.getElem?_eq_some_iff.1 hu).1;simp at this;omega
  rw [List.getElem?_take_of_lt hj,List.getElem?_drop] at hu;have h4:=hcell (i*13+j) u hu;rwa [show o+(i*13+j)=o+i*13+j by omega] at h4
 obtain ⟨a,b,c,h4,h5⟩:=h2 i hi;exact ⟨a,b,c,h4,h5.toP.keep (fun p hp => hb.cell hp) fun b hb => .inl hb⟩
end
end Go.Proofs.YtlamhkffnlgofaaGreatDoor

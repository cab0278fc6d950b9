/- Values that come in, of any depth. Schemas that come in. What sheaveref07.size and Few return: some number, some bool. No condition. -/
import Derived.Test.YthkfapcadhnaeaaGreatDoorHAA
import Derived.Lib.SmallJoins
import Derived.Test.YthkfapcadhnaeaaGreatDoorValid
set_option maxHeartbeats 4000000
namespace Go.Proofs.YthkfapcadhnaeaaGreatDoor
open Go.ChangeShapes Go.WideShapes Go.ChangeAt Go.RowKit Go.Joins
section
variable {H:Type} {enc:TypeId × Value→H} {w:World} {base:Nat} {spare:Nat→Bool} {held:Bool}
theorem Rf {parts:List (DataW H × List MemPlace)} {y:DataW H × List MemPlace} (h:y ∈ parts):SizeOf.sizeOf y.1 < SizeOf.sizeOf (DataW.agg (parts.map (·.1))):=by
 have h1:y.1 ∈ parts.map (·.1):=List.mem_map.2 ⟨y,h,rfl⟩
 have h2:=List.sizeOf_lt_of_mem h1
 simp only [DataW.agg.sizeOf_spec]
 omega
theorem abV {es sp:List (DataW H)} {y:DataW H} (h:y ∈ es):SizeOf.sizeOf y < SizeOf.sizeOf (DataW.slice es sp):=by
 have h2:=List.sizeOf_lt_of_mem h
 simp only [DataW.slice.sizeOf_spec]
 omega
set_option maxRecDepth 100000 in
theorem Ie {t e:TypeId} {size fuel:Nat} {cs:List Value} {x:DataW H × List MemPlace} (ht:Tryz.prog.underlying t=some (.slice e)) (hC:Tryz.prog.cellsOf e=size) (hpos:0 < size)
  (h:DataW.trod enc Tryz.prog w base spare held fuel t cs=some x) (hs:Sz t x.1) :
  ∃ (A:Option Addr) (len cap:Nat),cs = [.slice A len cap]∧len≤cap∧len*Tryz.prog.bytesOf e≤140737488351232 ∧
   (len=0∨∃ b o,A=some ⟨b,o,none⟩∧b < w.heap.size∧∃ (N:Nat) (D:Nat→DataW H) (Pl:Nat→List MemPlace),∀ i,i < len→∃ cs',cs'.length=size ∧
    (∀ j u,cs'[j]?=some u→w.cell? ⟨b,o+i*size+j,none⟩=some u)∧DataW.trod enc Tryz.prog w base spare held N e cs'=some (D i,Pl i)∧Sz e (D i)∧SizeOf.sizeOf (D i) < SizeOf.sizeOf x.1):=by
 rcases Go.Deep.open_slice ht h with ⟨rfl,_⟩ | ⟨a,len,cap,m,n,D,Pl,rfl,hb,hl,hm,hmm,rfl,hel⟩
 · exact ⟨none,0,0,rfl,Nat.le_refl _,by simp,.inl rfl⟩
 have hlm:len≤m:=by rw [hmm];split <;> omega
 refine ⟨some a,len,cap,rfl,hl,?_,?_⟩
 ·
  have:=hs.len ht
  simp only [List.length_map,List.length_range] at this
  exact Nat.le_trans (Nat.mul_le_mul_right _ (by omega)) this
 by_cases h0:len=0
 · exact .inl h0
 right
 have hcell:∀ i,i < len→∃ cs',cs'.length=size∧(∀ j,j < size→w.cell? ((a.add (i*size)).add j)=cs'[j]?)∧DataW.trod enc Tryz.prog w base spare held n e cs'=some (D i,Pl i):=fun i hi => by
  obtain ⟨cs',h1,h2⟩:=hel i (by omega)
  rw [hC] at h1
  obtain ⟨_,h3,h4⟩:=World.cells?_some h1
  exact ⟨cs',h3,h4,h2⟩
 have h00:∃ u,w.cell? a=some u:=by
  obtain ⟨cs',h1,h2,_⟩:=hcell 0 (by omega)
  have:=h2 0 hpos
  have e0:(a.add (0*size)).add 0=a:=by simp [Addr.add]
  rw [e0] at this
  exact ⟨cs'[0]'(by omega),by rw [this];exact List.getElem?_eq_getElem (by omega)⟩
 obtain ⟨u,hu⟩:=h00
 have hsp:a.spot=none:=by
  cases hs:a.spot with
  | none => rfl
  | some s => simp [World.cell?,hs] at hu;split at hu <;> simp at hu
 obtain ⟨b,o,sp⟩:=a
 simp only at hsp
 subst hsp
 refine ⟨b,o,rfl,World.block_lt_of_cell? _ _ hu,n,D,Pl,fun i hi => ?_⟩
 obtain ⟨cs',h1,h2,h3⟩:=hcell i hi
 have hmem:D i ∈ (List.range len).map D:=List.mem_map.2 ⟨i,by simpa using hi,rfl⟩
 refine ⟨cs',h1,fun j v hv => ?_,h3,hs.elem ht hmem,abV hmem⟩
 have hj:j < size:=by rw [← h1];exact (List.getElem?_eq_some_iff.1 hv).1
 have e1:((⟨b,o,none⟩ : Addr).add (i*size)).add j=⟨b,o+i*size+j,none⟩:=by unfold Addr.add;split <;> split <;> simp_all
 rw [← e1,h2 j hj,hv]
set_option maxRecDepth 100000 in
theorem ah0 (N:Nat) (cs:List Value) (D:DataW H) (Q:List MemPlace) (hl:cs.length=2)
  (h:DataW.trod enc Tryz.prog w base spare held N 123 cs=some (D,Q)) (hs:Sz 123 D):∃ x:Raw,cs=Bz x∧pV x:=by
 obtain ⟨xs,n,rfl,hx,_,hxl,hg⟩:=DataW.trod_struct Tryz.underlying123 h
 obtain ⟨c0,c1,rfl⟩ : ∃ a b,cs = [a,b]:=by
  match cs,hl with
  | [a,b],_ => exact ⟨a,b,rfl⟩
 match xs,hxl with
 | [y0,y1],_ =>
  injection hx with hx1 hx2
  have k0:Tryz.prog.cellsOf 3=1:=by kernel_rfl
  have k2:Tryz.prog.cellsOf 9=1:=by kernel_rfl
  have h0:DataW.trod enc Tryz.prog w base spare held n 3 (([c0,c1].drop 0).take (Tryz.prog.cellsOf 3))=some y0:=hg 0 _ rfl
  rw [k0] at h0
  have h3:DataW.trod enc Tryz.prog w base spare held n 9 (([c0,c1].drop 1).take (Tryz.prog.cellsOf 9))=some y1:=hg 1 _ rfl
  rw [k2] at h3
  obtain ⟨n0,e0,_,w0⟩:=DataW.trod_int Tryz.underlying3 h0
  obtain ⟨s,e3,e4,_⟩:=DataW.trod_string Tryz.underlying9 h3
  simp only [List.drop,List.take,List.cons.injEq,and_true] at e0 e3
  subst e0 e3
  obtain ⟨l,rfl,hll⟩:=yg s
  refine ⟨(n0,l),rfl,wf_i64 w0,?_⟩
  subst hx1
  have hz:=Sz.field hs Tryz.underlying123 (i:=1) rfl rfl
  rw [e4] at hz
  simpa using hz.str
set_option maxRecDepth 100000 in
theorem XA {fuel:Nat} {cs:List Value} {x:DataW H × List MemPlace} (h:DataW.trod enc Tryz.prog w base spare held fuel 27 cs=some x) (hs:Sz 27 x.1)
  (ih:∀ (N:Nat) (cs:List Value) (D:DataW H) (Q:List MemPlace),SizeOf.sizeOf D < SizeOf.sizeOf x.1→cs.length=8→DataW.trod enc Tryz.prog w base spare held N 30 cs=some (D,Q)→Sz 30 D→∃ y:Val,mP w w.heap.size y cs) :
  ∃ (v:Value) (xs:List Val),cs = [v]∧xs.length≤1172812402926∧kN w w.heap.size v xs:=by
 obtain ⟨A,len,cap,rfl,hl,hb,hrow⟩:=Ie Tryz.underlying27 (size:=8) (by kernel_rfl) (by decide) h hs
 have hbb:Tryz.prog.bytesOf 30=120:=by kernel_rfl
 rw [hbb] at hb
 rcases hrow with rfl | ⟨b,o,rfl,hlt,N,D,Pl,hi⟩
 · exact ⟨_,[],rfl,by simp,fun _ => [],⟨A,cap,rfl,hl,.inl rfl⟩,fun i h => by simp at h⟩
 have hex:∀ i:Nat,∃ p:Val × List Value,i < len→(∀ j u,p.2[j]?=some u→w.cell? ⟨b,o+i*8+j,none⟩=some u)∧mP w w.heap.size p.1 p.2:=by
  intro i
  by_cases h0:i < len
  ·
   obtain ⟨cs',h1,h2,h3,h4,h5⟩:=hi i h0
   obtain ⟨y,hy⟩:=ih N cs' (D i) (Pl i) h5 h1 h3 h4
   exact ⟨(y,cs'),fun _ => ⟨h2,hy⟩⟩
  exact ⟨(kJ,[]),fun h => absurd h h0⟩
 obtain ⟨F,hF⟩:=Classical.axiomOfChoice hex
 refine ⟨_,(List.range len).map (fun i => (F i).1),rfl,by simp;omega,fun i => (F i).2,⟨_,cap,by simp,by simpa using hl,.inr ⟨b,o,rfl,hlt,fun i h0 => (hF i (by simpa using h0)).1⟩⟩,fun i h0 => ?_⟩
 have h1:i < len:=by simpa using h0
 simpa using (hF i h1).2
set_option maxRecDepth 100000 in
theorem ah1:∀ (S N:Nat) (cs:List Value) (D:DataW H) (Q:List MemPlace),SizeOf.sizeOf D < S→cs.length=8→DataW.trod enc Tryz.prog w base spare held N 30 cs=some (D,Q)→Sz 30 D→∃ y:Val,mP w w.heap.size y cs:=by
 intro S
 induction S with
 | zero => intro N cs D Q h;omega
 | succ S ih =>
  intro N cs D Q hS hl h hs
  obtain ⟨xs,n,rfl,hx,_,hxl,hg⟩:=DataW.trod_struct Tryz.underlying30 h
  obtain ⟨c0,c1,c2,c3,c4,c5,c6,c7,rfl⟩ : ∃ a b c d e f g h,cs = [a,b,c,d,e,f,g,h]:=by
   match cs,hl with
   | [a,b,c,d,e,f,g,h],_ => exact ⟨a,b,c,d,e,f,g,h,rfl⟩
  match xs,hxl with
  | [y0,y1,y2,y3,y4,y5,y6,y7],_ =>
   injection hx with hx1 hx2
   have k0:Tryz.prog.cellsOf 3=1:=by kernel_rfl
   have k1:Tryz.prog.cellsOf 4=1:=by kernel_rfl
   have k2:Tryz.prog.cellsOf 2=1:=by kernel_rfl
   have k3:Tryz.prog.cellsOf 9=1:=by kernel_rfl
   have k5:Tryz.prog.cellsOf 27=1:=by kernel_rfl
   have k7:Tryz.prog.cellsOf 28=1:=by kernel_rfl
   have h0:DataW.trod enc Tryz.prog w base spare held n 3 (([c0,c1,c2,c3,c4,c5,c6,c7].drop 0).take (Tryz.prog.cellsOf 3))=some y0:=hg 0 _ rfl
   have h1:DataW.trod enc Tryz.prog w base spare held n 4 (([c0,c1,c2,c3,c4,c5,c6,c7].drop 1).take (Tryz.prog.cellsOf 4))=some y1:=hg 1 _ rfl
   have h2:DataW.trod enc Tryz.prog w base spare held n 2 (([c0,c1,c2,c3,c4,c5,c6,c7].drop 2).take (Tryz.prog.cellsOf 2))=some y2:=hg 2 _ rfl
   have h3:DataW.trod enc Tryz.prog w base spare held n 9 (([c0,c1,c2,c3,c4,c5,c6,c7].drop 3).take (Tryz.prog.cellsOf 9))=some y3:=hg 3 _ rfl
   have h4:DataW.trod enc Tryz.prog w base spare held n 3 (([c0,c1,c2,c3,c4,c5,c6,c7].drop 4).take (Tryz.prog.cellsOf 3))=some y4:=hg 4 _ rfl
   have h5:DataW.trod enc Tryz.prog w base spare held n 27 (([c0,c1,c2,c3,c4,c5,c6,c7].drop 5).take (Tryz.prog.cellsOf 27))=some y5:=hg 5 _ rfl
   have h6:DataW.trod enc Tryz.prog w base spare held n 27 (([c0,c1,c2,c3,c4,c5,c6,c7].drop 6).take (Tryz.prog.cellsOf 27))=some y6:=hg 6 _ rfl
   have h7:DataW.trod enc Tryz.prog w base spare held n 28 (([c0,c1,c2,c3,c4,c5,c6,c7].drop 7).take (Tryz.prog.cellsOf 28))=some y7:=hg 7 _ rfl
   rw [k0] at h0 h4
   rw [k1] at h1
   rw [k2] at h2
   rw [k3] at h3
   rw [k5] at h5 h6
   rw [k7] at h7
   obtain ⟨n0,e0,_,w0⟩:=DataW.trod_int Tryz.underlying3 h0
   obtain ⟨b1,e1,_⟩:=DataW.trod_bool Tryz.underlying4 h1
   obtain ⟨n2,e2,_,w2⟩:=DataW.trod_int Tryz.underlying2 h2
   obtain ⟨s,e3,e3',_⟩:=DataW.trod_string Tryz.underlying9 h3
   obtain ⟨n4,e4,_,w4⟩:=DataW.trod_int Tryz.underlying3 h4
   subst hx1
   have sz3:=Sz.field hs Tryz.underlying30 (i:=3) rfl rfl
   have sz5:=Sz.field hs Tryz.underlying30 (i:=5) rfl rfl
   have sz6:=Sz.field hs Tryz.underlying30 (i:=6) rfl rfl
   have sz7:=Sz.field hs Tryz.underlying30 (i:=7) rfl rfl
   have z5:=Rf (H:=H) (parts:=[y0,y1,y2,y3,y4,y5,y6,y7]) (y:=y5) (by simp)
   have z6:=Rf (H:=H) (parts:=[y0,y1,y2,y3,y4,y5,y6,y7]) (y:=y6) (by simp)
   obtain ⟨vk,ks,ek,lk,rk⟩:=XA h5 sz5 (fun N cs D Q hD hl ht hz => ih N cs D Q (by omega) hl ht hz)
   obtain ⟨vi,is,ei,li,ri⟩:=XA h6 sz6 (fun N cs D Q hD hl ht hz => ih N cs D Q (by omega) hl ht hz)
   obtain ⟨vr,rs,er,lr,gr,rr⟩:=open_list Tryz.underlying28 (size:=2) (by kernel_rfl) (by decide) H6 h7 sz7 (good:=pV) (fun N cs' D Q hl ht hsz => ah0 N cs' D Q hl ht hsz)
   simp only [List.drop,List.take,List.cons.injEq,and_true] at e0 e1 e2 e3 e4 ek ei er
   subst e0 e1 e2 e3 e4 ek ei er
   obtain ⟨l,rfl,hll⟩:=yg s
   have hbb:Tryz.prog.bytesOf 123=24:=by kernel_rfl
   rw [hbb] at lr
   have hsl:l.length≤140737488351232:=by
    rw [e3'] at sz3
    simpa using sz3.str
   exact ⟨.mk n0 b1 n2 l n4 ks is rs,(ValAt.rd (x:=.mk n0 b1 n2 l n4 ks is rs) ⟨⟨wf_i64 w0,wf_i64 w2,wf_i64 w4⟩,hsl,⟨lk,li,by show rs.length≤_;omega⟩,gr,rk,ri,rr⟩)⟩
end
end Go.Proofs.YthkfapcadhnaeaaGreatDoor
namespace Go.Proofs.YthkfapcadhnaeaaGreatDoor
open Go.ChangeShapes Go.WideShapes Go.ChangeAt Go.RowKit Go.Joins
section
variable {H:Type} {enc:TypeId × Value→H} {w:World} {base:Nat} {spare:Nat→Bool} {held:Bool}
set_option maxRecDepth 100000 in
theorem ah3 (N:Nat) (cs:List Value) (D:DataW H) (Q:List MemPlace) (hl:cs.length=2)
  (h:DataW.trod enc Tryz.prog w base spare held N 109 cs=some (D,Q)) (hs:Sz 109 D):∃ x:Raw,cs=Bz x∧pV x:=by
 obtain ⟨xs,n,rfl,hx,_,hxl,hg⟩:=DataW.trod_struct Tryz.underlying109 h
 obtain ⟨c0,c1,rfl⟩ : ∃ c0 c1,cs = [c0,c1]:=by
  match cs,hl with
  | [c0,c1],_ => exact ⟨c0,c1,rfl⟩
 match xs,hxl with
 | [y0,y1],_ =>
  injection hx with hx1 hx2
  have k0:Tryz.prog.cellsOf 3=1:=by kernel_rfl
  have h0:DataW.trod enc Tryz.prog w base spare held n 3 (([c0,c1].drop 0).take (Tryz.prog.cellsOf 3))=some y0:=hg 0 _ rfl
  rw [k0] at h0
  have k1:Tryz.prog.cellsOf 9=1:=by kernel_rfl
  have h1:DataW.trod enc Tryz.prog w base spare held n 9 (([c0,c1].drop 1).take (Tryz.prog.cellsOf 9))=some y1:=hg 1 _ rfl
  rw [k1] at h1
  obtain ⟨n0,e0,_,w0⟩:=DataW.trod_int Tryz.underlying3 h0
  obtain ⟨s1,e1,e1',_⟩:=DataW.trod_string Tryz.underlying9 h1
  subst hx1
  have Rh:=Sz.field hs Tryz.underlying109 (i:=1) rfl rfl
  simp only [List.drop,List.take,List.cons.injEq,and_true] at e0 e1
  subst e0 e1
  obtain ⟨l1,rfl,ah4⟩:=yg s1
  have hsl1:l1.length≤140737488351232:=by
   rw [e1'] at Rh
   simpa using Rh.str
  exact ⟨(n0,l1),rfl,wf_i64 w0,hsl1⟩
set_option maxRecDepth 100000 in
theorem mem_of (N:Nat) (cs:List Value) (D:DataW H) (Q:List MemPlace) (hl:cs.length=13)
  (h:DataW.trod enc Tryz.prog w base spare held N 77 cs=some (D,Q)) (hs:Sz 77 D):∃ m:Mem,Kq w w.heap.size m cs:=by
 obtain ⟨xs,n,rfl,hx,_,hxl,hg⟩:=DataW.trod_struct Tryz.underlying77 h
 obtain ⟨c0,c1,c2,c3,c4,c5,c6,c7,c8,c9,c10,c11,c12,rfl⟩ : ∃ c0 c1 c2 c3 c4 c5 c6 c7 c8 c9 c10 c11 c12,cs = [c0,c1,c2,c3,c4,c5,c6,c7,c8,c9,c10,c11,c12]:=by
  match cs,hl with
  | [c0,c1,c2,c3,c4,c5,c6,c7,c8,c9,c10,c11,c12],_ => exact ⟨c0,c1,c2,c3,c4,c5,c6,c7,c8,c9,c10,c11,c12,rfl⟩
 match xs,hxl with
 | [y0,y1,y2,y3,y4,y5],_ =>
  injection hx with hx1 hx2
  have k0:Tryz.prog.cellsOf 3=1:=by kernel_rfl
  have h0:DataW.trod enc Tryz.prog w base spare held n 3 (([c0,c1,c2,c3,c4,c5,c6,c7,c8,c9,c10,c11,c12].drop 0).take (Tryz.prog.cellsOf 3))=some y0:=hg 0 _ rfl
  rw [k0] at h0
  have k1:Tryz.prog.cellsOf 9=1:=by kernel_rfl
  have h1:DataW.trod enc Tryz.prog w base spare held n 9 (([c0,c1,c2,c3,c4,c5,c6,c7,c8,c9,c10,c11,c12].drop 1).take (Tryz.prog.cellsOf 9))=some y1:=hg 1 _ rfl
  rw [k1] at h1
  have k2:Tryz.prog.cellsOf 3=1:=by kernel_rfl
  have h2:DataW.trod enc Tryz.prog w base spare held n 3 (([c0,c1,c2,c3,c4,c5,c6,c7,c8,c9,c10,c11,c12].drop 2).take (Tryz.prog.cellsOf 3))=some y2:=hg 2 _ rfl
  rw [k2] at h2
  have k3:Tryz.prog.cellsOf 4=1:=by kernel_rfl
  have h3:DataW.trod enc Tryz.prog w base spare held n 4 (([c0,c1,c2,c3,c4,c5,c6,c7,c8,c9,c10,c11,c12].drop 3).take (Tryz.prog.cellsOf 4))=some y3:=hg 3 _ rfl
  rw [k3] at h3
  have k4:Tryz.prog.cellsOf 4=1:=by kernel_rfl
  have h4:DataW.trod enc Tryz.prog w base spare held n 4 (([c0,c1,c2,c3,c4,c5,c6,c7,c8,c9,c10,c11,c12].drop 4).take (Tryz.prog.cellsOf 4))=some y4:=hg 4 _ rfl
  rw [k4] at h4
  have k5:Tryz.prog.cellsOf 30=8:=by kernel_rfl
  have h5:DataW.trod enc Tryz.prog w base spare held n 30 (([c0,c1,c2,c3,c4,c5,c6,c7,c8,c9,c10,c11,c12].drop 5).take (Tryz.prog.cellsOf 30))=some y5:=hg 5 _ rfl
  rw [k5] at h5
  obtain ⟨n0,e0,_,w0⟩:=DataW.trod_int Tryz.underlying3 h0
  obtain ⟨s1,e1,e1',_⟩:=DataW.trod_string Tryz.underlying9 h1
  obtain ⟨n2,e2,_,w2⟩:=DataW.trod_int Tryz.underlying3 h2
  obtain ⟨n3,e3,_⟩:=DataW.trod_bool Tryz.underlying4 h3
  obtain ⟨n4,e4,_⟩:=DataW.trod_bool Tryz.underlying4 h4
  subst hx1
  have Rh:=Sz.field hs Tryz.underlying77 (i:=1) rfl rfl
  have sz5:=Sz.field hs Tryz.underlying77 (i:=5) rfl rfl
  obtain ⟨y,hy⟩:=ah1 _ n _ y5.1 y5.2 (Nat.lt_succ_self _) rfl h5 sz5
  obtain ⟨vk,vi,vr,hcs,hva⟩:=hy.inv
  have hcs2 : [c5,c6,c7,c8,c9,c10,c11,c12]=iQ y vk vi vr:=hcs
  simp only [List.drop,List.take,List.cons.injEq,and_true] at e0 e1 e2 e3 e4
  subst e0 e1 e2 e3 e4
  obtain ⟨l1,rfl,ah4⟩:=yg s1
  have hsl1:l1.length≤140737488351232:=by
   rw [e1'] at Rh
   simpa using Rh.str
  refine ⟨⟨n0,l1,n2,n3,n4,y⟩,vk,vi,vr,?_,⟨wf_i64 w0,wf_i64 w2⟩,hsl1,hva⟩
  unfold VJ
  rw [← hcs2]
  rfl
set_option maxRecDepth 100000 in
theorem agR {fuel:Nat} {cs:List Value} {x:DataW H × List MemPlace} (h:DataW.trod enc Tryz.prog w base spare held fuel 67 cs=some x) (hs:Sz 67 x.1) :
  ∃ (v:Value) (xs:List Mem),cs = [v]∧xs.length≤6000000000000∧lN w w.heap.size v xs:=by
 obtain ⟨A,len,cap,rfl,hl,hb,hrow⟩:=Ie Tryz.underlying67 (size:=13) (by kernel_rfl) (by decide) h hs
 have hbb:Tryz.prog.bytesOf 77=160:=by kernel_rfl
 rw [hbb] at hb
 rcases hrow with rfl | ⟨b,o,rfl,hlt,N,D,Pl,hi⟩
 · exact ⟨_,[],rfl,by simp,fun _ => [],⟨A,cap,rfl,hl,.inl rfl⟩,fun i h => by simp at h⟩
 have hex:∀ i:Nat,∃ p:Mem × List Value,i < len→(∀ j u,p.2[j]?=some u→w.cell? ⟨b,o+i*13+j,none⟩=some u)∧Kq w w.heap.size p.1 p.2:=by
  intro i
  by_cases h0:i < len
  ·
   obtain ⟨cs',h1,h2,h3,h4,h5⟩:=hi i h0
   obtain ⟨y,hy⟩:=mem_of N cs' (D i) (Pl i) h1 h3 h4
   exact ⟨(y,cs'),fun _ => ⟨h2,hy⟩⟩
  exact ⟨(⟨0,[],0,false,false,kJ⟩,[]),fun h => absurd h h0⟩
 obtain ⟨F,hF⟩:=Classical.axiomOfChoice hex
 refine ⟨_,(List.range len).map (fun i => (F i).1),rfl,by simp;omega,fun i => (F i).2,⟨_,cap,by simp,by simpa using hl,.inr ⟨b,o,rfl,hlt,fun i h0 => (hF i (by simpa using h0)).1⟩⟩,fun i h0 => ?_⟩
 have h1:i < len:=by simpa using h0
 simpa using (hF i h1).2
set_option maxRecDepth 100000 in
theorem ah5 (N:Nat) (cs:List Value) (D:DataW H) (Q:List MemPlace) (hl:cs.length=10)
  (h:DataW.trod enc Tryz.prog w base spare held N 69 cs=some (D,Q)) (hs:Sz 69 D):∃ (x:aC) (vs vm:Value),cs=Nh x vs vm∧eX w w.heap.size x vs vm∧x.syms.length≤6000000000000∧x.aj.length≤6000000000000:=by
 obtain ⟨xs,n,rfl,hx,_,hxl,hg⟩:=DataW.trod_struct Tryz.underlying69 h
 obtain ⟨c0,c1,c2,c3,c4,c5,c6,c7,c8,c9,rfl⟩ : ∃ c0 c1 c2 c3 c4 c5 c6 c7 c8 c9,cs = [c0,c1,c2,c3,c4,c5,c6,c7,c8,c9]:=by
  match cs,hl with
  | [c0,c1,c2,c3,c4,c5,c6,c7,c8,c9],_ => exact ⟨c0,c1,c2,c3,c4,c5,c6,c7,c8,c9,rfl⟩
 match xs,hxl with
 | [y0,y1,y2,y3,y4,y5,y6,y7,y8,y9],_ =>
  injection hx with hx1 hx2
  have k0:Tryz.prog.cellsOf 3=1:=by kernel_rfl
  have h0:DataW.trod enc Tryz.prog w base spare held n 3 (([c0,c1,c2,c3,c4,c5,c6,c7,c8,c9].drop 0).take (Tryz.prog.cellsOf 3))=some y0:=hg 0 _ rfl
  rw [k0] at h0
  have k1:Tryz.prog.cellsOf 9=1:=by kernel_rfl
  have h1:DataW.trod enc Tryz.prog w base spare held n 9 (([c0,c1,c2,c3,c4,c5,c6,c7,c8,c9].drop 1).take (Tryz.prog.cellsOf 9))=some y1:=hg 1 _ rfl
  rw [k1] at h1
  have k2:Tryz.prog.cellsOf 2=1:=by kernel_rfl
  have h2:DataW.trod enc Tryz.prog w base spare held n 2 (([c0,c1,c2,c3,c4,c5,c6,c7,c8,c9].drop 2).take (Tryz.prog.cellsOf 2))=some y2:=hg 2 _ rfl
  rw [k2] at h2
  have k3:Tryz.prog.cellsOf 2=1:=by kernel_rfl
  have h3:DataW.trod enc Tryz.prog w base spare held n 2 (([c0,c1,c2,c3,c4,c5,c6,c7,c8,c9].drop 3).take (Tryz.prog.cellsOf 2))=some y3:=hg 3 _ rfl
  rw [k3] at h3
  have k4:Tryz.prog.cellsOf 3=1:=by kernel_rfl
  have h4:DataW.trod enc Tryz.prog w base spare held n 3 (([c0,c1,c2,c3,c4,c5,c6,c7,c8,c9].drop 4).take (Tryz.prog.cellsOf 3))=some y4:=hg 4 _ rfl
  rw [k4] at h4
  have k5:Tryz.prog.cellsOf 66=1:=by kernel_rfl
  have h5:DataW.trod enc Tryz.prog w base spare held n 66 (([c0,c1,c2,c3,c4,c5,c6,c7,c8,c9].drop 5).take (Tryz.prog.cellsOf 66))=some y5:=hg 5 _ rfl
  rw [k5] at h5
  have k6:Tryz.prog.cellsOf 67=1:=by kernel_rfl
  have h6:DataW.trod enc Tryz.prog w base spare held n 67 (([c0,c1,c2,c3,c4,c5,c6,c7,c8,c9].drop 6).take (Tryz.prog.cellsOf 67))=some y6:=hg 6 _ rfl
  rw [k6] at h6
  have k7:Tryz.prog.cellsOf 3=1:=by kernel_rfl
  have h7:DataW.trod enc Tryz.prog w base spare held n 3 (([c0,c1,c2,c3,c4,c5,c6,c7,c8,c9].drop 7).take (Tryz.prog.cellsOf 3))=some y7:=hg 7 _ rfl
  rw [k7] at h7
  have k8:Tryz.prog.cellsOf 3=1:=by kernel_rfl
  have h8:DataW.trod enc Tryz.prog w base spare held n 3 (([c0,c1,c2,c3,c4,c5,c6,c7,c8,c9].drop 8).take (Tryz.prog.cellsOf 3))=some y8:=hg 8 _ rfl
  rw [k8] at h8
  have k9:Tryz.prog.cellsOf 4=1:=by kernel_rfl
  have h9:DataW.trod enc Tryz.prog w base spare held n 4 (([c0,c1,c2,c3,c4,c5,c6,c7,c8,c9].drop 9).take (Tryz.prog.cellsOf 4))=some y9:=hg 9 _ rfl
  rw [k9] at h9
  obtain ⟨n0,e0,_,w0⟩:=DataW.trod_int Tryz.underlying3 h0
  obtain ⟨s1,e1,e1',_⟩:=DataW.trod_string Tryz.underlying9 h1
  obtain ⟨n2,e2,_,w2⟩:=DataW.trod_int Tryz.underlying2 h2
  obtain ⟨n3,e3,_,w3⟩:=DataW.trod_int Tryz.underlying2 h3
  obtain ⟨n4,e4,_,w4⟩:=DataW.trod_int Tryz.underlying3 h4
  obtain ⟨n7,e7,_,w7⟩:=DataW.trod_int Tryz.underlying3 h7
  obtain ⟨n8,e8,_,w8⟩:=DataW.trod_int Tryz.underlying3 h8
  obtain ⟨n9,e9,_⟩:=DataW.trod_bool Tryz.underlying4 h9
  subst hx1
  have Rh:=Sz.field hs Tryz.underlying69 (i:=1) rfl rfl
  have sz5:=Sz.field hs Tryz.underlying69 (i:=5) rfl rfl
  have sz6:=Sz.field hs Tryz.underlying69 (i:=6) rfl rfl
  obtain ⟨vs,ss,es,ls,gs,rs⟩:=open_list Tryz.underlying66 (size:=2) (by kernel_rfl) (by decide) H6 h5 sz5 (good:=pV) (fun N cs' D Q hl ht hsz => ah3 N cs' D Q hl ht hsz)
  have hbb:Tryz.prog.bytesOf 109=24:=by kernel_rfl
  rw [hbb] at ls
  obtain ⟨vm,ms,em,lm,rm⟩:=agR h6 sz6
  simp only [List.drop,List.take,List.cons.injEq,and_true] at e0 e1 e2 e3 e4 e7 e8 e9 es em
  subst e0 e1 e2 e3 e4 e7 e8 e9 es em
  obtain ⟨l1,rfl,ah4⟩:=yg s1
  have hsl1:l1.length≤140737488351232:=by
   rw [e1'] at Rh
   simpa using Rh.str
  exact ⟨⟨n0,l1,n2,n3,n4,ss,ms,n7,n8,n9⟩,_,_,rfl,⟨⟨wf_i64 w0,wf_i64 w2,wf_i64 w3,wf_i64 w4,wf_i64 w7,wf_i64 w8⟩,hsl1,⟨by show ss.length≤_;omega,by show ms.length≤_;omega⟩,gs,rs,rm⟩,by show ss.length≤_;omega,lm⟩
set_option maxRecDepth 100000 in
theorem agS {fuel:Nat} {cs:List Value} {x:DataW H × List MemPlace} (h:DataW.trod enc Tryz.prog w base spare held fuel 22 cs=some x) (hs:Sz 22 x.1) :
  ∃ (v:Value) (xs:List aC),cs = [v]∧xs.length≤140737488351232∧bG w w.heap.size v xs∧Sizes xs:=by
 obtain ⟨A,len,cap,rfl,hl,hb,hrow⟩:=Ie Tryz.underlying22 (size:=10) (by kernel_rfl) (by decide) h hs
 have hbb:0 < Tryz.prog.bytesOf 69:=by
  rw [show Tryz.prog.bytesOf 69=120 by kernel_rfl];omega
 have hlen:len≤140737488351232:=Nat.le_trans (Nat.le_mul_of_pos_right _ hbb) hb
 rcases hrow with rfl | ⟨b,o,rfl,hlt,N,D,Pl,hi⟩
 · exact ⟨_,[],rfl,by simp,⟨fun _ => [],⟨A,cap,rfl,hl,.inl rfl⟩,fun i h => by simp at h⟩,fun x hx => by simp at hx⟩
 have hex:∀ i:Nat,∃ p:aC × List Value,i < len→(∀ j u,p.2[j]?=some u→w.cell? ⟨b,o+i*10+j,none⟩=some u)∧∃ vs vm,p.2=Nh p.1 vs vm∧eX w w.heap.size p.1 vs vm∧p.1.syms.length≤6000000000000∧p.1.aj.length≤6000000000000:=by
  intro i
  by_cases h0:i < len
  ·
   obtain ⟨cs',h1,h2,h3,h4,_⟩:=hi i h0
   obtain ⟨y,vs,vm,hy,hn⟩:=ah5 N cs' (D i) (Pl i) h1 h3 h4
   exact ⟨(y,cs'),fun _ => ⟨h2,vs,vm,hy,hn⟩⟩
  exact ⟨(fZ,[]),fun h => absurd h h0⟩
 obtain ⟨F,hF⟩:=Classical.axiomOfChoice hex
 refine ⟨_,(List.range len).map (fun i => (F i).1),rfl,by simpa using hlen,⟨fun i => (F i).2,⟨_,cap,by simp,by simpa using hl,.inr ⟨b,o,rfl,hlt,fun i h0 => (hF i (by simpa using h0)).1⟩⟩,fun i h0 => ?_⟩,fun x hx => ?_⟩
 ·
  have h1:i < len:=by simpa using h0
  obtain ⟨vs,vm,h2,h3,_⟩:=(hF i h1).2
  exact ⟨vs,vm,by simpa using h2,by simpa using h3⟩
 obtain ⟨i,hi2,rfl⟩:=List.mem_map.1 hx
 obtain ⟨vs,vm,h2,h3,h4⟩:=(hF i (by simpa using hi2)).2
 exact h4
end
set_option maxRecDepth 100000 in
theorem Le {H:Type} {enc:TypeId × Value→H} {W:World} {base0:Nat} {v:Value} {d:DataW H} {p:List MemPlace} (hv:Value.okWide Tryz.prog W .any base0 24 v) (h:DataW.Trod enc Tryz.prog W 0 (fun _ => true) true 24 v d p) (hs:Sz 24 d) :
  ∃ (ts:List aC) (A:Option Addr) (c:Nat),v = .agg #[.slice A ts.length c]∧Sizes ts∧bG W W.heap.size (.slice A ts.length c) ts:=by
 obtain ⟨cs,rfl,hsz⟩:=okWide_struct Tryz.underlying24 hv
 obtain ⟨fuel,hf⟩:=h
 have hC:Tryz.prog.cellsOf 24=1:=by kernel_rfl
 obtain ⟨xs,n,rfl,hx,_,hxl,hg⟩:=DataW.trod_struct Tryz.underlying24 hf
 match xs,hxl with
 | [y0],_ =>
  injection hx with hx1 hx2
  have k0:Tryz.prog.cellsOf 22=1:=by kernel_rfl
  have h0:DataW.trod enc Tryz.prog W 0 (fun _ => true) true n 22 (((Value.agg cs).cells.toList.drop 0).take (Tryz.prog.cellsOf 22))=some y0:=hg 0 _ rfl
  subst hx1
  have sz0:=Sz.field hs Tryz.underlying24 (i:=0) rfl rfl
  obtain ⟨vn,ts,e,_,r,hz⟩:=agS h0 sz0
  obtain ⟨A,c,rfl,_⟩:=r.form
  refine ⟨ts,A,c,?_,hz,r⟩
  rw [k0] at e
  have hl:cs.toList.length=1:=by simpa [hC] using hsz
  congr 1
  apply Array.toList_inj.1
  simp only [Value.cells,List.drop_zero] at e
  rw [List.take_of_length_le (by omega)] at e
  exact e
end Go.Proofs.YthkfapcadhnaeaaGreatDoor
namespace Go.Proofs.YthkfapcadhnaeaaGreatDoor
open Go.ChangeShapes Go.WideShapes Go.ChangeAt Go.RowKit
def ajM (w:World) (e:Ending) (w':World):Prop:=(∃ n:Int,e = .returned (.int .i64 n))∧Below w.heap.size w w'
def af4 (w:World) (e:Ending) (w':World):Prop:=(∃ b:Bool,e = .returned (.bool b))∧Below w.heap.size w w'
set_option maxRecDepth 100000 in
theorem agT:∀ (N:Nat) (x:Val) (vk vi vr:Value) (w:World),nodes x≤N→ValAt w w.heap.size x vk vi vr→Calls Tryz.prog 58 #[iC x vk vi vr] w (ajM w):=by
 intro N
 induction N with
 | zero => intro x vk vi vr w h;have:=abA x;omega
 | succ N ih =>
  intro x vk vi vr w hN hv
  have hle:=hv.lens
  have hsl:=hv.yP
  have HRW:=Lib.hid hv.PS
  obtain ⟨A1,n1,A2,n2,A3,n3,rfl,rfl,rfl,-,-,-⟩:=hv.forms
  have hnn:l9 x.keys+l9 x.items≤N:=by have:=MX x;omega
  have HV:=Lib.hid hv
  have IH:=Lib.hid ih
  clear hv ih hN
  go_enter Tryz.func58,Tryz.ntmps58
  go_upto_region 1 with fail
  generalize dJ:w.alloc _=wd2
  have ⟨hb1,V⟩:=bH dJ
  clear dJ
  have hw4:=hb1
  clear hb1
  have eU:=V.out.e3
  have Ri:=Lib.hid V.out
  have hB0:=hw4
  go_wp2_with fail
  clear eU
  go_loopw [3,4] (fun m i wr => ∃ (k:Nat) (a:Int),k≤x.keys.length∧i = .int .i64 k∧m = .int .i64 a∧Has wr w.heap.size 30 #[.int .i64 x.kind,.bool x.bool,.int .i64 x.num,.string ⟨x.str.toArray⟩,.int .i64 x.id,.slice A1 x.keys.length n1,.slice A2 x.items.length n2,.slice A3 x.rest.length n3]∧Below w.heap.size w wr) (fun _ i _ => x.keys.length - (intOf i).toNat)
  case atStart => exact ⟨0,_,by omega,rfl,rfl,Ri.out,hB0⟩
  case round =>
   clear V Ri hB0
   obtain ⟨k,a,hk,rfl,rfl,V,hb⟩:=hrel
   replace V:=Lib.hid V
   by_cases hlt:k < x.keys.length
   ·
    obtain ⟨b,o,hA,hbb,hel⟩:=(HV.out.on hb).keys.elem (by omega)
    obtain ⟨yk,yi,yr,hcells,hva⟩:=hel k hlt
    have hny:=vX x.keys x.keys[k] (List.getElem_mem hlt)
    generalize x.keys[k]=y at *
    obtain ⟨B1,k1,B2,k2,B3,k3,rfl,rfl,rfl,-,-,-⟩:=hva.forms
    obtain ⟨d0,d1,d2,d3,d4,d5,d6,d7⟩:=hcells
    have HA:=Lib.hid hva
    have hk1:(k:Int) < x.keys.length:=by omega
    clear hel hva
    have dW:=V.out.e5
    go_wp2_with fail
    clear dW
    ((with_reducible refine (IH.out y _ _ _ _ (by omega) HA.out).mono ?_);rintro e qM ⟨⟨z,rfl⟩,hb6⟩)
    replace V:=b1 V hb6
    replace hb:=dT hb hb6
    clear hb6
    clear d0 d1 d2 d3 d4 d5 d6 d7 hA
    go_wp2_with fail
    go_roundw
    case rel => exact ⟨k+1,_,by omega,by go_num,rfl,V.out,hb⟩
    case measure => simp [intOf];omega
   obtain rfl:k=x.keys.length:=by omega
   have dW:=V.out.e5
   have Ri:=Lib.hid V.out
   have hB0:=hb
   go_wp2_with fail
   clear dW
   go_loopw [3,5] (fun m i wr => ∃ (k:Nat) (a:Int),k≤x.items.length∧i = .int .i64 k∧m = .int .i64 a∧Has wr w.heap.size 30 #[.int .i64 x.kind,.bool x.bool,.int .i64 x.num,.string ⟨x.str.toArray⟩,.int .i64 x.id,.slice A1 x.keys.length n1,.slice A2 x.items.length n2,.slice A3 x.rest.length n3]∧Below w.heap.size w wr) (fun _ i _ => x.items.length - (intOf i).toNat)
   case atStart => exact ⟨0,_,by omega,rfl,rfl,Ri.out,hB0⟩
   case round =>
    clear V Ri hB0
    obtain ⟨k,a,hk,rfl,rfl,V,hb⟩:=hrel
    replace V:=Lib.hid V
    by_cases hlt:k < x.items.length
    ·
     obtain ⟨b,o,hA,hbb,hel⟩:=(HV.out.on hb).items.elem (by omega)
     obtain ⟨yk,yi,yr,hcells,hva⟩:=hel k hlt
     have hny:=vX x.items x.items[k] (List.getElem_mem hlt)
     generalize x.items[k]=y at *
     obtain ⟨B1,k1,B2,k2,B3,k3,rfl,rfl,rfl,-,-,-⟩:=hva.forms
     obtain ⟨d0,d1,d2,d3,d4,d5,d6,d7⟩:=hcells
     have HA:=Lib.hid hva
     have hk1:(k:Int) < x.items.length:=by omega
     clear hel hva
     have dK:=V.out.e6
     go_wp2_with fail
     clear dK
     ((with_reducible refine (IH.out y _ _ _ _ (by omega) HA.out).mono ?_);rintro e oW ⟨⟨z,rfl⟩,hb8⟩)
     replace V:=b1 V hb8
     replace hb:=dT hb hb8
     clear hb8
     clear d0 d1 d2 d3 d4 d5 d6 d7 hA
     go_wp2_with fail
     go_roundw
     case rel => exact ⟨k+1,_,by omega,by go_num,rfl,V.out,hb⟩
     case measure => simp [intOf];omega
    obtain rfl:k=x.items.length:=by omega
    have dK:=V.out.e6
    have Ri:=Lib.hid V.out
    have hB0:=hb
    go_wp2_with fail
    clear dK
    go_loopw [3,6] (fun m i wr => ∃ (k:Nat) (a:Int),k≤x.rest.length∧i = .int .i64 k∧m = .int .i64 a∧Has wr w.heap.size 30 #[.int .i64 x.kind,.bool x.bool,.int .i64 x.num,.string ⟨x.str.toArray⟩,.int .i64 x.id,.slice A1 x.keys.length n1,.slice A2 x.items.length n2,.slice A3 x.rest.length n3]∧Below w.heap.size w wr) (fun _ i _ => x.rest.length - (intOf i).toNat)
    case atStart => exact ⟨0,_,by omega,rfl,rfl,Ri.out,hB0⟩
    case round =>
     clear V Ri hB0
     obtain ⟨k,a,hk,rfl,rfl,V,hb⟩:=hrel
     replace V:=Lib.hid V
     by_cases hlt:k < x.rest.length
     ·
      obtain ⟨b,o,hA,hbb,hcell⟩:=(HV.out.on hb).rest.at_ (by omega)
      obtain ⟨d0,d1⟩:=nP hcell k hlt
      have kT:=(HRW.out x.rest[k] (List.getElem_mem hlt)).2
      generalize x.rest[k]=r at *
      have hk1:(k:Int) < x.rest.length:=by omega
      clear hcell
      have eG:=V.out.e7
      go_wp2_with fail
      clear hA
      go_roundw
      case rel => exact ⟨k+1,_,by omega,by go_num,rfl,V.out,hb⟩
      case measure => simp [intOf];omega
     obtain rfl:k=x.rest.length:=by omega
     have eG:=V.out.e7
     go_wp2_with fail
     go_ret
     exact ⟨⟨_,rfl⟩,hb⟩
set_option maxRecDepth 100000 in
theorem agU (ts:List aC) (A:Option Addr) (c:Nat) (w:World) (ht:bG w w.heap.size (.slice A ts.length c) ts) :
  Calls Tryz.prog 27 #[.agg #[.slice A ts.length c]] w (af4 w):=by
 have HT:=Lib.hid ht
 clear ht
 by_cases h40:40 < ts.length
 ·
  have hd:(40:Int) < ts.length:=by omega
  have hd2:decide ((40:Int) < ts.length)=true:=decide_eq_true hd
  go_enter Tryz.func27,Tryz.ntmps27
  go_upto_region 1 with fail
  generalize jZ:w.alloc _=kE
  have ⟨zB,S⟩:=bH jZ
  clear jZ
  have jS:=zB
  clear zB
  have ay:=S.out.e0
  go_wp2_with fail
  go_ret
  exact ⟨⟨_,rfl⟩,jS⟩
 have hd:(ts.length:Int)≤40:=by omega
 have hd2:decide ((40:Int) < ts.length)=false:=decide_eq_false (by omega)
 clear h40
 go_enter Tryz.func27,Tryz.ntmps27
 go_upto_region 1 with fail
 generalize ng:w.alloc _=xP
 have ⟨qL,S⟩:=bH ng
 clear ng
 have hw16:=qL
 clear qL
 have ay:=S.out.e0
 have vM:=Lib.hid S.out
 have hB0:=hw16
 go_wp2_with fail
 clear ay
 go_loopw [3,4] (fun m i wr => ∃ (j:Nat) (a:Int),j≤ts.length∧i = .int .i64 j∧m = .int .i64 a∧Has wr w.heap.size 24 #[.slice A ts.length c]∧Below w.heap.size w wr) (fun _ i _ => ts.length - (intOf i).toNat)
 case atStart => exact ⟨0,_,by omega,rfl,rfl,vM.out,hB0⟩
 case round =>
  clear S vM hB0
  obtain ⟨j,a,hj,rfl,rfl,S,hb⟩:=hrel
  replace S:=Lib.hid S
  by_cases hlt:j < ts.length
  ·
   obtain ⟨b,o,hA,hbb,hel⟩:=HT.out.elem (by omega)
   obtain ⟨vs,vm,hcells,hxa⟩:=hel j hlt
   have hi1:(j:Int) < ts.length:=by omega
   generalize ts[j]=x at *
   obtain ⟨C1,m1,C2,m2,rfl,rfl,-,-⟩:=hxa.forms
   obtain ⟨c0,c1,c2,c3,c4,c5,c6,c7,c8,c9⟩:=hcells.below hb hbb
   have hls:=hxa.lens
   have hnl:=hxa.EI
   have OO:=Lib.hid hxa
   clear hxa hel hcells
   have ay:=S.out.e0
   go_upto_region 8 with fail
   clear ay
   generalize kV:wr.alloc _=qY
   have ⟨kW,X⟩:=bH kV
   clear kV
   have LH:=S.out.here
   have UK:=hb.size
   replace S:=b1 S kW
   replace hb:=dT hb kW
   clear kW
   generalize wr.heap.size=g20 at *
   clear c0 c1 c2 c3 c4 c5 c6 c7 c8 c9 hA
   obtain ⟨-,bI,-,-,-,dD,bK,-,-,-⟩:=X.out.c10
   go_wp2_with fail
   obtain ⟨gX,Rj⟩ : ∃ g,g=g20:=⟨_,rfl⟩
   subst Rj
   have HX0:=Lib.hid X.out
   have vM:=Lib.hid S.out
   have hB0:=hb
   clear bI dD bK
   go_loopw [3,6] (fun m i ws => ∃ (k:Nat) (a:Int),k≤x.aj.length∧i = .int .i64 k∧m = .int .i64 a∧Has ws w.heap.size 24 #[.slice A ts.length c]∧Has ws gX 69 #[.int .i64 x.kind,.string ⟨x.name.toArray⟩,.int .i64 x.low,.int .i64 x.high,.int .i64 x.max,.slice C1 x.syms.length m1,.slice C2 x.aj.length m2,.int .i64 x.key,.int .i64 x.elem,.bool x.opn]∧Below w.heap.size w ws) (fun _ i _ => x.aj.length - (intOf i).toNat)
   case atStart => exact ⟨0,_,by omega,rfl,rfl,vM.out,HX0.out,hB0⟩
   case round =>
    clear X S HX0 vM hB0
    obtain ⟨k,a2,hk,rfl,rfl,S,X,hb2⟩:=hrel
    replace S:=Lib.hid S
    replace X:=Lib.hid X
    by_cases hlk:k < x.aj.length∧k < 100
    ·
     obtain ⟨hlk,apG⟩:=hlk
     obtain ⟨b1,o1,rfl,hb1,hel⟩:=OO.out.aj.elem (by omega)
     obtain ⟨dk,di,dr,hcells,hma⟩:=hel k hlk
     have hk1:(k:Int) < x.aj.length:=by omega
     have hk2:(k:Int) < 100:=by omega
     have hk0:(0:Int)≤(k:Int):=by omega
     generalize x.aj[k]=m at *
     obtain ⟨D1,d1,D2,d2,D3,d3,rfl,rfl,rfl,-,-,-⟩:=hma.dflt.forms
     obtain ⟨y0,y1,y2,y3,y4,y5,y6,y7,y8,y9,BJ,BK,BL⟩:=hcells
     have hnl:=hma.EI
     have Lh:=Lib.hid hma.dflt
     clear hel hma y0 y2 y3 y4
     have bK:=X.out.e6
     go_upto_region 12 with fail
     refine wp_region_held_drew (S:=(fun w' => w'.cell? ⟨gX,6,none⟩=some (.slice (some ⟨b1,o1,none⟩) x.aj.length m2)∧(∀ (b o:Nat),b < w.heap.size→w'.cell? ⟨b,o,none⟩=w.cell? ⟨b,o,none⟩))) (by kernel_rfl) ⟨bK,(fun b o hlt => hb2.cell (p:=⟨b,o,none⟩) hlt)⟩ (fun hHeld => ?_)
     clear bK
     have jB:Below wr.heap.size wr (wr.drew):=(Below.refl _ _).drew
     obtain ⟨S,X⟩:=b2 S X jB
     replace hb2:=dT hb2 jB
     clear jB
     generalize wr.drew=kF at *
     refine wpAnyH_take (i:=0) (v := ?ara) rfl (by kernel_rfl) (by kernel_rfl) (by kernel_rfl) (fun _ _ _ h => h) (Or.inl ⟨by rfl,?aml⟩) (by assumption) ?arb
     case aml => (intro w hSw;(try dsimp only at hSw);go_simp;(first | done | with_reducible rfl))
     try simp only [dQ]
     refine wpAnyH_take (i:=1) (v := ?ard) rfl (by kernel_rfl) (by kernel_rfl) (by kernel_rfl) (fun _ _ _ h => h) (Or.inl ⟨by rfl,?amm⟩) (by assumption) ?arf
     case amm => (intro w hSw;(try dsimp only at hSw);go_simp;(first | done | with_reducible rfl))
     try simp only [dQ]
     refine wpAnyH_take (i:=2) (v := ?arh) rfl (by kernel_rfl) (by kernel_rfl) (by kernel_rfl) (fun _ _ _ h => h) (Or.inl ⟨by rfl,?amn⟩) (by assumption) ?ari
     case amn => (intro w hSw;(try dsimp only at hSw);go_simp;(first | done | with_reducible rfl))
     try simp only [dQ]
     refine wpAnyH_take (i:=3) (v := ?arj) rfl (by kernel_rfl) (by kernel_rfl) (by kernel_rfl) (fun _ _ _ h => h) (Or.inl ⟨by rfl,?amo⟩) (by assumption) ?ark
     case amo => (intro w hSw;(try dsimp only at hSw);go_simp;(first | done | with_reducible rfl))
     try simp only [dQ]
     refine wpAnyH_take (i:=4) (v := ?arl) rfl (by kernel_rfl) (by kernel_rfl) (by kernel_rfl) (fun _ _ _ h => h) (Or.inl ⟨by rfl,?amq⟩) (by assumption) ?arn
     case amq => (intro w hSw;(try dsimp only at hSw);go_simp;(first | done | with_reducible rfl))
     try simp only [dQ]
     refine wpAnyH_take (i:=5) (v := ?amr) rfl (by kernel_rfl) (by kernel_rfl) (by kernel_rfl) (fun _ _ _ h => h) (Or.inl ⟨by rfl,?adV⟩) (by assumption) ?ams
     case adV => (intro w hSw;(try dsimp only at hSw);go_simp;(first | done | with_reducible rfl))
     try simp only [dQ]
     refine wpAnyH_take (i:=6) (v := ?amu) rfl (by kernel_rfl) (by kernel_rfl) (by kernel_rfl) (fun _ _ _ h => h) (Or.inl ⟨by rfl,?hk31⟩) (by assumption) ?amv
     case hk31 => (intro w hSw;(try dsimp only at hSw);go_simp;(first | done | with_reducible rfl))
     try simp only [dQ]
     refine wpAnyH_take (i:=9) (v := ?aro) rfl (by kernel_rfl) (by kernel_rfl) (by kernel_rfl) (fun _ _ _ h => h) (Or.inl ⟨by rfl,?amw⟩) (by assumption) ?arp
     case amw => (intro w hSw;(try dsimp only at hSw);go_simp;(first | done | with_reducible rfl))
     try simp only [dQ]
     refine wpAnyH_take (i:=10) (v := ?arq) rfl (by kernel_rfl) (by kernel_rfl) (by kernel_rfl) (fun _ _ _ h => h) (Or.inl ⟨by rfl,?amx⟩) (by assumption) ?ars
     case amx => (intro w hSw;(try dsimp only at hSw);go_simp;(first | done | with_reducible rfl))
     try simp only [dQ]
     refine wpAnyH_take (i:=11) (v := ?aru) rfl (by kernel_rfl) (by kernel_rfl) (by kernel_rfl) (fun _ _ _ h => h) (Or.inl ⟨by rfl,?amy⟩) (by assumption) ?arv
     case amy => (intro w hSw;(try dsimp only at hSw);go_simp;(first | done | with_reducible rfl))
     try simp only [dQ]
     refine wpAnyH_take (i:=12) (v := ?arw) rfl (by kernel_rfl) (by kernel_rfl) (by kernel_rfl) (fun _ _ _ h => h) (Or.inl ⟨by rfl,?amA⟩) (by assumption) ?arx
     case amA => (intro w hSw;(try dsimp only at hSw);go_simp;(first | done | with_reducible rfl))
     try simp only [dQ]
     refine wpAnyH_take (i:=13) (v := ?arz) rfl (by kernel_rfl) (by kernel_rfl) (by kernel_rfl) (fun _ _ _ h => h) (Or.inl ⟨by rfl,?amB⟩) (by assumption) ?arA
     case amB => (intro w hSw;(try dsimp only at hSw);go_simp;(first | done | with_reducible rfl))
     try simp only [dQ]
     refine wpAnyH_take (i:=14) (v := ?amC) rfl (by kernel_rfl) (by kernel_rfl) (by kernel_rfl) (fun _ _ _ h => h) (Or.inl ⟨by rfl,?adW⟩) (by assumption) ?amD
     case adW => (intro w hSw;(try dsimp only at hSw);go_simp;(first | done | with_reducible rfl))
     try simp only [dQ]
     refine wpAnyH_take (i:=15) (v := ?amE) rfl (by kernel_rfl) (by kernel_rfl) (by kernel_rfl) (fun _ _ _ h => h) (Or.inl ⟨by rfl,?adX⟩) (by assumption) ?amF
     case adX => (intro w hSw;(try dsimp only at hSw);go_simp;(first | done | with_reducible rfl))
     try simp only [dQ]
     refine wpAnyH_ready (rs:=[7]) (by kernel_rfl) (by simp) ?_
     refine AllReadyH.cons rfl (fun K hK => ?_) (AllReadyH.nil)
     go_simp
     ((with_reducible refine (agT (nodes m.dflt) m.dflt _ _ _ _ (Nat.le_refl _) (Lh.out.on hb2)).mono ?_);rintro e MN ⟨⟨z,rfl⟩,Md⟩)
     obtain ⟨S,X⟩:=b2 S X Md
     replace hb2:=dT hb2 Md
     clear Md
     try clear hHeld
     refine hK.out _ _ (⟨X.out.cell 6,(fun b o hlt => hb2.cell (p:=⟨b,o,none⟩) hlt)⟩) (fun hHeld => ?_)
     clear hK K
     refine wpAnyH_take (i:=8) (v := ?amG) rfl (by kernel_rfl) (by kernel_rfl) (by kernel_rfl) (fun _ _ _ h => h) (Or.inl ⟨by rfl,?adY⟩) (by assumption) ?amH
     case adY => (intro w hSw;(try dsimp only at hSw);go_simp;(first | done | with_reducible rfl))
     try simp only
     refine wpAnyH_take (i:=16) (v := ?arB) rfl (by kernel_rfl) (by kernel_rfl) (by kernel_rfl) (fun _ _ _ h => h) (Or.inl ⟨by rfl,?amI⟩) (by assumption) ?arC
     case amI => (intro w hSw;(try dsimp only at hSw);go_simp;(first | done | with_reducible rfl))
     try simp only [dQ]
     refine wpAnyH_take (i:=17) (v := ?arD) rfl (by kernel_rfl) (by kernel_rfl) (by kernel_rfl) (fun _ _ _ h => h) (Or.inl ⟨by rfl,?amJ⟩) (by assumption) ?arE
     case amJ => (intro w hSw;(try dsimp only at hSw);go_simp;(first | done | with_reducible rfl))
     try simp only [dQ]
     refine wpAnyH_done (by kernel_rfl) ?_ _
     try clear hHeld
     clear y1 y5 y6 y7 y8 y9 BJ BK BL
     go_wp2_with fail
     go_roundw
     case rel => exact ⟨k+1,_,by omega,by go_num,rfl,S.out,X.out,hb2⟩
     case measure => simp [intOf];omega
    have bK:=X.out.e6
    by_cases hk3:k < x.aj.length
    ·
     have hk1:(k:Int) < x.aj.length:=by omega
     have hk2:¬ (k:Int) < 100:=by omega
     go_wp2_with fail
     go_roundw
     case rel => exact ⟨j+1,_,by omega,by go_num,rfl,S.out,hb2⟩
     case measure => simp [intOf];omega
    have hk1:¬ (k:Int) < x.aj.length:=by omega
    go_wp2_with fail
    go_roundw
    case rel => exact ⟨j+1,_,by omega,by go_num,rfl,S.out,hb2⟩
    case measure => simp [intOf];omega
  obtain rfl:j=ts.length:=by omega
  have ay:=S.out.e0
  go_wp2_with fail
  go_ret
  exact ⟨⟨_,rfl⟩,hb⟩
end Go.Proofs.YthkfapcadhnaeaaGreatDoor

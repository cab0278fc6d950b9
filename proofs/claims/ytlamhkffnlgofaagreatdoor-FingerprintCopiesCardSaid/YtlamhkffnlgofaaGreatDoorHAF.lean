/- The state behind an operation of a region that draws, laid out. A region that draws whose last operations may spoil what its loads read: loads first, S shown anew behind all but those last ones. Values that come in, of any depth. Drafts of schemas that come in. Small functions on drafts: kind, Named, low, high. No condition. -/
import Derived.Test.YtlamhkffnlgofaaGreatDoorHAB
import Derived.Lib.SmallJoins
import Derived.Deep.RegionHeld3
import Derived.IntWalk
set_option maxHeartbeats 400000
set_option maxRecDepth 100000
namespace Go.Proofs.YtlamhkffnlgofaaGreatDoor
open Go.ChangeShapes Go.WideShapes Go.ChangeAt Go.RowKit
theorem aF:(∀ (a:Act) (v:Value),a.put none v=a)∧(∀ (ts:Array Value) (ds:List _) (i:Nat) (v:Value),Act.put ⟨ts,ds⟩ (some i) v=⟨ts.setIfInBounds i v,ds⟩) ∧
  (∀ (l:List Value) (i:Nat) (v:Value),l.toArray.setIfInBounds i v=(l.set i v).toArray)∧(∀ (x:Value) (l:List Value) (v:Value),(x :: l).set 0 v=v :: l)∧(∀ (x:Value) (l:List Value) (i:Nat) (v:Value),(x :: l).set (i+1) v=x :: l.set i v) ∧
  (∀ (l:List Oper) (i:Nat) (h:i < l.toArray.size),l.toArray[i]'h=l[i]'(by simpa using h))∧(∀ (x:Oper) (l:List Oper) (h:0 < (x :: l).length),(x :: l)[0]'h=x)∧(∀ (x:Oper) (l:List Oper) (i:Nat) (h:i+1 < (x :: l).length),(x :: l)[i+1]'h=l[i]'(by simpa using h)) :=
 ⟨fun _ _ => rfl,fun _ _ _ _ => rfl,fun _ _ _ => by simp,fun _ _ _ => rfl,fun _ _ _ _ => rfl,fun _ _ _ => rfl,fun _ _ _ => rfl,fun _ _ _ _ => rfl⟩
section
variable {P:Program} {md:Region.Mode} {ops:Array Oper} {Q:Exit→Act→World→Prop} {S:World→Prop} {fuel:Nat} {listed:Array Bool} {a:Act} {w:World} {oi:Oper}
theorem tk (i:Nat) {v:Value} {a2:Act} (r:wpAnyH P md ops Q S fuel (listed.setIfInBounds i true) a2 w) (hi:ops[i]?=some oi:=by rfl) (y:∀ w,S w→(execOp a.eval oi).run P w = .ok (.value v) w:=by (intro w hS;(try dsimp only at hS);go_simp;(first | done | with_reducible rfl)))
  (h1:Region.noSelect ops=true:=by kernel_rfl) (h2:Region.free md ops listed i=true:=by kernel_rfl) (h3:(Region.ready md ops listed).contains i=true:=by kernel_rfl)
  (h4:∀ c a w,Q (.panic c) (a.put oi.dst v) w→Q (.panic c) a w:=by exact fun _ _ _ h => h) (h5:Region.wanted oi (yielded ops a.tmps)=true:=by rfl) (h6:S w:=by assumption) (e:a.put oi.dst v=a2:=by simp only [aF];exact rfl):wpAnyH P md ops Q S (fuel+1) listed a w :=
 wpAnyH_take hi h1 h2 h3 h4 (.inl ⟨h5,y⟩) h6 (e ▸ r)
theorem tks (i:Nat) (r:wpAnyH P md ops Q S fuel (listed.setIfInBounds i true) (a.put oi.dst undef) w) (hi:ops[i]?=some oi:=by rfl)
  (h1:Region.noSelect ops=true:=by kernel_rfl) (h2:Region.free md ops listed i=true:=by kernel_rfl) (h3:(Region.ready md ops listed).contains i=true:=by kernel_rfl)
  (h4:∀ c a w,Q (.panic c) (a.put oi.dst undef) w→Q (.panic c) a w:=by exact fun _ _ _ h => h) (h5:Region.wanted oi (yielded ops a.tmps)=false:=by rfl) (h6:S w:=by assumption):wpAnyH P md ops Q S (fuel+1) listed a w :=
 wpAnyH_take hi h1 h2 h3 h4 (.inr ⟨h5,rfl⟩) h6 r
theorem iE (i:Nat) {o:Oper} (h:∀ K':Act→World→Prop,Shut (∀ a w,S w→(S w→wpAnyH P md ops Q S fuel (listed.setIfInBounds i true) a w)→K' a w)→if Region.wanted o (yielded ops a.tmps)=true then Oper.wp P o a w K' Q else K' (a.put o.dst undef) w) (hr:Region.ready md ops listed = [i]:=by kernel_rfl) (ho:ops[i]?=some o:=by rfl):wpAnyH P md ops Q S (fuel+1) listed a w :=
 wpAnyH_ready hr (by simp) (AllReadyH.cons ho h AllReadyH.nil)
end
section
variable {P:Program} {ops:Array Oper} {Q:Exit→Act→World→Prop} {md:Region.Mode} {S:World→Prop} {T:Nat→Bool}
def uZ (P:Program) (md:Region.Mode) (ops:Array Oper) (Q:Exit→Act→World→Prop) (S:World→Prop) (T:Nat→Bool):Nat→Array Bool→Act→World→Prop
 | 0,listed,a,w => Region.ready md ops listed = []∧Q .normal a w
 | f+1,listed,a,w => (Region.ready md ops listed = []→Q .normal a w) ∧
  ∀ i ∈ Region.ready md ops listed,wpOp P ops Q i (fun a' w' => (T i=false→S w')∧uZ P md ops Q S T f (listed.setIfInBounds i true) a' w') a w
theorem QY:∀ (f:Nat) (listed:Array Bool) (a:Act) (w:World),uZ P md ops Q S T f listed a w→wpAny P md ops Q f listed a w
 | 0,_,_,_,h => h
 | f+1,_,_,_,h => ⟨h.1,fun i hi => wpOp_mono (fun a' w' h' => QY f _ a' w' h'.2) (h.2 i hi)⟩
theorem acw {i j:Nat} {listed:Array Bool} (hr:i ∈ Region.ready md ops listed) (hj:j ∈ Region.ready md ops listed) {oj:Oper} (hoj:ops[j]?=some oj):∀ e ∈ oj.after,Region.binds md e=true→e.on≠i:=fun e he hb heq => by
 obtain ⟨_,o2,ho2,hall⟩:=mem_ready.1 hj;obtain rfl:oj=o2:=by rw [hoj] at ho2;injection ho2
 have h1:=hall e he hb;have h0:=(mem_ready.1 hr).1;rw [heq] at h1;rcases Nat.lt_or_ge i listed.size with h' | h'
 · simp [h'] at h0 h1;rw [h0] at h1;cases h1
 simp [Array.getElem?_eq_none h'] at h1
theorem WB {i:Nat} {oi:Oper} {v:Value} (hi:ops[i]?=some oi) (hsel:∀ (j:Nat) (o:Oper) cs b,ops[j]?=some o→o.op≠.select cs b)
  (hQ:∀ c a w,Q (.panic c) (a.put oi.dst v) w→Q (.panic c) a w) (hT:∀ j oj,ops[j]?=some oj→T j=true→∃ e ∈ oj.after,Region.binds md e=true∧e.on=i) :
  ∀ (f:Nat) (listed:Array Bool) (a:Act) (w:World),
   (∀ j oj,ops[j]?=some oj→j≠i→listed.getD j true=false→(∀ e ∈ oj.after,Region.binds md e=true→e.on≠i)→oi.apart ops oj=true) →
   i ∈ Region.ready md ops listed→YieldsIf P ops S oi v a→S w →
   uZ P md ops Q S T f (listed.setIfInBounds i true) (a.put oi.dst v) w→uZ P md ops Q S T (f+1) listed a w:=by
 intro f
 induction f with
 | zero =>
  intro listed a w _ hr hy hS H;refine ⟨fun h => (by rw [h] at hr;cases hr),fun j hj => ?_⟩;by_cases hji:j=i
  · subst hji;exact hy.wpOp hi hS ⟨fun _ => hS,H⟩
  have:=ready_mono hj hji;rw [H.1] at this;cases this
 | succ f ih =>
  intro listed a w hfree hr hy hS H;refine ⟨fun h => (by rw [h] at hr;cases hr),fun j hj => ?_⟩;by_cases hji:j=i
  · subst hji;exact hy.wpOp hi hS ⟨fun _ => hS,H⟩
  have h1:=H.2 j (ready_mono hj hji);obtain ⟨hjun,oj,hoj,_⟩:=mem_ready.1 hj;have hnot:=acw hr hj hoj;have hTj:T j=false:=by
   cases hq:T j with
   | false => rfl
   | true => obtain ⟨e,he,hb,hon⟩:=hT j oj hoj hq;exact absurd hon (hnot e he hb)
  have h2:=wpOp_putIf hoj (hfree j oj hoj hji hjun hnot) (fun cs b => hsel i oi cs b hi) (fun cs b => hsel j oj cs b hoj) hQ hy h1;have hfree':∀ k ok,ops[k]?=some ok→k≠i→(listed.setIfInBounds j true).getD k true=false→(∀ e ∈ ok.after,Region.binds md e=true→e.on≠i)→oi.apart ops ok=true:=fun k ok hk hki hun hno => by
   refine hfree k ok hk hki ?_ hno;by_cases hjk:j=k
   · subst hjk;exact hjun
   rw [getD_set_ne true hjk] at hun;exact hun
  refine wpOp_mono (fun a' w' h3 => ⟨h3.2.1,ih (listed.setIfInBounds j true) a' w' hfree' (ready_mono hr (Ne.symm hji)) h3.1 (h3.2.1 hTj) ?_⟩) h2;rw [Array.setIfInBounds_comm _ _ hji];exact h3.2.2
def lastB (md:Region.Mode) (ops:Array Oper) (T:Nat→Bool) (i:Nat):Bool :=
 (List.range ops.size).all fun j => !T j || match ops[j]? with | some oj => oj.after.any (fun e => Region.binds md e && e.on == i) | none => true
theorem ZY {i:Nat} (h:lastB md ops T i=true):∀ j oj,ops[j]?=some oj→T j=true→∃ e ∈ oj.after,Region.binds md e=true∧e.on=i:=fun j oj hj hT => by
 simp only [lastB,List.all_eq_true,List.mem_range] at h;have h1:=h j (Array.getElem?_eq_some_iff.1 hj).1;simp only [hT,hj,Bool.not_true,Bool.false_or] at h1;obtain ⟨e,he,hb⟩:=Array.any_eq_true'.1 h1;simp only [Bool.and_eq_true,beq_iff_eq] at hb;exact ⟨e,he,hb.1,hb.2⟩
theorem l9 {id:Nat} {a:Act} {w:World} (T:Nat→Bool) (hm:P.follows .mixedOrders=true) (hS:S w.drew)
  (h:S w.drew→uZ P .any ops Q S T ops.size (Array.replicate ops.size false) a w.drew):(Code.region id ops true).wp P Q a w :=
 wp_region_any hm (QY _ _ _ _ (h hS))
variable {f:Nat} {listed:Array Bool} {a:Act} {w:World} {oi:Oper}
theorem eH (i:Nat) {v:Value} {a2:Act} (r:uZ P md ops Q S T f (listed.setIfInBounds i true) a2 w) (hi:ops[i]?=some oi:=by rfl) (y:∀ w,S w→(execOp a.eval oi).run P w = .ok (.value v) w:=by (intro w hS;(try dsimp only at hS);go_simp;(first | done | with_reducible rfl)))
  (h1:Region.noSelect ops=true:=by kernel_rfl) (h2:Region.free md ops listed i=true:=by kernel_rfl) (h3:(Region.ready md ops listed).contains i=true:=by kernel_rfl) (h7:lastB md ops T i=true:=by kernel_rfl)
  (h4:∀ c a w,Q (.panic c) (a.put oi.dst v) w→Q (.panic c) a w:=by exact fun _ _ _ h => h) (h5:Region.wanted oi (yielded ops a.tmps)=true:=by rfl) (h6:S w:=by assumption) (e:a.put oi.dst v=a2:=by simp only [aF];exact rfl):uZ P md ops Q S T (f+1) listed a w :=
 WB hi (Region.noSelect_spec h1) h4 (ZY h7) f listed a w (Region.free_spec hi h2) (by simpa using h3) (.inl ⟨h5,y⟩) h6 (e ▸ r)
def dX (P:Program) (md:Region.Mode) (ops:Array Oper) (Q:Exit→Act→World→Prop) (S:World→Prop) (T:Nat→Bool) (f:Nat) (listed:Array Bool) (a:Act) (w:World) (rs:List Nat):Prop :=
 ∀ i ∈ rs,wpOp P ops Q i (fun a' w' => (T i=false→S w')∧uZ P md ops Q S T f (listed.setIfInBounds i true) a' w') a w
theorem dX.nil:dX P md ops Q S T f listed a w []:=fun _ h => by cases h
theorem dX.cons {i:Nat} {o:Oper} {rs:List Nat} (ho:ops[i]?=some o)
  (h:∀ K':Act→World→Prop,Shut (∀ a w,S w→(S w→uZ P md ops Q S T f (listed.setIfInBounds i true) a w)→K' a w)→if Region.wanted o (yielded ops a.tmps)=true then Oper.wp P o a w K' Q else K' (a.put o.dst undef) w)
  (hs:dX P md ops Q S T f listed a w rs):dX P md ops Q S T f listed a w (i :: rs):=fun j hj => by
 rcases List.mem_cons.1 hj with rfl | hj
 · exact wpOp_step ho (fun K' hK => h K' (fun a w hS hW => hK a w ⟨fun _ => hS,hW hS⟩))
 exact hs j hj
theorem dX.last {i:Nat} {o:Oper} (hT:T i=true) (ho:ops[i]?=some o)
  (h:∀ K':Act→World→Prop,Shut (∀ a w,uZ P md ops Q S T f (listed.setIfInBounds i true) a w→K' a w)→if Region.wanted o (yielded ops a.tmps)=true then Oper.wp P o a w K' Q else K' (a.put o.dst undef) w) :
  dX P md ops Q S T f listed a w [i]:=fun j hj => by
 rcases List.mem_cons.1 hj with rfl | hj
 · exact wpOp_step ho (fun K' hK => h K' (fun a w hW => hK a w ⟨(fun h0 => by rw [hT] at h0;cases h0),hW⟩))
 cases hj
theorem lV {rs:List Nat} (hr:Region.ready md ops listed=rs) (hne:rs≠[]) (h:dX P md ops Q S T f listed a w rs):uZ P md ops Q S T (f+1) listed a w :=
 ⟨fun h0 => absurd (hr ▸ h0) hne,hr ▸ h⟩
theorem akJ (hr:Region.ready md ops listed = []) (h:Q .normal a w):∀ f,uZ P md ops Q S T f listed a w
 | 0 => ⟨hr,h⟩
 | _+1 => ⟨fun _ => h,by rw [hr];simp⟩
theorem gJ (i:Nat) {o:Oper} (h:∀ K':Act→World→Prop,Shut (∀ a w,S w→(S w→uZ P md ops Q S T f (listed.setIfInBounds i true) a w)→K' a w)→if Region.wanted o (yielded ops a.tmps)=true then Oper.wp P o a w K' Q else K' (a.put o.dst undef) w) (hr:Region.ready md ops listed = [i]:=by kernel_rfl) (ho:ops[i]?=some o:=by rfl):uZ P md ops Q S T (f+1) listed a w :=
 lV hr (by simp) (dX.cons ho h dX.nil)
theorem pG (i:Nat) {o:Oper} (h:∀ K':Act→World→Prop,Shut (∀ a w,uZ P md ops Q S T f (listed.setIfInBounds i true) a w→K' a w)→if Region.wanted o (yielded ops a.tmps)=true then Oper.wp P o a w K' Q else K' (a.put o.dst undef) w) (hr:Region.ready md ops listed = [i]:=by kernel_rfl) (hT:T i=true:=by rfl) (ho:ops[i]?=some o:=by rfl):uZ P md ops Q S T (f+1) listed a w :=
 lV hr (by simp) (dX.last hT ho h)
end
end Go.Proofs.YtlamhkffnlgofaaGreatDoor
namespace Go.Proofs.YtlamhkffnlgofaaGreatDoor
open Go.ChangeShapes Go.WideShapes Go.ChangeAt Go.RowKit Go.Joins
section
variable {H:Type} {enc:TypeId × Value→H} {w:World} {base:Nat} {spare:Nat→Bool} {held:Bool}
theorem acV {es sp:List (DataW H)} {y:DataW H} (h:y ∈ es):SizeOf.sizeOf y < SizeOf.sizeOf (DataW.slice es sp):=by
 have h2:=List.sizeOf_lt_of_mem h;simp only [DataW.slice.sizeOf_spec];omega
theorem aau {t e:TypeId} {size fuel:Nat} {cs:List Value} {x:DataW H × List MemPlace} (ht:Tryz.prog.underlying t=some (.slice e)) (hC:Tryz.prog.cellsOf e=size) (hpos:0 < size)
  (h:DataW.trod enc Tryz.prog w base spare held fuel t cs=some x) (hs:Sz t x.1) :
  ∃ (A:Option Addr) (len cap:Nat),cs = [.slice A len cap]∧len≤cap∧len*Tryz.prog.bytesOf e≤140737488351232 ∧
   (len=0∨∃ b o,A=some ⟨b,o,none⟩∧b < w.heap.size∧∃ (N:Nat) (D:Nat→DataW H) (Pl:Nat→List MemPlace),∀ i,i < len→∃ cs',cs'.length=size ∧
    (∀ j u,cs'[j]?=some u→w.cell? ⟨b,o+i*size+j,none⟩=some u)∧DataW.trod enc Tryz.prog w base spare held N e cs'=some (D i,Pl i)∧Sz e (D i)∧SizeOf.sizeOf (D i) < SizeOf.sizeOf x.1):=by
 rcases Go.Deep.open_slice ht h with ⟨rfl,_⟩ | ⟨a,len,cap,m,n,D,Pl,rfl,hb,hl,hm,hmm,rfl,hel⟩
 · exact ⟨none,0,0,rfl,Nat.le_refl _,by simp,.inl rfl⟩
 have hlm:len≤m:=by rw [hmm];split <;> omega
 refine ⟨some a,len,cap,rfl,hl,?_,?_⟩
 ·
  have:=hs.len ht;simp only [List.length_map,List.length_range] at this;exact Nat.le_trans (Nat.mul_le_mul_right _ (by omega)) this
 by_cases h0:len=0
 · exact .inl h0
 right
 have hcell:∀ i,i < len→∃ cs',cs'.length=size∧(∀ j,j < size→w.cell? ((a.add (i*size)).add j)=cs'[j]?)∧DataW.trod enc Tryz.prog w base spare held n e cs'=some (D i,Pl i):=fun i hi => by
  exact zFn
 have h00:∃ u,w.cell? a=some u:=by
  exact zEi
 obtain ⟨u,hu⟩:=h00;have hsp:a.spot=none:=by
  exact zFv
 obtain ⟨b,o,sp⟩:=a;simp only at hsp;subst hsp;refine ⟨b,o,rfl,World.block_lt_of_cell? _ _ hu,n,D,Pl,fun i hi => ?_⟩;obtain ⟨cs',h1,h2,h3⟩:=hcell i hi;have hmem:D i ∈ (List.range len).map D:=List.mem_map.2 ⟨i,by simpa using hi,rfl⟩;refine ⟨cs',h1,fun j v hv => ?_,h3,hs.elem ht hmem,acV hmem⟩;exact zEg
theorem aIH (N:Nat) (cs:List Value) (D:DataW H) (Q:List MemPlace) (hl:cs.length=2)
  (h:DataW.trod enc Tryz.prog w base spare held N 129 cs=some (D,Q)) (hs:Sz 129 D):∃ x:Raw,cs=Kw x∧yR x:=by
 obtain ⟨xs,n,rfl,hx,_,hxl,hg⟩:=DataW.trod_struct Tryz.underlying129 h;obtain ⟨c0,c1,rfl⟩ : ∃ a b,cs = [a,b]:=by
  match cs,hl with
  | [a,b],_ => exact ⟨a,b,rfl⟩
 match xs,hxl with
 | [y0,y1],_ =>
  injection hx with hx1 hx2;have k0:Tryz.prog.cellsOf 3=1:=by kernel_rfl
  have k2:Tryz.prog.cellsOf 9=1:=by kernel_rfl
  have h0:DataW.trod enc Tryz.prog w base spare held n 3 (([c0,c1].drop 0).take (Tryz.prog.cellsOf 3))=some y0:=hg 0 _ rfl;rw [k0] at h0;have h3:DataW.trod enc Tryz.prog w base spare held n 9 (([c0,c1].drop 1).take (Tryz.prog.cellsOf 9))=some y1:=hg 1 _ rfl;rw [k2] at h3;obtain ⟨n0,e0,_,w0⟩:=DataW.trod_int Tryz.underlying3 h0;obtain ⟨s,e3,e4,_⟩:=DataW.trod_string Tryz.underlying9 h3;simp only [List.drop,List.take,List.cons.injEq,and_true] at e0 e3;subst e0 e3;obtain ⟨l,rfl,hll⟩:=azu s;refine ⟨(n0,l),rfl,wf_i64 w0,?_⟩;subst hx1;have hz:=Sz.field hs Tryz.underlying129 (i:=1) rfl rfl;rw [e4] at hz;simpa using hz.str
end
abbrev Aw:=Nat × Nat × Nat
structure fJ where
 kind:Nat
 a:Nat
 b:Nat
 c:Nat
 parts:List Aw
def aav (p:Aw):List Value:=[.int .u8 p.1,.int .u8 p.2.1,.int .u8 p.2.2]
theorem G7 (p:Aw):(aav p).length=3:=rfl
def Xd (p:Aw):Prop:=p.1 < 256∧p.2.1 < 256∧p.2.2 < 256
def ae2 (x:fJ) (vp:Value):List Value:=[.int .u8 x.kind,.int .u8 x.a,.int .u8 x.b,.int .u8 x.c,vp]
structure U4 (w:World) (B:Nat) (x:fJ) (vp:Value):Prop where
 ints:x.kind < 256∧x.a < 256∧x.b < 256∧x.c < 256
 len:x.parts.length≤46912496117077
 ins:∀ p ∈ x.parts,Xd p
 parts:Rd w B 3 vp x.parts.length (x.parts.flatMap aav)
def jR (w:World) (B:Nat) (v:Value) (xs:List fJ):Prop := ∃ c:Nat→List Value,Row w B 5 v xs.length c∧∀ (i:Nat) (h:i < xs.length),∃ vp,c i=ae2 xs[i] vp∧U4 w B xs[i] vp
theorem CS {a:Int} (h:(Lit.int .u8 a).wf=true):∃ n:Nat,a=(n:Int)∧n < 256:=by
 simp [Lit.wf,IntKind.min,IntKind.max,IntKind.bits,IntKind.signed] at h;exact ⟨a.toNat,by omega,by omega⟩
section
variable {H:Type} {enc:TypeId × Value→H} {w:World} {base:Nat} {spare:Nat→Bool} {held:Bool}
theorem ahh (N:Nat) (cs:List Value) (D:DataW H) (Q:List MemPlace) (hl:cs.length=3)
  (h:DataW.trod enc Tryz.prog w base spare held N 150 cs=some (D,Q)):∃ x:Aw,cs=aav x∧Xd x:=by
 obtain ⟨xs,n,rfl,hx,_,hxl,hg⟩:=DataW.trod_struct Tryz.underlying150 h;obtain ⟨c0,c1,c2,rfl⟩ : ∃ a b c,cs = [a,b,c]:=by
  match cs,hl with
  | [a,b,c],_ => exact ⟨a,b,c,rfl⟩
 match xs,hxl with
 | [y0,y1,y2],_ =>
  have k0:Tryz.prog.cellsOf 5=1:=by kernel_rfl
  have h0:DataW.trod enc Tryz.prog w base spare held n 5 (([c0,c1,c2].drop 0).take (Tryz.prog.cellsOf 5))=some y0:=hg 0 _ rfl;have h1:DataW.trod enc Tryz.prog w base spare held n 5 (([c0,c1,c2].drop 1).take (Tryz.prog.cellsOf 5))=some y1:=hg 1 _ rfl;have h2:DataW.trod enc Tryz.prog w base spare held n 5 (([c0,c1,c2].drop 2).take (Tryz.prog.cellsOf 5))=some y2:=hg 2 _ rfl;rw [k0] at h0 h1 h2;obtain ⟨n0,e0,_,w0⟩:=DataW.trod_int Tryz.underlying5 h0;obtain ⟨n1,e1,_,w1⟩:=DataW.trod_int Tryz.underlying5 h1;obtain ⟨n2,e2,_,w2⟩:=DataW.trod_int Tryz.underlying5 h2;obtain ⟨m0,rfl,b0⟩:=CS w0;obtain ⟨m1,rfl,b1⟩:=CS w1;obtain ⟨m2,rfl,b2⟩:=CS w2;simp only [List.drop,List.take,List.cons.injEq,and_true] at e0 e1 e2;subst e0 e1 e2;exact ⟨(m0,m1,m2),rfl,b0,b1,b2⟩
theorem ajr (N:Nat) (cs:List Value) (D:DataW H) (Q:List MemPlace) (hl:cs.length=5)
  (h:DataW.trod enc Tryz.prog w base spare held N 99 cs=some (D,Q)) (hs:Sz 99 D):∃ (x:fJ) (vp:Value),cs=ae2 x vp∧U4 w w.heap.size x vp:=by
 obtain ⟨xs,n,rfl,hx,_,hxl,hg⟩:=DataW.trod_struct Tryz.underlying99 h;obtain ⟨c0,c1,c2,c3,c4,rfl⟩ : ∃ a b c d e,cs = [a,b,c,d,e]:=by
  match cs,hl with
  | [a,b,c,d,e],_ => exact ⟨a,b,c,d,e,rfl⟩
 match xs,hxl with
 | [y0,y1,y2,y3,y4],_ =>
  injection hx with hx1 hx2;have k0:Tryz.prog.cellsOf 5=1:=by kernel_rfl
  have k4:Tryz.prog.cellsOf 97=1:=by kernel_rfl
  have h0:DataW.trod enc Tryz.prog w base spare held n 5 (([c0,c1,c2,c3,c4].drop 0).take (Tryz.prog.cellsOf 5))=some y0:=hg 0 _ rfl;have h1:DataW.trod enc Tryz.prog w base spare held n 5 (([c0,c1,c2,c3,c4].drop 1).take (Tryz.prog.cellsOf 5))=some y1:=hg 1 _ rfl;have h2:DataW.trod enc Tryz.prog w base spare held n 5 (([c0,c1,c2,c3,c4].drop 2).take (Tryz.prog.cellsOf 5))=some y2:=hg 2 _ rfl;have h3:DataW.trod enc Tryz.prog w base spare held n 5 (([c0,c1,c2,c3,c4].drop 3).take (Tryz.prog.cellsOf 5))=some y3:=hg 3 _ rfl;have h4:DataW.trod enc Tryz.prog w base spare held n 97 (([c0,c1,c2,c3,c4].drop 4).take (Tryz.prog.cellsOf 97))=some y4:=hg 4 _ rfl;rw [k0] at h0 h1 h2 h3;rw [k4] at h4;obtain ⟨n0,e0,_,w0⟩:=DataW.trod_int Tryz.underlying5 h0;obtain ⟨n1,e1,_,w1⟩:=DataW.trod_int Tryz.underlying5 h1;obtain ⟨n2,e2,_,w2⟩:=DataW.trod_int Tryz.underlying5 h2;obtain ⟨n3,e3,_,w3⟩:=DataW.trod_int Tryz.underlying5 h3;obtain ⟨m0,rfl,b0⟩:=CS w0;obtain ⟨m1,rfl,b1⟩:=CS w1;obtain ⟨m2,rfl,b2⟩:=CS w2;obtain ⟨m3,rfl,b3⟩:=CS w3;subst hx1;have sz4:=Sz.field hs Tryz.underlying99 (i:=4) rfl rfl;obtain ⟨vp,ps,ep,lp,gp,rp⟩:=open_list Tryz.underlying97 (size:=3) (by kernel_rfl) (by decide) G7 h4 sz4 (good:=Xd) (fun N cs' D Q hl ht _ => ahh N cs' D Q hl ht);have hbb:Tryz.prog.bytesOf 150=3:=by kernel_rfl
  rw [hbb] at lp;simp only [List.drop,List.take,List.cons.injEq,and_true] at e0 e1 e2 e3 ep;subst e0 e1 e2 e3 ep;exact ⟨⟨m0,m1,m2,m3,ps⟩,_,rfl,⟨b0,b1,b2,b3⟩,by show ps.length≤_;omega,gp,rp⟩
theorem ahi {fuel:Nat} {cs:List Value} {x:DataW H × List MemPlace} (h:DataW.trod enc Tryz.prog w base spare held fuel 47 cs=some x) (hs:Sz 47 x.1) :
  ∃ (v:Value) (xs:List fJ),cs = [v]∧xs.length≤4398046510976∧jR w w.heap.size v xs:=by
 obtain ⟨A,len,cap,rfl,hl,hb,hrow⟩:=aau Tryz.underlying47 (size:=5) (by kernel_rfl) (by decide) h hs;have hbb:Tryz.prog.bytesOf 99=32:=by kernel_rfl
 rw [hbb] at hb;have hlen:len≤4398046510976:=by omega
 rcases hrow with rfl | ⟨b,o,rfl,hlt,N,D,Pl,hi⟩
 · exact ⟨_,[],rfl,by simp,fun _ => [],⟨A,cap,rfl,hl,.inl rfl⟩,fun i h => by simp at h⟩
 have hex:∀ i:Nat,∃ p:fJ × List Value,i < len→(∀ j u,p.2[j]?=some u→w.cell? ⟨b,o+i*5+j,none⟩=some u)∧∃ vp,p.2=ae2 p.1 vp∧U4 w w.heap.size p.1 vp:=by
  intro i;by_cases h0:i < len
  ·
   obtain ⟨cs',h1,h2,h3,h4,_⟩:=hi i h0;obtain ⟨y,vp,hy,hn⟩:=ajr N cs' (D i) (Pl i) h1 h3 h4;exact ⟨(y,cs'),fun _ => ⟨h2,vp,hy,hn⟩⟩
  exact ⟨(⟨0,0,0,0,[]⟩,[]),fun h => absurd h h0⟩
 obtain ⟨F,hF⟩:=Classical.axiomOfChoice hex;refine ⟨_,(List.range len).map (fun i => (F i).1),rfl,by simpa using hlen,fun i => (F i).2,⟨_,cap,by simp,by simpa using hl,.inr ⟨b,o,rfl,hlt,fun i h0 => (hF i (by simpa using h0)).1⟩⟩,fun i h0 => ?_⟩;have h1:i < len:=by simpa using h0
 simpa using (hF i h1).2
end
end Go.Proofs.YtlamhkffnlgofaaGreatDoor
namespace Go.Proofs.YtlamhkffnlgofaaGreatDoor
open Go.ChangeShapes Go.WideShapes Go.ChangeAt Go.RowKit
def ai5 (x:fJ):Nat:=1+x.kind % 9
theorem vX (x:fJ):1≤(ai5 x:Int)∧(ai5 x:Int)≤9:=by unfold ai5;omega
theorem jR.keep {w w':World} {B B':Nat} {v:Value} {xs:List fJ} (h:jR w B v xs) (hk:∀ p:Addr,p.block < B→w'.cell? p=w.cell? p) (hB:B≤B'):jR w' B' v xs:=by
 obtain ⟨c,h1,h2⟩:=h;refine ⟨c,(h1.keep hk).mono hB,fun i hi => ?_⟩;obtain ⟨vp,e,hn⟩:=h2 i hi;exact ⟨vp,e,hn.ints,hn.len,hn.ins,(hn.parts.keep hk).mono hB⟩
theorem jR.on {w w':World} {v:Value} {xs:List fJ} (h:jR w w.heap.size v xs) (hb:Below w.heap.size w w'):jR w' w'.heap.size v xs:=h.keep (fun _ hp => hb.cell hp) hb.size
theorem jR.form {w:World} {B:Nat} {v:Value} {xs:List fJ} (h:jR w B v xs):∃ A c,v = .slice A xs.length c∧xs.length≤c:=by
 exact zEy
def ajs (w:World) (b o:Nat) (x:fJ) (vp:Value):Prop :=
 w.cell? ⟨b,o,none⟩=some (.int .u8 x.kind)∧w.cell? ⟨b,o+1,none⟩=some (.int .u8 x.a)∧w.cell? ⟨b,o+2,none⟩=some (.int .u8 x.b)∧w.cell? ⟨b,o+3,none⟩=some (.int .u8 x.c)∧w.cell? ⟨b,o+4,none⟩=some vp
theorem jR.elem {w:World} {B n cap:Nat} {A:Option Addr} {xs:List fJ} (h:jR w B (.slice A n cap) xs) (hpos:0 < xs.length):∃ b o,A=some ⟨b,o,none⟩∧b < B∧∀ k (hk:k < xs.length),∃ vp,ajs w b (o+k*5) xs[k] vp∧U4 w B xs[k] vp:=by
 obtain ⟨c,⟨A',c',hv,hc,h2⟩,h3⟩:=h;injection hv with h4 h5 h6;subst h4;rcases h2 with h2 | ⟨b,o,hA,hb,hcell⟩
 · omega
 refine ⟨b,o,hA,hb,fun k hk => ?_⟩;obtain ⟨vp,hcs,hm⟩:=h3 k hk;have hc:=hcell k hk;rw [hcs] at hc;exact ⟨vp,⟨hc 0 _ rfl,hc 1 _ rfl,hc 2 _ rfl,hc 3 _ rfl,hc 4 _ rfl⟩,hm⟩
theorem qp (xs:List fJ) (vn:Value) (i:Nat) (w:World) (hi:i < xs.length) (hr:jR w w.heap.size vn xs) :
  Calls Tryz.prog 54 #[.agg #[vn],.int .i64 i] w (RT w (.int .i64 (ai5 xs[i] : Nat))):=by
 obtain ⟨A,c,rfl,hc⟩:=hr.form;have h01:=(Below.refl w.heap.size w).alloc (Nat.le_refl _) (.cells #[.slice A xs.length c] 49);obtain ⟨b,o,rfl,hb,hel⟩:=hr.elem (by omega);obtain ⟨vp,hcs,hn⟩:=hel i hi;have c0:=hcs.1;have hk:=hn.ints.1;have hl:=hn.len;have hi1:(i:Int) < xs.length:=by omega
 have Hk:Hid (ai5 xs[i]=1+xs[i].kind % 9):=rfl;clear hcs hn hel hr hl;generalize xs[i]=x at *;generalize x.kind=q at *;generalize ai5 x=r at *;have hq:(q:Int) < 256:=by omega
 have hm:0≤(q:Int) % 9∧(q:Int) % 9≤8:=by omega
 go_enter Tryz.func54,Tryz.ntmps54
 go_wp2_with fail;go_ret;exact ⟨bC (by rw [Hk.out];push_cast;rfl),h01⟩
def ql (k:Int):Bool:=decide (k=4∨k=5∨k=6)
theorem zDw {p:Prop} (h:p:=by
 go_enter Tryz.func55,Tryz.ntmps55
 go_wp2_with fail;go_ret;exact ⟨au Hr.out.symm,rfl⟩):p:=h
theorem uo (k:Int) (w:World):Calls Tryz.prog 55 #[.int .i64 k] w fun e w' => e = .returned (.bool (ql k))∧w=w':=by
 have Hn:Hid (ql k=decide (k=4∨k=5∨k=6)):=rfl;generalize ql k=r at *;by_cases h4:k=4
 ·
  have t4:(k == 4)=true:=by simp [h4]
  have Hr:Hid (r=true):=by show _=_;rw [Hn.out];simp [h4]
  clear h4;exact zDw
 have t4:(k == 4)=false:=beq_eq_false_iff_ne.2 h4;by_cases h5:k=5
 ·
  have t5:(k == 5)=true:=by simp [h5]
  have Hr:Hid (r=true):=by show _=_;rw [Hn.out];simp [h5]
  clear h4 h5;exact zDw
 have t5:(k == 5)=false:=beq_eq_false_iff_ne.2 h5;by_cases h6:k=6
 ·
  have t6:(k == 6)=true:=by simp [h6]
  have Hr:Hid (r=true):=by show _=_;rw [Hn.out];simp [h6]
  clear h4 h5 h6;exact zDw
 have t6:(k == 6)=false:=beq_eq_false_iff_ne.2 h6;have Hr:Hid (r=false):=by show _=_;rw [Hn.out];simp [h4,h5,h6]
 clear h4 h5 h6;exact zDw
abbrev ae3 (x:fJ) (vp:Value):Value:=.agg #[.int .u8 x.kind,.int .u8 x.a,.int .u8 x.b,.int .u8 x.c,vp]
def vY (x:fJ):Int:=(x.a:Int) % 7 - 3
def tX (x:fJ):Int:=vY x+(x.b:Int) % 6
theorem I7 (x:fJ) : -3≤vY x∧vY x≤3:=by unfold vY;omega
theorem Sl (x:fJ) (vp:Value) (w:World) (hn:x.a < 256):Calls Tryz.prog 56 #[ae3 x vp] w (RT w (.int .i64 (vY x))):=by
 have h01:=fun o => (Below.refl w.heap.size w).alloc (Nat.le_refl _) o;have Hl:Hid (vY x=(x.a:Int) % 7 - 3):=rfl;have hq:(x.a:Int) < 256:=by omega
 have hm:0≤(x.a:Int) % 7∧(x.a:Int) % 7≤6:=by omega
 go_enter Tryz.func56,Tryz.ntmps56
 go_wp2_with fail;go_ret;exact ⟨bC (by rw [Hl.out]),h01 _⟩
theorem Vw (x:fJ) (vp:Value) (w:World) (hn:x.a < 256) (hb:x.b < 256):Calls Tryz.prog 57 #[ae3 x vp] w (RT w (.int .i64 (tX x))):=by
 have h01:=fun o => (Below.refl w.heap.size w).alloc (Nat.le_refl _) o;have Hl:Hid (tX x=vY x+(x.b:Int) % 6):=rfl;have hr:=I7 x;have hq:(x.b:Int) < 256:=by omega
 have hm:0≤(x.b:Int) % 6∧(x.b:Int) % 6≤5:=by omega
 have HL:=hiQ (fun W => Sl x vp W hn);have hX:=Has.made w 99 #[.int .u8 x.kind,.int .u8 x.a,.int .u8 x.b,.int .u8 x.c,vp];generalize vY x=lo at *;have hX1:=hX;go_enter Tryz.func57,Tryz.ntmps57
 go_wp2_with fail;have hbw:=h01 (.cells #[.int .u8 x.kind,.int .u8 x.a,.int .u8 x.b,.int .u8 x.c,vp] 99);generalize w.alloc (.cells #[.int .u8 x.kind,.int .u8 x.a,.int .u8 x.b,.int .u8 x.c,vp] 99)=w1 at *;have c0:=hX1.cell 0;have c1:=hX1.cell 1;have c2:=hX1.cell 2;have c3:=hX1.cell 3;have c4:=hX1.cell 4;have hz:=hX1.here;simp only [qI] at c0 c1 c2 c3 c4;clear hX hX1;go_region_held3 (fun w' => w'.cell? ⟨w.heap.size,0,none⟩=some (.int .u8 x.kind)∧w'.cell? ⟨w.heap.size,1,none⟩=some (.int .u8 x.a)∧w'.cell? ⟨w.heap.size,2,none⟩=some (.int .u8 x.b)∧w'.cell? ⟨w.heap.size,3,none⟩=some (.int .u8 x.c)∧w'.cell? ⟨w.heap.size,4,none⟩=some vp) (first | (go_keep;done) | exact ⟨p0,p1,p2,p3,p4⟩)
  (first
   | (go_at_call 56;(with_reducible refine (HL.out _).mono ?_);rintro e wn ⟨rfl,hbn⟩;have qG:Below w1.heap.size w1 wn:=((Below.refl w1.heap.size w1).drew).trans hbn;have p0:=(qG.cell (p:=⟨w.heap.size,0,none⟩) hz).trans c0;have p1:=(qG.cell (p:=⟨w.heap.size,1,none⟩) hz).trans c1;have p2:=(qG.cell (p:=⟨w.heap.size,2,none⟩) hz).trans c2;have p3:=(qG.cell (p:=⟨w.heap.size,3,none⟩) hz).trans c3;have p4:=(qG.cell (p:=⟨w.heap.size,4,none⟩) hz).trans c4))
 all_goals
  go_wp2_with fail;go_ret;exact ⟨bC (by rw [Hl.out,Int.tmod_eq_emod_of_nonneg (by omega),IntWalk.i64_in ((x.b:Int) % 6) (by omega),IntWalk.i64_in _ (by omega)]),hbw.trans (qG.mono hbw.size)⟩
theorem Ae (k:Int) (w:World):Calls Tryz.prog 114 #[.int .i64 k] w fun e w' => e = .returned (.bool (decide (7≤k)))∧w=w':=by
 go_enter Tryz.func114,Tryz.ntmps114
 go_wp2_with fail;go_ret;exact ⟨rfl,rfl⟩
theorem zFp {p:Prop} (h:p:=by
 go_enter Tryz.func93,Tryz.ntmps93
 go_wp2_with fail;go_ret;exact ⟨au (by first | (simp;done) | (simp;omega)),rfl⟩):p:=h
theorem D8 (k:Int) (w:World):Calls Tryz.prog 93 #[.int .i64 k] w fun e w' => e = .returned (.bool (decide (1≤k) && decide (k≤4)))∧w=w':=by
 by_cases h1:1≤k
 ·
  have d1:decide (1≤k)=true:=decide_eq_true h1;by_cases h2:k≤4
  ·
   have d2:decide (k≤4)=true:=decide_eq_true h2;go_enter Tryz.func93,Tryz.ntmps93
   go_wp2_with fail;go_ret;exact ⟨au (by simp [h1,h2]),rfl⟩
  have d2:decide (k≤4)=false:=decide_eq_false h2;exact zFp
 have d1:decide (1≤k)=false:=decide_eq_false h1;exact zFp
end Go.Proofs.YtlamhkffnlgofaaGreatDoor

/- The state behind an operation of a region that draws, laid out. A region that draws whose last operations may spoil what its loads read: loads first, S shown anew behind all but those last ones. Values that come in, of any depth. Drafts of schemas that come in. Small functions on drafts: kind, Named, low, high. No condition. -/
import Derived.Test.YtlamhkffnlgofaaGreatDoorHAB
import Derived.Lib.SmallJoins
import Derived.Deep.RegionHeld3
import Derived.IntWalk
set_option maxHeartbeats 400000
set_option maxRecDepth 100000
namespace Go.Proofs.YtlamhkffnlgofaaGreatDoor
open Go.ChangeShapes Go.WideShapes Go.ChangeAt Go.RowKit
theorem aF:(∀ (a:Act) (v:Value),a.put none v=a)∧(∀ (ts:Array Value) (ds:List _) (i:Nat) (v:Value),Act.put ⟨ts,ds⟩ (some i) v=⟨ts.setIfInBounds i v,ds⟩) ∧
  (∀ (l:List Value) (i:Nat) (v:Value),l.toArray.setIfInBounds i v=(l.set i v).toArray)∧(∀ (x:Value) (l:List Value) (v:Value),(x :: l).set 0 v=v :: l)∧(∀ (x:Value) (l:List Value) (i:Nat) (v:Value),(x :: l).set (i+1) v=x :: l.set i v) ∧
  (∀ (l:List Oper) (i:Nat) (h:i < l.toArray.size),l.toArray[i]'h=l[i]'(by simpa using h))∧(∀ (x:Oper) (l:List Oper) (h:0 < (x :: l).length),(x :: l)[0]'h=x)∧(∀ (x:Oper) (l:List Oper) (i:Nat) (h:i+1 < (x :: l).length),(x :: l)[i+1]'h=l[i]'(by simpa using h)) :=
 ⟨fun _ _ => rfl,fun _ _ _ _ => rfl,fun _ _ _ => by simp,fun _ _ _ => rfl,fun _ _ _ _ => rfl,fun _ _ _ => rfl,fun _ _ _ => rfl,fun _ _ _ _ => rfl⟩
section
variable {P:Program} {md:Region.Mode} {ops:Array Oper} {Q:Exit→Act→World→Prop} {S:World→Prop} {fuel:Nat} {listed:Array Bool} {a:Act} {w:World} {oi:Oper}
theorem tk (i:Nat) {v:Value} {a2:Act} (r:wpAnyH P md ops Q S fuel (listed.setIfInBounds i true) a2 w) (hi:ops[i]?=some oi:=by rfl) (y:∀ w,S w→(execOp a.eval oi).run P w = .ok (.value v) w:=by (intro w hS;(try dsimp only at hS);go_simp;(first | done | with_reducible rfl)))
  (h1:Region.noSelect ops=true:=by kernel_rfl) (h2:Region.free md ops listed i=true:=by kernel_rfl) (h3:(Region.ready md ops listed).contains i=true:=by kernel_rfl)
  (h4:∀ c a w,Q (.panic c) (a.put oi.dst v) w→Q (.panic c) a w:=by exact fun _ _ _ h => h) (h5:Region.wanted oi (yielded ops a.tmps)=true:=by rfl) (h6:S w:=by assumption) (e:a.put oi.dst v=a2:=by simp only [aF];exact rfl):wpAnyH P md ops Q S (fuel+1) listed a w :=
 wpAnyH_take hi h1 h2 h3 h4 (.inl ⟨h5,y⟩) h6 (e ▸ r)
theorem tks (i:Nat) (r:wpAnyH P md ops Q S fuel (listed.setIfInBounds i true) (a.put oi.dst undef) w) (hi:ops[i]?=some oi:=by rfl)
  (h1:Region.noSelect ops=true:=by kernel_rfl) (h2:Region.free md ops listed i=true:=by kernel_rfl) (h3:(Region.ready md ops listed).contains i=true:=by kernel_rfl)
  (h4:∀ c a w,Q (.panic c) (a.put oi.dst undef) w→Q (.panic c) a w:=by exact fun _ _ _ h => h) (h5:Region.wanted oi (yielded ops a.tmps)=false:=by rfl) (h6:S w:=by assumption):wpAnyH P md ops Q S (fuel+1) listed a w :=
 wpAnyH_take hi h1 h2 h3 h4 (.inr ⟨h5,rfl⟩) h6 r
theorem iE (i:Nat) {o:Oper} (h:∀ K':Act→World→Prop,Shut (∀ a w,S w→(S w→wpAnyH P md ops Q S fuel (listed.setIfInBounds i true) a w)→K' a w)→if Region.wanted o (yielded ops a.tmps)=true then Oper.wp P o a w K' Q else K' (a.put o.dst undef) w) (hr:Region.ready md ops listed = [i]:=by kernel_rfl) (ho:ops[i]?=some o:=by rfl):wpAnyH P md ops Q S (fuel+1) listed a w :=
 wpAnyH_ready hr (by simp) (AllReadyH.cons ho h AllReadyH.nil)
end
section
variable {P:Program} {ops:Array Oper} {Q:Exit→Act→World→Prop} {md:Region.Mode} {S:World→Prop} {T:Nat→Bool}
def uZ (P:Program) (md:Region.Mode) (ops:Array Oper) (Q:Exit→Act→World→Prop) (S:World→Prop) (T:Nat→Bool):Nat→Array Bool→Act→World→Prop
 | 0,listed,a,w => Region.ready md ops listed = []∧Q .normal a w
 | f+1,listed,a,w => (Region.ready md ops listed = []→Q .normal a w) ∧
  ∀ i ∈ Region.ready md ops listed,wpOp P ops Q i (fun a' w' => (T i=false→S w')∧uZ P md ops Q S T f (listed.setIfInBounds i true) a' w') a w
theorem QY:∀ (f:Nat) (listed:Array Bool) (a:Act) (w:World),uZ P md ops Q S T f listed a w→wpAny P md ops Q f listed a w
 | 0,_,_,_,h => h
 | f+1,_,_,_,h => ⟨h.1,fun i hi => wpOp_mono (fun a' w' h' => QY f _ a' w' h'.2) (h.2 i hi)⟩
theorem acw {i j:Nat} {listed:Array Bool} (hr:i ∈ Region.ready md ops listed) (hj:j ∈ Region.ready md ops listed) {oj:Oper} (hoj:ops[j]?=some oj):∀ e ∈ oj.after,Region.binds md e=true→e.on≠i:=fun e he hb heq => by
 obtain ⟨_,o2,ho2,hall⟩:=mem_ready.1 hj;obtain rfl:oj=o2:=by rw [hoj] at ho2;injection ho2
 have h1:=hall e he hb;have h0:=(mem_ready.1 hr).1;rw [heq] at h1;rcases Nat.lt_or_ge i listed.size with h' | h'
 · simp [h'] at h0 h1;rw [h0] at h1;cases h1
 simp [Array.getElem?_eq_none h'] at h1
theorem WB {i:Nat} {oi:Oper} {v:Value} (hi:ops[i]?=some oi) (hsel:∀ (j:Nat) (o:Oper) cs b,ops[j]?=some o→o.op≠.select cs b)
  (hQ:∀ c a w,Q (.panic c) (a.put oi.dst v) w→Q (.panic c) a w) (hT:∀ j oj,ops[j]?=some oj→T j=true→∃ e ∈ oj.after,Region.binds md e=true∧e.on=i) :
  ∀ (f:Nat) (listed:Array Bool) (a:Act) (w:World),
   (∀ j oj,ops[j]?=some oj→j≠i→listed.getD j true=false→(∀ e ∈ oj.after,Region.binds md e=true→e.on≠i)→oi.apart ops oj=true) →
   i ∈ Region.ready md ops listed→YieldsIf P ops S oi v a→S w →
   uZ P md ops Q S T f (listed.setIfInBounds i true) (a.put oi.dst v) w→uZ P md ops Q S T (f+1) listed a w:=by
 intro f
 induction f with
 | zero =>
  intro listed a w _ hr hy hS H;refine ⟨fun h => (by rw [h] at hr;cases hr),fun j hj => ?_⟩;by_cases hji:j=i
  · subst hji;exact hy.wpOp hi hS ⟨fun _ => hS,H⟩
  have:=ready_mono hj hji;rw [H.1] at this;cases this
 | succ f ih =>
  intro listed a w hfree hr hy hS H;refine ⟨fun h => (by rw [h] at hr;cases hr),fun j hj => ?_⟩;by_cases hji:j=i
  · subst hji;exact hy.wpOp hi hS ⟨fun _ => hS,H⟩
  have h1:=H.2 j (ready_mono hj hji);obtain ⟨hjun,oj,hoj,_⟩:=mem_ready.1 hj;have hnot:=acw hr hj hoj;have hTj:T j=false:=by
   cases hq:T j with
   | false => rfl
   | true => obtain ⟨e,he,hb,hon⟩:=hT j oj hoj hq;exact absurd hon (hnot e he hb)
  have h2:=wpOp_putIf hoj (hfree j oj hoj hji hjun hnot) (fun cs b => hsel i oi cs b hi) (fun cs b => hsel j oj cs b hoj) hQ hy h1;have hfree':∀ k ok,ops[k]?=some ok→k≠i→(listed.setIfInBounds j true).getD k true=false→(∀ e ∈ ok.after,Region.binds md e=true→e.on≠i)→oi.apart ops ok=true:=fun k ok hk hki hun hno => by
   refine hfree k ok hk hki ?_ hno;by_cases hjk:j=k
   · subst hjk;exact hjun
   rw [getD_set_ne true hjk] at hun;exact hun
  refine wpOp_mono (fun a' w' h3 => ⟨h3.2.1,ih (listed.setIfInBounds j true) a' w' hfree' (ready_mono hr (Ne.symm hji)) h3.1 (h3.2.1 hTj) ?_⟩) h2;rw [Array.setIfInBounds_comm _ _ hji];exact h3.2.2
def lastB (md:Region.Mode) (ops:Array Oper) (T:Nat→Bool) (i:Nat):Bool :=
 (List.range ops.size).all fun j => !T j || match ops[j]? with | some oj => oj.after.any (fun e => Region.binds md e && e.on == i) | none => true
theorem ZY {i:Nat} (h:lastB md ops T i=true):∀ j oj,ops[j]?=some oj→T j=true→∃ e ∈ oj.after,Region.binds md e=true∧e.on=i:=fun j oj hj hT => by
 simp only [lastB,List.all_eq_true,List.mem_range] at h;have h1:=h j (Array.getElem?_eq_some_iff.1 hj).1;simp only [hT,hj,Bool.not_true,Bool.false_or] at h1;obtain ⟨e,he,hb⟩:=Array.any_eq_true'.1 h1;simp only [Bool.and_eq_true,beq_iff_eq] at hb;exact ⟨e,he,hb.1,hb.2⟩
theorem l9 {id:Nat} {a:Act} {w:World} (T:Nat→Bool) (hm:P.follows .mixedOrders=true) (hS:S w.drew)
  (h:S w.drew→uZ P .any ops Q S T ops.size (Array.replicate ops.size false) a w.drew):(Code.region id ops true).wp P Q a w :=
 wp_region_any hm (QY _ _ _ _ (h hS))
variable {f:Nat} {listed:Array Bool} {a:Act} {w:World} {oi:Oper}
theorem eH (i:Nat) {v:Value} {a2:Act} (r:uZ P md ops Q S T f (listed.setIfInBounds i true) a2 w) (hi:ops[i]?=some oi:=by rfl) (y:∀ w,S w→(execOp a.eval oi).run P w = .ok (.value v) w:=by (intro w hS;(try dsimp only at hS);go_simp;(first | done | with_reducible rfl)))
  (h1:Region.noSelect ops=true:=by kernel_rfl) (h2:Region.free md ops listed i=true:=by kernel_rfl) (h3:(Region.ready md ops listed).contains i=true:=by kernel_rfl) (h7:lastB md ops T i=true:=by kernel_rfl)
  (h4:∀ c a w,Q (.panic c) (a.put oi.dst v) w→Q (.panic c) a w:=by exact fun _ _ _ h => h) (h5:Region.wanted oi (yielded ops a.tmps)=true:=by rfl) (h6:S w:=by assumption) (e:a.put oi.dst v=a2:=by simp only [aF];exact rfl):uZ P md ops Q S T (f+1) listed a w :=
 WB hi (Region.noSelect_spec h1) h4 (ZY h7) f listed a w (Region.free_spec hi h2) (by simpa using h3) (.inl ⟨h5,y⟩) h6 (e ▸ r)
def dX (P:Program) (md:Region.Mode) (ops:Array Oper) (Q:Exit→Act→World→Prop) (S:World→Prop) (T:Nat→Bool) (f:Nat) (listed:Array Bool) (a:Act) (w:World) (rs:List Nat):Prop :=
 ∀ i ∈ rs,wpOp P ops Q i (fun a' w' => (T i=false→S w')∧uZ P md ops Q S T f (listed.setIfInBounds i true) a' w') a w
theorem dX.nil:dX P md ops Q S T f listed a w []:=fun _ h => by cases h
theorem dX.cons {i:Nat} {o:Oper} {rs:List Nat} (ho:ops[i]?=some o)
  (h:∀ K':Act→World→Prop,Shut (∀ a w,S w→(S w→uZ P md ops Q S T f (listed.setIfInBounds i true) a w)→K' a w)→if Region.wanted o (yielded ops a.tmps)=true then Oper.wp P o a w K' Q else K' (a.put o.dst undef) w)
  (hs:dX P md ops Q S T f listed a w rs):dX P md ops Q S T f listed a w (i :: rs):=fun j hj => by
 rcases List.mem_cons.1 hj with rfl | hj
 · exact wpOp_step ho (fun K' hK => h K' (fun a w hS hW => hK a w ⟨fun _ => hS,hW hS⟩))
 exact hs j hj
theorem dX.last {i:Nat} {o:Oper} (hT:T i=true) (ho:ops[i]?=some o)
  (h:∀ K':Act→World→Prop,Shut (∀ a w,uZ P md ops Q S T f (listed.setIfInBounds i true) a w→K' a w)→if Region.wanted o (yielded ops a.tmps)=true then Oper.wp P o a w K' Q else K' (a.put o.dst undef) w) :
  dX P md ops Q S T f listed a w [i]:=fun j hj => by
 rcases List.mem_cons.1 hj with rfl | hj
 · exact wpOp_step ho (fun K' hK => h K' (fun a w hW => hK a w ⟨(fun h0 => by rw [hT] at h0;cases h0),hW⟩))
 cases hj
theorem lV {rs:List Nat} (hr:Region.ready md ops listed=rs) (hne:rs≠[]) (h:dX P md ops Q S T f listed a w rs):uZ P md ops Q S T (f+1) listed a w :=
 ⟨fun h0 => absurd (hr ▸ h0) hne,hr ▸ h⟩
theorem akJ (hr:Region.ready md ops listed = []) (h:Q .normal a w):∀ f,uZ P md ops Q S T f listed a w
 | 0 => ⟨hr,h⟩
 | _+1 => ⟨fun _ => h,by rw [hr];simp⟩
theorem gJ (i:Nat) {o:Oper} (h:∀ K':Act→World→Prop,Shut (∀ a w,S w→(S w→uZ P md ops Q S T f (listed.setIfInBounds i true) a w)→K' a w)→if Region.wanted o (yielded ops a.tmps)=true then Oper.wp P o a w K' Q else K' (a.put o.dst undef) w) (hr:Region.ready md ops listed = [i]:=by kernel_rfl) (ho:ops[i]?=some o:=by rfl):uZ P md ops Q S T (f+1) listed a w :=
 lV hr (by simp) (dX.cons ho h dX.nil)
theorem pG (i:Nat) {o:Oper} (h:∀ K':Act→World→Prop,Shut (∀ a w,uZ P md ops Q S T f (listed.setIfInBounds i true) a w→K' a w)→if Region.wanted o (yielded ops a.tmps)=true then Oper.wp P o a w K' Q else K' (a.put o.dst undef) w) (hr:Region.ready md ops listed = [i]:=by kernel_rfl) (hT:T i=true:=by rfl) (ho:ops[i]?=some o:=by rfl):uZ P md ops Q S T (f+1) listed a w :=
 lV hr (by simp) (dX.last hT ho h)
end
end Go.Proofs.YtlamhkffnlgofaaGreatDoor
namespace Go.Proofs.YtlamhkffnlgofaaGreatDoor
open Go.ChangeShapes Go.WideShapes Go.ChangeAt Go.RowKit Go.Joins
section
variable {H:Type} {enc:TypeId × Value→H} {w:World} {base:Nat} {spare:Nat→Bool} {held:Bool}
theorem aIH (N:Nat) (cs:List Value) (D:DataW H) (Q:List MemPlace) (hl:cs.length=2)
  (h:DataW.trod enc Tryz.prog w base spare held N 129 cs=some (D,Q)) (hs:Sz 129 D):∃ x:Raw,cs=Kw x∧yR x:=by
 obtain ⟨xs,n,rfl,hx,_,hxl,hg⟩:=DataW.trod_struct Tryz.underlying129 h;obtain ⟨c0,c1,rfl⟩ : ∃ a b,cs = [a,b]:=by
  match cs,hl with
  | [a,b],_ => exact ⟨a,b,rfl⟩
 match xs,hxl with
 | [y0,y1],_ =>
  injection hx with hx1 hx2;have k0:Tryz.prog.cellsOf 3=1:=by kernel_rfl
  have k2:Tryz.prog.cellsOf 9=1:=by kernel_rfl
  have h0:DataW.trod enc Tryz.prog w base spare held n 3 (([c0,c1].drop 0).take (Tryz.prog.cellsOf 3))=some y0:=hg 0 _ rfl;rw [k0] at h0;have h3:DataW.trod enc Tryz.prog w base spare held n 9 (([c0,c1].drop 1).take (Tryz.prog.cellsOf 9))=some y1:=hg 1 _ rfl;rw [k2] at h3;obtain ⟨n0,e0,_,w0⟩:=DataW.trod_int Tryz.underlying3 h0;obtain ⟨s,e3,e4,_⟩:=DataW.trod_string Tryz.underlying9 h3;simp only [List.drop,List.take,List.cons.injEq,and_true] at e0 e3;subst e0 e3;obtain ⟨l,rfl,hll⟩:=azu s;refine ⟨(n0,l),rfl,wf_i64 w0,?_⟩;subst hx1;have hz:=Sz.field hs Tryz.underlying129 (i:=1) rfl rfl;rw [e4] at hz;simpa using hz.str
end
abbrev Aw:=Nat × Nat × Nat
structure fJ where
 kind:Nat
 a:Nat
 b:Nat
 c:Nat
 parts:List Aw
def aav (p:Aw):List Value:=[.int .u8 p.1,.int .u8 p.2.1,.int .u8 p.2.2]
def Xd (p:Aw):Prop:=p.1 < 256∧p.2.1 < 256∧p.2.2 < 256
def ae2 (x:fJ) (vp:Value):List Value:=[.int .u8 x.kind,.int .u8 x.a,.int .u8 x.b,.int .u8 x.c,vp]
structure U4 (w:World) (B:Nat) (x:fJ) (vp:Value):Prop where
 ints:x.kind < 256∧x.a < 256∧x.b < 256∧x.c < 256
 len:x.parts.length≤46912496117077
 ins:∀ p ∈ x.parts,Xd p
 parts:Rd w B 3 vp x.parts.length (x.parts.flatMap aav)
def jR (w:World) (B:Nat) (v:Value) (xs:List fJ):Prop := ∃ c:Nat→List Value,Row w B 5 v xs.length c∧∀ (i:Nat) (h:i < xs.length),∃ vp,c i=ae2 xs[i] vp∧U4 w B xs[i] vp
section
variable {H:Type} {enc:TypeId × Value→H} {w:World} {base:Nat} {spare:Nat→Bool} {held:Bool}
end
end Go.Proofs.YtlamhkffnlgofaaGreatDoor
namespace Go.Proofs.YtlamhkffnlgofaaGreatDoor
open Go.ChangeShapes Go.WideShapes Go.ChangeAt Go.RowKit
theorem jR.keep {w w':World} {B B':Nat} {v:Value} {xs:List fJ} (h:jR w B v xs) (hk:∀ p:Addr,p.block < B→w'.cell? p=w.cell? p) (hB:B≤B'):jR w' B' v xs:=by
 obtain ⟨c,h1,h2⟩:=h;refine ⟨c,(h1.keep hk).mono hB,fun i hi => ?_⟩;obtain ⟨vp,e,hn⟩:=h2 i hi;exact ⟨vp,e,hn.ints,hn.len,hn.ins,(hn.parts.keep hk).mono hB⟩
theorem jR.on {w w':World} {v:Value} {xs:List fJ} (h:jR w w.heap.size v xs) (hb:Below w.heap.size w w'):jR w' w'.heap.size v xs:=h.keep (fun _ hp => hb.cell hp) hb.size
theorem jR.form {w:World} {B:Nat} {v:Value} {xs:List fJ} (h:jR w B v xs):∃ A c,v = .slice A xs.length c∧xs.length≤c:=by
 exact zFr
def ajs (w:World) (b o:Nat) (x:fJ) (vp:Value):Prop :=
 w.cell? ⟨b,o,none⟩=some (.int .u8 x.kind)∧w.cell? ⟨b,o+1,none⟩=some (.int .u8 x.a)∧w.cell? ⟨b,o+2,none⟩=some (.int .u8 x.b)∧w.cell? ⟨b,o+3,none⟩=some (.int .u8 x.c)∧w.cell? ⟨b,o+4,none⟩=some vp
theorem jR.elem {w:World} {B n cap:Nat} {A:Option Addr} {xs:List fJ} (h:jR w B (.slice A n cap) xs) (hpos:0 < xs.length):∃ b o,A=some ⟨b,o,none⟩∧b < B∧∀ k (hk:k < xs.length),∃ vp,ajs w b (o+k*5) xs[k] vp∧U4 w B xs[k] vp:=by
 obtain ⟨c,⟨A',c',hv,hc,h2⟩,h3⟩:=h;injection hv with h4 h5 h6;subst h4;rcases h2 with h2 | ⟨b,o,hA,hb,hcell⟩
 · omega
 refine ⟨b,o,hA,hb,fun k hk => ?_⟩;obtain ⟨vp,hcs,hm⟩:=h3 k hk;have hc:=hcell k hk;rw [hcs] at hc;exact ⟨vp,⟨hc 0 _ rfl,hc 1 _ rfl,hc 2 _ rfl,hc 3 _ rfl,hc 4 _ rfl⟩,hm⟩
theorem zGj {p:Prop} (h:p:=by
 go_enter Tryz.func93,Tryz.ntmps93
 go_wp2_with fail;go_ret;exact ⟨au (by first | (simp;done) | (simp;omega)),rfl⟩):p:=h
theorem D8 (k:Int) (w:World):Calls Tryz.prog 93 #[.int .i64 k] w fun e w' => e = .returned (.bool (decide (1≤k) && decide (k≤4)))∧w=w':=by
 by_cases h1:1≤k
 ·
  have d1:decide (1≤k)=true:=decide_eq_true h1;by_cases h2:k≤4
  ·
   have d2:decide (k≤4)=true:=decide_eq_true h2;go_enter Tryz.func93,Tryz.ntmps93
   go_wp2_with fail;go_ret;exact ⟨au (by simp [h1,h2]),rfl⟩
  have d2:decide (k≤4)=false:=decide_eq_false h2;exact zGj
 have d1:decide (1≤k)=false:=decide_eq_false h1;exact zGj
end Go.Proofs.YtlamhkffnlgofaaGreatDoor

/- The numbers of classes in a map that the call has made. No condition. -/
import Derived.Test.YtlamhkffnlgofaaGreatDoorHAA
import Derived.Maps.OwnSet
import Derived.Maps.Views
namespace Go.Proofs.YtlamhkffnlgofaaGreatDoor
open Go.ChangeShapes Go.WideShapes Go.ChangeAt Go.RowKit
open Go.Maps (Keyed)
open Go.WideMaps
def numLit (c:Nat):Lit:=.int .i64 (c:Int)
def V5 (w:World) (b:Nat) (f:List Nat):Prop :=
 ∃ D:DataW Unit,w.ownsMap Tryz.prog 3 (plainElem Tryz.prog 3) b f.length D∧∀ c:Nat,c≤4294967296→Maps.has D (numLit c)=decide (c ∈ f)∧D.atKey (numLit c) (.lit (.int .i64 0)) = .lit (.int .i64 (if c ∈ f then f.idxOf c else 0:Nat))
theorem aum:Keyed Tryz.prog 3:=Maps.int_keyed Tryz.underlying3
theorem awr (w:World):(zeroValue 3).run Tryz.prog w = .ok (.int .i64 0) w:=by kernel_rfl
theorem azD (c:Nat) (h:c≤4294967296):(numLit c).wf=true:=by unfold numLit Lit.wf;simp [IntKind.min,IntKind.max,IntKind.signed,IntKind.bits];omega
theorem aun (c:Nat) (h:c≤4294967296):keyOf Tryz.prog 3 (.int .i64 (c:Int))=some (numLit c):=Maps.keyOf_int_mk Tryz.underlying3 (azD c h)
theorem V5.made (w:World):V5 (w.alloc (.map #[] 0)) w.heap.size []:=⟨.map [],World.ownsMap_made _ _ _ _,fun _ _ => ⟨rfl,rfl⟩⟩
theorem V5.here {w:World} {b:Nat} {f:List Nat} (h:V5 w b f):b < w.heap.size:=by
 obtain ⟨D,h1,_⟩:=h;exact h1.lt
theorem V5.keep {w w':World} {b:Nat} {f:List Nat} (h:V5 w b f) (hk:w'.heap[b]?=w.heap[b]?):V5 w' b f:=by
 obtain ⟨D,⟨es,clock,h1,h2⟩,h3⟩:=h;exact ⟨D,⟨es,clock,hk.trans h1,h2⟩,h3⟩
theorem V5.kept {w:World} {b:Nat} {f:List Nat} (h:V5 w b f):Kept (fun w => V5 w b f) w b (b+1) :=
 ⟨h,fun _ hk => h.keep (hk b (Nat.le_refl _) (Nat.lt_succ_self _)),h.here⟩
theorem V5.look {w:World} {b:Nat} {f:List Nat} (h:V5 w b f) (c:Nat) (hc:c≤4294967296) :
  (Instr.lookup 130 (.map (some b)) (.int .i64 (c:Int)) true).run Tryz.prog w = .ok (.tuple #[.int .i64 (if c ∈ f then f.idxOf c else 0:Nat),.bool (decide (c ∈ f))]) w:=by
 obtain ⟨D,h1,h2⟩:=h;obtain ⟨h3,h4⟩:=h2 c hc;obtain ⟨v,ps,hrun,hv⟩:=h1.look_ok aum Tryz.underlying130 (awr w) (plainElem_int Tryz.underlying3 (by decide)) (aun c hc);rw [h4] at hv;obtain ⟨a,rfl,he,_⟩:=plainElem_int_inv Tryz.underlying3 hv;have h5:=congrArg Prod.fst he;simp only [DataW.lit.injEq,Lit.int.injEq,true_and] at h5;rw [h3,← h5] at hrun;exact hrun
theorem V5.look1 {w:World} {b:Nat} {f:List Nat} (h:V5 w b f) (c:Nat) (hc:c≤4294967296) :
  (Instr.lookup 130 (.map (some b)) (.int .i64 (c:Int)) false).run Tryz.prog w = .ok (.int .i64 (if c ∈ f then f.idxOf c else 0:Nat)) w:=by
 obtain ⟨D,h1,h2⟩:=h;obtain ⟨_,h4⟩:=h2 c hc;obtain ⟨v,ps,hrun,hv⟩:=h1.lookup aum Tryz.underlying130 (awr w) (plainElem_int Tryz.underlying3 (by decide)) (aun c hc);rw [h4] at hv;obtain ⟨a,rfl,he,_⟩:=plainElem_int_inv Tryz.underlying3 hv;have h5:=congrArg Prod.fst he;simp only [DataW.lit.injEq,Lit.int.injEq,true_and] at h5;rw [← h5] at hrun;exact hrun
theorem V5.put {w:World} {b:Nat} {f:List Nat} (h:V5 w b f) (c:Nat) (hc:c≤4294967296) (hf:c ∉ f) (hl:f.length≤4294967295) :
  ∃ w',(Instr.mapUpdate 130 (.map (some b)) (.int .i64 (c:Int)) (.int .i64 (f.length:Nat))).run Tryz.prog w = .ok () w'∧V5 w' b (f ++ [c])∧w.grownBy w' (some b):=by
 obtain ⟨D,h1,h2⟩:=h;have hm:=h1.isMap;obtain ⟨w',r1,r2,r3⟩:=h1.update aum Tryz.underlying130 (by unfold maxLen;omega) (aun c hc) (plainElem_int Tryz.underlying3 (azD f.length (by omega)));refine ⟨w',r1,⟨_,by rw [List.length_append];exact r2,fun q hq => ?_⟩,r3⟩;by_cases h3:q=c
 ·
  subst h3;rw [Maps.has_put_same hm (by trivial),Maps.atKey_put_same hm (by trivial)];have h4:(f ++ [q]).idxOf q=f.length:=by rw [List.idxOf_append];simp [hf]
  rw [if_pos (by simp),h4];exact ⟨by simp,rfl⟩
 have h4:numLit q≠numLit c:=by intro h;unfold numLit at h;injection h with _ h;omega
 obtain ⟨h5,h6⟩:=h2 q hq;have h7:q ∈ f ++ [c]↔q ∈ f:=by simp [h3]
 rw [Maps.has_put_other h4,Maps.atKey_put_other h4,h5,h6];refine ⟨by simp [h3],?_⟩;by_cases h8:q ∈ f
 · rw [if_pos h8,if_pos (h7.2 h8),List.idxOf_append,if_pos h8]
 rw [if_neg h8,if_neg (fun h => h8 (h7.1 h))]
theorem aq8 {ops:Array Oper} {rest:List Oper} {o:Oper} {a:Act} {Q:Exit→Act→World→Prop} {w:World} (hg:o.guard=none) (m x v:Operand) (hop:o.op=Op.mapUpdate 130 m x v∨o.op=Op.insert 130 m x v)
  (b:Nat) (f:List Nat) (hm:a.eval m = .map (some b)) (hown:V5 w b f) (hl:f.length≤4294967295) (c:Nat) (hx:a.eval x = .int .i64 (c:Int)) (hv:a.eval v = .int .i64 (f.length:Nat)) (hc:c≤4294967296) (hf:c ∉ f)
  (hK:∀ w',V5 w' b (f ++ [c])→w.grownBy w' (some b)→wpList Tryz.prog ops Q rest (a.put o.dst undef) w'):wpList Tryz.prog ops Q (o :: rest) a w:=by
 refine wpList_plain hg fun K' hK' => ?_;obtain ⟨w',hrun,r1,r2⟩:=hown.put c hc hf hl;unfold Oper.wp;rcases hop with hop | hop
 ·
  simp [execOp,hop,hm,hx,hv,hrun,Result.andThen];exact hK' _ _ (hK w' r1 r2)
 simp [execOp,hop,hm,hx,hv,hrun,Result.andThen];exact hK' _ _ (hK w' r1 r2)
end Go.Proofs.YtlamhkffnlgofaaGreatDoor

/- Plain: payloads taken apart, and what a reader sees in them. The state behind an operation of a region that draws, laid out. Lists of values that a call builds by append. The parts of a payload: next, part, Arm, Items, Fields. Fields of a payload. What decoding may change: the reader's block, rows of ints above it, new blocks. Plain: what stands behind the first failure of a list does not matter. No condition. -/
import Derived.Test.YthkfapcadhnaeaaGreatDoorHAE
import Derived.Test.YthkfapcadhnaeaaGreatDoorValid
import Derived.Test.YthkfapcadhnaeaaGreatDoorHAF
import Derived.Test.YthkfapcadhnaeaaGreatDoorHAH
import Derived.Maps.AppendAt
import Derived.Laws.OwnMore
set_option maxHeartbeats 1000000
namespace Go.Proofs.YthkfapcadhnaeaaGreatDoor
open Go.ChangeShapes Go.WideShapes Go.ChangeAt Go.RowKit
structure nN where
 id:Nat
 jR:Bool
 data:List UInt8
abbrev fO:=Except (List Int × Int) Val
def qW (l:List UInt8):Option (Nat × List UInt8):=if (jV 0 0 l).2.2=0 then some ((jV 0 0 l).1,l.drop (jV 0 0 l).2.1) else none
def uF (l:List UInt8):Option (List UInt8 × List UInt8):=match qW l with
 | none => none
 | some (n,r) => if n≤r.length then some (r.take n,r.drop n) else none
def wU:Nat→List UInt8→List (List UInt8)→Option (List (List UInt8))
 | 0,l,acc => if l = [] then some acc else none
 | f+1,l,acc => if l = [] then some acc else match uF l with
  | none => none
  | some (p,r) => wU f r (acc ++ [p])
def sV (l:List UInt8):Option (List (List UInt8)):=wU l.length l []
def sZ:Nat→List UInt8→Nat→List nN→Option (List nN)
 | 0,l,_,acc => if l = [] then some acc else none
 | f+1,l,last,acc => if l = [] then some acc else match qW l with
  | none => none
  | some (h,r) => if h / 2≤last∨1000 < h / 2 then none else match uF r with
   | none => none
   | some (p,r') => sZ f r' (h / 2) (acc ++ [⟨h / 2,decide (h % 2=1),p⟩])
def vS (l:List UInt8):Option (List nN):=sZ l.length l 0 []
def DT (l:List UInt8):Option (Nat × List UInt8):=match qW l with
 | none => none
 | some (n,r) => if n < 1∨1000 < n then none else some (n,r)
theorem abP:∀ (l:List UInt8) (i n:Nat),i≤9→(jV i n l).2.2=0→i < (jV i n l).2.1∧(jV i n l).2.1≤i+l.length:=by
 intro l
 induction l with
 | nil => intro i n _ h;simp [jV] at h
 | cons b r ih =>
  intro i n hi h
  by_cases h1:i=9∧1 < b.toNat
  · rw [CW i n b r h1.1 h1.2] at h;simp at h
  by_cases h2:128≤b.toNat
  ·
   rw [EJ i n b r h1 h2] at h ⊢
   have hi8:i+1≤9:=by
    rcases Nat.lt_or_ge i 9 with h3 | h3
    · omega
    exact absurd ⟨by omega,by omega⟩ h1
   have:=ih (i+1) _ hi8 h
   simp only [List.length_cons];omega
  by_cases h3:b.toNat=0∧0 < i
  · rw [AB i n b r h1 h3.1 h3.2] at h;simp at h
  rw [EK i n b r h1 (by omega) h3]
  simp only [List.length_cons];omega
theorem adM:∀ (l:List UInt8) (i n:Nat),i≤9→n < 128 ^ i→yD (jV i n l).1:=by
 intro l
 induction l with
 | nil => intro i n _ _;simp [jV,yD]
 | cons b r ih =>
  intro i n hi hn
  by_cases h1:i=9∧1 < b.toNat
  · rw [CW i n b r h1.1 h1.2];simp [yD]
  by_cases h2:128≤b.toNat
  ·
   rw [EJ i n b r h1 h2]
   have hi8:i+1≤9:=by
    rcases Nat.lt_or_ge i 9 with h3 | h3
    · omega
    exact absurd ⟨by omega,by omega⟩ h1
   refine ih _ _ hi8 ?_
   have hb:b.toNat % 128≤127:=by omega
   have:=Nat.mul_le_mul_right (128 ^ i) hb
   rw [Nat.pow_succ];omega
  by_cases h3:b.toNat=0∧0 < i
  · rw [AB i n b r h1 h3.1 h3.2];simp [yD]
  rw [EK i n b r h1 (by omega) h3]
  show n+b.toNat*128 ^ i < 18446744073709551616
  by_cases h9:i=9
  ·
   subst h9
   have hb:b.toNat≤1:=by
    rcases Nat.lt_or_ge 1 b.toNat with h4 | h4
    · exact absurd ⟨rfl,h4⟩ h1
    exact h4
   have e:(128:Nat) ^ 9=9223372036854775808:=by decide
   have:=Nat.mul_le_mul_right (128 ^ 9) hb
   rw [e] at *;omega
  have hb:b.toNat≤127:=by omega
  have:=Nat.mul_le_mul_right (128 ^ i) hb
  have h8:128 ^ i≤128 ^ 8:=Nat.pow_le_pow_right (by omega) (by omega)
  have e:(128:Nat) ^ 8=72057594037927936:=by decide
  omega
theorem sG {l:List UInt8} {n:Nat} {r:List UInt8} (h:qW l=some (n,r)):∃ k,1≤k∧k≤l.length∧r=l.drop k∧yD n∧(jV 0 0 l)=(n,k,0):=by
 unfold qW at h
 by_cases h0:(jV 0 0 l).2.2=0
 ·
  rw [if_pos h0] at h
  simp only [Option.some.injEq,Prod.mk.injEq] at h
  obtain ⟨rfl,rfl⟩:=h
  have:=abP l 0 0 (by omega) h0
  refine ⟨_,by omega,by omega,rfl,adM l 0 0 (by omega) (by decide),Prod.ext rfl (Prod.ext rfl h0)⟩
 rw [if_neg h0] at h;cases h
theorem CX {l:List UInt8} (h:qW l=none):(jV 0 0 l).2.2≠0:=by
 intro h0;unfold qW at h;rw [if_pos h0] at h;cases h
theorem vP {l p r:List UInt8} (h:uF l=some (p,r)):p.length+r.length < l.length:=by
 unfold uF at h
 split at h
 · cases h
 rename_i n q hq
 obtain ⟨k,h1,h2,h3,_,_⟩:=sG hq
 by_cases hn:n≤q.length
 ·
  rw [if_pos hn] at h
  simp only [Option.some.injEq,Prod.mk.injEq] at h
  obtain ⟨rfl,rfl⟩:=h
  have:q.length=l.length - k:=by rw [h3];simp
  simp only [List.length_take,List.length_drop];omega
 rw [if_neg hn] at h;cases h
def gB (f:Nat→fO):Nat→Nat→List Val→Except (List Int × Int) (List Val)
 | 0,_,acc => .ok acc
 | n+1,i,acc => match f i with
  | .error e => .error e
  | .ok v => gB f n (i+1) (acc ++ [v])
def yQ (l:List nN) (id:Int):Option nN:=l.find? (fun f => (f.id:Int) == id)
def jG (x:aC) (path:List Int):List nN→List Raw→Except (List Int × Int) (List Raw)
 | [],acc => .ok acc
 | f :: r,acc => if (lH x f.id).isSome then jG x path r acc else if f.jR then .error (path ++ [(f.id:Int)],6) else jG x path r (acc ++ [((f.id:Int),f.data)])
def wH (rec:Int→List UInt8→List Int→fO) (x:aC) (l:List nN) (path:List Int) (i:Nat):fO:=match x.aj[i]? with
 | none => .error ([],0)
 | some m => match yQ l m.id with
  | some f => rec m.ty f.data (path ++ [m.id])
  | none => if m.iR then .ok m.dflt else .error (path ++ [m.id],7)
def XF (k:Int):Val:=.mk k false 0 [] 0 [] [] []
def aG (rec:Int→List UInt8→List Int→fO) (x:aC) (p:List UInt8) (path:List Int):fO :=
 if x.kind=1 then (if p = [] then .ok (.mk 1 false 0 [] 0 [] [] []) else if p = [1] then .ok (.mk 1 true 0 [] 0 [] [] []) else .error (path,1))
 else if x.kind=2 then (if (dI p).2≠0 then .error (path,1) else if nR (dI p).1 < x.low∨x.high < nR (dI p).1 then .error (path,2) else .ok (.mk 2 false (nR (dI p).1) [] 0 [] [] []))
 else if x.kind=3 then (if x.max < p.length then .error (path,3) else .ok (.mk 3 false 0 p 0 [] [] []))
 else if x.kind=4 then (if (dI p).2≠0∨(dI p).1 < 1∨1000 < (dI p).1 then .error (path,1) else if (vH x (dI p).1).isSome=false∧x.opn=false then .error (path,4) else .ok (.mk 4 false 0 [] (dI p).1 [] [] []))
 else if x.kind=5 then (match vS p with
  | none => .error (path,1)
  | some l => match gB (wH rec x l path) x.aj.length 0 [] with
   | .error e => .error e
   | .ok is => match jG x path l [] with
    | .error e => .error e
    | .ok rs => .ok (.mk 5 false 0 [] 0 [] is rs))
 else if x.kind=6 then (match DT p with
  | none => .error (path,1)
  | some (id,r) => match lH x id with
   | none => if x.opn then .ok (.mk 6 false 0 [] id [] [] [((id:Int),r)]) else .error (path,5)
   | some i => match rec ((x.aj[i]?.map Mem.ty).getD 0) r (path ++ [(id:Int)]) with
    | .error e => .error e
    | .ok v => .ok (.mk 6 false 0 [] id [] [v] []))
 else if x.kind=7 then (match sV p with
  | none => .error (path,1)
  | some l => if x.max < l.length then .error (path,3) else match gB (fun i => rec x.elem (l.getD i []) (path ++ [(i:Int)])) l.length 0 [] with
   | .error e => .error e
   | .ok is => .ok (.mk 7 false 0 [] 0 [] is []))
 else if x.kind=8 then (match sV p with
  | none => .error (path,1)
  | some l => if l.length % 2=1 then .error (path,1) else if x.max < l.length / 2 then .error (path,3) else match gB (fun i => rec x.key (l.getD (2*i) []) (path ++ [(i:Int)])) (l.length / 2) 0 [] with
   | .error e => .error e
   | .ok ks => if uN ks=false then .error (path,1) else match gB (fun i => rec x.elem (l.getD (2*i+1) []) (path ++ [(i:Int)])) (l.length / 2) 0 [] with
    | .error e => .error e
    | .ok is => .ok (.mk 8 false 0 [] 0 ks is []))
 else (match p with
  | [] => .ok (XF 9)
  | b :: r => if b.toNat≠1 then .error (path,1) else match rec x.elem r (path ++ [0]) with
   | .error e => .error e
   | .ok v => .ok (.mk 9 false 0 [] 0 [] [v] []))
def decP (ts:List aC):Nat→Int→List UInt8→List Int→fO
 | 0,_,_,path => .error (path,8)
 | n+1,t,p,path => match fB ts t with
  | none => .error ([],0)
  | some x => aG (decP ts n) x p path
def iE (ts:List aC) (t:Int) (m:List UInt8):Except Int fO :=
 if eY ts≠0 then .error (eY ts)
 else if (fB ts t).isNone then .error 4
 else if 4096 < m.length then .ok (.error ([],3))
 else .ok (decP ts 200 t m [])
end Go.Proofs.YthkfapcadhnaeaaGreatDoor
namespace Go.Proofs.YthkfapcadhnaeaaGreatDoor
open Go.ChangeShapes Go.WideShapes Go.ChangeAt Go.RowKit
theorem ah:(∀ (a:Act) (v:Value),a.put none v=a)∧(∀ (ts:Array Value) (ds:List _) (i:Nat) (v:Value),Act.put ⟨ts,ds⟩ (some i) v=⟨ts.setIfInBounds i v,ds⟩) ∧
  (∀ (l:List Value) (i:Nat) (v:Value),l.toArray.setIfInBounds i v=(l.set i v).toArray)∧(∀ (x:Value) (l:List Value) (v:Value),(x :: l).set 0 v=v :: l)∧(∀ (x:Value) (l:List Value) (i:Nat) (v:Value),(x :: l).set (i+1) v=x :: l.set i v) ∧
  (∀ (l:List Oper) (i:Nat) (h:i < l.toArray.size),l.toArray[i]'h=l[i]'(by simpa using h))∧(∀ (x:Oper) (l:List Oper) (h:0 < (x :: l).length),(x :: l)[0]'h=x)∧(∀ (x:Oper) (l:List Oper) (i:Nat) (h:i+1 < (x :: l).length),(x :: l)[i+1]'h=l[i]'(by simpa using h)) :=
 ⟨fun _ _ => rfl,fun _ _ _ _ => rfl,fun _ _ _ => by simp,fun _ _ _ => rfl,fun _ _ _ _ => rfl,fun _ _ _ => rfl,fun _ _ _ => rfl,fun _ _ _ _ => rfl⟩
section
variable {P:Program} {md:Region.Mode} {ops:Array Oper} {Q:Exit→Act→World→Prop} {S:World→Prop} {fuel:Nat} {listed:Array Bool} {a:Act} {w:World} {oi:Oper}
theorem tk {i:Nat} {v:Value} (r:wpAnyH P md ops Q S fuel (listed.setIfInBounds i true) (a.put oi.dst v) w) (hi:ops[i]?=some oi:=by rfl) (y:∀ w,S w→(execOp a.eval oi).run P w = .ok (.value v) w:=by (intro w hS;(try dsimp only at hS);go_simp;(first | done | with_reducible rfl)))
  (h1:Region.noSelect ops=true:=by kernel_rfl) (h2:Region.free md ops listed i=true:=by kernel_rfl) (h3:(Region.ready md ops listed).contains i=true:=by kernel_rfl)
  (h4:∀ c a w,Q (.panic c) (a.put oi.dst v) w→Q (.panic c) a w:=by exact fun _ _ _ h => h) (h5:Region.wanted oi (yielded ops a.tmps)=true:=by rfl) (h6:S w:=by assumption):wpAnyH P md ops Q S (fuel+1) listed a w :=
 wpAnyH_take hi h1 h2 h3 h4 (.inl ⟨h5,y⟩) h6 r
theorem tks {i:Nat} (r:wpAnyH P md ops Q S fuel (listed.setIfInBounds i true) (a.put oi.dst undef) w) (hi:ops[i]?=some oi:=by rfl)
  (h1:Region.noSelect ops=true:=by kernel_rfl) (h2:Region.free md ops listed i=true:=by kernel_rfl) (h3:(Region.ready md ops listed).contains i=true:=by kernel_rfl)
  (h4:∀ c a w,Q (.panic c) (a.put oi.dst undef) w→Q (.panic c) a w:=by exact fun _ _ _ h => h) (h5:Region.wanted oi (yielded ops a.tmps)=false:=by rfl) (h6:S w:=by assumption):wpAnyH P md ops Q S (fuel+1) listed a w :=
 wpAnyH_take hi h1 h2 h3 h4 (.inr ⟨h5,rfl⟩) h6 r
theorem fH {i:Nat} {o:Oper} (h:∀ K':Act→World→Prop,Shut (∀ a w,S w→(S w→wpAnyH P md ops Q S fuel (listed.setIfInBounds i true) a w)→K' a w)→if Region.wanted o (yielded ops a.tmps)=true then Oper.wp P o a w K' Q else K' (a.put o.dst undef) w) (hr:Region.ready md ops listed = [i]:=by kernel_rfl) (ho:ops[i]?=some o:=by rfl):wpAnyH P md ops Q S (fuel+1) listed a w :=
 wpAnyH_ready hr (by simp) (AllReadyH.cons ho h AllReadyH.nil)
end
end Go.Proofs.YthkfapcadhnaeaaGreatDoor
namespace Go.Proofs.YthkfapcadhnaeaaGreatDoor
open Go.ChangeShapes Go.WideShapes Go.ChangeAt Go.RowKit
theorem addr_add (b o j:Nat):(⟨b,o,none⟩ : Addr).add j=⟨b,o+j,none⟩:=by unfold Addr.add;split <;> simp_all
structure gQ (w:World) (L:Nat) (S:Nat→Prop) (v:Value) (xs:List Val):Prop where
 ex:∃ cs:List Value,w.ownsRow L 30 8 v xs.length cs∧∀ (i:Nat) (h:i < xs.length),jT w S xs[i] ((cs.drop (i*8)).take 8)
 sep:∀ k,S k→k < w.heap.size∧v.ownBlock≠some k
section
variable {w w':World} {L:Nat} {S:Nat→Prop} {v:Value} {xs:List Val}
theorem gQ.nil (w:World) (L:Nat):gQ w L (fun _ => False) (.slice none 0 0) []:=⟨⟨[],World.ownsRow_nil _ _ _ _,fun i h => by simp at h⟩,fun k h => h.elim⟩
theorem kP {base:Nat} {e:TypeId} {size n:Nat} {ys:List Value} (h:w.ownsRow base e size v n ys) (hk:∀ k,v.ownBlock=some k→w'.heap[k]?=w.heap[k]?):w'.ownsRow base e size v n ys:=by
 obtain ⟨h1,h2⟩:=h
 refine ⟨h1,?_⟩
 rcases h2 with h2 | ⟨g,cap,cur,rfl,hb,hh,h3⟩
 · exact .inl h2
 exact .inr ⟨g,cap,cur,rfl,hb,(hk g rfl).trans hh,h3⟩
theorem gQ.keep (h:gQ w L S v xs) (hk:∀ k,k < w.heap.size→(S k∨v.ownBlock=some k)→w'.heap[k]?=w.heap[k]?) (hs:w.heap.size≤w'.heap.size):gQ w' L S v xs:=by
 obtain ⟨⟨cs,h1,h2⟩,h3⟩:=h
 have hl:=fun k (hk:v.ownBlock=some k) => h1.lt k hk
 exact ⟨⟨cs,kP h1 fun k hb => hk k (hl k hb).2 (.inr hb),fun i hi => (h2 i hi).keep (fun p hp => World.cell?_of_block (hk p.block (h3 _ hp).1 (.inl hp))) (fun _ h => h)⟩,
  fun k hS => ⟨Nat.lt_of_lt_of_le (h3 k hS).1 hs,(h3 k hS).2⟩⟩
theorem gQ.lt (h:gQ w L S v xs):∀ k,v.ownBlock=some k→L≤k∧k < w.heap.size:=fun k hk => by
 obtain ⟨⟨cs,h1,_⟩,_⟩:=h
 exact h1.lt k hk
theorem gQ.form (h:gQ w L S v xs):∃ A c,v = .slice A xs.length c:=by
 obtain ⟨⟨cs,h1,_⟩,_⟩:=h
 exact aF h1
theorem gQ.row (h:gQ w L S v xs):jv w (fun k => S k∨v.ownBlock=some k) v xs:=by
 obtain ⟨⟨cs,h1,h2⟩,_⟩:=h
 refine ⟨fun i => (cs.drop (i*8)).take 8,?_,fun i hi => (h2 i hi).keep (fun _ _ => rfl) (fun _ h => .inl h)⟩
 have h0:=h1
 obtain ⟨hl,h3⟩:=h1
 rcases h3 with ⟨rfl,hn⟩ | ⟨g,cap,cur,rfl,hb,hh,hc,_⟩
 · exact ⟨none,0,by rw [hn],by omega,.inl hn⟩
 refine ⟨_,cap,rfl,hc,.inr ⟨g,0,rfl,.inr rfl,fun i hi j u hu => ?_⟩⟩
 have hj:j < 8:=by
  have:=(List.getElem?_eq_some_iff.1 hu).1
  simp at this;omega
 rw [List.getElem?_take_of_lt hj,List.getElem?_drop] at hu
 have:=h0.cells (g:=g) rfl (i*8+j) u hu
 have e:(⟨g,0,none⟩ : Addr).add (i*8+j)=⟨g,0+i*8+j,none⟩:=by unfold Addr.add;split <;> simp_all
 rwa [e] at this
theorem gQ.rds (h:gQ w L S v xs):kN w w.heap.size v xs:=by
 obtain ⟨c,h1,h2⟩:=h.row
 have hS:∀ b,(S b∨v.ownBlock=some b)→b < w.heap.size:=fun b hb => hb.elim (fun hb => (h.sep b hb).1) (fun hb => (h.lt b hb).2)
 exact ⟨c,h1.row hS,fun i hi => (h2 i hi).rd hS⟩
theorem gQ.mono {S':Nat→Prop} (h:gQ w L S v xs) (hS:∀ k,S k→S' k) (hd:∀ k,S' k→k < w.heap.size∧v.ownBlock≠some k):gQ w L S' v xs:=by
 obtain ⟨⟨cs,h1,h2⟩,_⟩:=h
 exact ⟨⟨cs,h1,fun i hi => (h2 i hi).keep (fun _ _ => rfl) hS⟩,hd⟩
theorem jT.len {S:Nat→Prop} {y:Val} {c:List Value} (h:jT w S y c):c.length=8:=by cases h;rfl
theorem xR.one {S:Nat→Prop} {size n:Nat} {v:Value} {c:Nat→List Value} (h:xR w S size v n c):v.oneCell'=true:=by obtain ⟨A,cap,rfl,_⟩:=h;rfl
theorem II.one {S:Nat→Prop} {size n:Nat} {v:Value} {ys:List Value} (h:II w S size v n ys):v.oneCell'=true:=by obtain ⟨_,A,cap,rfl,_⟩:=h;rfl
theorem jT.one {S:Nat→Prop} {y:Val} {c:List Value} (h:jT w S y c):∀ u ∈ c,u.oneCell'=true:=by
 cases h with
 | mk k b n s id ks is rs vk vi vr ck ci hn hs hl kT h1 _ h2 _ h3 =>
  intro u hu
  simp only [List.mem_cons,List.not_mem_nil,or_false] at hu
  rcases hu with rfl | rfl | rfl | rfl | rfl | rfl | rfl | rfl <;> first | rfl | exact h1.one | exact h2.one | exact h3.one
theorem gQ.app {w1:World} {Sy:Nat→Prop} {ys:List Val} {c:Nat→List Value} {cs:List Value} {v':Value} (h:gQ w L S v xs) (hcs:w.ownsRow L 30 8 v xs.length cs) (h2:∀ (i:Nat) (h:i < xs.length),jT w S xs[i] ((cs.drop (i*8)).take 8))
  (hy:∀ (i:Nat) (h:i < ys.length),jT w Sy ys[i] (c i)) (hyS:∀ k,Sy k→k < w.heap.size∧v.ownBlock≠some k)
  (hown:w1.ownsRow L 30 8 v' (xs.length+ys.length) (cs ++ jA c ys.length)) (hgr:w.grownBy w1 v.ownBlock) (hat:v'.ownBlock=v.ownBlock∨v'.ownBlock=some w.heap.size) :
  gQ w1 L (fun k => S k∨Sy k) v' (xs ++ ys):=by
 have hcl:cs.length=xs.length*8:=hcs.1
 have hkS:∀ k,(S k∨Sy k)→k < w.heap.size∧v.ownBlock≠some k:=fun k hk => hk.elim (h.sep k) (hyS k)
 have hkeep:∀ p:Addr,(S p.block∨Sy p.block)→w1.cell? p=w.cell? p:=fun p hp => World.cell?_of_block (hgr.block p.block (hkS _ hp).1 (fun e => (hkS _ hp).2 e.symm))
 have QZ:∀ i,i < ys.length→(c i).length=8:=fun i hi => (hy i hi).len
 refine ⟨⟨cs ++ jA c ys.length,by simpa using hown,fun i hi => ?_⟩,fun k hk => ⟨Nat.lt_of_lt_of_le (hkS k hk).1 hgr.size,?_⟩⟩
 ·
  by_cases hlt:i < xs.length
  ·
   rw [List.getElem_append_left hlt]
   have e:((cs ++ jA c ys.length).drop (i*8)).take 8=(cs.drop (i*8)).take 8:=by
    rw [List.drop_append_of_le_length (by omega),List.take_append_of_le_length (by simp;omega)]
   rw [e]
   exact (h2 i hlt).keep (fun p hp => hkeep p (.inl hp)) (fun _ h => .inl h)
  obtain ⟨j,rfl⟩ : ∃ j,i=xs.length+j:=⟨i - xs.length,by omega⟩
  have hj:j < ys.length:=by simp at hi;omega
  have e:((cs ++ jA c ys.length).drop ((xs.length+j)*8)).take 8=c j:=by
   rw [Nat.add_mul,← hcl,← List.drop_drop,List.drop_left]
   apply List.ext_getElem?
   intro q
   by_cases hq:q < 8
   · rw [List.getElem?_take_of_lt hq,List.getElem?_drop,vI c 8 ys.length QZ j q hj hq]
   rw [List.getElem?_eq_none (by simp;omega),List.getElem?_eq_none (by rw [QZ j hj];omega)]
  rw [e]
  have e2:(xs ++ ys)[xs.length+j]'hi=ys[j]:=by simp [List.getElem_append_right]
  rw [e2]
  exact (hy j hj).keep (fun p hp => hkeep p (.inr hp)) (fun _ h => .inr h)
 intro he
 rcases hat with h4 | h4
 · rw [h4] at he;exact (hkS k hk).2 he
 rw [h4] at he;injection he with he;have:=(hkS k hk).1;omega
end
theorem ajF:(Tryz.prog.info? 30).map (fun i => (i.zero,i.size,i.bytes))=some (some (.agg #[.int .i64 0,.bool false,.int .i64 0,.string ByteArray.empty,.int .i64 0,.slice none 0 0,.slice none 0 0,.slice none 0 0]),8,120):=by kernel_rfl
theorem Nr {ops:Array Oper} {op:Oper} {a:Act} {w:World} {K:Act→World→Prop} {Q:Exit→Act→World→Prop} {E:Prop} (hgd:op.guard=none) (s x:Operand)
  (ho:op.op = .call { callee:=.builtin .append,args:=#[s,x],argTypes:=#[27,27] }) {L b o cp:Nat} {S Sy:Nat→Prop} {v:Value} {xs ys:List Val} {c:Nat→List Value} (ht:gQ w L S v xs) (hs:a.eval s=v)
  (hx:a.eval x = .slice (some ⟨b,o,none⟩) ys.length cp) (hcell:∀ i,i < ys.length→∀ j u,(c i)[j]?=some u→w.cell? ⟨b,o+i*8+j,none⟩=some u) (hy:∀ (i:Nat) (h:i < ys.length),jT w Sy ys[i] (c i)) (hyS:∀ k,Sy k→k < w.heap.size∧v.ownBlock≠some k)
  (hn:xs.length+ys.length < 1000000) (hB:L≤w.heap.size)
  (h:∀ v' w1,gQ w1 L (fun k => S k∨Sy k) v' (xs ++ ys)→(v'.ownBlock=v.ownBlock∨v'.ownBlock=some w.heap.size)→Below L w w1→(∀ k,k < w.heap.size→v.ownBlock≠some k→w1.heap[k]?=w.heap[k]?)→K (a.put op.dst v') w1) :
  if Region.wanted op (yielded ops a.tmps)=true then Oper.wp Tryz.prog op a w K Q else E:=by
 obtain ⟨i0,hi,hz0,hz1,hz2⟩:=info_parts ajF
 obtain ⟨⟨cs,h1,h2⟩,h3⟩:=id ht
 have QZ:∀ i,i < ys.length→(c i).length=8:=fun i hi => (hy i hi).len
 have hnews:∀ j u,(jA c ys.length)[j]?=some u→w.cell? ((⟨b,o,none⟩ : Addr).add j)=some u:=by
  intro j u hu
  have hlt:j < ys.length*8:=by have:=(List.getElem?_eq_some_iff.1 hu).1;rwa [rY c 8 _ QZ] at this
  have hj:j=j / 8*8+j % 8:=by omega
  rw [hj,vI c 8 ys.length QZ (j / 8) (j % 8) (by omega) (by omega)] at hu
  have:=hcell (j / 8) (by omega) (j % 8) u hu
  rw [addr_add,show o+j=o+j / 8*8+j % 8 by omega];exact this
 have hone:∀ u ∈ jA c ys.length,u.oneCell'=true:=by
  intro u hu
  obtain ⟨j,hj,rfl⟩:=List.getElem_of_mem hu
  have hlt:j < ys.length*8:=by rwa [rY c 8 _ QZ] at hj
  have hj2:j=j / 8*8+j % 8:=by omega
  have hu2:(jA c ys.length)[j]?=some ((jA c ys.length)[j]):=List.getElem?_eq_getElem hj
  generalize (jA c ys.length)[j]=u at *
  have hu3:=vI c 8 ys.length QZ (j / 8) (j % 8) (by omega) (by omega)
  rw [← hj2,hu2] at hu3
  exact (hy (j / 8) (by omega)).one _ (List.mem_of_getElem? hu3.symm)
 obtain ⟨v',w1,hr,hown,hgr,_,hat⟩:=run_append_own_at (P:=Tryz.prog) (w:=w) L 27 op.type 30 i0 _ 8 120 Tryz.underlying27 hi hz0 hz1 hz2 rfl (by decide) v xs.length cs h1 ⟨b,o,none⟩ ys.length cp (jA c ys.length) (rY c 8 _ QZ) hnews hone (by simp only [maxLen];omega) (by omega) hB
 have hw:Region.wanted op (yielded ops a.tmps)=true:=by simp [Region.wanted,hgd]
 rw [if_pos hw]
 unfold Oper.wp execOp
 simp only [ho,resolve,invoke,builtin,Sem.run_bind,Sem.run_pure,Result.andThen_ok,List.map_toArray,List.map_cons,List.map_nil,hs,hx,hr]
 exact h v' w1 (ht.app h1 h2 hy hyS hown hgr hat) hat (Ba hgr hB (fun k hk => (h1.lt k hk).1)) (fun k hk hne => hgr.block k hk (fun e => hne e.symm))
theorem xY {ops:Array Oper} {op:Oper} {a:Act} {w:World} {K:Act→World→Prop} {Q:Exit→Act→World→Prop} {E:Prop} (hgd:op.guard=none) (s x:Operand)
  (ho:op.op = .call { callee:=.builtin .append,args:=#[s,x],argTypes:=#[27,27] }) {L gN:Nat} {S Sy:Nat→Prop} {v:Value} {xs:List Val} {y:Val} {cy:Array Value} (ht:gQ w L S v xs) (hs:a.eval s=v)
  (hN:Has w gN 30 cy) (hx:a.eval x = .slice (some ⟨gN,0,none⟩) 1 1) (hy:jT w Sy y cy.toList) (hyS:∀ k,Sy k→k < w.heap.size∧v.ownBlock≠some k)
  (hn:xs.length < 900000) (hB:L≤w.heap.size)
  (h:∀ v' w1,gQ w1 L (fun k => S k∨Sy k) v' (xs ++ [y])→(v'.ownBlock=v.ownBlock∨v'.ownBlock=some w.heap.size)→Below L w w1→(∀ k,k < w.heap.size→v.ownBlock≠some k→w1.heap[k]?=w.heap[k]?)→K (a.put op.dst v') w1) :
  if Region.wanted op (yielded ops a.tmps)=true then Oper.wp Tryz.prog op a w K Q else E :=
 Nr (b:=gN) (o:=0) (cp:=1) (ys:=[y]) (c:=fun _ => cy.toList) hgd s x ho ht hs hx (fun i hi j u hu => by
   have h0:i=0:=by simpa using hi
   subst h0
   have:=hN.cell j
   rw [show (0+0*8+j)=j by omega,this];simpa using hu)
  (fun i hi => (by
   have h0:i=0:=by simpa using hi
   subst h0
   exact hy)) hyS (by simp only [List.length_cons,List.length_nil];omega) hB h
end Go.Proofs.YthkfapcadhnaeaaGreatDoor
namespace Go.Proofs.YthkfapcadhnaeaaGreatDoor
open Go.ChangeShapes Go.WideShapes Go.ChangeAt Go.RowKit
theorem Es {l:List UInt8} {n:Nat} {r:List UInt8} (h:qW l=some (n,r)):yD n∧r.length < l.length:=by
 obtain ⟨k,h1,h2,h3,h4,_⟩:=sG h
 exact ⟨h4,by rw [h3,List.length_drop];omega⟩
theorem next_any (l:List UInt8) (w:World) :
  Calls Tryz.prog 161 #[.string ⟨l.toArray⟩] w fun e w' => (match qW l with
   | some (n,r) => e = .returned (.tuple #[.int .u64 n,.string ⟨r.toArray⟩,.bool true])
   | none => e = .returned (.tuple #[.int .u64 0,.string ByteArray.empty,.bool false]))∧Below w.heap.size w w':=by
 have HG:=Lib.hid (fun W => get_any l W)
 obtain ⟨q,hq⟩ : ∃ q,qW l=q:=⟨_,rfl⟩
 rw [hq]
 cases q with
 | some p =>
  obtain ⟨n,r⟩:=p
  obtain ⟨k,h1,h2,rfl,h4,h5⟩:=sG hq
  rw [h5] at HG
  have hcut:({ data:=l.toArray } : ByteArray).extract k l.length = { data:=(l.drop k).toArray }:=xK _ _ _ rfl
  go_enter Tryz.func161,Tryz.ntmps161
  go_wp2_with fail
  refine (HG.out w).mono ?_
  rintro e w1 ⟨rfl,rfl⟩
  go_wp2_with fail
  go_quiet (fail)
  go_wp2_with fail
  go_ret3
  exact ⟨rfl,below_drewN (Below.refl _ _) _⟩
 | none =>
  have h0:=CX hq
  generalize jV 0 0 l=g at *
  obtain ⟨n,k,e⟩:=g
  have he2:((e:Int) != 0)=true:=by rw [bne_iff_ne];simp only at h0;omega
  go_enter Tryz.func161,Tryz.ntmps161
  go_wp2_with fail
  refine (HG.out w).mono ?_
  rintro e w1 ⟨rfl,rfl⟩
  go_wp2_with fail
  go_ret3
  exact ⟨rfl,Below.refl _ _⟩
theorem V4 (l:List UInt8) (hlen:l.length≤1000000) (w:World) :
  Calls Tryz.prog 162 #[.string ⟨l.toArray⟩] w fun e w' => (match uF l with
   | some (p,r) => e = .returned (.tuple #[.string ⟨p.toArray⟩,.string ⟨r.toArray⟩,.bool true])
   | none => e = .returned (.tuple #[.string ByteArray.empty,.string ByteArray.empty,.bool false]))∧Below w.heap.size w w':=by
 have HG:=Lib.hid (fun W => next_any l W)
 obtain ⟨q,hq⟩ : ∃ q,uF l=q:=⟨_,rfl⟩
 rw [hq]
 unfold uF at hq
 generalize hn:qW l=g at *
 cases g with
 | none =>
  simp only at hq;subst hq
  go_enter Tryz.func162,Tryz.ntmps162
  go_wp2_with fail
  refine (HG.out w).mono ?_
  rintro e w1 ⟨rfl,hb1⟩
  go_wp2_with fail
  go_ret3
  exact ⟨rfl,hb1⟩
 | some g =>
  obtain ⟨n,r⟩:=g
  obtain ⟨hu,hr⟩:=Es hn
  simp only at hq
  have hw:IntKind.u64.wrap (r.length:Int)=r.length:=by rw [IntKind.wrap_u64];omega
  by_cases h1:n≤r.length
  ·
   rw [if_pos h1] at hq;subst hq
   have hle:¬ ((r.length:Int) < n):=by omega
   have hc1:({ data:=r.toArray } : ByteArray).extract 0 n = { data:=(r.take n).toArray }:=by rw [Qc,List.drop_zero]
   have hc2:({ data:=r.toArray } : ByteArray).extract n r.length = { data:=(r.drop n).toArray }:=xK _ _ _ rfl
   go_enter Tryz.func162,Tryz.ntmps162
   go_wp2_with fail
   refine (HG.out w).mono ?_
   rintro e w1 ⟨rfl,hb1⟩
   go_wp2_with fail
   go_quiet (fail)
   go_wp2_with fail
   go_ret3
   exact ⟨rfl,below_drewN hb1 _⟩
  rw [if_neg h1] at hq;subst hq
  have hle:((r.length:Int) < n):=by omega
  go_enter Tryz.func162,Tryz.ntmps162
  go_wp2_with fail
  refine (HG.out w).mono ?_
  rintro e w1 ⟨rfl,hb1⟩
  go_wp2_with fail
  go_ret3
  exact ⟨rfl,hb1⟩
theorem agK (l:List UInt8) (w:World) :
  Calls Tryz.prog 131 #[.string ⟨l.toArray⟩] w fun e w' => (match DT l with
   | some (n,r) => e = .returned (.tuple #[.int .i64 n,.string ⟨r.toArray⟩,.int .i64 0])
   | none => e = .returned (.tuple #[.int .i64 0,.string ByteArray.empty,.int .i64 12]))∧Below w.heap.size w w':=by
 have HG:=Lib.hid (fun W => next_any l W)
 obtain ⟨q,hq⟩ : ∃ q,DT l=q:=⟨_,rfl⟩
 rw [hq]
 unfold DT at hq
 generalize hn:qW l=g at *
 cases g with
 | none =>
  simp only at hq;subst hq
  go_enter Tryz.func131,Tryz.ntmps131
  go_wp2_with fail
  refine (HG.out w).mono ?_
  rintro e w1 ⟨rfl,hb1⟩
  go_wp2_with fail
  go_ret3
  exact ⟨rfl,hb1⟩
 | some g =>
  obtain ⟨n,r⟩:=g
  obtain ⟨hu,hr⟩:=Es hn
  simp only at hq
  by_cases h1:n < 1∨1000 < n
  ·
   rw [if_pos h1] at hq;subst hq
   by_cases h0:(n:Int) < 1
   ·
    go_enter Tryz.func131,Tryz.ntmps131
    go_wp2_with fail
    refine (HG.out w).mono ?_
    rintro e w1 ⟨rfl,hb1⟩
    go_wp2_with fail
    go_ret3
    exact ⟨rfl,hb1⟩
   have h3:(1000:Int) < n:=by omega
   go_enter Tryz.func131,Tryz.ntmps131
   go_wp2_with fail
   refine (HG.out w).mono ?_
   rintro e w1 ⟨rfl,hb1⟩
   go_wp2_with fail
   go_ret3
   exact ⟨rfl,hb1⟩
  rw [if_neg h1] at hq;subst hq
  have h0:¬ (n:Int) < 1:=by omega
  have h3:¬ (1000:Int) < n:=by omega
  have hw:IntKind.i64.wrap (n:Int)=n:=by rw [IntKind.wrap_i64];omega
  go_enter Tryz.func131,Tryz.ntmps131
  go_wp2_with fail
  refine (HG.out w).mono ?_
  rintro e w1 ⟨rfl,hb1⟩
  go_wp2_with fail
  go_ret3
  exact ⟨rfl,hb1⟩
def SB (l:List UInt8):Value:=.string ⟨l.toArray⟩
def yH:Value→Nat
 | .string b => b.size
 | _ => 0
theorem Qo:(Tryz.prog.info? 9).map (fun i => (i.zero,i.size,i.bytes))=some (some (.string ByteArray.empty),1,16):=by kernel_rfl
theorem OI (f:Nat) (acc:List (List UInt8)):wU f [] acc=some acc:=by cases f <;> rfl
def Q5 (w:World) (n:Nat):Option (List (List UInt8))→Ending→World→Prop
 | some I,e,w' => ∃ v,e = .returned (.tuple #[v,.int .i64 0])∧I.length≤n∧w'.ownsRow w.heap.size 9 1 v I.length (I.map SB)∧Below w.heap.size w w'
 | none,e,w' => e = .returned (.tuple #[.slice none 0 0,.int .i64 12])∧Below w.heap.size w w'
set_option maxRecDepth 100000 in
theorem Qs (L:List UInt8) (hlen:L.length≤1000000) (w:World) :
  Calls Tryz.prog 132 #[.string ⟨L.toArray⟩] w (Q5 w L.length (sV L)):=by
 obtain ⟨I,hI⟩ : ∃ I,sV L=I:=⟨_,rfl⟩
 rw [hI]
 go_enter Tryz.func132,Tryz.ntmps132
 go_wp2
 go_loopw [4,5] (fun v s wr => ∃ f l acc,l.length≤f∧l.length+acc.length≤L.length∧s = .string ⟨l.toArray⟩∧I=wU f l acc∧wr.ownsRow w.heap.size 9 1 v acc.length (acc.map SB)∧Below w.heap.size w wr)
  (fun _ s _ => yH s)
 case atStart => exact ⟨L.length,L,[],by omega,by simp,rfl,hI.symm,World.ownsRow_nil _ _ _ _,Below.refl _ _⟩
 case round =>
  obtain ⟨f,l,acc,hf,hla,rfl,hp,hown,hb⟩:=hrel
  have Hp:=Lib.hid hp
  clear hp
  rcases l with _ | ⟨b,r⟩
  ·
   rw [OI] at Hp
   go_wp2
   go_ret2
   rw [Hp.out]
   exact ⟨u4,rfl,by simpa using hla,hown,hb⟩
  obtain ⟨f,rfl⟩ : ∃ g,f=g+1:=⟨f - 1,by simp only [List.length_cons] at hf;omega⟩
  rw [wU,if_neg (by simp)] at Hp
  have hpl:=hla
  have hpart:=V4 (b :: r) (by omega) wr
  have hsz:=@vP (b :: r)
  generalize uF (b :: r)=g at *
  cases g with
  | none =>
   simp only at Hp
   have sQ:=Lib.hid hpart
   clear hpart hsz
   go_wp2_with (go_at_call 162;refine sQ.out.mono ?_;rintro e w1 ⟨rfl,hb1⟩)
   go_ret2
   rw [Hp.out]
   exact ⟨rfl,hb.trans (hb1.mono hb.size)⟩
  | some g =>
   obtain ⟨p,q⟩:=g
   have hsz:=hsz rfl
   simp only at Hp
   have sQ:=Lib.hid hpart
   clear hpart
   go_wp2_with first
    | (go_at_call 162;refine sQ.out.mono ?_;rintro e w1 ⟨rfl,hb1⟩)
    | (at_builtin;refine oD rfl _ _ _ rfl w.heap.size 9 _ 1 16 Tryz.underlying63 Qo rfl (by decide) _ acc.length (acc.map SB) rfl (own_below hown hb1) [_] _ 1 rfl rfl (by simp [Value.oneCell']) (by omega) (by omega) (Nat.le_trans hb.size hb1.size) ?_;intro v' w2 hown2 hb2)
   go_roundw
   case rel =>
    refine ⟨f,q,acc ++ [p],by omega,by simp only [List.length_append,List.length_cons,List.length_nil];omega,rfl,Hp.out,?_,hb.trans ((hb1.mono hb.size).trans hb2)⟩
    rw [List.map_append,List.length_append]
    exact hown2
   case measure =>
    simp only [yH,ByteArray.size,List.size_toArray];omega
end Go.Proofs.YthkfapcadhnaeaaGreatDoor
namespace Go.Proofs.YthkfapcadhnaeaaGreatDoor
open Go.ChangeShapes Go.WideShapes Go.ChangeAt Go.RowKit
def Gm (f:nN):List Value:=[.int .i64 f.id,.bool f.jR,.string ⟨f.data.toArray⟩]
def lX (l:List nN):List Value:=l.flatMap Gm
theorem QA (l:List nN):(lX l).length=l.length*3:=by
 induction l with
 | nil => rfl
 | cons f r ih => simp only [lX,List.flatMap_cons,List.length_append,List.length_cons] at ih ⊢; rw [ih];simp [Gm];omega
theorem Q7 (l:List nN) (f:nN):lX (l ++ [f])=lX l ++ Gm f:=by simp [lX]
theorem Xx:(Tryz.prog.info? 190).map (fun i => (i.zero,i.size,i.bytes))=some (some (.agg #[.int .i64 0,.bool false,.string ByteArray.empty]),3,32):=by kernel_rfl
theorem Ld (f n:Nat) (acc:List nN):sZ f [] n acc=some acc:=by cases f <;> rfl
def OJ (w:World) (n:Nat):Option (List nN)→Ending→World→Prop
 | some I,e,w' => ∃ v,e = .returned (.tuple #[v,.int .i64 0])∧I.length≤n∧w'.ownsRow w.heap.size 190 3 v I.length (lX I)∧Below w.heap.size w w'
 | none,e,w' => e = .returned (.tuple #[.slice none 0 0,.int .i64 12])∧Below w.heap.size w w'
set_option maxRecDepth 100000 in
theorem Yf (L:List UInt8) (hlen:L.length≤1000000) (w:World) :
  Calls Tryz.prog 134 #[.string ⟨L.toArray⟩] w (OJ w L.length (vS L)):=by
 obtain ⟨I,hI⟩ : ∃ I,vS L=I:=⟨_,rfl⟩
 rw [hI]
 go_enter Tryz.func134,Tryz.ntmps134
 go_wp2
 go_loopw [4,5,6] (fun v u s wr => ∃ f l last acc,u = .int .u64 ((last:Nat):Int)∧last≤1000∧l.length≤f∧l.length+acc.length≤L.length∧s = .string ⟨l.toArray⟩∧I=sZ f l last acc∧wr.ownsRow w.heap.size 190 3 v acc.length (lX acc)∧Below w.heap.size w wr)
  (fun _ _ s _ => yH s)
 case atStart => exact ⟨L.length,L,0,[],rfl,by omega,by omega,by simp,rfl,hI.symm,World.ownsRow_nil _ _ _ _,Below.refl _ _⟩
 case round =>
  obtain ⟨f,l,last,acc,rfl,hlast,hf,hla,rfl,hp,hown,hb⟩:=hrel
  have Hp:=Lib.hid hp
  clear hp
  rcases l with _ | ⟨b,r⟩
  ·
   rw [Ld] at Hp
   go_wp2
   go_ret2
   rw [Hp.out]
   exact ⟨u4,rfl,by simpa using hla,hown,hb⟩
  obtain ⟨f,rfl⟩ : ∃ g,f=g+1:=⟨f - 1,by simp only [List.length_cons] at hf;omega⟩
  rw [sZ,if_neg (by simp)] at Hp
  have hnext:=fun W => next_any (b :: r) W
  have hsz:=@Es (b :: r)
  generalize qW (b :: r)=g at *
  cases g with
  | none =>
   simp only at Hp
   have vZ:=Lib.hid hnext
   clear hnext hsz
   go_wp2_with (go_at_call 161;refine (vZ.out _).mono ?_;rintro e w1 ⟨rfl,hb1⟩)
   go_ret2
   rw [Hp.out]
   exact ⟨rfl,hb.trans (hb1.mono hb.size)⟩
  | some g =>
   obtain ⟨h,q⟩:=g
   obtain ⟨hu,hsz⟩:=hsz rfl
   have vZ:=Lib.hid hnext
   clear hnext
   unfold yD at hu
   have hw0:IntKind.u64.wrap ((h:Int) / 2)=(h:Int) / 2:=by rw [IntKind.wrap_u64];omega
   by_cases hc:h / 2≤last∨1000 < h / 2
   ·
    simp only [if_pos hc] at Hp
    by_cases h0:(h:Int) / 2≤last
    ·
     go_wp2_with (go_at_call 161;refine (vZ.out _).mono ?_;rintro e w1 ⟨rfl,hb1⟩)
     go_ret2
     rw [Hp.out]
     exact ⟨rfl,hb.trans (hb1.mono hb.size)⟩
    have h3:(1000:Int) < (h:Int) / 2:=by omega
    go_wp2_with (go_at_call 161;refine (vZ.out _).mono ?_;rintro e w1 ⟨rfl,hb1⟩)
    go_ret2
    rw [Hp.out]
    exact ⟨rfl,hb.trans (hb1.mono hb.size)⟩
   simp only [if_neg hc] at Hp
   have h0:¬ (h:Int) / 2≤last:=by omega
   have h3:¬ (1000:Int) < (h:Int) / 2:=by omega
   have hw1:IntKind.i64.wrap ((h:Int) / 2)=(h:Int) / 2:=by rw [IntKind.wrap_i64];omega
   have hpart:=fun W => V4 q (by omega) W
   have hqz:=@vP q
   generalize uF q=g at *
   cases g with
   | none =>
    simp only at Hp
    have sQ:=Lib.hid hpart
    clear hpart hqz
    go_wp2_with first
     | (go_at_call 161;refine (vZ.out _).mono ?_;rintro e w1 ⟨rfl,hb1⟩)
     | (go_at_call 162;refine (sQ.out _).mono ?_;rintro e w2 ⟨rfl,hb2⟩)
    go_ret2
    rw [Hp.out]
    exact ⟨rfl,hb.trans ((hb1.mono hb.size).trans (hb2.mono (Nat.le_trans hb.size hb1.size)))⟩
   | some g =>
    obtain ⟨p,q'⟩:=g
    have hqz:=hqz rfl
    simp only at Hp
    have sQ:=Lib.hid hpart
    clear hpart
    go_wp2_with first
     | (go_at_call 161;refine (vZ.out _).mono ?_;rintro e w1 ⟨rfl,hb1⟩)
     | (go_at_call 162;refine (sQ.out _).mono ?_;rintro e w2 ⟨rfl,hb2⟩;have jl:=hb.trans ((hb1.mono hb.size).trans (hb2.mono (Nat.le_trans hb.size hb1.size)));have hown1:=own_below (own_below hown hb1) hb2;have adN:=jl.size)
     | (at_builtin;refine oD rfl _ _ _ rfl w.heap.size 190 _ 3 32 Tryz.underlying185 Xx rfl (by decide) _ acc.length (lX acc) rfl hown1 [_,_,_] _ 1 rfl rfl (by simp [Value.oneCell']) (by omega) (by omega) adN ?_;intro v' w3 hown2 hb3)
    go_roundw
    case rel =>
     refine ⟨f,q',h / 2,acc ++ [⟨h / 2,decide (h % 2=1),p⟩],by simp,by omega,by omega,by simp only [List.length_append,List.length_cons,List.length_nil] at *;omega,rfl,Hp.out,?_,jl.trans hb3⟩
     rw [Q7,List.length_append]
     have e:decide (h % 2=1)=((h:Int) % 2 == 1):=by
      rw [Bool.eq_iff_iff,decide_eq_true_iff,beq_iff_eq];omega
     simp only [Gm,e]
     exact hown2
    case measure =>
     simp only [yH,ByteArray.size,List.size_toArray];omega
end Go.Proofs.YthkfapcadhnaeaaGreatDoor
namespace Go.Proofs.YthkfapcadhnaeaaGreatDoor
open Go.ChangeShapes Go.WideShapes Go.ChangeAt Go.RowKit
def iy (w:World) (b:Nat):Prop := ∀ c f,w.heap[b]?≠some (.cells c 3 f)
structure aP (w:World) (gr:Nat) (w':World):Prop where
 low:Below gr w w'
 block:∀ b,gr < b→b < w.heap.size→iy w b→w'.heap[b]?=w.heap[b]?
section
variable {w w1 w':World} {gr:Nat}
theorem aP.refl (w:World) (gr:Nat):aP w gr w:=⟨Below.refl _ _,fun _ _ _ _ => rfl⟩
theorem aP.size (h:aP w gr w'):w.heap.size≤w'.heap.size:=h.low.size
theorem aP.FZ (h:aP w gr w') {b:Nat} (h1:gr < b) (h2:b < w.heap.size) (h3:iy w b):iy w' b:=fun c f e => h3 c f (by rw [← h.block b h1 h2 h3];exact e)
theorem aP.trans (h:aP w gr w1) (h':aP w1 gr w'):aP w gr w' :=
 ⟨h.low.trans h'.low,fun b h1 h2 h3 => (h'.block b h1 (Nat.lt_of_lt_of_le h2 h.size) (h.FZ h1 h2 h3)).trans (h.block b h1 h2 h3)⟩
theorem aP.of_below (h:Below w.heap.size w w') (hg:gr≤w.heap.size):aP w gr w':=⟨h.mono hg,fun b _ h2 _ => h.block b h2⟩
theorem aP.setCell (w:World) (gr i:Nat) (v:Value):aP w gr (w.setCell ⟨gr,i,none⟩ v) :=
 ⟨(Below.refl gr w).setCell (Nat.le_refl gr) v,fun b h1 _ _ => Below.heap_setCell w _ v b (by show b≠gr;omega)⟩
theorem aP.grown {base n:Nat} {v:Value} {xs:List Value} (hg:w.grownBy w' v.ownBlock) (ho:w.ownsRow base 3 1 v n xs) (hb:gr < base) (hs:gr≤w.heap.size):aP w gr w':=by
 have hlt:=ho.lt
 refine ⟨(Below.refl gr w).grown hg hs fun k hk => by have:=hlt k hk;omega,fun b _ h2 h3 => hg.block b h2 fun e => ?_⟩
 rcases ho.2 with ⟨rfl,_⟩ | ⟨g,cap,cur,rfl,_,hh,_⟩
 · simp [Value.ownBlock] at e
 simp only [Value.ownBlock,Option.some.injEq] at e
 subst e
 exact h3 _ _ hh
end
def lV (w w':World) (b:Nat):Prop:=w.heap.size≤b∧b < w'.heap.size∧iy w' b
theorem lV.keep {w w1 w2:World} {gr:Nat} (hg:gr < w.heap.size) (h:aP w1 gr w2) {b:Nat} (hb:lV w w1 b):w2.heap[b]?=w1.heap[b]?∧lV w w2 b :=
 ⟨h.block b (by have:=hb.1;omega) hb.2.1 hb.2.2,hb.1,Nat.lt_of_lt_of_le hb.2.1 h.size,h.FZ (by have:=hb.1;omega) hb.2.1 hb.2.2⟩
theorem lV.later {w0 w w':World} (hs:w0.heap.size≤w.heap.size) {b:Nat} (hb:lV w w' b):lV w0 w' b:=⟨Nat.le_trans hs hb.1,hb.2⟩
def iZ (n:Int):Value:=.int .i64 n
structure jf (w:World) (gr:Nat) (tv fp:Value) (fn:Int) (path:List Int):Prop where
 row:∃ pv,Has w gr 131 #[tv,pv,fp,.int .i64 fn]∧w.ownsRow (gr+1) 3 1 pv path.length (path.map iZ)
end Go.Proofs.YthkfapcadhnaeaaGreatDoor
namespace Go.Proofs.YthkfapcadhnaeaaGreatDoor
open Go.ChangeShapes Go.WideShapes Go.ChangeAt Go.RowKit
def Aq (p:List UInt8):List UInt8:=p.take 10
def pack (l:List (List UInt8)):List UInt8:=l.flatMap fun p => UInt8.ofNat (Aq p).length :: Aq p
theorem QN (p:List UInt8):(Aq p).length≤10:=by simp only [Aq,List.length_take];omega
theorem Vr:∀ (l:List (List UInt8)),(pack l).length≤11*l.length
 | [] => by simp [pack]
 | p :: l => by
  have:=Vr l;have:=QN p
  have e:pack (p :: l)=UInt8.ofNat (Aq p).length :: (Aq p ++ pack l):=by simp [pack]
  rw [e];simp;omega
def behind (a b:List (List UInt8)) (k max:Int):List (List UInt8) :=
 if max < ((a.take k.toNat ++ b).length:Nat) then (a.take k.toNat ++ b).take (if k < max then max else k).toNat else a.take k.toNat ++ b
end Go.Proofs.YthkfapcadhnaeaaGreatDoor

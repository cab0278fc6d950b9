/- Plain: payloads taken apart, and what a reader sees in them. The state behind an operation of a region that draws, laid out. Lists of values that a call builds by append. No condition. -/
import Derived.Test.YtccmmibkihbobaaDoorHAE
import Derived.Test.YtccmmibkihbobaaDoorValid
import Derived.Test.YtccmmibkihbobaaDoorHAF
import Derived.Test.YtccmmibkihbobaaDoorHAH
import Derived.Maps.AppendAt
import Derived.Laws.OwnMore
namespace Go.Proofs.YtccmmibkihbobaaDoor
open Go.ChangeShapes Go.WideShapes Go.ChangeAt Go.RowKit
structure Fld where
 id : Nat
 crit : Bool
 data : List UInt8
abbrev Res := Except (List Int × Int) Val
def nextP (l : List UInt8) : Option (Nat × List UInt8) := if (getF 0 0 l).2.2 = 0 then some ((getF 0 0 l).1, l.drop (getF 0 0 l).2.1) else none
def partP (l : List UInt8) : Option (List UInt8 × List UInt8) := match nextP l with
 | none => none
 | some (n, r) => if n ≤ r.length then some (r.take n, r.drop n) else none
def itemsF : Nat → List UInt8 → List (List UInt8) → Option (List (List UInt8))
 | 0, l, acc => if l = [] then some acc else none
 | f+1, l, acc => if l = [] then some acc else match partP l with
  | none => none
  | some (p, r) => itemsF f r (acc ++ [p])
def itemsP (l : List UInt8) : Option (List (List UInt8)) := itemsF l.length l []
def fieldsF : Nat → List UInt8 → Nat → List Fld → Option (List Fld)
 | 0, l, _, acc => if l = [] then some acc else none
 | f+1, l, last, acc => if l = [] then some acc else match nextP l with
  | none => none
  | some (h, r) => if h / 2 ≤ last ∨ 1000 < h / 2 then none else match partP r with
   | none => none
   | some (p, r') => fieldsF f r' (h / 2) (acc ++ [⟨h / 2, decide (h % 2 = 1), p⟩])
def fieldsP (l : List UInt8) : Option (List Fld) := fieldsF l.length l 0 []
def armP (l : List UInt8) : Option (Nat × List UInt8) := match nextP l with
 | none => none
 | some (n, r) => if n < 1 ∨ 1000 < n then none else some (n, r)
theorem getF_size : ∀ (l : List UInt8) (i n : Nat), i ≤ 9 → (getF i n l).2.2 = 0 → i < (getF i n l).2.1 ∧ (getF i n l).2.1 ≤ i + l.length := by
 intro l
 induction l with
 | nil => intro i n _ h; simp [getF] at h
 | cons b r ih =>
  intro i n hi h
  by_cases h1 : i = 9 ∧ 1 < b.toNat
  ·
   rw [getF_range i n b r h1.1 h1.2] at h; simp at h
  by_cases h2 : 128 ≤ b.toNat
  ·
   rw [getF_more i n b r h1 h2] at h ⊢
   have hi8 : i + 1 ≤ 9 := by
    rcases Nat.lt_or_ge i 9 with h3 | h3
    ·
     omega
    exact absurd ⟨by omega, by omega⟩ h1
   have := ih (i + 1) _ hi8 h
   simp only [List.length_cons]; omega
  by_cases h3 : b.toNat = 0 ∧ 0 < i
  ·
   rw [getF_syntax i n b r h1 h3.1 h3.2] at h; simp at h
  rw [getF_done i n b r h1 (by omega) h3]
  simp only [List.length_cons]; omega
theorem getF_err : ∀ (l : List UInt8) (i n : Nat), (getF i n l).2.2 ≠ 0 → (getF i n l).2.1 = 0 := by
 intro l
 induction l with
 | nil => intro i n h; simp [getF]
 | cons b r ih =>
  intro i n h
  by_cases h1 : i = 9 ∧ 1 < b.toNat
  ·
   rw [getF_range i n b r h1.1 h1.2]
  by_cases h2 : 128 ≤ b.toNat
  ·
   rw [getF_more i n b r h1 h2] at h ⊢
   exact ih _ _ h
  by_cases h3 : b.toNat = 0 ∧ 0 < i
  ·
   rw [getF_syntax i n b r h1 h3.1 h3.2]
  rw [getF_done i n b r h1 (by omega) h3] at h; simp at h
theorem getF_u64 : ∀ (l : List UInt8) (i n : Nat), i ≤ 9 → n < 128 ^ i → U64 (getF i n l).1 := by
 intro l
 induction l with
 | nil => intro i n _ _; simp [getF, U64]
 | cons b r ih =>
  intro i n hi hn
  by_cases h1 : i = 9 ∧ 1 < b.toNat
  ·
   rw [getF_range i n b r h1.1 h1.2]; simp [U64]
  by_cases h2 : 128 ≤ b.toNat
  ·
   rw [getF_more i n b r h1 h2]
   have hi8 : i + 1 ≤ 9 := by
    rcases Nat.lt_or_ge i 9 with h3 | h3
    ·
     omega
    exact absurd ⟨by omega, by omega⟩ h1
   refine ih _ _ hi8 ?_
   have hb : b.toNat % 128 ≤ 127 := by omega
   have := Nat.mul_le_mul_right (128 ^ i) hb
   rw [Nat.pow_succ]; omega
  by_cases h3 : b.toNat = 0 ∧ 0 < i
  ·
   rw [getF_syntax i n b r h1 h3.1 h3.2]; simp [U64]
  rw [getF_done i n b r h1 (by omega) h3]
  show n + b.toNat * 128 ^ i < 18446744073709551616
  by_cases h9 : i = 9
  ·
   subst h9
   have hb : b.toNat ≤ 1 := by
    rcases Nat.lt_or_ge 1 b.toNat with h4 | h4
    ·
     exact absurd ⟨rfl, h4⟩ h1
    exact h4
   have e : (128 : Nat) ^ 9 = 9223372036854775808 := by decide
   have := Nat.mul_le_mul_right (128 ^ 9) hb
   rw [e] at *; omega
  have hb : b.toNat ≤ 127 := by omega
  have := Nat.mul_le_mul_right (128 ^ i) hb
  have h8 : 128 ^ i ≤ 128 ^ 8 := Nat.pow_le_pow_right (by omega) (by omega)
  have e : (128 : Nat) ^ 8 = 72057594037927936 := by decide
  omega
theorem nextP_some {l : List UInt8} {n : Nat} {r : List UInt8} (h : nextP l = some (n, r)) : ∃ k, 1 ≤ k ∧ k ≤ l.length ∧ r = l.drop k ∧ U64 n ∧ (getF 0 0 l) = (n, k, 0) := by
 unfold nextP at h
 by_cases h0 : (getF 0 0 l).2.2 = 0
 ·
  rw [if_pos h0] at h
  simp only [Option.some.injEq, Prod.mk.injEq] at h
  obtain ⟨rfl, rfl⟩ := h
  have := getF_size l 0 0 (by omega) h0
  refine ⟨_, by omega, by omega, rfl, getF_u64 l 0 0 (by omega) (by decide), Prod.ext rfl (Prod.ext rfl h0)⟩
 rw [if_neg h0] at h; cases h
theorem nextP_none {l : List UInt8} (h : nextP l = none) : (getF 0 0 l).2.2 ≠ 0 := by
 intro h0; unfold nextP at h; rw [if_pos h0] at h; cases h
theorem partP_some {l p r : List UInt8} (h : partP l = some (p, r)) : p.length + r.length < l.length := by
 unfold partP at h
 split at h
 ·
  cases h
 rename_i n q hq
 obtain ⟨k, h1, h2, h3, _, _⟩ := nextP_some hq
 by_cases hn : n ≤ q.length
 ·
  rw [if_pos hn] at h
  simp only [Option.some.injEq, Prod.mk.injEq] at h
  obtain ⟨rfl, rfl⟩ := h
  have : q.length = l.length - k := by rw [h3]; simp
  simp only [List.length_take, List.length_drop]; omega
 rw [if_neg hn] at h; cases h
def seqN (f : Nat → Res) : Nat → Nat → List Val → Except (List Int × Int) (List Val)
 | 0, _, acc => .ok acc
 | n+1, i, acc => match f i with
  | .error e => .error e
  | .ok v => seqN f n (i + 1) (acc ++ [v])
def fldAt (l : List Fld) (id : Int) : Option Fld := l.find? (fun f => (f.id : Int) == id)
def restF (x : Typ) (path : List Int) : List Fld → List Raw → Except (List Int × Int) (List Raw)
 | [], acc => .ok acc
 | f :: r, acc => if (memIdx x f.id).isSome then restF x path r acc else if f.crit then .error (path ++ [(f.id : Int)], 6) else restF x path r (acc ++ [((f.id : Int), f.data)])
def memF (rec : Int → List UInt8 → List Int → Res) (x : Typ) (l : List Fld) (path : List Int) (i : Nat) : Res := match x.mems[i]? with
 | none => .error ([], 0)
 | some m => match fldAt l m.id with
  | some f => rec m.ty f.data (path ++ [m.id])
  | none => if m.hasDef then .ok m.dflt else .error (path ++ [m.id], 7)
def leafV (k : Int) : Val := .mk k false 0 [] 0 [] [] []
def decB (rec : Int → List UInt8 → List Int → Res) (x : Typ) (p : List UInt8) (path : List Int) : Res :=
 if x.kind = 1 then (if p = [] then .ok (.mk 1 false 0 [] 0 [] [] []) else if p = [1] then .ok (.mk 1 true 0 [] 0 [] [] []) else .error (path, 1))
 else if x.kind = 2 then (if (fromBig p).2 ≠ 0 then .error (path, 1) else if unzig (fromBig p).1 < x.low ∨ x.high < unzig (fromBig p).1 then .error (path, 2) else .ok (.mk 2 false (unzig (fromBig p).1) [] 0 [] [] []))
 else if x.kind = 3 then (if x.max < p.length then .error (path, 3) else .ok (.mk 3 false 0 p 0 [] [] []))
 else if x.kind = 4 then (if (fromBig p).2 ≠ 0 ∨ (fromBig p).1 < 1 ∨ 1000 < (fromBig p).1 then .error (path, 1) else if (symIdx x (fromBig p).1).isSome = false ∧ x.opn = false then .error (path, 4) else .ok (.mk 4 false 0 [] (fromBig p).1 [] [] []))
 else if x.kind = 5 then (match fieldsP p with
  | none => .error (path, 1)
  | some l => match seqN (memF rec x l path) x.mems.length 0 [] with
   | .error e => .error e
   | .ok is => match restF x path l [] with
    | .error e => .error e
    | .ok rs => .ok (.mk 5 false 0 [] 0 [] is rs))
 else if x.kind = 6 then (match armP p with
  | none => .error (path, 1)
  | some (id, r) => match memIdx x id with
   | none => if x.opn then .ok (.mk 6 false 0 [] id [] [] [((id : Int), r)]) else .error (path, 5)
   | some i => match rec ((x.mems[i]?.map Mem.ty).getD 0) r (path ++ [(id : Int)]) with
    | .error e => .error e
    | .ok v => .ok (.mk 6 false 0 [] id [] [v] []))
 else if x.kind = 7 then (match itemsP p with
  | none => .error (path, 1)
  | some l => if x.max < l.length then .error (path, 3) else match seqN (fun i => rec x.elem (l.getD i []) (path ++ [(i : Int)])) l.length 0 [] with
   | .error e => .error e
   | .ok is => .ok (.mk 7 false 0 [] 0 [] is []))
 else if x.kind = 8 then (match itemsP p with
  | none => .error (path, 1)
  | some l => if l.length % 2 = 1 then .error (path, 1) else if x.max < l.length / 2 then .error (path, 3) else match seqN (fun i => rec x.key (l.getD (2 * i) []) (path ++ [(i : Int)])) (l.length / 2) 0 [] with
   | .error e => .error e
   | .ok ks => if ascB ks = false then .error (path, 1) else match seqN (fun i => rec x.elem (l.getD (2 * i + 1) []) (path ++ [(i : Int)])) (l.length / 2) 0 [] with
    | .error e => .error e
    | .ok is => .ok (.mk 8 false 0 [] 0 ks is []))
 else (match p with
  | [] => .ok (leafV 9)
  | b :: r => if b.toNat ≠ 1 then .error (path, 1) else match rec x.elem r (path ++ [0]) with
   | .error e => .error e
   | .ok v => .ok (.mk 9 false 0 [] 0 [] [v] []))
def decP (ts : List Typ) : Nat → Int → List UInt8 → List Int → Res
 | 0, _, _, path => .error (path, 8)
 | n+1, t, p, path => match typAt ts t with
  | none => .error ([], 0)
  | some x => decB (decP ts n) x p path
def readE (ts : List Typ) (t : Int) (m : List UInt8) : Except Int Res :=
 if validE ts ≠ 0 then .error (validE ts)
 else if (typAt ts t).isNone then .error 4
 else if 4096 < m.length then .ok (.error ([], 3))
 else .ok (decP ts 200 t m [])
end Go.Proofs.YtccmmibkihbobaaDoor
namespace Go.Proofs.YtccmmibkihbobaaDoor
open Go.ChangeShapes Go.WideShapes Go.ChangeAt Go.RowKit
theorem put_laws2 : (∀ (a : Act) (v : Value), a.put none v = a) ∧ (∀ (ts : Array Value) (ds : List _) (i : Nat) (v : Value), Act.put ⟨ts, ds⟩ (some i) v = ⟨ts.setIfInBounds i v, ds⟩) ∧
  (∀ (l : List Value) (i : Nat) (v : Value), l.toArray.setIfInBounds i v = (l.set i v).toArray) ∧ (∀ (x : Value) (l : List Value) (v : Value), (x :: l).set 0 v = v :: l) ∧ (∀ (x : Value) (l : List Value) (i : Nat) (v : Value), (x :: l).set (i + 1) v = x :: l.set i v) ∧
  (∀ (l : List Oper) (i : Nat) (h : i < l.toArray.size), l.toArray[i]'h = l[i]'(by simpa using h)) ∧ (∀ (x : Oper) (l : List Oper) (h : 0 < (x :: l).length), (x :: l)[0]'h = x) ∧ (∀ (x : Oper) (l : List Oper) (i : Nat) (h : i + 1 < (x :: l).length), (x :: l)[i + 1]'h = l[i]'(by simpa using h)) :=
 ⟨fun _ _ => rfl, fun _ _ _ _ => rfl, fun _ _ _ => by simp, fun _ _ _ => rfl, fun _ _ _ _ => rfl, fun _ _ _ => rfl, fun _ _ _ => rfl, fun _ _ _ _ => rfl⟩
section
variable {P : Program} {md : Region.Mode} {ops : Array Oper} {Q : Exit → Act → World → Prop} {S : World → Prop} {fuel : Nat} {listed : Array Bool} {a : Act} {w : World} {oi : Oper}
theorem tk {i : Nat} {v : Value} (r : wpAnyH P md ops Q S fuel (listed.setIfInBounds i true) (a.put oi.dst v) w) (hi : ops[i]? = some oi := by rfl) (y : ∀ w, S w → (execOp a.eval oi).run P w = .ok (.value v) w := by (intro w hS; (try dsimp only at hS); go_simp; (first | done | with_reducible rfl)))
  (h1 : Region.noSelect ops = true := by kernel_rfl) (h2 : Region.free md ops listed i = true := by kernel_rfl) (h3 : (Region.ready md ops listed).contains i = true := by kernel_rfl)
  (h4 : ∀ c a w, Q (.panic c) (a.put oi.dst v) w → Q (.panic c) a w := by exact fun _ _ _ h => h) (h5 : Region.wanted oi (yielded ops a.tmps) = true := by rfl) (h6 : S w := by assumption) : wpAnyH P md ops Q S (fuel + 1) listed a w :=
 wpAnyH_take hi h1 h2 h3 h4 (.inl ⟨h5, y⟩) h6 r
theorem tks {i : Nat} (r : wpAnyH P md ops Q S fuel (listed.setIfInBounds i true) (a.put oi.dst undef) w) (hi : ops[i]? = some oi := by rfl)
  (h1 : Region.noSelect ops = true := by kernel_rfl) (h2 : Region.free md ops listed i = true := by kernel_rfl) (h3 : (Region.ready md ops listed).contains i = true := by kernel_rfl)
  (h4 : ∀ c a w, Q (.panic c) (a.put oi.dst undef) w → Q (.panic c) a w := by exact fun _ _ _ h => h) (h5 : Region.wanted oi (yielded ops a.tmps) = false := by rfl) (h6 : S w := by assumption) : wpAnyH P md ops Q S (fuel + 1) listed a w :=
 wpAnyH_take hi h1 h2 h3 h4 (.inr ⟨h5, rfl⟩) h6 r
theorem rd1 {i : Nat} {o : Oper} (h : ∀ K' : Act → World → Prop, Shut (∀ a w, S w → (S w → wpAnyH P md ops Q S fuel (listed.setIfInBounds i true) a w) → K' a w) → if Region.wanted o (yielded ops a.tmps) = true then Oper.wp P o a w K' Q else K' (a.put o.dst undef) w) (hr : Region.ready md ops listed = [i] := by kernel_rfl) (ho : ops[i]? = some o := by rfl) : wpAnyH P md ops Q S (fuel + 1) listed a w :=
 wpAnyH_ready hr (by simp) (AllReadyH.cons ho h AllReadyH.nil)
end
end Go.Proofs.YtccmmibkihbobaaDoor
namespace Go.Proofs.YtccmmibkihbobaaDoor
open Go.ChangeShapes Go.WideShapes Go.ChangeAt Go.RowKit
theorem addr_add (b o j : Nat) : (⟨b, o, none⟩ : Addr).add j = ⟨b, o + j, none⟩ := by unfold Addr.add; split <;> simp_all
structure OwnVals (w : World) (L : Nat) (S : Nat → Prop) (v : Value) (xs : List Val) : Prop where
 ex : ∃ cs : List Value, w.ownsRow L 45 8 v xs.length cs ∧ ∀ (i : Nat) (h : i < xs.length), RdValP w S xs[i] ((cs.drop (i * 8)).take 8)
 sep : ∀ k, S k → k < w.heap.size ∧ v.ownBlock ≠ some k
section
variable {w w' : World} {L : Nat} {S : Nat → Prop} {v : Value} {xs : List Val}
theorem OwnVals.nil (w : World) (L : Nat) : OwnVals w L (fun _ => False) (.slice none 0 0) [] := ⟨⟨[], World.ownsRow_nil _ _ _ _, fun i h => by simp at h⟩, fun k h => h.elim⟩
theorem own_keep {base : Nat} {e : TypeId} {size n : Nat} {ys : List Value} (h : w.ownsRow base e size v n ys) (hk : ∀ k, v.ownBlock = some k → w'.heap[k]? = w.heap[k]?) : w'.ownsRow base e size v n ys := by
 obtain ⟨h1, h2⟩ := h
 refine ⟨h1, ?_⟩
 rcases h2 with h2 | ⟨g, cap, cur, rfl, hb, hh, h3⟩
 ·
  exact .inl h2
 exact .inr ⟨g, cap, cur, rfl, hb, (hk g rfl).trans hh, h3⟩
theorem OwnVals.keep (h : OwnVals w L S v xs) (hk : ∀ k, k < w.heap.size → (S k ∨ v.ownBlock = some k) → w'.heap[k]? = w.heap[k]?) (hs : w.heap.size ≤ w'.heap.size) : OwnVals w' L S v xs := by
 obtain ⟨⟨cs, h1, h2⟩, h3⟩ := h
 have hl := fun k (hk : v.ownBlock = some k) => h1.lt k hk
 exact ⟨⟨cs, own_keep h1 fun k hb => hk k (hl k hb).2 (.inr hb), fun i hi => (h2 i hi).keep (fun p hp => World.cell?_of_block (hk p.block (h3 _ hp).1 (.inl hp))) (fun _ h => h)⟩,
  fun k hS => ⟨Nat.lt_of_lt_of_le (h3 k hS).1 hs, (h3 k hS).2⟩⟩
theorem OwnVals.lt (h : OwnVals w L S v xs) : ∀ k, v.ownBlock = some k → L ≤ k ∧ k < w.heap.size := fun k hk => by
 obtain ⟨⟨cs, h1, _⟩, _⟩ := h
 exact h1.lt k hk
theorem OwnVals.form (h : OwnVals w L S v xs) : ∃ A c, v = .slice A xs.length c := by
 obtain ⟨⟨cs, h1, _⟩, _⟩ := h
 exact own_form h1
theorem OwnVals.row (h : OwnVals w L S v xs) : RdValsP w (fun k => S k ∨ v.ownBlock = some k) v xs := by
 obtain ⟨⟨cs, h1, h2⟩, _⟩ := h
 refine ⟨fun i => (cs.drop (i * 8)).take 8, ?_, fun i hi => (h2 i hi).keep (fun _ _ => rfl) (fun _ h => .inl h)⟩
 have h0 := h1
 obtain ⟨hl, h3⟩ := h1
 rcases h3 with ⟨rfl, hn⟩ | ⟨g, cap, cur, rfl, hb, hh, hc, _⟩
 ·
  exact ⟨none, 0, by rw [hn], by omega, .inl hn⟩
 refine ⟨_, cap, rfl, hc, .inr ⟨g, 0, rfl, .inr rfl, fun i hi j u hu => ?_⟩⟩
 have hj : j < 8 := by
  have := (List.getElem?_eq_some_iff.1 hu).1
  simp at this; omega
 rw [List.getElem?_take_of_lt hj, List.getElem?_drop] at hu
 have := h0.cells (g := g) rfl (i * 8 + j) u hu
 have e : (⟨g, 0, none⟩ : Addr).add (i * 8 + j) = ⟨g, 0 + i * 8 + j, none⟩ := by unfold Addr.add; split <;> simp_all
 rwa [e] at this
theorem OwnVals.rds (h : OwnVals w L S v xs) : RdVals w w.heap.size v xs := by
 obtain ⟨c, h1, h2⟩ := h.row
 have hS : ∀ b, (S b ∨ v.ownBlock = some b) → b < w.heap.size := fun b hb => hb.elim (fun hb => (h.sep b hb).1) (fun hb => (h.lt b hb).2)
 exact ⟨c, h1.row hS, fun i hi => (h2 i hi).rd hS⟩
theorem OwnVals.mono {S' : Nat → Prop} (h : OwnVals w L S v xs) (hS : ∀ k, S k → S' k) (hd : ∀ k, S' k → k < w.heap.size ∧ v.ownBlock ≠ some k) : OwnVals w L S' v xs := by
 obtain ⟨⟨cs, h1, h2⟩, _⟩ := h
 exact ⟨⟨cs, h1, fun i hi => (h2 i hi).keep (fun _ _ => rfl) hS⟩, hd⟩
theorem RdValP.len {S : Nat → Prop} {y : Val} {c : List Value} (h : RdValP w S y c) : c.length = 8 := by cases h; rfl
theorem RowP.one {S : Nat → Prop} {size n : Nat} {v : Value} {c : Nat → List Value} (h : RowP w S size v n c) : v.oneCell' = true := by obtain ⟨A, cap, rfl, _⟩ := h; rfl
theorem RdP.one {S : Nat → Prop} {size n : Nat} {v : Value} {ys : List Value} (h : RdP w S size v n ys) : v.oneCell' = true := by obtain ⟨_, A, cap, rfl, _⟩ := h; rfl
theorem RdValP.one {S : Nat → Prop} {y : Val} {c : List Value} (h : RdValP w S y c) : ∀ u ∈ c, u.oneCell' = true := by
 cases h with
 | mk k b n s id ks is rs vk vi vr ck ci hn hs hl hri h1 _ h2 _ h3 =>
  intro u hu
  simp only [List.mem_cons, List.not_mem_nil, or_false] at hu
  rcases hu with rfl | rfl | rfl | rfl | rfl | rfl | rfl | rfl <;> first | rfl | exact h1.one | exact h2.one | exact h3.one
theorem OwnVals.app {w1 : World} {Sy : Nat → Prop} {ys : List Val} {c : Nat → List Value} {cs : List Value} {v' : Value} (h : OwnVals w L S v xs) (hcs : w.ownsRow L 45 8 v xs.length cs) (h2 : ∀ (i : Nat) (h : i < xs.length), RdValP w S xs[i] ((cs.drop (i * 8)).take 8))
  (hy : ∀ (i : Nat) (h : i < ys.length), RdValP w Sy ys[i] (c i)) (hyS : ∀ k, Sy k → k < w.heap.size ∧ v.ownBlock ≠ some k)
  (hown : w1.ownsRow L 45 8 v' (xs.length + ys.length) (cs ++ rowsV c ys.length)) (hgr : w.grownBy w1 v.ownBlock) (hat : v'.ownBlock = v.ownBlock ∨ v'.ownBlock = some w.heap.size) :
  OwnVals w1 L (fun k => S k ∨ Sy k) v' (xs ++ ys) := by
 have hcl : cs.length = xs.length * 8 := hcs.1
 have hkS : ∀ k, (S k ∨ Sy k) → k < w.heap.size ∧ v.ownBlock ≠ some k := fun k hk => hk.elim (h.sep k) (hyS k)
 have hkeep : ∀ p : Addr, (S p.block ∨ Sy p.block) → w1.cell? p = w.cell? p := fun p hp => World.cell?_of_block (hgr.block p.block (hkS _ hp).1 (fun e => (hkS _ hp).2 e.symm))
 have hl8 : ∀ i, i < ys.length → (c i).length = 8 := fun i hi => (hy i hi).len
 refine ⟨⟨cs ++ rowsV c ys.length, by simpa using hown, fun i hi => ?_⟩, fun k hk => ⟨Nat.lt_of_lt_of_le (hkS k hk).1 hgr.size, ?_⟩⟩
 ·
  by_cases hlt : i < xs.length
  ·
   rw [List.getElem_append_left hlt]
   have e : ((cs ++ rowsV c ys.length).drop (i * 8)).take 8 = (cs.drop (i * 8)).take 8 := by
    rw [List.drop_append_of_le_length (by omega), List.take_append_of_le_length (by simp; omega)]
   rw [e]
   exact (h2 i hlt).keep (fun p hp => hkeep p (.inl hp)) (fun _ h => .inl h)
  obtain ⟨j, rfl⟩ : ∃ j, i = xs.length + j := ⟨i - xs.length, by omega⟩
  have hj : j < ys.length := by simp at hi; omega
  have e : ((cs ++ rowsV c ys.length).drop ((xs.length + j) * 8)).take 8 = c j := by
   rw [Nat.add_mul, ← hcl, ← List.drop_drop, List.drop_left]
   apply List.ext_getElem?
   intro q
   by_cases hq : q < 8
   ·
    rw [List.getElem?_take_of_lt hq, List.getElem?_drop, rowsV_get c 8 ys.length hl8 j q hj hq]
   rw [List.getElem?_eq_none (by simp; omega), List.getElem?_eq_none (by rw [hl8 j hj]; omega)]
  rw [e]
  have e2 : (xs ++ ys)[xs.length + j]'hi = ys[j] := by simp [List.getElem_append_right]
  rw [e2]
  exact (hy j hj).keep (fun p hp => hkeep p (.inr hp)) (fun _ h => .inr h)
 intro he
 rcases hat with h4 | h4
 ·
  rw [h4] at he; exact (hkS k hk).2 he
 rw [h4] at he; injection he with he; have := (hkS k hk).1; omega
end
theorem infoV : (Tryd.prog.info? 45).map (fun i => (i.zero, i.size, i.bytes)) = some (some (.agg #[.int .i64 0, .bool false, .int .i64 0, .string ByteArray.empty, .int .i64 0, .slice none 0 0, .slice none 0 0, .slice none 0 0]), 8, 120) := by kernel_rfl
theorem step_append_many {ops : Array Oper} {op : Oper} {a : Act} {w : World} {K : Act → World → Prop} {Q : Exit → Act → World → Prop} {E : Prop} (hgd : op.guard = none) (s x : Operand)
  (ho : op.op = .call { callee := .builtin .append, args := #[s, x], argTypes := #[42, 42] }) {L b o cp : Nat} {S Sy : Nat → Prop} {v : Value} {xs ys : List Val} {c : Nat → List Value} (ht : OwnVals w L S v xs) (hs : a.eval s = v)
  (hx : a.eval x = .slice (some ⟨b, o, none⟩) ys.length cp) (hcell : ∀ i, i < ys.length → ∀ j u, (c i)[j]? = some u → w.cell? ⟨b, o + i * 8 + j, none⟩ = some u) (hy : ∀ (i : Nat) (h : i < ys.length), RdValP w Sy ys[i] (c i)) (hyS : ∀ k, Sy k → k < w.heap.size ∧ v.ownBlock ≠ some k)
  (hn : xs.length + ys.length < 1000000) (hB : L ≤ w.heap.size)
  (h : ∀ v' w1, OwnVals w1 L (fun k => S k ∨ Sy k) v' (xs ++ ys) → (v'.ownBlock = v.ownBlock ∨ v'.ownBlock = some w.heap.size) → Below L w w1 → (∀ k, k < w.heap.size → v.ownBlock ≠ some k → w1.heap[k]? = w.heap[k]?) → K (a.put op.dst v') w1) :
  if Region.wanted op (yielded ops a.tmps) = true then Oper.wp Tryd.prog op a w K Q else E := by
 obtain ⟨i0, hi, hz0, hz1, hz2⟩ := info_parts infoV
 obtain ⟨⟨cs, h1, h2⟩, h3⟩ := id ht
 have hl8 : ∀ i, i < ys.length → (c i).length = 8 := fun i hi => (hy i hi).len
 have hnews : ∀ j u, (rowsV c ys.length)[j]? = some u → w.cell? ((⟨b, o, none⟩ : Addr).add j) = some u := by
  intro j u hu
  have hlt : j < ys.length * 8 := by have := (List.getElem?_eq_some_iff.1 hu).1; rwa [rowsV_len c 8 _ hl8] at this
  have hj : j = j / 8 * 8 + j % 8 := by omega
  rw [hj, rowsV_get c 8 ys.length hl8 (j / 8) (j % 8) (by omega) (by omega)] at hu
  have := hcell (j / 8) (by omega) (j % 8) u hu
  rw [addr_add, show o + j = o + j / 8 * 8 + j % 8 by omega]; exact this
 have hone : ∀ u ∈ rowsV c ys.length, u.oneCell' = true := by
  intro u hu
  obtain ⟨j, hj, rfl⟩ := List.getElem_of_mem hu
  have hlt : j < ys.length * 8 := by rwa [rowsV_len c 8 _ hl8] at hj
  have hj2 : j = j / 8 * 8 + j % 8 := by omega
  have hu2 : (rowsV c ys.length)[j]? = some ((rowsV c ys.length)[j]) := List.getElem?_eq_getElem hj
  generalize (rowsV c ys.length)[j] = u at *
  have hu3 := rowsV_get c 8 ys.length hl8 (j / 8) (j % 8) (by omega) (by omega)
  rw [← hj2, hu2] at hu3
  exact (hy (j / 8) (by omega)).one _ (List.mem_of_getElem? hu3.symm)
 obtain ⟨v', w1, hr, hown, hgr, _, hat⟩ := run_append_own_at (P := Tryd.prog) (w := w) L 42 op.type 45 i0 _ 8 120 Tryd.underlying42 hi hz0 hz1 hz2 rfl (by decide) v xs.length cs h1 ⟨b, o, none⟩ ys.length cp (rowsV c ys.length) (rowsV_len c 8 _ hl8) hnews hone (by simp only [maxLen]; omega) (by omega) hB
 have hw : Region.wanted op (yielded ops a.tmps) = true := by simp [Region.wanted, hgd]
 rw [if_pos hw]
 unfold Oper.wp execOp
 simp only [ho, resolve, invoke, builtin, Sem.run_bind, Sem.run_pure, Result.andThen_ok, List.map_toArray, List.map_cons, List.map_nil, hs, hx, hr]
 exact h v' w1 (ht.app h1 h2 hy hyS hown hgr hat) hat (hgr_below hgr hB (fun k hk => (h1.lt k hk).1)) (fun k hk hne => hgr.block k hk (fun e => hne e.symm))
theorem step_append_vals {ops : Array Oper} {op : Oper} {a : Act} {w : World} {K : Act → World → Prop} {Q : Exit → Act → World → Prop} {E : Prop} (hgd : op.guard = none) (s x : Operand)
  (ho : op.op = .call { callee := .builtin .append, args := #[s, x], argTypes := #[42, 42] }) {L gN : Nat} {S Sy : Nat → Prop} {v : Value} {xs : List Val} {y : Val} {cy : Array Value} (ht : OwnVals w L S v xs) (hs : a.eval s = v)
  (hN : Has w gN 45 cy) (hx : a.eval x = .slice (some ⟨gN, 0, none⟩) 1 1) (hy : RdValP w Sy y cy.toList) (hyS : ∀ k, Sy k → k < w.heap.size ∧ v.ownBlock ≠ some k)
  (hn : xs.length < 900000) (hB : L ≤ w.heap.size)
  (h : ∀ v' w1, OwnVals w1 L (fun k => S k ∨ Sy k) v' (xs ++ [y]) → (v'.ownBlock = v.ownBlock ∨ v'.ownBlock = some w.heap.size) → Below L w w1 → (∀ k, k < w.heap.size → v.ownBlock ≠ some k → w1.heap[k]? = w.heap[k]?) → K (a.put op.dst v') w1) :
  if Region.wanted op (yielded ops a.tmps) = true then Oper.wp Tryd.prog op a w K Q else E :=
 step_append_many (b := gN) (o := 0) (cp := 1) (ys := [y]) (c := fun _ => cy.toList) hgd s x ho ht hs hx (fun i hi j u hu => by
   have h0 : i = 0 := by simpa using hi
   subst h0
   have := hN.cell j
   rw [show (0 + 0 * 8 + j) = j by omega, this]; simpa using hu)
  (fun i hi => (by
   have h0 : i = 0 := by simpa using hi
   subst h0
   exact hy)) hyS (by simp only [List.length_cons, List.length_nil]; omega) hB h
theorem step_append_none {ops : Array Oper} {op : Oper} {a : Act} {w : World} {K : Act → World → Prop} {Q : Exit → Act → World → Prop} {E : Prop} (hgd : op.guard = none) (s x : Operand)
  (ho : op.op = .call { callee := .builtin .append, args := #[s, x], argTypes := #[42, 42] }) {L : Nat} {S : Nat → Prop} {v : Value} {xs : List Val} (ht : OwnVals w L S v xs) (hs : a.eval s = v) (hx : a.eval x = .slice none 0 0)
  (h : K (a.put op.dst v) w) : if Region.wanted op (yielded ops a.tmps) = true then Oper.wp Tryd.prog op a w K Q else E := by
 obtain ⟨i0, hi, hz0, hz1, hz2⟩ := info_parts infoV
 obtain ⟨⟨cs, h1, h2⟩, h3⟩ := ht
 have hr := run_append_owned_none (P := Tryd.prog) (w := w) L 42 op.type 45 i0 8 Tryd.underlying42 hi v xs.length cs h1
 have hw : Region.wanted op (yielded ops a.tmps) = true := by simp [Region.wanted, hgd]
 rw [if_pos hw]
 unfold Oper.wp execOp
 simp only [ho, resolve, invoke, builtin, Sem.run_bind, Sem.run_pure, Result.andThen_ok, List.map_toArray, List.map_cons, List.map_nil, hs, hx, hr]
 exact h
end Go.Proofs.YtccmmibkihbobaaDoor

/- Plain: what a draft of a schema describes. No condition. -/
import Derived.Test.YtjcoeolconelmaaDraft
import Derived.Test.YtjcoeolconelmaaTyp
namespace Go.Proofs.Ytjcoeolconelmaa
open Go.ChangeShapes Go.WideShapes Go.ChangeAt Go.RowKit

/-- the first k from a number on, of at most f, for which something holds -/
def firstF (p : Nat → Bool) : Nat → Nat → Option Nat
  | 0, _ => none
  | f + 1, k => if p k then some k else firstF p f (k + 1)
theorem firstF_some {p : Nat → Bool} : ∀ (f k j : Nat), firstF p f k = some j → k ≤ j ∧ j < k + f ∧ p j = true := by
  intro f
  induction f with
  | zero => intro k j h; simp [firstF] at h
  | succ f ih =>
    intro k j h
    rw [firstF] at h
    split at h
    · next hp => injection h with h; subst h; exact ⟨Nat.le_refl _, by omega, hp⟩
    · obtain ⟨h1, h2, h3⟩ := ih _ _ h
      exact ⟨by omega, by omega, h3⟩
def kindAt (xs : List Nod) (i : Nat) : Nat := match xs[i]? with | some x => kindN x | none => 0
theorem kindAt_get (xs : List Nod) (i : Nat) (h : i < xs.length) : kindAt xs i = kindN xs[i] := by
  unfold kindAt; rw [List.getElem?_eq_getElem h]
def hollowN (k : Nat) : Bool := decide (7 ≤ k)
def keyKindN (k : Nat) : Bool := decide (1 ≤ k) && decide (k ≤ 4)
def natI (o : Option Nat) : Int := match o with | some k => k | none => -1
def targetN (xs : List Nod) (i code : Nat) : Option Nat :=
  if hollowN (kindAt xs (code % xs.length)) || decide (code % xs.length < i) then some (code % xs.length)
  else if 0 < i then some (code % xs.length % i)
  else firstF (fun k => hollowN (kindAt xs k)) xs.length 0
def keyPlace (xs : List Nod) (code k : Nat) : Nat := (code + k) % xs.length
def keyN (xs : List Nod) (code : Nat) : Option Nat := (firstF (fun k => keyKindN (kindAt xs (keyPlace xs code k))) xs.length 0).map (keyPlace xs code)
theorem keyN_lt (xs : List Nod) (code k : Nat) (h : keyN xs code = some k) : k < xs.length ∧ keyKindN (kindAt xs k) = true := by
  unfold keyN at h
  cases h2 : firstF (fun k => keyKindN (kindAt xs (keyPlace xs code k))) xs.length 0 with
  | none => rw [h2] at h; simp at h
  | some j =>
    rw [h2] at h
    obtain ⟨h3, h4, h5⟩ := firstF_some _ _ _ h2
    simp at h
    subst h
    exact ⟨Nat.mod_lt _ (by omega), h5⟩

def idB (x : Nod) (i : Nat) : Bool := decide (x.a / 2 ^ i % 2 = 1)
def idsK (x : Nod) : Nat → List Int
  | 0 => []
  | k + 1 => idsK x k ++ (if idB x k then [((k + 1 : Nat) : Int)] else [])
def idsN (x : Nod) : List Int := if (idsK x 6).isEmpty then [1] else idsK x 6
theorem idsK_len (x : Nod) (k : Nat) : (idsK x k).length ≤ k := by
  induction k with
  | zero => simp [idsK]
  | succ k ih => rw [idsK, List.length_append]; split <;> simp <;> omega
theorem idsK_mem (x : Nod) (k : Nat) : ∀ a ∈ idsK x k, 1 ≤ a ∧ a ≤ k := by
  induction k with
  | zero => simp [idsK]
  | succ k ih =>
    intro a ha
    rw [idsK] at ha
    rcases List.mem_append.1 ha with h | h
    · have := ih a h; omega
    · split at h
      · simp at h; omega
      · simp at h
theorem idsN_pos (x : Nod) : 1 ≤ (idsN x).length ∧ (idsN x).length ≤ 6 := by
  unfold idsN
  split
  · simp
  · next h =>
    have := idsK_len x 6
    refine ⟨?_, this⟩
    cases h2 : idsK x 6 with
    | nil => rw [h2] at h; simp at h
    | cons a r => simp
theorem idsN_mem (x : Nod) : ∀ a ∈ idsN x, 1 ≤ a ∧ a ≤ 6 := by
  unfold idsN
  split
  · simp
  · exact idsK_mem x 6

/-! names -/
def nm1 (c : Nat) (k : Int) : List UInt8 := [UInt8.ofNat c, UInt8.ofNat (97 + k).toNat]
def typName (i : Nat) : List UInt8 := [UInt8.ofNat (65 + i)]

def initialN (xs : List Nod) (t code : Nat) : Val × Bool :=
  match xs[t]? with
  | none => (val0, false)
  | some x =>
    let k : Nat := if kindN x = 8 ∧ keyN xs 0 = none then 7 else kindN x
    if k = 5 ∨ k = 6 then (val0, false)
    else (.mk k (decide (k = 1 ∧ code % 2 = 1)) (if k = 2 then lowN x + (code : Int) % (highN x - lowN x + 1) else 0) (if k = 3 ∧ 0 < x.a % 4 ∧ code % 2 = 1 then [97] else []) (if k = 4 then (idsN x).getD (code % (idsN x).length) 0 else 0) [] [] [], true)
def partOf (xs : List Nod) (i : Nat) (record : Bool) (id : Nat) (p : Prt) : Option Mem :=
  match targetN xs i p.2.1 with
  | none => none
  | some t =>
    if 1 + p.1 % 12 = id then
      let d := if record && decide (2 ≤ p.2.2 % 4) then initialN xs t (p.2.2 / 4) else (val0, false)
      some { id := id, name := nm1 109 id, ty := t, crit := record && decide (p.2.2 % 4 = 1), hasDef := d.2, dflt := d.1 }
    else none
def partFor (xs : List Nod) (i : Nat) (record : Bool) (ps : List Prt) (id : Nat) : List Mem := (ps.findSome? (partOf xs i record id)).toList
def partsK (xs : List Nod) (i : Nat) (record : Bool) (ps : List Prt) : Nat → List Mem
  | 0 => []
  | k + 1 => partsK xs i record ps k ++ partFor xs i record ps (k + 1)
def partsN (xs : List Nod) (i : Nat) (record : Bool) (ps : List Prt) : List Mem := partsK xs i record ps 12
def typ0 : Typ := { kind := 0, name := [], low := 0, high := 0, max := 0, syms := [], mems := [], key := 0, elem := 0, opn := false }
def typN (xs : List Nod) (i : Nat) (x : Nod) : Typ :=
  let k := kindN x
  let nm := if namedB k then typName i else []
  if k = 2 then { typ0 with kind := 2, low := lowN x, high := highN x }
  else if k = 3 then { typ0 with kind := 3, max := ((x.a % 4 : Nat) : Int) }
  else if k = 4 then { typ0 with kind := 4, name := nm, opn := decide (x.b % 2 = 1), syms := (idsN x).map fun a => (a, nm1 115 a) }
  else if k = 5 then { typ0 with kind := 5, name := nm, mems := partsN xs i true x.parts }
  else if k = 6 then (if (partsN xs i false x.parts).isEmpty then { typ0 with kind := 5, name := nm } else { typ0 with kind := 6, name := nm, opn := decide (x.b % 2 = 1), mems := partsN xs i false x.parts })
  else if k = 7 then { typ0 with kind := 7, max := ((x.a % 4 : Nat) : Int), elem := ((x.c % xs.length : Nat) : Int) }
  else if k = 8 then (match keyN xs x.b with
    | some j => { typ0 with kind := 8, max := ((x.a % 4 : Nat) : Int), key := j, elem := ((x.c % xs.length : Nat) : Int) }
    | none => { typ0 with kind := 7, max := ((x.a % 4 : Nat) : Int), elem := ((x.c % xs.length : Nat) : Int) })
  else if k = 9 then { typ0 with kind := 9, elem := ((x.c % xs.length : Nat) : Int) }
  else { typ0 with kind := 1 }
def ofN (xs : List Nod) : List Typ := xs.mapIdx (typN xs)
def ofOk (xs : List Nod) : Bool := decide (1 ≤ xs.length) && decide (xs.length ≤ 5)
end Go.Proofs.Ytjcoeolconelmaa

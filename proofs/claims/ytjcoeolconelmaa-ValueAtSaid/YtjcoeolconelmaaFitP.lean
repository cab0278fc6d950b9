/- Which values fit a type: a plain function with fuel. No condition. -/
import Derived.Test.YtjcoeolconelmaaRest
namespace Go.Proofs.Ytjcoeolconelmaa
open Go.ChangeShapes Go.WideShapes Go.ChangeAt Go.RowKit

/-- greater than the one before, if there is one -/
def ltP (p : Option Int) (n : Int) : Bool := match p with | some q => decide (q < n) | none => true
/-- unknown fields: their IDs are free, unknown, ascending (p: the one before) -/
def restB (t : Typ) : List Raw → Option Int → Bool
  | [], _ => true
  | r :: rs, p => !(memIdx t r.1).isSome && (freeB r.1 && (ltP p r.1 && restB t rs (some r.1)))
/-- keys ascend -/
def ascB : List Val → Bool
  | [] => true
  | [_] => true
  | x :: y :: r => decide (compareV x y < 0) && ascB (y :: r)
def typAt (ts : List Typ) (t : Int) : Option Typ := if 0 ≤ t then ts[t.toNat]? else none
/-- the first unknown part has this ID -/
def oneRaw (l : List Raw) (id : Int) : Bool := match l with | r :: _ => decide (r.1 = id) | [] => false
theorem oneRaw_eq (l : List Raw) (id : Int) (h : 0 < l.length) : oneRaw l id = decide (l[0].1 = id) := by
  cases l with
  | nil => simp at h
  | cons r rs => rfl
/-- what the kind asks, with the parts' answers as functions of a type -/
def bodyR (pl : Bool) (x : Typ) (v : Val) (K I : Int → Bool) (Z : List Mem → Bool) (H : Int → Bool) : Bool :=
  if x.kind = 2 then decide (x.low ≤ v.num ∧ v.num ≤ x.high)
  else if x.kind = 3 then decide ((v.str.length : Int) ≤ x.max)
  else if x.kind = 4 then (symIdx x v.id).isSome || (x.opn && (!pl && freeB v.id))
  else if x.kind = 5 then decide (v.items.length = x.mems.length) && (!(pl && decide (0 < v.rest.length)) && (restB x v.rest none && Z x.mems))
  else if x.kind = 6 then
    match memIdx x v.id with
    | some i => decide (v.items.length = 1) && (decide (v.rest.length = 0) && (match x.mems[i]? with | some m => H m.ty | none => false))
    | none => x.opn && (!pl && (freeB v.id && (decide (v.items.length = 0) && (decide (v.rest.length = 1) && oneRaw v.rest v.id))))
  else if x.kind = 7 then decide ((v.items.length : Int) ≤ x.max) && I x.elem
  else if x.kind = 8 then decide ((v.keys.length : Int) ≤ x.max) && (decide (v.items.length = v.keys.length) && (K x.key && (ascB v.keys && I x.elem)))
  else if x.kind = 9 then decide (v.items.length ≤ 1) && I x.elem
  else true
mutual
/-- the value fits the type (pl: and is plain) -/
def fitV (ts : List Typ) (pl : Bool) : Val → Int → Bool
  | .mk k b n s id ks is rs, t => match typAt ts t with
    | none => false
    | some x => decide (k = x.kind) && (properB (.mk k b n s id ks is rs) && bodyR pl x (.mk k b n s id ks is rs) (fun t => fitL ts pl ks t) (fun t => fitL ts pl is t) (fun ms => fitZ ts pl is ms) (fun t => fitH ts pl is t))
def fitL (ts : List Typ) (pl : Bool) : List Val → Int → Bool
  | [], _ => true
  | y :: r, t => fitV ts pl y t && fitL ts pl r t
def fitZ (ts : List Typ) (pl : Bool) : List Val → List Mem → Bool
  | [], [] => true
  | y :: r, m :: ms => fitV ts pl y m.ty && fitZ ts pl r ms
  | [], _ :: _ => false
  | _ :: _, [] => false
def fitH (ts : List Typ) (pl : Bool) : List Val → Int → Bool
  | [], _ => false
  | y :: _, t => fitV ts pl y t
end
theorem fitL_all (ts : List Typ) (pl : Bool) (t : Int) : ∀ l : List Val, fitL ts pl l t = l.all (fun y => fitV ts pl y t)
  | [] => by rw [fitL]; rfl
  | y :: r => by rw [fitL, List.all_cons, fitL_all ts pl t r]
theorem fitV_eq (ts : List Typ) (pl : Bool) (v : Val) (t : Int) : fitV ts pl v t = match typAt ts t with
    | none => false
    | some x => decide (v.kind = x.kind) && (properB v && bodyR pl x v (fun t => fitL ts pl v.keys t) (fun t => fitL ts pl v.items t) (fun ms => fitZ ts pl v.items ms) (fun t => fitH ts pl v.items t)) := by
  cases v; rw [fitV]; rfl
/-- the parts' answers of a value -/
abbrev bodyV (ts : List Typ) (pl : Bool) (x : Typ) (v : Val) : Bool := bodyR pl x v (fun t => fitL ts pl v.keys t) (fun t => fitL ts pl v.items t) (fun ms => fitZ ts pl v.items ms) (fun t => fitH ts pl v.items t)
end Go.Proofs.Ytjcoeolconelmaa

/- Types whose lists are slices of the call's own. Plain: the types of a draft's schema have small numbers and short lists. The kinds of the types of a draft's schema. No condition. -/
import Derived.Test.YtgeapglanckjpaaGT
import Derived.Test.YtgeapglanckjpaaGD
import Derived.Test.YtgeapglanckjpaaGG
namespace Go.Proofs.Ytgeapglanckjpaa
open Go.ChangeShapes Go.WideShapes Go.ChangeAt Go.RowKit
def sepR (v : Value) (r : Option Nat) : Prop := v.ownBlock = none ∨ v.ownBlock ≠ r
def MemPlain (m : Mem) : Prop := I64 m.id ∧ I64 m.ty ∧ m.name.length ≤ 140737488351232 ∧ I64 m.dflt.kind ∧ I64 m.dflt.num ∧ I64 m.dflt.id ∧ m.dflt.str.length ≤ 140737488351232 ∧ m.dflt.keys = [] ∧ m.dflt.items = [] ∧ m.dflt.rest = []
structure TypPlain (t : Typ) : Prop where
 ints : I64 t.kind ∧ I64 t.low ∧ I64 t.high ∧ I64 t.max ∧ I64 t.key ∧ I64 t.elem
 namel : t.name.length ≤ 140737488351232
 lens : t.syms.length ≤ 140737488351232 ∧ t.mems.length ≤ 140737488351232
 symsin : ∀ r ∈ t.syms, RawIn r
 memsin : ∀ m ∈ t.mems, MemPlain m
structure TypOwn (w : World) (base : Nat) (t : Typ) (vs vm : Value) : Prop where
 sy : w.ownsRow base 80 2 vs t.syms.length (rawsV t.syms)
 me : w.ownsRow base 66 13 vm t.mems.length (t.mems.flatMap memC)
inductive TypsOwn (w : World) (base : Nat) (r : Option Nat) : List Typ → List Value → Prop
 | nil : TypsOwn w base r [] []
 | snoc (ts : List Typ) (cs : List Value) (t : Typ) (vs vm : Value) (h : TypsOwn w base r ts cs) (ho : TypOwn w base t vs vm) (h1 : sepR vs r) (h2 : sepR vm r) (hp : TypPlain t) : TypsOwn w base r (ts ++ [t]) (cs ++ typV t vs vm)
theorem TypsOwn.heap {w w' : World} {base : Nat} {r : Option Nat} {ts : List Typ} {cs : List Value} (h : TypsOwn w base r ts cs) (hk : ∀ k : Nat, base ≤ k → k < w.heap.size → w'.heap[k]? = w.heap[k]?) : TypsOwn w' base r ts cs := by
 induction h with
 | nil => exact .nil
 | snoc ts cs t vs vm _ ho h1 h2 hp ih => exact .snoc ts cs t vs vm ih ⟨own_heap ho.sy hk, own_heap ho.me hk⟩ h1 h2 hp
theorem Kept.typs {w : World} {base : Nat} {r : Option Nat} {ts : List Typ} {cs : List Value} (h : TypsOwn w base r ts cs) : Kept (fun w => TypsOwn w base r ts cs) w base w.heap.size := ⟨h, fun _ hk => h.heap hk, Nat.le_refl _⟩
theorem sep_grown {w : World} {base : Nat} {e : TypeId} {size n : Nat} {v : Value} {xs : List Value} (ho : w.ownsRow base e size v n xs) {r r' : Option Nat} (h1 : sepR v r) {H : Nat} (hH : w.heap.size ≤ H) (hr : r' = r ∨ r' = some H) : sepR v r' := by
 rcases hr with rfl | rfl
 ·
  exact h1
 rcases h1 with h1 | h1
 ·
  exact .inl h1
 cases hv : v.ownBlock with
 | none => exact .inl hv
 | some k =>
  right
  rw [hv]
  intro he
  injection he with he
  have := (ho.lt k hv).2
  omega
theorem TypsOwn.grown {W w' : World} {base : Nat} {r r' : Option Nat} {ts : List Typ} {cs : List Value} {o : Obj} (h : TypsOwn W base r ts cs) (hg : (W.alloc o).grownBy w' r) {H : Nat} (hH : W.heap.size ≤ H) (hr : r' = r ∨ r' = some H) : TypsOwn w' base r' ts cs := by
 induction h with
 | nil => exact .nil
 | snoc ts cs t vs vm _ ho h1 h2 hp ih => exact .snoc ts cs t vs vm ih ⟨own_grown ho.sy hg h1, own_grown ho.me hg h2⟩ (sep_grown ho.sy h1 hH hr) (sep_grown ho.me h2 hH hr) hp
theorem TypsOwn.len {w : World} {base : Nat} {r : Option Nat} {ts : List Typ} {cs : List Value} (h : TypsOwn w base r ts cs) : cs.length = ts.length * 10 := by
 induction h with
 | nil => rfl
 | snoc ts cs t vs vm _ _ _ _ _ ih => rw [List.length_append, List.length_append, ih, Nat.add_mul]; rfl
theorem mems_rd {w : World} {base : Nat} {vm : Value} {ms : List Mem} (h : w.ownsRow base 66 13 vm ms.length (ms.flatMap memC)) (hp : ∀ m ∈ ms, MemPlain m) : RdMems w w.heap.size vm ms := by
 have hr := Rd.of_own h
 obtain ⟨hl, A, c, hv, hc, h2⟩ := hr
 refine ⟨fun i => match ms[i]? with | some m => memC m | none => [], ⟨A, c, hv, hc, ?_⟩, fun i hi => ?_⟩
 ·
  rcases h2 with h2 | ⟨b, o, hA, hb, hcell⟩
  ·
   exact .inl h2
  refine .inr ⟨b, o, hA, hb, fun i hi j u hu => ?_⟩
  simp only [List.getElem?_eq_getElem hi] at hu
  have hj : j < 13 := by
   have := (List.getElem?_eq_some_iff.1 hu).1
   simpa [memC_len] using this
  rw [Nat.add_assoc]
  exact hcell _ _ (by rw [flat_get memC_len ms i j hi hj]; exact hu)
 obtain ⟨a1, a2, a3, a4, a5, a6, a7, a8, a9, a10⟩ := hp ms[i] (List.getElem_mem hi)
 refine ⟨.slice none 0 0, .slice none 0 0, .slice none 0 0, ?_, ⟨a1, a2⟩, a3, ⟨⟨a4, a5, a6⟩, a7, by rw [a8, a9, a10]; simp, by rw [a10]; simp, ?_, ?_, ?_⟩⟩
 ·
  simp only [List.getElem?_eq_getElem hi]; rfl
 ·
  rw [a8]; exact ⟨fun _ => [], ⟨none, 0, rfl, Nat.le_refl _, .inl rfl⟩, fun i hi => by simp at hi⟩
 ·
  rw [a9]; exact ⟨fun _ => [], ⟨none, 0, rfl, Nat.le_refl _, .inl rfl⟩, fun i hi => by simp at hi⟩
 rw [a10]; exact Rd.nil_ _ _ _
theorem TypOwn.at_ {w : World} {base : Nat} {t : Typ} {vs vm : Value} (h : TypOwn w base t vs vm) (hp : TypPlain t) : TypAt w w.heap.size t vs vm :=
 ⟨hp.ints, hp.namel, hp.lens, hp.symsin, Rd.of_own h.sy, mems_rd h.me hp.memsin⟩
theorem TypsOwn.cell {w : World} {base : Nat} {r : Option Nat} {ts : List Typ} {cs : List Value} (h : TypsOwn w base r ts cs) : ∀ (i : Nat) (hi : i < ts.length), ∃ vs vm, (cs.drop (i * 10)).take 10 = typV ts[i] vs vm ∧ TypAt w w.heap.size ts[i] vs vm := by
 induction h with
 | nil => intro i hi; simp at hi
 | snoc ts cs t vs vm h0 ho h1 h2 hp ih =>
  intro i hi
  have hl := h0.len
  by_cases hlt : i < ts.length
  ·
   obtain ⟨a, b, h3, h4⟩ := ih i hlt
   refine ⟨a, b, ?_, ?_⟩
   ·
    rw [List.drop_append_of_le_length (by omega), List.take_append_of_le_length (by rw [List.length_drop]; omega), h3, List.getElem_append_left hlt]
   rw [List.getElem_append_left hlt]; exact h4
  obtain rfl : i = ts.length := by simp at hi; omega
  refine ⟨vs, vm, ?_, ?_⟩
  ·
   rw [← hl, List.drop_left, List.getElem_append_right (Nat.le_refl _)]
   simp
   rfl
  rw [List.getElem_append_right (Nat.le_refl _)]
  simpa using ho.at_ hp
theorem typs_rd {w : World} {base : Nat} {r : Option Nat} {v : Value} {ts : List Typ} {cs : List Value} (ho : w.ownsRow base 64 10 v ts.length cs) (h : TypsOwn w base r ts cs) : RdTyps w w.heap.size v ts := by
 have hr := Rd.of_own ho
 obtain ⟨hl, A, c, hv, hc, h2⟩ := hr
 refine ⟨fun i => (cs.drop (i * 10)).take 10, ⟨A, c, hv, hc, ?_⟩, h.cell⟩
 rcases h2 with h2 | ⟨b, o, hA, hb, hcell⟩
 ·
  exact .inl h2
 refine .inr ⟨b, o, hA, hb, fun i hi j u hu => ?_⟩
 have hj : j < 10 := by
  have := (List.getElem?_eq_some_iff.1 hu).1
  rw [List.length_take] at this; omega
 rw [List.getElem?_take_of_lt hj, List.getElem?_drop] at hu
 rw [Nat.add_assoc]
 exact hcell _ _ hu
end Go.Proofs.Ytgeapglanckjpaa
namespace Go.Proofs.Ytgeapglanckjpaa
open Go.ChangeShapes Go.WideShapes Go.ChangeAt Go.RowKit
theorem initialN_plain (xs : List Nod) (t code : Nat) : I64 (initialN xs t code).1.kind ∧ I64 (initialN xs t code).1.num ∧ I64 (initialN xs t code).1.id ∧ (initialN xs t code).1.str.length ≤ 140737488351232 ∧ (initialN xs t code).1.keys = [] ∧ (initialN xs t code).1.items = [] ∧ (initialN xs t code).1.rest = [] := by
 unfold initialN
 cases xs[t]? with
 | none => simp [val0, Val.kind, Val.num, Val.id, Val.str, Val.keys, Val.items, Val.rest, I64]
 | some x =>
  simp only
  generalize hk : (if kindN x = 8 ∧ keyN xs 0 = none then 7 else kindN x) = k
  have hk9 : 1 ≤ k ∧ k ≤ 9 := by have := kindN_in x; rw [← hk]; split <;> omega
  by_cases h56 : k = 5 ∨ k = 6
  ·
   rw [if_pos h56]; simp [val0, Val.kind, Val.num, Val.id, Val.str, Val.keys, Val.items, Val.rest, I64]
  rw [if_neg h56]
  have hlo := low_rng x
  have hhi : highN x - lowN x + 1 = (x.b : Int) % 6 + 1 := by unfold highN; omega
  refine ⟨by simp only [Val.kind, I64]; omega, ?_, ?_, ?_, rfl, rfl, rfl⟩
  ·
   simp only [Val.num, I64]
   split
   ·
    rw [hhi]
    have h1 := Int.emod_nonneg (code : Int) (show (x.b : Int) % 6 + 1 ≠ 0 by omega)
    have h2 := Int.emod_lt_of_pos (code : Int) (show 0 < (x.b : Int) % 6 + 1 by omega)
    omega
   omega
  ·
   simp only [Val.id, I64]
   split
   ·
    have hm : code % (idsN x).length < (idsN x).length := Nat.mod_lt _ (by have := idsN_pos x; omega)
    rw [List.getD_eq_getElem?_getD, List.getElem?_eq_getElem hm]
    have := idsN_mem x _ (List.getElem_mem hm)
    simp only [Option.getD_some]
    omega
   omega
  simp only [Val.str]
  split <;> simp
theorem partOf_plain (xs : List Nod) (i : Nat) (rc : Bool) (id : Nat) (hid : id ≤ 12) (h5 : xs.length ≤ 5) (hi : i < xs.length) (p : Prt) (m : Mem) (h : partOf xs i rc id p = some m) : MemPlain m := by
 unfold partOf at h
 cases ht : targetN xs i p.2.1 with
 | none => rw [ht] at h; cases h
 | some t =>
  rw [ht] at h
  have htl := targetN_lt xs i p.2.1 hi t ht
  simp only at h
  split at h
  ·
   injection h with h
   subst h
   have hd : ∀ b : Bool, I64 (if b then initialN xs t (p.2.2 / 4) else (val0, false)).1.kind ∧ I64 (if b then initialN xs t (p.2.2 / 4) else (val0, false)).1.num ∧ I64 (if b then initialN xs t (p.2.2 / 4) else (val0, false)).1.id ∧ (if b then initialN xs t (p.2.2 / 4) else (val0, false)).1.str.length ≤ 140737488351232 ∧ (if b then initialN xs t (p.2.2 / 4) else (val0, false)).1.keys = [] ∧ (if b then initialN xs t (p.2.2 / 4) else (val0, false)).1.items = [] ∧ (if b then initialN xs t (p.2.2 / 4) else (val0, false)).1.rest = [] := by
    intro b
    cases b with
    | true => exact initialN_plain xs t _
    | false => simp [val0, Val.kind, Val.num, Val.id, Val.str, Val.keys, Val.items, Val.rest, I64]
   obtain ⟨d1, d2, d3, d4, d5, d6, d7⟩ := hd (rc && decide (2 ≤ p.2.2 % 4))
   exact ⟨by simp only [I64]; omega, by simp only [I64]; omega, by simp [nm1], d1, d2, d3, d4, d5, d6, d7⟩
  cases h
theorem partsK_plain (xs : List Nod) (i : Nat) (rc : Bool) (ps : List Prt) (h5 : xs.length ≤ 5) (hi : i < xs.length) (k : Nat) (hk : k ≤ 12) : ∀ m ∈ partsK xs i rc ps k, MemPlain m := by
 induction k with
 | zero => simp [partsK]
 | succ k ih =>
  intro m hm
  rw [partsK] at hm
  rcases List.mem_append.1 hm with h | h
  ·
   exact ih (by omega) m h
  unfold partFor at h
  cases hf : ps.findSome? (partOf xs i rc (k + 1)) with
  | none => rw [hf] at h; simp at h
  | some m2 =>
   rw [hf] at h
   have : m = m2 := by simpa using h
   subst this
   obtain ⟨p, _, hp⟩ := List.exists_of_findSome?_eq_some hf
   exact partOf_plain xs i rc (k + 1) hk h5 hi p m hp
theorem typN_plain (xs : List Nod) (i : Nat) (x : Nod) (h5 : xs.length ≤ 5) (hi : i < xs.length) : TypPlain (typN xs i x) := by
 have hk := kindN_in x
 have hlo := low_rng x
 have hhi : highN x ≤ 8 ∧ -3 ≤ highN x := by unfold highN; omega
 have hmp := fun rc => partsK_plain xs i rc x.parts h5 hi 12 (Nat.le_refl _)
 have hml := fun rc => partsK_len xs i rc x.parts 12
 have hnl : (if namedB (kindN x) then typName i else []).length ≤ 140737488351232 := by split <;> simp [typName]
 have hc : x.c % xs.length < 5 := by have := Nat.mod_lt x.c (show 0 < xs.length by omega); omega
 have ha : x.a % 4 < 4 := Nat.mod_lt _ (by omega)
 unfold typN
 simp only
 have hb : ∀ t : Typ, t.syms = [] → t.mems = [] → (I64 t.kind ∧ I64 t.low ∧ I64 t.high ∧ I64 t.max ∧ I64 t.key ∧ I64 t.elem) → t.name.length ≤ 140737488351232 → TypPlain t := by
  intro t h1 h2 h3 h4
  exact ⟨h3, h4, by rw [h1, h2]; simp, by rw [h1]; simp, by rw [h2]; simp⟩
 split
 ·
  exact hb _ rfl rfl (by simp only [typ0, I64]; omega) (by simp [typ0])
 split
 ·
  exact hb _ rfl rfl (by simp only [typ0, I64]; omega) (by simp [typ0])
 split
 ·
  refine ⟨by simp only [typ0, I64]; omega, hnl, by have := idsN_pos x; simp [typ0]; omega, ?_, by simp [typ0]⟩
  intro r hr
  obtain ⟨a, ha2, rfl⟩ := List.mem_map.1 hr
  have := idsN_mem x a ha2
  exact ⟨by simp only [I64]; omega, by simp [nm1]⟩
 split
 ·
  exact ⟨by simp only [typ0, I64]; omega, hnl, by have := hml true; simp [typ0, partsN]; omega, by simp [typ0], hmp true⟩
 split
 ·
  split
  ·
   exact hb _ rfl rfl (by simp only [typ0, I64]; omega) hnl
  exact ⟨by simp only [typ0, I64]; omega, hnl, by have := hml false; simp [typ0, partsN]; omega, by simp [typ0], hmp false⟩
 split
 ·
  exact hb _ rfl rfl (by simp only [typ0, I64]; omega) (by simp [typ0])
 split
 ·
  cases hkn : keyN xs x.b with
  | none => exact hb _ rfl rfl (by simp only [typ0, I64]; omega) (by simp [typ0])
  | some j =>
   have := (keyN_lt xs x.b j hkn).1
   exact hb _ rfl rfl (by simp only [typ0, I64]; omega) (by simp [typ0])
 split
 ·
  exact hb _ rfl rfl (by simp only [typ0, I64]; omega) (by simp [typ0])
 exact hb _ rfl rfl (by simp only [typ0, I64]; omega) (by simp [typ0])
theorem ofN_len (xs : List Nod) : (ofN xs).length = xs.length := by unfold ofN; simp
theorem ofN_get (xs : List Nod) (k : Nat) (h : k < xs.length) : (ofN xs)[k]'(by rw [ofN_len]; exact h) = typN xs k xs[k] := by unfold ofN; simp
theorem ofN_take (xs : List Nod) (k : Nat) (h : k < xs.length) : (ofN xs).take (k + 1) = (ofN xs).take k ++ [typN xs k xs[k]] := by
 rw [List.take_succ_eq_append_getElem (by rw [ofN_len]; exact h), ofN_get]
end Go.Proofs.Ytgeapglanckjpaa
namespace Go.Proofs.Ytgeapglanckjpaa
open Go.ChangeShapes Go.WideShapes Go.ChangeAt Go.RowKit
theorem typN_kind (xs : List Nod) (i : Nat) (x : Nod) : 1 ≤ (typN xs i x).kind ∧ (typN xs i x).kind ≤ 9 := by
 have hk := kindN_in x
 unfold typN
 simp only
 split
 ·
  simp only []; omega
 split
 ·
  simp only []; omega
 split
 ·
  simp only []; omega
 split
 ·
  simp only []; omega
 split
 ·
  split
  ·
   simp only []; omega
  simp only []; omega
 split
 ·
  simp only []; omega
 split
 ·
  cases keyN xs x.b with
  | none => simp only []; omega
  | some j => simp only []; omega
 split
 ·
  simp only []; omega
 simp only []; omega
theorem ofN_kinds (xs : List Nod) : Kinds (ofN xs) := by
 intro t ht
 unfold ofN at ht
 obtain ⟨i, hi, rfl⟩ := List.mem_mapIdx.1 ht
 have := typN_kind xs i xs[i]
 unfold KindIn
 omega
end Go.Proofs.Ytgeapglanckjpaa

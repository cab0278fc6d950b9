/- Types whose lists are slices of the call's own. No condition. -/
import Derived.Test.YtjcoeolconelmaaDraftF
import Derived.Test.YtjcoeolconelmaaFresh
namespace Go.Proofs.Ytjcoeolconelmaa
open Go.ChangeShapes Go.WideShapes Go.ChangeAt Go.RowKit

def sepR (v : Value) (r : Option Nat) : Prop := v.ownBlock = none ∨ v.ownBlock ≠ r
def MemPlain (m : Mem) : Prop := I64 m.id ∧ I64 m.ty ∧ m.name.length ≤ 140737488351232 ∧ I64 m.dflt.kind ∧ I64 m.dflt.num ∧ I64 m.dflt.id ∧ m.dflt.str.length ≤ 140737488351232 ∧ m.dflt.keys = [] ∧ m.dflt.items = [] ∧ m.dflt.rest = []
structure TypPlain (t : Typ) : Prop where
  ints : I64 t.kind ∧ I64 t.low ∧ I64 t.high ∧ I64 t.max ∧ I64 t.key ∧ I64 t.elem
  namel : t.name.length ≤ 140737488351232
  lens : t.syms.length ≤ 140737488351232 ∧ t.mems.length ≤ 140737488351232
  symsin : ∀ r ∈ t.syms, RawIn r
  memsin : ∀ m ∈ t.mems, MemPlain m
structure TypOwn (w : World) (base : Nat) (t : Typ) (vs vm : Value) : Prop where
  sy : w.ownsRow base 72 2 vs t.syms.length (rawsV t.syms)
  me : w.ownsRow base 94 13 vm t.mems.length (t.mems.flatMap memC)
inductive TypsOwn (w : World) (base : Nat) (r : Option Nat) : List Typ → List Value → Prop
  | nil : TypsOwn w base r [] []
  | snoc (ts : List Typ) (cs : List Value) (t : Typ) (vs vm : Value) (h : TypsOwn w base r ts cs) (ho : TypOwn w base t vs vm) (h1 : sepR vs r) (h2 : sepR vm r) (hp : TypPlain t) : TypsOwn w base r (ts ++ [t]) (cs ++ typV t vs vm)
theorem TypsOwn.heap {w w' : World} {base : Nat} {r : Option Nat} {ts : List Typ} {cs : List Value} (h : TypsOwn w base r ts cs) (hk : ∀ k : Nat, base ≤ k → k < w.heap.size → w'.heap[k]? = w.heap[k]?) : TypsOwn w' base r ts cs := by
  induction h with
  | nil => exact .nil
  | snoc ts cs t vs vm _ ho h1 h2 hp ih => exact .snoc ts cs t vs vm ih ⟨own_heap ho.sy hk, own_heap ho.me hk⟩ h1 h2 hp
theorem Kept.typs {w : World} {base : Nat} {r : Option Nat} {ts : List Typ} {cs : List Value} (h : TypsOwn w base r ts cs) : Kept (fun w => TypsOwn w base r ts cs) w base w.heap.size := ⟨h, fun _ hk => h.heap hk, Nat.le_refl _⟩
theorem sep_grown {w : World} {base : Nat} {e : TypeId} {size n : Nat} {v : Value} {xs : List Value} (ho : w.ownsRow base e size v n xs) {r r' : Option Nat} (h1 : sepR v r) {H : Nat} (hH : w.heap.size ≤ H) (hr : r' = r ∨ r' = some H) : sepR v r' := by
  rcases hr with rfl | rfl
  · exact h1
  · rcases h1 with h1 | h1
    · exact .inl h1
    · cases hv : v.ownBlock with
      | none => exact .inl hv
      | some k =>
        right
        rw [hv]
        intro he
        injection he with he
        have := (ho.lt k hv).2
        omega
theorem TypsOwn.grown {W w' : World} {base : Nat} {r r' : Option Nat} {ts : List Typ} {cs : List Value} {o : Obj} (h : TypsOwn W base r ts cs) (hg : (W.alloc o).grownBy w' r) {H : Nat} (hH : W.heap.size ≤ H) (hr : r' = r ∨ r' = some H) : TypsOwn w' base r' ts cs := by
  induction h with
  | nil => exact .nil
  | snoc ts cs t vs vm _ ho h1 h2 hp ih => exact .snoc ts cs t vs vm ih ⟨own_grown ho.sy hg h1, own_grown ho.me hg h2⟩ (sep_grown ho.sy h1 hH hr) (sep_grown ho.me h2 hH hr) hp
theorem TypsOwn.len {w : World} {base : Nat} {r : Option Nat} {ts : List Typ} {cs : List Value} (h : TypsOwn w base r ts cs) : cs.length = ts.length * 10 := by
  induction h with
  | nil => rfl
  | snoc ts cs t vs vm _ _ _ _ _ ih => rw [List.length_append, List.length_append, ih, Nat.add_mul]; rfl
/-- members of the call's own, as they read -/
theorem mems_rd {w : World} {base : Nat} {vm : Value} {ms : List Mem} (h : w.ownsRow base 94 13 vm ms.length (ms.flatMap memC)) (hp : ∀ m ∈ ms, MemPlain m) : RdMems w w.heap.size vm ms := by
  have hr := Rd.of_own h
  obtain ⟨hl, A, c, hv, hc, h2⟩ := hr
  refine ⟨fun i => match ms[i]? with | some m => memC m | none => [], ⟨A, c, hv, hc, ?_⟩, fun i hi => ?_⟩
  · rcases h2 with h2 | ⟨b, o, hA, hb, hcell⟩
    · exact .inl h2
    · refine .inr ⟨b, o, hA, hb, fun i hi j u hu => ?_⟩
      simp only [List.getElem?_eq_getElem hi] at hu
      have hj : j < 13 := by
        have := (List.getElem?_eq_some_iff.1 hu).1
        simpa [memC_len] using this
      rw [Nat.add_assoc]
      exact hcell _ _ (by rw [flat_get memC_len ms i j hi hj]; exact hu)
  · obtain ⟨a1, a2, a3, a4, a5, a6, a7, a8, a9, a10⟩ := hp ms[i] (List.getElem_mem hi)
    refine ⟨.slice none 0 0, .slice none 0 0, .slice none 0 0, ?_, ⟨a1, a2⟩, a3, ⟨⟨a4, a5, a6⟩, a7, by rw [a8, a9, a10]; simp, by rw [a10]; simp, ?_, ?_, ?_⟩⟩
    · simp only [List.getElem?_eq_getElem hi]; rfl
    · rw [a8]; exact ⟨fun _ => [], ⟨none, 0, rfl, Nat.le_refl _, .inl rfl⟩, fun i hi => by simp at hi⟩
    · rw [a9]; exact ⟨fun _ => [], ⟨none, 0, rfl, Nat.le_refl _, .inl rfl⟩, fun i hi => by simp at hi⟩
    · rw [a10]; exact Rd.nil_ _ _ _
theorem TypOwn.at_ {w : World} {base : Nat} {t : Typ} {vs vm : Value} (h : TypOwn w base t vs vm) (hp : TypPlain t) : TypAt w w.heap.size t vs vm :=
  ⟨hp.ints, hp.namel, hp.lens, hp.symsin, Rd.of_own h.sy, mems_rd h.me hp.memsin⟩
theorem TypsOwn.cell {w : World} {base : Nat} {r : Option Nat} {ts : List Typ} {cs : List Value} (h : TypsOwn w base r ts cs) : ∀ (i : Nat) (hi : i < ts.length), ∃ vs vm, (cs.drop (i * 10)).take 10 = typV ts[i] vs vm ∧ TypAt w w.heap.size ts[i] vs vm := by
  induction h with
  | nil => intro i hi; simp at hi
  | snoc ts cs t vs vm h0 ho h1 h2 hp ih =>
    intro i hi
    have hl := h0.len
    by_cases hlt : i < ts.length
    · obtain ⟨a, b, h3, h4⟩ := ih i hlt
      refine ⟨a, b, ?_, ?_⟩
      · rw [List.drop_append_of_le_length (by omega), List.take_append_of_le_length (by rw [List.length_drop]; omega), h3, List.getElem_append_left hlt]
      · rw [List.getElem_append_left hlt]; exact h4
    · obtain rfl : i = ts.length := by simp at hi; omega
      refine ⟨vs, vm, ?_, ?_⟩
      · rw [← hl, List.drop_left, List.getElem_append_right (Nat.le_refl _)]
        simp
        rfl
      · rw [List.getElem_append_right (Nat.le_refl _)]
        simpa using ho.at_ hp
theorem typs_rd {w : World} {base : Nat} {r : Option Nat} {v : Value} {ts : List Typ} {cs : List Value} (ho : w.ownsRow base 67 10 v ts.length cs) (h : TypsOwn w base r ts cs) : RdTyps w w.heap.size v ts := by
  have hr := Rd.of_own ho
  obtain ⟨hl, A, c, hv, hc, h2⟩ := hr
  refine ⟨fun i => (cs.drop (i * 10)).take 10, ⟨A, c, hv, hc, ?_⟩, h.cell⟩
  rcases h2 with h2 | ⟨b, o, hA, hb, hcell⟩
  · exact .inl h2
  · refine .inr ⟨b, o, hA, hb, fun i hi j u hu => ?_⟩
    have hj : j < 10 := by
      have := (List.getElem?_eq_some_iff.1 hu).1
      rw [List.length_take] at this; omega
    rw [List.getElem?_take_of_lt hj, List.getElem?_drop] at hu
    rw [Nat.add_assoc]
    exact hcell _ _ hu
end Go.Proofs.Ytjcoeolconelmaa

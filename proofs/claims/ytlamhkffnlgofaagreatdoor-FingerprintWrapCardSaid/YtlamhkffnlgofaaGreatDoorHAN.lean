/- A list of types that a call builds by append. Lists of types of the call's own, whose members are written in place. No condition. -/
import Derived.Test.YtlamhkffnlgofaaGreatDoorHAM
import Derived.Test.YtlamhkffnlgofaaGreatDoorHAL
import Derived.Test.YtlamhkffnlgofaaGreatDoorFprf
namespace Go.Proofs.YtlamhkffnlgofaaGreatDoor
open Go.ChangeShapes Go.WideShapes Go.ChangeAt Go.RowKit
def OwnTyps (w : World) (L B : Nat) (v : Value) (xs : List Typ) : Prop :=
 ∃ cs : List Value, w.ownsRow L 71 10 v xs.length cs ∧ (∀ k, v.ownBlock = some k → k < B) ∧ ∀ (i : Nat) (h : i < xs.length), ∃ vs vm, (cs.drop (i * 10)).take 10 = typV xs[i] vs vm ∧ TypP w (fun b => L ≤ b ∧ b < B ∧ v.ownBlock ≠ some b) xs[i] vs vm
section
variable {w w' w1 : World} {L B : Nat} {v : Value} {xs : List Typ}
theorem OwnTyps.nil (w : World) (L B : Nat) : OwnTyps w L B (.slice none 0 0) [] := ⟨[], World.ownsRow_nil _ _ _ _, fun k h => (by cases h), fun i h => by simp at h⟩
theorem OwnTyps.keep (h : OwnTyps w L B v xs) (hk : ∀ k, L ≤ k → k < B → w'.heap[k]? = w.heap[k]?) : OwnTyps w' L B v xs := by
 obtain ⟨cs, h1, h0, h2⟩ := h
 refine ⟨cs, own_keep h1 fun k hb => hk k (h1.lt k hb).1 (h0 k hb), h0, fun i hi => ?_⟩
 obtain ⟨vs, vm, h3, h4⟩ := h2 i hi
 exact ⟨vs, vm, h3, h4.keep (fun p hp => World.cell?_of_block (hk p.block hp.1 hp.2.1)) fun b hb => hb⟩
theorem OwnTyps.kept (h : OwnTyps w L B v xs) (hB : B ≤ w.heap.size) : Kept (fun w' => OwnTyps w' L B v xs) w L B := ⟨h, fun _ hk => h.keep hk, hB⟩
theorem OwnTyps.mono {B' : Nat} (h : OwnTyps w L B v xs) (hB : B ≤ B') : OwnTyps w L B' v xs := by
 obtain ⟨cs, h1, h0, h2⟩ := h
 refine ⟨cs, h1, fun k hk => Nat.lt_of_lt_of_le (h0 k hk) hB, fun i hi => ?_⟩
 obtain ⟨vs, vm, h3, h4⟩ := h2 i hi
 exact ⟨vs, vm, h3, h4.keep (fun _ _ => rfl) fun b hb => ⟨hb.1, by omega, hb.2.2⟩⟩
theorem OwnTyps.form (h : OwnTyps w L B v xs) : ∃ A c, v = .slice A xs.length c := by
 obtain ⟨cs, h1, _⟩ := h
 exact own_form h1
theorem OwnTyps.row (h : OwnTyps w L B v xs) : ∃ cs : List Value, w.ownsRow L 71 10 v xs.length cs ∧ ∀ (w1 : World) (v1 : Value) (y : Typ) (vs vm : Value) (B1 : Nat), w.grownBy w1 v.ownBlock → w1.ownsRow L 71 10 v1 (xs.length + 1) (cs ++ typV y vs vm) →
  (∀ k, v1.ownBlock = some k → v.ownBlock = some k ∨ B ≤ k) → B ≤ w.heap.size → (∀ k, v1.ownBlock = some k → k < B1) → B ≤ B1 → TypP w (fun b => L ≤ b ∧ b < B1 ∧ b < w.heap.size ∧ v.ownBlock ≠ some b ∧ v1.ownBlock ≠ some b) y vs vm → OwnTyps w1 L B1 v1 (xs ++ [y]) := by
 obtain ⟨cs, h1, h0, h2⟩ := h
 refine ⟨cs, h1, fun w1 v1 y vs vm B1 hg ho hr hB hlt hB1 hy => ⟨cs ++ typV y vs vm, by rw [List.length_append]; exact ho, hlt, fun i hi => ?_⟩⟩
 have hcl : cs.length = xs.length * 10 := h1.1
 have hkeep : ∀ p : Addr, p.block < w.heap.size → v.ownBlock ≠ some p.block → w1.cell? p = w.cell? p := fun p hp hn => World.cell?_of_block (hg.block p.block hp (fun e => hn e.symm))
 rcases Nat.lt_or_ge i xs.length with h3 | h3
 ·
  obtain ⟨vs2, vm2, h4, h5⟩ := h2 i h3
  refine ⟨vs2, vm2, ?_, ?_⟩
  ·
   rw [List.getElem_append_left h3, ← h4, List.drop_append_of_le_length (by omega), List.take_append_of_le_length (by rw [List.length_drop]; omega)]
  rw [List.getElem_append_left h3]
  refine h5.keep (fun p hp => hkeep p (by have := hp.2.1; omega) hp.2.2) fun b hb => ⟨hb.1, by have := hb.2.1; omega, fun e => ?_⟩
  rcases hr b e with h6 | h6
  ·
   exact hb.2.2 h6
  have := hb.2.1; omega
 have h4 : i = xs.length := by rw [List.length_append] at hi; simp at hi; omega
 subst h4
 refine ⟨vs, vm, ?_, ?_⟩
 ·
  rw [List.getElem_append_right (Nat.le_refl _), List.drop_append, List.drop_eq_nil_of_le (by omega), hcl, Nat.sub_self]
  simp [typV]
 rw [List.getElem_append_right (Nat.le_refl _)]
 simp only [Nat.sub_self, List.getElem_cons_zero]
 exact hy.keep (fun p hp => hkeep p hp.2.2.1 hp.2.2.2.1) fun b hb => ⟨hb.1, hb.2.1, hb.2.2.2.2⟩
theorem OwnTyps.rd (h : OwnTyps w L B v xs) (hB : B ≤ w.heap.size) : RdTyps w w.heap.size v xs := by
 obtain ⟨cs, h1, h0, h2⟩ := h
 have hcl : cs.length = xs.length * 10 := h1.1
 obtain ⟨A, c, hv, hc, h3⟩ := Rd.of_own h1 |>.2
 refine ⟨fun i => (cs.drop (i * 10)).take 10, ?_, fun i hi => ?_⟩
 ·
  refine ⟨A, c, hv, hc, ?_⟩
  rcases h3 with h3 | ⟨b, o, hA, hb, hcell⟩
  ·
   exact .inl h3
  refine .inr ⟨b, o, hA, hb, fun i hi j u hu => ?_⟩
  have hj : j < 10 := by
   have := (List.getElem?_eq_some_iff.1 hu).1
   simp at this; omega
  rw [List.getElem?_take_of_lt hj, List.getElem?_drop] at hu
  have h4 := hcell (i * 10 + j) u hu
  rwa [show o + (i * 10 + j) = o + i * 10 + j by omega] at h4
 obtain ⟨vs, vm, h3, h4⟩ := h2 i hi
 exact ⟨vs, vm, h3, h4.at_ fun b hb => by have := hb.2.1; omega⟩
end
end Go.Proofs.YtlamhkffnlgofaaGreatDoor
namespace Go.Proofs.YtlamhkffnlgofaaGreatDoor
open Go.ChangeShapes Go.WideShapes Go.ChangeAt Go.RowKit
structure MemX (m : Mem) : Prop where
 ints : I64 m.id ∧ I64 m.ty
 namel : m.name.length ≤ 140737488351232
 bare : m.dflt.keys = [] ∧ m.dflt.items = [] ∧ m.dflt.rest = []
 vints : I64 m.dflt.kind ∧ I64 m.dflt.num ∧ I64 m.dflt.id
 strl : m.dflt.str.length ≤ 140737488351232
structure TypX (x : Typ) : Prop where
 ints : I64 x.kind ∧ I64 x.low ∧ I64 x.high ∧ I64 x.max ∧ I64 x.key ∧ I64 x.elem
 namel : x.name.length ≤ 140737488351232
 lens : x.syms.length ≤ 1000 ∧ x.mems.length ≤ 1000
 symsin : ∀ r ∈ x.syms, RawIn r
 mems : ∀ m ∈ x.mems, MemX m
theorem rdVals_nilX (w : World) (B : Nat) : RdVals w B (.slice none 0 0) [] := ⟨fun _ => [], ⟨none, 0, rfl, Nat.le_refl _, .inl rfl⟩, fun i h => by simp at h⟩
theorem MemX.at_ {m : Mem} (h : MemX m) (w : World) (B : Nat) : MemAt w B m (.slice none 0 0) (.slice none 0 0) (.slice none 0 0) := by
 obtain ⟨h1, h2, ⟨h3, h4, h5⟩, h6, h7⟩ := h
 refine ⟨h1, h2, h6, h7, by rw [h3, h4, h5]; simp, by rw [h5]; simp, by rw [h3]; exact rdVals_nilX w B, by rw [h4]; exact rdVals_nilX w B, by rw [h5]; exact Rd.nil_ w B 2⟩
theorem memN_len (m : Mem) : (memN m).length = 13 := rfl
theorem TypE.at_ {w : World} {lo hi : Nat} {x : Typ} {vs vm : Value} (h : TypE w lo hi x vs vm) (hx : TypX x) : TypAt w w.heap.size x vs vm := by
 refine ⟨hx.ints, hx.namel, by have := hx.lens; exact ⟨by omega, by omega⟩, hx.symsin, Rd.of_own h.syms, ?_⟩
 obtain ⟨hl, A, c, hv, hc, h3⟩ := Rd.of_own h.mems
 refine ⟨fun i => memN (x.mems.getD i { id := 0, name := [], ty := 0, crit := false, hasDef := false, dflt := val0 }), ⟨A, c, hv, hc, ?_⟩, fun i hi => ?_⟩
 ·
  rcases h3 with h3 | ⟨b, o, hA, hb, hcell⟩
  ·
   exact .inl h3
  refine .inr ⟨b, o, hA, hb, fun i hi j u hu => ?_⟩
  dsimp only at hu
  rw [List.getD_eq_getElem?_getD, List.getElem?_eq_getElem hi, Option.getD_some] at hu
  have hj : j < 13 := by have := (List.getElem?_eq_some_iff.1 hu).1; rwa [memN_len] at this
  have h4 := hcell (i * 13 + j) u ((flat_get memN_len x.mems i j hi hj).trans hu)
  rwa [show o + (i * 13 + j) = o + i * 13 + j by omega] at h4
 dsimp only
 rw [List.getD_eq_getElem?_getD, List.getElem?_eq_getElem hi, Option.getD_some]
 exact ⟨_, _, _, rfl, (hx.mems _ (List.getElem_mem hi)).at_ w _⟩
theorem TypE.keepB {w w' : World} {lo hi : Nat} {x : Typ} {vs vm : Value} (h : TypE w lo hi x vs vm) (hk : ∀ k, lo ≤ k → k < hi → w'.heap[k]? = w.heap[k]?) : TypE w' lo hi x vs vm :=
 ⟨own_keep h.syms fun k hb => hk k (h.syms.lt k hb).1 (h.symsB k hb), h.symsB, own_keep h.mems fun k hb => hk k (h.mems.lt k hb).1 (h.memsB k hb), h.memsB⟩
theorem TypE.keepO {w w' : World} {lo hi : Nat} {x : Typ} {vs vm : Value} (h : TypE w lo hi x vs vm) (hk : ∀ k, vs.ownBlock = some k ∨ vm.ownBlock = some k → w'.heap[k]? = w.heap[k]?) : TypE w' lo hi x vs vm :=
 ⟨own_keep h.syms fun k hb => hk k (.inl hb), h.symsB, own_keep h.mems fun k hb => hk k (.inr hb), h.memsB⟩
theorem TypE.mono {w : World} {lo hi lo' hi' : Nat} {x : Typ} {vs vm : Value} (h : TypE w lo hi x vs vm) (h1 : lo' ≤ lo) (h2 : hi ≤ hi') : TypE w lo' hi' x vs vm :=
 ⟨own_base h.syms h1, fun k hk => by have := h.symsB k hk; omega, own_base h.mems h1, fun k hk => by have := h.memsB k hk; omega⟩
theorem TypE.kept {w : World} {lo hi : Nat} {x : Typ} {vs vm : Value} (h : TypE w lo hi x vs vm) (hh : hi ≤ w.heap.size) : Kept (fun w => TypE w lo hi x vs vm) w lo hi := ⟨h, fun _ hk => h.keepB hk, hh⟩
def TypsE (w : World) (L B : Nat) (v : Value) (xs : List Typ) : Prop :=
 ∃ (cs : List Value) (bd : Nat → Nat), w.ownsRow L 71 10 v xs.length cs ∧ (∀ k, v.ownBlock = some k → k < B) ∧ L ≤ bd 0 ∧ (∀ i j, i ≤ j → j ≤ xs.length → bd i ≤ bd j) ∧ bd xs.length ≤ B ∧
  ∀ (i : Nat) (h : i < xs.length), ∃ vs vm, (cs.drop (i * 10)).take 10 = typV xs[i] vs vm ∧ TypE w (bd i) (bd (i + 1)) xs[i] vs vm
section
variable {w w' : World} {L B : Nat} {v : Value} {xs : List Typ}
theorem TypsE.nil (w : World) (L B : Nat) (h : L ≤ B) : TypsE w L B (.slice none 0 0) [] := ⟨[], fun _ => L, World.ownsRow_nil _ _ _ _, fun k h => (by cases h), Nat.le_refl _, fun _ _ _ _ => Nat.le_refl _, h, fun i h => by simp at h⟩
theorem TypsE.keep (h : TypsE w L B v xs) (hk : ∀ k, L ≤ k → k < B → w'.heap[k]? = w.heap[k]?) : TypsE w' L B v xs := by
 obtain ⟨cs, bd, h1, h2, h3, h4, h5, h6⟩ := h
 refine ⟨cs, bd, own_keep h1 fun k hb => hk k (h1.lt k hb).1 (h2 k hb), h2, h3, h4, h5, fun i hi => ?_⟩
 obtain ⟨vs, vm, h7, h8⟩ := h6 i hi
 have a1 := h4 0 i (by omega) (by omega)
 have a2 := h4 (i + 1) xs.length (by omega) (Nat.le_refl _)
 exact ⟨vs, vm, h7, h8.keepB fun k hl hh => hk k (by omega) (by omega)⟩
theorem TypsE.kept (h : TypsE w L B v xs) (hB : B ≤ w.heap.size) : Kept (fun w' => TypsE w' L B v xs) w L B := ⟨h, fun _ hk => h.keep hk, hB⟩
theorem TypsE.mono {B' : Nat} (h : TypsE w L B v xs) (hB : B ≤ B') : TypsE w L B' v xs := by
 obtain ⟨cs, bd, h1, h2, h3, h4, h5, h6⟩ := h
 exact ⟨cs, bd, h1, fun k hk => Nat.lt_of_lt_of_le (h2 k hk) hB, h3, h4, Nat.le_trans h5 hB, h6⟩
theorem TypsE.row (h : TypsE w L B v xs) : ∃ cs : List Value, w.ownsRow L 71 10 v xs.length cs ∧ (∀ k, v.ownBlock = some k → k < B) ∧ ∀ (w1 : World) (v1 : Value) (y : Typ) (vs vm : Value) (B1 z6 z7 : Nat), w.grownBy w1 v.ownBlock → w1.ownsRow L 71 10 v1 (xs.length + 1) (cs ++ typV y vs vm) →
  (∀ k, v1.ownBlock = some k → k < B1) → B ≤ z6 → z6 ≤ z7 → z7 ≤ w.heap.size → z7 ≤ B1 → TypE w z6 z7 y vs vm → TypsE w1 L B1 v1 (xs ++ [y]) := by
 obtain ⟨cs, bd, h1, h2, h3, h4, h5, h6⟩ := h
 refine ⟨cs, h1, h2, fun w1 v1 y vs vm B1 z6 z7 hg ho hlt hz6 hz67 hz7 hzB hy => ?_⟩
 have hcl : cs.length = xs.length * 10 := h1.1
 have hkeep : ∀ {lo hi : Nat} {x : Typ} {us um : Value}, TypE w lo hi x us um → TypE w1 lo hi x us um := fun {lo hi x us um} hx => hx.keepO fun k hk => by
  refine hg.block k ?_ (fun e => ?_)
  ·
   rcases hk with hk | hk
   ·
    exact (hx.syms.lt k hk).2
   exact (hx.mems.lt k hk).2
  rcases hk with hk | hk
  ·
   exact own_part h1 hx.syms (by decide) e.symm hk
  exact own_part h1 hx.mems (by decide) e.symm hk
 refine ⟨cs ++ typV y vs vm, fun i => if i ≤ xs.length then bd i else z7, by rw [List.length_append]; exact ho, hlt, by simpa using h3, fun i j hij hj => ?_, ?_, fun i hi => ?_⟩
 ·
  simp only [List.length_append, List.length_singleton] at hj
  dsimp only
  by_cases e1 : j ≤ xs.length
  ·
   rw [if_pos (by omega), if_pos e1]; exact h4 i j hij e1
  rw [if_neg e1]
  by_cases e2 : i ≤ xs.length
  ·
   rw [if_pos e2]; have := h4 i xs.length e2 (Nat.le_refl _); omega
  rw [if_neg e2]; exact Nat.le_refl _
 ·
  dsimp only
  rw [List.length_append, List.length_singleton, if_neg (by omega)]
  exact hzB
 rw [List.length_append, List.length_singleton] at hi
 dsimp only
 rcases Nat.lt_or_ge i xs.length with hlt2 | hge
 ·
  obtain ⟨us, um, h7, h8⟩ := h6 i hlt2
  refine ⟨us, um, ?_, ?_⟩
  ·
   rw [List.getElem_append_left hlt2, ← h7, List.drop_append_of_le_length (by omega), List.take_append_of_le_length (by rw [List.length_drop]; omega)]
  rw [List.getElem_append_left hlt2, if_pos (by omega), if_pos (by omega)]
  exact hkeep h8
 have e : i = xs.length := by omega
 subst e
 refine ⟨vs, vm, ?_, ?_⟩
 ·
  rw [List.getElem_append_right (Nat.le_refl _), List.drop_append, List.drop_eq_nil_of_le (by omega), hcl, Nat.sub_self]
  simp [typV]
 rw [List.getElem_append_right (Nat.le_refl _), if_pos (Nat.le_refl _), if_neg (by omega)]
 simp only [Nat.sub_self, List.getElem_cons_zero]
 exact (hkeep hy).mono (by omega) (Nat.le_refl _)
theorem TypsE.at_ (h : TypsE w L B v xs) {t : Nat} (ht : t < xs.length) : ∃ g c vs vm lo hi, v = .slice (some ⟨g, 0, none⟩) xs.length c ∧ L ≤ g ∧ g < B ∧ Cells10 w g (t * 10) xs[t] vs vm ∧ TypE w lo hi xs[t] vs vm ∧ L ≤ lo ∧ hi ≤ B ∧
  ∀ (w2 : World) (ms : List Mem), ms.length = xs[t].mems.length → (∀ k, k < w.heap.size → vm.ownBlock ≠ some k → w2.heap[k]? = w.heap[k]?) → w2.ownsRow lo 83 13 vm ms.length (ms.flatMap memN) → TypsE w2 L B v (xs.set t { xs[t] with mems := ms }) := by
 obtain ⟨cs, bd, h1, h2, h3, h4, h5, h6⟩ := h
 obtain ⟨vs, vm, h7, h8⟩ := h6 t ht
 have hcl : cs.length = xs.length * 10 := h1.1
 obtain ⟨g, c, rfl⟩ : ∃ g c, v = .slice (some ⟨g, 0, none⟩) xs.length c := by
  rcases h1.2 with ⟨h, h9⟩ | ⟨g, c, cur, h, _⟩
  ·
   omega
  exact ⟨g, c, h⟩
 have hg := h1.lt g rfl
 have hcell : ∀ j u, (typV xs[t] vs vm)[j]? = some u → w.cell? ⟨g, t * 10 + j, none⟩ = some u := fun j u hu => by
  have hj : j < 10 := by have := (List.getElem?_eq_some_iff.1 hu).1; simpa [typV] using this
  rw [h1.cellAt (t * 10 + j) (by omega)]
  rw [← h7, List.getElem?_take_of_lt hj, List.getElem?_drop] at hu
  exact hu
 have b1 := h4 0 t (by omega) (by omega)
 have b2 := h4 (t + 1) xs.length (by omega) (Nat.le_refl _)
 refine ⟨g, c, vs, vm, bd t, bd (t + 1), rfl, hg.1, h2 g rfl, ⟨hcell 0 _ rfl, hcell 1 _ rfl, hcell 2 _ rfl, hcell 3 _ rfl, hcell 4 _ rfl, hcell 5 _ rfl, hcell 6 _ rfl, hcell 7 _ rfl, hcell 8 _ rfl, hcell 9 _ rfl⟩, h8, by omega, by omega, fun w2 ms hlen hk hown => ?_⟩
 refine ⟨cs, bd, ?_, h2, h3, by rw [List.length_set]; exact h4, by rw [List.length_set]; exact h5, fun i hi => ?_⟩
 ·
  rw [List.length_set]
  exact own_keep h1 fun k hb => hk k (h1.lt k hb).2 (own_part h1 h8.mems (by decide) hb)
 rw [List.length_set] at hi
 by_cases e : i = t
 ·
  subst e
  refine ⟨vs, vm, by rw [List.getElem_set_self, h7]; rfl, ?_⟩
  rw [List.getElem_set_self]
  exact ⟨own_keep h8.syms fun k hb => hk k (h8.syms.lt k hb).2 (own_part h8.syms h8.mems (by decide) hb), h8.symsB, hown, h8.memsB⟩
 obtain ⟨us, um, h9, h10⟩ := h6 i hi
 refine ⟨us, um, by rw [List.getElem_set_ne (fun h => e h.symm)]; exact h9, ?_⟩
 rw [List.getElem_set_ne (fun h => e h.symm)]
 refine h10.keepO fun k hkk => hk k (by rcases hkk with hkk | hkk; exact (h10.syms.lt k hkk).2; exact (h10.mems.lt k hkk).2) (fun hvm => ?_)
 rcases hkk with hkk | hkk
 ·
  exact own_part h10.syms h8.mems (by decide) hkk hvm
 have q1 := (h10.mems.lt k hkk).1
 have q2 := h10.memsB k hkk
 have q3 := (h8.mems.lt k hvm).1
 have q4 := h8.memsB k hvm
 rcases Nat.lt_or_ge i t with hit | hit
 ·
  have := h4 (i + 1) t (by omega) (by omega); omega
 have := h4 (t + 1) i (by omega) (by omega); omega
theorem TypsE.rd (h : TypsE w L B v xs) (hx : ∀ x ∈ xs, TypX x) : RdTyps w w.heap.size v xs := by
 obtain ⟨cs, bd, h1, h2, h3, h4, h5, h6⟩ := h
 obtain ⟨A, c, hv, hc, h7⟩ := Rd.of_own h1 |>.2
 refine ⟨fun i => (cs.drop (i * 10)).take 10, ?_, fun i hi => ?_⟩
 ·
  refine ⟨A, c, hv, hc, ?_⟩
  rcases h7 with h7 | ⟨b, o, hA, hb, hcell⟩
  ·
   exact .inl h7
  refine .inr ⟨b, o, hA, hb, fun i hi j u hu => ?_⟩
  have hj : j < 10 := by
   have := (List.getElem?_eq_some_iff.1 hu).1
   simp at this; omega
  rw [List.getElem?_take_of_lt hj, List.getElem?_drop] at hu
  have h4 := hcell (i * 10 + j) u hu
  rwa [show o + (i * 10 + j) = o + i * 10 + j by omega] at h4
 obtain ⟨vs, vm, h8, h9⟩ := h6 i hi
 exact ⟨vs, vm, h8, h9.at_ (hx _ (List.getElem_mem hi))⟩
end
/-! types whose defaults are filled in, member by member -/
def fillM (ms : List Mem) (i : Nat) : List Mem := ms.take i ++ (ms.drop i).map unM
def fillT (x : Typ) (i : Nat) : Typ := { x with mems := fillM x.mems i }
def fillN (x : Typ) (t i j : Nat) : Nat := if j < t then x.mems.length else if j = t then i else 0
def fillS (us : List Typ) (t i : Nat) : List Typ := us.mapIdx fun j x => fillT x (fillN x t i j)
theorem fillM_zero (ms : List Mem) : fillM ms 0 = ms.map unM := by simp [fillM]
theorem fillM_all (ms : List Mem) : fillM ms ms.length = ms := by simp [fillM]
theorem fillM_len (ms : List Mem) (i : Nat) : (fillM ms i).length = ms.length := by
 unfold fillM; rw [List.length_append, List.length_map, ← List.length_append, List.take_append_drop]
theorem fillM_get (ms : List Mem) (i : Nat) (h : i < ms.length) : (fillM ms i)[i]? = some (unM ms[i]) := by
 unfold fillM
 rw [List.getElem?_append_right (by rw [List.length_take]; omega), List.length_take, Nat.min_eq_left (by omega), Nat.sub_self, List.drop_eq_getElem_cons h]
 rfl
theorem fillM_next (ms : List Mem) (i : Nat) (h : i < ms.length) : (fillM ms i).set i ms[i] = fillM ms (i + 1) := by
 unfold fillM
 rw [List.set_append_right _ _ (by rw [List.length_take]; omega), List.length_take, Nat.min_eq_left (by omega), Nat.sub_self, List.drop_eq_getElem_cons h, List.map_cons, List.set_cons_zero, List.take_succ_eq_append_getElem h, List.append_assoc]
 rfl
theorem fillM_skip (ms : List Mem) (i : Nat) (h : i < ms.length) (hu : unM ms[i] = ms[i]) : fillM ms (i + 1) = fillM ms i := by
 unfold fillM
 rw [List.drop_eq_getElem_cons h, List.map_cons, hu, List.take_succ_eq_append_getElem h, List.append_assoc]
 rfl
theorem fillT_all (x : Typ) : fillT x x.mems.length = x := by unfold fillT; rw [fillM_all]
theorem fillT_zero (x : Typ) : fillT x 0 = unT x := by unfold fillT unT; rw [fillM_zero]
theorem fillS_len (us : List Typ) (t i : Nat) : (fillS us t i).length = us.length := by unfold fillS; simp
theorem fillS_get (us : List Typ) (t i j : Nat) (h : j < us.length) : (fillS us t i)[j]? = some (fillT us[j] (fillN us[j] t i j)) := by
 unfold fillS; rw [List.getElem?_mapIdx, List.getElem?_eq_getElem h]; rfl
theorem fillS_getE (us : List Typ) (t i j : Nat) (h : j < us.length) (h2 : j < (fillS us t i).length) : (fillS us t i)[j] = fillT us[j] (fillN us[j] t i j) := by
 have := fillS_get us t i j h
 rw [List.getElem?_eq_getElem h2] at this
 exact Option.some.inj this
theorem fillS_ext {us vs : List Typ} {t i : Nat} (hl : vs.length = us.length) (h : ∀ (j : Nat) (hj : j < us.length), vs[j]? = some (fillT us[j] (fillN us[j] t i j))) : vs = fillS us t i := by
 apply List.ext_getElem?
 intro j
 by_cases hj : j < us.length
 ·
  rw [h j hj, fillS_get us t i j hj]
 rw [List.getElem?_eq_none (by omega), List.getElem?_eq_none (by rw [fillS_len]; omega)]
theorem fillS_zero (us : List Typ) : us.map unT = fillS us 0 0 := fillS_ext (by simp) fun j hj => by
 rw [List.getElem?_map, List.getElem?_eq_getElem hj, Option.map_some, ← fillT_zero]
 unfold fillN; rw [if_neg (by omega)]; split <;> rfl
theorem fillS_end (us : List Typ) : us = fillS us us.length 0 := fillS_ext rfl fun j hj => by
 unfold fillN; rw [if_pos hj, fillT_all, List.getElem?_eq_getElem hj]
theorem fillS_row (us : List Typ) (t : Nat) (ht : t < us.length) : fillS us t us[t].mems.length = fillS us (t + 1) 0 := fillS_ext (fillS_len _ _ _) fun j hj => by
 rw [fillS_get us t _ j hj]
 congr 2
 unfold fillN
 by_cases h1 : j < t
 ·
  rw [if_pos h1, if_pos (by omega)]
 by_cases h2 : j = t
 ·
  subst h2; rw [if_neg (by omega), if_pos rfl, if_pos (by omega)]
 rw [if_neg h1, if_neg h2, if_neg (by omega)]; split <;> rfl
theorem fillS_skip (us : List Typ) (t i : Nat) (ht : t < us.length) (hi : i < us[t].mems.length) (hu : unM us[t].mems[i] = us[t].mems[i]) : fillS us t i = fillS us t (i + 1) := fillS_ext (fillS_len _ _ _) fun j hj => by
 rw [fillS_get us t _ j hj]
 congr 1
 unfold fillN
 by_cases h1 : j < t
 ·
  rw [if_pos h1, if_pos h1]
 by_cases h2 : j = t
 ·
  subst h2
  rw [if_neg (by omega), if_pos rfl, if_neg (by omega), if_pos rfl]
  unfold fillT; rw [fillM_skip _ _ hi hu]
 rw [if_neg h1, if_neg h2, if_neg h1, if_neg h2]
theorem fillS_set (us : List Typ) (t i : Nat) (ht : t < us.length) (hi : i < us[t].mems.length) (h2 : t < (fillS us t i).length) : (fillS us t i).set t { (fillS us t i)[t] with mems := (fillM us[t].mems i).set i us[t].mems[i] } = fillS us t (i + 1) := fillS_ext (by rw [List.length_set, fillS_len]) fun j hj => by
 by_cases e : j = t
 ·
  subst e
  rw [List.getElem?_set_self h2, fillS_getE us j i j hj h2, fillM_next _ _ hi]
  congr 1
  have e2 : fillN us[j] j (i + 1) j = i + 1 := by unfold fillN; rw [if_neg (by omega), if_pos rfl]
  rw [e2]; rfl
 rw [List.getElem?_set_ne (fun h => e h.symm), fillS_get us t i j hj]
 congr 2
 unfold fillN
 rw [if_neg e, if_neg e]
theorem setL_mem : ∀ (l : List Mem) (k : Nat) (h : k < l.length) (m : Mem), unM m = unM l[k] → setL (l.flatMap memN) (k * 13 + 5) (valV m.dflt (.slice none 0 0) (.slice none 0 0) (.slice none 0 0)) = (l.set k m).flatMap memN
 | [], _, h, _, _ => by simp at h
 | x :: r, 0, _, m, hm => by
  obtain ⟨x1, x2, x3, x4, x5, x6⟩ := x
  obtain ⟨m1, m2, m3, m4, m5, m6⟩ := m
  simp only [unM, List.getElem_cons_zero, Mem.mk.injEq] at hm
  obtain ⟨rfl, rfl, rfl, rfl, rfl, _⟩ := hm
  rfl
 | x :: r, k + 1, h, m, hm => by
  have ih := setL_mem r k (by simpa using h) m (by simpa using hm)
  have e : ∀ (vs xs ys : List Value) (o : Nat), setL (xs ++ ys) (xs.length + o) vs = xs ++ setL ys o vs := by
   intro vs
   induction vs with
   | nil => intro xs ys o; rfl
   | cons v vs ih2 =>
    intro xs ys o
    rw [setL, setL, List.set_append_right _ _ (by omega), Nat.add_sub_cancel_left]
    exact ih2 xs _ (o + 1)
  rw [List.flatMap_cons, List.set_cons_succ, List.flatMap_cons, ← ih, show (k + 1) * 13 + 5 = (memN x).length + (k * 13 + 5) by rw [memN_len]; omega]
  exact e _ _ _ _
theorem fill_cell {w : World} {L B t i : Nat} {v : Value} {us : List Typ} (h : TypsE w L B v (fillS us t i)) {j : Nat} (hj : j < us.length) :
  ∃ g c y C1 n1 l1 C2 l2, v = .slice (some ⟨g, 0, none⟩) us.length c ∧ L ≤ g ∧ g < B ∧ Cells10 w g (0 + j * 10) y (.slice C1 n1 l1) (.slice C2 us[j].mems.length l2) ∧ y.kind = us[j].kind := by
 obtain ⟨g, c, vs, vm, lo, hi, hA, hgL, hgB, hct, hte, -, -, -⟩ := h.at_ (t := j) (by rw [fillS_len]; exact hj)
 rw [fillS_len] at hA
 have hx := fillS_getE us t i j hj (by rw [fillS_len]; exact hj)
 obtain ⟨A5, c5, rfl⟩ := own_form hte.syms
 obtain ⟨A6, c6, rfl⟩ := own_form hte.mems
 have hml : ((fillS us t i)[j]'(by rw [fillS_len]; exact hj)).mems.length = us[j].mems.length := by rw [hx]; show (fillM _ _).length = _; rw [fillM_len]
 have hk : ((fillS us t i)[j]'(by rw [fillS_len]; exact hj)).kind = us[j].kind := by rw [hx]; rfl
 rw [hml] at hct
 rw [Nat.zero_add]
 exact ⟨g, c, _, A5, _, c5, A6, c6, hA, hgL, hgB, hct, hk⟩
theorem fill_at {w : World} {L B t i : Nat} {v : Value} {us : List Typ} (h : TypsE w L B v (fillS us t i)) (ht : t < us.length) (hi : i < us[t].mems.length) :
  ∃ g c gm cm lo, v = .slice (some ⟨g, 0, none⟩) us.length c ∧ w.cell? ⟨g, t * 10 + 6, none⟩ = some (.slice (some ⟨gm, 0, none⟩) us[t].mems.length cm) ∧
   w.ownsRow lo 83 13 (.slice (some ⟨gm, 0, none⟩) us[t].mems.length cm) us[t].mems.length ((fillM us[t].mems i).flatMap memN) ∧ L ≤ lo ∧ lo ≤ gm ∧ gm < w.heap.size ∧
   ∀ w2 : World, (∀ k, k < w.heap.size → k ≠ gm → w2.heap[k]? = w.heap[k]?) → w2.ownsRow lo 83 13 (.slice (some ⟨gm, 0, none⟩) us[t].mems.length cm) us[t].mems.length ((fillM us[t].mems (i + 1)).flatMap memN) → TypsE w2 L B v (fillS us t (i + 1)) := by
 have htf : t < (fillS us t i).length := by rw [fillS_len]; exact ht
 obtain ⟨g, c, vs, vm, lo, hh, hA, hgL, hgB, hct, hte, hlo, hhi, hset⟩ := h.at_ htf
 have hx := fillS_getE us t i t ht htf
 have hfn : fillN us[t] t i t = i := by unfold fillN; rw [if_neg (by omega), if_pos rfl]
 rw [hfn] at hx
 have hfs := fillS_set us t i ht hi htf
 rw [fillS_len] at hA
 have hm := hte.mems
 rw [hx] at hset hm hfs
 have hml : (fillT us[t] i).mems.length = us[t].mems.length := fillM_len _ _
 rw [hml] at hset hm
 obtain ⟨gm, cm, rfl⟩ : ∃ gm cm, vm = .slice (some ⟨gm, 0, none⟩) us[t].mems.length cm := by
  rcases hm.2 with ⟨h1, h2⟩ | ⟨gm, cm, cur, h1, _⟩
  ·
   omega
  exact ⟨gm, cm, h1⟩
 have hlt := hm.lt gm rfl
 refine ⟨g, c, gm, cm, lo, hA, hct.2.2.2.2.2.2.1, hm, hlo, hlt.1, hlt.2, fun w2 hk hown => ?_⟩
 have hl2 : ((fillM us[t].mems i).set i us[t].mems[i]).length = us[t].mems.length := by rw [List.length_set, fillM_len]
 have h9 := hset w2 ((fillM us[t].mems i).set i us[t].mems[i]) hl2 (fun k hkl hne => hk k hkl (fun e => hne (by rw [e]; rfl))) (by rw [hl2, fillM_next _ _ hi]; exact hown)
 rw [hfs] at h9
 exact h9
theorem fill_row {us : List Typ} {t i : Nat} (ht : t < us.length) (hi : i < us[t].mems.length) : setL ((fillM us[t].mems i).flatMap memN) (i * 13 + 5) (valV us[t].mems[i].dflt (.slice none 0 0) (.slice none 0 0) (.slice none 0 0)) = (fillM us[t].mems (i + 1)).flatMap memN := by
 have h := fillM_get us[t].mems i hi
 have hl : i < (fillM us[t].mems i).length := by rw [fillM_len]; exact hi
 rw [List.getElem?_eq_getElem hl] at h
 rw [setL_mem _ i hl us[t].mems[i] (by rw [Option.some.inj h]; rfl), fillM_next _ _ hi]
theorem fill_mem {us : List Typ} {t i : Nat} (ht : t < us.length) (hi : i < us[t].mems.length) (j : Nat) (u : Value) (hu : (memN (unM us[t].mems[i]))[j]? = some u) : ((fillM us[t].mems i).flatMap memN)[i * 13 + j]? = some u := by
 have hl : i < (fillM us[t].mems i).length := by rw [fillM_len]; exact hi
 have hj : j < 13 := by have := (List.getElem?_eq_some_iff.1 hu).1; rwa [memN_len] at this
 rw [flat_get memN_len _ i j hl hj]
 have h := fillM_get us[t].mems i hi
 rw [List.getElem?_eq_getElem hl] at h
 rw [Option.some.inj h]
 exact hu
end Go.Proofs.YtlamhkffnlgofaaGreatDoor

/- Types all of whose parts lie in blocks of a set; tiles that change in part. What slices.Clone computes for symbols, members and roots. No condition. -/
import Derived.Test.YtlamhkffnlgofaaGreatDoorDecO
import Derived.Test.YtlamhkffnlgofaaGreatDoorHAJ
import Derived.Test.YtlamhkffnlgofaaGreatDoorCRelB
import Derived.Lib.ItoaLen
import Derived.Test.YtlamhkffnlgofaaGreatDoorHAG
set_option maxHeartbeats 800000
namespace Go.Proofs.YtlamhkffnlgofaaGreatDoor
open Go.ChangeShapes Go.WideShapes Go.ChangeAt Go.RowKit
theorem nmC_len (c : UInt8) (n : Int) (h : I64 n) : (nmC c n).length ≤ 30 := by
 have := Lib.itoa_length_le n h.1 h.2
 unfold nmC; rw [List.length_cons]; omega
theorem Tiled.set1 {size n : Nat} {xs : List Value} {c : Nat → List Value} (h : Tiled size n xs c) (k j : Nat) (v : Value) (hk : k < n) (hj : j < size) : Tiled size n (xs.set (k * size + j) v) (fun i => if i = k then (c i).set j v else c i) := by
 obtain ⟨h1, h2, h3⟩ := h
 refine ⟨by rw [List.length_set]; exact h1, fun i hi => ?_, fun i hi q u hu => ?_⟩
 ·
  show (if i = k then (c i).set j v else c i).length = size
  split
  ·
   rw [List.length_set]; exact h2 i hi
  exact h2 i hi
 have hkn := tile_lt (size := size) hk
 have hq : q < size := by
  have := (List.getElem?_eq_some_iff.1 hu).1
  dsimp only at this
  split at this
  ·
   rwa [List.length_set, h2 i hi] at this
  rwa [h2 i hi] at this
 dsimp only at hu
 by_cases e : i = k
 ·
  subst e
  rw [if_pos rfl] at hu
  by_cases e2 : q = j
  ·
   subst e2
   rw [List.getElem?_set_self (by rw [h2 i hi]; exact hq)] at hu
   injection hu with hu
   rw [List.getElem?_set_self (by rw [h1]; omega), hu]
  rw [List.getElem?_set_ne (fun h => e2 h.symm)] at hu
  rw [List.getElem?_set_ne (by omega)]
  exact h3 i hi q u hu
 rw [if_neg e] at hu
 have hne : k * size + j ≠ i * size + q := by
  intro he
  rcases Nat.lt_or_ge i k with h4 | h4
  ·
   have := tile_lt (size := size) h4; omega
  have := tile_lt (size := size) (show k < i by omega); omega
 rw [List.getElem?_set_ne hne]
 exact h3 i hi q u hu
theorem Tiled.sub {size n : Nat} (k : Nat) (hk : k < n) : ∀ (vs : List Value) (j : Nat) {xs : List Value} {c : Nat → List Value}, Tiled size n xs c → j + vs.length ≤ size → Tiled size n (setL xs (k * size + j) vs) (fun i => if i = k then setL (c i) j vs else c i)
 | [], j, xs, c, h, _ => by
  have e : (fun i => if i = k then setL (c i) j [] else c i) = c := by funext i; split <;> rfl
  rw [e]; exact h
 | v :: r, j, xs, c, h, hj => by
  have h1 := h.set1 k j v hk (by simp at hj; omega)
  have h2 := Tiled.sub k hk r (j + 1) h1 (by simp at hj; omega)
  have e : (fun i => if i = k then setL (if i = k then (c i).set j v else c i) (j + 1) r else if i = k then (c i).set j v else c i) = fun i => if i = k then setL (c i) j (v :: r) else c i := by
   funext i
   by_cases e : i = k
   ·
    simp only [if_pos e]; rfl
   simp only [if_neg e]
  rw [e] at h2
  exact h2
structure MemP (w : World) (S : Nat → Prop) (m : Mem) (vk vi vr : Value) : Prop where
 ints : I64 m.id ∧ I64 m.ty
 namel : m.name.length ≤ 140737488351232
 dflt : ValP w S m.dflt vk vi vr
def RdMemP (w : World) (S : Nat → Prop) (m : Mem) (cs : List Value) : Prop := ∃ vk vi vr, cs = memV m vk vi vr ∧ MemP w S m vk vi vr
def RdMemsP (w : World) (S : Nat → Prop) (v : Value) (ms : List Mem) : Prop := ∃ c : Nat → List Value, RowP w S 13 v ms.length c ∧ ∀ (i : Nat) (h : i < ms.length), RdMemP w S ms[i] (c i)
structure TypP (w : World) (S : Nat → Prop) (t : Typ) (vs vm : Value) : Prop where
 ints : I64 t.kind ∧ I64 t.low ∧ I64 t.high ∧ I64 t.max ∧ I64 t.key ∧ I64 t.elem
 namel : t.name.length ≤ 140737488351232
 lens : t.syms.length ≤ 140737488351232 ∧ t.mems.length ≤ 140737488351232
 symsin : ∀ r ∈ t.syms, RawIn r
 syms : RdP w S 2 vs t.syms.length (rawsV t.syms)
 mems : RdMemsP w S vm t.mems
section
variable {w w' : World} {S S' : Nat → Prop} {B : Nat} {m : Mem} {t : Typ} {v vk vi vr vs vm : Value} {ms : List Mem} {cs : List Value}
theorem MemP.keep (h : MemP w S m vk vi vr) (hk : ∀ p : Addr, S p.block → w'.cell? p = w.cell? p) (hS : ∀ b, S b → S' b) : MemP w' S' m vk vi vr := ⟨h.ints, h.namel, h.dflt.keep hk hS⟩
theorem RdMemP.keep (h : RdMemP w S m cs) (hk : ∀ p : Addr, S p.block → w'.cell? p = w.cell? p) (hS : ∀ b, S b → S' b) : RdMemP w' S' m cs := by
 obtain ⟨a, b, c, h1, h2⟩ := h
 exact ⟨a, b, c, h1, h2.keep hk hS⟩
theorem RdMemsP.keep (h : RdMemsP w S v ms) (hk : ∀ p : Addr, S p.block → w'.cell? p = w.cell? p) (hS : ∀ b, S b → S' b) : RdMemsP w' S' v ms := by
 obtain ⟨c, h1, h2⟩ := h
 exact ⟨c, h1.keep hk hS, fun i hi => (h2 i hi).keep hk hS⟩
theorem TypP.keep (h : TypP w S t vs vm) (hk : ∀ p : Addr, S p.block → w'.cell? p = w.cell? p) (hS : ∀ b, S b → S' b) : TypP w' S' t vs vm :=
 ⟨h.ints, h.namel, h.lens, h.symsin, h.syms.keep hk hS, h.mems.keep hk hS⟩
theorem MemP.at_ (h : MemP w S m vk vi vr) (hS : ∀ b, S b → b < B) : MemAt w B m vk vi vr := ⟨h.ints, h.namel, h.dflt.at_ hS⟩
theorem RdMemsP.rd (h : RdMemsP w S v ms) (hS : ∀ b, S b → b < B) : RdMems w B v ms := by
 obtain ⟨c, h1, h2⟩ := h
 refine ⟨c, h1.row hS, fun i hi => ?_⟩
 obtain ⟨a, b, c, h3, h4⟩ := h2 i hi
 exact ⟨a, b, c, h3, h4.at_ hS⟩
theorem TypP.at_ (h : TypP w S t vs vm) (hS : ∀ b, S b → b < B) : TypAt w B t vs vm := ⟨h.ints, h.namel, h.lens, h.symsin, h.syms.rd hS, h.mems.rd hS⟩
theorem TypP.forms (h : TypP w S t vs vm) : ∃ A1 c1 A2 c2, vs = .slice A1 t.syms.length c1 ∧ vm = .slice A2 t.mems.length c2 := by
 obtain ⟨_, A1, c1, e1, _⟩ := h.syms
 obtain ⟨_, ⟨A2, c2, e2, _⟩, _⟩ := h.mems
 exact ⟨A1, c1, A2, c2, e1, e2⟩
end
structure MemsRen (w0 : World) (L : Nat) (v : Value) (n k : Nat) (ix : Nat → Nat) (ms : List Mem) (wr : World) : Prop where
 ex : ∃ (c : Nat → List Value) (xs : List Value), wr.ownsRow L 83 13 v n xs ∧ Tiled 13 n xs c ∧
  (∀ (i : Nat) (h : i < ms.length), i < k → RdMemP wr (fun b => L ≤ b ∧ b < wr.heap.size ∧ v.ownBlock ≠ some b) (renM ix ms[i]) (c i)) ∧
  ∀ (i : Nat) (h : i < ms.length), k ≤ i → ∃ vk vi vr, c i = memV ms[i] vk vi vr ∧ MemAt w0 w0.heap.size ms[i] vk vi vr
theorem MemsRen.all {w0 wr : World} {L n : Nat} {v : Value} {ix : Nat → Nat} {ms : List Mem} (h : MemsRen w0 L v n n ix ms wr) (hn : n = ms.length) : RdMemsP wr (fun b => L ≤ b ∧ b < wr.heap.size) v (ms.map (renM ix)) := by
 subst hn
 obtain ⟨c, xs, h1, h2, h3, _⟩ := h.ex
 refine ⟨c, ?_, fun i hi => ?_⟩
 ·
  rw [List.length_map]
  exact (RowP.of_tiled h1 h2).keep (fun _ _ => rfl) (fun b hb => h1.lt b hb)
 rw [List.length_map] at hi
 rw [List.getElem_map]
 exact (h3 i hi hi).keep (fun _ _ => rfl) (fun b hb => ⟨hb.1, hb.2.1⟩)
theorem MemsRen.kept {w0 wr : World} {L n k : Nat} {v : Value} {ix : Nat → Nat} {ms : List Mem} (h : MemsRen w0 L v n k ix ms wr) : Kept (fun wr => MemsRen w0 L v n k ix ms wr) wr L wr.heap.size := by
 refine ⟨h, fun w' hk => ?_, Nat.le_refl _⟩
 obtain ⟨c, xs, h1, h2, h3, h4⟩ := h.ex
 have hsz : wr.heap.size ≤ w'.heap.size ∨ wr.heap.size ≤ L := by
  rcases Nat.lt_or_ge L wr.heap.size with h5 | h5
  ·
   left
   have h6 := hk (wr.heap.size - 1) (by omega) (by omega)
   rcases Nat.lt_or_ge (wr.heap.size - 1) w'.heap.size with h7 | h7
   ·
    omega
   rw [Array.getElem?_eq_none h7, Array.getElem?_eq_getElem (by omega)] at h6; cases h6
  exact .inr h5
 exact ⟨c, xs, own_heap h1 hk, h2, fun i hi hik => (h3 i hi hik).keep (fun p hp => World.cell?_of_block (hk p.block hp.1 hp.2.1)) (fun b hb => ⟨hb.1, by have := hb.1; have := hb.2.1; omega, hb.2.2⟩), h4⟩
def MRow (W : World) (L g n cap k : Nat) (xs cells : List Value) : Prop := W.ownsRow L 83 13 (.slice (some ⟨g, 0, none⟩) n cap) n xs ∧ k < n ∧ cells.length = 13 ∧ ∀ j u, cells[j]? = some u → xs[k * 13 + j]? = some u
section
variable {W : World} {L g n cap k : Nat} {xs cells : List Value}
theorem MRow.c (h : MRow W L g n cap k xs cells) (j : Nat) {u : Value} (hu : cells[j]? = some u) : W.cell? ⟨g, k * 13 + j, none⟩ = some u := by
 obtain ⟨h1, h2, h3, h4⟩ := h
 have hj := (List.getElem?_eq_some_iff.1 hu).1
 have := tile_lt (size := 13) h2
 rw [h1.cellAt (k * 13 + j) (by omega)]
 exact h4 j u hu
theorem MRow.f (h : MRow W L g n cap k xs cells) (j : Nat) : W.frozen? ⟨g, k * 13 + j, none⟩ = false := h.1.frozenAt _
theorem MRow.put (h : MRow W L g n cap k xs cells) (j : Nat) (v : Value) : MRow (W.setCell ⟨g, k * 13 + j, none⟩ v) L g n cap k (xs.set (k * 13 + j) v) (cells.set j v) := by
 obtain ⟨h1, h2, h3, h4⟩ := h
 refine ⟨(h1.stored _ v).1, h2, by rw [List.length_set]; exact h3, fun q u hu => ?_⟩
 by_cases e : q = j
 ·
  subst e
  have hq : q < cells.length := by have := (List.getElem?_eq_some_iff.1 hu).1; rwa [List.length_set] at this
  rw [List.getElem?_set_self hq] at hu
  injection hu with hu
  have := tile_lt (size := 13) h2
  rw [List.getElem?_set_self (by rw [h1.1]; omega), hu]
 rw [List.getElem?_set_ne (fun h => e h.symm)] at hu
 rw [List.getElem?_set_ne (by omega)]
 exact h4 q u hu
theorem MRow.kept (h : MRow W L g n cap k xs cells) : Kept (fun W => MRow W L g n cap k xs cells) W g (g + 1) :=
 ⟨h, fun _ hk => ⟨own_keep h.1 fun b hb => by simp only [Value.ownBlock, Option.some.injEq] at hb; subst hb; exact hk _ (Nat.le_refl _) (by omega), h.2⟩, (h.1.lt g rfl).2⟩
end
def symsC (ss : List Raw) (k : Nat) : List Value := rawsV ((ss.take k).map renS ++ ss.drop k)
theorem rawsV_app (a b : List Raw) : rawsV (a ++ b) = rawsV a ++ rawsV b := List.flatMap_append
theorem symsC_zero (ss : List Raw) : symsC ss 0 = rawsV ss := by simp [symsC]
theorem symsC_all (ss : List Raw) : symsC ss ss.length = rawsV (ss.map renS) := by simp [symsC]
theorem symsC_next (ss : List Raw) (k : Nat) (h : k < ss.length) : (symsC ss k).set (k * 2 + 1) (.string ⟨(nmC 115 ss[k].1).toArray⟩) = symsC ss (k + 1) := by
 have hl : (rawsV ((ss.take k).map renS)).length = k * 2 := by
  show ((((ss.take k).map renS)).flatMap rawV).length = _
  rw [flat_len rawV_len, List.length_map, List.length_take]; rw [Nat.min_eq_left (by omega)]
 unfold symsC
 rw [List.drop_eq_getElem_cons h, rawsV_app, rawsV_app, List.take_succ_eq_append_getElem h, List.map_append, rawsV_app, List.append_assoc]
 rw [List.set_append_right _ _ (by omega), hl, show k * 2 + 1 - k * 2 = 1 by omega]
 rfl
theorem symsC_at (ss : List Raw) (k : Nat) (h : k < ss.length) : (symsC ss k)[k * 2]? = some (.int .i64 ss[k].1) ∧ (symsC ss k)[k * 2 + 1]? = some (.string ⟨ss[k].2.toArray⟩) := by
 have hl : (rawsV ((ss.take k).map renS)).length = k * 2 := by
  show ((((ss.take k).map renS)).flatMap rawV).length = _
  rw [flat_len rawV_len, List.length_map, List.length_take]; rw [Nat.min_eq_left (by omega)]
 unfold symsC
 rw [List.drop_eq_getElem_cons h, rawsV_app]
 constructor
 ·
  rw [List.getElem?_append_right (by omega), hl, show k * 2 - k * 2 = 0 by omega]; rfl
 rw [List.getElem?_append_right (by omega), hl, show k * 2 + 1 - k * 2 = 1 by omega]; rfl
end Go.Proofs.YtlamhkffnlgofaaGreatDoor
namespace Go.Proofs.YtlamhkffnlgofaaGreatDoor
open Go.ChangeShapes Go.WideShapes Go.ChangeAt Go.RowKit
theorem info_symC : (Tryz.prog.info? 105).map (fun i => (i.zero, i.size, i.bytes)) = some (some (.agg #[.int .i64 0, .string ByteArray.empty]), 2, 24) := by kernel_rfl
theorem info_memC : (Tryz.prog.info? 83).map (fun i => (i.zero, i.size, i.bytes)) = some (some (.agg #[.int .i64 0, .string ByteArray.empty, .int .i64 0, .bool false, .bool false, .int .i64 0, .bool false, .int .i64 0, .string ByteArray.empty, .int .i64 0, .slice none 0 0, .slice none 0 0, .slice none 0 0]), 13, 160) := by kernel_rfl
set_option maxRecDepth 100000 in
theorem clonesy_any (n : Nat) (A : Option Addr) (cap : Nat) (xs : List Value) (w : World) (hn : n ≤ 1000000) (hA : A = none → n = 0) (hl : xs.length = n * 2) (hr : ∀ a, A = some a → ∀ j u, xs[j]? = some u → w.cell? (a.add j) = some u) (hlt : ∀ a, A = some a → 0 < n → a.block < w.heap.size) (h1 : ∀ u ∈ xs, u.oneCell' = true) :
  Calls Tryz.prog 104 #[.slice A n cap] w (ClonedV w 105 2 n xs) := by
 have heq := fun (W : World) => Lib.run_eql_slice_nil (P := Tryz.prog) W 68 105 A n cap 0 0 Tryz.underlying68
 cases A with
 | none =>
  obtain rfl := hA rfl
  simp only [Option.isNone_none] at heq
  have hx : xs = [] := by simpa using hl
  subst hx
  clear hr hlt h1
  go_enter Tryz.func104, Tryz.ntmps104
  go_wp2_with fail
  go_ret
  exact ⟨_, rfl, ⟨rfl, .inl ⟨rfl, rfl⟩⟩, Below.refl _ _⟩
 | some a =>
  simp only [Option.isNone_some] at heq
  have hcell : ∀ j u, xs[j]? = some u → (w.alloc (.cells #[] 105)).cell? (a.add j) = some u := by
   intro j u hu
   have h := hr a rfl j u hu
   have hb := World.block_lt_of_cell? _ _ h
   rw [← h]
   exact World.cell?_of_block (Below.heap_alloc w _ _ hb)
  have HR := Lib.hid hcell
  have hown : (w.alloc (.cells #[] 105)).ownsRow w.heap.size 105 2 (.slice (some ⟨w.heap.size, 0, none⟩) 0 0) 0 [] :=
   ⟨rfl, .inr ⟨w.heap.size, 0, #[], rfl, Nat.le_refl _, heap_alloc_new w _, Nat.le_refl _, by simp [maxLen], rfl, rfl⟩⟩
  have h01 := (Below.refl w.heap.size w).alloc (Nat.le_refl _) (.cells #[] 105)
  have Hown := Lib.hid hown
  have H1 := Lib.hid h1
  have HL := Lib.hid hl
  obtain ⟨i0, hi, hz0, hz1, hz2⟩ := info_parts info_symC
  have Hi := Lib.hid hi
  have Hz0 := Lib.hid hz0
  have Hz1 := Lib.hid hz1
  have Hz2 := Lib.hid hz2
  clear hr hcell hown h1 hl hlt hA hi hz0 hz1 hz2
  go_enter Tryz.func104, Tryz.ntmps104
  go_wp2_with (at_builtin; refine wpList_append_own _ rfl _ _ _ rfl w.heap.size 105 i0 _ 2 24 Tryz.underlying68 Hi.out Hz0.out Hz1.out Hz2.out rfl (by decide) _ 0 [] rfl Hown.out a n cap xs rfl HL.out HR.out H1.out (by simp only [maxLen]; omega) (by omega) (by simp) ?_; intro v' w2 hown2 hgrow _)
  rw [Nat.zero_add, List.nil_append] at hown2
  have h02 : Below w.heap.size w w2 := h01.grown hgrow (by simp) (fun k hk => (Hown.out.lt k hk).1)
  have HO := Lib.hid hown2
  clear hown2 hgrow
  go_wp2_with fail
  go_ret
  exact ⟨_, rfl, HO.out, h02⟩
set_option maxRecDepth 100000 in
theorem clonem_any (n : Nat) (A : Option Addr) (cap : Nat) (xs : List Value) (w : World) (hn : n ≤ 1000000) (hA : A = none → n = 0) (hl : xs.length = n * 13) (hr : ∀ a, A = some a → ∀ j u, xs[j]? = some u → w.cell? (a.add j) = some u) (hlt : ∀ a, A = some a → 0 < n → a.block < w.heap.size) (h1 : ∀ u ∈ xs, u.oneCell' = true) :
  Calls Tryz.prog 105 #[.slice A n cap] w (ClonedV w 83 13 n xs) := by
 have heq := fun (W : World) => Lib.run_eql_slice_nil (P := Tryz.prog) W 69 83 A n cap 0 0 Tryz.underlying69
 cases A with
 | none =>
  obtain rfl := hA rfl
  simp only [Option.isNone_none] at heq
  have hx : xs = [] := by simpa using hl
  subst hx
  clear hr hlt h1
  go_enter Tryz.func105, Tryz.ntmps105
  go_wp2_with fail
  go_ret
  exact ⟨_, rfl, ⟨rfl, .inl ⟨rfl, rfl⟩⟩, Below.refl _ _⟩
 | some a =>
  simp only [Option.isNone_some] at heq
  have hcell : ∀ j u, xs[j]? = some u → (w.alloc (.cells #[] 83)).cell? (a.add j) = some u := by
   intro j u hu
   have h := hr a rfl j u hu
   have hb := World.block_lt_of_cell? _ _ h
   rw [← h]
   exact World.cell?_of_block (Below.heap_alloc w _ _ hb)
  have HR := Lib.hid hcell
  have hown : (w.alloc (.cells #[] 83)).ownsRow w.heap.size 83 13 (.slice (some ⟨w.heap.size, 0, none⟩) 0 0) 0 [] :=
   ⟨rfl, .inr ⟨w.heap.size, 0, #[], rfl, Nat.le_refl _, heap_alloc_new w _, Nat.le_refl _, by simp [maxLen], rfl, rfl⟩⟩
  have h01 := (Below.refl w.heap.size w).alloc (Nat.le_refl _) (.cells #[] 83)
  have Hown := Lib.hid hown
  have H1 := Lib.hid h1
  have HL := Lib.hid hl
  obtain ⟨i0, hi, hz0, hz1, hz2⟩ := info_parts info_memC
  have Hi := Lib.hid hi
  have Hz0 := Lib.hid hz0
  have Hz1 := Lib.hid hz1
  have Hz2 := Lib.hid hz2
  clear hr hcell hown h1 hl hlt hA hi hz0 hz1 hz2
  go_enter Tryz.func105, Tryz.ntmps105
  go_wp2_with (at_builtin; refine wpList_append_own _ rfl _ _ _ rfl w.heap.size 83 i0 _ 13 160 Tryz.underlying69 Hi.out Hz0.out Hz1.out Hz2.out rfl (by decide) _ 0 [] rfl Hown.out a n cap xs rfl HL.out HR.out H1.out (by simp only [maxLen]; omega) (by omega) (by simp) ?_; intro v' w2 hown2 hgrow _)
  rw [Nat.zero_add, List.nil_append] at hown2
  have h02 : Below w.heap.size w w2 := h01.grown hgrow (by simp) (fun k hk => (Hown.out.lt k hk).1)
  have HO := Lib.hid hown2
  clear hown2 hgrow
  go_wp2_with fail
  go_ret
  exact ⟨_, rfl, HO.out, h02⟩
end Go.Proofs.YtlamhkffnlgofaaGreatDoor

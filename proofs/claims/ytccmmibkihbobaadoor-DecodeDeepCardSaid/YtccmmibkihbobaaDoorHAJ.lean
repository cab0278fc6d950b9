/- The parts of a payload: next, part, Arm, Items, Fields. Fields of a payload. What decoding may change: the reader's block, rows of ints above it, new blocks. fail. The contract of what decodes a payload; a row cut by one. No condition. -/
import Derived.Test.YtccmmibkihbobaaDoorHAI
import Derived.Test.YtccmmibkihbobaaDoorHAF
set_option maxHeartbeats 1000000
namespace Go.Proofs.YtccmmibkihbobaaDoor
open Go.ChangeShapes Go.WideShapes Go.ChangeAt Go.RowKit
theorem nextP_u64 {l : List UInt8} {n : Nat} {r : List UInt8} (h : nextP l = some (n, r)) : U64 n ∧ r.length < l.length := by
 obtain ⟨k, h1, h2, h3, h4, _⟩ := nextP_some h
 exact ⟨h4, by rw [h3, List.length_drop]; omega⟩
theorem next_any (l : List UInt8) (w : World) :
  Calls Tryd.prog 81 #[.string ⟨l.toArray⟩] w fun e w' => (match nextP l with
   | some (n, r) => e = .returned (.tuple #[.int .u64 n, .string ⟨r.toArray⟩, .bool true])
   | none => e = .returned (.tuple #[.int .u64 0, .string ByteArray.empty, .bool false])) ∧ Below w.heap.size w w' := by
 have HG := Lib.hid (fun W => get_any l W)
 obtain ⟨q, hq⟩ : ∃ q, nextP l = q := ⟨_, rfl⟩
 rw [hq]
 cases q with
 | some p =>
  obtain ⟨n, r⟩ := p
  obtain ⟨k, h1, h2, rfl, h4, h5⟩ := nextP_some hq
  rw [h5] at HG
  have hcut : ({ data := l.toArray } : ByteArray).extract k l.length = { data := (l.drop k).toArray } := str_from _ _ _ rfl
  go_enter Tryd.func81, Tryd.ntmps81
  go_wp2_with fail
  refine (HG.out w).mono ?_
  rintro e w1 ⟨rfl, rfl⟩
  go_wp2_with fail
  go_quiet (fail)
  go_wp2_with fail
  go_ret3
  exact ⟨rfl, below_drewN (Below.refl _ _) _⟩
 | none =>
  have h0 := nextP_none hq
  generalize getF 0 0 l = g at *
  obtain ⟨n, k, e⟩ := g
  have he2 : ((e : Int) != 0) = true := by rw [bne_iff_ne]; simp only at h0; omega
  go_enter Tryd.func81, Tryd.ntmps81
  go_wp2_with fail
  refine (HG.out w).mono ?_
  rintro e w1 ⟨rfl, rfl⟩
  go_wp2_with fail
  go_ret3
  exact ⟨rfl, Below.refl _ _⟩
theorem part_any (l : List UInt8) (hlen : l.length ≤ 1000000) (w : World) :
  Calls Tryd.prog 82 #[.string ⟨l.toArray⟩] w fun e w' => (match partP l with
   | some (p, r) => e = .returned (.tuple #[.string ⟨p.toArray⟩, .string ⟨r.toArray⟩, .bool true])
   | none => e = .returned (.tuple #[.string ByteArray.empty, .string ByteArray.empty, .bool false])) ∧ Below w.heap.size w w' := by
 have HG := Lib.hid (fun W => next_any l W)
 obtain ⟨q, hq⟩ : ∃ q, partP l = q := ⟨_, rfl⟩
 rw [hq]
 unfold partP at hq
 generalize hn : nextP l = g at *
 cases g with
 | none =>
  simp only at hq; subst hq
  go_enter Tryd.func82, Tryd.ntmps82
  go_wp2_with fail
  refine (HG.out w).mono ?_
  rintro e w1 ⟨rfl, hb1⟩
  go_wp2_with fail
  go_ret3
  exact ⟨rfl, hb1⟩
 | some g =>
  obtain ⟨n, r⟩ := g
  obtain ⟨hu, hr⟩ := nextP_u64 hn
  simp only at hq
  have hw : IntKind.u64.wrap (r.length : Int) = r.length := by rw [IntKind.wrap_u64]; omega
  by_cases h1 : n ≤ r.length
  ·
   rw [if_pos h1] at hq; subst hq
   have hle : ¬ ((r.length : Int) < n) := by omega
   have hc1 : ({ data := r.toArray } : ByteArray).extract 0 n = { data := (r.take n).toArray } := by rw [str_cut, List.drop_zero]
   have hc2 : ({ data := r.toArray } : ByteArray).extract n r.length = { data := (r.drop n).toArray } := str_from _ _ _ rfl
   go_enter Tryd.func82, Tryd.ntmps82
   go_wp2_with fail
   refine (HG.out w).mono ?_
   rintro e w1 ⟨rfl, hb1⟩
   go_wp2_with fail
   go_quiet (fail)
   go_wp2_with fail
   go_ret3
   exact ⟨rfl, below_drewN hb1 _⟩
  rw [if_neg h1] at hq; subst hq
  have hle : ((r.length : Int) < n) := by omega
  go_enter Tryd.func82, Tryd.ntmps82
  go_wp2_with fail
  refine (HG.out w).mono ?_
  rintro e w1 ⟨rfl, hb1⟩
  go_wp2_with fail
  go_ret3
  exact ⟨rfl, hb1⟩
theorem arm_any (l : List UInt8) (w : World) :
  Calls Tryd.prog 61 #[.string ⟨l.toArray⟩] w fun e w' => (match armP l with
   | some (n, r) => e = .returned (.tuple #[.int .i64 n, .string ⟨r.toArray⟩, .int .i64 0])
   | none => e = .returned (.tuple #[.int .i64 0, .string ByteArray.empty, .int .i64 12])) ∧ Below w.heap.size w w' := by
 have HG := Lib.hid (fun W => next_any l W)
 obtain ⟨q, hq⟩ : ∃ q, armP l = q := ⟨_, rfl⟩
 rw [hq]
 unfold armP at hq
 generalize hn : nextP l = g at *
 cases g with
 | none =>
  simp only at hq; subst hq
  go_enter Tryd.func61, Tryd.ntmps61
  go_wp2_with fail
  refine (HG.out w).mono ?_
  rintro e w1 ⟨rfl, hb1⟩
  go_wp2_with fail
  go_ret3
  exact ⟨rfl, hb1⟩
 | some g =>
  obtain ⟨n, r⟩ := g
  obtain ⟨hu, hr⟩ := nextP_u64 hn
  simp only at hq
  by_cases h1 : n < 1 ∨ 1000 < n
  ·
   rw [if_pos h1] at hq; subst hq
   by_cases h0 : (n : Int) < 1
   ·
    go_enter Tryd.func61, Tryd.ntmps61
    go_wp2_with fail
    refine (HG.out w).mono ?_
    rintro e w1 ⟨rfl, hb1⟩
    go_wp2_with fail
    go_ret3
    exact ⟨rfl, hb1⟩
   have h3 : (1000 : Int) < n := by omega
   go_enter Tryd.func61, Tryd.ntmps61
   go_wp2_with fail
   refine (HG.out w).mono ?_
   rintro e w1 ⟨rfl, hb1⟩
   go_wp2_with fail
   go_ret3
   exact ⟨rfl, hb1⟩
  rw [if_neg h1] at hq; subst hq
  have h0 : ¬ (n : Int) < 1 := by omega
  have h3 : ¬ (1000 : Int) < n := by omega
  have hw : IntKind.i64.wrap (n : Int) = n := by rw [IntKind.wrap_i64]; omega
  go_enter Tryd.func61, Tryd.ntmps61
  go_wp2_with fail
  refine (HG.out w).mono ?_
  rintro e w1 ⟨rfl, hb1⟩
  go_wp2_with fail
  go_ret3
  exact ⟨rfl, hb1⟩
def SB (l : List UInt8) : Value := .string ⟨l.toArray⟩
def strLen' : Value → Nat
 | .string b => b.size
 | _ => 0
theorem inf_str : (Tryd.prog.info? 9).map (fun i => (i.zero, i.size, i.bytes)) = some (some (.string ByteArray.empty), 1, 16) := by kernel_rfl
theorem itemsF_nil (f : Nat) (acc : List (List UInt8)) : itemsF f [] acc = some acc := by cases f <;> rfl
def ItemsPost (w : World) (n : Nat) : Option (List (List UInt8)) → Ending → World → Prop
 | some I, e, w' => ∃ v, e = .returned (.tuple #[v, .int .i64 0]) ∧ I.length ≤ n ∧ w'.ownsRow w.heap.size 9 1 v I.length (I.map SB) ∧ Below w.heap.size w w'
 | none, e, w' => e = .returned (.tuple #[.slice none 0 0, .int .i64 12]) ∧ Below w.heap.size w w'
set_option maxRecDepth 100000 in
theorem items_any (L : List UInt8) (hlen : L.length ≤ 1000000) (w : World) :
  Calls Tryd.prog 62 #[.string ⟨L.toArray⟩] w (ItemsPost w L.length (itemsP L)) := by
 obtain ⟨I, hI⟩ : ∃ I, itemsP L = I := ⟨_, rfl⟩
 rw [hI]
 go_enter Tryd.func62, Tryd.ntmps62
 go_wp2
 go_loopw [4, 5] (fun v s wr => ∃ f l acc, l.length ≤ f ∧ l.length + acc.length ≤ L.length ∧ s = .string ⟨l.toArray⟩ ∧ I = itemsF f l acc ∧ wr.ownsRow w.heap.size 9 1 v acc.length (acc.map SB) ∧ Below w.heap.size w wr)
  (fun _ s _ => strLen' s)
 case atStart => exact ⟨L.length, L, [], by omega, by simp, rfl, hI.symm, World.ownsRow_nil _ _ _ _, Below.refl _ _⟩
 case round =>
  obtain ⟨f, l, acc, hf, hla, rfl, hp, hown, hb⟩ := hrel
  have Hp := Lib.hid hp
  clear hp
  rcases l with _ | ⟨b, r⟩
  ·
   rw [itemsF_nil] at Hp
   go_wp2
   go_ret2
   rw [Hp.out]
   exact ⟨u4, rfl, by simpa using hla, hown, hb⟩
  obtain ⟨f, rfl⟩ : ∃ g, f = g + 1 := ⟨f - 1, by simp only [List.length_cons] at hf; omega⟩
  rw [itemsF, if_neg (by simp)] at Hp
  have hpl := hla
  have hpart := part_any (b :: r) (by omega) wr
  have hsz := @partP_some (b :: r)
  generalize partP (b :: r) = g at *
  cases g with
  | none =>
   simp only at Hp
   have Hpart := Lib.hid hpart
   clear hpart hsz
   go_wp2_with (go_at_call 82; refine Hpart.out.mono ?_; rintro e w1 ⟨rfl, hb1⟩)
   go_ret2
   rw [Hp.out]
   exact ⟨rfl, hb.trans (hb1.mono hb.size)⟩
  | some g =>
   obtain ⟨p, q⟩ := g
   have hsz := hsz rfl
   simp only at Hp
   have Hpart := Lib.hid hpart
   clear hpart
   go_wp2_with first
    | (go_at_call 82; refine Hpart.out.mono ?_; rintro e w1 ⟨rfl, hb1⟩)
    | (at_builtin; refine wpList_append_one rfl _ _ _ rfl w.heap.size 9 _ 1 16 Tryd.underlying52 inf_str rfl (by decide) _ acc.length (acc.map SB) rfl (own_below hown hb1) [_] _ 1 rfl rfl (by simp [Value.oneCell']) (by omega) (by omega) (Nat.le_trans hb.size hb1.size) ?_; intro v' w2 hown2 hb2)
   go_roundw
   case rel =>
    refine ⟨f, q, acc ++ [p], by omega, by simp only [List.length_append, List.length_cons, List.length_nil]; omega, rfl, Hp.out, ?_, hb.trans ((hb1.mono hb.size).trans hb2)⟩
    rw [List.map_append, List.length_append]
    exact hown2
   case measure =>
    simp only [strLen', ByteArray.size, List.size_toArray]; omega
end Go.Proofs.YtccmmibkihbobaaDoor
namespace Go.Proofs.YtccmmibkihbobaaDoor
open Go.ChangeShapes Go.WideShapes Go.ChangeAt Go.RowKit
def fldC (f : Fld) : List Value := [.int .i64 f.id, .bool f.crit, .string ⟨f.data.toArray⟩]
def fldsV (l : List Fld) : List Value := l.flatMap fldC
theorem fldsV_len (l : List Fld) : (fldsV l).length = l.length * 3 := by
 induction l with
 | nil => rfl
 | cons f r ih => simp only [fldsV, List.flatMap_cons, List.length_append, List.length_cons] at ih ⊢; rw [ih]; simp [fldC]; omega
theorem fldsV_add (l : List Fld) (f : Fld) : fldsV (l ++ [f]) = fldsV l ++ fldC f := by simp [fldsV]
theorem inf_fld : (Tryd.prog.info? 129).map (fun i => (i.zero, i.size, i.bytes)) = some (some (.agg #[.int .i64 0, .bool false, .string ByteArray.empty]), 3, 32) := by kernel_rfl
theorem fieldsF_nil (f n : Nat) (acc : List Fld) : fieldsF f [] n acc = some acc := by cases f <;> rfl
def FieldsPost (w : World) (n : Nat) : Option (List Fld) → Ending → World → Prop
 | some I, e, w' => ∃ v, e = .returned (.tuple #[v, .int .i64 0]) ∧ I.length ≤ n ∧ w'.ownsRow w.heap.size 129 3 v I.length (fldsV I) ∧ Below w.heap.size w w'
 | none, e, w' => e = .returned (.tuple #[.slice none 0 0, .int .i64 12]) ∧ Below w.heap.size w w'
set_option maxRecDepth 100000 in
theorem fields_any (L : List UInt8) (hlen : L.length ≤ 1000000) (w : World) :
  Calls Tryd.prog 64 #[.string ⟨L.toArray⟩] w (FieldsPost w L.length (fieldsP L)) := by
 obtain ⟨I, hI⟩ : ∃ I, fieldsP L = I := ⟨_, rfl⟩
 rw [hI]
 go_enter Tryd.func64, Tryd.ntmps64
 go_wp2
 go_loopw [4, 5, 6] (fun v u s wr => ∃ f l last acc, u = .int .u64 ((last : Nat) : Int) ∧ last ≤ 1000 ∧ l.length ≤ f ∧ l.length + acc.length ≤ L.length ∧ s = .string ⟨l.toArray⟩ ∧ I = fieldsF f l last acc ∧ wr.ownsRow w.heap.size 129 3 v acc.length (fldsV acc) ∧ Below w.heap.size w wr)
  (fun _ _ s _ => strLen' s)
 case atStart => exact ⟨L.length, L, 0, [], rfl, by omega, by omega, by simp, rfl, hI.symm, World.ownsRow_nil _ _ _ _, Below.refl _ _⟩
 case round =>
  obtain ⟨f, l, last, acc, rfl, hlast, hf, hla, rfl, hp, hown, hb⟩ := hrel
  have Hp := Lib.hid hp
  clear hp
  rcases l with _ | ⟨b, r⟩
  ·
   rw [fieldsF_nil] at Hp
   go_wp2
   go_ret2
   rw [Hp.out]
   exact ⟨u4, rfl, by simpa using hla, hown, hb⟩
  obtain ⟨f, rfl⟩ : ∃ g, f = g + 1 := ⟨f - 1, by simp only [List.length_cons] at hf; omega⟩
  rw [fieldsF, if_neg (by simp)] at Hp
  have hnext := fun W => next_any (b :: r) W
  have hsz := @nextP_u64 (b :: r)
  generalize nextP (b :: r) = g at *
  cases g with
  | none =>
   simp only at Hp
   have Hnext := Lib.hid hnext
   clear hnext hsz
   go_wp2_with (go_at_call 81; refine (Hnext.out _).mono ?_; rintro e w1 ⟨rfl, hb1⟩)
   go_ret2
   rw [Hp.out]
   exact ⟨rfl, hb.trans (hb1.mono hb.size)⟩
  | some g =>
   obtain ⟨h, q⟩ := g
   obtain ⟨hu, hsz⟩ := hsz rfl
   have Hnext := Lib.hid hnext
   clear hnext
   unfold U64 at hu
   have hw0 : IntKind.u64.wrap ((h : Int) / 2) = (h : Int) / 2 := by rw [IntKind.wrap_u64]; omega
   by_cases hc : h / 2 ≤ last ∨ 1000 < h / 2
   ·
    simp only [if_pos hc] at Hp
    by_cases h0 : (h : Int) / 2 ≤ last
    ·
     go_wp2_with (go_at_call 81; refine (Hnext.out _).mono ?_; rintro e w1 ⟨rfl, hb1⟩)
     go_ret2
     rw [Hp.out]
     exact ⟨rfl, hb.trans (hb1.mono hb.size)⟩
    have h3 : (1000 : Int) < (h : Int) / 2 := by omega
    go_wp2_with (go_at_call 81; refine (Hnext.out _).mono ?_; rintro e w1 ⟨rfl, hb1⟩)
    go_ret2
    rw [Hp.out]
    exact ⟨rfl, hb.trans (hb1.mono hb.size)⟩
   simp only [if_neg hc] at Hp
   have h0 : ¬ (h : Int) / 2 ≤ last := by omega
   have h3 : ¬ (1000 : Int) < (h : Int) / 2 := by omega
   have hw1 : IntKind.i64.wrap ((h : Int) / 2) = (h : Int) / 2 := by rw [IntKind.wrap_i64]; omega
   have hpart := fun W => part_any q (by omega) W
   have hqz := @partP_some q
   generalize partP q = g at *
   cases g with
   | none =>
    simp only at Hp
    have Hpart := Lib.hid hpart
    clear hpart hqz
    go_wp2_with first
     | (go_at_call 81; refine (Hnext.out _).mono ?_; rintro e w1 ⟨rfl, hb1⟩)
     | (go_at_call 82; refine (Hpart.out _).mono ?_; rintro e w2 ⟨rfl, hb2⟩)
    go_ret2
    rw [Hp.out]
    exact ⟨rfl, hb.trans ((hb1.mono hb.size).trans (hb2.mono (Nat.le_trans hb.size hb1.size)))⟩
   | some g =>
    obtain ⟨p, q'⟩ := g
    have hqz := hqz rfl
    simp only at Hp
    have Hpart := Lib.hid hpart
    clear hpart
    go_wp2_with first
     | (go_at_call 81; refine (Hnext.out _).mono ?_; rintro e w1 ⟨rfl, hb1⟩)
     | (go_at_call 82; refine (Hpart.out _).mono ?_; rintro e w2 ⟨rfl, hb2⟩; have hb12 := hb.trans ((hb1.mono hb.size).trans (hb2.mono (Nat.le_trans hb.size hb1.size))); have hown1 := own_below (own_below hown hb1) hb2; have hs12 := hb12.size)
     | (at_builtin; refine wpList_append_one rfl _ _ _ rfl w.heap.size 129 _ 3 32 Tryd.underlying124 inf_fld rfl (by decide) _ acc.length (fldsV acc) rfl hown1 [_, _, _] _ 1 rfl rfl (by simp [Value.oneCell']) (by omega) (by omega) hs12 ?_; intro v' w3 hown2 hb3)
    go_roundw
    case rel =>
     refine ⟨f, q', h / 2, acc ++ [⟨h / 2, decide (h % 2 = 1), p⟩], by simp, by omega, by omega, by simp only [List.length_append, List.length_cons, List.length_nil] at *; omega, rfl, Hp.out, ?_, hb12.trans hb3⟩
     rw [fldsV_add, List.length_append]
     have e : decide (h % 2 = 1) = ((h : Int) % 2 == 1) := by
      rw [Bool.eq_iff_iff, decide_eq_true_iff, beq_iff_eq]; omega
     simp only [fldC, e]
     exact hown2
    case measure =>
     simp only [strLen', ByteArray.size, List.size_toArray]; omega
end Go.Proofs.YtccmmibkihbobaaDoor
namespace Go.Proofs.YtccmmibkihbobaaDoor
open Go.ChangeShapes Go.WideShapes Go.ChangeAt Go.RowKit
def NotInt (w : World) (b : Nat) : Prop := ∀ c f, w.heap[b]? ≠ some (.cells c 3 f)
structure KeepT (w : World) (gr : Nat) (w' : World) : Prop where
 low : Below gr w w'
 block : ∀ b, gr < b → b < w.heap.size → NotInt w b → w'.heap[b]? = w.heap[b]?
section
variable {w w1 w' : World} {gr : Nat}
theorem KeepT.refl (w : World) (gr : Nat) : KeepT w gr w := ⟨Below.refl _ _, fun _ _ _ _ => rfl⟩
theorem KeepT.size (h : KeepT w gr w') : w.heap.size ≤ w'.heap.size := h.low.size
theorem KeepT.notInt (h : KeepT w gr w') {b : Nat} (h1 : gr < b) (h2 : b < w.heap.size) (h3 : NotInt w b) : NotInt w' b := fun c f e => h3 c f (by rw [← h.block b h1 h2 h3]; exact e)
theorem KeepT.trans (h : KeepT w gr w1) (h' : KeepT w1 gr w') : KeepT w gr w' :=
 ⟨h.low.trans h'.low, fun b h1 h2 h3 => (h'.block b h1 (Nat.lt_of_lt_of_le h2 h.size) (h.notInt h1 h2 h3)).trans (h.block b h1 h2 h3)⟩
theorem KeepT.of_below (h : Below w.heap.size w w') (hg : gr ≤ w.heap.size) : KeepT w gr w' := ⟨h.mono hg, fun b _ h2 _ => h.block b h2⟩
theorem KeepT.setCell (w : World) (gr i : Nat) (v : Value) : KeepT w gr (w.setCell ⟨gr, i, none⟩ v) :=
 ⟨(Below.refl gr w).setCell (Nat.le_refl gr) v, fun b h1 _ _ => Below.heap_setCell w _ v b (by show b ≠ gr; omega)⟩
theorem KeepT.grown {base n : Nat} {v : Value} {xs : List Value} (hg : w.grownBy w' v.ownBlock) (ho : w.ownsRow base 3 1 v n xs) (hb : gr < base) (hs : gr ≤ w.heap.size) : KeepT w gr w' := by
 have hlt := ho.lt
 refine ⟨(Below.refl gr w).grown hg hs fun k hk => by have := hlt k hk; omega, fun b _ h2 h3 => hg.block b h2 fun e => ?_⟩
 rcases ho.2 with ⟨rfl, _⟩ | ⟨g, cap, cur, rfl, _, hh, _⟩
 ·
  simp [Value.ownBlock] at e
 simp only [Value.ownBlock, Option.some.injEq] at e
 subst e
 exact h3 _ _ hh
end
def NewT (w w' : World) (b : Nat) : Prop := w.heap.size ≤ b ∧ b < w'.heap.size ∧ NotInt w' b
theorem NewT.keep {w w1 w2 : World} {gr : Nat} (hg : gr < w.heap.size) (h : KeepT w1 gr w2) {b : Nat} (hb : NewT w w1 b) : w2.heap[b]? = w1.heap[b]? ∧ NewT w w2 b :=
 ⟨h.block b (by have := hb.1; omega) hb.2.1 hb.2.2, hb.1, Nat.lt_of_lt_of_le hb.2.1 h.size, h.notInt (by have := hb.1; omega) hb.2.1 hb.2.2⟩
theorem NewT.later {w0 w w' : World} (hs : w0.heap.size ≤ w.heap.size) {b : Nat} (hb : NewT w w' b) : NewT w0 w' b := ⟨Nat.le_trans hs hb.1, hb.2⟩
def V64i (n : Int) : Value := .int .i64 n
structure RdrAt (w : World) (gr : Nat) (tv fp : Value) (fn : Int) (path : List Int) : Prop where
 row : ∃ pv, Has w gr 78 #[tv, pv, fp, .int .i64 fn] ∧ w.ownsRow (gr + 1) 3 1 pv path.length (path.map V64i)
end Go.Proofs.YtccmmibkihbobaaDoor
namespace Go.Proofs.YtccmmibkihbobaaDoor
open Go.ChangeShapes Go.WideShapes Go.ChangeAt Go.RowKit
theorem inf_failure : (Tryd.prog.info? 26).map (·.size) = some 2 := by kernel_rfl
theorem own_clone {w : World} {base n : Nat} {pv : Value} {xs : List Value} (h : w.ownsRow base 3 1 pv n xs) (hn : n ≤ 1000000) (h1 : ∀ u ∈ xs, u.oneCell' = true) :
  Calls Tryd.prog 6 #[pv] w (ClonedV w 3 1 n xs) := by
 have hrd := Rd.of_own h
 obtain ⟨A, c, rfl, hc⟩ := hrd.form
 refine clonei_any n A c xs w hn ?_ h.1 ?_ ?_ h1
 ·
  rintro rfl
  rcases h.2 with ⟨_, h2⟩ | ⟨_, _, _, h2, _⟩
  ·
   exact h2
  cases h2
 ·
  rintro a rfl j u hu
  rcases h.2 with ⟨h2, _⟩ | ⟨g, cap, cur, h2, _⟩
  ·
   cases h2
  cases h2; exact h.cells (g := g) rfl j u hu
 rintro a rfl hp
 exact (h.lt a.block rfl).2
theorem own_baseD {w : World} {base base' n size : Nat} {e : TypeId} {v : Value} {ys : List Value} (h : w.ownsRow base e size v n ys) (hb : base' ≤ base) : w.ownsRow base' e size v n ys := by
 refine ⟨h.1, ?_⟩
 rcases h.2 with h2 | ⟨g, cap, cur, h3, h4, h5⟩
 ·
  exact .inl h2
 exact .inr ⟨g, cap, cur, h3, Nat.le_trans hb h4, h5⟩
theorem own_rdr {w : World} {gr base n size : Nat} {e : TypeId} {v : Value} {ys : List Value} (h : w.ownsRow base e size v n ys) (hb : gr < base) (i : Nat) (u : Value) : (w.setCell ⟨gr, i, none⟩ u).ownsRow base e size v n ys :=
 own_keep h fun k hk => Below.heap_setCell w _ u k (by have := (h.lt k hk).1; show k ≠ gr; omega)
set_option maxRecDepth 100000 in
theorem fail_any (gr : Nat) (tv fp : Value) (fn : Int) (path : List Int) (n : Int) (w : World) (hp : path.length ≤ 1000) (hR : RdrAt w gr tv fp fn path) :
  Calls Tryd.prog 39 #[.pointer (some ⟨gr, 0, none⟩), .int .i64 n] w fun e w' =>
   e = .returned (.tuple #[.agg #[.int .i64 0, .bool false, .int .i64 0, .string ⟨#[]⟩, .int .i64 0, .slice none 0 0, .slice none 0 0, .slice none 0 0], .bool false]) ∧
   ∃ fp', RdrAt w' gr tv fp' n path ∧ w'.ownsRow (gr + 1) 3 1 fp' path.length (path.map V64i) ∧ KeepT w gr w' := by
 obtain ⟨pv, hrow, hown⟩ := hR.row
 have hgr := hrow.here
 have HO := Lib.hid hown
 clear hR hown
 replace hrow := Lib.hid hrow
 go_enter Tryd.func39, Tryd.ntmps39
 go_upto_region 1 with fail
 obtain ⟨wd2, hE3⟩ : ∃ ww, ww = w.alloc (.cells #[.int .i64 0, .bool false, .int .i64 0, .string ⟨#[]⟩, .int .i64 0, .slice none 0 0, .slice none 0 0, .slice none 0 0] 45) := ⟨_, rfl⟩
 rw [← hE3]
 have hb1 := aB hE3
 have Z := aN hE3
 clear hE3
 replace hrow := dB hrow hb1
 have hw4 := hb1
 clear hb1
 have chrow_0 : wd2.cell? ⟨gr, 0, none⟩ = some (tv) := hrow.out.cell 0
 have chrow_1 : wd2.cell? ⟨gr, 1, none⟩ = some (pv) := hrow.out.cell 1
 have HZ2 := Lib.hid Z.out.here
 have hown1 := own_below HO.out hw4
 have HC := Lib.hid (own_clone hown1 (by omega) (by intro u hu; obtain ⟨z, _, rfl⟩ := List.mem_map.1 hu; rfl))
 clear hown1
 go_wp2_with fail
 clear chrow_0 chrow_1
 ((with_reducible refine (HC.out).mono ?_); rintro e wd5 ⟨fp', rfl, hcl, hb6⟩)
 replace hrow := dB hrow hb6
 replace Z := dB Z hb6
 replace hw4 := dT hw4 hb6
 clear hb6
 obtain ⟨A1, c1, rfl, hcc⟩ := (Rd.of_own hcl).form
 have HL := Lib.hid hcl
 clear hcl HC
 have chrow_0 : wd5.cell? ⟨gr, 0, none⟩ = some (tv) := hrow.out.cell 0
 have chrow_1 : wd5.cell? ⟨gr, 1, none⟩ = some (pv) := hrow.out.cell 1
 have chrow_2 : wd5.cell? ⟨gr, 2, none⟩ = some (fp) := hrow.out.cell 2
 have chrow_3 : wd5.cell? ⟨gr, 3, none⟩ = some (.int .i64 fn) := hrow.out.cell 3
 have fhrow_2 := hrow.out.free 2
 have fhrow_3 := hrow.out.free 3
 go_upto_region 2 with fail
 have K5 : KeepT w gr wd5 := KeepT.of_below hw4 (Nat.le_of_lt hgr)
 have O5 := own_below HO.out hw4
 have hgz : gr ≠ w.heap.size := by omega
 have hz2 : w.heap.size < wd2.heap.size := HZ2.out
 obtain ⟨w6, hE⟩ : ∃ ww, ww = (wd5.setCell ⟨gr, 2, none⟩ (.slice A1 path.length c1)).setCell ⟨gr, 3, none⟩ (.int .i64 n) := ⟨_, rfl⟩
 rw [← hE]
 have K6 : KeepT w gr w6 := hE ▸ (K5.trans (KeepT.setCell _ _ _ _)).trans (KeepT.setCell _ _ _ _)
 have O6 := own_rdr (own_rdr O5 (Nat.lt_succ_self gr) 2 (.slice A1 path.length c1)) (Nat.lt_succ_self gr) 3 (.int .i64 n)
 have F6 := own_rdr (own_rdr HL.out (show gr < wd2.heap.size by omega) 2 (.slice A1 path.length c1)) (show gr < wd2.heap.size by omega) 3 (.int .i64 n)
 rw [← hE] at O6 F6
 have Z6 := dF (dF Z rfl (Ne.symm hgz)) hE (Ne.symm hgz)
 have R6 : Hid (Has w6 gr 78 #[tv, pv, .slice A1 path.length c1, .int .i64 n]) := Lib.hid (by simpa using dS (Lib.hid (dS hrow rfl)) hE)
 clear hE hrow Z
 go_wp2_with (refine wpList_store_row rfl 45 _ _ rfl w.heap.size _ rfl rfl 45 _ Z6.out (by kernel_rfl) rfl (by simp [Value.oneCell']) ?_)
 obtain ⟨w7, hE7⟩ : ∃ ww, ww = w6.setRow w.heap.size #[.int .i64 0, .bool false, .int .i64 0, .string ⟨#[]⟩, .int .i64 0, .slice none 0 0, .slice none 0 0, .slice none 0 0] := ⟨_, rfl⟩
 rw [← hE7]
 have Z7 := dO Z6 hE7
 have R7 := dR R6 hE7 hgz
 have hsz : w6.heap.size ≤ w7.heap.size := by rw [hE7]; simp [World.setRow]
 have hot : ∀ k, k ≠ w.heap.size → w7.heap[k]? = w6.heap[k]? := fun k hk => by rw [hE7]; exact setRow_other _ _ _ _ hk
 have K7 : KeepT w gr w7 := ⟨⟨by rw [hE7]; exact K6.low.os, by rw [hE7]; exact K6.low.tape, by rw [hE7]; exact K6.low.output, Nat.le_trans K6.size hsz, fun k hk => (hot k (by omega)).trans (K6.low.block k hk)⟩, fun b h1 h2 h3 => (hot b (by omega)).trans (K6.block b h1 h2 h3)⟩
 have O7 := own_keep (w' := w7) O6 fun k hk => hot k (by have := HO.out.lt k hk; omega)
 have F7 := own_keep (w' := w7) F6 fun k hk => hot k (by have := F6.lt k hk; omega)
 clear hE7
 have z0 := Z7.out.cell 0
 have z1 := Z7.out.cell 1
 have z2 := Z7.out.cell 2
 have z3 := Z7.out.cell 3
 have z4 := Z7.out.cell 4
 have z5 := Z7.out.cell 5
 have z6 := Z7.out.cell 6
 have z7 := Z7.out.cell 7
 simp only [List.getElem?_toArray, List.getElem?_cons_zero, List.getElem?_cons_succ] at z0 z1 z2 z3 z4 z5 z6 z7
 exact bodyPost_ret (v := .tuple #[.agg #[.int .i64 0, .bool false, .int .i64 0, .string ⟨#[]⟩, .int .i64 0, .slice none 0 0, .slice none 0 0, .slice none 0 0], .bool false]) (by simp [results, Tryd.results39, go_sem, z0, z1, z2, z3, z4, z5, z6, z7]) rfl ⟨rfl, _, ⟨pv, R7.out, O7⟩, own_baseD F7 (by omega), K7⟩
end Go.Proofs.YtccmmibkihbobaaDoor
namespace Go.Proofs.YtccmmibkihbobaaDoor
open Go.ChangeShapes Go.WideShapes Go.ChangeAt Go.RowKit
theorem own_cut {w : World} {base n : Nat} {e : TypeId} {v u : Value} {xs : List Value} (h : w.ownsRow base e 1 v (n + 1) (xs ++ [u])) (hl : xs.length = n) :
  ∃ g cap, v = .slice (some ⟨g, 0, none⟩) (n + 1) cap ∧ n + 1 ≤ cap ∧ w.ownsRow base e 1 (.slice (some ⟨g, 0, none⟩) n cap) n xs := by
 rcases h.2 with ⟨_, h2⟩ | ⟨g, cap, cur, rfl, hb, hh, hn, hm, hs, ht⟩
 ·
  omega
 refine ⟨g, cap, rfl, hn, by omega, .inr ⟨g, cap, cur, rfl, hb, hh, by omega, hm, hs, ?_⟩⟩
 have e1 : cur.toList.take (n * 1) = (cur.toList.take ((n + 1) * 1)).take n := by rw [List.take_take]; congr 1; omega
 rw [e1, ht, ← hl, List.take_left']
 rfl
def PayPost (gr : Nat) (tv : Value) (path : List Int) (w : World) (r : Res) (e : Ending) (w' : World) : Prop :=
 ∃ fp fn, RdrAt w' gr tv fp fn path ∧ KeepT w gr w' ∧ match r with
  | .ok v => ∃ vk vi vr, e = .returned (.tuple #[valA v vk vi vr, .bool true]) ∧ ValP w' (NewT w w') v vk vi vr
  | .error (p, n) => fn = n ∧ w'.ownsRow (gr + 1) 3 1 fp p.length (p.map V64i) ∧ ∃ c0 c1 c2 c3 c4 c5 c6 c7 : Value, (∀ u ∈ [c0, c1, c2, c3, c4, c5, c6, c7], u.oneCell' = true) ∧ e = .returned (.tuple #[.agg #[c0, c1, c2, c3, c4, c5, c6, c7], .bool false])
theorem PayPost.form {gr : Nat} {tv : Value} {path : List Int} {w w' : World} {r : Res} {e : Ending} (h : PayPost gr tv path w r e w') :
  ∃ (c0 c1 c2 c3 c4 c5 c6 c7 : Value) (b : Bool), (∀ u ∈ [c0, c1, c2, c3, c4, c5, c6, c7], u.oneCell' = true) ∧ e = .returned (.tuple #[.agg #[c0, c1, c2, c3, c4, c5, c6, c7], .bool b]) := by
 obtain ⟨fp, fn, _, _, h⟩ := h
 cases r with
 | ok v =>
  obtain ⟨vk, vi, vr, rfl, hv⟩ := h
  obtain ⟨ck, hk, _⟩ := hv.keys
  obtain ⟨ci, hi, _⟩ := hv.items
  exact ⟨_, _, _, _, _, _, _, _, true, by simp [Value.oneCell']; exact ⟨hk.one, hi.one, hv.rest.one⟩, rfl⟩
 | error e =>
  obtain ⟨p, n⟩ := e
  obtain ⟨_, _, c0, c1, c2, c3, c4, c5, c6, c7, h1, rfl⟩ := h
  exact ⟨c0, c1, c2, c3, c4, c5, c6, c7, false, h1, rfl⟩
theorem fail_post (gr : Nat) (tv fp : Value) (fn : Int) (path : List Int) (n : Int) (w : World) (hp : path.length ≤ 1000) (hR : RdrAt w gr tv fp fn path) :
  Calls Tryd.prog 39 #[.pointer (some ⟨gr, 0, none⟩), .int .i64 n] w (PayPost gr tv path w (.error (path, n))) := by
 refine (fail_any gr tv fp fn path n w hp hR).mono ?_
 rintro e w' ⟨rfl, fp', h1, h2, h3⟩
 exact ⟨fp', n, h1, h3, rfl, h2, _, _, _, _, _, _, _, _, by simp [Value.oneCell'], rfl⟩
end Go.Proofs.YtccmmibkihbobaaDoor

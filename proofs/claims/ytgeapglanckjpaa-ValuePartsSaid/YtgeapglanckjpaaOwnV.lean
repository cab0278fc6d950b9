/- Lists of values that a call builds by append. No condition. -/
import Derived.Test.YtgeapglanckjpaaGD
import Derived.Test.YtgeapglanckjpaaGA
import Derived.Maps.AppendAt
import Derived.Laws.OwnMore
namespace Go.Proofs.Ytgeapglanckjpaa
open Go.ChangeShapes Go.WideShapes Go.ChangeAt Go.RowKit
theorem addr_add (b o j : Nat) : (⟨b, o, none⟩ : Addr).add j = ⟨b, o + j, none⟩ := by unfold Addr.add; split <;> simp_all
structure OwnVals (w : World) (L : Nat) (S : Nat → Prop) (v : Value) (xs : List Val) : Prop where
 ex : ∃ cs : List Value, w.ownsRow L 34 8 v xs.length cs ∧ ∀ (i : Nat) (h : i < xs.length), RdValP w S xs[i] ((cs.drop (i * 8)).take 8)
 sep : ∀ k, S k → k < w.heap.size ∧ v.ownBlock ≠ some k
section
variable {w w' : World} {L : Nat} {S : Nat → Prop} {v : Value} {xs : List Val}
theorem OwnVals.nil (w : World) (L : Nat) : OwnVals w L (fun _ => False) (.slice none 0 0) [] := ⟨⟨[], World.ownsRow_nil _ _ _ _, fun i h => by simp at h⟩, fun k h => h.elim⟩
theorem own_keep {base : Nat} {e : TypeId} {size n : Nat} {ys : List Value} (h : w.ownsRow base e size v n ys) (hk : ∀ k, v.ownBlock = some k → w'.heap[k]? = w.heap[k]?) : w'.ownsRow base e size v n ys := by
 obtain ⟨h1, h2⟩ := h
 refine ⟨h1, ?_⟩
 rcases h2 with h2 | ⟨g, cap, cur, rfl, hb, hh, h3⟩
 ·
  exact .inl h2
 exact .inr ⟨g, cap, cur, rfl, hb, (hk g rfl).trans hh, h3⟩
theorem OwnVals.keep (h : OwnVals w L S v xs) (hk : ∀ k, k < w.heap.size → (S k ∨ v.ownBlock = some k) → w'.heap[k]? = w.heap[k]?) (hs : w.heap.size ≤ w'.heap.size) : OwnVals w' L S v xs := by
 obtain ⟨⟨cs, h1, h2⟩, h3⟩ := h
 have hl := fun k (hk : v.ownBlock = some k) => h1.lt k hk
 exact ⟨⟨cs, own_keep h1 fun k hb => hk k (hl k hb).2 (.inr hb), fun i hi => (h2 i hi).keep (fun p hp => World.cell?_of_block (hk p.block (h3 _ hp).1 (.inl hp))) (fun _ h => h)⟩,
  fun k hS => ⟨Nat.lt_of_lt_of_le (h3 k hS).1 hs, (h3 k hS).2⟩⟩
theorem OwnVals.lt (h : OwnVals w L S v xs) : ∀ k, v.ownBlock = some k → L ≤ k ∧ k < w.heap.size := fun k hk => by
 obtain ⟨⟨cs, h1, _⟩, _⟩ := h
 exact h1.lt k hk
theorem OwnVals.form (h : OwnVals w L S v xs) : ∃ A c, v = .slice A xs.length c := by
 obtain ⟨⟨cs, h1, _⟩, _⟩ := h
 exact own_form h1
theorem OwnVals.row (h : OwnVals w L S v xs) : RdValsP w (fun k => S k ∨ v.ownBlock = some k) v xs := by
 obtain ⟨⟨cs, h1, h2⟩, _⟩ := h
 refine ⟨fun i => (cs.drop (i * 8)).take 8, ?_, fun i hi => (h2 i hi).keep (fun _ _ => rfl) (fun _ h => .inl h)⟩
 have h0 := h1
 obtain ⟨hl, h3⟩ := h1
 rcases h3 with ⟨rfl, hn⟩ | ⟨g, cap, cur, rfl, hb, hh, hc, _⟩
 ·
  exact ⟨none, 0, by rw [hn], by omega, .inl hn⟩
 refine ⟨_, cap, rfl, hc, .inr ⟨g, 0, rfl, .inr rfl, fun i hi j u hu => ?_⟩⟩
 have hj : j < 8 := by
  have := (List.getElem?_eq_some_iff.1 hu).1
  simp at this; omega
 rw [List.getElem?_take_of_lt hj, List.getElem?_drop] at hu
 have := h0.cells (g := g) rfl (i * 8 + j) u hu
 have e : (⟨g, 0, none⟩ : Addr).add (i * 8 + j) = ⟨g, 0 + i * 8 + j, none⟩ := by unfold Addr.add; split <;> simp_all
 rwa [e] at this
theorem OwnVals.mono {S' : Nat → Prop} (h : OwnVals w L S v xs) (hS : ∀ k, S k → S' k) (hd : ∀ k, S' k → k < w.heap.size ∧ v.ownBlock ≠ some k) : OwnVals w L S' v xs := by
 obtain ⟨⟨cs, h1, h2⟩, _⟩ := h
 exact ⟨⟨cs, h1, fun i hi => (h2 i hi).keep (fun _ _ => rfl) hS⟩, hd⟩
theorem RdValP.len {S : Nat → Prop} {y : Val} {c : List Value} (h : RdValP w S y c) : c.length = 8 := by cases h; rfl
theorem RowP.one {S : Nat → Prop} {size n : Nat} {v : Value} {c : Nat → List Value} (h : RowP w S size v n c) : v.oneCell' = true := by obtain ⟨A, cap, rfl, _⟩ := h; rfl
theorem RdP.one {S : Nat → Prop} {size n : Nat} {v : Value} {ys : List Value} (h : RdP w S size v n ys) : v.oneCell' = true := by obtain ⟨_, A, cap, rfl, _⟩ := h; rfl
theorem RdValP.one {S : Nat → Prop} {y : Val} {c : List Value} (h : RdValP w S y c) : ∀ u ∈ c, u.oneCell' = true := by
 cases h with
 | mk k b n s id ks is rs vk vi vr ck ci hn hs hl hri h1 _ h2 _ h3 =>
  intro u hu
  simp only [List.mem_cons, List.not_mem_nil, or_false] at hu
  rcases hu with rfl | rfl | rfl | rfl | rfl | rfl | rfl | rfl <;> first | rfl | exact h1.one | exact h2.one | exact h3.one
theorem OwnVals.app {w1 : World} {Sy : Nat → Prop} {ys : List Val} {c : Nat → List Value} {cs : List Value} {v' : Value} (h : OwnVals w L S v xs) (hcs : w.ownsRow L 34 8 v xs.length cs) (h2 : ∀ (i : Nat) (h : i < xs.length), RdValP w S xs[i] ((cs.drop (i * 8)).take 8))
  (hy : ∀ (i : Nat) (h : i < ys.length), RdValP w Sy ys[i] (c i)) (hyS : ∀ k, Sy k → k < w.heap.size ∧ v.ownBlock ≠ some k)
  (hown : w1.ownsRow L 34 8 v' (xs.length + ys.length) (cs ++ rowsV c ys.length)) (hgr : w.grownBy w1 v.ownBlock) (hat : v'.ownBlock = v.ownBlock ∨ v'.ownBlock = some w.heap.size) :
  OwnVals w1 L (fun k => S k ∨ Sy k) v' (xs ++ ys) := by
 have hcl : cs.length = xs.length * 8 := hcs.1
 have hkS : ∀ k, (S k ∨ Sy k) → k < w.heap.size ∧ v.ownBlock ≠ some k := fun k hk => hk.elim (h.sep k) (hyS k)
 have hkeep : ∀ p : Addr, (S p.block ∨ Sy p.block) → w1.cell? p = w.cell? p := fun p hp => World.cell?_of_block (hgr.block p.block (hkS _ hp).1 (fun e => (hkS _ hp).2 e.symm))
 have hl8 : ∀ i, i < ys.length → (c i).length = 8 := fun i hi => (hy i hi).len
 refine ⟨⟨cs ++ rowsV c ys.length, by simpa using hown, fun i hi => ?_⟩, fun k hk => ⟨Nat.lt_of_lt_of_le (hkS k hk).1 hgr.size, ?_⟩⟩
 ·
  by_cases hlt : i < xs.length
  ·
   rw [List.getElem_append_left hlt]
   have e : ((cs ++ rowsV c ys.length).drop (i * 8)).take 8 = (cs.drop (i * 8)).take 8 := by
    rw [List.drop_append_of_le_length (by omega), List.take_append_of_le_length (by simp; omega)]
   rw [e]
   exact (h2 i hlt).keep (fun p hp => hkeep p (.inl hp)) (fun _ h => .inl h)
  obtain ⟨j, rfl⟩ : ∃ j, i = xs.length + j := ⟨i - xs.length, by omega⟩
  have hj : j < ys.length := by simp at hi; omega
  have e : ((cs ++ rowsV c ys.length).drop ((xs.length + j) * 8)).take 8 = c j := by
   rw [Nat.add_mul, ← hcl, ← List.drop_drop, List.drop_left]
   apply List.ext_getElem?
   intro q
   by_cases hq : q < 8
   ·
    rw [List.getElem?_take_of_lt hq, List.getElem?_drop, rowsV_get c 8 ys.length hl8 j q hj hq]
   rw [List.getElem?_eq_none (by simp; omega), List.getElem?_eq_none (by rw [hl8 j hj]; omega)]
  rw [e]
  have e2 : (xs ++ ys)[xs.length + j]'hi = ys[j] := by simp [List.getElem_append_right]
  rw [e2]
  exact (hy j hj).keep (fun p hp => hkeep p (.inr hp)) (fun _ h => .inr h)
 intro he
 rcases hat with h4 | h4
 ·
  rw [h4] at he; exact (hkS k hk).2 he
 rw [h4] at he; injection he with he; have := (hkS k hk).1; omega
end
theorem infoV : (Try.prog.info? 34).map (fun i => (i.zero, i.size, i.bytes)) = some (some (.agg #[.int .i64 0, .bool false, .int .i64 0, .string ByteArray.empty, .int .i64 0, .slice none 0 0, .slice none 0 0, .slice none 0 0]), 8, 120) := by kernel_rfl
theorem step_append_many {ops : Array Oper} {op : Oper} {a : Act} {w : World} {K : Act → World → Prop} {Q : Exit → Act → World → Prop} {E : Prop} (hgd : op.guard = none) (s x : Operand)
  (ho : op.op = .call { callee := .builtin .append, args := #[s, x], argTypes := #[31, 31] }) {L b o cp : Nat} {S Sy : Nat → Prop} {v : Value} {xs ys : List Val} {c : Nat → List Value} (ht : OwnVals w L S v xs) (hs : a.eval s = v)
  (hx : a.eval x = .slice (some ⟨b, o, none⟩) ys.length cp) (hcell : ∀ i, i < ys.length → ∀ j u, (c i)[j]? = some u → w.cell? ⟨b, o + i * 8 + j, none⟩ = some u) (hy : ∀ (i : Nat) (h : i < ys.length), RdValP w Sy ys[i] (c i)) (hyS : ∀ k, Sy k → k < w.heap.size ∧ v.ownBlock ≠ some k)
  (hn : xs.length + ys.length < 1000000) (hB : L ≤ w.heap.size)
  (h : ∀ v' w1, OwnVals w1 L (fun k => S k ∨ Sy k) v' (xs ++ ys) → (v'.ownBlock = v.ownBlock ∨ v'.ownBlock = some w.heap.size) → Below L w w1 → (∀ k, k < w.heap.size → v.ownBlock ≠ some k → w1.heap[k]? = w.heap[k]?) → K (a.put op.dst v') w1) :
  if Region.wanted op (yielded ops a.tmps) = true then Oper.wp Try.prog op a w K Q else E := by
 obtain ⟨i0, hi, hz0, hz1, hz2⟩ := info_parts infoV
 obtain ⟨⟨cs, h1, h2⟩, h3⟩ := id ht
 have hl8 : ∀ i, i < ys.length → (c i).length = 8 := fun i hi => (hy i hi).len
 have hnews : ∀ j u, (rowsV c ys.length)[j]? = some u → w.cell? ((⟨b, o, none⟩ : Addr).add j) = some u := by
  intro j u hu
  have hlt : j < ys.length * 8 := by have := (List.getElem?_eq_some_iff.1 hu).1; rwa [rowsV_len c 8 _ hl8] at this
  have hj : j = j / 8 * 8 + j % 8 := by omega
  rw [hj, rowsV_get c 8 ys.length hl8 (j / 8) (j % 8) (by omega) (by omega)] at hu
  have := hcell (j / 8) (by omega) (j % 8) u hu
  rw [addr_add, show o + j = o + j / 8 * 8 + j % 8 by omega]; exact this
 have hone : ∀ u ∈ rowsV c ys.length, u.oneCell' = true := by
  intro u hu
  obtain ⟨j, hj, rfl⟩ := List.getElem_of_mem hu
  have hlt : j < ys.length * 8 := by rwa [rowsV_len c 8 _ hl8] at hj
  have hj2 : j = j / 8 * 8 + j % 8 := by omega
  have hu2 : (rowsV c ys.length)[j]? = some ((rowsV c ys.length)[j]) := List.getElem?_eq_getElem hj
  generalize (rowsV c ys.length)[j] = u at *
  have hu3 := rowsV_get c 8 ys.length hl8 (j / 8) (j % 8) (by omega) (by omega)
  rw [← hj2, hu2] at hu3
  exact (hy (j / 8) (by omega)).one _ (List.mem_of_getElem? hu3.symm)
 obtain ⟨v', w1, hr, hown, hgr, _, hat⟩ := run_append_own_at (P := Try.prog) (w := w) L 31 op.type 34 i0 _ 8 120 Try.underlying31 hi hz0 hz1 hz2 rfl (by decide) v xs.length cs h1 ⟨b, o, none⟩ ys.length cp (rowsV c ys.length) (rowsV_len c 8 _ hl8) hnews hone (by simp only [maxLen]; omega) (by omega) hB
 have hw : Region.wanted op (yielded ops a.tmps) = true := by simp [Region.wanted, hgd]
 rw [if_pos hw]
 unfold Oper.wp execOp
 simp only [ho, resolve, invoke, builtin, Sem.run_bind, Sem.run_pure, Result.andThen_ok, List.map_toArray, List.map_cons, List.map_nil, hs, hx, hr]
 exact h v' w1 (ht.app h1 h2 hy hyS hown hgr hat) hat (hgr_below hgr hB (fun k hk => (h1.lt k hk).1)) (fun k hk hne => hgr.block k hk (fun e => hne e.symm))
theorem step_append_vals {ops : Array Oper} {op : Oper} {a : Act} {w : World} {K : Act → World → Prop} {Q : Exit → Act → World → Prop} {E : Prop} (hgd : op.guard = none) (s x : Operand)
  (ho : op.op = .call { callee := .builtin .append, args := #[s, x], argTypes := #[31, 31] }) {L gN : Nat} {S Sy : Nat → Prop} {v : Value} {xs : List Val} {y : Val} {cy : Array Value} (ht : OwnVals w L S v xs) (hs : a.eval s = v)
  (hN : Has w gN 34 cy) (hx : a.eval x = .slice (some ⟨gN, 0, none⟩) 1 1) (hy : RdValP w Sy y cy.toList) (hyS : ∀ k, Sy k → k < w.heap.size ∧ v.ownBlock ≠ some k)
  (hn : xs.length < 900000) (hB : L ≤ w.heap.size)
  (h : ∀ v' w1, OwnVals w1 L (fun k => S k ∨ Sy k) v' (xs ++ [y]) → (v'.ownBlock = v.ownBlock ∨ v'.ownBlock = some w.heap.size) → Below L w w1 → (∀ k, k < w.heap.size → v.ownBlock ≠ some k → w1.heap[k]? = w.heap[k]?) → K (a.put op.dst v') w1) :
  if Region.wanted op (yielded ops a.tmps) = true then Oper.wp Try.prog op a w K Q else E :=
 step_append_many (b := gN) (o := 0) (cp := 1) (ys := [y]) (c := fun _ => cy.toList) hgd s x ho ht hs hx (fun i hi j u hu => by
   have h0 : i = 0 := by simpa using hi
   subst h0
   have := hN.cell j
   rw [show (0 + 0 * 8 + j) = j by omega, this]; simpa using hu)
  (fun i hi => (by
   have h0 : i = 0 := by simpa using hi
   subst h0
   exact hy)) hyS (by simp only [List.length_cons, List.length_nil]; omega) hB h
theorem step_append_none {ops : Array Oper} {op : Oper} {a : Act} {w : World} {K : Act → World → Prop} {Q : Exit → Act → World → Prop} {E : Prop} (hgd : op.guard = none) (s x : Operand)
  (ho : op.op = .call { callee := .builtin .append, args := #[s, x], argTypes := #[31, 31] }) {L : Nat} {S : Nat → Prop} {v : Value} {xs : List Val} (ht : OwnVals w L S v xs) (hs : a.eval s = v) (hx : a.eval x = .slice none 0 0)
  (h : K (a.put op.dst v) w) : if Region.wanted op (yielded ops a.tmps) = true then Oper.wp Try.prog op a w K Q else E := by
 obtain ⟨i0, hi, hz0, hz1, hz2⟩ := info_parts infoV
 obtain ⟨⟨cs, h1, h2⟩, h3⟩ := ht
 have hr := run_append_owned_none (P := Try.prog) (w := w) L 31 op.type 34 i0 8 Try.underlying31 hi v xs.length cs h1
 have hw : Region.wanted op (yielded ops a.tmps) = true := by simp [Region.wanted, hgd]
 rw [if_pos hw]
 unfold Oper.wp execOp
 simp only [ho, resolve, invoke, builtin, Sem.run_bind, Sem.run_pure, Result.andThen_ok, List.map_toArray, List.map_cons, List.map_nil, hs, hx, hr]
 exact h
end Go.Proofs.Ytgeapglanckjpaa

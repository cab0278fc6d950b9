/- Lists of paths that a call builds by append. No condition. -/
import Derived.Test.YtgeapglanckjpaaOwnV
import Derived.Test.YtgeapglanckjpaaGD
import Derived.Test.YtgeapglanckjpaaGA
namespace Go.Proofs.Ytgeapglanckjpaa
open Go.ChangeShapes Go.WideShapes Go.ChangeAt Go.RowKit
theorem info_intP : (Try.prog.info? 3).map (fun i => (i.zero, i.size, i.bytes)) = some (some (.int .i64 0), 1, 8) := by kernel_rfl
theorem info_ints : (Try.prog.info? 44).map (fun i => (i.zero, i.size, i.bytes)) = some (some (.slice none 0 0), 1, 24) := by kernel_rfl
abbrev iV (q : List Int) : List Value := q.map (Value.int .i64)
def PathAt (w : World) (S : Nat → Prop) (u : Value) (q : List Int) : Prop := RdP w S 1 u q.length (iV q) ∧ (q = [] → u = .slice none 0 0)
def RdPs (w : World) (S : Nat → Prop) (v : Value) (ps : List (List Int)) : Prop := ∃ vs : List Value, RdP w S 1 v ps.length vs ∧ ∀ (i : Nat) (h : i < ps.length), ∃ u, vs[i]? = some u ∧ PathAt w S u ps[i]
structure OwnPs (w : World) (L : Nat) (S : Nat → Prop) (v : Value) (ps : List (List Int)) : Prop where
 ex : ∃ vs : List Value, w.ownsRow L 44 1 v ps.length vs ∧ ∀ (i : Nat) (h : i < ps.length), ∃ u, vs[i]? = some u ∧ PathAt w S u ps[i]
 sep : ∀ k, S k → k < w.heap.size ∧ v.ownBlock ≠ some k
section
variable {w w' : World} {L : Nat} {S S' : Nat → Prop} {v u : Value} {ps : List (List Int)} {q : List Int}
theorem PathAt.keep (h : PathAt w S u q) (hk : ∀ p : Addr, S p.block → w'.cell? p = w.cell? p) (hS : ∀ b, S b → S' b) : PathAt w' S' u q := ⟨h.1.keep hk hS, h.2⟩
theorem RdPs.keep (h : RdPs w S v ps) (hk : ∀ p : Addr, S p.block → w'.cell? p = w.cell? p) (hS : ∀ b, S b → S' b) : RdPs w' S' v ps := by
 obtain ⟨vs, h1, h2⟩ := h
 exact ⟨vs, h1.keep hk hS, fun i hi => by obtain ⟨u, hu, h3⟩ := h2 i hi; exact ⟨u, hu, h3.keep hk hS⟩⟩
theorem RdPs.form (h : RdPs w S v ps) : ∃ A c, v = .slice A ps.length c ∧ ps.length ≤ c := by
 obtain ⟨vs, ⟨_, A, c, hv, hc, _⟩, _⟩ := h
 exact ⟨A, c, hv, hc⟩
theorem RdPs.at_ {A : Option Addr} {n c : Nat} (h : RdPs w S (.slice A n c) ps) (hp : 0 < ps.length) : ∃ b o, A = some ⟨b, o, none⟩ ∧ S b ∧ ∀ (i : Nat) (h : i < ps.length), ∃ u, w.cell? ⟨b, o + i, none⟩ = some u ∧ PathAt w S u ps[i] := by
 obtain ⟨vs, ⟨_, A', c', hv, _, h2⟩, h3⟩ := h
 injection hv with h4 h5 h6
 subst h4
 rcases h2 with h2 | ⟨b, o, hA, hb, hcell⟩
 ·
  omega
 exact ⟨b, o, hA, hb, fun i hi => by obtain ⟨u, hu, h4⟩ := h3 i hi; exact ⟨u, hcell i u hu, h4⟩⟩
theorem OwnPs.lt (h : OwnPs w L S v ps) : ∀ k, v.ownBlock = some k → L ≤ k ∧ k < w.heap.size := fun k hk => by
 obtain ⟨⟨vs, h1, _⟩, _⟩ := h
 exact h1.lt k hk
theorem OwnPs.form (h : OwnPs w L S v ps) : ∃ A c, v = .slice A ps.length c := by
 obtain ⟨⟨cs, h1, _⟩, _⟩ := h
 exact own_form h1
theorem OwnPs.row (h : OwnPs w L S v ps) : RdPs w (fun k => S k ∨ v.ownBlock = some k) v ps := by
 obtain ⟨⟨vs, h1, h2⟩, _⟩ := h
 refine ⟨vs, ?_, fun i hi => by obtain ⟨u, hu, h3⟩ := h2 i hi; exact ⟨u, hu, h3.keep (fun _ _ => rfl) (fun _ h => .inl h)⟩⟩
 have h0 := h1
 obtain ⟨hl, h3⟩ := h1
 refine ⟨hl, ?_⟩
 rcases h3 with ⟨rfl, hn⟩ | ⟨g, cap, cur, rfl, hb, hh, hc, _⟩
 ·
  exact ⟨none, 0, by rw [hn], by omega, .inl hn⟩
 refine ⟨_, cap, rfl, hc, .inr ⟨g, 0, rfl, .inr rfl, fun j u hu => ?_⟩⟩
 have := h0.cells (g := g) rfl j u hu
 rwa [addr_add] at this
theorem OwnPs.keepS (h : OwnPs w L S v ps) (hk : ∀ k, (S k ∨ v.ownBlock = some k) → w'.heap[k]? = w.heap[k]?) : OwnPs w' L S v ps := by
 obtain ⟨⟨cs, h1, h2⟩, h3⟩ := h
 refine ⟨⟨cs, own_keep h1 fun k hb => hk k (.inr hb), fun i hi => by obtain ⟨u, hu, h4⟩ := h2 i hi; exact ⟨u, hu, h4.keep (fun p hp => World.cell?_of_block (hk p.block (.inl hp))) (fun _ h => h)⟩⟩, fun k hS => ⟨?_, (h3 k hS).2⟩⟩
 have h4 := hk k (.inl hS)
 rcases Nat.lt_or_ge k w'.heap.size with h5 | h5
 ·
  exact h5
 rw [Array.getElem?_eq_none h5, Array.getElem?_eq_getElem (h3 k hS).1] at h4; cases h4
theorem OwnPs.kept (h : OwnPs w L S v ps) (hS : ∀ b, S b → L ≤ b) : Kept (fun w => OwnPs w L S v ps) w L w.heap.size :=
 ⟨h, fun _ hk => h.keepS fun k hs => hs.elim (fun hs => hk k (hS k hs) (h.sep k hs).1) (fun hs => hk k (h.lt k hs).1 (h.lt k hs).2), Nat.le_refl _⟩
theorem OwnPs.one (h : Has w L 44 #[.slice none 0 0]) : OwnPs w L (fun _ => False) (.slice (some ⟨L, 0, none⟩) 1 1) [[]] :=
 ⟨⟨[.slice none 0 0], ⟨rfl, .inr ⟨L, 1, #[.slice none 0 0], rfl, Nat.le_refl _, h, by simp, by simp [maxLen], rfl, rfl⟩⟩, fun i hi => by
  obtain rfl : i = 0 := by simpa using hi
  exact ⟨_, rfl, ⟨rfl, none, 0, rfl, Nat.le_refl _, .inl rfl⟩, fun _ => rfl⟩⟩, fun k h => h.elim⟩
end
theorem wpList_path {ops : Array Oper} {rest : List Oper} {o : Oper} {a : Act} {Q : Exit → Act → World → Prop} {w : World} (hgd : o.guard = none) (s x : Operand)
  (ho : o.op = .call { callee := .builtin .append, args := #[s, x], argTypes := #[44, 44] }) {gN : Nat} {n : Int} {S : Nat → Prop} {u : Value} {q : List Int} (hN : Has w gN 3 #[.int .i64 n]) (hs : a.eval s = .slice (some ⟨gN, 0, none⟩) 1 1) (hx : a.eval x = u) (hu : PathAt w S u q) (hl : q.length ≤ 100000)
  (h0 : ∀ A' c' w1 S', PathAt w1 S' (.slice A' (q.length + 1) c') (n :: q) → (∀ k, S' k → k = gN ∨ (w.heap.size ≤ k ∧ k < w1.heap.size)) → Below gN w w1 → (∀ k, k < w.heap.size → k ≠ gN → w1.heap[k]? = w.heap[k]?) → wpList Try.prog ops Q rest (a.put o.dst (.slice A' (q.length + 1) c')) w1) :
  wpList Try.prog ops Q (o :: rest) a w := by
 have h : ∀ v' w1 S', PathAt w1 S' v' (n :: q) → (∀ k, S' k → k = gN ∨ (w.heap.size ≤ k ∧ k < w1.heap.size)) → Below gN w w1 → (∀ k, k < w.heap.size → k ≠ gN → w1.heap[k]? = w.heap[k]?) → wpList Try.prog ops Q rest (a.put o.dst v') w1 := fun v' w1 S' hp => by
  obtain ⟨⟨h1, A, c, rfl, h2⟩, h3⟩ := hp
  exact h0 A c w1 S' ⟨⟨h1, A, c, rfl, h2⟩, h3⟩
 obtain ⟨i0, hi, hz0, hz1, hz2⟩ := info_parts info_intP
 have hown : w.ownsRow gN 3 1 (.slice (some ⟨gN, 0, none⟩) 1 1) 1 [.int .i64 n] := ⟨rfl, .inr ⟨gN, 1, #[.int .i64 n], rfl, Nat.le_refl _, hN, by simp, by simp [maxLen], rfl, rfl⟩⟩
 have hgN := hN.here
 refine wpList_plain hgd fun K' hK' => ?_
 unfold Oper.wp execOp
 by_cases hq : q = []
 ·
  subst hq
  have hun := hu.2 rfl
  subst hun
  have hr := run_append_owned_none (P := Try.prog) (w := w) gN 44 o.type 3 i0 1 Try.underlying44 hi _ 1 _ hown
  simp only [ho, resolve, invoke, builtin, Sem.run_bind, Sem.run_pure, Result.andThen_ok, List.map_toArray, List.map_cons, List.map_nil, hs, hx, hr]
  refine hK' _ _ (h _ w (fun k => k = gN) ⟨⟨rfl, _, _, rfl, by simp, .inr ⟨gN, 0, rfl, rfl, fun j u hu => ?_⟩⟩, fun e => by cases e⟩ (fun k hk => .inl hk) (Below.refl _ _) (fun _ _ _ => rfl))
  have := hN.cell j
  rw [show 0 + j = j by omega, this]
  simpa using hu
 have hpos : 0 < q.length := List.length_pos_iff.2 hq
 obtain ⟨⟨hl2, A, c, rfl, hc, h2⟩, _⟩ := hu
 rcases h2 with h2 | ⟨b, o1, rfl, hb, hcell⟩
 ·
  omega
 have hnews : ∀ j u, (iV q)[j]? = some u → w.cell? ((⟨b, o1, none⟩ : Addr).add j) = some u := fun j u hu => by rw [addr_add]; exact hcell j u hu
 obtain ⟨v', w1, hr, hown1, hgr, _, hat⟩ := run_append_own_at (P := Try.prog) (w := w) gN 44 o.type 3 i0 _ 1 8 Try.underlying44 hi hz0 hz1 hz2 rfl (by decide) _ 1 _ hown ⟨b, o1, none⟩ q.length c (iV q) (by simp) hnews (by intro u hu; obtain ⟨z, _, rfl⟩ := List.mem_map.1 hu; rfl) (by simp only [maxLen]; omega) (by omega) (Nat.le_of_lt hgN)
 simp only [ho, resolve, invoke, builtin, Sem.run_bind, Sem.run_pure, Result.andThen_ok, List.map_toArray, List.map_cons, List.map_nil, hs, hx, hr]
 have hat2 : ∀ k, v'.ownBlock = some k → k = gN ∨ (w.heap.size ≤ k ∧ k < w1.heap.size) := fun k hk => by
  have := (hown1.lt k hk).2
  rcases hat with h4 | h4
  ·
   rw [h4] at hk; injection hk with hk; exact .inl hk.symm
  rw [h4] at hk; injection hk with hk; exact .inr ⟨by omega, this⟩
 refine hK' _ _ (h v' w1 (fun k => v'.ownBlock = some k) ⟨?_, fun e => by cases e⟩ hat2 (hgr_below hgr (Nat.le_of_lt hgN) (fun k hk => (hown.lt k hk).1)) (fun k hk hne => hgr.block k hk (fun e => hne (Option.some.inj e))))
 have hw0 := hown1
 obtain ⟨hl3, h3⟩ := hown1
 refine ⟨by simp, ?_⟩
 rcases h3 with ⟨rfl, hn⟩ | ⟨g, cap, cur, rfl, hb2, hh, hc2, _⟩
 ·
  omega
 refine ⟨_, cap, by rw [List.length_cons, Nat.add_comm], by simp; omega, .inr ⟨g, 0, rfl, rfl, fun j u hu => ?_⟩⟩
 have := hw0.cells (g := g) rfl j u hu
 rwa [addr_add] at this
theorem wpList_paths {ops : Array Oper} {rest : List Oper} {o : Oper} {a : Act} {Q : Exit → Act → World → Prop} {w : World} (hgd : o.guard = none) (s x : Operand)
  (ho : o.op = .call { callee := .builtin .append, args := #[s, x], argTypes := #[42, 42] }) {L gM : Nat} {S Sy : Nat → Prop} {v u : Value} {ps : List (List Int)} {q : List Int} (ht : OwnPs w L S v ps) (hs : a.eval s = v) (hM : Has w gM 44 #[u]) (hx : a.eval x = .slice (some ⟨gM, 0, none⟩) 1 1)
  (hq : PathAt w Sy u q) (hyS : ∀ k, Sy k → k < w.heap.size ∧ v.ownBlock ≠ some k) (hn : ps.length < 900000) (hB : L ≤ w.heap.size)
  (h : ∀ v' w1, OwnPs w1 L (fun k => S k ∨ Sy k) v' (ps ++ [q]) → (v'.ownBlock = v.ownBlock ∨ v'.ownBlock = some w.heap.size) → Below L w w1 → (∀ k, k < w.heap.size → v.ownBlock ≠ some k → w1.heap[k]? = w.heap[k]?) → wpList Try.prog ops Q rest (a.put o.dst v') w1) :
  wpList Try.prog ops Q (o :: rest) a w := by
 obtain ⟨i0, hi, hz0, hz1, hz2⟩ := info_parts info_ints
 obtain ⟨⟨vs, h1, h2⟩, h3⟩ := id ht
 have hone : u.oneCell' = true := by obtain ⟨⟨_, A, c, rfl, _⟩, _⟩ := hq; rfl
 have hvl : vs.length = ps.length := by have := h1.1; omega
 obtain ⟨v', w1, hr, hown, hgr, _, hat⟩ := run_append_own_at (P := Try.prog) (w := w) L 42 o.type 44 i0 _ 1 24 Try.underlying42 hi hz0 hz1 hz2 rfl (by decide) v ps.length vs h1 ⟨gM, 0, none⟩ 1 1 [u] rfl (fun j y hy => by
  have h0 : j = 0 := by have := (List.getElem?_eq_some_iff.1 hy).1; simpa using this
  subst h0
  rw [addr_add, hM.cell]; simpa using hy) (by intro y hy; simp at hy; subst hy; exact hone) (by simp only [maxLen]; omega) (by omega) hB
 refine wpList_plain hgd fun K' hK' => ?_
 unfold Oper.wp execOp
 simp only [ho, resolve, invoke, builtin, Sem.run_bind, Sem.run_pure, Result.andThen_ok, List.map_toArray, List.map_cons, List.map_nil, hs, hx, hr]
 have hkS : ∀ k, (S k ∨ Sy k) → k < w.heap.size ∧ v.ownBlock ≠ some k := fun k hk => hk.elim (h3 k) (hyS k)
 have hkeep : ∀ p : Addr, (S p.block ∨ Sy p.block) → w1.cell? p = w.cell? p := fun p hp => World.cell?_of_block (hgr.block p.block (hkS _ hp).1 (fun e => (hkS _ hp).2 e.symm))
 refine hK' _ _ (h v' w1 ⟨⟨vs ++ [u], by simpa using hown, fun i hi2 => ?_⟩, fun k hk => ⟨Nat.lt_of_lt_of_le (hkS k hk).1 hgr.size, fun he => ?_⟩⟩ hat (hgr_below hgr hB (fun k hk => (h1.lt k hk).1)) (fun k hk hne => hgr.block k hk (fun e => hne e.symm)))
 ·
  by_cases hlt : i < ps.length
  ·
   obtain ⟨y, hy, h4⟩ := h2 i hlt
   refine ⟨y, by rw [List.getElem?_append_left (by omega)]; exact hy, ?_⟩
   rw [List.getElem_append_left hlt]
   exact h4.keep (fun p hp => hkeep p (.inl hp)) (fun _ h => .inl h)
  have hie : i = ps.length := by simp at hi2; omega
  subst hie
  refine ⟨u, by rw [List.getElem?_append_right (by omega), hvl]; simp, ?_⟩
  have e2 : (ps ++ [q])[ps.length]'hi2 = q := by simp
  rw [e2]
  exact hq.keep (fun p hp => hkeep p (.inr hp)) (fun _ h => .inr h)
 rcases hat with h4 | h4
 ·
  rw [h4] at he; exact (hkS k hk).2 he
 rw [h4] at he; injection he with he; have := (hkS k hk).1; omega
end Go.Proofs.Ytgeapglanckjpaa

/- Plain laws of journals: what a journal of good entries reads as, cut off, changed, repaired. No condition. -/
import Derived.Test.YtngmdhdncfbdjaaJourG
namespace Go.Proofs.Ytngmdhdncfbdjaa
open Go.ChangeShapes Go.WideShapes Go.ChangeAt Go.RowKit

def frm (x : Ent) : List UInt8 := (frame (fmtE x)).1
def jour (es : List Ent) : List UInt8 := es.flatMap frm
def Gd (x : Ent) : Prop := EntOk x ∧ validB x = true ∧ (fmtE x).length ≤ 65535
theorem frm_pos (x : Ent) (h : Gd x) : 5 ≤ (frm x).length := by
  unfold frm
  rw [frame, if_neg (by have := h.2.2; omega)]
  have : 1 ≤ (putF 9 (fmtE x).length).length := by rw [putF]; split <;> simp
  simp only [List.length_append, be4_len]
  omega
theorem jour_app (a b : List Ent) : jour (a ++ b) = jour a ++ jour b := by simp [jour]
theorem jour_one (x : Ent) : jour [x] = frm x := by simp [jour]
theorem frm_read (x : Ent) (h : Gd x) (rest : List UInt8) : unframe (frm x ++ rest) = (fmtE x, (frm x).length, 0) := unframe_frame _ _ h.2.2
theorem append_good (log : List UInt8) (x : Ent) (h : Gd x) : appendJ log x = (log ++ frm x, 0) := by
  have hf : (frame (fmtE x)).2 = 0 := by rw [frame, if_neg (by have := h.2.2; omega)]
  rw [appendJ, if_pos h.2.1, if_pos hf]
  rfl
theorem append_bad (log : List UInt8) (x : Ent) (h : fits x = false) : (appendJ log x).2 ≠ 0 := by
  unfold appendJ
  split
  · next hv =>
    have h2 : 65535 < (fmtE x).length := by simp [fits, hv] at h; omega
    have hf : frame (fmtE x) = ([], 3) := by rw [frame, if_pos h2]
    rw [hf]; simp
  · simp
theorem gd_of (x : Ent) (h : EntIn x) (hf : fits x = true) : Gd x := by
  simp [fits] at hf
  exact ⟨h.1, hf.1, hf.2⟩
theorem good_gd (xs : List Ent) (h : ∀ x ∈ xs, EntIn x) : ∀ x ∈ goodJ xs, Gd x := fun x hx => by
  have := List.mem_filter.1 hx
  exact gd_of x (h x this.1) this.2

/-! what a journal of good entries reads as -/
theorem read_jour (l rest : List UInt8) : ∀ (es : List Ent) (f p : Nat) (acc : List Ent), (∀ x ∈ es, Gd x) → l.drop p = jour es ++ rest → l.length < f + p → p ≤ l.length →
    ∃ f', l.length < f' + (p + (jour es).length) ∧ p + (jour es).length ≤ l.length ∧ readJF f l p acc = readJF f' l (p + (jour es).length) (acc ++ es) := by
  intro es
  induction es with
  | nil => intro f p acc _ _ hf hp; exact ⟨f, by simpa [jour] using hf, by simpa [jour] using hp, by simp [jour]⟩
  | cons x r ih =>
    intro f p acc hg hd hf hp
    have hx := hg x (by simp)
    have hpos := frm_pos x hx
    have e : jour (x :: r) = frm x ++ jour r := rfl
    rw [e, List.append_assoc] at hd
    have hlen : (l.drop p).length = (frm x).length + ((jour r).length + rest.length) := by rw [hd]; simp
    rw [List.length_drop] at hlen
    obtain ⟨f, rfl⟩ : ∃ g, f = g + 1 := ⟨f - 1, by omega⟩
    have hu := frm_read x hx (jour r ++ rest)
    rw [← hd] at hu
    have hd2 : l.drop (p + (frm x).length) = jour r ++ rest := by
      rw [← List.drop_drop, hd, List.drop_left]
    obtain ⟨f', h1, h2, h3⟩ := ih f (p + (frm x).length) (acc ++ [x]) (fun y hy => hg y (by simp [hy])) hd2 (by omega) (by omega)
    refine ⟨f', by rw [e, List.length_append]; omega, by rw [e, List.length_append]; omega, ?_⟩
    rw [readJF, if_neg (by omega)]
    simp only [hu]
    rw [parse_fmt x hx.1 hx.2.1, if_pos (by simp), h3, e, List.length_append, List.append_assoc, Nat.add_assoc]
    rfl
theorem readJ_jour (es : List Ent) (h : ∀ x ∈ es, Gd x) : readJ (jour es) = (es, (jour es).length, 0) := by
  obtain ⟨f', h1, h2, h3⟩ := read_jour (jour es) [] es ((jour es).length + 1) 0 [] h (by simp) (by omega) (by omega)
  rw [readJ, h3, readJF_done _ _ _ _ (by omega)]
  simp

/-- what Unframe accepts is the frame of what it returns -/
theorem unframe_inv (l : List UInt8) (h : (unframe l).2.2 = 0) : l.take (unframe l).2.1 = (frame (unframe l).1).1 ∧ (unframe l).1.length ≤ 65535 := by
  unfold unframe at h ⊢
  split at h
  · simp at h
  split at h
  · next h1 => exact absurd h h1
  split at h
  · simp at h
  split at h
  · simp at h
  split at h
  · next h1 h2 h3 h4 h5 =>
    simp only [if_neg h1, if_neg h2, if_neg h3, if_neg h4, if_pos h5]
    have h0 : (getF 0 0 l).2.2 = 0 := Nat.eq_zero_of_not_pos fun hp => h2 (by omega)
    have hp := get_put0 l h0
    generalize getF 0 0 l = g at *
    obtain ⟨n, k, e⟩ := g
    simp only at *
    have hbl : (body l k n).length = n := by unfold body; rw [List.length_drop, List.length_take]; omega
    refine ⟨?_, by omega⟩
    rw [frame, if_neg (by omega), hbl, hp, h5]
    show l.take (k + 4 + n) = l.take k ++ (l.take (k + 4)).drop k ++ (l.take (k + 4 + n)).drop (k + 4)
    have e1 : l.take k = (l.take (k + 4)).take k := by rw [List.take_take]; congr 1; omega
    have e2 : l.take (k + 4) = (l.take (k + 4 + n)).take (k + 4) := by rw [List.take_take]; congr 1; omega
    rw [e1, List.take_append_drop, e2, List.take_append_drop]
  · simp at h

/-- what is read is a journal of good entries -/
theorem readJF_inv (l : List UInt8) : ∀ (f p : Nat) (acc : List Ent), p ≤ l.length → ∃ es, (readJF f l p acc).1 = acc ++ es ∧ p ≤ (readJF f l p acc).2.1 ∧ (∀ x ∈ es, Gd x) ∧ (l.take (readJF f l p acc).2.1).drop p = jour es := by
  intro f
  induction f with
  | zero => intro p acc _; exact ⟨[], by simp [readJF], by simp [readJF], by simp, by simp [readJF, jour]⟩
  | succ f ih =>
    intro p acc hp
    rw [readJF]
    split
    · exact ⟨[], by simp, by simp, by simp, by simp [jour]⟩
    split
    · next h1 h2 =>
      obtain ⟨h2, h3⟩ := h2
      have hok := unframe_ok _ h2
      obtain ⟨hi, hle⟩ := unframe_inv _ h2
      obtain ⟨q1, q2, q3⟩ := parse_ok _ h3
      rw [List.length_drop] at hok
      obtain ⟨es, i1, i2, i3, i4⟩ := ih (p + (unframe (l.drop p)).2.1) (acc ++ [(parseE (unframe (l.drop p)).1).1]) (by omega)
      generalize readJF f l (p + (unframe (l.drop p)).2.1) (acc ++ [(parseE (unframe (l.drop p)).1).1]) = R at *
      refine ⟨(parseE (unframe (l.drop p)).1).1 :: es, by rw [i1, List.append_assoc]; rfl, by omega, ?_, ?_⟩
      · intro x hx
        rcases List.mem_cons.1 hx with rfl | hx
        · exact ⟨q1, q2, by rw [q3]; exact hle⟩
        · exact i3 x hx
      · have e : jour ((parseE (unframe (l.drop p)).1).1 :: es) = frm (parseE (unframe (l.drop p)).1).1 ++ jour es := rfl
        rw [e, ← i4, frm, q3, ← hi, List.take_drop, ← List.drop_drop]
        have e2 : l.take (p + (unframe (l.drop p)).2.1) = (l.take R.2.1).take (p + (unframe (l.drop p)).2.1) := by rw [List.take_take]; congr 1; omega
        rw [e2, ← List.take_drop, List.take_append_drop]
    · exact ⟨[], by simp, by simp, by simp, by simp [jour]⟩
theorem readJ_inv (l : List UInt8) : (∀ x ∈ (readJ l).1, Gd x) ∧ l.take (readJ l).2.1 = jour (readJ l).1 := by
  obtain ⟨es, h1, _, h3, h4⟩ := readJF_inv l (l.length + 1) 0 [] (by omega)
  rw [List.nil_append] at h1
  rw [List.drop_zero] at h4
  unfold readJ
  rw [h1]
  exact ⟨h3, h4⟩
theorem readJF_err (l : List UInt8) : ∀ (f p : Nat) (acc : List Ent), p ≤ l.length → l.length < f + p → ((readJF f l p acc).2.2 = 0 ∧ (readJF f l p acc).2.1 = l.length) ∨ ((readJF f l p acc).2.2 = 17 ∧ (readJF f l p acc).2.1 < l.length) := by
  intro f
  induction f with
  | zero => intro p acc h1 h2; omega
  | succ f ih =>
    intro p acc h1 h2
    rw [readJF]
    split
    · exact .inl ⟨rfl, by show p = _; omega⟩
    split
    · next h3 h4 =>
      have hok := unframe_ok _ h4.1
      rw [List.length_drop] at hok
      exact ih _ _ (by omega) (by omega)
    · exact .inr ⟨rfl, by show p < _; omega⟩
theorem readJ_err (l : List UInt8) : ((readJ l).2.2 = 0 ∧ (readJ l).2.1 = l.length) ∨ ((readJ l).2.2 = 17 ∧ (readJ l).2.1 < l.length) := readJF_err l _ 0 [] (by omega) (by omega)
theorem repair_read (l : List UInt8) : readJ (repairJ l) = ((readJ l).1, (readJ l).2.1, 0) := by
  obtain ⟨h1, h2⟩ := readJ_inv l
  have h3 := (readJ_le l).1
  unfold repairJ
  rw [h2, readJ_jour _ h1, ← h2, List.length_take]
  congr 2
  omega

/-! Log, and where its frames end -/
def ends (es : List Ent) : List Nat := (List.range (es.length + 1)).map fun i => (jour (es.take i)).length
theorem ends_len (es : List Ent) : (ends es).length = es.length + 1 := by simp [ends]
theorem ends_get (es : List Ent) (i : Nat) (h : i ≤ es.length) : (ends es)[i]? = some (jour (es.take i)).length := by
  unfold ends
  rw [List.getElem?_map, List.getElem?_range (by omega)]
  rfl
theorem ends_snoc (es : List Ent) (x : Ent) : ends (es ++ [x]) = ends es ++ [(jour (es ++ [x])).length] := by
  unfold ends
  rw [List.length_append, List.length_singleton, List.range_succ, List.map_append]
  congr 1
  · refine List.map_congr_left fun i hi => ?_
    have : i ≤ es.length := by have := List.mem_range.1 hi; omega
    rw [List.take_append_of_le_length this]
  · rw [List.map_singleton, List.take_of_length_le (by simp)]
theorem logF_eq : ∀ (xs es : List Ent), (∀ x ∈ xs, EntIn x) → logF xs (jour es) (ends es) = (jour (es ++ goodJ xs), ends (es ++ goodJ xs)) := by
  intro xs
  induction xs with
  | nil => intro es _; simp [logF, goodJ]
  | cons x r ih =>
    intro es h
    have hr := fun y hy => h y (List.mem_cons_of_mem x hy)
    rw [logF]
    cases hf : fits x with
    | true =>
      have hg := gd_of x (h x (by simp)) hf
      rw [append_good _ _ hg, if_pos rfl]
      have e1 : jour es ++ frm x = jour (es ++ [x]) := by rw [jour_app, jour_one]
      have e2 : goodJ (x :: r) = x :: goodJ r := by simp [goodJ, hf]
      simp only
      rw [e1, ← ends_snoc, ih _ hr, e2, List.append_assoc]
      rfl
    | false =>
      rw [if_neg (append_bad _ _ hf), ih _ hr]
      have e2 : goodJ (x :: r) = goodJ r := by simp [goodJ, hf]
      rw [e2]
theorem logJ_eq (xs : List Ent) (h : ∀ x ∈ xs, EntIn x) : logJ xs = (jour (goodJ xs), ends (goodJ xs)) := logF_eq xs [] h
theorem jour_take (es : List Ent) (i : Nat) : (jour es).take (jour (es.take i)).length = jour (es.take i) ∧ (jour es).drop (jour (es.take i)).length = jour (es.drop i) := by
  have e : jour es = jour (es.take i) ++ jour (es.drop i) := by rw [← jour_app, List.take_append_drop]
  constructor
  · rw [e, List.take_left]
  · conv => lhs; rw [e]
    rw [List.drop_left]

/-- a journal that is cut off -/
theorem cut_law (es : List Ent) (h : ∀ x ∈ es, Gd x) (cut i : Nat) (hc : cut ≤ (jour es).length) (h1 : (jour (es.take i)).length ≤ cut) (h2 : i < es.length → cut < (jour (es.take (i + 1))).length) :
    readJ ((jour es).take cut) = (es.take i, (jour (es.take i)).length, if cut = (jour (es.take i)).length then 0 else 17) := by
  obtain ⟨e1, e2⟩ := jour_take es i
  have hl : ((jour es).take cut).length = cut := by rw [List.length_take]; omega
  have hd : ((jour es).take cut).drop 0 = jour (es.take i) ++ (jour (es.drop i)).take (cut - (jour (es.take i)).length) := by
    rw [List.drop_zero, ← e2, ← List.drop_take]
    have e3 : jour (es.take i) = ((jour es).take cut).take (jour (es.take i)).length := by rw [List.take_take, Nat.min_eq_left h1, e1]
    conv => rhs; lhs; rw [e3]
    rw [List.take_append_drop]
  obtain ⟨f', h3, h4, h5⟩ := read_jour ((jour es).take cut) _ (es.take i) (((jour es).take cut).length + 1) 0 [] (fun x hx => h x (List.mem_of_mem_take hx)) hd (by omega) (by omega)
  rw [readJ, h5]
  rw [hl] at h3 h4
  simp only [Nat.zero_add, List.nil_append] at h3 h4 ⊢
  by_cases hcut : cut = (jour (es.take i)).length
  · rw [if_pos hcut, readJF_done _ _ _ _ (by rw [hl]; omega)]
  · rw [if_neg hcut]
    obtain ⟨f', rfl⟩ : ∃ g, f' = g + 1 := ⟨f' - 1, by omega⟩
    have hil : i < es.length := by
      rcases Nat.lt_or_ge i es.length with h | h
      · exact h
      · exfalso
        rw [List.take_of_length_le h] at h1 hcut
        omega
    have h2 := h2 hil
    have hx := h es[i] (List.getElem_mem hil)
    have e5 : es.take (i + 1) = es.take i ++ [es[i]] := List.take_succ_eq_append_getElem hil
    rw [e5, jour_app, jour_one, List.length_append] at h2
    have e6 : ((jour es).take cut).drop (jour (es.take i)).length = (frm es[i]).take (cut - (jour (es.take i)).length) := by
      rw [List.drop_take, e2, List.drop_eq_getElem_cons hil]
      have e7 : jour (es[i] :: es.drop (i + 1)) = frm es[i] ++ jour (es.drop (i + 1)) := rfl
      rw [e7, List.take_append_of_le_length (by omega)]
    have hu : (unframe ((frm es[i]).take (cut - (jour (es.take i)).length))).2.2 = 10 := by
      rw [frm, unframe_cut _ hx.2.2 _ (by have := h2; unfold frm at this; omega)]
    rw [readJF, if_neg (by rw [hl]; omega), e6, hu, if_neg (by simp)]

/-- what is changed does not change the entries before it -/
theorem changed_law (es : List Ent) (h : ∀ x ∈ es, Gd x) (b : List UInt8) (i : Nat) (hi : i ≤ es.length) (hb : b.take (jour (es.take i)).length = jour (es.take i)) :
    i ≤ (readJ b).1.length ∧ (jour (es.take i)).length ≤ (readJ b).2.1 ∧ (readJ b).1.take i = es.take i := by
  have hl : (jour (es.take i)).length ≤ b.length := by
    have := congrArg List.length hb
    rw [List.length_take] at this
    omega
  have hd : b.drop 0 = jour (es.take i) ++ b.drop (jour (es.take i)).length := by
    rw [List.drop_zero]
    conv => rhs; lhs; rw [← hb]
    rw [List.take_append_drop]
  obtain ⟨f', h3, h4, h5⟩ := read_jour b _ (es.take i) (b.length + 1) 0 [] (fun x hx => h x (List.mem_of_mem_take hx)) hd (by omega) (by omega)
  obtain ⟨more, m1, m2, _, _⟩ := readJF_inv b f' (0 + (jour (es.take i)).length) ([] ++ es.take i) (by omega)
  rw [readJ, h5]
  simp only [Nat.zero_add, List.nil_append] at m1 m2 ⊢
  have ht : (es.take i).length = i := by rw [List.length_take]; omega
  refine ⟨by rw [m1, List.length_append]; omega, m2, ?_⟩
  rw [m1, List.take_append_of_le_length (by omega), List.take_of_length_le (by omega)]

/-! Write, tokens -/
theorem tokenJ_snoc (es : List Ent) (x : Ent) : tokenJ (es ++ [x]) = max (tokenJ es) x.2.1 := by
  unfold tokenJ
  rw [List.foldl_append]
  rfl
theorem foldl_max_ge (es : List Ent) : ∀ m : Int, m ≤ es.foldl (fun m x => max m x.2.1) m := by
  induction es with
  | nil => intro m; exact Int.le_refl _
  | cons x r ih =>
    intro m
    have := ih (max m x.2.1)
    simp only [List.foldl_cons]
    omega
theorem tokenJ_nonneg (es : List Ent) : 0 ≤ tokenJ es := foldl_max_ge es 0
theorem foldl_max_mem (es : List Ent) : ∀ m : Int, ∀ x ∈ es, x.2.1 ≤ es.foldl (fun m x => max m x.2.1) m := by
  induction es with
  | nil => intro m x h; simp at h
  | cons y r ih =>
    intro m x h
    simp only [List.foldl_cons]
    rcases List.mem_cons.1 h with rfl | h
    · have := foldl_max_ge r (max m x.2.1)
      omega
    · exact ih _ x h
theorem tokenJ_mem (es : List Ent) (x : Ent) (h : x ∈ es) : x.2.1 ≤ tokenJ es := foldl_max_mem es 0 x h
theorem tokenJ_i64 (es : List Ent) (h : ∀ x ∈ es, Gd x) : I64 (tokenJ es) := by
  have h0 := tokenJ_nonneg es
  have : ∀ (r : List Ent) (m : Int), m ≤ 9223372036854775807 → (∀ x ∈ r, Gd x) → r.foldl (fun m x => max m x.2.1) m ≤ 9223372036854775807 := by
    intro r
    induction r with
    | nil => intro m hm _; exact hm
    | cons y r ih =>
      intro m hm hg
      simp only [List.foldl_cons]
      have hy := (hg y (by simp)).1.2.1
      unfold I64 at hy
      exact ih _ (by omega) (fun x hx => hg x (by simp [hx]))
  have h1 := this es 0 (by omega) h
  unfold I64
  exact ⟨by omega, h1⟩
/-- tokens that never descend -/
def Asc (es : List Ent) : Prop := ∀ (i : Nat) (a b : Ent), es[i]? = some a → es[i+1]? = some b → a.2.1 ≤ b.2.1
theorem asc_nil : Asc [] := fun i a b h => by simp at h
theorem asc_snoc (es : List Ent) (x : Ent) (h : Asc es) (hx : tokenJ es ≤ x.2.1) : Asc (es ++ [x]) := fun i a b ha hb => by
  have hi : i + 1 < (es ++ [x]).length := (List.getElem?_eq_some_iff.1 hb).1
  rw [List.length_append, List.length_singleton] at hi
  rw [List.getElem?_append_left (by omega)] at ha
  rcases Nat.lt_or_ge (i + 1) es.length with h2 | h2
  · rw [List.getElem?_append_left h2] at hb
    exact h i a b ha hb
  · rw [List.getElem?_append_right h2] at hb
    have h3 : i + 1 - es.length = 0 := by omega
    rw [h3] at hb
    simp only [List.getElem?_cons_zero, Option.some.injEq] at hb
    subst hb
    have := tokenJ_mem es a (List.mem_of_getElem? ha)
    omega
theorem write_fenced (es : List Ent) (h : ∀ x ∈ es, Gd x) (x : Ent) (hx : Gd x) (ht : x.2.1 < tokenJ es) : writeJ (jour es) x = ([], 16) := by
  unfold writeJ
  rw [readJ_jour es h, if_pos hx.2.1, if_pos ht]
theorem write_good (es : List Ent) (h : ∀ x ∈ es, Gd x) (x : Ent) (hx : Gd x) (ht : tokenJ es ≤ x.2.1) : writeJ (jour es) x = (jour (es ++ [x]), 0) := by
  unfold writeJ
  rw [readJ_jour es h, if_pos hx.2.1, if_neg (by show ¬ _ < tokenJ es; omega), List.take_of_length_le (Nat.le_refl _), append_good _ _ hx, jour_app, jour_one]
theorem write_after (log : List UInt8) (x : Ent) (hx : Gd x) (ht : tokenJ (readJ log).1 ≤ x.2.1) : writeJ log x = (jour ((readJ log).1 ++ [x]), 0) := by
  unfold writeJ
  rw [if_pos hx.2.1, if_neg (by omega), (readJ_inv log).2, append_good _ _ hx, jour_app, jour_one]
theorem gd_data (x : Ent) (h : Gd x) : x.2.2.2.length ≤ 65535 := by
  have h1 := h.2.2
  rw [fmtE, if_pos h.2.1, List.length_append] at h1
  omega
end Go.Proofs.Ytngmdhdncfbdjaa

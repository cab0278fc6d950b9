/- A region that draws whose last operations may spoil what its loads read: loads first, S shown anew behind all but those last ones. No condition. -/
import Derived.Test.YtccmmibkihbobaaDoorHAI
namespace Go.Proofs.YtccmmibkihbobaaDoor
open Go.ChangeShapes Go.WideShapes Go.ChangeAt Go.RowKit
section
variable {P : Program} {ops : Array Oper} {Q : Exit → Act → World → Prop} {md : Region.Mode} {S : World → Prop} {T : Nat → Bool}
def wpAnyT (P : Program) (md : Region.Mode) (ops : Array Oper) (Q : Exit → Act → World → Prop) (S : World → Prop) (T : Nat → Bool) : Nat → Array Bool → Act → World → Prop
 | 0, listed, a, w => Region.ready md ops listed = [] ∧ Q .normal a w
 | f + 1, listed, a, w => (Region.ready md ops listed = [] → Q .normal a w) ∧
  ∀ i ∈ Region.ready md ops listed, wpOp P ops Q i (fun a' w' => (T i = false → S w') ∧ wpAnyT P md ops Q S T f (listed.setIfInBounds i true) a' w') a w
theorem wpAnyT_any : ∀ (f : Nat) (listed : Array Bool) (a : Act) (w : World), wpAnyT P md ops Q S T f listed a w → wpAny P md ops Q f listed a w
 | 0, _, _, _, h => h
 | f + 1, _, _, _, h => ⟨h.1, fun i hi => wpOp_mono (fun a' w' h' => wpAnyT_any f _ a' w' h'.2) (h.2 i hi)⟩
theorem listed_of {i j : Nat} {listed : Array Bool} (hr : i ∈ Region.ready md ops listed) (hj : j ∈ Region.ready md ops listed) {oj : Oper} (hoj : ops[j]? = some oj) : ∀ e ∈ oj.after, Region.binds md e = true → e.on ≠ i := fun e he hb heq => by
 obtain ⟨_, o2, ho2, hall⟩ := mem_ready.1 hj
 obtain rfl : oj = o2 := by rw [hoj] at ho2; injection ho2
 have h1 := hall e he hb
 have h0 := (mem_ready.1 hr).1
 rw [heq] at h1
 rcases Nat.lt_or_ge i listed.size with h' | h'
 ·
  simp [h'] at h0 h1; rw [h0] at h1; cases h1
 simp [Array.getElem?_eq_none h'] at h1
theorem wpAnyT_first {i : Nat} {oi : Oper} {v : Value} (hi : ops[i]? = some oi) (hsel : ∀ (j : Nat) (o : Oper) cs b, ops[j]? = some o → o.op ≠ .select cs b)
  (hQ : ∀ c a w, Q (.panic c) (a.put oi.dst v) w → Q (.panic c) a w) (hT : ∀ j oj, ops[j]? = some oj → T j = true → ∃ e ∈ oj.after, Region.binds md e = true ∧ e.on = i) :
  ∀ (f : Nat) (listed : Array Bool) (a : Act) (w : World),
   (∀ j oj, ops[j]? = some oj → j ≠ i → listed.getD j true = false → (∀ e ∈ oj.after, Region.binds md e = true → e.on ≠ i) → oi.apart ops oj = true) →
   i ∈ Region.ready md ops listed → YieldsIf P ops S oi v a → S w →
   wpAnyT P md ops Q S T f (listed.setIfInBounds i true) (a.put oi.dst v) w → wpAnyT P md ops Q S T (f + 1) listed a w := by
 intro f
 induction f with
 | zero =>
  intro listed a w _ hr hy hS H
  refine ⟨fun h => (by rw [h] at hr; cases hr), fun j hj => ?_⟩
  by_cases hji : j = i
  ·
   subst hji; exact hy.wpOp hi hS ⟨fun _ => hS, H⟩
  have := ready_mono hj hji
  rw [H.1] at this; cases this
 | succ f ih =>
  intro listed a w hfree hr hy hS H
  refine ⟨fun h => (by rw [h] at hr; cases hr), fun j hj => ?_⟩
  by_cases hji : j = i
  ·
   subst hji; exact hy.wpOp hi hS ⟨fun _ => hS, H⟩
  have h1 := H.2 j (ready_mono hj hji)
  obtain ⟨hjun, oj, hoj, _⟩ := mem_ready.1 hj
  have hnot := listed_of hr hj hoj
  have hTj : T j = false := by
   cases hq : T j with
   | false => rfl
   | true => obtain ⟨e, he, hb, hon⟩ := hT j oj hoj hq; exact absurd hon (hnot e he hb)
  have h2 := wpOp_putIf hoj (hfree j oj hoj hji hjun hnot) (fun cs b => hsel i oi cs b hi) (fun cs b => hsel j oj cs b hoj) hQ hy h1
  have hfree' : ∀ k ok, ops[k]? = some ok → k ≠ i → (listed.setIfInBounds j true).getD k true = false → (∀ e ∈ ok.after, Region.binds md e = true → e.on ≠ i) → oi.apart ops ok = true := fun k ok hk hki hun hno => by
   refine hfree k ok hk hki ?_ hno
   by_cases hjk : j = k
   ·
    subst hjk; exact hjun
   rw [getD_set_ne true hjk] at hun; exact hun
  refine wpOp_mono (fun a' w' h3 => ⟨h3.2.1, ih (listed.setIfInBounds j true) a' w' hfree' (ready_mono hr (Ne.symm hji)) h3.1 (h3.2.1 hTj) ?_⟩) h2
  rw [Array.setIfInBounds_comm _ _ hji]
  exact h3.2.2
def lastB (md : Region.Mode) (ops : Array Oper) (T : Nat → Bool) (i : Nat) : Bool :=
 (List.range ops.size).all fun j => !T j || match ops[j]? with | some oj => oj.after.any (fun e => Region.binds md e && e.on == i) | none => true
theorem lastB_spec {i : Nat} (h : lastB md ops T i = true) : ∀ j oj, ops[j]? = some oj → T j = true → ∃ e ∈ oj.after, Region.binds md e = true ∧ e.on = i := fun j oj hj hT => by
 simp only [lastB, List.all_eq_true, List.mem_range] at h
 have h1 := h j (Array.getElem?_eq_some_iff.1 hj).1
 simp only [hT, hj, Bool.not_true, Bool.false_or] at h1
 obtain ⟨e, he, hb⟩ := Array.any_eq_true'.1 h1
 simp only [Bool.and_eq_true, beq_iff_eq] at hb
 exact ⟨e, he, hb.1, hb.2⟩
theorem wp_region_T {id : Nat} {a : Act} {w : World} (T : Nat → Bool) (hm : P.follows .mixedOrders = true) (hS : S w.drew)
  (h : S w.drew → wpAnyT P .any ops Q S T ops.size (Array.replicate ops.size false) a w.drew) : (Code.region id ops true).wp P Q a w :=
 wp_region_any hm (wpAnyT_any _ _ _ _ (h hS))
variable {f : Nat} {listed : Array Bool} {a : Act} {w : World} {oi : Oper}
theorem tkT {i : Nat} {v : Value} (r : wpAnyT P md ops Q S T f (listed.setIfInBounds i true) (a.put oi.dst v) w) (hi : ops[i]? = some oi := by rfl) (y : ∀ w, S w → (execOp a.eval oi).run P w = .ok (.value v) w := by (intro w hS; (try dsimp only at hS); go_simp; (first | done | with_reducible rfl)))
  (h1 : Region.noSelect ops = true := by kernel_rfl) (h2 : Region.free md ops listed i = true := by kernel_rfl) (h3 : (Region.ready md ops listed).contains i = true := by kernel_rfl) (h7 : lastB md ops T i = true := by kernel_rfl)
  (h4 : ∀ c a w, Q (.panic c) (a.put oi.dst v) w → Q (.panic c) a w := by exact fun _ _ _ h => h) (h5 : Region.wanted oi (yielded ops a.tmps) = true := by rfl) (h6 : S w := by assumption) : wpAnyT P md ops Q S T (f + 1) listed a w :=
 wpAnyT_first hi (Region.noSelect_spec h1) h4 (lastB_spec h7) f listed a w (Region.free_spec hi h2) (by simpa using h3) (.inl ⟨h5, y⟩) h6 r
theorem tksT {i : Nat} (r : wpAnyT P md ops Q S T f (listed.setIfInBounds i true) (a.put oi.dst undef) w) (hi : ops[i]? = some oi := by rfl)
  (h1 : Region.noSelect ops = true := by kernel_rfl) (h2 : Region.free md ops listed i = true := by kernel_rfl) (h3 : (Region.ready md ops listed).contains i = true := by kernel_rfl) (h7 : lastB md ops T i = true := by kernel_rfl)
  (h4 : ∀ c a w, Q (.panic c) (a.put oi.dst undef) w → Q (.panic c) a w := by exact fun _ _ _ h => h) (h5 : Region.wanted oi (yielded ops a.tmps) = false := by rfl) (h6 : S w := by assumption) : wpAnyT P md ops Q S T (f + 1) listed a w :=
 wpAnyT_first hi (Region.noSelect_spec h1) h4 (lastB_spec h7) f listed a w (Region.free_spec hi h2) (by simpa using h3) (.inr ⟨h5, rfl⟩) h6 r
def AllReadyT (P : Program) (md : Region.Mode) (ops : Array Oper) (Q : Exit → Act → World → Prop) (S : World → Prop) (T : Nat → Bool) (f : Nat) (listed : Array Bool) (a : Act) (w : World) (rs : List Nat) : Prop :=
 ∀ i ∈ rs, wpOp P ops Q i (fun a' w' => (T i = false → S w') ∧ wpAnyT P md ops Q S T f (listed.setIfInBounds i true) a' w') a w
theorem AllReadyT.nil : AllReadyT P md ops Q S T f listed a w [] := fun _ h => by cases h
theorem AllReadyT.cons {i : Nat} {o : Oper} {rs : List Nat} (ho : ops[i]? = some o)
  (h : ∀ K' : Act → World → Prop, Shut (∀ a w, S w → (S w → wpAnyT P md ops Q S T f (listed.setIfInBounds i true) a w) → K' a w) → if Region.wanted o (yielded ops a.tmps) = true then Oper.wp P o a w K' Q else K' (a.put o.dst undef) w)
  (hs : AllReadyT P md ops Q S T f listed a w rs) : AllReadyT P md ops Q S T f listed a w (i :: rs) := fun j hj => by
 rcases List.mem_cons.1 hj with rfl | hj
 ·
  exact wpOp_step ho (fun K' hK => h K' (fun a w hS hW => hK a w ⟨fun _ => hS, hW hS⟩))
 exact hs j hj
theorem AllReadyT.last {i : Nat} {o : Oper} (hT : T i = true) (ho : ops[i]? = some o)
  (h : ∀ K' : Act → World → Prop, Shut (∀ a w, wpAnyT P md ops Q S T f (listed.setIfInBounds i true) a w → K' a w) → if Region.wanted o (yielded ops a.tmps) = true then Oper.wp P o a w K' Q else K' (a.put o.dst undef) w) :
  AllReadyT P md ops Q S T f listed a w [i] := fun j hj => by
 rcases List.mem_cons.1 hj with rfl | hj
 ·
  exact wpOp_step ho (fun K' hK => h K' (fun a w hW => hK a w ⟨(fun h0 => by rw [hT] at h0; cases h0), hW⟩))
 cases hj
theorem wpAnyT_ready {rs : List Nat} (hr : Region.ready md ops listed = rs) (hne : rs ≠ []) (h : AllReadyT P md ops Q S T f listed a w rs) : wpAnyT P md ops Q S T (f + 1) listed a w :=
 ⟨fun h0 => absurd (hr ▸ h0) hne, hr ▸ h⟩
theorem wpAnyT_done (hr : Region.ready md ops listed = []) (h : Q .normal a w) : ∀ f, wpAnyT P md ops Q S T f listed a w
 | 0 => ⟨hr, h⟩
 | _ + 1 => ⟨fun _ => h, by rw [hr]; simp⟩
theorem rdT1 {i : Nat} {o : Oper} (h : ∀ K' : Act → World → Prop, Shut (∀ a w, S w → (S w → wpAnyT P md ops Q S T f (listed.setIfInBounds i true) a w) → K' a w) → if Region.wanted o (yielded ops a.tmps) = true then Oper.wp P o a w K' Q else K' (a.put o.dst undef) w) (hr : Region.ready md ops listed = [i] := by kernel_rfl) (ho : ops[i]? = some o := by rfl) : wpAnyT P md ops Q S T (f + 1) listed a w :=
 wpAnyT_ready hr (by simp) (AllReadyT.cons ho h AllReadyT.nil)
theorem rdTL {i : Nat} {o : Oper} (h : ∀ K' : Act → World → Prop, Shut (∀ a w, wpAnyT P md ops Q S T f (listed.setIfInBounds i true) a w → K' a w) → if Region.wanted o (yielded ops a.tmps) = true then Oper.wp P o a w K' Q else K' (a.put o.dst undef) w) (hr : Region.ready md ops listed = [i] := by kernel_rfl) (hT : T i = true := by rfl) (ho : ops[i]? = some o := by rfl) : wpAnyT P md ops Q S T (f + 1) listed a w :=
 wpAnyT_ready hr (by simp) (AllReadyT.last hT ho h)
end
end Go.Proofs.YtccmmibkihbobaaDoor

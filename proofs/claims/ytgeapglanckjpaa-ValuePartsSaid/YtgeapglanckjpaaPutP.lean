/- A map that fits fits with one more key. No condition. -/
import Derived.Test.YtgeapglanckjpaaPut
import Derived.Test.YtgeapglanckjpaaCmpP
import Derived.Test.YtgeapglanckjpaaGE
namespace Go.Proofs.Ytgeapglanckjpaa
open Go.ChangeShapes Go.WideShapes Go.ChangeAt Go.RowKit
def insL (l : List Val) (k : Val) (i : Nat) : List Val := l.take i ++ [k] ++ l.drop i
theorem insL_len (l : List Val) (k : Val) (i : Nat) : (insL l k i).length = l.length + 1 := by
 unfold insL
 simp only [List.length_append, List.length_take, List.length_drop, List.length_singleton]
 omega
theorem insL_all (P : Val → Bool) (l : List Val) (k : Val) (i : Nat) (hl : l.all P = true) (hk : P k = true) : (insL l k i).all P = true := by
 rw [List.all_eq_true] at hl ⊢
 intro y hy
 unfold insL at hy
 simp only [List.mem_append, List.mem_singleton] at hy
 rcases hy with (hy | hy) | hy
 ·
  exact hl y (List.mem_of_mem_take hy)
 ·
  rw [hy]; exact hk
 exact hl y (List.mem_of_mem_drop hy)
theorem insL_asc (k : Val) : ∀ l : List Val, ascB l = true → (∀ x, l[lowI l k]? = some x → compareV x k ≠ 0) → ascB (insL l k (lowI l k)) = true
 | [], _, _ => by simp [insL, ascB]
 | x :: r, h, hne => by
  by_cases hx : compareV x k < 0
  ·
   have hlow : lowI (x :: r) k = lowI r k + 1 := by rw [lowI, if_pos hx]
   rw [hlow] at hne ⊢
   have hr : ascB r = true := by
    cases r with
    | nil => rfl
    | cons y s => rw [ascB, Bool.and_eq_true] at h; exact h.2
   have ih := insL_asc k r hr (fun y hy => hne y (by simpa using hy))
   have he : insL (x :: r) k (lowI r k + 1) = x :: insL r k (lowI r k) := by simp [insL]
   rw [he]
   cases r with
   | nil => simp [insL, lowI, ascB, hx]
   | cons y s =>
    by_cases hy : compareV y k < 0
    ·
     have hl2 : lowI (y :: s) k = lowI s k + 1 := by rw [lowI, if_pos hy]
     rw [hl2] at ih ⊢
     have he2 : insL (y :: s) k (lowI s k + 1) = y :: insL s k (lowI s k) := by simp [insL]
     rw [he2] at ih ⊢
     rw [ascB, Bool.and_eq_true] at h ⊢
     exact ⟨h.1, ih⟩
    have hl2 : lowI (y :: s) k = 0 := by rw [lowI, if_neg hy]
    rw [hl2] at ih ⊢
    have he2 : insL (y :: s) k 0 = k :: y :: s := by simp [insL]
    rw [he2] at ih ⊢
    rw [ascB, ih, decide_eq_true hx]; rfl
  have hlow : lowI (x :: r) k = 0 := by rw [lowI, if_neg hx]
  rw [hlow] at hne ⊢
  have he : insL (x :: r) k 0 = k :: x :: r := by simp [insL]
  have h0 := hne x (by simp)
  rw [he, ascB, h, decide_eq_true (by rw [comp_neg x k]; omega)]; rfl
theorem putV_cases (v k it : Val) : putV v k it = v ∨ ((∀ x, v.keys[lowI v.keys k]? = some x → compareV x k ≠ 0) ∧ putV v k it = .mk v.kind v.bool v.num v.str v.id (insL v.keys k (lowI v.keys k)) (insL v.items it (lowI v.keys k)) v.rest) := by
 by_cases h : (match v.keys[lowI v.keys k]? with | some x => decide (compareV x k = 0) | none => false) = true
 ·
  exact .inl (if_pos h)
 refine .inr ⟨fun x hx => ?_, if_neg h⟩
 rw [hx] at h
 simpa using h
theorem body8 (ts : List Typ) (pl : Bool) (x : Typ) (hk : x.kind = 8) (v : Val) : bodyV ts pl x v = (decide ((v.keys.length : Int) ≤ x.max) && (decide (v.items.length = v.keys.length) && (fitL ts pl v.keys x.key && (ascB v.keys && fitL ts pl v.items x.elem)))) := by
 simp [bodyV, bodyR, hk]
theorem fit_put {ts : List Typ} {pl : Bool} {t : Int} {x : Typ} {v k it : Val} (hx : typAt ts t = some x) (hk : x.kind = 8) (hf : fitV ts pl v t = true) (h1 : fitV ts pl k x.key = true) (h2 : fitV ts pl it x.elem = true) (hm : (v.keys.length : Int) + 1 ≤ x.max) : fitV ts pl (putV v k it) t = true := by
 rcases putV_cases v k it with h | ⟨hne, h⟩
 ·
  rw [h]; exact hf
 rw [h]
 rw [fitV_eq, hx] at hf ⊢
 simp only [Bool.and_eq_true, decide_eq_true_eq] at hf ⊢
 obtain ⟨h3, h4, h5⟩ := hf
 have hvk : v.kind = 8 := h3.trans hk
 have h5' : (decide ((v.keys.length : Int) ≤ x.max) && (decide (v.items.length = v.keys.length) && (fitL ts pl v.keys x.key && (ascB v.keys && fitL ts pl v.items x.elem)))) = true := by simpa [bodyR, hk] using h5
 simp only [Bool.and_eq_true, decide_eq_true_eq, fitL_all] at h5'
 obtain ⟨h6, h7, h8, h9, h10⟩ := h5'
 refine ⟨h3, ?_, ?_⟩
 ·
  have hp : ∀ y : Val, y.kind = 8 → y.bool = v.bool → y.num = v.num → y.str = v.str → y.id = v.id → y.rest = v.rest → properB y = true := by
   intro y e1 e2 e3 e4 e5 e6
   simp [properB, hvk] at h4
   simp [properB, e1, e2, e3, e4, e5, e6, h4]
  exact hp _ hvk rfl rfl rfl rfl rfl
 have h11 : (decide (((insL v.keys k (lowI v.keys k)).length : Int) ≤ x.max) && (decide ((insL v.items it (lowI v.keys k)).length = (insL v.keys k (lowI v.keys k)).length) && (fitL ts pl (insL v.keys k (lowI v.keys k)) x.key && (ascB (insL v.keys k (lowI v.keys k)) && fitL ts pl (insL v.items it (lowI v.keys k)) x.elem)))) = true := by
  simp only [Bool.and_eq_true, decide_eq_true_eq, fitL_all, insL_len]
  exact ⟨by omega, by omega, insL_all _ _ _ _ h8 h1, insL_asc k _ h9 hne, insL_all _ _ _ _ h10 h2⟩
 exact (body8 ts pl x hk _).trans h11
end Go.Proofs.Ytgeapglanckjpaa

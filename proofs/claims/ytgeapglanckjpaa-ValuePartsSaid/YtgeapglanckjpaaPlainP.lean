/- What is plain for a type fits it. No condition. -/
import Derived.Test.YtgeapglanckjpaaGE
namespace Go.Proofs.Ytgeapglanckjpaa
open Go.ChangeShapes Go.WideShapes Go.ChangeAt Go.RowKit
theorem body_mono (x : Typ) (v : Val) (K K' I I' H H' : Int → Bool) (Z Z' : List Mem → Bool) (hK : ∀ t, K t = true → K' t = true) (hI : ∀ t, I t = true → I' t = true) (hZ : ∀ m, Z m = true → Z' m = true) (hH : ∀ t, H t = true → H' t = true)
  (h : bodyR true x v K I Z H = true) : bodyR false x v K' I' Z' H' = true := by
 unfold bodyR at h ⊢
 by_cases k2 : x.kind = 2
 ·
  rw [if_pos k2] at h ⊢; exact h
 rw [if_neg k2] at h ⊢
 by_cases k3 : x.kind = 3
 ·
  rw [if_pos k3] at h ⊢; exact h
 rw [if_neg k3] at h ⊢
 by_cases k4 : x.kind = 4
 ·
  rw [if_pos k4] at h ⊢
  rw [Bool.not_true, Bool.false_and, Bool.and_false, Bool.or_false] at h
  rw [h]; rfl
 rw [if_neg k4] at h ⊢
 by_cases k5 : x.kind = 5
 ·
  rw [if_pos k5] at h ⊢
  simp only [Bool.and_eq_true] at h
  obtain ⟨h1, _, h3, h4⟩ := h
  rw [h1, h3, hZ _ h4]; rfl
 rw [if_neg k5] at h ⊢
 by_cases k6 : x.kind = 6
 ·
  rw [if_pos k6] at h ⊢
  cases hm : memIdx x v.id with
  | none =>
   rw [hm] at h
   simp only [Bool.not_true, Bool.false_and, Bool.and_false] at h
   cases h
  | some i =>
   rw [hm] at h
   simp only [Bool.and_eq_true] at h ⊢
   refine ⟨h.1, h.2.1, ?_⟩
   have h3 := h.2.2
   cases hx : x.mems[i]? with
   | none => rw [hx] at h3; cases h3
   | some m => rw [hx] at h3; exact hH _ h3
 rw [if_neg k6] at h ⊢
 by_cases k7 : x.kind = 7
 ·
  rw [if_pos k7] at h ⊢
  simp only [Bool.and_eq_true] at h ⊢
  exact ⟨h.1, hI _ h.2⟩
 rw [if_neg k7] at h ⊢
 by_cases k8 : x.kind = 8
 ·
  rw [if_pos k8] at h ⊢
  simp only [Bool.and_eq_true] at h ⊢
  exact ⟨h.1, h.2.1, hK _ h.2.2.1, h.2.2.2.1, hI _ h.2.2.2.2⟩
 rw [if_neg k8] at h ⊢
 by_cases k9 : x.kind = 9
 ·
  rw [if_pos k9] at h ⊢
  simp only [Bool.and_eq_true] at h ⊢
  exact ⟨h.1, hI _ h.2⟩
 rw [if_neg k9]
mutual
theorem plain_fits (ts : List Typ) : ∀ (v : Val) (t : Int), fitV ts true v t = true → fitV ts false v t = true
 | .mk k b n s id ks is rs, t, h => by
  rw [fitV] at h ⊢
  cases hx : typAt ts t with
  | none => rw [hx] at h; cases h
  | some x =>
   rw [hx] at h
   simp only [Bool.and_eq_true] at h ⊢
   exact ⟨h.1, h.2.1, body_mono x _ _ _ _ _ _ _ _ _ (plain_fitsL ts ks) (plain_fitsL ts is) (plain_fitsZ ts is) (plain_fitsH ts is) h.2.2⟩
theorem plain_fitsL (ts : List Typ) : ∀ (l : List Val) (t : Int), fitL ts true l t = true → fitL ts false l t = true
 | [], _, _ => by rw [fitL]
 | y :: r, t, h => by
  rw [fitL, Bool.and_eq_true] at h ⊢
  exact ⟨plain_fits ts y t h.1, plain_fitsL ts r t h.2⟩
theorem plain_fitsZ (ts : List Typ) : ∀ (l : List Val) (ms : List Mem), fitZ ts true l ms = true → fitZ ts false l ms = true
 | [], [], _ => by rw [fitZ]
 | y :: r, m :: ms, h => by
  rw [fitZ, Bool.and_eq_true] at h ⊢
  exact ⟨plain_fits ts y m.ty h.1, plain_fitsZ ts r ms h.2⟩
 | [], _ :: _, h => by rw [fitZ] at h; cases h
 | _ :: _, [], h => by rw [fitZ] at h; cases h
theorem plain_fitsH (ts : List Typ) : ∀ (l : List Val) (t : Int), fitH ts true l t = true → fitH ts false l t = true
 | [], _, h => by rw [fitH] at h; cases h
 | y :: _, t, h => by
  rw [fitH] at h ⊢
  exact plain_fits ts y t h
end
end Go.Proofs.Ytgeapglanckjpaa

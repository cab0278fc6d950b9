/- Plain: what sheaveref07.own says is what schema.form says. What memory reads as a type reads as that type's plain form too. No condition. -/
import Derived.Test.YtjajgclchapllaaGN
import Derived.Test.YtjajgclchapllaaGM
import Derived.Test.YtjajgclchapllaaSameT
namespace Go.Proofs.Ytjajgclchapllaa
open Go.ChangeShapes Go.WideShapes Go.ChangeAt Go.RowKit
def ownK (x : Typ) : Bool :=
 if x.kind = 2 then decide (x.low ≤ x.high)
 else if x.kind = 3 then decide (0 ≤ x.max) && decide (x.max ≤ 200)
 else if x.kind = 4 then symB x.syms
 else if x.kind = 5 then rmemB true x.mems
 else if x.kind = 6 then rmemB false x.mems
 else if x.kind = 7 ∨ x.kind = 8 then decide (0 ≤ x.max) && decide (x.max ≤ 50)
 else true
def ownB (x : Typ) : Bool := decide (1 ≤ x.kind ∧ x.kind ≤ 9) && (sameT x (plainT x) && ((!namedI x.kind || nameB x.name) && ownK x))
theorem same_plain (x : Typ) (h : KindIn x.kind) : sameT x (plainT x) = sameZ (restT x) typZ := by
 rw [Bool.eq_iff_iff]
 unfold sameT sameZ
 rcases kind_cases h with k | k | k | k | k | k | k | k | k <;>
  simp [plainT, restT, typZ, k, List.length_eq_zero_iff] <;> (try constructor) <;> (try (intro hh; simp_all; done)) <;> (try (intro hh; grind))
theorem rmem_rec (x : Typ) (k : x.kind = 5) : rmemB true x.mems = membersB x := by
 unfold rmemB membersB idsB
 rw [decide_eq_true k, decide_eq_false (show ¬ x.kind = 6 by omega)]
 rw [Bool.eq_iff_iff]; simp [and_assoc]
theorem rmem_uni (x : Typ) (k : x.kind = 6) : rmemB false x.mems = membersB x := by
 unfold rmemB membersB idsB
 rw [decide_eq_false (show ¬ x.kind = 5 by omega), decide_eq_true k]
 rw [Bool.eq_iff_iff]; simp [and_assoc]
 intro _
 constructor
 ·
  rintro ⟨h1, h2, h3⟩; exact ⟨by omega, h1, h2⟩
 ·
  rintro ⟨h1, h2, h3⟩; exact ⟨h2, h3, by omega⟩
theorem own_form_eq (x : Typ) : ownB x = formB x := by
 unfold ownB formB
 by_cases h : 1 ≤ x.kind ∧ x.kind ≤ 9
 ·
  rw [decide_eq_true h, Bool.true_and, Bool.true_and, same_plain x h, Bool.and_comm]
  congr 1
  unfold ownK okT namedI
  rcases kind_cases h with k | k | k | k | k | k | k | k | k <;> simp [k]
  ·
   rw [rmem_rec x k]
  ·
   rw [rmem_uni x k]
 ·
  rw [decide_eq_false h]; rfl
end Go.Proofs.Ytjajgclchapllaa
namespace Go.Proofs.Ytjajgclchapllaa
open Go.ChangeShapes Go.WideShapes Go.ChangeAt Go.RowKit
theorem rdmems_nil' (w : World) (B : Nat) : RdMems w B (.slice none 0 0) [] := ⟨fun _ => [], ⟨none, 0, rfl, Nat.le_refl _, .inl rfl⟩, fun i h => by simp at h⟩
theorem i64_0 : I64 0 := by simp [I64]
theorem typat_plain {w : World} {B : Nat} {x : Typ} {vs vm : Value} (h : TypAt w B x vs vm) (hk : KindIn x.kind) : TypAt w B (plainT x) (plainS x vs) (plainM x vm) := by
 obtain ⟨⟨h1, h2, h3, h4, h5, h6⟩, hn, ⟨hl1, hl2⟩, hsi, hs, hm⟩ := h
 have n2 := Rd.nil_ w B 2
 have nm := rdmems_nil' w B
 have z := i64_0
 unfold plainT plainS plainM
 rcases kind_cases hk with k | k | k | k | k | k | k | k | k <;> simp only [k] <;> rw [k] at h1 <;>
  exact ⟨⟨by first | assumption | exact h1, by first | exact h2 | exact z, by first | exact h3 | exact z, by first | exact h4 | exact z, by first | exact h5 | exact z, by first | exact h6 | exact z⟩,
   by first | exact hn | simp [typZ], ⟨by first | exact hl1 | simp [typZ], by first | exact hl2 | simp [typZ]⟩, by first | exact hsi | simp [typZ], by first | exact hs | exact n2, by first | exact hm | exact nm⟩
end Go.Proofs.Ytjajgclchapllaa

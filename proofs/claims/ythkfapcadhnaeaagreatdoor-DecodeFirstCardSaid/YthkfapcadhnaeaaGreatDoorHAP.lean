/- Plain: what sheaveref07.own says is what schema.form says. What memory reads as a type reads as that type's plain form too. No condition. -/
import Derived.Test.YthkfapcadhnaeaaGreatDoorHAO
import Derived.Test.YthkfapcadhnaeaaGreatDoorRMem
import Derived.Test.YthkfapcadhnaeaaGreatDoorSameT
namespace Go.Proofs.YthkfapcadhnaeaaGreatDoor
open Go.ChangeShapes Go.WideShapes Go.ChangeAt Go.RowKit
def pK (x:aC):Bool :=
 if x.kind=2 then decide (x.low≤x.high)
 else if x.kind=3 then decide (0≤x.max) && decide (x.max≤200)
 else if x.kind=4 then sH x.syms
 else if x.kind=5 then gK true x.aj
 else if x.kind=6 then gK false x.aj
 else if x.kind=7∨x.kind=8 then decide (0≤x.max) && decide (x.max≤50)
 else true
def ownB (x:aC):Bool:=decide (1≤x.kind∧x.kind≤9) && (jO x (gU x) && ((!lQ x.kind || nameB x.name) && pK x))
theorem ZA (x:aC) (h:fJ x.kind):jO x (gU x)=gy (fQ x) fZ:=by
 rw [Bool.eq_iff_iff]
 unfold jO gy
 rcases sN h with k | k | k | k | k | k | k | k | k <;>
  simp [gU,fQ,fZ,k,List.length_eq_zero_iff] <;> (try constructor) <;> (try (intro hh;simp_all;done)) <;> (try (intro hh;grind))
theorem ad2 (x:aC) (k:x.kind=5):gK true x.aj=fU x:=by
 unfold gK fU kG
 rw [decide_eq_true k,decide_eq_false (show ¬ x.kind=6 by omega)]
 rw [Bool.eq_iff_iff];simp [and_assoc]
theorem ad3 (x:aC) (k:x.kind=6):gK false x.aj=fU x:=by
 unfold gK fU kG
 rw [decide_eq_false (show ¬ x.kind=5 by omega),decide_eq_true k]
 rw [Bool.eq_iff_iff];simp [and_assoc]
 intro _
 constructor
 · rintro ⟨h1,h2,h3⟩;exact ⟨by omega,h1,h2⟩
 rintro ⟨h1,h2,h3⟩;exact ⟨h2,h3,by omega⟩
theorem WY (x:aC):ownB x=dH x:=by
 unfold ownB dH
 by_cases h:1≤x.kind∧x.kind≤9
 ·
  rw [decide_eq_true h,Bool.true_and,Bool.true_and,ZA x h,Bool.and_comm]
  congr 1
  unfold pK rM lQ
  rcases sN h with k | k | k | k | k | k | k | k | k <;> simp [k]
  · rw [ad2 x k]
  rw [ad3 x k]
 rw [decide_eq_false h];rfl
end Go.Proofs.YthkfapcadhnaeaaGreatDoor
namespace Go.Proofs.YthkfapcadhnaeaaGreatDoor
open Go.ChangeShapes Go.WideShapes Go.ChangeAt Go.RowKit
theorem WZ (w:World) (B:Nat):lN w B (.slice none 0 0) []:=⟨fun _ => [],⟨none,0,rfl,Nat.le_refl _,.inl rfl⟩,fun i h => by simp at h⟩
theorem ajN:I64 0:=by simp [I64]
theorem W9 {w:World} {B:Nat} {x:aC} {vs vm:Value} (h:eX w B x vs vm) (hk:fJ x.kind):eX w B (gU x) (jg x vs) (jh x vm):=by
 obtain ⟨⟨h1,h2,h3,h4,h5,h6⟩,hn,⟨hl1,hl2⟩,hsi,hs,hm⟩:=h
 have n2:=Rd.nil_ w B 2
 have nm:=WZ w B
 have z:=ajN
 unfold gU jg jh
 rcases sN hk with k | k | k | k | k | k | k | k | k <;> simp only [k] <;> rw [k] at h1 <;>
  exact ⟨⟨by first | assumption | exact h1,by first | exact h2 | exact z,by first | exact h3 | exact z,by first | exact h4 | exact z,by first | exact h5 | exact z,by first | exact h6 | exact z⟩,
   by first | exact hn | simp [fZ],⟨by first | exact hl1 | simp [fZ],by first | exact hl2 | simp [fZ]⟩,by first | exact hsi | simp [fZ],by first | exact hs | exact n2,by first | exact hm | exact nm⟩
end Go.Proofs.YthkfapcadhnaeaaGreatDoor

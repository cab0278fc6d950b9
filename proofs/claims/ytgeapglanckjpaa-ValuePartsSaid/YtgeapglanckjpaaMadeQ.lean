/- The maker's value leaves a value that fits, for each type of a draft's schema. No condition. -/
import Derived.Test.YtgeapglanckjpaaValueC
import Derived.Test.YtgeapglanckjpaaValueE
import Derived.Test.YtgeapglanckjpaaPlainP
import Derived.Test.YtgeapglanckjpaaGU
namespace Go.Proofs.Ytgeapglanckjpaa
open Go.ChangeShapes Go.WideShapes Go.ChangeAt Go.RowKit
theorem partsK_nodup (xs : List Nod) (i : Nat) (hi : i < xs.length) (rc : Bool) (ps : List Prt) (k : Nat) : ((partsK xs i rc ps k).map Mem.id).Nodup := by
 induction k with
 | zero => simp [partsK]
 | succ k ih =>
  rw [partsK, List.map_append, List.nodup_append]
  refine ⟨ih, ?_, fun a ha b hb => ?_⟩
  ·
   unfold partFor
   cases h : ps.findSome? (partOf xs i rc (k + 1)) <;> simp
  simp only [List.mem_map] at ha hb
  obtain ⟨m, hm, rfl⟩ := ha
  obtain ⟨q, hq, rfl⟩ := hb
  obtain ⟨id, p, h1, h2, _, h3⟩ := partsK_mem xs i rc ps k m hm
  have h4 := (partOf_down xs i hi rc id p m h3).1
  unfold partFor at hq
  cases h : ps.findSome? (partOf xs i rc (k + 1)) with
  | none => rw [h] at hq; simp at hq
  | some r =>
   rw [h] at hq
   have hq2 : q = r := by simpa using hq
   subst hq2
   obtain ⟨p2, _, h5⟩ := List.exists_of_findSome?_eq_some h
   have h6 := (partOf_down xs i hi rc (k + 1) p2 q h5).1
   omega
theorem typN_nodup (xs : List Nod) (i : Nat) (hi : i < xs.length) : ((typN xs i xs[i]).mems.map Mem.id).Nodup := by
 have hp : ∀ rc ps, ((partsN xs i rc ps).map Mem.id).Nodup := fun rc ps => by
  unfold partsN
  generalize 12 = n
  exact partsK_nodup xs i hi rc ps n
 unfold typN
 simp only
 repeat' split
 all_goals first
  | (simp [typ0]; done)
  | (dsimp only; exact hp _ _)
  | exact hp _ _
theorem fit_any {ts : List Typ} (pl : Bool) {v : Val} {t : Int} (h : fitV ts true v t = true) : fitV ts pl v t = true := by
 cases pl with
 | true => exact h
 | false => exact plain_fits ts v t h
theorem MadeIH.mono {B gm : Nat} {vt : Value} {odd : Bool} {ts : List Typ} {N M : Nat} (h : MadeIH B gm vt odd ts N) (hM : M ≤ N) : MadeIH B gm vt odd ts M :=
 ⟨fun l j w hm hj h1 h2 => h.at_ l j w (Nat.lt_of_lt_of_le hm hM) hj h1 h2⟩
theorem made_all (xs : List Nod) (h5 : xs.length ≤ 5) (B gm : Nat) (A : Option Addr) (c : Nat) (odd : Bool) : ∀ N : Nat, MadeIH B gm (.slice A (ofN xs).length c) odd (ofN xs) N
 | 0 => ⟨fun _ _ _ h => absurd h (Nat.not_lt_zero _)⟩
 | N + 1 => ⟨fun l i w hm hi h1 h2 => by
  have ih : MadeIH B gm (.slice A (ofN xs).length c) odd (ofN xs) (7 * l.length + rankT (ofN xs) i) := (made_all xs h5 B gm A c odd N).mono (by omega)
  have hlen : (ofN xs).length = xs.length := ofNl xs
  have hix : i < xs.length := by omega
  have hty : (ofN xs)[i] = typN xs i xs[i] := ofNg xs i hix
  have hmk := typN_make xs i hix
  have hkd := typN_kind xs i xs[i]
  have hdf := typN_dflt xs i hix
  have hnd := typN_nodup xs i hix
  have htw := typN_two xs i xs[i]
  have hpl := typN_plain xs i xs[i] h5 hix
  rw [← hty] at hmk hkd hdf hnd htw hpl
  have h6 : (ofN xs).length ≤ 6 := by omega
  have hu : ∀ n : Nat, 15 ≤ n → usedB (ofN xs)[i] n = false := fun n hn => by
   obtain ⟨h1, h2⟩ := hmk.free n (by omega)
   unfold usedB; rw [h1, h2]; rfl
  have hk : (ofN xs)[i].kind = 1 ∨ (ofN xs)[i].kind = 2 ∨ (ofN xs)[i].kind = 3 ∨ (ofN xs)[i].kind = 4 ∨ (ofN xs)[i].kind = 5 ∨ (ofN xs)[i].kind = 6 ∨ (ofN xs)[i].kind = 7 ∨ (ofN xs)[i].kind = 8 ∨ (ofN xs)[i].kind = 9 := by omega
  rcases hk with hk | hk | hk | hk | hk | hk | hk | hk | hk
  ·
   exact value1_any B gm A c odd l (ofN xs) i hi w hk h1 h2
  ·
   exact value2_any B gm A c odd l (ofN xs) i hi w hk (htw hk) h1 h2
  ·
   obtain ⟨a1, a2⟩ := hmk.three hk
   exact value3_any B gm A c odd l (ofN xs) i hi w hk (ofN xs)[i].max.toNat (by omega) (by omega) h1 h2
  ·
   exact value4_any B gm A c odd l (ofN xs) i hi w hk ⟨hmk.four hk, hmk.syms.1⟩ hmk.syms.2 hu h1 h2
  ·
   exact value5_any B gm A c odd l (ofN xs) i hi w hk hmk.mems.1 hu (fun m hm => (hpl.memsin m hm).2.2.2.2.2.2.2) (fun m hm hd => fit_any _ (hdf m hm hd)) (ih.mem hi (by omega) fun m hm => (hmk.mems.2 m hm).2) h1 h2
  ·
   exact value6_any B gm A c odd l (ofN xs) i hi w hk ⟨hmk.six hk, hmk.mems.1⟩ (fun m hm => (hmk.mems.2 m hm).1) hnd hu (ih.mem hi (by omega) fun m hm => (hmk.mems.2 m hm).2) h1 h2
  ·
   obtain ⟨a1, a2⟩ := hmk.max (.inl hk)
   obtain ⟨j, hj1, hj2⟩ := hmk.elem (by omega)
   exact value7_any B gm A c odd l (ofN xs) i hi w hk j hj2 hj1 h6 (ofN xs)[i].max.toNat (by omega) (by omega) ih h1 h2
  ·
   obtain ⟨a1, a2⟩ := hmk.max (.inr hk)
   obtain ⟨j, hj1, hj2⟩ := hmk.elem (by omega)
   obtain ⟨jk, hk1, hk2, _⟩ := hmk.key hk
   exact value8_any B gm A c odd l (ofN xs) i hi w hk j hj2 hj1 jk hk2 hk1 h6 (ofN xs)[i].max.toNat (by omega) (by omega) ih h1 h2
  obtain ⟨j, hj1, hj2⟩ := hmk.elem (by omega)
  exact value9_any B gm A c odd l (ofN xs) i hi w hk j hj2 hj1 h6 ih h1 h2⟩
end Go.Proofs.Ytgeapglanckjpaa

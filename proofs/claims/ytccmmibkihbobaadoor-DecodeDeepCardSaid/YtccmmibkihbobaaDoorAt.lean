/- What At of the program computes. No condition. -/
import Derived.Test.YtccmmibkihbobaaDoorHAH
import Derived.Test.YtccmmibkihbobaaDoorHAG
import Derived.Deep.Cut
namespace Go.Proofs.YtccmmibkihbobaaDoor
open Go.ChangeShapes Go.WideShapes Go.ChangeAt Go.RowKit
theorem typAt_nat {ts : List Typ} {t : Int} {x : Typ} (h : typAt ts t = some x) : ∃ n : Nat, t = n ∧ ∃ hn : n < ts.length, ts[n] = x := by
 unfold typAt at h
 split at h
 ·
  obtain ⟨h1, h2⟩ := List.getElem?_eq_some_iff.1 h
  exact ⟨t.toNat, by omega, h1, h2⟩
 cases h
theorem fit_typ {ts : List Typ} {pl : Bool} {v : Val} {t : Int} (h : fitV ts pl v t = true) : ∃ x, typAt ts t = some x := by
 cases hx : typAt ts t with
 | none => rw [fitV_eq, hx] at h; cases h
 | some x => exact ⟨x, rfl⟩
theorem ValAt.mono {w : World} {B B' : Nat} {x : Val} {vk vi vr : Value} (h : ValAt w B x vk vi vr) (hB : B ≤ B') : ValAt w B' x vk vi vr := h.keep (fun _ _ => rfl) hB
theorem ints_at {w : World} {b o : Nat} {zs : List Int} (h : ∀ j u, (zs.map (Value.int .i64))[j]? = some u → w.cell? ⟨b, o + j, none⟩ = some u) (k : Nat) (hk : k < zs.length) : w.cell? ⟨b, o + k, none⟩ = some (.int .i64 zs[k]) :=
 h k _ (by simp [hk])
theorem has_setRow {w : World} {g k : Nat} {T : TypeId} {cs cs' : Array Value} (h : Has w g T cs) (hne : g ≠ k) : Has (w.setRow k cs') g T cs := (setRow_other _ _ _ _ hne).trans h
def AtPostF (w : World) (r : Except Int (Val × Int)) (e : Ending) (w' : World) : Prop :=
 match r with
 | .ok q => (∃ vk vi vr, e = .returned (.tuple #[valA q.1 vk vi vr, .int .i64 q.2, .int .i64 0]) ∧ ValP w' (fun b => w.heap.size ≤ b ∧ b < w'.heap.size) q.1 vk vi vr) ∧ Below w.heap.size w w'
 | .error n => e = .returned (.tuple #[.agg #[.int .i64 0, .bool false, .int .i64 0, .string ⟨#[]⟩, .int .i64 0, .slice none 0 0, .slice none 0 0, .slice none 0 0], .int .i64 0, .int .i64 n]) ∧ Below w.heap.size w w'
theorem AtPostF.post {w w' : World} {r : Except Int (Val × Int)} {e : Ending} (h : AtPostF w r e w') : AtPost w r e w' := by
 cases r with
 | ok q =>
  obtain ⟨⟨vk, vi, vr, he, hv⟩, hb⟩ := h
  exact ⟨⟨vk, vi, vr, he, hv.at_ (fun _ h => h.2)⟩, hb⟩
 | error n => exact h
def zeroA : List Value := [.int .i64 0, .bool false, .int .i64 0, .string ⟨#[]⟩, .int .i64 0, .slice none 0 0, .slice none 0 0, .slice none 0 0]
structure AtRel (w : World) (ts : List Typ) (A : Option Addr) (c : Nat) (path : List Int) (v : Val) (t : Int) (T TS : TypeId) (k : Nat) (u : Val) (s : Int) (wr : World) : Prop where
 sch : Has wr w.heap.size TS #[.slice A ts.length c]
 res : Has wr (w.heap.size + 1 + 1) T #[.int .i64 0, .bool false, .int .i64 0, .string ⟨#[]⟩, .int .i64 0, .slice none 0 0, .slice none 0 0, .slice none 0 0]
 blk : ∃ vk vi vr, Has wr (w.heap.size + 1) T (valV u vk vi vr).toArray ∧ ValAt wr w.heap.size u vk vi vr
 fit : fitV ts false u s = true
 wtu : wt u ≤ 5000
 le : k ≤ path.length
 at_ : atV ts path v t = atV ts (path.drop k) u s
 bel : Below w.heap.size w wr
end Go.Proofs.YtccmmibkihbobaaDoor

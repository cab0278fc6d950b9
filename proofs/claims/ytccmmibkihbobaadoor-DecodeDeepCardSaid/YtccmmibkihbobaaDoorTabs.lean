/- What the listed variables of layer 10 read as. No condition. -/
import Derived.Test.YtccmmibkihbobaaDoorHAK
import Derived.Test.YtccmmibkihbobaaDoorTie
import Derived.Test.YtccmmibkihbobaaDoorCards
import Derived.SevenTiedAt
import Derived.ProofKit
import Derived.LaidMore
import Derived.OpenShut
import Derived.Stop.Joined
import Derived.Lib.LaidTab
import Derived.Deep.Strs
namespace Go.Proofs.YtccmmibkihbobaaDoor
open Go.ChangeShapes Go.WideShapes Go.ChangeAt Go.RowKit
def laid4 : List (String × DataW Unit) := [("math/bits.deBruijn32tab", Rows.laid_math_bits_deBruijn32tab), ("math/bits.deBruijn64tab", Rows.laid_math_bits_deBruijn64tab), ("internal/strconv.uint64pow10", Rows.laid_internal_strconv_uint64pow10), ("sheave/decode.reasons", Rows.laid_sheave_decode_reasons)]
theorem rs_data : (Rows.laid_sheave_decode_reasons : DataW Unit) = .slice (reasonL.map fun l => .lit (.string l)) [] := by rfl
theorem pow_data : (Rows.laid_internal_strconv_uint64pow10 : DataW Unit) = Lib.tabData .u64 Lib.pow10Tab := by rfl
theorem add_plain (b o i : Nat) : (⟨b, o, none⟩ : Addr).add i = ⟨b, o + i, none⟩ := by unfold Addr.add; split <;> simp_all
theorem addr_plain {w : World} {a : Addr} {u : Value} (h : w.cell? a = some u) : a = ⟨a.block, a.off, none⟩ ∧ a.block < w.heap.size := by
 have h2 := World.block_lt_of_cell? _ _ h
 obtain ⟨b, o, sp⟩ := a
 cases sp with
 | none => exact ⟨rfl, h2⟩
 | some s => simp [World.cell?] at h; split at h <;> simp at h
theorem tabs_of {W : World} (h : laidMetH Tryd.prog laid4 W) : TabsR W := by
 rw [MakeChecks.laidMetH_plain _ _ _ (by kernel_rfl)] at h
 obtain ⟨ps, ⟨g0, t0, c0, f0, p0, q0, _, _, _, _, ⟨g1, t1, c1, f1, p1, q1, _, _, _, _, ⟨g2, t2, c2, f2, p2, q2, hg2, ht2, hv2, hd2, ⟨g3, t3, c3, f3, p3, q3, hg3, ht3, hv3, hd3, _, _⟩, _⟩, _⟩, _⟩, _⟩ := h
 obtain rfl := Option.some.inj ((show Tryd.prog.globalNamed "internal/strconv.uint64pow10" = some 2 by kernel_rfl).symm.trans hg2)
 obtain rfl := Option.some.inj ((show Tryd.prog.globalNamed "sheave/decode.reasons" = some 0 by kernel_rfl).symm.trans hg3)
 obtain rfl := Option.some.inj ((show (Tryd.prog.globals[2]?).map (·.type) = some 134 by kernel_rfl).symm.trans ht2)
 obtain rfl := Option.some.inj ((show (Tryd.prog.globals[0]?).map (·.type) = some 52 by kernel_rfl).symm.trans ht3)
 refine ⟨?_, ?_⟩
 ·
  rw [pow_data] at hd2
  have hc := Lib.cells_of_tab Tryd.underlying134 Tryd.underlying84 (by kernel_rfl) (by kernel_rfl) hd2
  unfold Lib.TabIs
  rw [hv2, ← hc]
 rw [rs_data] at hd3
 rcases Go.Deep.open_strs Tryd.underlying52 Tryd.underlying9 (by kernel_rfl) hd3 with ⟨_, hx⟩ | ⟨a, len, cap, m, Sx, hcs, _, _, _, _, hx, hcell⟩
 ·
  cases hx
 rename_i hmm
 injection hx with hx1 hx2
 injection hx1 with hx3 hx4
 have hlen : len = 10 := by have := congrArg List.length hx3; simpa [reasonL] using this.symm
 subst hlen
 have hm0 : m - 10 = 0 := by have := congrArg List.length hx4; simpa using this.symm
 have hm : 10 ≤ m := by rw [hmm]; split <;> omega
 have hs : ∀ i s, reasonL[i]? = some s → (⟨s.toArray⟩ : ByteArray) = Sx i ∧ i < 10 := fun i s hi => by
  have hlt : i < 10 := (List.getElem?_eq_some_iff.1 hi).1
  have h1 := congrArg (·[i]?) hx3
  simp only [List.getElem?_map, hi, Option.map_some, List.getElem?_range hlt, Option.some.injEq, DataW.lit.injEq, Lit.string.injEq] at h1
  refine ⟨?_, hlt⟩
  rw [h1]
 have h0 := (hcell 0 (by omega)).1
 have e0 : a.add 0 = a := by simp [Addr.add]
 rw [e0] at h0
 obtain ⟨ha, hb⟩ := addr_plain h0
 have hv := World.var?_cell hg3 hv3 0
 have hgc : W.cell? ⟨0, 0, none⟩ = some (.slice (some ⟨a.block, a.off, none⟩) 10 cap) := by
  rw [hv, ← ha]
  cases c3 with
  | mk l => simp only at hcs; subst hcs; rfl
 refine ⟨a.block, a.off, cap, hgc, hb, World.block_lt_of_cell? _ _ hgc, fun i s hi => ?_⟩
 obtain ⟨h1, h2⟩ := hs i s hi
 have h3 := (hcell i (by omega)).1
 rw [ha] at h3
 rw [h1]
 rw [add_plain] at h3
 exact h3
theorem door_met (os : Os) (args : Array Value) : laidMetH Tryd.prog laid4 ((World.doorLaid Tryd.prog 400 os).forCall (fun _ _ => 0) ⟨#[], args, []⟩).memory :=
 laidMetH_of_parts3 (fuel := 8) (laidMet_of_run' 8 (by kernel_rfl) (by kernel_rfl)) (by kernel_rfl) (by kernel_rfl)
end Go.Proofs.YtccmmibkihbobaaDoor

/- The examples of layer 4: awake returns true. No condition. -/
import Derived.Test.YtcnpihilbpaljaaDigFrames
import Derived.Test.YtcnpihilbpaljaaDigHash
namespace Go.Proofs.Ytcnpihilbpaljaa
open Go.ChangeShapes Go.WideShapes Go.ChangeAt Go.RowKit

theorem ex1 : frame [] = ([0, 0, 0, 0, 0], 0) := by decide +kernel
theorem ex2 : frames [0, 0, 0, 0, 0, 3] = ([[]], 5, 10) := by decide +kernel
theorem ex3 : crc [49, 50, 51, 52, 53, 54, 55, 56, 57] = 3421780262 := by decide +kernel
theorem ex4 : crc [] = 0 := by decide +kernel
theorem ex5 : hashL hash0 [] = 14695981039346656037 := by decide +kernel
theorem ex6 : hashL hash0 [97] = 12638187200555641996 := by decide +kernel
theorem ex7 : hexL 12638187200555641996 = [97, 102, 54, 51, 100, 99, 52, 99, 56, 54, 48, 49, 101, 99, 56, 99] := by decide +kernel

set_option maxRecDepth 100000 in
set_option maxHeartbeats 400000 in
theorem awake_any (w : World) :
    Calls Try.prog 11 #[] w fun e w' => e = .returned (.bool true) ∧ Below w.heap.size w w' := by
  go_enter Try.func11, Try.ntmps11
  go_wp2_with fail
  have h := dframe_any [] (by simp) w
  simp only [ex1] at h
  refine h.mono ?_
  rintro e w1 ⟨rfl, hb1⟩
  clear h
  go_wp2_with fail
  have h := dframes_any [0, 0, 0, 0, 0, 3] (by simp) w1
  simp only [ex2] at h
  refine h.mono ?_
  rintro e w2 ⟨v, rfl, hown, hb2⟩
  clear h
  have hr := Rd.of_own hown
  clear hown
  obtain ⟨A, c, rfl, hc⟩ := hr.form
  obtain ⟨b, o, rfl, hbb, hcell⟩ := hr.at_ (by simp)
  have hc0 : w2.cell? ⟨b, o + 0, none⟩ = some (.string ⟨([] : List UInt8).toArray⟩) := hcell 0 _ rfl
  clear hr hcell
  simp only [Nat.add_zero] at hc0
  go_wp2_with fail
  have h := dcrc_any [49, 50, 51, 52, 53, 54, 55, 56, 57] (by simp) w2
  simp only [ex3] at h
  refine h.mono ?_
  rintro e w3 ⟨rfl, rfl⟩
  clear h
  go_wp2_with fail
  have h := dcrc_any [] (by simp) w2
  simp only [ex4] at h
  refine h.mono ?_
  rintro e w3 ⟨rfl, rfl⟩
  clear h
  go_wp2_with fail
  have h := dhash_any [] (by simp) w2
  simp only [ex5] at h
  refine h.mono ?_
  rintro e w3 ⟨rfl, rfl⟩
  clear h
  go_wp2_with fail
  have h := dhash_any [97] (by simp) w2
  simp only [ex6] at h
  refine h.mono ?_
  rintro e w3 ⟨rfl, rfl⟩
  clear h
  go_wp2_with fail
  have h := dhex_any 12638187200555641996 (by unfold U64; omega) w2
  simp only [ex7] at h
  refine h.mono ?_
  rintro e w3 ⟨rfl, hb3⟩
  clear h
  have hc3 : w3.cell? ⟨b, o, none⟩ = some (.string ⟨([] : List UInt8).toArray⟩) := (hb3.cell hbb).trans hc0
  clear hc0
  have hbf := (hb1.trans (hb2.mono hb1.size)).trans (hb3.mono (Nat.le_trans hb1.size hb2.size))
  clear hb1 hb2 hb3
  go_wp2_with fail
  go_ret
  exact ⟨rfl, hbf⟩
end Go.Proofs.Ytcnpihilbpaljaa

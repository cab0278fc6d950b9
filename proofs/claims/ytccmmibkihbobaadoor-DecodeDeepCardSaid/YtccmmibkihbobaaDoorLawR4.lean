/- The statement DecodeDeep: a chain of optionals can be decoded exactly up to the deepest level. No condition. -/
import Derived.Test.YtccmmibkihbobaaDoorAwk
import Derived.Test.YtccmmibkihbobaaDoorTabs
import Derived.Test.YtccmmibkihbobaaDoorDeepP
set_option maxHeartbeats 1600000
namespace Go.Proofs.YtccmmibkihbobaaDoor
open Go.ChangeShapes Go.WideShapes Go.ChangeAt Go.RowKit
theorem wf_u16 {a : Int} (h : (Lit.int .u16 a).wf = true) : ∃ n : Nat, a = (n : Int) ∧ n < 65536 := by
 simp [Lit.wf, IntKind.min, IntKind.max, IntKind.bits, IntKind.signed] at h
 exact ⟨a.toNat, by omega, by omega⟩
theorem repeat_one (c : Nat) : Lib.repeatL [1] c = List.replicate c 1 := by
 induction c with
 | zero => rfl
 | succ c ih => rw [Lib.repeatL, ih, List.replicate_succ]; rfl
theorem repeat_any (c : Nat) (w : World) (hc : c < 65536) :
  Calls Tryd.prog 10 #[.string ⟨#[1]⟩, .int .i64 c] w fun e w' => e = .returned (.string ⟨(List.replicate c (1 : UInt8)).toArray⟩) ∧ Below w.heap.size w w' := by
 have := Tryd.strings_Repeat ⟨#[1]⟩ c w (by omega) (by show 1 * c ≤ _; omega)
 rw [show Lib.repeatL (({ data := #[1] } : ByteArray).data.toList) c = List.replicate c 1 from repeat_one c] at this
 exact this
theorem optT_rd {w : World} {B g : Nat} {T : TypeId} (h : Has w g T #[.int .i64 9, .string ⟨#[]⟩, .int .i64 0, .int .i64 0, .int .i64 0, .slice none 0 0, .slice none 0 0, .int .i64 0, .int .i64 0, .bool false]) (hB : g < B) : RdTyps w B (.slice (some ⟨g, 0, none⟩) 1 1) optT := by
 refine ⟨fun _ => typV ⟨9, [], 0, 0, 0, [], [], 0, 0, false⟩ (.slice none 0 0) (.slice none 0 0), row_hasP (n := 1) h hB (fun i hi => rfl), fun i hi => ?_⟩
 match i, hi with
 | 0, _ => exact ⟨_, _, rfl, ⟨by simp [I64, optT], by simp [optT], by simp [optT], by simp [optT], Rd.nil_ w B 2, rdmems_nil w B⟩⟩
theorem optSizes : Sizes optT := by
 intro x hx
 simp only [optT, List.mem_cons, List.not_mem_nil, or_false] at hx
 subst hx; simp
theorem deepEx1 (k : Nat) (hk : k < 200) (g : Nat) (W : World) (h : RdTyps W W.heap.size (.slice (some ⟨g, 0, none⟩) 1 1) optT) :
  Calls Tryd.prog 9 #[.agg #[.slice (some ⟨g, 0, none⟩) 1 1], .int .i64 0, .string ⟨(List.replicate k (1 : UInt8)).toArray⟩] W fun e w' => Below W.heap.size W w' ∧ e = .returned (.tuple #[.agg #[.slice none 0 0, .int .i64 0], .int .i64 15]) := by
 have := explain_any optT _ 1 0 (List.replicate k 1) W optSizes h
 obtain ⟨v, hv⟩ := deep_ok hk
 rw [hv] at this; exact this
theorem deepEx2 (k : Nat) (hk : 200 ≤ k) (hk2 : k < 300) (g : Nat) (W : World) (h : RdTyps W W.heap.size (.slice (some ⟨g, 0, none⟩) 1 1) optT) :
  Calls Tryd.prog 9 #[.agg #[.slice (some ⟨g, 0, none⟩) 1 1], .int .i64 0, .string ⟨(List.replicate k (1 : UInt8)).toArray⟩] W fun e w' => Below W.heap.size W w' ∧ ∃ A c, e = .returned (.tuple #[.agg #[.slice A 200 c, .int .i64 8], .int .i64 0]) := by
 have := explain_any optT _ 1 0 (List.replicate k 1) W optSizes h
 rw [deep_err hk (by omega)] at this
 refine this.mono ?_
 rintro e w' ⟨hb, fp, rfl, hown⟩
 obtain ⟨A, c, rfl⟩ := own_form hown
 exact ⟨hb, A, c, by rw [List.length_replicate]⟩
set_option maxRecDepth 100000 in
theorem walk_DecodeDeep (n : Nat) (_ : n < 65536) (w : World) (hL : TabsR w) :
  Calls Tryd.prog 4 #[.int .u16 n] w fun e w' => e = .returned (.bool true) ∧ Below w.heap.size w w' := by
 obtain ⟨k, hk0⟩ : ∃ k, n % 300 = k := ⟨_, rfl⟩
 have hk : k < 300 := by omega
 have ht1 : (n : Int).tmod 300 = (k : Int) := by rw [Int.tmod_eq_emod_of_nonneg (by omega)]; omega
 have ht2 : (n : Int) % 300 = (k : Int) := by omega
 have hw1 : IntKind.u16.wrap (k : Int) = k := by rw [IntKind.wrap_u16]; omega
 have hw2 : IntKind.i64.wrap (k : Int) = k := IntWalk.i64_in _ (by omega)
 clear hk0
 go_enter Tryd.func4, Tryd.ntmps4
 go_wp2_with fail
 ((with_reducible refine (awake_any _ hL).mono ?_); rintro e w1 ⟨rfl, hbA⟩)
 clear hL
 go_upto_region 5 with fail
 clear ht1 ht2 hw1 hw2
 obtain ⟨wd2, hE3⟩ : ∃ ww, ww = w1.alloc (.cells #[.int .i64 9, .string ⟨#[]⟩, .int .i64 0, .int .i64 0, .int .i64 0, .slice none 0 0, .slice none 0 0, .int .i64 0, .int .i64 0, .bool false] 33) := ⟨_, rfl⟩
 rw [← hE3]
 have hb1 := aB hE3
 have T := aN hE3
 obtain ⟨wd4, hE5⟩ : ∃ ww, ww = wd2.alloc (.cells #[.slice (some ⟨w1.heap.size, 0, none⟩) 1 1] 36) := ⟨_, rfl⟩
 rw [← hE5]
 replace T := dB T (aB hE5)
 replace hb1 := dT hb1 (aB hE5)
 have S := aM hE5 (aZ hE3 rfl)
 clear hE3 hE5
 have hl7 := hbA.size
 replace hbA := dT hbA hb1
 clear hb1
 generalize w1.heap.size = g6 at *
 obtain ⟨gT, rfl⟩ : ∃ g, g = g6 := ⟨_, rfl⟩
 replace S := S.out
 replace S := Lib.hid S
 obtain ⟨m, HRp, HE1, HE2⟩ : ∃ m : List UInt8, Hid (∀ W, Calls Tryd.prog 10 #[.string ⟨#[1]⟩, .int .i64 k] W fun e w' => e = .returned (.string ⟨m.toArray⟩) ∧ Below W.heap.size W w') ∧
   Hid (k < 200 → ∀ W, RdTyps W W.heap.size (.slice (some ⟨gT, 0, none⟩) 1 1) optT → Calls Tryd.prog 9 #[.agg #[.slice (some ⟨gT, 0, none⟩) 1 1], .int .i64 0, .string ⟨m.toArray⟩] W fun e w' => Below W.heap.size W w' ∧ e = .returned (.tuple #[.agg #[.slice none 0 0, .int .i64 0], .int .i64 15])) ∧
   Hid (200 ≤ k → ∀ W, RdTyps W W.heap.size (.slice (some ⟨gT, 0, none⟩) 1 1) optT → Calls Tryd.prog 9 #[.agg #[.slice (some ⟨gT, 0, none⟩) 1 1], .int .i64 0, .string ⟨m.toArray⟩] W fun e w' => Below W.heap.size W w' ∧ ∃ A c, e = .returned (.tuple #[.agg #[.slice A 200 c, .int .i64 8], .int .i64 0])) :=
  ⟨List.replicate k 1, Lib.hid (fun W => repeat_any k W (by omega)), Lib.hid (fun h W => deepEx1 k h gT W), Lib.hid (fun h W => deepEx2 k h hk gT W)⟩
 by_cases h2 : k < 200
 ·
  have HE := Lib.hid (HE1.out h2)
  have h2i : (k : Int) < 200 := by omega
  have cS_0 : wd4.cell? ⟨gT + 1, 0, none⟩ = some (.slice (some ⟨gT, 0, none⟩) 1 1) := S.out.cell 0
  refine wp_region_held_drew (S := (fun w' => w'.cell? ⟨gT + 1, 0, none⟩ = some (.slice (some ⟨gT, 0, none⟩) 1 1))) (by kernel_rfl) cS_0 (fun hHeld => ?_)
  clear cS_0
  have hb8 : Below wd4.heap.size wd4 (wd4.drew) := (Below.refl _ _).drew
  replace T := dB T hb8
  replace S := dB S hb8
  replace hbA := dT hbA hb8
  clear hb8
  generalize wd4.drew = wd9 at *
  refine tk (i := 0) (v := ?k10) ?_
  simp only [put_laws2]
  refine tk (i := 1) (v := ?k11) ?_
  simp only [put_laws2]
  refine wpAnyH_ready (rs := [2, 7]) (by kernel_rfl) (by simp) ?_
  refine AllReadyH.cons rfl (fun K hK => ?_) (AllReadyH.cons rfl (fun K hK => ?_) (AllReadyH.nil))
  ·
   skip
   go_simp
   ((with_reducible refine (HRp.out _).mono ?_); rintro e wd12 ⟨rfl, hb13⟩)
   replace T := dB T hb13
   replace S := dB S hb13
   replace hbA := dT hbA hb13
   clear hb13
   try clear hHeld
   refine hK.out _ _ (S.out.cell 0) (fun hHeld => ?_)
   clear hK K
   refine wpAnyH_ready (rs := [3, 7]) (by kernel_rfl) (by simp) ?_
   refine AllReadyH.cons rfl (fun K hK => ?_) (AllReadyH.cons rfl (fun K hK => ?_) (AllReadyH.nil))
   ·
    skip
    go_simp
    ((with_reducible refine (HE.out _ (optT_rd T.out T.out.here)).mono ?_); rintro e wd14 ⟨hb15, rfl⟩)
    replace T := dB T hb15
    replace S := dB S hb15
    replace hbA := dT hbA hb15
    clear hb15
    try clear hHeld
    refine hK.out _ _ (S.out.cell 0) (fun hHeld => ?_)
    clear hK K
    refine tk (i := 4) (v := ?k16) ?_
    simp only [put_laws2]
    refine tk (i := 5) (v := ?k17) ?_
    simp only [put_laws2]
    refine tk (i := 6) (v := ?k18) ?_
    simp only [put_laws2]
    refine rd1 (i := 7) (fun K hK => ?_)
    go_simp
    obtain ⟨wd20, hE21⟩ : ∃ ww, ww = wd14.alloc (.cells #[.slice none 0 0, .int .i64 0] 26) := ⟨_, rfl⟩
    rw [← hE21]
    have hb19 := aB hE21
    have F := aN hE21
    clear hE21
    have hl23 := T.out.here
    have hl24 := S.out.here
    have hl25 := hbA.size
    replace T := dB T hb19
    replace S := dB S hb19
    replace hbA := dT hbA hb19
    clear hb19
    generalize wd14.heap.size = g22 at *
    try clear hHeld
    refine hK.out _ _ (S.out.cell 0) (fun hHeld => ?_)
    clear hK K
    refine rd1 (i := 8) (fun K hK => ?_)
    refine step_store_row (by rfl) 26 _ _ (by rfl) (g22) #[.slice none 0 0, .int .i64 0] (by rfl) (by rfl) 26 _ F.out (by kernel_rfl) rfl (by first | assumption | simp [Value.oneCell']) ?_
    obtain ⟨wd26, hE27⟩ : ∃ ww, ww = wd20.setRow (g22) #[.slice none 0 0, .int .i64 0] := ⟨_, rfl⟩
    rw [← hE27]
    replace T := dR T hE27 (by omega)
    replace S := dR S hE27 (by omega)
    replace F := dO F hE27
    replace hbA := tR hbA hE27 (by omega)
    clear hE27
    try clear hHeld
    refine hK.out _ _ (S.out.cell 0) (fun hHeld => ?_)
    clear hK K
    refine tk (i := 9) (v := ?k28) ?_
    simp only [put_laws2]
    refine wpAnyH_done (by kernel_rfl) ?_ _
    try clear hHeld
    have cF_0 : wd26.cell? ⟨g22, 0, none⟩ = some (.slice none 0 0) := F.out.cell 0
    have cF_1 : wd26.cell? ⟨g22, 1, none⟩ = some (.int .i64 0) := F.out.cell 1
    go_wp2_with fail
    go_ret
    exact ⟨rfl, hbA⟩
   skip
   go_simp
   obtain ⟨wd30, hE31⟩ : ∃ ww, ww = wd12.alloc (.cells #[.slice none 0 0, .int .i64 0] 26) := ⟨_, rfl⟩
   rw [← hE31]
   have hb29 := aB hE31
   have F := aN hE31
   clear hE31
   have hl33 := T.out.here
   have hl34 := S.out.here
   have hl35 := hbA.size
   replace T := dB T hb29
   replace S := dB S hb29
   replace hbA := dT hbA hb29
   clear hb29
   generalize wd12.heap.size = g32 at *
   try clear hHeld
   refine hK.out _ _ (S.out.cell 0) (fun hHeld => ?_)
   clear hK K
   refine rd1 (i := 3) (fun K hK => ?_)
   go_simp
   ((with_reducible refine (HE.out _ (optT_rd T.out T.out.here)).mono ?_); rintro e wd36 ⟨hb37, rfl⟩)
   replace T := dB T hb37
   replace S := dB S hb37
   replace F := dB F hb37
   replace hbA := dT hbA hb37
   clear hb37
   try clear hHeld
   refine hK.out _ _ (S.out.cell 0) (fun hHeld => ?_)
   clear hK K
   refine tk (i := 4) (v := ?k38) ?_
   simp only [put_laws2]
   refine tk (i := 5) (v := ?k39) ?_
   simp only [put_laws2]
   refine tk (i := 6) (v := ?k40) ?_
   simp only [put_laws2]
   refine rd1 (i := 8) (fun K hK => ?_)
   refine step_store_row (by rfl) 26 _ _ (by rfl) (g32) #[.slice none 0 0, .int .i64 0] (by rfl) (by rfl) 26 _ F.out (by kernel_rfl) rfl (by first | assumption | simp [Value.oneCell']) ?_
   obtain ⟨wd41, hE42⟩ : ∃ ww, ww = wd36.setRow (g32) #[.slice none 0 0, .int .i64 0] := ⟨_, rfl⟩
   rw [← hE42]
   replace T := dR T hE42 (by omega)
   replace S := dR S hE42 (by omega)
   replace F := dO F hE42
   replace hbA := tR hbA hE42 (by omega)
   clear hE42
   try clear hHeld
   refine hK.out _ _ (S.out.cell 0) (fun hHeld => ?_)
   clear hK K
   refine tk (i := 9) (v := ?k43) ?_
   simp only [put_laws2]
   refine wpAnyH_done (by kernel_rfl) ?_ _
   try clear hHeld
   have cF_0 : wd41.cell? ⟨g32, 0, none⟩ = some (.slice none 0 0) := F.out.cell 0
   have cF_1 : wd41.cell? ⟨g32, 1, none⟩ = some (.int .i64 0) := F.out.cell 1
   go_wp2_with fail
   go_ret
   exact ⟨rfl, hbA⟩
  skip
  go_simp
  obtain ⟨wd45, hE46⟩ : ∃ ww, ww = wd9.alloc (.cells #[.slice none 0 0, .int .i64 0] 26) := ⟨_, rfl⟩
  rw [← hE46]
  have hb44 := aB hE46
  have F := aN hE46
  clear hE46
  have hl48 := T.out.here
  have hl49 := S.out.here
  have hl50 := hbA.size
  replace T := dB T hb44
  replace S := dB S hb44
  replace hbA := dT hbA hb44
  clear hb44
  generalize wd9.heap.size = g47 at *
  try clear hHeld
  refine hK.out _ _ (S.out.cell 0) (fun hHeld => ?_)
  clear hK K
  refine rd1 (i := 2) (fun K hK => ?_)
  go_simp
  ((with_reducible refine (HRp.out _).mono ?_); rintro e wd51 ⟨rfl, hb52⟩)
  replace T := dB T hb52
  replace S := dB S hb52
  replace F := dB F hb52
  replace hbA := dT hbA hb52
  clear hb52
  try clear hHeld
  refine hK.out _ _ (S.out.cell 0) (fun hHeld => ?_)
  clear hK K
  refine rd1 (i := 3) (fun K hK => ?_)
  go_simp
  ((with_reducible refine (HE.out _ (optT_rd T.out T.out.here)).mono ?_); rintro e wd53 ⟨hb54, rfl⟩)
  replace T := dB T hb54
  replace S := dB S hb54
  replace F := dB F hb54
  replace hbA := dT hbA hb54
  clear hb54
  try clear hHeld
  refine hK.out _ _ (S.out.cell 0) (fun hHeld => ?_)
  clear hK K
  refine tk (i := 4) (v := ?k55) ?_
  simp only [put_laws2]
  refine tk (i := 5) (v := ?k56) ?_
  simp only [put_laws2]
  refine tk (i := 6) (v := ?k57) ?_
  simp only [put_laws2]
  refine rd1 (i := 8) (fun K hK => ?_)
  refine step_store_row (by rfl) 26 _ _ (by rfl) (g47) #[.slice none 0 0, .int .i64 0] (by rfl) (by rfl) 26 _ F.out (by kernel_rfl) rfl (by first | assumption | simp [Value.oneCell']) ?_
  obtain ⟨wd58, hE59⟩ : ∃ ww, ww = wd53.setRow (g47) #[.slice none 0 0, .int .i64 0] := ⟨_, rfl⟩
  rw [← hE59]
  replace T := dR T hE59 (by omega)
  replace S := dR S hE59 (by omega)
  replace F := dO F hE59
  replace hbA := tR hbA hE59 (by omega)
  clear hE59
  try clear hHeld
  refine hK.out _ _ (S.out.cell 0) (fun hHeld => ?_)
  clear hK K
  refine tk (i := 9) (v := ?k60) ?_
  simp only [put_laws2]
  refine wpAnyH_done (by kernel_rfl) ?_ _
  try clear hHeld
  have cF_0 : wd58.cell? ⟨g47, 0, none⟩ = some (.slice none 0 0) := F.out.cell 0
  have cF_1 : wd58.cell? ⟨g47, 1, none⟩ = some (.int .i64 0) := F.out.cell 1
  go_wp2_with fail
  go_ret
  exact ⟨rfl, hbA⟩
 have HE := Lib.hid (HE2.out (by omega))
 have h2i : ¬ (k : Int) < 200 := by omega
 have cS_0 : wd4.cell? ⟨gT + 1, 0, none⟩ = some (.slice (some ⟨gT, 0, none⟩) 1 1) := S.out.cell 0
 refine wp_region_held_drew (S := (fun w' => w'.cell? ⟨gT + 1, 0, none⟩ = some (.slice (some ⟨gT, 0, none⟩) 1 1))) (by kernel_rfl) cS_0 (fun hHeld => ?_)
 clear cS_0
 have hb61 : Below wd4.heap.size wd4 (wd4.drew) := (Below.refl _ _).drew
 replace T := dB T hb61
 replace S := dB S hb61
 replace hbA := dT hbA hb61
 clear hb61
 generalize wd4.drew = wd62 at *
 refine tk (i := 0) (v := ?k63) ?_
 simp only [put_laws2]
 refine tk (i := 1) (v := ?k64) ?_
 simp only [put_laws2]
 refine wpAnyH_ready (rs := [2, 7]) (by kernel_rfl) (by simp) ?_
 refine AllReadyH.cons rfl (fun K hK => ?_) (AllReadyH.cons rfl (fun K hK => ?_) (AllReadyH.nil))
 ·
  skip
  go_simp
  ((with_reducible refine (HRp.out _).mono ?_); rintro e wd65 ⟨rfl, hb66⟩)
  replace T := dB T hb66
  replace S := dB S hb66
  replace hbA := dT hbA hb66
  clear hb66
  try clear hHeld
  refine hK.out _ _ (S.out.cell 0) (fun hHeld => ?_)
  clear hK K
  refine wpAnyH_ready (rs := [3, 7]) (by kernel_rfl) (by simp) ?_
  refine AllReadyH.cons rfl (fun K hK => ?_) (AllReadyH.cons rfl (fun K hK => ?_) (AllReadyH.nil))
  ·
   skip
   go_simp
   ((with_reducible refine (HE.out _ (optT_rd T.out T.out.here)).mono ?_); rintro e wd67 ⟨hb68, A2, c2, rfl⟩)
   replace T := dB T hb68
   replace S := dB S hb68
   replace hbA := dT hbA hb68
   clear hb68
   try clear hHeld
   refine hK.out _ _ (S.out.cell 0) (fun hHeld => ?_)
   clear hK K
   refine tk (i := 4) (v := ?k69) ?_
   simp only [put_laws2]
   refine tk (i := 5) (v := ?k70) ?_
   simp only [put_laws2]
   refine tk (i := 6) (v := ?k71) ?_
   simp only [put_laws2]
   refine rd1 (i := 7) (fun K hK => ?_)
   go_simp
   obtain ⟨wd73, hE74⟩ : ∃ ww, ww = wd67.alloc (.cells #[.slice none 0 0, .int .i64 0] 26) := ⟨_, rfl⟩
   rw [← hE74]
   have hb72 := aB hE74
   have F := aN hE74
   clear hE74
   have hl76 := T.out.here
   have hl77 := S.out.here
   have hl78 := hbA.size
   replace T := dB T hb72
   replace S := dB S hb72
   replace hbA := dT hbA hb72
   clear hb72
   generalize wd67.heap.size = g75 at *
   try clear hHeld
   refine hK.out _ _ (S.out.cell 0) (fun hHeld => ?_)
   clear hK K
   refine rd1 (i := 8) (fun K hK => ?_)
   refine step_store_row (by rfl) 26 _ _ (by rfl) (g75) #[.slice A2 200 c2, .int .i64 8] (by rfl) (by rfl) 26 _ F.out (by kernel_rfl) rfl (by first | assumption | simp [Value.oneCell']) ?_
   obtain ⟨wd79, hE80⟩ : ∃ ww, ww = wd73.setRow (g75) #[.slice A2 200 c2, .int .i64 8] := ⟨_, rfl⟩
   rw [← hE80]
   replace T := dR T hE80 (by omega)
   replace S := dR S hE80 (by omega)
   replace F := dO F hE80
   replace hbA := tR hbA hE80 (by omega)
   clear hE80
   try clear hHeld
   refine hK.out _ _ (S.out.cell 0) (fun hHeld => ?_)
   clear hK K
   refine tk (i := 9) (v := ?k81) ?_
   simp only [put_laws2]
   refine wpAnyH_done (by kernel_rfl) ?_ _
   try clear hHeld
   have cF_0 : wd79.cell? ⟨g75, 0, none⟩ = some (.slice A2 200 c2) := F.out.cell 0
   have cF_1 : wd79.cell? ⟨g75, 1, none⟩ = some (.int .i64 8) := F.out.cell 1
   go_wp2_with fail
   go_ret
   exact ⟨rfl, hbA⟩
  skip
  go_simp
  obtain ⟨wd83, hE84⟩ : ∃ ww, ww = wd65.alloc (.cells #[.slice none 0 0, .int .i64 0] 26) := ⟨_, rfl⟩
  rw [← hE84]
  have hb82 := aB hE84
  have F := aN hE84
  clear hE84
  have hl86 := T.out.here
  have hl87 := S.out.here
  have hl88 := hbA.size
  replace T := dB T hb82
  replace S := dB S hb82
  replace hbA := dT hbA hb82
  clear hb82
  generalize wd65.heap.size = g85 at *
  try clear hHeld
  refine hK.out _ _ (S.out.cell 0) (fun hHeld => ?_)
  clear hK K
  refine rd1 (i := 3) (fun K hK => ?_)
  go_simp
  ((with_reducible refine (HE.out _ (optT_rd T.out T.out.here)).mono ?_); rintro e wd89 ⟨hb90, A2, c2, rfl⟩)
  replace T := dB T hb90
  replace S := dB S hb90
  replace F := dB F hb90
  replace hbA := dT hbA hb90
  clear hb90
  try clear hHeld
  refine hK.out _ _ (S.out.cell 0) (fun hHeld => ?_)
  clear hK K
  refine tk (i := 4) (v := ?k91) ?_
  simp only [put_laws2]
  refine tk (i := 5) (v := ?k92) ?_
  simp only [put_laws2]
  refine tk (i := 6) (v := ?k93) ?_
  simp only [put_laws2]
  refine rd1 (i := 8) (fun K hK => ?_)
  refine step_store_row (by rfl) 26 _ _ (by rfl) (g85) #[.slice A2 200 c2, .int .i64 8] (by rfl) (by rfl) 26 _ F.out (by kernel_rfl) rfl (by first | assumption | simp [Value.oneCell']) ?_
  obtain ⟨wd94, hE95⟩ : ∃ ww, ww = wd89.setRow (g85) #[.slice A2 200 c2, .int .i64 8] := ⟨_, rfl⟩
  rw [← hE95]
  replace T := dR T hE95 (by omega)
  replace S := dR S hE95 (by omega)
  replace F := dO F hE95
  replace hbA := tR hbA hE95 (by omega)
  clear hE95
  try clear hHeld
  refine hK.out _ _ (S.out.cell 0) (fun hHeld => ?_)
  clear hK K
  refine tk (i := 9) (v := ?k96) ?_
  simp only [put_laws2]
  refine wpAnyH_done (by kernel_rfl) ?_ _
  try clear hHeld
  have cF_0 : wd94.cell? ⟨g85, 0, none⟩ = some (.slice A2 200 c2) := F.out.cell 0
  have cF_1 : wd94.cell? ⟨g85, 1, none⟩ = some (.int .i64 8) := F.out.cell 1
  go_wp2_with fail
  go_ret
  exact ⟨rfl, hbA⟩
 skip
 go_simp
 obtain ⟨wd98, hE99⟩ : ∃ ww, ww = wd62.alloc (.cells #[.slice none 0 0, .int .i64 0] 26) := ⟨_, rfl⟩
 rw [← hE99]
 have hb97 := aB hE99
 have F := aN hE99
 clear hE99
 have hl101 := T.out.here
 have hl102 := S.out.here
 have hl103 := hbA.size
 replace T := dB T hb97
 replace S := dB S hb97
 replace hbA := dT hbA hb97
 clear hb97
 generalize wd62.heap.size = g100 at *
 try clear hHeld
 refine hK.out _ _ (S.out.cell 0) (fun hHeld => ?_)
 clear hK K
 refine rd1 (i := 2) (fun K hK => ?_)
 go_simp
 ((with_reducible refine (HRp.out _).mono ?_); rintro e wd104 ⟨rfl, hb105⟩)
 replace T := dB T hb105
 replace S := dB S hb105
 replace F := dB F hb105
 replace hbA := dT hbA hb105
 clear hb105
 try clear hHeld
 refine hK.out _ _ (S.out.cell 0) (fun hHeld => ?_)
 clear hK K
 refine rd1 (i := 3) (fun K hK => ?_)
 go_simp
 ((with_reducible refine (HE.out _ (optT_rd T.out T.out.here)).mono ?_); rintro e wd106 ⟨hb107, A2, c2, rfl⟩)
 replace T := dB T hb107
 replace S := dB S hb107
 replace F := dB F hb107
 replace hbA := dT hbA hb107
 clear hb107
 try clear hHeld
 refine hK.out _ _ (S.out.cell 0) (fun hHeld => ?_)
 clear hK K
 refine tk (i := 4) (v := ?k108) ?_
 simp only [put_laws2]
 refine tk (i := 5) (v := ?k109) ?_
 simp only [put_laws2]
 refine tk (i := 6) (v := ?k110) ?_
 simp only [put_laws2]
 refine rd1 (i := 8) (fun K hK => ?_)
 refine step_store_row (by rfl) 26 _ _ (by rfl) (g100) #[.slice A2 200 c2, .int .i64 8] (by rfl) (by rfl) 26 _ F.out (by kernel_rfl) rfl (by first | assumption | simp [Value.oneCell']) ?_
 obtain ⟨wd111, hE112⟩ : ∃ ww, ww = wd106.setRow (g100) #[.slice A2 200 c2, .int .i64 8] := ⟨_, rfl⟩
 rw [← hE112]
 replace T := dR T hE112 (by omega)
 replace S := dR S hE112 (by omega)
 replace F := dO F hE112
 replace hbA := tR hbA hE112 (by omega)
 clear hE112
 try clear hHeld
 refine hK.out _ _ (S.out.cell 0) (fun hHeld => ?_)
 clear hK K
 refine tk (i := 9) (v := ?k113) ?_
 simp only [put_laws2]
 refine wpAnyH_done (by kernel_rfl) ?_ _
 try clear hHeld
 have cF_0 : wd111.cell? ⟨g100, 0, none⟩ = some (.slice A2 200 c2) := F.out.cell 0
 have cF_1 : wd111.cell? ⟨g100, 1, none⟩ = some (.int .i64 8) := F.out.cell 1
 go_wp2_with fail
 go_ret
 exact ⟨rfl, hbA⟩

namespace fr_DecodeDeep
set_option maxRecDepth 100000 in
theorem lifted (os : Os) (started : os.Started) (H : Type) (enc : TypeId × Value → H) :
    ReturnsInHanded {} Tryd.checked os 4 .any (fun w args => (Rows.decodeDeepSpec.pre enc Tryd.prog Tryd.f4 [] false w args ∧ laidMetH Tryd.prog laid4 w) ∧ sizedMet enc Tryd.prog Tryd.f4 (OpenSpec.ofChange Rows.decodeDeepSpec) false w args) (Rows.decodeDeepSpec.post enc Tryd.prog Tryd.f4 false true false false) := by
  refine returnsInHanded_of_change_and (C := Tryd.checked) (X := fun w _ => laidMetH Tryd.prog laid4 w) (fun _ _ _ hh h => h.of_heap hh) own_knob started (by kernel_rfl) Tryd.func4
    (ChangeSpec.witness_shaped (enc := enc) (C := Tryd.checked) (os := os) (X := fun w _ => laidMetH Tryd.prog laid4 w) false (World.doorLaid Tryd.prog 400 os) #[.int .u16 0] 8 rfl (World.shaped_of_RefB (by kernel_rfl) (by kernel_rfl)) (by kernel_rfl) (by kernel_rfl) (by kernel_rfl) (door_met os _)) ?_
  intro W base args ds gs before hval0 hW hcnd hsz0 hLd _
  have hsz : (DataW.weightsEach Tryd.prog (Tryd.f4.params.toList ++ Rows.decodeDeepSpec.plain.varTypes Tryd.prog) (ds ++ gs)).all (· ≤ reachBytes) = true := hsz0
  have hval : ∀ (j : Nat) t v, Tryd.f4.params[j]? = some t → args[j]? = some v → Value.okWide Tryd.prog W .any base t v := hval0
  have hW' := hW
  have hlt : ∀ p ∈ before, p.block < W.heap.size := fun p hp => hW.lt p hp
  obtain ⟨p, q, hA0, hV, rfl, hfz, hnd⟩ := hW
  have hA : DataW.TrodAll enc Tryd.prog W 0 (fun _ => true) true Tryd.f4.params.toList args.toList ds p := hA0
  have hA2 := hA
  rw [Tryd.params4] at hA hval hsz
  obtain ⟨v0, vs0, d0, ds0, p0, q0, hargs, rfl, hpq, h0, r0⟩ := trodAll_cons hA
  obtain ⟨rfl, rfl, rfl⟩ := trodAll_nil r0
  obtain rfl : args = #[v0] := by cases args; simp_all
  obtain ⟨rfl, rfl⟩ := trodVars_none hV
  obtain ⟨x0, rfl, rfl, rfl, w0⟩ := open_int Tryd.underlying29 (hval 0 29 v0 rfl rfl) h0
  obtain ⟨a0, rfl, u0⟩ := wf_u16 w0
  clear hA0 hval0
  refine (walk_DecodeDeep a0 u0 W (tabs_of hLd)).mono fun e W' ⟨he, bel⟩ => ?_
  subst he
  exact ⟨_, rfl, _, _, _, [], _, [], hW', trodAll_mk1 (shut_bool Tryd.underlying4 _), trodAll_below laid_out bel _ _ _ _ (by kernel_rfl) hA2 (fun x hx => hlt x (by simpa using hx)), rfl, bel.frame _, fun h => by cases h⟩
theorem proved : Rows.DecodeDeepSaid :=
  OpenClaim.holds_of_wide 4 Tryd.f4 rfl rfl rfl rfl rfl rfl rfl ⟨rfl, rfl, rfl, rfl, rfl⟩ rfl rfl rfl rfl rfl (by kernel_rfl) Tryd.func4 (by kernel_rfl)
    (of_decide_eq_true (by kernel_rfl)) (by unfold Func.isWrapper; first | (rw [if_pos (by decide +kernel)]; kernel_rfl) | (rw [if_neg (by decide +kernel)]; exact ⟨rfl, rfl⟩))
    (fun os started H enc _ => lifted os started H enc)
#print axioms proved
theorem card : Rows.DecodeDeepCardSaid :=
  Claim7.holds_tied_plain_at .later [] [.data, .data, .data, .data] true _ false proved (fun _ h => by cases h) (by kernel_rfl) (fun _ h => by cases h) decodeDeep_row_tie rfl ⟨rfl, rfl⟩ (by kernel_rfl) rfl
    (fun f fn hf hfn => by
      obtain rfl : f = 4 := Option.some.inj ((show Tryd.prog.funcNamed "sheave/sheavelaw10.DecodeDeep" = some 4 by kernel_rfl).symm.trans hf) |>.symm
      obtain rfl : fn = Tryd.f4 := (Option.some.inj (Tryd.func4.symm.trans hfn)).symm
      exact ⟨by kernel_rfl, fun j t ht => by
        rw [Tryd.params4] at ht
        have hm : t ∈ [29] := by simpa using Array.mem_of_getElem? ht
        have hall : ([29].all fun u => !Tryd.prog.wantsStandIn u) = true := by kernel_rfl
        exact (show Tryd.prog.wantsStandIn t = false by simpa using List.all_eq_true.1 hall t hm)⟩)
    (by kernel_rfl)
#print axioms card
end fr_DecodeDeep
end Go.Proofs.YtccmmibkihbobaaDoor

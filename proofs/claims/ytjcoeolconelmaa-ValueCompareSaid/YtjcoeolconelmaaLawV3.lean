/- The statement ValueCompare: Compare agrees with its reference, and is antisymmetric and transitive. No condition. -/
import Derived.Test.YtjcoeolconelmaaAwake8
import Derived.Test.YtjcoeolconelmaaOpenV
import Derived.Test.YtjcoeolconelmaaCmpP
import Derived.Deep.RegionHeld3
import Derived.Deep.Cut
import Derived.Deep.DeepCutAuto
namespace Go.Proofs.Ytjcoeolconelmaa
open Go.ChangeShapes Go.WideShapes Go.ChangeAt Go.RowKit

set_option maxRecDepth 100000 in
set_option maxHeartbeats 8000000 in
theorem walk_ValueCompare (x : Val) (vk vi vr : Value) (y : Val) (uk ui ur : Value) (z : Val) (tk ti tr : Value) (w : World) (hv : ValAt w w.heap.size x vk vi vr) (hu : ValAt w w.heap.size y uk ui ur) (ht : ValAt w w.heap.size z tk ti tr) :
    Calls Try.prog 5 #[valA x vk vi vr, valA y uk ui ur, valA z tk ti tr] w fun e w' => e = .returned (.bool true) ∧ Below w.heap.size w w' := by
  obtain ⟨A1, n1, A2, n2, A3, n3, rfl, rfl, rfl, -, -, -⟩ := hv.forms
  obtain ⟨B1, m1, B2, m2, B3, m3, rfl, rfl, rfl, -, -, -⟩ := hu.forms
  obtain ⟨C1, l1, C2, l2, C3, l3, rfl, rfl, rfl, -, -, -⟩ := ht.forms
  have h01 := (((Below.refl w.heap.size w).alloc (Nat.le_refl _) (.cells #[.int .i64 x.kind, .bool x.bool, .int .i64 x.num, .string ⟨x.str.toArray⟩, .int .i64 x.id, .slice A1 x.keys.length n1, .slice A2 x.items.length n2, .slice A3 x.rest.length n3] 28)).alloc (show w.heap.size ≤ (w.alloc (.cells #[.int .i64 x.kind, .bool x.bool, .int .i64 x.num, .string ⟨x.str.toArray⟩, .int .i64 x.id, .slice A1 x.keys.length n1, .slice A2 x.items.length n2, .slice A3 x.rest.length n3] 28)).heap.size by simp) (.cells #[.int .i64 y.kind, .bool y.bool, .int .i64 y.num, .string ⟨y.str.toArray⟩, .int .i64 y.id, .slice B1 y.keys.length m1, .slice B2 y.items.length m2, .slice B3 y.rest.length m3] 28)).alloc (show w.heap.size ≤ ((w.alloc (.cells #[.int .i64 x.kind, .bool x.bool, .int .i64 x.num, .string ⟨x.str.toArray⟩, .int .i64 x.id, .slice A1 x.keys.length n1, .slice A2 x.items.length n2, .slice A3 x.rest.length n3] 28)).alloc (.cells #[.int .i64 y.kind, .bool y.bool, .int .i64 y.num, .string ⟨y.str.toArray⟩, .int .i64 y.id, .slice B1 y.keys.length m1, .slice B2 y.items.length m2, .slice B3 y.rest.length m3] 28)).heap.size by simp; omega) (.cells #[.int .i64 z.kind, .bool z.bool, .int .i64 z.num, .string ⟨z.str.toArray⟩, .int .i64 z.id, .slice C1 z.keys.length l1, .slice C2 z.items.length l2, .slice C3 z.rest.length l3] 28)
  have hX := ((Has.made w 28 #[.int .i64 x.kind, .bool x.bool, .int .i64 x.num, .string ⟨x.str.toArray⟩, .int .i64 x.id, .slice A1 x.keys.length n1, .slice A2 x.items.length n2, .slice A3 x.rest.length n3]).alloc (.cells #[.int .i64 y.kind, .bool y.bool, .int .i64 y.num, .string ⟨y.str.toArray⟩, .int .i64 y.id, .slice B1 y.keys.length m1, .slice B2 y.items.length m2, .slice B3 y.rest.length m3] 28)).alloc (.cells #[.int .i64 z.kind, .bool z.bool, .int .i64 z.num, .string ⟨z.str.toArray⟩, .int .i64 z.id, .slice C1 z.keys.length l1, .slice C2 z.items.length l2, .slice C3 z.rest.length l3] 28)
  have hY := (Has.made (w.alloc (.cells #[.int .i64 x.kind, .bool x.bool, .int .i64 x.num, .string ⟨x.str.toArray⟩, .int .i64 x.id, .slice A1 x.keys.length n1, .slice A2 x.items.length n2, .slice A3 x.rest.length n3] 28)) 28 #[.int .i64 y.kind, .bool y.bool, .int .i64 y.num, .string ⟨y.str.toArray⟩, .int .i64 y.id, .slice B1 y.keys.length m1, .slice B2 y.items.length m2, .slice B3 y.rest.length m3]).alloc (.cells #[.int .i64 z.kind, .bool z.bool, .int .i64 z.num, .string ⟨z.str.toArray⟩, .int .i64 z.id, .slice C1 z.keys.length l1, .slice C2 z.items.length l2, .slice C3 z.rest.length l3] 28)
  have hZ := Has.made ((w.alloc (.cells #[.int .i64 x.kind, .bool x.bool, .int .i64 x.num, .string ⟨x.str.toArray⟩, .int .i64 x.id, .slice A1 x.keys.length n1, .slice A2 x.items.length n2, .slice A3 x.rest.length n3] 28)).alloc (.cells #[.int .i64 y.kind, .bool y.bool, .int .i64 y.num, .string ⟨y.str.toArray⟩, .int .i64 y.id, .slice B1 y.keys.length m1, .slice B2 y.items.length m2, .slice B3 y.rest.length m3] 28)) 28 #[.int .i64 z.kind, .bool z.bool, .int .i64 z.num, .string ⟨z.str.toArray⟩, .int .i64 z.id, .slice C1 z.keys.length l1, .slice C2 z.items.length l2, .slice C3 z.rest.length l3]
  rw [alloc_hs'] at hY
  rw [alloc_hs', alloc_hs'] at hZ
  have HV := Lib.hid (hv.on h01)
  have HU := Lib.hid (hu.on h01)
  have HT := Lib.hid (ht.on h01)
  clear hv hu ht
  go_enter Try.func5, Try.ntmps5
  go_wp2_with fail
  generalize (((w.alloc (.cells #[.int .i64 x.kind, .bool x.bool, .int .i64 x.num, .string ⟨x.str.toArray⟩, .int .i64 x.id, .slice A1 x.keys.length n1, .slice A2 x.items.length n2, .slice A3 x.rest.length n3] 28)).alloc (.cells #[.int .i64 y.kind, .bool y.bool, .int .i64 y.num, .string ⟨y.str.toArray⟩, .int .i64 y.id, .slice B1 y.keys.length m1, .slice B2 y.items.length m2, .slice B3 y.rest.length m3] 28)).alloc (.cells #[.int .i64 z.kind, .bool z.bool, .int .i64 z.num, .string ⟨z.str.toArray⟩, .int .i64 z.id, .slice C1 z.keys.length l1, .slice C2 z.items.length l2, .slice C3 z.rest.length l3] 28)) = w1 at *
  refine (awake_any _).mono ?_
  rintro e w2 ⟨rfl, hb⟩
  have h01 := h01.trans (hb.mono h01.size)
  have hX := hX.below hb hX.here
  have hY := hY.below hb hY.here
  have hZ := hZ.below hb hZ.here
  have HV := Lib.hid (HV.out.on hb)
  have HU := Lib.hid (HU.out.on hb)
  have HT := Lib.hid (HT.out.on hb)
  have c0 := hX.cell 0
  have c1 := hX.cell 1
  have c2 := hX.cell 2
  have c3 := hX.cell 3
  have c4 := hX.cell 4
  have c5 := hX.cell 5
  have c6 := hX.cell 6
  have c7 := hX.cell 7
  have d0 := hY.cell 0
  have d1 := hY.cell 1
  have d2 := hY.cell 2
  have d3 := hY.cell 3
  have d4 := hY.cell 4
  have d5 := hY.cell 5
  have d6 := hY.cell 6
  have d7 := hY.cell 7
  have g0 := hZ.cell 0
  have g1 := hZ.cell 1
  have g2 := hZ.cell 2
  have g3 := hZ.cell 3
  have g4 := hZ.cell 4
  have g5 := hZ.cell 5
  have g6 := hZ.cell 6
  have g7 := hZ.cell 7
  have hz := hX.here
  have hz' := hY.here
  have hz'' := hZ.here
  simp only [List.getElem?_toArray, List.getElem?_cons_succ, List.getElem?_cons_zero] at c0 c1 c2 c3 c4 c5 c6 c7 d0 d1 d2 d3 d4 d5 d6 d7 g0 g1 g2 g3 g4 g5 g6 g7
  clear hb
  go_wp2_with fail
  refine (small_any x _ _ _ _ HV.out).mono ?_
  rintro e w3 ⟨rfl, hb⟩
  have h01 := h01.trans (hb.mono h01.size)
  have hX := hX.below hb hX.here
  have hY := hY.below hb hY.here
  have hZ := hZ.below hb hZ.here
  have HV := Lib.hid (HV.out.on hb)
  have HU := Lib.hid (HU.out.on hb)
  have HT := Lib.hid (HT.out.on hb)
  have c0 := hX.cell 0
  have c1 := hX.cell 1
  have c2 := hX.cell 2
  have c3 := hX.cell 3
  have c4 := hX.cell 4
  have c5 := hX.cell 5
  have c6 := hX.cell 6
  have c7 := hX.cell 7
  have d0 := hY.cell 0
  have d1 := hY.cell 1
  have d2 := hY.cell 2
  have d3 := hY.cell 3
  have d4 := hY.cell 4
  have d5 := hY.cell 5
  have d6 := hY.cell 6
  have d7 := hY.cell 7
  have g0 := hZ.cell 0
  have g1 := hZ.cell 1
  have g2 := hZ.cell 2
  have g3 := hZ.cell 3
  have g4 := hZ.cell 4
  have g5 := hZ.cell 5
  have g6 := hZ.cell 6
  have g7 := hZ.cell 7
  have hz := hX.here
  have hz' := hY.here
  have hz'' := hZ.here
  simp only [List.getElem?_toArray, List.getElem?_cons_succ, List.getElem?_cons_zero] at c0 c1 c2 c3 c4 c5 c6 c7 d0 d1 d2 d3 d4 d5 d6 d7 g0 g1 g2 g3 g4 g5 g6 g7
  clear hb
  cases hs : smallB x with
  | false =>
    clear hs
    go_wp2_with fail
    refine (awake_any _).mono ?_
    rintro e w9 ⟨rfl, hb⟩
    go_wp2_with fail
    go_ret
    exact ⟨rfl, h01.trans (hb.mono h01.size)⟩
  | true =>
    clear hs
    go_wp2_with fail
    refine (small_any y _ _ _ _ HU.out).mono ?_
    rintro e w4 ⟨rfl, hb⟩
    have h01 := h01.trans (hb.mono h01.size)
    have hX := hX.below hb hX.here
    have hY := hY.below hb hY.here
    have hZ := hZ.below hb hZ.here
    have HV := Lib.hid (HV.out.on hb)
    have HU := Lib.hid (HU.out.on hb)
    have HT := Lib.hid (HT.out.on hb)
    have c0 := hX.cell 0
    have c1 := hX.cell 1
    have c2 := hX.cell 2
    have c3 := hX.cell 3
    have c4 := hX.cell 4
    have c5 := hX.cell 5
    have c6 := hX.cell 6
    have c7 := hX.cell 7
    have d0 := hY.cell 0
    have d1 := hY.cell 1
    have d2 := hY.cell 2
    have d3 := hY.cell 3
    have d4 := hY.cell 4
    have d5 := hY.cell 5
    have d6 := hY.cell 6
    have d7 := hY.cell 7
    have g0 := hZ.cell 0
    have g1 := hZ.cell 1
    have g2 := hZ.cell 2
    have g3 := hZ.cell 3
    have g4 := hZ.cell 4
    have g5 := hZ.cell 5
    have g6 := hZ.cell 6
    have g7 := hZ.cell 7
    have hz := hX.here
    have hz' := hY.here
    have hz'' := hZ.here
    simp only [List.getElem?_toArray, List.getElem?_cons_succ, List.getElem?_cons_zero] at c0 c1 c2 c3 c4 c5 c6 c7 d0 d1 d2 d3 d4 d5 d6 d7 g0 g1 g2 g3 g4 g5 g6 g7
    clear hb
    cases hs : smallB y with
    | false =>
      clear hs
      go_wp2_with fail
      refine (awake_any _).mono ?_
      rintro e w9 ⟨rfl, hb⟩
      go_wp2_with fail
      go_ret
      exact ⟨rfl, h01.trans (hb.mono h01.size)⟩
    | true =>
      clear hs
      go_wp2_with fail
      refine (small_any z _ _ _ _ HT.out).mono ?_
      rintro e w5 ⟨rfl, hb⟩
      have h01 := h01.trans (hb.mono h01.size)
      have hX := hX.below hb hX.here
      have hY := hY.below hb hY.here
      have hZ := hZ.below hb hZ.here
      have HV := Lib.hid (HV.out.on hb)
      have HU := Lib.hid (HU.out.on hb)
      have HT := Lib.hid (HT.out.on hb)
      have c0 := hX.cell 0
      have c1 := hX.cell 1
      have c2 := hX.cell 2
      have c3 := hX.cell 3
      have c4 := hX.cell 4
      have c5 := hX.cell 5
      have c6 := hX.cell 6
      have c7 := hX.cell 7
      have d0 := hY.cell 0
      have d1 := hY.cell 1
      have d2 := hY.cell 2
      have d3 := hY.cell 3
      have d4 := hY.cell 4
      have d5 := hY.cell 5
      have d6 := hY.cell 6
      have d7 := hY.cell 7
      have g0 := hZ.cell 0
      have g1 := hZ.cell 1
      have g2 := hZ.cell 2
      have g3 := hZ.cell 3
      have g4 := hZ.cell 4
      have g5 := hZ.cell 5
      have g6 := hZ.cell 6
      have g7 := hZ.cell 7
      have hz := hX.here
      have hz' := hY.here
      have hz'' := hZ.here
      simp only [List.getElem?_toArray, List.getElem?_cons_succ, List.getElem?_cons_zero] at c0 c1 c2 c3 c4 c5 c6 c7 d0 d1 d2 d3 d4 d5 d6 d7 g0 g1 g2 g3 g4 g5 g6 g7
      clear hb
      cases hs : smallB z with
      | false =>
        clear hs
        go_wp2_with fail
        refine (awake_any _).mono ?_
        rintro e w9 ⟨rfl, hb⟩
        go_wp2_with fail
        go_ret
        exact ⟨rfl, h01.trans (hb.mono h01.size)⟩
      | true =>
        clear hs
        go_upto_region 3 with fail
        go_cut [7, 8, 9] (fun s7 s8 s9 wx => s7 = .int .i64 (compareV x y) ∧ s8 = .int .i64 (compareV y z) ∧ s9 = .int .i64 (compareV x z) ∧ Below w5.heap.size w5 wx)
        case first =>
          have hbF := (Below.refl w5.heap.size w5).drew
          have HV := Lib.hid (HV.out.on (w' := w5.drew) (Below.refl _ _).drew)
          have HU := Lib.hid (HU.out.on (w' := w5.drew) (Below.refl _ _).drew)
          have HT := Lib.hid (HT.out.on (w' := w5.drew) (Below.refl _ _).drew)
          go_region_held3 (fun w' => w'.cell? ⟨w.heap.size, 0, none⟩ = some (.int .i64 x.kind) ∧ w'.cell? ⟨w.heap.size, 1, none⟩ = some (.bool x.bool) ∧ w'.cell? ⟨w.heap.size, 2, none⟩ = some (.int .i64 x.num) ∧ w'.cell? ⟨w.heap.size, 3, none⟩ = some (.string ⟨x.str.toArray⟩) ∧ w'.cell? ⟨w.heap.size, 4, none⟩ = some (.int .i64 x.id) ∧ w'.cell? ⟨w.heap.size, 5, none⟩ = some (.slice A1 x.keys.length n1) ∧ w'.cell? ⟨w.heap.size, 6, none⟩ = some (.slice A2 x.items.length n2) ∧ w'.cell? ⟨w.heap.size, 7, none⟩ = some (.slice A3 x.rest.length n3) ∧ w'.cell? ⟨w.heap.size + 1, 0, none⟩ = some (.int .i64 y.kind) ∧ w'.cell? ⟨w.heap.size + 1, 1, none⟩ = some (.bool y.bool) ∧ w'.cell? ⟨w.heap.size + 1, 2, none⟩ = some (.int .i64 y.num) ∧ w'.cell? ⟨w.heap.size + 1, 3, none⟩ = some (.string ⟨y.str.toArray⟩) ∧ w'.cell? ⟨w.heap.size + 1, 4, none⟩ = some (.int .i64 y.id) ∧ w'.cell? ⟨w.heap.size + 1, 5, none⟩ = some (.slice B1 y.keys.length m1) ∧ w'.cell? ⟨w.heap.size + 1, 6, none⟩ = some (.slice B2 y.items.length m2) ∧ w'.cell? ⟨w.heap.size + 1, 7, none⟩ = some (.slice B3 y.rest.length m3) ∧ w'.cell? ⟨w.heap.size + 1 + 1, 0, none⟩ = some (.int .i64 z.kind) ∧ w'.cell? ⟨w.heap.size + 1 + 1, 1, none⟩ = some (.bool z.bool) ∧ w'.cell? ⟨w.heap.size + 1 + 1, 2, none⟩ = some (.int .i64 z.num) ∧ w'.cell? ⟨w.heap.size + 1 + 1, 3, none⟩ = some (.string ⟨z.str.toArray⟩) ∧ w'.cell? ⟨w.heap.size + 1 + 1, 4, none⟩ = some (.int .i64 z.id) ∧ w'.cell? ⟨w.heap.size + 1 + 1, 5, none⟩ = some (.slice C1 z.keys.length l1) ∧ w'.cell? ⟨w.heap.size + 1 + 1, 6, none⟩ = some (.slice C2 z.items.length l2) ∧ w'.cell? ⟨w.heap.size + 1 + 1, 7, none⟩ = some (.slice C3 z.rest.length l3)) (first | (go_keep; done) | exact ⟨c0, c1, c2, c3, c4, c5, c6, c7, d0, d1, d2, d3, d4, d5, d6, d7, g0, g1, g2, g3, g4, g5, g6, g7⟩)
            (first
              | (go_at_call 19; (first | (with_reducible refine (vcompare_any x y _ _ _ _ _ _ _ HV.out HU.out).mono ?_) | (with_reducible refine (vcompare_any y z _ _ _ _ _ _ _ HU.out HT.out).mono ?_) | (with_reducible refine (vcompare_any x z _ _ _ _ _ _ _ HV.out HT.out).mono ?_)); rintro e wn ⟨rfl, hbn⟩; have HV := Lib.hid (HV.out.on hbn); have HU := Lib.hid (HU.out.on hbn); have HT := Lib.hid (HT.out.on hbn); have hbF := hbF.trans (hbn.mono hbF.size); have c0 := (hbn.cell (p := ⟨w.heap.size, 0, none⟩) hz).trans c0; have c1 := (hbn.cell (p := ⟨w.heap.size, 1, none⟩) hz).trans c1; have c2 := (hbn.cell (p := ⟨w.heap.size, 2, none⟩) hz).trans c2; have c3 := (hbn.cell (p := ⟨w.heap.size, 3, none⟩) hz).trans c3; have c4 := (hbn.cell (p := ⟨w.heap.size, 4, none⟩) hz).trans c4; have c5 := (hbn.cell (p := ⟨w.heap.size, 5, none⟩) hz).trans c5; have c6 := (hbn.cell (p := ⟨w.heap.size, 6, none⟩) hz).trans c6; have c7 := (hbn.cell (p := ⟨w.heap.size, 7, none⟩) hz).trans c7; have d0 := (hbn.cell (p := ⟨w.heap.size + 1, 0, none⟩) hz').trans d0; have d1 := (hbn.cell (p := ⟨w.heap.size + 1, 1, none⟩) hz').trans d1; have d2 := (hbn.cell (p := ⟨w.heap.size + 1, 2, none⟩) hz').trans d2; have d3 := (hbn.cell (p := ⟨w.heap.size + 1, 3, none⟩) hz').trans d3; have d4 := (hbn.cell (p := ⟨w.heap.size + 1, 4, none⟩) hz').trans d4; have d5 := (hbn.cell (p := ⟨w.heap.size + 1, 5, none⟩) hz').trans d5; have d6 := (hbn.cell (p := ⟨w.heap.size + 1, 6, none⟩) hz').trans d6; have d7 := (hbn.cell (p := ⟨w.heap.size + 1, 7, none⟩) hz').trans d7; have g0 := (hbn.cell (p := ⟨w.heap.size + 1 + 1, 0, none⟩) hz'').trans g0; have g1 := (hbn.cell (p := ⟨w.heap.size + 1 + 1, 1, none⟩) hz'').trans g1; have g2 := (hbn.cell (p := ⟨w.heap.size + 1 + 1, 2, none⟩) hz'').trans g2; have g3 := (hbn.cell (p := ⟨w.heap.size + 1 + 1, 3, none⟩) hz'').trans g3; have g4 := (hbn.cell (p := ⟨w.heap.size + 1 + 1, 4, none⟩) hz'').trans g4; have g5 := (hbn.cell (p := ⟨w.heap.size + 1 + 1, 5, none⟩) hz'').trans g5; have g6 := (hbn.cell (p := ⟨w.heap.size + 1 + 1, 6, none⟩) hz'').trans g6; have g7 := (hbn.cell (p := ⟨w.heap.size + 1 + 1, 7, none⟩) hz'').trans g7; have hz := Nat.lt_of_lt_of_le hz hbn.size; have hz' := Nat.lt_of_lt_of_le hz' hbn.size; have hz'' := Nat.lt_of_lt_of_le hz'' hbn.size; clear hbn))
          all_goals
            go_wp2_with fail
            go_meet
            exact ⟨rfl, rfl, rfl, hbF⟩
        case rest =>
          obtain ⟨rfl, rfl, rfl, hb⟩ := hcut
          have h01 := h01.trans (hb.mono h01.size)
          have hX := hX.below hb hX.here
          have hY := hY.below hb hY.here
          have hZ := hZ.below hb hZ.here
          have HV := Lib.hid (HV.out.on hb)
          have HU := Lib.hid (HU.out.on hb)
          have HT := Lib.hid (HT.out.on hb)
          have c0 := hX.cell 0
          have c1 := hX.cell 1
          have c2 := hX.cell 2
          have c3 := hX.cell 3
          have c4 := hX.cell 4
          have c5 := hX.cell 5
          have c6 := hX.cell 6
          have c7 := hX.cell 7
          have d0 := hY.cell 0
          have d1 := hY.cell 1
          have d2 := hY.cell 2
          have d3 := hY.cell 3
          have d4 := hY.cell 4
          have d5 := hY.cell 5
          have d6 := hY.cell 6
          have d7 := hY.cell 7
          have g0 := hZ.cell 0
          have g1 := hZ.cell 1
          have g2 := hZ.cell 2
          have g3 := hZ.cell 3
          have g4 := hZ.cell 4
          have g5 := hZ.cell 5
          have g6 := hZ.cell 6
          have g7 := hZ.cell 7
          have hz := hX.here
          have hz' := hY.here
          have hz'' := hZ.here
          simp only [List.getElem?_toArray, List.getElem?_cons_succ, List.getElem?_cons_zero] at c0 c1 c2 c3 c4 c5 c6 c7 d0 d1 d2 d3 d4 d5 d6 d7 g0 g1 g2 g3 g4 g5 g6 g7
          clear hb
          have Hneg := Lib.hid (comp_neg x y)
          have hr := comp_rng x y
          have Htri := Lib.hid (comp_tri x y z)
          go_wp2_with fail
          refine (rcompare_any x y _ _ _ _ _ _ _ HV.out HU.out).mono ?_
          rintro e w6 ⟨rfl, hb⟩
          have h01 := h01.trans (hb.mono h01.size)
          have hX := hX.below hb hX.here
          have hY := hY.below hb hY.here
          have hZ := hZ.below hb hZ.here
          have HV := Lib.hid (HV.out.on hb)
          have HU := Lib.hid (HU.out.on hb)
          have HT := Lib.hid (HT.out.on hb)
          have c0 := hX.cell 0
          have c1 := hX.cell 1
          have c2 := hX.cell 2
          have c3 := hX.cell 3
          have c4 := hX.cell 4
          have c5 := hX.cell 5
          have c6 := hX.cell 6
          have c7 := hX.cell 7
          have d0 := hY.cell 0
          have d1 := hY.cell 1
          have d2 := hY.cell 2
          have d3 := hY.cell 3
          have d4 := hY.cell 4
          have d5 := hY.cell 5
          have d6 := hY.cell 6
          have d7 := hY.cell 7
          have g0 := hZ.cell 0
          have g1 := hZ.cell 1
          have g2 := hZ.cell 2
          have g3 := hZ.cell 3
          have g4 := hZ.cell 4
          have g5 := hZ.cell 5
          have g6 := hZ.cell 6
          have g7 := hZ.cell 7
          have hz := hX.here
          have hz' := hY.here
          have hz'' := hZ.here
          simp only [List.getElem?_toArray, List.getElem?_cons_succ, List.getElem?_cons_zero] at c0 c1 c2 c3 c4 c5 c6 c7 d0 d1 d2 d3 d4 d5 d6 d7 g0 g1 g2 g3 g4 g5 g6 g7
          clear hb
          go_wp2_with fail
          refine (vcompare_any y x _ _ _ _ _ _ _ HU.out HV.out).mono ?_
          rintro e w7 ⟨rfl, hb⟩
          rw [Hneg.out]
          have h01 := h01.trans (hb.mono h01.size)
          have hX := hX.below hb hX.here
          have hY := hY.below hb hY.here
          have hZ := hZ.below hb hZ.here
          have HV := Lib.hid (HV.out.on hb)
          have HU := Lib.hid (HU.out.on hb)
          have HT := Lib.hid (HT.out.on hb)
          have c0 := hX.cell 0
          have c1 := hX.cell 1
          have c2 := hX.cell 2
          have c3 := hX.cell 3
          have c4 := hX.cell 4
          have c5 := hX.cell 5
          have c6 := hX.cell 6
          have c7 := hX.cell 7
          have d0 := hY.cell 0
          have d1 := hY.cell 1
          have d2 := hY.cell 2
          have d3 := hY.cell 3
          have d4 := hY.cell 4
          have d5 := hY.cell 5
          have d6 := hY.cell 6
          have d7 := hY.cell 7
          have g0 := hZ.cell 0
          have g1 := hZ.cell 1
          have g2 := hZ.cell 2
          have g3 := hZ.cell 3
          have g4 := hZ.cell 4
          have g5 := hZ.cell 5
          have g6 := hZ.cell 6
          have g7 := hZ.cell 7
          have hz := hX.here
          have hz' := hY.here
          have hz'' := hZ.here
          simp only [List.getElem?_toArray, List.getElem?_cons_succ, List.getElem?_cons_zero] at c0 c1 c2 c3 c4 c5 c6 c7 d0 d1 d2 d3 d4 d5 d6 d7 g0 g1 g2 g3 g4 g5 g6 g7
          clear hb
          clear Hneg
          generalize compareV x y = a at *
          generalize compareV y z = b at *
          generalize compareV x z = c at *
          by_cases e1 : x.kind = y.kind
          · have t1 : (x.kind != y.kind) = false := by simp [e1]
            by_cases e2 : y.kind = z.kind
            · have t2 : (y.kind != z.kind) = false := by simp [e2]
              have Htri := Lib.hid (Htri.out e1 e2)
              clear e1 e2
              by_cases k1 : a ≤ 0
              · have q1 : decide (a ≤ 0) = true := decide_eq_true k1
                by_cases k2 : b ≤ 0
                · have q2 : decide (b ≤ 0) = true := decide_eq_true k2
                  have k3 : c ≤ 0 := Htri.out k1 k2
                  have q3 : decide (c ≤ 0) = true := decide_eq_true k3
                  go_wp2_with fail
                  go_ret
                  exact ⟨rfl, h01⟩
                · have q2 : decide (b ≤ 0) = false := decide_eq_false k2
                  go_wp2_with fail
                  go_ret
                  exact ⟨rfl, h01⟩
              · have q1 : decide (a ≤ 0) = false := decide_eq_false k1
                go_wp2_with fail
                go_ret
                exact ⟨rfl, h01⟩
            · have t2 : (y.kind != z.kind) = true := by simpa using e2
              clear e1 e2
              go_wp2_with fail
              go_ret
              exact ⟨rfl, h01⟩
          · have t1 : (x.kind != y.kind) = true := by simpa using e1
            clear e1
            go_wp2_with fail
            go_ret
            exact ⟨rfl, h01⟩

namespace fr_ValueCompare
set_option maxRecDepth 100000 in
theorem lifted (os : Os) (started : os.Started) (H : Type) (enc : TypeId × Value → H) :
    ReturnsInHanded {} Try.checked os 5 .any (Rows.valueCompareSpec.pre6 enc Try.prog Try.f5 Rows.valueCompareRow.domain false) (Rows.valueCompareSpec.post enc Try.prog Try.f5 false true false false) := by
  refine returnsInHanded_of_change_sized (C := Try.checked) own_knob started (by kernel_rfl) Try.func5
    (ChangeSpec.witness6 (enc := enc) (C := Try.checked) false ⟨#[], #[.agg #[.int .i64 0, .bool false, .int .i64 0, .string ByteArray.empty, .int .i64 0, .slice none 0 0, .slice none 0 0, .slice none 0 0], .agg #[.int .i64 0, .bool false, .int .i64 0, .string ByteArray.empty, .int .i64 0, .slice none 0 0, .slice none 0 0, .slice none 0 0], .agg #[.int .i64 0, .bool false, .int .i64 0, .string ByteArray.empty, .int .i64 0, .slice none 0 0, .slice none 0 0, .slice none 0 0]], []⟩ 8 (by kernel_rfl) (by kernel_rfl) (by kernel_rfl) (by kernel_rfl)) ?_
  intro W base args ds gs before hval0 hW hcnd hsz0 _
  have hsz : (DataW.weightsEach Try.prog (Try.f5.params.toList ++ Rows.valueCompareSpec.plain.varTypes Try.prog) (ds ++ gs)).all (· ≤ reachBytes) = true := hsz0
  have hval : ∀ (j : Nat) t v, Try.f5.params[j]? = some t → args[j]? = some v → Value.okWide Try.prog W .any base t v := hval0
  have hW' := hW
  have hlt : ∀ p ∈ before, p.block < W.heap.size := fun p hp => hW.lt p hp
  obtain ⟨p, q, hA0, hV, rfl, hfz, hnd⟩ := hW
  have hA : DataW.TrodAll enc Try.prog W 0 (fun _ => true) true Try.f5.params.toList args.toList ds p := hA0
  have hA2 := hA
  rw [Try.params5] at hA hval hsz
  obtain ⟨v0, vs0, d0, ds0, p0, q0, hargs, rfl, hpq, h0, r0⟩ := trodAll_cons hA
  obtain ⟨v1, vs1, d1, ds1, p1, q1, rfl, rfl, rfl, h1, r1⟩ := trodAll_cons r0
  obtain ⟨v2, vs2, d2, ds2, p2, q2, rfl, rfl, rfl, h2, r2⟩ := trodAll_cons r1
  obtain ⟨rfl, rfl, rfl⟩ := trodAll_nil r2
  obtain rfl : args = #[v0, v1, v2] := by cases args; simp_all
  obtain ⟨rfl, rfl⟩ := trodVars_none hV
  obtain ⟨a0, k0, i0, e0, rfl, u0⟩ := open_val (hval 0 28 v0 rfl rfl) h0 (sz_of_each hsz (j := 0) rfl (by simp))
  obtain ⟨a1, k1, i1, e1, rfl, u1⟩ := open_val (hval 1 28 v1 rfl rfl) h1 (sz_of_each hsz (j := 1) rfl (by simp))
  obtain ⟨a2, k2, i2, e2, rfl, u2⟩ := open_val (hval 2 28 v2 rfl rfl) h2 (sz_of_each hsz (j := 2) rfl (by simp))
  clear hA0 hval0
  refine (walk_ValueCompare a0 k0 i0 e0 a1 k1 i1 e1 a2 k2 i2 e2 W u0 u1 u2).mono fun e W' ⟨he, bel⟩ => ?_
  subst he
  exact ⟨_, rfl, _, _, _, [], _, [], hW', trodAll_mk1 (shut_bool Try.underlying4 _), trodAll_below laid_out bel _ _ _ _ (by kernel_rfl) hA2 (fun x hx => hlt x (by simpa using hx)), rfl, bel.frame _, fun h => by cases h⟩
theorem proved : Rows.ValueCompareSaid :=
  OpenClaim.holds_of_wide 5 Try.f5 rfl rfl rfl rfl rfl rfl rfl ⟨rfl, rfl, rfl, rfl, rfl⟩ rfl rfl rfl rfl rfl (by kernel_rfl) Try.func5 (by kernel_rfl)
    (of_decide_eq_true (by kernel_rfl)) (by unfold Func.isWrapper; first | (rw [if_pos (by decide +kernel)]; kernel_rfl) | (rw [if_neg (by decide +kernel)]; exact ⟨rfl, rfl⟩))
    (fun os started H enc _ => lifted os started H enc)
#print axioms proved
end fr_ValueCompare

end Go.Proofs.Ytjcoeolconelmaa

/- What SameValue, SameValues and ref Equal compute. No condition. -/
import Derived.Test.YtjcoeolconelmaaValE
import Derived.StillTailTactics
namespace Go.Proofs.Ytjcoeolconelmaa
open Go.ChangeShapes Go.WideShapes Go.ChangeAt Go.RowKit

set_option maxRecDepth 100000 in
set_option maxHeartbeats 400000 in
theorem rsames_any (xs ys : List Val) (va vb : Value) (w : World) (hlx : xs.length ≤ 140737488351232) (hly : ys.length ≤ 140737488351232) (hx : RdVals w w.heap.size va xs) (hy : RdVals w w.heap.size vb ys)
    (ih : ∀ (x y : Val) (vk vi vr vk' vi' vr' : Value) (W : World), x ∈ xs → ValAt W W.heap.size x vk vi vr → ValAt W W.heap.size y vk' vi' vr' → Calls Try.prog 59 #[valA x vk vi vr, valA y vk' vi' vr'] W fun e w' => e = .returned (.bool (sameV x y)) ∧ Below W.heap.size W w') :
    Calls Try.prog 85 #[va, vb] w fun e w' => e = .returned (.bool (sameL xs ys)) ∧ Below w.heap.size w w' := by
  have IH := Lib.hid ih
  obtain ⟨A, c, rfl, hc⟩ := hx.form
  obtain ⟨B, d, rfl, hd⟩ := hy.form
  have HX := Lib.hid hx
  have HY := Lib.hid hy
  clear hx hy ih
  by_cases hl : xs.length = ys.length
  · have HL := Lib.hid hl
    have h1 : ((xs.length : Int) != (ys.length : Int)) = false := by simp [hl]
    have hl' : (xs.length : Int) ≤ ys.length := by omega
    clear hl
    go_enter Try.func85, Try.ntmps85
    go_wp2
    go_loopw [5] (fun i wr => ∃ k : Nat, k ≤ xs.length ∧ i = .int .i64 k ∧ xs.take k = ys.take k ∧ Below w.heap.size w wr) (fun i _ => xs.length - (intOf i).toNat)
    case atStart => exact ⟨0, by omega, rfl, rfl, Below.refl _ _⟩
    case round =>
      obtain ⟨k, hk, rfl, hp, hb⟩ := hrel
      have Hp := Lib.hid hp
      clear hp
      by_cases hlt : k < xs.length
      · have hlt' : k < ys.length := by omega
        obtain ⟨b, o, rfl, hbb, hel⟩ := (HX.out.on hb).elem (by omega)
        obtain ⟨b', o', rfl, hbb', hel'⟩ := (HY.out.on hb).elem (by omega)
        obtain ⟨yk, yi, yr, hcells, hva⟩ := hel k hlt
        obtain ⟨yk', yi', yr', hcells', hva'⟩ := hel' k hlt'
        have Htk := Lib.hid (sameL_take xs ys k hlt hlt' Hp.out)
        have Hne := Lib.hid (sameL_ne xs ys k hlt hlt')
        have hmem : xs[k] ∈ xs := List.getElem_mem hlt
        have hi1 : (k : Int) < xs.length := by omega
        have hi2 : (k : Int) < ys.length := by omega
        generalize xs[k] = x at *
        generalize ys[k] = y at *
        obtain ⟨A1, n1, A2, n2, A3, n3, rfl, rfl, rfl, -, -, -⟩ := hva.forms
        obtain ⟨B1, k1, B2, k2, B3, k3, rfl, rfl, rfl, -, -, -⟩ := hva'.forms
        obtain ⟨c0, c1, c2, c3, c4, c5, c6, c7⟩ := hcells
        obtain ⟨d0, d1, d2, d3, d4, d5, d6, d7⟩ := hcells'
        have HA := Lib.hid hva
        have HA' := Lib.hid hva'
        have Hmem := Lib.hid hmem
        clear hel hel' hva hva' hmem
        go_wp2_with fail
        go_still_tail 8, (by kernel_rfl)
        change wpList _ _ _ _ _ wr.drew
        have HD := Lib.hid (HA.out.on (w' := wr.drew) (Below.refl _ _).drew)
        have HD' := Lib.hid (HA'.out.on (w' := wr.drew) (Below.refl _ _).drew)
        have hbd := hb.drew
        clear hb c0 c1 c2 c3 c4 c5 c6 c7 d0 d1 d2 d3 d4 d5 d6 d7 HA HA'
        generalize wr.drew = w1 at *
        go_wp2_with fail
        refine (IH.out x y _ _ _ _ _ _ _ Hmem.out HD.out HD'.out).mono ?_
        rintro e w2 ⟨rfl, hb2⟩
        have hb02 := hbd.trans (hb2.mono hbd.size)
        clear hb2 hbd
        cases hsv : sameV x y with
        | true =>
          have Hsv := Lib.hid (Htk.out hsv)
          clear hsv
          go_wp2_with fail
          go_roundw
          case rel => exact ⟨k + 1, by omega, by go_num, Hsv.out, hb02⟩
          case measure => simp [intOf]; omega
        | false =>
          have Hsv := Lib.hid (Hne.out hsv)
          clear hsv
          go_wp2_with fail
          go_ret
          exact ⟨ret_bool Hsv.out.symm, hb02⟩
      · go_wp2
        go_ret
        refine ⟨ret_bool ?_, hb⟩
        have e1 := Hp.out
        rw [List.take_of_length_le (by omega), List.take_of_length_le (by have := HL.out; omega)] at e1
        exact ((sameL_iff _ _).2 e1).symm
  · have h1 : ((xs.length : Int) != (ys.length : Int)) = true := by rw [bne_iff_ne]; omega
    have HL := Lib.hid hl
    clear hl
    go_enter Try.func85, Try.ntmps85
    go_wp2
    go_ret
    exact ⟨ret_bool (sameL_len _ _ HL.out).symm, Below.refl _ _⟩

set_option maxRecDepth 100000 in
set_option maxHeartbeats 1600000 in
theorem rsame_any : ∀ (N : Nat) (x y : Val) (vk vi vr vk' vi' vr' : Value) (w : World), nodes x < N → ValAt w w.heap.size x vk vi vr → ValAt w w.heap.size y vk' vi' vr' →
    Calls Try.prog 59 #[valA x vk vi vr, valA y vk' vi' vr'] w fun e w' => e = .returned (.bool (sameV x y)) ∧ Below w.heap.size w w' := by
  intro N
  induction N with
  | zero => intro x y vk vi vr vk' vi' vr' w h; omega
  | succ N ih =>
    intro x y vk vi vr vk' vi' vr' w hN hv hv'
    have hne := nodes_eq x
    have IH := Lib.hid ih
    have hkeys := hv.keys
    have hitems := hv.items
    have hrest := hv.rest
    have hkeys' := hv'.keys
    have hitems' := hv'.items
    have hrest' := hv'.rest
    obtain ⟨hkl, hil, hrl⟩ := hv.lens
    obtain ⟨hkl', hil', hrl'⟩ := hv'.lens
    have hsl := hv.strl
    have hsl' := hv'.strl
    obtain ⟨A1, n1, A2, n2, A3, n3, rfl, rfl, rfl, -, -, -⟩ := hv.forms
    obtain ⟨B1, k1, B2, k2, B3, k3, rfl, rfl, rfl, -, -, -⟩ := hv'.forms
    have hNk : nodesL x.keys + nodesL x.items < N := by omega
    clear hv hv' ih hne
    have h0b := fun (o1 o2 : Obj) => ((Below.refl w.heap.size w).alloc (Nat.le_refl _) o1).alloc (show w.heap.size ≤ (w.alloc o1).heap.size by simp) o2
    by_cases e0 : x.kind = y.kind
    · have t0 : (x.kind != y.kind) = false := by simp [e0]
      by_cases e1 : x.bool = y.bool
      · have t1 : (x.bool != y.bool) = false := by simp [e1]
        by_cases e2 : x.num = y.num
        · have t2 : (x.num != y.num) = false := by simp [e2]
          by_cases e3 : x.str = y.str
          · have t3 : (x.str != y.str) = false := by simp [e3]
            by_cases e4 : x.id = y.id
            · have t4 : (x.id != y.id) = false := by simp [e4]
              have hse : sameV x y = (decide (x.rest = y.rest) && (sameL x.keys y.keys && sameL x.items y.items)) := by rw [sameV_eq]; simp [e0, e1, e2, e3, e4]
              have Hse := Lib.hid hse
              simp only [valA, ← e0, ← e1, ← e2, ← e3, ← e4]
              clear hse e0 e1 e2 e3 e4
              by_cases hl : x.rest.length = y.rest.length
              · have HL := Lib.hid hl
                have tl : ((x.rest.length : Int) != (y.rest.length : Int)) = false := by simp [hl]
                have hl' : (x.rest.length : Int) ≤ y.rest.length := by omega
                clear hl
                go_enter Try.func59, Try.ntmps59
                go_wp2_with fail
                generalize hw0 : (w.alloc _).alloc _ = w0 at *
                have h00 : Below w.heap.size w w0 := by rw [← hw0]; exact h0b _ _
                have HX0 : Has w0 w.heap.size 28 #[.int .i64 x.kind, .bool x.bool, .int .i64 x.num, .string ⟨x.str.toArray⟩, .int .i64 x.id, .slice A1 x.keys.length n1, .slice A2 x.items.length n2, .slice A3 x.rest.length n3] := by rw [← hw0]; exact (Has.made _ _ _).alloc _
                have HY0 : Has w0 (w.heap.size + 1) 28 #[.int .i64 x.kind, .bool x.bool, .int .i64 x.num, .string ⟨x.str.toArray⟩, .int .i64 x.id, .slice B1 y.keys.length k1, .slice B2 y.items.length k2, .slice B3 y.rest.length k3] := by rw [← hw0]; simpa using Has.made (w.alloc _) _ _
                clear hw0 h0b
                have hz0 := HY0.here
                have hz0' : w.heap.size < w0.heap.size := by omega
                have HK := Lib.hid (hkeys.on h00)
                have HK' := Lib.hid (hkeys'.on h00)
                have HI := Lib.hid (hitems.on h00)
                have HI' := Lib.hid (hitems'.on h00)
                have HR := Lib.hid ((hrest.below h00).mono h00.size)
                have HR' := Lib.hid ((hrest'.below h00).mono h00.size)
                have HX0 := Lib.hid HX0
                have HY0 := Lib.hid HY0
                clear hkeys hkeys' hitems hitems' hrest hrest'
                go_loopw [5] (fun i wr => ∃ k : Nat, i = .int .i64 k ∧ k ≤ x.rest.length ∧ x.rest.take k = y.rest.take k ∧ Below w0.heap.size w0 wr) (fun i _ => x.rest.length - (intOf i).toNat)
                case atStart => exact ⟨0, rfl, by omega, rfl, Below.refl _ _⟩
                case round =>
                  obtain ⟨k, rfl, hk, hp, hb⟩ := hrel
                  have Hp := Lib.hid hp
                  clear hp
                  have HXr := HX0.out.below hb hz0'
                  have HYr := HY0.out.below hb hz0
                  have cx := HXr.cell 7
                  have cy := HYr.cell 7
                  simp only [List.getElem?_toArray, List.getElem?_cons_succ, List.getElem?_cons_zero] at cx cy
                  have HXr := Lib.hid HXr
                  have HYr := Lib.hid HYr
                  by_cases hlt : k < x.rest.length
                  · obtain ⟨b, o, rfl, hbb, hcell⟩ := (HR.out.below hb).at_ (by omega)
                    obtain ⟨b', o', rfl, hbb', hcell'⟩ := (HR'.out.below hb).at_ (by omega)
                    have hlt' : k < y.rest.length := by omega
                    obtain ⟨hc0, hc1⟩ := rawV_at hcell k hlt
                    obtain ⟨hd0, hd1⟩ := rawV_at hcell' k hlt'
                    clear hcell hcell'
                    have hi1 : (k : Int) < x.rest.length := by omega
                    have hi2 : (k : Int) < y.rest.length := by omega
                    have Hx : Hid (x.rest.take (k+1) = x.rest.take k ++ [x.rest[k]]) := List.take_succ_eq_append_getElem hlt
                    have Hy : Hid (y.rest.take (k+1) = y.rest.take k ++ [y.rest[k]]) := List.take_succ_eq_append_getElem hlt'
                    have Hne : Hid (x.rest[k] ≠ y.rest[k] → sameV x y = false) := fun h => by
                      rw [Hse.out, decide_eq_false (fun e => h (by simp [e]))]; rfl
                    generalize x.rest[k] = r at *
                    generalize y.rest[k] = s at *
                    have hq := neq_raw r s
                    have hg : Try.prog.eqGuardType Try.prog.depth 78 = false := by kernel_rfl
                    have h0w := h00.trans (hb.mono h00.size)
                    by_cases he : r = s
                    · rw [decide_eq_true he] at hq
                      have He := Lib.hid he
                      clear he
                      simp only [rawA, Bool.not_true] at hq
                      go_wp2
                      go_quiet (fail)
                      go_wp2
                      go_roundw
                      case rel => exact ⟨k + 1, by go_num, by omega, by rw [Hx.out, Hy.out, Hp.out, He.out], below_drewN hb _⟩
                      case measure => simp [intOf]; omega
                    · rw [decide_eq_false he] at hq
                      have He := Lib.hid he
                      clear he
                      simp only [rawA, Bool.not_false] at hq
                      go_wp2
                      go_quiet (fail)
                      go_wp2
                      go_ret
                      exact ⟨ret_bool (Hne.out He.out).symm, below_drewN h0w _⟩
                  · have e1 := Hp.out
                    rw [List.take_of_length_le (by omega), List.take_of_length_le (by have := HL.out; omega)] at e1
                    rw [decide_eq_true e1] at Hse
                    have h0w := h00.trans (hb.mono h00.size)
                    have HK := Lib.hid (HK.out.on hb)
                    have HK' := Lib.hid (HK'.out.on hb)
                    have HI := Lib.hid (HI.out.on hb)
                    have HI' := Lib.hid (HI'.out.on hb)
                    have hzr : w.heap.size + 1 < wr.heap.size := Nat.lt_of_lt_of_le hz0 hb.size
                    have hzr' : w.heap.size < wr.heap.size := by omega
                    have cx5 := HXr.out.cell 5
                    have cy5 := HYr.out.cell 5
                    simp only [List.getElem?_toArray, List.getElem?_cons_succ, List.getElem?_cons_zero] at cx5 cy5
                    clear e1 hb Hp
                    go_wp2_with fail
                    refine (rsames_any x.keys y.keys _ _ _ hkl hkl' HK.out HK'.out (fun p q _ _ _ _ _ _ W hp h1 h2 => IH.out p q _ _ _ _ _ _ W (by have := nodesL_mem x.keys p hp; omega) h1 h2)).mono ?_
                    rintro e w2 ⟨rfl, hb2⟩
                    have h02 := h0w.trans (hb2.mono h0w.size)
                    have HX2 := HXr.out.below hb2 hzr'
                    have HY2 := HYr.out.below hb2 hzr
                    have HI := Lib.hid (HI.out.on hb2)
                    have HI' := Lib.hid (HI'.out.on hb2)
                    clear cx cy cx5 cy5
                    have cx := HX2.cell 6
                    have cy := HY2.cell 6
                    simp only [List.getElem?_toArray, List.getElem?_cons_succ, List.getElem?_cons_zero] at cx cy
                    clear hb2 HX2 HY2
                    cases hdk : sameL x.keys y.keys with
                    | false =>
                      rw [hdk] at Hse
                      clear hdk
                      go_wp2_with fail
                      go_ret
                      exact ⟨ret_bool Hse.out.symm, h02⟩
                    | true =>
                      rw [hdk] at Hse
                      clear hdk
                      go_wp2_with fail
                      refine (rsames_any x.items y.items _ _ _ hil hil' HI.out HI'.out (fun p q _ _ _ _ _ _ W hp h1 h2 => IH.out p q _ _ _ _ _ _ W (by have := nodesL_mem x.items p hp; omega) h1 h2)).mono ?_
                      rintro e w3 ⟨rfl, hb3⟩
                      go_wp2_with fail
                      go_ret
                      exact ⟨ret_bool (by rw [Hse.out]; rfl), h02.trans (hb3.mono h02.size)⟩
              · have tl : ((x.rest.length : Int) != (y.rest.length : Int)) = true := by rw [bne_iff_ne]; omega
                rw [decide_eq_false (fun h => hl (by rw [h]))] at Hse
                clear hl hkeys hkeys' hitems hitems' hrest hrest'
                go_enter Try.func59, Try.ntmps59
                go_wp2
                go_ret
                exact ⟨ret_bool Hse.out.symm, h0b _ _⟩
            · have t4 : (x.id != y.id) = true := by simpa using e4
              have hs : Hid (sameV x y = false) := by show _ = _; rw [sameV_eq, decide_eq_false (fun h => e4 h.2.2.2.2.1)]; rfl
              simp only [valA, ← e0, ← e1, ← e2, ← e3]
              clear e0 e1 e2 e3 hkeys hkeys' hitems hitems' hrest hrest'
              go_enter Try.func59, Try.ntmps59
              go_wp2
              go_ret
              exact ⟨ret_bool hs.out.symm, h0b _ _⟩
          · have t3 : (x.str != y.str) = true := by simpa using e3
            have t3' : (!(x.str == y.str)) = true := by simpa using e3
            have hs : Hid (sameV x y = false) := by show _ = _; rw [sameV_eq, decide_eq_false (fun h => e3 h.2.2.2.1)]; rfl
            simp only [valA, ← e0, ← e1, ← e2]
            clear e0 e1 e2 hkeys hkeys' hitems hitems' hrest hrest'
            go_enter Try.func59, Try.ntmps59
            go_wp2
            go_ret
            exact ⟨ret_bool hs.out.symm, h0b _ _⟩
        · have t2 : (x.num != y.num) = true := by simpa using e2
          have hs : Hid (sameV x y = false) := by show _ = _; rw [sameV_eq, decide_eq_false (fun h => e2 h.2.2.1)]; rfl
          simp only [valA, ← e0, ← e1]
          clear e0 e1 hkeys hkeys' hitems hitems' hrest hrest'
          go_enter Try.func59, Try.ntmps59
          go_wp2
          go_ret
          exact ⟨ret_bool hs.out.symm, h0b _ _⟩
      · have t1 : (x.bool != y.bool) = true := by simpa using e1
        have hs : Hid (sameV x y = false) := by show _ = _; rw [sameV_eq, decide_eq_false (fun h => e1 h.2.1)]; rfl
        simp only [valA, ← e0]
        clear e0 hkeys hkeys' hitems hitems' hrest hrest'
        go_enter Try.func59, Try.ntmps59
        go_wp2
        go_ret
        exact ⟨ret_bool hs.out.symm, h0b _ _⟩
    · have t0 : (x.kind != y.kind) = true := by simpa using e0
      have hs : Hid (sameV x y = false) := by show _ = _; rw [sameV_eq, decide_eq_false (fun h => e0 h.1)]; rfl
      clear hkeys hkeys' hitems hitems' hrest hrest'
      go_enter Try.func59, Try.ntmps59
      go_wp2
      go_ret
      exact ⟨ret_bool hs.out.symm, h0b _ _⟩

set_option maxRecDepth 100000 in
set_option maxHeartbeats 400000 in
theorem requal_any (x y : Val) (vk vi vr vk' vi' vr' : Value) (w : World) (hv : ValAt w w.heap.size x vk vi vr) (hv' : ValAt w w.heap.size y vk' vi' vr') :
    Calls Try.prog 28 #[valA x vk vi vr, valA y vk' vi' vr'] w fun e w' => e = .returned (.bool (sameV x y)) ∧ Below w.heap.size w w' := by
  obtain ⟨A1, n1, A2, n2, A3, n3, rfl, rfl, rfl, -, -, -⟩ := hv.forms
  obtain ⟨B1, k1, B2, k2, B3, k3, rfl, rfl, rfl, -, -, -⟩ := hv'.forms
  have h0b := fun (o1 o2 : Obj) => ((Below.refl w.heap.size w).alloc (Nat.le_refl _) o1).alloc (show w.heap.size ≤ (w.alloc o1).heap.size by simp) o2
  have HV := Lib.hid hv
  have HV' := Lib.hid hv'
  clear hv hv'
  go_enter Try.func28, Try.ntmps28
  go_wp2_with fail
  refine (rsame_any (nodes x + 1) x y _ _ _ _ _ _ _ (by omega) (HV.out.on (h0b _ _)) (HV'.out.on (h0b _ _))).mono ?_
  rintro e w1 ⟨rfl, hb1⟩
  go_wp2_with fail
  go_ret
  exact ⟨rfl, (h0b _ _).trans (hb1.mono (h0b _ _).size)⟩
end Go.Proofs.Ytjcoeolconelmaa

/- What size and Small compute. No condition. -/
import Derived.Test.YtjcoeolconelmaaValD
namespace Go.Proofs.Ytjcoeolconelmaa
open Go.ChangeShapes Go.WideShapes Go.ChangeAt Go.RowKit

def sizeR : List Raw → Int → Int
  | [], n => n
  | r :: rs, n => if n < 0 then n else sizeR rs (n - r.2.length)
mutual
def sizeV : Val → Int → Int
  | .mk _ _ _ s _ ks is rs, n => sizeL is (sizeL ks (sizeR rs (n - (10 + s.length + rs.length))))
def sizeL : List Val → Int → Int
  | [], n => n
  | x :: r, n => if n < 0 then n else sizeL r (sizeV x n)
end
theorem sizeV_eq (x : Val) (n : Int) : sizeV x n = sizeL x.items (sizeL x.keys (sizeR x.rest (n - (10 + x.str.length + x.rest.length)))) := by cases x; rw [sizeV]; rfl
theorem sizeR_le (rs : List Raw) : ∀ n, sizeR rs n ≤ n := by
  induction rs with
  | nil => intro n; exact Int.le_refl _
  | cons r rs ih =>
    intro n
    rw [sizeR]
    split
    · omega
    · have := ih (n - r.2.length); omega
theorem sizeR_neg (rs : List Raw) (n : Int) (h : n < 0) : sizeR rs n = n := by
  cases rs with
  | nil => rfl
  | cons r rs => rw [sizeR, if_pos h]
theorem sizeL_neg (l : List Val) (n : Int) (h : n < 0) : sizeL l n = n := by
  cases l with
  | nil => rw [sizeL]
  | cons x r => rw [sizeL, if_pos h]
mutual
theorem sizeV_nodes : ∀ (x : Val) (n : Int), sizeV x n ≤ n - 10 ∧ (0 ≤ sizeV x n → 10 * (nodes x : Int) ≤ n - sizeV x n)
  | .mk _ _ _ s _ ks is rs, n => by
    rw [sizeV, nodes]
    have h1 := sizeR_le rs (n - (10 + s.length + rs.length))
    have h2 := sizeL_nodes ks (sizeR rs (n - (10 + s.length + rs.length)))
    have h3 := sizeL_nodes is (sizeL ks (sizeR rs (n - (10 + s.length + rs.length))))
    refine ⟨by omega, fun h => ?_⟩
    have h4 := h3.2 h
    have h5 := h2.2 (by omega)
    omega
theorem sizeL_nodes : ∀ (l : List Val) (n : Int), sizeL l n ≤ n ∧ (0 ≤ sizeL l n → 10 * (nodesL l : Int) ≤ n - sizeL l n)
  | [], n => by rw [sizeL, nodesL]; omega
  | x :: r, n => by
    rw [sizeL, nodesL]
    split
    · omega
    · have h1 := sizeV_nodes x n
      have h2 := sizeL_nodes r (sizeV x n)
      refine ⟨by omega, fun h => ?_⟩
      have h3 := h2.2 h
      have h4 := h1.2 (by omega)
      omega
end
def smallB (x : Val) : Bool := decide (0 ≤ sizeV x 3000)
theorem small_nodes (x : Val) (h : smallB x = true) : nodes x ≤ 300 := by
  have h1 : 0 ≤ sizeV x 3000 := of_decide_eq_true h
  have h2 := (sizeV_nodes x 3000).2 h1
  omega

theorem rawV_at {w : World} {b o : Nat} {rs : List Raw} (hcell : ∀ j u, (rawsV rs)[j]? = some u → w.cell? ⟨b, o + j, none⟩ = some u) (k : Nat) (h : k < rs.length) :
    w.cell? ⟨b, o + k * 2, none⟩ = some (.int .i64 rs[k].1) ∧ w.cell? ⟨b, o + k * 2 + 1, none⟩ = some (.string ⟨rs[k].2.toArray⟩) :=
  ⟨hcell (k * 2) _ (flat_get rawV_len rs k 0 h (by omega)), hcell (k * 2 + 1) _ (flat_get rawV_len rs k 1 h (by omega))⟩

set_option maxRecDepth 100000 in
set_option maxHeartbeats 1600000 in
theorem rsize_any : ∀ (N : Nat) (x : Val) (n : Int) (vk vi vr : Value) (w : World), 0 ≤ n → n < N → N ≤ 3001 → ValAt w w.heap.size x vk vi vr →
    Calls Try.prog 44 #[valA x vk vi vr, .int .i64 n] w fun e w' => (e = .returned (.int .i64 (sizeV x n)) ∧ -1125899906842624 ≤ sizeV x n) ∧ Below w.heap.size w w' := by
  intro N
  induction N with
  | zero => intro x n vk vi vr w h0 h1; omega
  | succ N ih =>
    intro x n vk vi vr w hn0 hnN hN1 hv
    have hkeys := hv.keys
    have hitems := hv.items
    have hrest := hv.rest
    have hraw := hv.raws
    have hsl := hv.strl
    have hle := hv.lens
    have Hsz := Lib.hid (sizeV_eq x n)
    have IH := Lib.hid ih
    obtain ⟨A1, n1, A2, n2, A3, n3, rfl, rfl, rfl, hn1, hn2, hn3⟩ := hv.forms
    clear hv ih
    go_enter Try.func44, Try.ntmps44
    go_wp2
    have HL := Has.made w 28 #[.int .i64 x.kind, .bool x.bool, .int .i64 x.num, .string ⟨x.str.toArray⟩, .int .i64 x.id, .slice A1 x.keys.length n1, .slice A2 x.items.length n2, .slice A3 x.rest.length n3]
    have h01 := (Below.refl w.heap.size w).alloc (Nat.le_refl _) (.cells #[.int .i64 x.kind, .bool x.bool, .int .i64 x.num, .string ⟨x.str.toArray⟩, .int .i64 x.id, .slice A1 x.keys.length n1, .slice A2 x.items.length n2, .slice A3 x.rest.length n3] 28)
    generalize w.alloc (.cells #[.int .i64 x.kind, .bool x.bool, .int .i64 x.num, .string ⟨x.str.toArray⟩, .int .i64 x.id, .slice A1 x.keys.length n1, .slice A2 x.items.length n2, .slice A3 x.rest.length n3] 28) = w1 at *
    have HK := Lib.hid (hkeys.on h01)
    have HI := Lib.hid (hitems.on h01)
    have HR := Lib.hid ((hrest.below h01).mono h01.size)
    have hz1 := HL.here
    have c7 := HL.cell 7
    simp only [List.getElem?_toArray, List.getElem?_cons_succ, List.getElem?_cons_zero] at c7
    have HL := Lib.hid HL
    have Hraw := Lib.hid hraw
    clear hkeys hitems hrest hraw
    go_loopw [1, 5] (fun m i wr => ∃ (i1 : Nat) (m1 : Int), i = .int .i64 i1 ∧ i1 ≤ x.rest.length ∧ m = .int .i64 m1 ∧ sizeR (x.rest.drop i1) m1 = sizeR x.rest (n - (10 + x.str.length + x.rest.length)) ∧ m1 ≤ n - 10 ∧ -1125899906842624 ≤ m1 ∧ Below w1.heap.size w1 wr) (fun _ i _ => x.rest.length - (intOf i).toNat)
    case atStart => exact ⟨0, _, rfl, by omega, rfl, rfl, by omega, by omega, Below.refl _ _⟩
    case round =>
      obtain ⟨i1, m1, rfl, hi1, rfl, hs1, hm1, hm1b, hb1⟩ := hrel
      have c7 := (hb1.cell (p := ⟨w.heap.size, 7, none⟩) hz1).trans c7
      by_cases hgo : i1 < x.rest.length ∧ 0 ≤ m1
      · obtain ⟨hlt, hm0⟩ := hgo
        obtain ⟨b, o, rfl, hbb, hcell⟩ := (HR.out.below hb1).at_ (by omega)
        rw [List.drop_eq_getElem_cons hlt, sizeR, if_neg (by omega)] at hs1
        obtain ⟨d0, d1⟩ := rawV_at hcell i1 hlt
        have hri := (Hraw.out x.rest[i1] (List.getElem_mem hlt)).2
        generalize x.rest[i1] = r at *
        have Hs1 := Lib.hid hs1
        clear hs1 hcell
        go_wp2
        go_roundw
        case rel => exact ⟨i1 + 1, m1 - r.2.length, by go_num, by omega, rfl, Hs1.out, by omega, by omega, hb1⟩
        case measure => simp [intOf]; omega
      · have he1 : sizeR x.rest (n - (10 + x.str.length + x.rest.length)) = m1 := by
          rw [← hs1]
          by_cases h2 : m1 < 0
          · exact sizeR_neg _ _ h2
          · rw [List.drop_eq_nil_of_le (by omega)]; rfl
        rw [he1] at Hsz
        have hex : (x.rest.length : Int) ≤ i1 ∨ m1 < 0 := by omega
        have h02 := h01.trans (hb1.mono h01.size)
        have HK2 := Lib.hid (HK.out.on hb1)
        have HI2 := Lib.hid (HI.out.on hb1)
        have HL2 := Lib.hid (HL.out.below hb1 hz1)
        have hz2 : w.heap.size < wr.heap.size := Nat.lt_of_lt_of_le hz1 hb1.size
        obtain ⟨wo, rfl⟩ : ∃ wo : World, wo = wr := ⟨_, rfl⟩
        clear hb1 hs1 he1 hgo
        have hex2 : (x.rest.length : Int) ≤ i1 ∨ ((i1 : Int) < x.rest.length ∧ m1 < 0) := by omega
        clear hex
        rcases hex2 with hex | ⟨hex, hex0⟩
        all_goals
          go_wp2_with fail
          clear c7
          go_loopw [1, 6] (fun m i wr => ∃ (i6 : Nat) (q : Int), i = .int .i64 i6 ∧ i6 ≤ x.keys.length ∧ m = .int .i64 q ∧ sizeL (x.keys.drop i6) q = sizeL x.keys m1 ∧ q ≤ n - 10 ∧ -1125899906842624 ≤ q ∧ Below wo.heap.size wo wr) (fun _ i _ => x.keys.length - (intOf i).toNat)
          case atStart => exact ⟨0, _, rfl, by omega, rfl, rfl, by omega, by omega, Below.refl _ _⟩
          case round =>
            obtain ⟨j6, q6, rfl, hj6, rfl, hs6, hq6, hqb6, hb6⟩ := hrel
            have cF := (hb6.cell (p := ⟨w.heap.size, 5, none⟩) hz2).trans (HL2.out.cell 5)
            simp only [List.getElem?_toArray, List.getElem?_cons_succ, List.getElem?_cons_zero] at cF
            by_cases hgo : j6 < x.keys.length ∧ 0 ≤ q6
            · obtain ⟨hlt, hm0⟩ := hgo
              obtain ⟨b, o, rfl, hbb, hel⟩ := (HK2.out.on hb6).elem (by omega)
              obtain ⟨yk, yi, yr, hcells, hva⟩ := hel j6 hlt
              rw [List.drop_eq_getElem_cons hlt, sizeL, if_neg (by omega)] at hs6
              generalize x.keys[j6] = y at *
              obtain ⟨B1, k1, B2, k2, B3, k3, rfl, rfl, rfl, -, -, -⟩ := hva.forms
              obtain ⟨d0, d1, d2, d3, d4, d5, d6, d7⟩ := hcells
              have HA := Lib.hid hva
              have hsv := (sizeV_nodes y q6).1
              have Hs1 := Lib.hid hs6
              clear hel hva hs6
              go_wp2_with fail
              refine (IH.out y q6 _ _ _ _ hm0 (by omega) (by omega) HA.out).mono ?_
              rintro e w2 ⟨⟨rfl, hsb⟩, hb2⟩
              have hb02 := hb6.trans (hb2.mono hb6.size)
              clear hb2 hb6
              generalize sizeV y q6 = z at *
              go_wp2_with fail
              go_roundw
              case rel => exact ⟨j6 + 1, z, by go_num, by omega, rfl, Hs1.out, by omega, by omega, hb02⟩
              case measure => simp [intOf]; omega
            · have he6 : sizeL x.keys m1 = q6 := by
                rw [← hs6]
                by_cases h2 : q6 < 0
                · exact sizeL_neg _ _ h2
                · rw [List.drop_eq_nil_of_le (by omega), sizeL]
              rw [he6] at Hsz
              have hex6 : (x.keys.length : Int) ≤ j6 ∨ ((j6 : Int) < x.keys.length ∧ q6 < 0) := by omega
              clear hgo hs6 he6
              have h03 := h02.trans (hb6.mono h02.size)
              have HI3 := Lib.hid (HI2.out.on hb6)
              have HL3 := Lib.hid (HL2.out.below hb6 hz2)
              have hz3 : w.heap.size < wr.heap.size := Nat.lt_of_lt_of_le hz2 hb6.size
              obtain ⟨wo2, rfl⟩ : ∃ wo : World, wo = wr := ⟨_, rfl⟩
              clear hb6
              rcases hex6 with hex6 | ⟨hex6, hex60⟩
              all_goals
                go_wp2_with fail
                clear cF
                go_loopw [1, 7] (fun m i wr => ∃ (i7 : Nat) (q : Int), i = .int .i64 i7 ∧ i7 ≤ x.items.length ∧ m = .int .i64 q ∧ sizeL (x.items.drop i7) q = sizeL x.items q6 ∧ q ≤ n - 10 ∧ -1125899906842624 ≤ q ∧ Below wo2.heap.size wo2 wr) (fun _ i _ => x.items.length - (intOf i).toNat)
                case atStart => exact ⟨0, _, rfl, by omega, rfl, rfl, by omega, by omega, Below.refl _ _⟩
                case round =>
                  obtain ⟨j7, q7, rfl, hj7, rfl, hs7, hq7, hqb7, hb7⟩ := hrel
                  have cF := (hb7.cell (p := ⟨w.heap.size, 6, none⟩) hz3).trans (HL3.out.cell 6)
                  simp only [List.getElem?_toArray, List.getElem?_cons_succ, List.getElem?_cons_zero] at cF
                  by_cases hgo : j7 < x.items.length ∧ 0 ≤ q7
                  · obtain ⟨hlt, hm0⟩ := hgo
                    obtain ⟨b, o, rfl, hbb, hel⟩ := (HI3.out.on hb7).elem (by omega)
                    obtain ⟨yk, yi, yr, hcells, hva⟩ := hel j7 hlt
                    rw [List.drop_eq_getElem_cons hlt, sizeL, if_neg (by omega)] at hs7
                    generalize x.items[j7] = y at *
                    obtain ⟨B1, k1, B2, k2, B3, k3, rfl, rfl, rfl, -, -, -⟩ := hva.forms
                    obtain ⟨d0, d1, d2, d3, d4, d5, d6, d7⟩ := hcells
                    have HA := Lib.hid hva
                    have hsv := (sizeV_nodes y q7).1
                    have Hs1 := Lib.hid hs7
                    clear hel hva hs7
                    go_wp2_with fail
                    refine (IH.out y q7 _ _ _ _ hm0 (by omega) (by omega) HA.out).mono ?_
                    rintro e w2 ⟨⟨rfl, hsb⟩, hb2⟩
                    have hb02 := hb7.trans (hb2.mono hb7.size)
                    clear hb2 hb7
                    generalize sizeV y q7 = z at *
                    go_wp2_with fail
                    go_roundw
                    case rel => exact ⟨j7 + 1, z, by go_num, by omega, rfl, Hs1.out, by omega, by omega, hb02⟩
                    case measure => simp [intOf]; omega
                  · have he7 : sizeL x.items q6 = q7 := by
                      rw [← hs7]
                      by_cases h2 : q7 < 0
                      · exact sizeL_neg _ _ h2
                      · rw [List.drop_eq_nil_of_le (by omega), sizeL]
                    rw [he7] at Hsz
                    have hex7 : (x.items.length : Int) ≤ j7 ∨ ((j7 : Int) < x.items.length ∧ q7 < 0) := by omega
                    clear hgo hs7 he7
                    rcases hex7 with hex7 | ⟨hex7, hex70⟩
                    all_goals
                      go_wp2_with fail
                      go_ret
                      exact ⟨⟨ret_int Hsz.out.symm, by rw [Hsz.out]; exact hqb7⟩, h03.trans (hb7.mono h03.size)⟩

set_option maxRecDepth 100000 in
set_option maxHeartbeats 400000 in
theorem small_any (x : Val) (vk vi vr : Value) (w : World) (hv : ValAt w w.heap.size x vk vi vr) :
    Calls Try.prog 13 #[valA x vk vi vr] w fun e w' => e = .returned (.bool (smallB x)) ∧ Below w.heap.size w w' := by
  obtain ⟨A1, n1, A2, n2, A3, n3, rfl, rfl, rfl, hn1, hn2, hn3⟩ := hv.forms
  have HA := Lib.hid (hv.on ((Below.refl w.heap.size w).alloc (Nat.le_refl _) (.cells #[.int .i64 x.kind, .bool x.bool, .int .i64 x.num, .string ⟨x.str.toArray⟩, .int .i64 x.id, .slice A1 x.keys.length n1, .slice A2 x.items.length n2, .slice A3 x.rest.length n3] 28)))
  have Hs : Hid (smallB x = decide (0 ≤ sizeV x 3000)) := by show _ = _; rfl
  clear hv
  go_enter Try.func13, Try.ntmps13
  go_wp2_with fail
  refine (rsize_any 3001 x 3000 _ _ _ _ (by omega) (by omega) (by omega) HA.out).mono ?_
  rintro e w2 ⟨⟨rfl, hsb⟩, hb2⟩
  go_wp2_with fail
  go_ret
  exact ⟨ret_bool Hs.out.symm, ((Below.refl w.heap.size w).alloc (Nat.le_refl _) _).trans (hb2.mono (by simp))⟩
end Go.Proofs.Ytjcoeolconelmaa

/- What Parse and its reference compute. No condition. -/
import Derived.Test.YtngmdhdncfbdjaaJourB
namespace Go.Proofs.Ytngmdhdncfbdjaa
open Go.ChangeShapes Go.WideShapes Go.ChangeAt Go.RowKit

def V63 (n : Nat) : Value := .int .i64 (n : Int)
def arr3 (ns : List Nat) : Array Value := (ns.map V63 ++ List.replicate (3 - ns.length) (V63 0)).toArray
theorem arr3_get (ns : List Nat) (h : ns.length < 3) : (arr3 ns)[ns.length]? = some (.int .i64 0) := by
  unfold arr3; rw [List.getElem?_toArray, List.getElem?_append_right (by simp), List.getElem?_replicate_of_lt (by simp; omega)]; rfl
theorem arr3_set (ns : List Nat) (h : ns.length < 3) (n : Nat) : (arr3 ns).setIfInBounds ns.length (.int .i64 (n : Int)) = arr3 (ns ++ [n]) := by
  unfold arr3
  rw [List.setIfInBounds_toArray]
  congr 1
  have : 3 - ns.length = (3 - (ns ++ [n]).length) + 1 := by simp; omega
  rw [this, List.replicate_succ, List.set_append_right _ _ (by simp)]
  simp [V63]

theorem set4 {wr : World} {b : Nat} {t : TypeId} {x0 x1 x2 x3 : Value} (h : Has wr b t #[x0, x1, x2, x3]) (y0 y1 y2 y3 : Value) :
    Has ((((wr.setCell ⟨b, 0, none⟩ y0).setCell ⟨b, 1, none⟩ y1).setCell ⟨b, 2, none⟩ y2).setCell ⟨b, 3, none⟩ y3) b t #[y0, y1, y2, y3] :=
  (((h.set 0 y0).set 1 y1).set 2 y2).set 3 y3
theorem below4 {B b : Nat} {w wr : World} (h : Below B w wr) (hb : B ≤ b) (y0 y1 y2 y3 : Value) :
    Below B w ((((wr.setCell ⟨b, 0, none⟩ y0).setCell ⟨b, 1, none⟩ y1).setCell ⟨b, 2, none⟩ y2).setCell ⟨b, 3, none⟩ y3) :=
  (((h.setCell (p := ⟨b, 0, none⟩) hb y0).setCell (p := ⟨b, 1, none⟩) hb y1).setCell (p := ⟨b, 2, none⟩) hb y2).setCell (p := ⟨b, 3, none⟩) hb y3
theorem has4 {wr : World} {b : Nat} {t : TypeId} {x0 x1 x2 x3 : Value} (h : Has wr b t #[x0, x1, x2, x3]) :
    wr.cell? ⟨b, 0, none⟩ = some x0 ∧ wr.cell? ⟨b, 1, none⟩ = some x1 ∧ wr.cell? ⟨b, 2, none⟩ = some x2 ∧ wr.cell? ⟨b, 3, none⟩ = some x3 := ⟨h.cell 0, h.cell 1, h.cell 2, h.cell 3⟩
theorem arr3_nil : arr3 [] = #[.int .i64 0, .int .i64 0, .int .i64 0] := rfl
theorem parseE_some (l : List UInt8) (a b c : Nat) (r : List UInt8) (h : parseF 3 [] l = some ([a, b, c], r)) : parseE l = (((a : Int), (b : Int), (c : Int), r), 0) := by
  unfold parseE; rw [h]
theorem parseE_none (l : List UInt8) (h : parseF 3 [] l = none) : parseE l = (ent0, 2) := by
  unfold parseE; rw [h]

set_option maxRecDepth 100000 in
set_option maxHeartbeats 400000 in
theorem parse_any (l : List UInt8) (hlen : l.length ≤ 9223372036854775807) (w : World) :
    Calls Try.prog 16 #[.string ⟨l.toArray⟩] w fun e w' => e = .returned (.tuple #[entA (parseE l).1, .int .i64 (parseE l).2]) ∧ Below w.heap.size w w' := by
  obtain ⟨q, hq⟩ : ∃ q, parseF 3 [] l = q := ⟨_, rfl⟩
  have HQ := Lib.hid hq
  clear hq
  go_enter Try.func16, Try.ntmps16
  go_wp2
  go_loopw [0, 9] (fun s i wr => ∃ (k : Nat) (ns : List Nat) (r : List UInt8), k ≤ 3 ∧ i = .int .i64 k ∧ s = .string ⟨r.toArray⟩ ∧ ns.length = k ∧ r.length ≤ 9223372036854775807 ∧ parseF (3 - k) ns r = q ∧
      Has wr w.heap.size 23 #[.int .i64 0, .int .i64 0, .int .i64 0, .string ⟨#[]⟩] ∧ Has wr (w.heap.size + 1) 55 (arr3 ns) ∧ Below w.heap.size w wr) (fun _ i _ => 3 - (intOf i).toNat)
  case atStart => exact ⟨0, [], l, by omega, rfl, rfl, rfl, hlen, HQ.out, (Has.made _ _ _).alloc _, by rw [arr3_nil]; simpa using Has.made (w.alloc _) _ _, ((Below.refl _ _).alloc (Nat.le_refl _) _).alloc (by simp) _⟩
  case round =>
    obtain ⟨k, ns, r, hk, rfl, rfl, hns, hr, hp, hA, hB, hb⟩ := hrel
    have HA := Lib.hid hA
    have HB := Lib.hid hB
    have HN := Lib.hid hns
    have HP := Lib.hid hp
    clear hA hB hns hp
    by_cases hlt : k < 3
    · obtain ⟨f, hf⟩ : ∃ f, 3 - k = f + 1 := ⟨2 - k, by omega⟩
      have hp := HP.out
      rw [hf, parseF] at hp
      have hg := fun W => get_any r W
      have hok := getF_ok r 0 0 (by omega) (by decide)
      have HF := Lib.hid hf
      clear hf HP
      generalize getF 0 0 r = g at *
      obtain ⟨n, m, e⟩ := g
      simp only at hp hg hok
      have HG := Lib.hid hg
      clear hg
      obtain ⟨c0, c1, c2, c3⟩ := has4 HA.out
      have f0 := HA.out.free 0
      have f1 := HA.out.free 1
      have f2 := HA.out.free 2
      have f3 := HA.out.free 3
      by_cases he : e = 0
      · subst he
        obtain ⟨hm1, hm2, hn⟩ := hok rfl
        clear hok
        by_cases hbig : 9223372036854775807 < (n : Int)
        · rw [if_pos (.inr (by omega))] at hp
          have HP := Lib.hid hp
          clear hp
          go_wp2_with fail
          refine (HG.out _).mono ?_
          rintro e w1 ⟨rfl, rfl⟩
          go_wp2_with fail
          have hz := set4 HA.out (.int .i64 0) (.int .i64 0) (.int .i64 0) (.string ⟨#[]⟩)
          have hbz := below4 hb (Nat.le_refl _) (.int .i64 0) (.int .i64 0) (.int .i64 0) (.string ⟨#[]⟩)
          generalize World.setCell _ _ _ = wz at *
          obtain ⟨z0, z1, z2, z3⟩ := has4 hz
          refine bodyPost_ret (v := .tuple #[.agg #[.int .i64 0, .int .i64 0, .int .i64 0, .string ⟨#[]⟩], .int .i64 2]) (by simp [results, Try.results16, go_sem, z0, z1, z2, z3]) rfl ⟨?_, hbz⟩
          rw [parseE_none _ (HQ.out.trans HP.out.symm)]
          rfl
        · rw [if_neg (by omega)] at hp
          have HP := Lib.hid hp
          clear hp
          have d0 : wr.cell? ⟨w.heap.size + 1, k, none⟩ = some (.int .i64 0) := (HB.out.cell k).trans (by have := arr3_get ns (by have := HN.out; omega); rw [HN.out] at this; exact this)
          have e0 := HB.out.free k
          go_wp2_with fail
          refine (HG.out _).mono ?_
          rintro e w1 ⟨rfl, rfl⟩
          go_wp2_with fail
          have hw : IntKind.i64.wrap (n : Int) = (n : Int) := by rw [IntKind.wrap_i64]; omega
          have hm3 : (m : Int) ≤ r.length := by omega
          go_region
          go_wp2_with fail
          go_roundw
          case rel =>
            have hst : (arr3 ns).setIfInBounds k (.int .i64 (n : Int)) = arr3 (ns ++ [n]) := by have := arr3_set ns (by have := HN.out; omega) n; rw [HN.out] at this; exact this
            have hset := HB.out.set k (.int .i64 (n : Int))
            rw [hst] at hset
            refine ⟨k + 1, ns ++ [n], r.drop m, by omega, by go_num, by rw [str_from _ _ _ rfl], by simp [HN.out], by rw [List.length_drop]; omega, ?_, HA.out.far (by simp) _, hset, ?_⟩
            · rw [← HP.out]
              have := HF.out
              rw [show 3 - (k + 1) = f from by omega]
            · have hbs := hb.setCell (p := ⟨w.heap.size + 1, k, none⟩) (by simp) (.int .i64 (n : Int))
              first | exact hbs | exact hbs.drew
          case measure => simp [intOf]; omega
      · rw [if_pos (.inl he)] at hp
        have HP := Lib.hid hp
        clear hp hok
        have he2 : ((e : Int) != 0) = true := by rw [bne_iff_ne]; omega
        go_wp2_with fail
        refine (HG.out _).mono ?_
        rintro e w1 ⟨rfl, rfl⟩
        go_wp2_with fail
        have hz := set4 HA.out (.int .i64 0) (.int .i64 0) (.int .i64 0) (.string ⟨#[]⟩)
        have hbz := below4 hb (Nat.le_refl _) (.int .i64 0) (.int .i64 0) (.int .i64 0) (.string ⟨#[]⟩)
        generalize World.setCell _ _ _ = wz at *
        obtain ⟨z0, z1, z2, z3⟩ := has4 hz
        refine bodyPost_ret (v := .tuple #[.agg #[.int .i64 0, .int .i64 0, .int .i64 0, .string ⟨#[]⟩], .int .i64 2]) (by simp [results, Try.results16, go_sem, z0, z1, z2, z3]) rfl ⟨?_, hbz⟩
        rw [parseE_none _ (HQ.out.trans HP.out.symm)]
        rfl
    · obtain rfl : k = 3 := by omega
      have hn3 := HN.out
      have hp3 := HP.out
      have hB := HB.out
      clear HN HP HB
      obtain ⟨a, b, c, rfl⟩ : ∃ a b c, ns = [a, b, c] := by
        match ns, hn3 with
        | [a, b, c], _ => exact ⟨a, b, c, rfl⟩
      rw [parseF] at hp3
      have HP := Lib.hid hp3
      clear hp3 hn3
      have hB3 : Has wr (w.heap.size + 1) 55 #[.int .i64 (a : Int), .int .i64 (b : Int), .int .i64 (c : Int)] := hB
      clear hB
      have d0 : wr.cell? ⟨w.heap.size + 1, 0, none⟩ = some (.int .i64 (a : Int)) := hB3.cell 0
      have d1 : wr.cell? ⟨w.heap.size + 1, 1, none⟩ = some (.int .i64 (b : Int)) := hB3.cell 1
      have d2 : wr.cell? ⟨w.heap.size + 1, 2, none⟩ = some (.int .i64 (c : Int)) := hB3.cell 2
      have HB := Lib.hid hB3
      clear hB3
      obtain ⟨c0, c1, c2, c3⟩ := has4 HA.out
      have f0 := HA.out.free 0
      have f1 := HA.out.free 1
      have f2 := HA.out.free 2
      have f3 := HA.out.free 3
      go_wp2_with fail
      have hz := set4 HA.out (.int .i64 (a : Int)) (.int .i64 (b : Int)) (.int .i64 (c : Int)) (.string ⟨r.toArray⟩)
      have hbz := below4 hb (Nat.le_refl _) (.int .i64 (a : Int)) (.int .i64 (b : Int)) (.int .i64 (c : Int)) (.string ⟨r.toArray⟩)
      generalize World.setCell _ _ _ = wz at *
      obtain ⟨z0, z1, z2, z3⟩ := has4 hz
      refine bodyPost_ret (v := .tuple #[.agg #[.int .i64 (a : Int), .int .i64 (b : Int), .int .i64 (c : Int), .string ⟨r.toArray⟩], .int .i64 0]) (by simp [results, Try.results16, go_sem, z0, z1, z2, z3]) rfl ⟨?_, hbz⟩
      rw [parseE_some _ _ _ _ _ (HQ.out.trans HP.out.symm)]
      rfl

set_option maxRecDepth 100000 in
set_option maxHeartbeats 400000 in
theorem rparse_any (l : List UInt8) (hlen : l.length ≤ 9223372036854775807) (w : World) :
    Calls Try.prog 17 #[.string ⟨l.toArray⟩] w fun e w' => e = .returned (.tuple #[entA (parseE l).1, .int .i64 (parseE l).2]) ∧ Below w.heap.size w w' := by
  obtain ⟨q, hq⟩ : ∃ q, parseF 3 [] l = q := ⟨_, rfl⟩
  have HQ := Lib.hid hq
  clear hq
  go_enter Try.func17, Try.ntmps17
  go_wp2
  go_loopw [0, 5] (fun s i wr => ∃ (k : Nat) (ns : List Nat) (r : List UInt8), k ≤ 3 ∧ i = .int .i64 k ∧ s = .string ⟨r.toArray⟩ ∧ ns.length = k ∧ r.length ≤ 9223372036854775807 ∧ parseF (3 - k) ns r = q ∧
      Has wr w.heap.size 23 #[.int .i64 0, .int .i64 0, .int .i64 0, .string ⟨#[]⟩] ∧ Has wr (w.heap.size + 1) 55 (arr3 ns) ∧ Below w.heap.size w wr) (fun _ i _ => 3 - (intOf i).toNat)
  case atStart => exact ⟨0, [], l, by omega, rfl, rfl, rfl, hlen, HQ.out, (Has.made _ _ _).alloc _, by rw [arr3_nil]; simpa using Has.made (w.alloc _) _ _, ((Below.refl _ _).alloc (Nat.le_refl _) _).alloc (by simp) _⟩
  case round =>
    obtain ⟨k, ns, r, hk, rfl, rfl, hns, hr, hp, hA, hB, hb⟩ := hrel
    have HA := Lib.hid hA
    have HB := Lib.hid hB
    have HN := Lib.hid hns
    have HP := Lib.hid hp
    clear hA hB hns hp
    by_cases hlt : k < 3
    · obtain ⟨f, hf⟩ : ∃ f, 3 - k = f + 1 := ⟨2 - k, by omega⟩
      have hp := HP.out
      rw [hf, parseF] at hp
      have hg := fun W => rget_any r W hr
      have hok := getF_ok r 0 0 (by omega) (by decide)
      have HF := Lib.hid hf
      clear hf HP
      generalize getF 0 0 r = g at *
      obtain ⟨n, m, e⟩ := g
      simp only at hp hg hok
      have HG := Lib.hid hg
      clear hg
      obtain ⟨c0, c1, c2, c3⟩ := has4 HA.out
      have f0 := HA.out.free 0
      have f1 := HA.out.free 1
      have f2 := HA.out.free 2
      have f3 := HA.out.free 3
      by_cases he : e = 0
      · subst he
        obtain ⟨hm1, hm2, hn⟩ := hok rfl
        clear hok
        by_cases hbig : 9223372036854775807 < (n : Int)
        · rw [if_pos (.inr (by omega))] at hp
          have HP := Lib.hid hp
          clear hp
          go_wp2_with fail
          refine (HG.out _).mono ?_
          rintro e w1 ⟨rfl, rfl⟩
          go_wp2_with fail
          have hz := set4 HA.out (.int .i64 0) (.int .i64 0) (.int .i64 0) (.string ⟨#[]⟩)
          have hbz := below4 hb (Nat.le_refl _) (.int .i64 0) (.int .i64 0) (.int .i64 0) (.string ⟨#[]⟩)
          generalize World.setCell _ _ _ = wz at *
          obtain ⟨z0, z1, z2, z3⟩ := has4 hz
          refine bodyPost_ret (v := .tuple #[.agg #[.int .i64 0, .int .i64 0, .int .i64 0, .string ⟨#[]⟩], .int .i64 2]) (by simp [results, Try.results17, go_sem, z0, z1, z2, z3]) rfl ⟨?_, hbz⟩
          rw [parseE_none _ (HQ.out.trans HP.out.symm)]
          rfl
        · rw [if_neg (by omega)] at hp
          have HP := Lib.hid hp
          clear hp
          have d0 : wr.cell? ⟨w.heap.size + 1, k, none⟩ = some (.int .i64 0) := (HB.out.cell k).trans (by have := arr3_get ns (by have := HN.out; omega); rw [HN.out] at this; exact this)
          have e0 := HB.out.free k
          go_wp2_with fail
          refine (HG.out _).mono ?_
          rintro e w1 ⟨rfl, rfl⟩
          go_wp2_with fail
          have hw : IntKind.i64.wrap (n : Int) = (n : Int) := by rw [IntKind.wrap_i64]; omega
          have hm3 : (m : Int) ≤ r.length := by omega
          go_roundw
          case rel =>
            have hst : (arr3 ns).setIfInBounds k (.int .i64 (n : Int)) = arr3 (ns ++ [n]) := by have := arr3_set ns (by have := HN.out; omega) n; rw [HN.out] at this; exact this
            have hset := HB.out.set k (.int .i64 (n : Int))
            rw [hst] at hset
            refine ⟨k + 1, ns ++ [n], r.drop m, by omega, by go_num, by rw [str_from _ _ _ rfl], by simp [HN.out], by rw [List.length_drop]; omega, ?_, HA.out.far (by simp) _, hset, ?_⟩
            · rw [← HP.out]
              have := HF.out
              rw [show 3 - (k + 1) = f from by omega]
            · have hbs := hb.setCell (p := ⟨w.heap.size + 1, k, none⟩) (by simp) (.int .i64 (n : Int))
              first | exact hbs | exact hbs.drew
          case measure => simp [intOf]; omega
      · rw [if_pos (.inl he)] at hp
        have HP := Lib.hid hp
        clear hp hok
        have he2 : ((e : Int) != 0) = true := by rw [bne_iff_ne]; omega
        go_wp2_with fail
        refine (HG.out _).mono ?_
        rintro e w1 ⟨rfl, rfl⟩
        go_wp2_with fail
        have hz := set4 HA.out (.int .i64 0) (.int .i64 0) (.int .i64 0) (.string ⟨#[]⟩)
        have hbz := below4 hb (Nat.le_refl _) (.int .i64 0) (.int .i64 0) (.int .i64 0) (.string ⟨#[]⟩)
        generalize World.setCell _ _ _ = wz at *
        obtain ⟨z0, z1, z2, z3⟩ := has4 hz
        refine bodyPost_ret (v := .tuple #[.agg #[.int .i64 0, .int .i64 0, .int .i64 0, .string ⟨#[]⟩], .int .i64 2]) (by simp [results, Try.results17, go_sem, z0, z1, z2, z3]) rfl ⟨?_, hbz⟩
        rw [parseE_none _ (HQ.out.trans HP.out.symm)]
        rfl
    · obtain rfl : k = 3 := by omega
      have hn3 := HN.out
      have hp3 := HP.out
      have hB := HB.out
      clear HN HP HB
      obtain ⟨a, b, c, rfl⟩ : ∃ a b c, ns = [a, b, c] := by
        match ns, hn3 with
        | [a, b, c], _ => exact ⟨a, b, c, rfl⟩
      rw [parseF] at hp3
      have HP := Lib.hid hp3
      clear hp3 hn3
      have hB3 : Has wr (w.heap.size + 1) 55 #[.int .i64 (a : Int), .int .i64 (b : Int), .int .i64 (c : Int)] := hB
      clear hB
      have d0 : wr.cell? ⟨w.heap.size + 1, 0, none⟩ = some (.int .i64 (a : Int)) := hB3.cell 0
      have d1 : wr.cell? ⟨w.heap.size + 1, 1, none⟩ = some (.int .i64 (b : Int)) := hB3.cell 1
      have d2 : wr.cell? ⟨w.heap.size + 1, 2, none⟩ = some (.int .i64 (c : Int)) := hB3.cell 2
      have HB := Lib.hid hB3
      clear hB3
      obtain ⟨c0, c1, c2, c3⟩ := has4 HA.out
      have f0 := HA.out.free 0
      have f1 := HA.out.free 1
      have f2 := HA.out.free 2
      have f3 := HA.out.free 3
      go_wp2_with fail
      have hz := set4 HA.out (.int .i64 (a : Int)) (.int .i64 (b : Int)) (.int .i64 (c : Int)) (.string ⟨r.toArray⟩)
      have hbz := below4 hb (Nat.le_refl _) (.int .i64 (a : Int)) (.int .i64 (b : Int)) (.int .i64 (c : Int)) (.string ⟨r.toArray⟩)
      generalize World.setCell _ _ _ = wz at *
      obtain ⟨z0, z1, z2, z3⟩ := has4 hz
      refine bodyPost_ret (v := .tuple #[.agg #[.int .i64 (a : Int), .int .i64 (b : Int), .int .i64 (c : Int), .string ⟨r.toArray⟩], .int .i64 0]) (by simp [results, Try.results17, go_sem, z0, z1, z2, z3]) rfl ⟨?_, hbz⟩
      rw [parseE_some _ _ _ _ _ (HQ.out.trans HP.out.symm)]
      rfl
end Go.Proofs.Ytngmdhdncfbdjaa

/- What Append, Read, Repair, Write and their references compute. No condition. -/
import Derived.Test.YtngmdhdncfbdjaaJourC
import Derived.Test.YtngmdhdncfbdjaaDigRUnframe
namespace Go.Proofs.Ytngmdhdncfbdjaa
open Go.ChangeShapes Go.WideShapes Go.ChangeAt Go.RowKit

theorem frame_err (l : List UInt8) (h : (frame l).2 ≠ 0) : frame l = ([], 3) := by
  unfold frame at h ⊢
  split
  · rfl
  · next hh => rw [if_neg hh] at h; exact absurd rfl h
theorem frame_len (l : List UInt8) : (frame l).1.length ≤ 65600 := by
  unfold frame
  split
  · simp
  · next h =>
    have := putF_len 9 l.length
    simp only [List.length_append, be4_len]
    omega
theorem fmtE_len (x : Ent) : (fmtE x).length ≤ x.2.2.2.length + 30 := by
  unfold fmtE
  split
  · have h1 := putF_len 9 x.1.toNat
    have h2 := putF_len 9 x.2.1.toNat
    have h3 := putF_len 9 x.2.2.1.toNat
    simp only [heads, List.length_append]
    omega
  · simp

set_option maxRecDepth 100000 in
set_option maxHeartbeats 400000 in
theorem append_any (log : List UInt8) (k t i : Int) (d : List UInt8) (hx : EntOk (k, t, i, d)) (hl : log.length ≤ 140737488355328) (hd : d.length ≤ 140737488355328) (w : World) :
    Calls Try.prog 30 #[.string ⟨log.toArray⟩, .agg #[.int .i64 k, .int .i64 t, .int .i64 i, .string ⟨d.toArray⟩]] w fun e w' => e = .returned (.tuple #[.string ⟨(appendJ log (k, t, i, d)).1.toArray⟩, .int .i64 (appendJ log (k, t, i, d)).2]) ∧ Below w.heap.size w w' := by
  have hva := fun W => valid_any k t i d W
  have hfo := Lib.hid (fun W => format_any k t i d hx hd W)
  have hfl := fmtE_len (k, t, i, d)
  simp only at hfl
  have hfr := fun W => dframe_any (fmtE (k, t, i, d)) (by omega) W
  have hfrl := frame_len (fmtE (k, t, i, d))
  have ha : Hid (appendJ log (k, t, i, d) = if validB (k, t, i, d) then (if (frame (fmtE (k, t, i, d))).2 = 0 then (log ++ (frame (fmtE (k, t, i, d))).1, 0) else ([], (frame (fmtE (k, t, i, d))).2)) else ([], 1)) := by show _ = _; rfl
  have hfe := frame_err (fmtE (k, t, i, d))
  have HX := Lib.hid hx
  clear hx hfl
  generalize fmtE (k, t, i, d) = f at *
  generalize frame f = F at *
  obtain ⟨F, e⟩ := F
  simp only at hfr hfrl ha hfe
  cases hb : validB (k, t, i, d) with
  | false =>
    rw [hb] at hva ha
    have HV := Lib.hid hva
    clear hva hb hfr hfe
    go_enter Try.func30, Try.ntmps30
    go_wp2_with fail
    refine (HV.out _).mono ?_
    rintro e w1 ⟨rfl, hb1⟩
    go_wp2_with fail
    go_ret2
    rw [ha.out]
    exact ⟨rfl, ((Below.refl _ _).alloc (Nat.le_refl _) _).trans (hb1.mono (by simp))⟩
  | true =>
    rw [hb] at hva ha
    have HV := Lib.hid hva
    clear hva hb
    by_cases he : e = 0
    · subst he
      have HR := Lib.hid hfr
      clear hfr hfe
      have hsz : ¬ 9223372036854775807 < log.length + F.length := by omega
      go_enter Try.func30, Try.ntmps30
      go_wp2_with fail
      refine (HV.out _).mono ?_
      rintro e w1 ⟨rfl, hb1⟩
      have hz1 : w.heap.size < w1.heap.size := by have := hb1.size; simp at this; omega
      obtain ⟨c0, c1, c2, c3⟩ := has4 ((Has.made w 23 #[.int .i64 k, .int .i64 t, .int .i64 i, .string ⟨d.toArray⟩]).below hb1 (by simp))
      have h01 := ((Below.refl w.heap.size w).alloc (Nat.le_refl _) _).trans (hb1.mono (by simp))
      clear hb1
      go_wp2_with fail
      refine (hfo.out _).mono ?_
      rintro e w2 ⟨rfl, hb2⟩
      go_wp2_with fail
      refine (HR.out _).mono ?_
      rintro e w3 ⟨rfl, hb3⟩
      go_wp2_with fail
      go_ret2
      refine ⟨?_, (h01.trans (hb2.mono h01.size)).trans (hb3.mono (h01.trans (hb2.mono h01.size)).size)⟩
      rw [ha.out, if_pos trivial, if_pos trivial]
      exact ret_str_err _ _ (str_app _ _) _
    · have hFe := hfe he
      injection hFe with hF1 hF2
      subst hF1 hF2
      have HR := Lib.hid hfr
      clear hfr hfe he
      go_enter Try.func30, Try.ntmps30
      go_wp2_with fail
      refine (HV.out _).mono ?_
      rintro e w1 ⟨rfl, hb1⟩
      have hz1 : w.heap.size < w1.heap.size := by have := hb1.size; simp at this; omega
      obtain ⟨c0, c1, c2, c3⟩ := has4 ((Has.made w 23 #[.int .i64 k, .int .i64 t, .int .i64 i, .string ⟨d.toArray⟩]).below hb1 (by simp))
      have h01 := ((Below.refl w.heap.size w).alloc (Nat.le_refl _) _).trans (hb1.mono (by simp))
      clear hb1
      go_wp2_with fail
      refine (hfo.out _).mono ?_
      rintro e w2 ⟨rfl, hb2⟩
      go_wp2_with fail
      refine (HR.out _).mono ?_
      rintro e w3 ⟨rfl, hb3⟩
      go_wp2_with fail
      go_ret2
      refine ⟨?_, (h01.trans (hb2.mono h01.size)).trans (hb3.mono (h01.trans (hb2.mono h01.size)).size)⟩
      rw [ha.out, if_pos trivial, if_neg (by omega)]
      rfl
set_option maxRecDepth 100000 in
set_option maxHeartbeats 400000 in
theorem rappend_any (log : List UInt8) (k t i : Int) (d : List UInt8) (hx : EntOk (k, t, i, d)) (hl : log.length ≤ 140737488355328) (hd : d.length ≤ 140737488355328) (w : World) :
    Calls Try.prog 31 #[.string ⟨log.toArray⟩, .agg #[.int .i64 k, .int .i64 t, .int .i64 i, .string ⟨d.toArray⟩]] w fun e w' => e = .returned (.tuple #[.string ⟨(appendJ log (k, t, i, d)).1.toArray⟩, .int .i64 (appendJ log (k, t, i, d)).2]) ∧ Below w.heap.size w w' := by
  have hva := fun W => rvalid_any k t i d W
  have hfo := Lib.hid (fun W => rformat_any k t i d hx hd W)
  have hfl := fmtE_len (k, t, i, d)
  simp only at hfl
  have hfr := fun W => rframe_any (fmtE (k, t, i, d)) (by omega) W
  have hfrl := frame_len (fmtE (k, t, i, d))
  have ha : Hid (appendJ log (k, t, i, d) = if validB (k, t, i, d) then (if (frame (fmtE (k, t, i, d))).2 = 0 then (log ++ (frame (fmtE (k, t, i, d))).1, 0) else ([], (frame (fmtE (k, t, i, d))).2)) else ([], 1)) := by show _ = _; rfl
  have hfe := frame_err (fmtE (k, t, i, d))
  have HX := Lib.hid hx
  clear hx hfl
  generalize fmtE (k, t, i, d) = f at *
  generalize frame f = F at *
  obtain ⟨F, e⟩ := F
  simp only at hfr hfrl ha hfe
  cases hb : validB (k, t, i, d) with
  | false =>
    rw [hb] at hva ha
    have HV := Lib.hid hva
    clear hva hb hfr hfe
    go_enter Try.func31, Try.ntmps31
    go_wp2_with fail
    refine (HV.out _).mono ?_
    rintro e w1 ⟨rfl, hb1⟩
    go_wp2_with fail
    go_ret2
    rw [ha.out]
    exact ⟨rfl, ((Below.refl _ _).alloc (Nat.le_refl _) _).trans (hb1.mono (by simp))⟩
  | true =>
    rw [hb] at hva ha
    have HV := Lib.hid hva
    clear hva hb
    by_cases he : e = 0
    · subst he
      have HR := Lib.hid hfr
      clear hfr hfe
      have hsz : ¬ 9223372036854775807 < log.length + F.length := by omega
      go_enter Try.func31, Try.ntmps31
      go_wp2_with fail
      refine (HV.out _).mono ?_
      rintro e w1 ⟨rfl, hb1⟩
      have hz1 : w.heap.size < w1.heap.size := by have := hb1.size; simp at this; omega
      obtain ⟨c0, c1, c2, c3⟩ := has4 ((Has.made w 23 #[.int .i64 k, .int .i64 t, .int .i64 i, .string ⟨d.toArray⟩]).below hb1 (by simp))
      have h01 := ((Below.refl w.heap.size w).alloc (Nat.le_refl _) _).trans (hb1.mono (by simp))
      clear hb1
      go_wp2_with fail
      refine (hfo.out _).mono ?_
      rintro e w2 ⟨rfl, hb2⟩
      go_wp2_with fail
      refine (HR.out _).mono ?_
      rintro e w3 ⟨rfl, hb3⟩
      go_wp2_with fail
      go_ret2
      refine ⟨?_, (h01.trans (hb2.mono h01.size)).trans (hb3.mono (h01.trans (hb2.mono h01.size)).size)⟩
      rw [ha.out, if_pos trivial, if_pos trivial]
      exact ret_str_err _ _ (str_app _ _) _
    · have hFe := hfe he
      injection hFe with hF1 hF2
      subst hF1 hF2
      have HR := Lib.hid hfr
      clear hfr hfe he
      go_enter Try.func31, Try.ntmps31
      go_wp2_with fail
      refine (HV.out _).mono ?_
      rintro e w1 ⟨rfl, hb1⟩
      have hz1 : w.heap.size < w1.heap.size := by have := hb1.size; simp at this; omega
      obtain ⟨c0, c1, c2, c3⟩ := has4 ((Has.made w 23 #[.int .i64 k, .int .i64 t, .int .i64 i, .string ⟨d.toArray⟩]).below hb1 (by simp))
      have h01 := ((Below.refl w.heap.size w).alloc (Nat.le_refl _) _).trans (hb1.mono (by simp))
      clear hb1
      go_wp2_with fail
      refine (hfo.out _).mono ?_
      rintro e w2 ⟨rfl, hb2⟩
      go_wp2_with fail
      refine (HR.out _).mono ?_
      rintro e w3 ⟨rfl, hb3⟩
      go_wp2_with fail
      go_ret2
      refine ⟨?_, (h01.trans (hb2.mono h01.size)).trans (hb3.mono (h01.trans (hb2.mono h01.size)).size)⟩
      rw [ha.out, if_pos trivial, if_neg (by omega)]
      rfl

theorem entsV_snoc (xs : List Ent) (x0 x1 x2 : Int) (x3 : List UInt8) : entsV (xs ++ [(x0, x1, x2, x3)]) = entsV xs ++ [.int .i64 x0, .int .i64 x1, .int .i64 x2, .string ⟨x3.toArray⟩] := by
  simp [entsV, entV]
theorem info_ent : (Try.prog.info? 23).map (fun i => (i.zero, i.size, i.bytes)) = some (some (.agg #[.int .i64 0, .int .i64 0, .int .i64 0, .string ByteArray.empty]), 4, 40) := by kernel_rfl

set_option maxRecDepth 100000 in
set_option maxHeartbeats 400000 in
theorem read_any (l : List UInt8) (hlen : l.length ≤ 1000000) (w : World) :
    Calls Try.prog 22 #[.string ⟨l.toArray⟩] w fun e w' => ∃ v, e = .returned (.tuple #[v, .int .i64 (readJ l).2.1, .int .i64 (readJ l).2.2]) ∧ w'.ownsRow w.heap.size 23 4 v (readJ l).1.length (entsV (readJ l).1) ∧ Below w.heap.size w w' := by
  go_enter Try.func22, Try.ntmps22
  go_wp2
  go_loopw [5, 6] (fun v i wr => ∃ f p acc, i = .int .i64 (p : Nat) ∧ p ≤ l.length ∧ l.length < f + p ∧ acc.length ≤ p ∧ readJ l = readJF f l p acc ∧ wr.ownsRow w.heap.size 23 4 v acc.length (entsV acc) ∧ Below w.heap.size w wr)
     (fun _ i _ => l.length - (intOf i).toNat)
  case atStart => exact ⟨l.length + 1, 0, [], rfl, by omega, by omega, by simp, rfl, World.ownsRow_nil _ _ _ _, Below.refl _ _⟩
  case round =>
    obtain ⟨f, p, acc, rfl, hp, hf, ha, hfr, hown, hb⟩ := hrel
    by_cases hlt : p < l.length
    · obtain ⟨f, rfl⟩ : ∃ g, f = g + 1 := ⟨f - 1, by omega⟩
      rw [readJF, if_neg (by omega)] at hfr
      have hcut : ({ data := l.toArray } : ByteArray).extract p l.length = { data := (l.drop p).toArray } := str_from _ _ _ rfl
      have hdl : (l.drop p).length = l.length - p := List.length_drop
      have hun := fun W => dunframe_any (l.drop p) (by omega) W
      have hok := unframe_ok (l.drop p)
      have hul := unframe_len (l.drop p)
      rw [hdl] at hok hul
      clear hdl
      generalize unframe (l.drop p) = u at *
      obtain ⟨c, n, e⟩ := u
      simp only at hfr hun hok hul
      have HU := Lib.hid hun
      have hpa := fun W => parse_any c (by omega) W
      clear hun
      generalize parseE c = x at *
      obtain ⟨x, g⟩ := x
      simp only at hfr hpa
      have HP := Lib.hid hpa
      clear hpa
      by_cases he : e = 0
      · subst he
        obtain ⟨h1, h2⟩ := hok rfl
        have h3 : p + n ≤ l.length := by omega
        clear hok
        by_cases hg : g = 0
        · subst hg
          rw [if_pos ⟨rfl, rfl⟩] at hfr
          obtain ⟨x0, x1, x2, x3⟩ := x
          simp only [entA] at HP
          have Hfr := Lib.hid hfr
          clear hfr
          go_wp2_with fail
          refine (HU.out _).mono ?_
          rintro e w1 ⟨rfl, hb1⟩
          go_wp2_with fail
          refine (HP.out _).mono ?_
          rintro e w2 ⟨rfl, hb2⟩
          have hown2 := own_below (own_below hown hb1) hb2
          have hb02 := (hb.trans (hb1.mono hb.size)).trans (hb2.mono (hb.trans (hb1.mono hb.size)).size)
          clear hown hb1 hb2
          go_wp2_with (at_builtin; refine wpList_append_at rfl _ _ _ rfl w.heap.size 23 _ 4 40 Try.underlying31 info_ent rfl (by decide) _ acc.length (entsV acc) rfl (hown2.alloc _) [_, _, _, _] _ 1 _ rfl (by simp) rfl (by simp [Value.oneCell']) (by omega) (by omega) (by have := hb02.size; simp; omega) ?_; intro v' w3 hown3 hb3)
          go_roundw
          case rel =>
            refine ⟨f, p + n, acc ++ [(x0, x1, x2, x3)], by go_num, h3, by omega, by simp; omega, Hfr.out, ?_, (hb02.alloc hb02.size _).trans hb3⟩
            rw [entsV_snoc, List.length_append]
            exact hown3
          case measure => simp [intOf]; omega
        · rw [if_neg (by simp [hg])] at hfr
          have hg2 : ((g : Int) != 0) = true := by rw [bne_iff_ne]; omega
          obtain ⟨x0, x1, x2, x3⟩ := x
          simp only [entA] at HP
          have Hfr := Lib.hid hfr
          clear hfr hg
          go_wp2_with fail
          refine (HU.out _).mono ?_
          rintro e w1 ⟨rfl, hb1⟩
          go_wp2_with fail
          refine (HP.out _).mono ?_
          rintro e w2 ⟨rfl, hb2⟩
          have hown2 := own_below (own_below hown hb1) hb2
          have hb02 := (hb.trans (hb1.mono hb.size)).trans (hb2.mono (hb.trans (hb1.mono hb.size)).size)
          clear hown hb1 hb2
          go_wp2_with fail
          go_ret3
          refine ⟨u5, ?_, ?_, hb02.alloc hb02.size _⟩
          · rw [Hfr.out]; rfl
          · rw [Hfr.out]; exact hown2.alloc _
      · rw [if_neg (by simp [he])] at hfr
        have he2 : ((e : Int) != 0) = true := by rw [bne_iff_ne]; omega
        have Hfr := Lib.hid hfr
        clear hfr hok he
        go_wp2_with fail
        refine (HU.out _).mono ?_
        rintro e w1 ⟨rfl, hb1⟩
        go_wp2_with fail
        go_ret3
        refine ⟨u5, ?_, ?_, hb.trans (hb1.mono hb.size)⟩
        · rw [Hfr.out]; rfl
        · rw [Hfr.out]; exact own_below hown hb1
    · rw [readJF_done _ _ _ _ (by omega)] at hfr
      have Hfr := Lib.hid hfr
      clear hfr
      go_wp2
      go_ret3
      refine ⟨u5, ?_, ?_, hb⟩
      · rw [Hfr.out]; rfl
      · rw [Hfr.out]; exact hown
set_option maxRecDepth 100000 in
set_option maxHeartbeats 400000 in
theorem rread_any (l : List UInt8) (hlen : l.length ≤ 1000000) (w : World) :
    Calls Try.prog 26 #[.string ⟨l.toArray⟩] w fun e w' => ∃ v, e = .returned (.tuple #[v, .int .i64 (readJ l).2.1, .int .i64 (readJ l).2.2]) ∧ w'.ownsRow w.heap.size 23 4 v (readJ l).1.length (entsV (readJ l).1) ∧ Below w.heap.size w w' := by
  go_enter Try.func26, Try.ntmps26
  go_wp2
  go_loopw [5, 6] (fun v i wr => ∃ f p acc, i = .int .i64 (p : Nat) ∧ p ≤ l.length ∧ l.length < f + p ∧ acc.length ≤ p ∧ readJ l = readJF f l p acc ∧ wr.ownsRow w.heap.size 23 4 v acc.length (entsV acc) ∧ Below w.heap.size w wr)
     (fun _ i _ => l.length - (intOf i).toNat)
  case atStart => exact ⟨l.length + 1, 0, [], rfl, by omega, by omega, by simp, rfl, World.ownsRow_nil _ _ _ _, Below.refl _ _⟩
  case round =>
    obtain ⟨f, p, acc, rfl, hp, hf, ha, hfr, hown, hb⟩ := hrel
    by_cases hlt : p < l.length
    · obtain ⟨f, rfl⟩ : ∃ g, f = g + 1 := ⟨f - 1, by omega⟩
      rw [readJF, if_neg (by omega)] at hfr
      have hcut : ({ data := l.toArray } : ByteArray).extract p l.length = { data := (l.drop p).toArray } := str_from _ _ _ rfl
      have hdl : (l.drop p).length = l.length - p := List.length_drop
      have hun := fun W => runframe_any (l.drop p) (by omega) W
      have hok := unframe_ok (l.drop p)
      have hul := unframe_len (l.drop p)
      rw [hdl] at hok hul
      clear hdl
      generalize unframe (l.drop p) = u at *
      obtain ⟨c, n, e⟩ := u
      simp only at hfr hun hok hul
      have HU := Lib.hid hun
      have hpa := fun W => rparse_any c (by omega) W
      clear hun
      generalize parseE c = x at *
      obtain ⟨x, g⟩ := x
      simp only at hfr hpa
      have HP := Lib.hid hpa
      clear hpa
      by_cases he : e = 0
      · subst he
        obtain ⟨h1, h2⟩ := hok rfl
        have h3 : p + n ≤ l.length := by omega
        clear hok
        by_cases hg : g = 0
        · subst hg
          rw [if_pos ⟨rfl, rfl⟩] at hfr
          obtain ⟨x0, x1, x2, x3⟩ := x
          simp only [entA] at HP
          have Hfr := Lib.hid hfr
          clear hfr
          go_wp2_with fail
          refine (HU.out _).mono ?_
          rintro e w1 ⟨rfl, hb1⟩
          go_wp2_with fail
          refine (HP.out _).mono ?_
          rintro e w2 ⟨rfl, hb2⟩
          have hown2 := own_below (own_below hown hb1) hb2
          have hb02 := (hb.trans (hb1.mono hb.size)).trans (hb2.mono (hb.trans (hb1.mono hb.size)).size)
          clear hown hb1 hb2
          go_wp2_with (at_builtin; refine wpList_append_at rfl _ _ _ rfl w.heap.size 23 _ 4 40 Try.underlying31 info_ent rfl (by decide) _ acc.length (entsV acc) rfl (hown2.alloc _) [_, _, _, _] _ 1 _ rfl (by simp) rfl (by simp [Value.oneCell']) (by omega) (by omega) (by have := hb02.size; simp; omega) ?_; intro v' w3 hown3 hb3)
          go_roundw
          case rel =>
            refine ⟨f, p + n, acc ++ [(x0, x1, x2, x3)], by go_num, h3, by omega, by simp; omega, Hfr.out, ?_, (hb02.alloc hb02.size _).trans hb3⟩
            rw [entsV_snoc, List.length_append]
            exact hown3
          case measure => simp [intOf]; omega
        · rw [if_neg (by simp [hg])] at hfr
          have hg2 : ((g : Int) != 0) = true := by rw [bne_iff_ne]; omega
          obtain ⟨x0, x1, x2, x3⟩ := x
          simp only [entA] at HP
          have Hfr := Lib.hid hfr
          clear hfr hg
          go_wp2_with fail
          refine (HU.out _).mono ?_
          rintro e w1 ⟨rfl, hb1⟩
          go_wp2_with fail
          refine (HP.out _).mono ?_
          rintro e w2 ⟨rfl, hb2⟩
          have hown2 := own_below (own_below hown hb1) hb2
          have hb02 := (hb.trans (hb1.mono hb.size)).trans (hb2.mono (hb.trans (hb1.mono hb.size)).size)
          clear hown hb1 hb2
          go_wp2_with fail
          go_ret3
          refine ⟨u5, ?_, ?_, hb02.alloc hb02.size _⟩
          · rw [Hfr.out]; rfl
          · rw [Hfr.out]; exact hown2.alloc _
      · rw [if_neg (by simp [he])] at hfr
        have he2 : ((e : Int) != 0) = true := by rw [bne_iff_ne]; omega
        have Hfr := Lib.hid hfr
        clear hfr hok he
        go_wp2_with fail
        refine (HU.out _).mono ?_
        rintro e w1 ⟨rfl, hb1⟩
        go_wp2_with fail
        go_ret3
        refine ⟨u5, ?_, ?_, hb.trans (hb1.mono hb.size)⟩
        · rw [Hfr.out]; rfl
        · rw [Hfr.out]; exact own_below hown hb1
    · rw [readJF_done _ _ _ _ (by omega)] at hfr
      have Hfr := Lib.hid hfr
      clear hfr
      go_wp2
      go_ret3
      refine ⟨u5, ?_, ?_, hb⟩
      · rw [Hfr.out]; rfl
      · rw [Hfr.out]; exact hown
end Go.Proofs.Ytngmdhdncfbdjaa

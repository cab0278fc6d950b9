/- The laws JournalFenced and JournalAfter hold for every input. No condition. -/
import Derived.Test.YtngmdhdncfbdjaaLawJ3
namespace Go.Proofs.Ytngmdhdncfbdjaa
open Go.ChangeShapes Go.WideShapes Go.ChangeAt Go.RowKit Go.Joins
open Go.ChangeMaps (open_string shut_string)

theorem jour_small (es : List Ent) (h : ∀ x ∈ es, Gd x) (n : Nat) (hn : es.length ≤ n) (h10 : n ≤ 12) : (jour es).length ≤ 1000000 := by
  have := jour_len es h
  omega
theorem gd_snoc (es : List Ent) (x : Ent) (h : ∀ y ∈ es, Gd y) (hx : Gd x) : ∀ y ∈ es ++ [x], Gd y := fun y hy => by
  rcases List.mem_append.1 hy with hy | hy
  · exact h y hy
  · rw [List.mem_singleton.1 hy]; exact hx

set_option maxRecDepth 100000 in
set_option maxHeartbeats 800000 in
theorem walk_JournalFenced (v : Value) (xs : List Ent) (hlen : xs.length ≤ 140737488351232) (hin : ∀ x ∈ xs, EntIn x) (w : World) (hr : Rd w w.heap.size 4 v xs.length (entsV xs)) :
    Calls Try.prog 8 #[v] w fun e w' => e = .returned (.bool true) ∧ Below w.heap.size w w' := by
  have Hr := Lib.hid hr
  have Hin := Lib.hid hin
  have hfw := fun W h => few_any xs v W hlen hin h
  clear hr
  cases hb : fewB xs with
  | false =>
    rw [hb] at hfw
    have HF := Lib.hid hfw
    clear hfw hb hin
    go_enter Try.func8, Try.ntmps8
    go_wp2_with fail
    refine (awake_any _).mono ?_
    rintro e w1 ⟨rfl, hb1⟩
    have HR1 := Lib.hid (Hr.out.on hb1)
    go_wp2_with fail
    refine (HF.out _ HR1.out).mono ?_
    rintro e w2 ⟨rfl, hb2⟩
    have h02 := hb1.trans (hb2.mono hb1.size)
    clear hb1 hb2
    go_wp2_with fail
    refine (awake_any _).mono ?_
    rintro e w3 ⟨rfl, hb3⟩
    go_wp2_with fail
    go_ret
    exact ⟨rfl, h02.trans (hb3.mono h02.size)⟩
  | true =>
    rw [hb] at hfw
    have HF := Lib.hid hfw
    have hfl := (few_le xs hb).1
    have hgo := fun W h => good_any xs v W (by omega) hin h
    have hgd := good_gd xs hin
    have hgl := goodJ_le xs
    generalize goodJ xs = es at *
    have HGo := Lib.hid hgo
    have Hgd := Lib.hid hgd
    have hel : es.length ≤ 10 := by omega
    clear hfw hb hgo hin hgd hgl
    go_enter Try.func8, Try.ntmps8
    go_wp2_with fail
    refine (awake_any _).mono ?_
    rintro e w1 ⟨rfl, hb1⟩
    have HR1 := Lib.hid (Hr.out.on hb1)
    go_wp2_with fail
    refine (HF.out _ HR1.out).mono ?_
    rintro e w2 ⟨rfl, hb2⟩
    have h02 := hb1.trans (hb2.mono hb1.size)
    have HR2 := Lib.hid (HR1.out.on hb2)
    clear hb1 hb2
    go_wp2_with fail
    refine (HGo.out _ HR2.out).mono ?_
    rintro e w3 ⟨vG, rfl, hown, hb3⟩
    have h03 := h02.trans (hb3.mono h02.size)
    have hrG := Rd.of_own hown
    obtain ⟨A, c, rfl, hcG⟩ := hrG.form
    have RG := Lib.hid hrG
    clear hb3 hown h02 HR1 HR2 hrG
    go_wp2_with fail
    go_loopw [3, 4, 24] (fun s kv i wr => ∃ (k : Nat) (ks : List Ent), k ≤ es.length ∧ i = .int .i64 k ∧ s = .string ⟨(jour ks).toArray⟩ ∧ (∀ x ∈ ks, Gd x) ∧ Asc ks ∧ ks.length ≤ k ∧ wr.ownsRow w3.heap.size 23 4 kv ks.length (entsV ks) ∧ Below w3.heap.size w3 wr)
       (fun _ _ i _ => es.length - (intOf i).toNat)
    case atStart => exact ⟨0, [], by omega, rfl, rfl, by simp, asc_nil, by simp, World.ownsRow_nil _ _ _ _, Below.refl _ _⟩
    case round =>
      obtain ⟨k, ks, hk, rfl, rfl, hkg, hka, hkl, hown, hb⟩ := hrel
      have Hkg := Lib.hid hkg
      have Hka := Lib.hid hka
      have hjs := jour_small ks hkg 10 (by omega) (by omega)
      clear hkg hka
      by_cases hlt : k < es.length
      · obtain ⟨b, o, rfl, hbb, hcell⟩ := (RG.out.below hb).at_ (by omega)
        have hxg := Hgd.out es[k] (List.getElem_mem hlt)
        obtain ⟨x, hx⟩ : ∃ x, es[k] = x := ⟨_, rfl⟩
        obtain ⟨x0, x1, x2, x3⟩ := x
        obtain ⟨hc0, hc1, hc2, hc3⟩ := ents_at hcell k hlt hx
        rw [hx] at hxg
        have hxd := gd_data _ hxg
        simp only at hxd
        have hwr := fun W => write_any (jour ks) x0 x1 x2 x3 hxg.1 hjs (by omega) W
        have htk := Lib.hid (fun v W h => rtoken_any ks v W (by omega) h)
        have hwf := write_fenced ks Hkg.out (x0, x1, x2, x3) hxg
        have hwg := write_good ks Hkg.out (x0, x1, x2, x3) hxg
        have hts := asc_snoc ks (x0, x1, x2, x3) Hka.out
        simp only at hwf hwg hts
        generalize tokenJ ks = m at *
        have Hxg := Lib.hid hxg
        clear hcell hx hxg
        have hbs := hb.size
        by_cases htm : x1 < m
        · rw [hwf htm] at hwr
          have HW := Lib.hid hwr
          clear hwr hwf hwg hts
          go_wp2_with fail
          refine (HW.out _).mono ?_
          rintro e w4 ⟨rfl, hb4⟩
          have hz4 : wr.heap.size < w4.heap.size := by have := hb4.size; simp at this; omega
          obtain ⟨c0, c1, c2, c3⟩ := has4 ((Has.made wr 23 #[.int .i64 x0, .int .i64 x1, .int .i64 x2, .string ⟨x3.toArray⟩]).below hb4 (by simp))
          have h04 := (hb.alloc hb.size _).trans (hb4.mono (hb.alloc hb.size _).size)
          have hown4 := own_below (hown.alloc _) hb4
          have RK := Lib.hid (Rd.of_own hown4)
          clear hb4 hown hc0 hc1 hc2 hc3
          go_wp2_with fail
          go_region_held3 (fun w' => w'.cell? ⟨wr.heap.size, 0, none⟩ = some (.int .i64 x0) ∧ w'.cell? ⟨wr.heap.size, 1, none⟩ = some (.int .i64 x1) ∧ w'.cell? ⟨wr.heap.size, 2, none⟩ = some (.int .i64 x2) ∧ w'.cell? ⟨wr.heap.size, 3, none⟩ = some (.string ⟨x3.toArray⟩)) (first | go_keep | exact ⟨q0, q1, q2, q3⟩)
            (first
              | (go_at_call 20; refine (htk.out _ _ (by exact RK.out)).mono ?_; rintro e w5 ⟨rfl, hb5⟩; have hq := Cells4.below ⟨‹_›, ‹_›, ‹_›, ‹_›⟩ hb5 hz4; obtain ⟨q0, q1, q2, q3⟩ := hq))
          have h05 := h04.drew.trans (hb5.mono h04.size)
          have hown5 : w5.ownsRow w3.heap.size 23 4 _ ks.length (entsV ks) := own_below (w := w4.drew) hown4 hb5
          clear hb5 hown4 RK q0 q1 q2 q3 c0 c1 c2 c3
          go_wp2_with fail
          go_roundw
          case rel => exact ⟨k + 1, ks, by omega, by go_num, rfl, Hkg.out, Hka.out, by omega, hown5, h05⟩
          case measure => simp [intOf]; omega
        · rw [hwg (by omega)] at hwr
          have HW := Lib.hid hwr
          have Hts := Lib.hid (hts (by omega))
          clear hwr hwf hwg hts
          go_wp2_with fail
          refine (HW.out _).mono ?_
          rintro e w4 ⟨rfl, hb4⟩
          have hz4 : wr.heap.size < w4.heap.size := by have := hb4.size; simp at this; omega
          obtain ⟨c0, c1, c2, c3⟩ := has4 ((Has.made wr 23 #[.int .i64 x0, .int .i64 x1, .int .i64 x2, .string ⟨x3.toArray⟩]).below hb4 (by simp))
          have h04 := (hb.alloc hb.size _).trans (hb4.mono (hb.alloc hb.size _).size)
          have hown4 := own_below (hown.alloc _) hb4
          have RK := Lib.hid (Rd.of_own hown4)
          clear hb4 hown hc0 hc1 hc2 hc3
          go_wp2_with fail
          go_region_held3 (fun w' => w'.cell? ⟨wr.heap.size, 0, none⟩ = some (.int .i64 x0) ∧ w'.cell? ⟨wr.heap.size, 1, none⟩ = some (.int .i64 x1) ∧ w'.cell? ⟨wr.heap.size, 2, none⟩ = some (.int .i64 x2) ∧ w'.cell? ⟨wr.heap.size, 3, none⟩ = some (.string ⟨x3.toArray⟩)) (first | go_keep | exact ⟨q0, q1, q2, q3⟩)
            (first
              | (go_at_call 20; refine (htk.out _ _ (by exact RK.out)).mono ?_; rintro e w5 ⟨rfl, hb5⟩; have hq := Cells4.below ⟨‹_›, ‹_›, ‹_›, ‹_›⟩ hb5 hz4; obtain ⟨q0, q1, q2, q3⟩ := hq))
          have h05 := h04.drew.trans (hb5.mono h04.size)
          have hown5 : w5.ownsRow w3.heap.size 23 4 _ ks.length (entsV ks) := own_below (w := w4.drew) hown4 hb5
          clear hb5 hown4 RK c0 c1 c2 c3
          go_wp2_with (at_builtin; refine wpList_append_at rfl _ _ _ rfl w3.heap.size 23 _ 4 40 Try.underlying31 info_ent rfl (by decide) _ ks.length (entsV ks) rfl hown5 [_, _, _, _] _ 1 _ rfl rfl rfl (by simp [Value.oneCell']) (by omega) (by omega) h05.size ?_; intro v' w6 hown6 hb6)
          go_roundw
          case rel =>
            refine ⟨k + 1, ks ++ [(x0, x1, x2, x3)], by omega, by go_num, rfl, gd_snoc _ _ Hkg.out Hxg.out, Hts.out, by simp; omega, ?_, h05.trans hb6⟩
            rw [entsV_snoc, List.length_append]
            exact hown6
          case measure => simp [intOf]; omega
      · have hre := fun W => read_any (jour ks) hjs W
        rw [readJ_jour ks Hkg.out] at hre
        have HRe := Lib.hid hre
        have hsm := fun va vb W h1 h2 => same_any ks ks va vb W (by omega) (by omega) h1 h2
        simp only [decide_true] at hsm
        have HS := Lib.hid hsm
        have RK := Lib.hid (Rd.of_own hown)
        have h0r := h03.trans (hb.mono h03.size)
        clear hre hsm hown hb
        go_wp2_with fail
        refine (HRe.out _).mono ?_
        rintro e w4 ⟨v4, rfl, hown4, hb4⟩
        have h04 := h0r.trans (hb4.mono h0r.size)
        have RK := Lib.hid (RK.out.on hb4)
        have RV := Lib.hid (Rd.of_own hown4)
        clear hb4 hown4 h0r
        go_wp2_with fail
        refine (HS.out _ _ _ RV.out RK.out).mono ?_
        rintro e w5 ⟨rfl, hb5⟩
        have h05 := h04.trans (hb5.mono h04.size)
        have hrv := RV.out.on hb5
        obtain ⟨A4, c4, rfl, hcv⟩ := hrv.form
        have RV := Lib.hid hrv
        clear hb5 h04 hrv
        go_wp2_with fail
        clear RK
        go_loopw [69] (fun i wr => ∃ k2 : Nat, i = .int .i64 k2 ∧ k2 ≤ ks.length ∧ Below w5.heap.size w5 wr) (fun i _ => ks.length - (intOf i).toNat)
        case atStart => exact ⟨0, rfl, by omega, Below.refl _ _⟩
        case round =>
          obtain ⟨k2, rfl, hk2, hb2⟩ := hrel
          by_cases hlt2 : k2 < ks.length
          · obtain ⟨b4, o4, rfl, hbb4, hcell4⟩ := (RV.out.below hb2).at_ (by omega)
            obtain ⟨y, hy⟩ : ∃ y, ks[k2] = y := ⟨_, rfl⟩
            obtain ⟨y0, y1, y2, y3⟩ := y
            obtain ⟨hc0, hc1, hc2, hc3⟩ := ents_at hcell4 k2 hlt2 hy
            by_cases h0 : k2 = 0
            · subst h0
              have hz : decide ((0 : Int) < ((0 : Nat) : Int)) = false := by simp
              clear hcell4 hy
              go_wp2_with fail
              go_quiet (fail)
              go_wp2_with fail
              go_roundw
              case rel => exact ⟨1, by go_num, by omega, below_drewN hb2 _⟩
              case measure => simp [intOf]; omega
            · obtain ⟨j, rfl⟩ : ∃ j, k2 = j + 1 := ⟨k2 - 1, by omega⟩
              obtain ⟨z, hz⟩ : ∃ z, ks[j] = z := ⟨_, rfl⟩
              obtain ⟨z0, z1, z2, z3⟩ := z
              obtain ⟨hd0, hd1, hd2, hd3⟩ := ents_at hcell4 j (by omega) hz
              have hzy : z1 ≤ y1 := Hka.out j (z0, z1, z2, z3) (y0, y1, y2, y3) (by rw [← hz]; exact List.getElem?_eq_getElem _) (by rw [← hy]; exact List.getElem?_eq_getElem _)
              clear hcell4 hy hz h0
              have i1 : IntKind.i64.wrap ((j : Int) + 1 - 1) = (j : Int) := by rw [IntKind.wrap_i64]; omega
              have i2 : (j : Int) + 1 < ks.length := by omega
              have i3 : (j : Int) < ks.length := by omega
              have i4 : (0 : Int) < (j : Int) + 1 := by omega
              have i5 : (0 : Int) ≤ (j : Int) + 1 := by omega
              have i6 : ((j : Int) + 1).toNat = j + 1 := by omega
              go_wp2_with fail
              go_quiet (fail)
              go_wp2_with fail
              go_roundw
              case rel => exact ⟨j + 1 + 1, by go_num, by omega, below_drewN hb2 _⟩
              case measure => simp [intOf]; omega
          · go_wp2_with fail
            go_ret
            exact ⟨rfl, h05.trans (hb2.mono h05.size)⟩

namespace fr_JournalFenced
set_option maxRecDepth 100000 in
theorem lifted (os : Os) (started : os.Started) (H : Type) (enc : TypeId × Value → H) :
    ReturnsInHanded {} Try.checked os 8 .any (Rows.journalFencedSpec.pre6 enc Try.prog Try.f8 Rows.journalFencedRow.domain false) (Rows.journalFencedSpec.post enc Try.prog Try.f8 false true false false) := by
  refine returnsInHanded_of_change_sized (C := Try.checked) own_knob started (by kernel_rfl) Try.func8
    (ChangeSpec.witness6 (enc := enc) (C := Try.checked) false ⟨#[], #[.slice none 0 0], []⟩ 8 (by kernel_rfl) (by kernel_rfl) (by kernel_rfl) (by kernel_rfl)) ?_
  intro W base args ds gs before hval0 hW hcnd hsz0 _
  have hsz : (DataW.weightsEach Try.prog (Try.f8.params.toList ++ Rows.journalFencedSpec.plain.varTypes Try.prog) (ds ++ gs)).all (· ≤ reachBytes) = true := hsz0
  have hval : ∀ (j : Nat) t v, Try.f8.params[j]? = some t → args[j]? = some v → Value.okWide Try.prog W .any base t v := hval0
  have hW' := hW
  have hlt : ∀ p ∈ before, p.block < W.heap.size := fun p hp => hW.lt p hp
  obtain ⟨p, q, hA0, hV, rfl, hfz, hnd⟩ := hW
  have hA : DataW.TrodAll enc Try.prog W 0 (fun _ => true) true Try.f8.params.toList args.toList ds p := hA0
  have hA2 := hA
  rw [Try.params8] at hA hval hsz
  obtain ⟨v0, vs0, d0, ds0, p0, q0, hargs, rfl, hpq, h0, r0⟩ := trodAll_cons hA
  obtain ⟨rfl, rfl, rfl⟩ := trodAll_nil r0
  obtain rfl : args = #[v0] := by cases args; simp_all
  obtain ⟨rfl, rfl⟩ := trodVars_none hV
  obtain ⟨a0, m0, u0, w0⟩ := open_ents (hval 0 31 v0 rfl rfl) h0 (sz_of_each hsz (j := 0) rfl (by simp))
  clear hA0 hval0
  refine (walk_JournalFenced v0 a0 m0 u0 W w0).mono fun e W' ⟨he, bel⟩ => ?_
  subst he
  exact ⟨_, rfl, _, _, _, [], _, [], hW', trodAll_mk1 (shut_bool Try.underlying4 _), trodAll_below laid_out bel _ _ _ _ (by kernel_rfl) hA2 (fun x hx => hlt x (by simpa using hx)), rfl, bel.frame _, fun h => by cases h⟩
theorem proved : Rows.JournalFencedSaid :=
  OpenClaim.holds_of_wide 8 Try.f8 rfl rfl rfl rfl rfl rfl rfl ⟨rfl, rfl, rfl, rfl, rfl⟩ rfl rfl rfl rfl rfl (by kernel_rfl) Try.func8 (by kernel_rfl)
    (of_decide_eq_true (by kernel_rfl)) (by unfold Func.isWrapper; first | (rw [if_pos (by decide +kernel)]; kernel_rfl) | (rw [if_neg (by decide +kernel)]; exact ⟨rfl, rfl⟩))
    (fun os started H enc _ => lifted os started H enc)
#print axioms proved
end fr_JournalFenced

end Go.Proofs.Ytngmdhdncfbdjaa

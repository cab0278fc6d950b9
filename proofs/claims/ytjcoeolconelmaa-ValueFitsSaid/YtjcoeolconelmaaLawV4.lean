/- The statement ValueFits: Fits and Plain agree with their references, and what is plain fits. No condition. -/
import Derived.Test.YtjcoeolconelmaaAwake8
import Derived.Test.YtjcoeolconelmaaRFitsE
import Derived.Test.YtjcoeolconelmaaPlainP
import Derived.Test.YtjcoeolconelmaaDraftG
namespace Go.Proofs.Ytjcoeolconelmaa
open Go.ChangeShapes Go.WideShapes Go.ChangeAt Go.RowKit

theorem typN_kind (xs : List Nod) (i : Nat) (x : Nod) : 1 ≤ (typN xs i x).kind ∧ (typN xs i x).kind ≤ 9 := by
  have hk := kindN_in x
  unfold typN
  simp only
  split
  · simp only []; omega
  split
  · simp only []; omega
  split
  · simp only []; omega
  split
  · simp only []; omega
  split
  · split
    · simp only []; omega
    · simp only []; omega
  split
  · simp only []; omega
  split
  · cases keyN xs x.b with
    | none => simp only []; omega
    | some j => simp only []; omega
  split
  · simp only []; omega
  · simp only []; omega
theorem ofN_kinds (xs : List Nod) : Kinds (ofN xs) := by
  intro t ht
  unfold ofN at ht
  obtain ⟨i, hi, rfl⟩ := List.mem_mapIdx.1 ht
  have := typN_kind xs i xs[i]
  unfold KindIn
  omega

theorem Kept.typs0 {w : World} {L B : Nat} {v : Value} {xs : List Typ} (h : Kept (fun w => RdTyps w B v xs) w L B) : RdTyps w w.heap.size v xs := h.now.keep (fun _ _ => rfl) h.le
theorem Kept.typs1 {w : World} {L B : Nat} {v : Value} {xs : List Typ} (h : Kept (fun w => RdTyps w B v xs) w L B) : RdTyps w.drew w.drew.heap.size v xs := h.now.keep (fun _ _ => rfl) h.le
set_option maxRecDepth 100000 in
set_option maxHeartbeats 1600000 in
theorem walk_ValueFits (xs : List Nod) (vn : Value) (_ : xs.length ≤ 140737488351232) (t : Int) (_ : I64 t) (x : Val) (vk vi vr : Value) (w : World) (hr : RdNods w w.heap.size vn xs) (hv : ValAt w w.heap.size x vk vi vr) :
    Calls Try.prog 3 #[.agg #[vn], .int .i64 t, valA x vk vi vr] w fun e w' => e = .returned (.bool true) ∧ Below w.heap.size w w' := by
  obtain ⟨A1, n1, A2, n2, A3, n3, rfl, rfl, rfl, -, -, -⟩ := hv.forms
  obtain ⟨A, c, rfl, hcap⟩ := hr.form
  have HV := Lib.hid hv
  have HR := Lib.hid hr
  clear hv hr
  go_enter Try.func3, Try.ntmps3
  go_upto_region 1 with fail
  have hb1 := below_al (below_al (Below.refl w.heap.size w) (Nat.le_refl _) (.cells #[.slice A xs.length c] 24)) (Nat.le_refl _) (.cells #[.int .i64 x.kind, .bool x.bool, .int .i64 x.num, .string ⟨x.str.toArray⟩, .int .i64 x.id, .slice A1 x.keys.length n1, .slice A2 x.items.length n2, .slice A3 x.rest.length n3] 28)
  have D := (Has.made w 24 #[.slice A xs.length c]).alloc (.cells #[.int .i64 x.kind, .bool x.bool, .int .i64 x.num, .string ⟨x.str.toArray⟩, .int .i64 x.id, .slice A1 x.keys.length n1, .slice A2 x.items.length n2, .slice A3 x.rest.length n3] 28)
  have V := Has.made (w.alloc (.cells #[.slice A xs.length c] 24)) 28 #[.int .i64 x.kind, .bool x.bool, .int .i64 x.num, .string ⟨x.str.toArray⟩, .int .i64 x.id, .slice A1 x.keys.length n1, .slice A2 x.items.length n2, .slice A3 x.rest.length n3]
  simp only [alloc_hz] at V
  have hw2 := hb1
  replace D := Lib.hid D
  replace V := Lib.hid V
  clear hb1
  generalize ((w.alloc (.cells #[.slice A xs.length c] 24)).alloc (.cells #[.int .i64 x.kind, .bool x.bool, .int .i64 x.num, .string ⟨x.str.toArray⟩, .int .i64 x.id, .slice A1 x.keys.length n1, .slice A2 x.items.length n2, .slice A3 x.rest.length n3] 28)) = wd3 at *
  have cD_0 : wd3.cell? ⟨w.heap.size, 0, none⟩ = some (.slice A xs.length c) := D.out.cell 0
  go_wp2_with fail
  cases hok : ofOk xs with
  | false =>
    have hno := fun W h => of_no xs (.slice A xs.length c) W hok h
    have HNO := Lib.hid hno
    clear hno hok
    clear cD_0
    ((with_reducible refine (HNO.out _ (HR.out.on hw2)).mono ?_); rintro e wd4 ⟨rfl, hb5⟩)
    replace D := Lib.hid (D.out.below hb5 D.out.here)
    replace V := Lib.hid (V.out.below hb5 V.out.here)
    replace hw2 := hw2.trans (hb5.mono hw2.size)
    clear hb5
    go_upto_region 2 with fail
    have hb6 := below_al (Below.refl wd4.heap.size wd4) (Nat.le_refl _) (.cells #[.slice none 0 0] 31)
    have S := Has.made wd4 31 #[.slice none 0 0]
    have hl8 := D.out.here
    have hl9 := V.out.here
    have hl10 := hw2.size
    replace D := Lib.hid (D.out.below hb6 D.out.here)
    replace V := Lib.hid (V.out.below hb6 V.out.here)
    replace hw2 := hw2.trans (hb6.mono hw2.size)
    replace S := Lib.hid S
    clear hb6
    generalize (wd4.alloc (.cells #[.slice none 0 0] 31)) = wd11 at *
    generalize wd4.heap.size = g7 at *
    go_wp2_with fail
    ((with_reducible refine (awake_any _).mono ?_); rintro e wd12 ⟨rfl, hb13⟩)
    replace D := Lib.hid (D.out.below hb13 D.out.here)
    replace V := Lib.hid (V.out.below hb13 V.out.here)
    replace S := Lib.hid (S.out.below hb13 S.out.here)
    replace hw2 := hw2.trans (hb13.mono hw2.size)
    clear hb13
    go_wp2_with fail
    ((with_reducible refine (awake_any _).mono ?_); rintro e wd14 ⟨rfl, hb15⟩)
    replace D := Lib.hid (D.out.below hb15 D.out.here)
    replace V := Lib.hid (V.out.below hb15 V.out.here)
    replace S := Lib.hid (S.out.below hb15 S.out.here)
    replace hw2 := hw2.trans (hb15.mono hw2.size)
    clear hb15
    go_wp2_with fail
    go_ret
    exact ⟨rfl, hw2⟩
  | true =>
    have hok2 : 0 < xs.length ∧ xs.length ≤ 5 := by unfold ofOk at hok; simp at hok; omega
    have hyes := fun W h => of_yes xs (.slice A xs.length c) W hok2 h
    unfold OfPost at hyes
    have hlen : (ofN xs).length = xs.length := ofN_len xs
    have hkn := ofN_kinds xs
    generalize ofN xs = ts at *
    have HYES := Lib.hid hyes
    have hpf := plain_fits ts x t
    have HPF := Lib.hid hpf
    have HKN := Lib.hid hkn
    have HLEN := Lib.hid hlen
    clear hyes hok hok2 hkn hlen hpf
    clear cD_0
    ((with_reducible refine (HYES.out _ (HR.out.on hw2)).mono ?_); rintro e wd16 ⟨vt, rfl, htr, hb17⟩)
    replace D := Lib.hid (D.out.below hb17 D.out.here)
    replace V := Lib.hid (V.out.below hb17 V.out.here)
    replace hw2 := hw2.trans (hb17.mono hw2.size)
    clear hb17
    obtain ⟨At, ct, rfl, _⟩ := htr.form
    have HT := Lib.hid (Kept.rd (P := fun w B => RdTyps w B (.slice At ts.length ct) ts) htr (Nat.le_refl _) (fun _ hk => htr.keep hk (Nat.le_refl _)))
    clear htr
    go_upto_region 2 with fail
    have hb18 := below_al (Below.refl wd16.heap.size wd16) (Nat.le_refl _) (.cells #[.slice At ts.length ct] 31)
    have S := Has.made wd16 31 #[.slice At ts.length ct]
    have hl20 := D.out.here
    have hl21 := V.out.here
    have hl22 := HT.out.le
    have hl23 := hw2.size
    replace D := Lib.hid (D.out.below hb18 D.out.here)
    replace V := Lib.hid (V.out.below hb18 V.out.here)
    replace HT := Lib.hid (HT.out.on hb18)
    replace hw2 := hw2.trans (hb18.mono hw2.size)
    replace S := Lib.hid S
    clear hb18
    generalize (wd16.alloc (.cells #[.slice At ts.length ct] 31)) = wd24 at *
    generalize wd16.heap.size = g19 at *
    go_wp2_with fail
    ((with_reducible refine (awake_any _).mono ?_); rintro e wd25 ⟨rfl, hb26⟩)
    replace D := Lib.hid (D.out.below hb26 D.out.here)
    replace V := Lib.hid (V.out.below hb26 V.out.here)
    replace S := Lib.hid (S.out.below hb26 S.out.here)
    replace HT := Lib.hid (HT.out.on hb26)
    replace hw2 := hw2.trans (hb26.mono hw2.size)
    clear hb26
    have cV_0 : wd25.cell? ⟨w.heap.size + 1, 0, none⟩ = some (.int .i64 x.kind) := V.out.cell 0
    have cV_1 : wd25.cell? ⟨w.heap.size + 1, 1, none⟩ = some (.bool x.bool) := V.out.cell 1
    have cV_2 : wd25.cell? ⟨w.heap.size + 1, 2, none⟩ = some (.int .i64 x.num) := V.out.cell 2
    have cV_3 : wd25.cell? ⟨w.heap.size + 1, 3, none⟩ = some (.string ⟨x.str.toArray⟩) := V.out.cell 3
    have cV_4 : wd25.cell? ⟨w.heap.size + 1, 4, none⟩ = some (.int .i64 x.id) := V.out.cell 4
    have cV_5 : wd25.cell? ⟨w.heap.size + 1, 5, none⟩ = some (.slice A1 x.keys.length n1) := V.out.cell 5
    have cV_6 : wd25.cell? ⟨w.heap.size + 1, 6, none⟩ = some (.slice A2 x.items.length n2) := V.out.cell 6
    have cV_7 : wd25.cell? ⟨w.heap.size + 1, 7, none⟩ = some (.slice A3 x.rest.length n3) := V.out.cell 7
    go_wp2_with fail
    clear cV_0 cV_1 cV_2 cV_3 cV_4 cV_5 cV_6 cV_7
    ((with_reducible refine (small_any x _ _ _ _ (HV.out.on hw2)).mono ?_); rintro e wd27 ⟨rfl, hb28⟩)
    replace D := Lib.hid (D.out.below hb28 D.out.here)
    replace V := Lib.hid (V.out.below hb28 V.out.here)
    replace S := Lib.hid (S.out.below hb28 S.out.here)
    replace HT := Lib.hid (HT.out.on hb28)
    replace hw2 := hw2.trans (hb28.mono hw2.size)
    clear hb28
    cases hs : smallB x with
    | false =>
      clear hs
      go_wp2_with fail
      ((with_reducible refine (awake_any _).mono ?_); rintro e wd29 ⟨rfl, hb30⟩)
      replace D := Lib.hid (D.out.below hb30 D.out.here)
      replace V := Lib.hid (V.out.below hb30 V.out.here)
      replace S := Lib.hid (S.out.below hb30 S.out.here)
      replace HT := Lib.hid (HT.out.on hb30)
      replace hw2 := hw2.trans (hb30.mono hw2.size)
      clear hb30
      go_wp2_with fail
      go_ret
      exact ⟨rfl, hw2⟩
    | true =>
      clear hs
      generalize hfa : fitV ts false x t = fa at *
      generalize hfb : fitV ts true x t = fb at *
      have HFA := Lib.hid hfa
      have HFB := Lib.hid hfb
      clear hfa hfb
      go_upto_region 4 with fail
      have cV_0 : wd27.cell? ⟨w.heap.size + 1, 0, none⟩ = some (.int .i64 x.kind) := V.out.cell 0
      have cV_1 : wd27.cell? ⟨w.heap.size + 1, 1, none⟩ = some (.bool x.bool) := V.out.cell 1
      have cV_2 : wd27.cell? ⟨w.heap.size + 1, 2, none⟩ = some (.int .i64 x.num) := V.out.cell 2
      have cV_3 : wd27.cell? ⟨w.heap.size + 1, 3, none⟩ = some (.string ⟨x.str.toArray⟩) := V.out.cell 3
      have cV_4 : wd27.cell? ⟨w.heap.size + 1, 4, none⟩ = some (.int .i64 x.id) := V.out.cell 4
      have cV_5 : wd27.cell? ⟨w.heap.size + 1, 5, none⟩ = some (.slice A1 x.keys.length n1) := V.out.cell 5
      have cV_6 : wd27.cell? ⟨w.heap.size + 1, 6, none⟩ = some (.slice A2 x.items.length n2) := V.out.cell 6
      have cV_7 : wd27.cell? ⟨w.heap.size + 1, 7, none⟩ = some (.slice A3 x.rest.length n3) := V.out.cell 7
      have cS_0 : wd27.cell? ⟨g19, 0, none⟩ = some (.slice At ts.length ct) := S.out.cell 0
      go_region_held3 (fun w' => w'.cell? ⟨w.heap.size + 1, 0, none⟩ = some (.int .i64 x.kind) ∧ w'.cell? ⟨w.heap.size + 1, 1, none⟩ = some (.bool x.bool) ∧ w'.cell? ⟨w.heap.size + 1, 2, none⟩ = some (.int .i64 x.num) ∧ w'.cell? ⟨w.heap.size + 1, 3, none⟩ = some (.string ⟨x.str.toArray⟩) ∧ w'.cell? ⟨w.heap.size + 1, 4, none⟩ = some (.int .i64 x.id) ∧ w'.cell? ⟨w.heap.size + 1, 5, none⟩ = some (.slice A1 x.keys.length n1) ∧ w'.cell? ⟨w.heap.size + 1, 6, none⟩ = some (.slice A2 x.items.length n2) ∧ w'.cell? ⟨w.heap.size + 1, 7, none⟩ = some (.slice A3 x.rest.length n3) ∧ w'.cell? ⟨g19, 0, none⟩ = some (.slice At ts.length ct)) (first | (go_keep; done) | exact ⟨cV_0, cV_1, cV_2, cV_3, cV_4, cV_5, cV_6, cV_7, cS_0⟩ | (((repeat' apply And.intro) <;> ((repeat (with_reducible (first | refine Eq.trans (cell_drew _ _) ?_ | refine Eq.trans (cell_far _ _ _ _ _ (by dsimp only; omega)) ?_))); assumption)); done))
        (first
          | (go_at_call 14; (first | (with_reducible refine (vfits_any x ts At ct t _ _ _ _ HKN.out HT.out.typs0 (HV.out.on hw2)).mono ?_) | (with_reducible refine (vfits_any x ts At ct t _ _ _ _ HKN.out HT.out.typs1 (HV.out.on hw2.drew)).mono ?_)); rintro e wn ⟨rfl, hbn⟩; rw [HFA.out]; have D : Hid (Has wn (w.heap.size) 24 #[.slice A xs.length c]) := Lib.hid (by first | exact D.out.below hbn D.out.here | exact D.out.drew.below hbn D.out.here); have V : Hid (Has wn (w.heap.size + 1) 28 #[.int .i64 x.kind, .bool x.bool, .int .i64 x.num, .string ⟨x.str.toArray⟩, .int .i64 x.id, .slice A1 x.keys.length n1, .slice A2 x.items.length n2, .slice A3 x.rest.length n3]) := Lib.hid (by first | exact V.out.below hbn V.out.here | exact V.out.drew.below hbn V.out.here); have S : Hid (Has wn (g19) 31 #[.slice At ts.length ct]) := Lib.hid (by first | exact S.out.below hbn S.out.here | exact S.out.drew.below hbn S.out.here); have HT := Lib.hid (Kept.ond HT.out hbn); have hw2 : Below w.heap.size w wn := (by first | exact hw2.trans (hbn.mono hw2.size) | exact (hw2.drew).trans (hbn.mono hw2.size)); have cV_0 : wn.cell? ⟨w.heap.size + 1, 0, none⟩ = some (.int .i64 x.kind) := V.out.cell 0; have cV_1 : wn.cell? ⟨w.heap.size + 1, 1, none⟩ = some (.bool x.bool) := V.out.cell 1; have cV_2 : wn.cell? ⟨w.heap.size + 1, 2, none⟩ = some (.int .i64 x.num) := V.out.cell 2; have cV_3 : wn.cell? ⟨w.heap.size + 1, 3, none⟩ = some (.string ⟨x.str.toArray⟩) := V.out.cell 3; have cV_4 : wn.cell? ⟨w.heap.size + 1, 4, none⟩ = some (.int .i64 x.id) := V.out.cell 4; have cV_5 : wn.cell? ⟨w.heap.size + 1, 5, none⟩ = some (.slice A1 x.keys.length n1) := V.out.cell 5; have cV_6 : wn.cell? ⟨w.heap.size + 1, 6, none⟩ = some (.slice A2 x.items.length n2) := V.out.cell 6; have cV_7 : wn.cell? ⟨w.heap.size + 1, 7, none⟩ = some (.slice A3 x.rest.length n3) := V.out.cell 7; have cS_0 : wn.cell? ⟨g19, 0, none⟩ = some (.slice At ts.length ct) := S.out.cell 0)
          | (go_at_call 15; (first | (with_reducible refine (vplain_any x ts At ct t _ _ _ _ HKN.out HT.out.typs0 (HV.out.on hw2)).mono ?_) | (with_reducible refine (vplain_any x ts At ct t _ _ _ _ HKN.out HT.out.typs1 (HV.out.on hw2.drew)).mono ?_)); rintro e wn ⟨rfl, hbn⟩; rw [HFB.out]; have D : Hid (Has wn (w.heap.size) 24 #[.slice A xs.length c]) := Lib.hid (by first | exact D.out.below hbn D.out.here | exact D.out.drew.below hbn D.out.here); have V : Hid (Has wn (w.heap.size + 1) 28 #[.int .i64 x.kind, .bool x.bool, .int .i64 x.num, .string ⟨x.str.toArray⟩, .int .i64 x.id, .slice A1 x.keys.length n1, .slice A2 x.items.length n2, .slice A3 x.rest.length n3]) := Lib.hid (by first | exact V.out.below hbn V.out.here | exact V.out.drew.below hbn V.out.here); have S : Hid (Has wn (g19) 31 #[.slice At ts.length ct]) := Lib.hid (by first | exact S.out.below hbn S.out.here | exact S.out.drew.below hbn S.out.here); have HT := Lib.hid (Kept.ond HT.out hbn); have hw2 : Below w.heap.size w wn := (by first | exact hw2.trans (hbn.mono hw2.size) | exact (hw2.drew).trans (hbn.mono hw2.size)); have cV_0 : wn.cell? ⟨w.heap.size + 1, 0, none⟩ = some (.int .i64 x.kind) := V.out.cell 0; have cV_1 : wn.cell? ⟨w.heap.size + 1, 1, none⟩ = some (.bool x.bool) := V.out.cell 1; have cV_2 : wn.cell? ⟨w.heap.size + 1, 2, none⟩ = some (.int .i64 x.num) := V.out.cell 2; have cV_3 : wn.cell? ⟨w.heap.size + 1, 3, none⟩ = some (.string ⟨x.str.toArray⟩) := V.out.cell 3; have cV_4 : wn.cell? ⟨w.heap.size + 1, 4, none⟩ = some (.int .i64 x.id) := V.out.cell 4; have cV_5 : wn.cell? ⟨w.heap.size + 1, 5, none⟩ = some (.slice A1 x.keys.length n1) := V.out.cell 5; have cV_6 : wn.cell? ⟨w.heap.size + 1, 6, none⟩ = some (.slice A2 x.items.length n2) := V.out.cell 6; have cV_7 : wn.cell? ⟨w.heap.size + 1, 7, none⟩ = some (.slice A3 x.rest.length n3) := V.out.cell 7; have cS_0 : wn.cell? ⟨g19, 0, none⟩ = some (.slice At ts.length ct) := S.out.cell 0))
      all_goals
        go_wp2_with fail
        clear cV_0 cV_1 cV_2 cV_3 cV_4 cV_5 cV_6 cV_7 cS_0
        ((with_reducible refine (rfits_any x ts At ct t _ _ _ _ HKN.out HT.out.typs0 (HV.out.on hw2)).mono ?_); rintro e wd31 ⟨rfl, hb32⟩)
        replace D := Lib.hid (D.out.below hb32 D.out.here)
        replace V := Lib.hid (V.out.below hb32 V.out.here)
        replace S := Lib.hid (S.out.below hb32 S.out.here)
        replace HT := Lib.hid (HT.out.on hb32)
        replace hw2 := hw2.trans (hb32.mono hw2.size)
        clear hb32
        rw [HFA.out]
        have cV_0 : wd31.cell? ⟨w.heap.size + 1, 0, none⟩ = some (.int .i64 x.kind) := V.out.cell 0
        have cV_1 : wd31.cell? ⟨w.heap.size + 1, 1, none⟩ = some (.bool x.bool) := V.out.cell 1
        have cV_2 : wd31.cell? ⟨w.heap.size + 1, 2, none⟩ = some (.int .i64 x.num) := V.out.cell 2
        have cV_3 : wd31.cell? ⟨w.heap.size + 1, 3, none⟩ = some (.string ⟨x.str.toArray⟩) := V.out.cell 3
        have cV_4 : wd31.cell? ⟨w.heap.size + 1, 4, none⟩ = some (.int .i64 x.id) := V.out.cell 4
        have cV_5 : wd31.cell? ⟨w.heap.size + 1, 5, none⟩ = some (.slice A1 x.keys.length n1) := V.out.cell 5
        have cV_6 : wd31.cell? ⟨w.heap.size + 1, 6, none⟩ = some (.slice A2 x.items.length n2) := V.out.cell 6
        have cV_7 : wd31.cell? ⟨w.heap.size + 1, 7, none⟩ = some (.slice A3 x.rest.length n3) := V.out.cell 7
        have cS_0 : wd31.cell? ⟨g19, 0, none⟩ = some (.slice At ts.length ct) := S.out.cell 0
        go_wp2_with fail
        clear cV_0 cV_1 cV_2 cV_3 cV_4 cV_5 cV_6 cV_7 cS_0
        ((with_reducible refine (rplain_any x ts At ct t _ _ _ _ HKN.out HT.out.typs0 (HV.out.on hw2)).mono ?_); rintro e wd33 ⟨rfl, hb34⟩)
        replace D := Lib.hid (D.out.below hb34 D.out.here)
        replace V := Lib.hid (V.out.below hb34 V.out.here)
        replace S := Lib.hid (S.out.below hb34 S.out.here)
        replace HT := Lib.hid (HT.out.on hb34)
        replace hw2 := hw2.trans (hb34.mono hw2.size)
        clear hb34
        rw [HFB.out]
        go_wp2_with fail
        all_goals
          go_ret
          refine ⟨ret_bool ?_, hw2⟩
          have hpf := HPF.out
          clear HFA HFB HPF
          simp_all

namespace fr_ValueFits
set_option maxRecDepth 100000 in
theorem lifted (os : Os) (started : os.Started) (H : Type) (enc : TypeId × Value → H) :
    ReturnsInHanded {} Try.checked os 3 .any (Rows.valueFitsSpec.pre6 enc Try.prog Try.f3 Rows.valueFitsRow.domain false) (Rows.valueFitsSpec.post enc Try.prog Try.f3 false true false false) := by
  refine returnsInHanded_of_change_sized (C := Try.checked) own_knob started (by kernel_rfl) Try.func3
    (ChangeSpec.witness6 (enc := enc) (C := Try.checked) false ⟨#[], #[.agg #[.slice none 0 0], .int .i64 0, .agg #[.int .i64 0, .bool false, .int .i64 0, .string ByteArray.empty, .int .i64 0, .slice none 0 0, .slice none 0 0, .slice none 0 0]], []⟩ 8 (by kernel_rfl) (by kernel_rfl) (by kernel_rfl) (by kernel_rfl)) ?_
  intro W base args ds gs before hval0 hW hcnd hsz0 _
  have hsz : (DataW.weightsEach Try.prog (Try.f3.params.toList ++ Rows.valueFitsSpec.plain.varTypes Try.prog) (ds ++ gs)).all (· ≤ reachBytes) = true := hsz0
  have hval : ∀ (j : Nat) t v, Try.f3.params[j]? = some t → args[j]? = some v → Value.okWide Try.prog W .any base t v := hval0
  have hW' := hW
  have hlt : ∀ p ∈ before, p.block < W.heap.size := fun p hp => hW.lt p hp
  obtain ⟨p, q, hA0, hV, rfl, hfz, hnd⟩ := hW
  have hA : DataW.TrodAll enc Try.prog W 0 (fun _ => true) true Try.f3.params.toList args.toList ds p := hA0
  have hA2 := hA
  rw [Try.params3] at hA hval hsz
  obtain ⟨v0, vs0, d0, ds0, p0, q0, hargs, rfl, hpq, h0, r0⟩ := trodAll_cons hA
  obtain ⟨v1, vs1, d1, ds1, p1, q1, rfl, rfl, rfl, h1, r1⟩ := trodAll_cons r0
  obtain ⟨v2, vs2, d2, ds2, p2, q2, rfl, rfl, rfl, h2, r2⟩ := trodAll_cons r1
  obtain ⟨rfl, rfl, rfl⟩ := trodAll_nil r2
  obtain rfl : args = #[v0, v1, v2] := by cases args; simp_all
  obtain ⟨rfl, rfl⟩ := trodVars_none hV
  obtain ⟨a0, n0, rfl, m0, u0⟩ := open_draft (hval 0 24 v0 rfl rfl) h0 (sz_of_each hsz (j := 0) rfl (by simp))
  obtain ⟨a1, rfl, rfl, rfl, w1⟩ := open_int Try.underlying3 (hval 1 3 v1 rfl rfl) h1
  have u1 := wf_i64 w1
  obtain ⟨a2, k2, i2, e2, rfl, u2⟩ := open_val (hval 2 28 v2 rfl rfl) h2 (sz_of_each hsz (j := 2) rfl (by simp))
  clear hA0 hval0
  refine (walk_ValueFits a0 n0 m0 a1 u1 a2 k2 i2 e2 W u0 u2).mono fun e W' ⟨he, bel⟩ => ?_
  subst he
  exact ⟨_, rfl, _, _, _, [], _, [], hW', trodAll_mk1 (shut_bool Try.underlying4 _), trodAll_below laid_out bel _ _ _ _ (by kernel_rfl) hA2 (fun x hx => hlt x (by simpa using hx)), rfl, bel.frame _, fun h => by cases h⟩
theorem proved : Rows.ValueFitsSaid :=
  OpenClaim.holds_of_wide 3 Try.f3 rfl rfl rfl rfl rfl rfl rfl ⟨rfl, rfl, rfl, rfl, rfl⟩ rfl rfl rfl rfl rfl (by kernel_rfl) Try.func3 (by kernel_rfl)
    (of_decide_eq_true (by kernel_rfl)) (by unfold Func.isWrapper; first | (rw [if_pos (by decide +kernel)]; kernel_rfl) | (rw [if_neg (by decide +kernel)]; exact ⟨rfl, rfl⟩))
    (fun os started H enc _ => lifted os started H enc)
#print axioms proved
end fr_ValueFits

end Go.Proofs.Ytjcoeolconelmaa

/- What At of the reference computes. No condition. -/
import Derived.Test.YtjcoeolconelmaaAt
import Derived.Test.YtjcoeolconelmaaRFitsE
import Derived.Test.YtjcoeolconelmaaDsl
import Derived.Deep.CutBlock
namespace Go.Proofs.Ytjcoeolconelmaa
open Go.ChangeShapes Go.WideShapes Go.ChangeAt Go.RowKit

theorem fit5_len {ts : List Typ} {v : Val} {t : Int} {x : Typ} (h : fitV ts false v t = true) (hx : typAt ts t = some x) (h5 : x.kind = 5) : v.items.length = x.mems.length := by
  obtain ⟨_, _, hb⟩ := fit_parts ts false v t x h hx
  unfold bodyV bodyR at hb
  rw [if_neg (by omega), if_neg (by omega), if_neg (by omega), if_pos h5] at hb
  simp only [Bool.and_eq_true, decide_eq_true_eq] at hb
  exact hb.1
theorem fit6_len {ts : List Typ} {v : Val} {t : Int} {x : Typ} {i : Nat} (h : fitV ts false v t = true) (hx : typAt ts t = some x) (h6 : x.kind = 6) (hm : memIdx x v.id = some i) : 0 < v.items.length := by
  obtain ⟨_, _, hb⟩ := fit_parts ts false v t x h hx
  unfold bodyV bodyR at hb
  rw [if_neg (by omega), if_neg (by omega), if_neg (by omega), if_neg (by omega), if_pos h6, hm] at hb
  simp only [Bool.and_eq_true, decide_eq_true_eq] at hb
  omega
theorem step_low {ts : List Typ} {v : Val} {t : Int} {x : Typ} (p : Int) (h : fitV ts false v t = true) (hx : typAt ts t = some x) (h4 : x.kind < 5) : stepV x v p = none := by
  obtain ⟨h1, h2, _⟩ := fit_parts ts false v t x h hx
  have h3 := proper_items v h2 (by omega)
  unfold stepV
  rw [if_neg (by omega), if_neg (by omega), h3]
  split <;> simp
theorem cell_al {w : World} {b o : Nat} {u : Value} (h : w.cell? ⟨b, o, none⟩ = some u) : ∀ ob, (w.alloc ob).cell? ⟨b, o, none⟩ = some u := fun ob =>
  (((Below.refl w.heap.size w).alloc (Nat.le_refl _) ob).cell (p := ⟨b, o, none⟩) (World.block_lt_of_cell? _ _ h)).trans h
def StepCut (x : Typ) (u : Val) (p : Int) (s1 s14 : Value) : Prop :=
  (s14 = .int .i64 (-1) ∧ stepV x u p = none) ∨ ∃ (J : Nat) (nt : Int) (hJ : J < u.items.length), s14 = .int .i64 J ∧ s1 = .int .i64 nt ∧ stepV x u p = some (u.items[J], nt)
set_option maxRecDepth 100000 in
set_option maxHeartbeats 8000000 in
theorem rat_any (ts : List Typ) (A : Option Addr) (c : Nat) (t : Int) (v : Val) (path : List Int) (vk vi vr vp : Value) (w : World) (hk : Kinds ts) (hwt : wt v ≤ 5000) (hpl : path.length ≤ 140737488351232) (hpi : ∀ p ∈ path, I64 p)
    (ht : RdTyps w w.heap.size (.slice A ts.length c) ts) (hv : ValAt w w.heap.size v vk vi vr) (hp : Rd w w.heap.size 1 vp path.length (path.map (Value.int .i64))) :
    Calls Try.prog 27 #[.agg #[.slice A ts.length c], .int .i64 t, valA v vk vi vr, vp] w (AtPost w (atE ts path v t)) := by
  obtain ⟨A1, n1, A2, n2, A3, n3, rfl, rfl, rfl, -, -, -⟩ := hv.forms
  obtain ⟨Ap, cp, rfl, hcp⟩ := hp.form
  have HV := Lib.hid hv
  have HT := Lib.hid ht
  have HP := Lib.hid hp
  have HK := Lib.hid hk
  have HPI := Lib.hid hpi
  clear hv ht hp hk hpi
  go_enter Try.func27, Try.ntmps27
  go_upto_region 1 with fail
  have hb1 := below_al (below_al (below_al (Below.refl w.heap.size w) (Nat.le_refl _) (.cells #[.slice A ts.length c] 31)) (Nat.le_refl _) (.cells #[.int .i64 v.kind, .bool v.bool, .int .i64 v.num, .string ⟨v.str.toArray⟩, .int .i64 v.id, .slice A1 v.keys.length n1, .slice A2 v.items.length n2, .slice A3 v.rest.length n3] 28)) (Nat.le_refl _) (.cells #[.int .i64 0, .bool false, .int .i64 0, .string ⟨#[]⟩, .int .i64 0, .slice none 0 0, .slice none 0 0, .slice none 0 0] 28)
  have S := ((Has.made w 31 #[.slice A ts.length c]).alloc (.cells #[.int .i64 v.kind, .bool v.bool, .int .i64 v.num, .string ⟨v.str.toArray⟩, .int .i64 v.id, .slice A1 v.keys.length n1, .slice A2 v.items.length n2, .slice A3 v.rest.length n3] 28)).alloc (.cells #[.int .i64 0, .bool false, .int .i64 0, .string ⟨#[]⟩, .int .i64 0, .slice none 0 0, .slice none 0 0, .slice none 0 0] 28)
  have V := (Has.made (w.alloc (.cells #[.slice A ts.length c] 31)) 28 #[.int .i64 v.kind, .bool v.bool, .int .i64 v.num, .string ⟨v.str.toArray⟩, .int .i64 v.id, .slice A1 v.keys.length n1, .slice A2 v.items.length n2, .slice A3 v.rest.length n3]).alloc (.cells #[.int .i64 0, .bool false, .int .i64 0, .string ⟨#[]⟩, .int .i64 0, .slice none 0 0, .slice none 0 0, .slice none 0 0] 28)
  have R := Has.made ((w.alloc (.cells #[.slice A ts.length c] 31)).alloc (.cells #[.int .i64 v.kind, .bool v.bool, .int .i64 v.num, .string ⟨v.str.toArray⟩, .int .i64 v.id, .slice A1 v.keys.length n1, .slice A2 v.items.length n2, .slice A3 v.rest.length n3] 28)) 28 #[.int .i64 0, .bool false, .int .i64 0, .string ⟨#[]⟩, .int .i64 0, .slice none 0 0, .slice none 0 0, .slice none 0 0]
  simp only [alloc_hz] at V R
  have hw2 := hb1
  replace S := Lib.hid S
  replace V := Lib.hid V
  replace R := Lib.hid R
  clear hb1
  generalize (((w.alloc (.cells #[.slice A ts.length c] 31)).alloc (.cells #[.int .i64 v.kind, .bool v.bool, .int .i64 v.num, .string ⟨v.str.toArray⟩, .int .i64 v.id, .slice A1 v.keys.length n1, .slice A2 v.items.length n2, .slice A3 v.rest.length n3] 28)).alloc (.cells #[.int .i64 0, .bool false, .int .i64 0, .string ⟨#[]⟩, .int .i64 0, .slice none 0 0, .slice none 0 0, .slice none 0 0] 28)) = wd3 at *
  have cS_0 : wd3.cell? ⟨w.heap.size, 0, none⟩ = some (.slice A ts.length c) := S.out.cell 0
  have cV_0 : wd3.cell? ⟨w.heap.size + 1, 0, none⟩ = some (.int .i64 v.kind) := V.out.cell 0
  have cV_1 : wd3.cell? ⟨w.heap.size + 1, 1, none⟩ = some (.bool v.bool) := V.out.cell 1
  have cV_2 : wd3.cell? ⟨w.heap.size + 1, 2, none⟩ = some (.int .i64 v.num) := V.out.cell 2
  have cV_3 : wd3.cell? ⟨w.heap.size + 1, 3, none⟩ = some (.string ⟨v.str.toArray⟩) := V.out.cell 3
  have cV_4 : wd3.cell? ⟨w.heap.size + 1, 4, none⟩ = some (.int .i64 v.id) := V.out.cell 4
  have cV_5 : wd3.cell? ⟨w.heap.size + 1, 5, none⟩ = some (.slice A1 v.keys.length n1) := V.out.cell 5
  have cV_6 : wd3.cell? ⟨w.heap.size + 1, 6, none⟩ = some (.slice A2 v.items.length n2) := V.out.cell 6
  have cV_7 : wd3.cell? ⟨w.heap.size + 1, 7, none⟩ = some (.slice A3 v.rest.length n3) := V.out.cell 7
  go_wp2_with fail
  clear cS_0 cV_0 cV_1 cV_2 cV_3 cV_4 cV_5 cV_6 cV_7
  ((with_reducible refine (rfits_any v ts A c t _ _ _ _ HK.out (HT.out.on hw2) (HV.out.on hw2)).mono ?_); rintro e wd4 ⟨rfl, hb5⟩)
  replace S := Lib.hid (S.out.below hb5 S.out.here)
  replace V := Lib.hid (V.out.below hb5 V.out.here)
  replace R := Lib.hid (R.out.below hb5 R.out.here)
  replace hw2 := hw2.trans (hb5.mono hw2.size)
  clear hb5
  cases hfit : fitV ts false v t with
  | false =>
    have Her : Hid (atE ts path v t = .error 1) := by show _ = _; rw [atE, hfit]; rfl
    clear hfit
    go_upto_region 2 with fail
    go_wp2_with (refine wpList_store_row rfl 28 _ _ rfl (w.heap.size + 1 + 1) _ rfl rfl 28 _ R.out (by kernel_rfl) rfl (by simp [Value.oneCell']) ?_)
    replace S := Lib.hid (has_row (cs' := #[.int .i64 0, .bool false, .int .i64 0, .string ⟨#[]⟩, .int .i64 0, .slice none 0 0, .slice none 0 0, .slice none 0 0]) S.out (show w.heap.size ≠ w.heap.size + 1 + 1 by omega))
    replace V := Lib.hid (has_row (cs' := #[.int .i64 0, .bool false, .int .i64 0, .string ⟨#[]⟩, .int .i64 0, .slice none 0 0, .slice none 0 0, .slice none 0 0]) V.out (show w.heap.size + 1 ≠ w.heap.size + 1 + 1 by omega))
    replace R : Hid (Has (wd4.setRow (w.heap.size + 1 + 1) #[.int .i64 0, .bool false, .int .i64 0, .string ⟨#[]⟩, .int .i64 0, .slice none 0 0, .slice none 0 0, .slice none 0 0]) (w.heap.size + 1 + 1) 28 #[.int .i64 0, .bool false, .int .i64 0, .string ⟨#[]⟩, .int .i64 0, .slice none 0 0, .slice none 0 0, .slice none 0 0]) := Lib.hid (row_has R.out _)
    replace hw2 := below_setRow hw2 (show w.heap.size ≤ w.heap.size + 1 + 1 by omega) #[.int .i64 0, .bool false, .int .i64 0, .string ⟨#[]⟩, .int .i64 0, .slice none 0 0, .slice none 0 0, .slice none 0 0]
    generalize wd4.setRow (w.heap.size + 1 + 1) #[.int .i64 0, .bool false, .int .i64 0, .string ⟨#[]⟩, .int .i64 0, .slice none 0 0, .slice none 0 0, .slice none 0 0] = wd6 at *
    have cR_0 : wd6.cell? ⟨w.heap.size + 1 + 1, 0, none⟩ = some (.int .i64 0) := R.out.cell 0
    have cR_1 : wd6.cell? ⟨w.heap.size + 1 + 1, 1, none⟩ = some (.bool false) := R.out.cell 1
    have cR_2 : wd6.cell? ⟨w.heap.size + 1 + 1, 2, none⟩ = some (.int .i64 0) := R.out.cell 2
    have cR_3 : wd6.cell? ⟨w.heap.size + 1 + 1, 3, none⟩ = some (.string ⟨#[]⟩) := R.out.cell 3
    have cR_4 : wd6.cell? ⟨w.heap.size + 1 + 1, 4, none⟩ = some (.int .i64 0) := R.out.cell 4
    have cR_5 : wd6.cell? ⟨w.heap.size + 1 + 1, 5, none⟩ = some (.slice none 0 0) := R.out.cell 5
    have cR_6 : wd6.cell? ⟨w.heap.size + 1 + 1, 6, none⟩ = some (.slice none 0 0) := R.out.cell 6
    have cR_7 : wd6.cell? ⟨w.heap.size + 1 + 1, 7, none⟩ = some (.slice none 0 0) := R.out.cell 7
    exact bodyPost_ret (v := .tuple #[.agg #[.int .i64 0, .bool false, .int .i64 0, .string ⟨#[]⟩, .int .i64 0, .slice none 0 0, .slice none 0 0, .slice none 0 0], .int .i64 0, .int .i64 1]) (by simp [results, Try.results27, go_sem, cR_0, cR_1, cR_2, cR_3, cR_4, cR_5, cR_6, cR_7]) rfl ((by show AtPost _ _ _ _; rw [Her.out]; exact ⟨rfl, hw2⟩))
  | true =>
    have Hre : Hid (atE ts path v t = match atV ts path v t with | some r => .ok r | none => .error 4) := by show _ = _; rw [atE, hfit]; rfl
    obtain ⟨x0, hx0⟩ := fit_typ hfit
    obtain ⟨n0, -, hn0, -⟩ := typAt_nat hx0
    obtain ⟨b, o, rfl, hbb, hel0⟩ := HT.out.elem (by omega)
    clear hx0 hn0 hel0 hbb
    have hrel0 : AtRel w ts (some ⟨b, o, none⟩) c path v t 28 31 0 v t wd4 :=
      { sch := S.out, res := R.out, blk := ⟨_, _, _, V.out, HV.out.keep (fun p hp => (hw2).cell hp) (Nat.le_refl _)⟩, fit := hfit, wtu := hwt, le := by omega, at_ := rfl, bel := hw2 }
    have HR0 := Lib.hid hrel0
    clear hrel0 hfit
    go_upto_region 4 with fail
    go_loopw [1, 11] (fun tv i wr => ∃ (k : Nat) (u : Val) (s : Int), tv = .int .i64 s ∧ i = .int .i64 k ∧ AtRel w ts (some ⟨b, o, none⟩) c path v t 28 31 k u s wr) (fun _ i _ => path.length - (intOf i).toNat)
    case atStart => exact ⟨0, v, t, rfl, rfl, HR0.out⟩
    case round =>
      clear S V R HR0
      obtain ⟨k, u, s, rfl, rfl, hrel⟩ := hrel
      have hle := hrel.le
      obtain ⟨x, hx⟩ := fit_typ hrel.fit
      obtain ⟨n, rfl, hn, hnx⟩ := typAt_nat hx
      obtain ⟨uk, ui, ur, hV, hua⟩ := hrel.blk
      obtain ⟨U1, l1, U2, l2, U3, l3, rfl, rfl, rfl, -, -, -⟩ := hua.forms
      have V : Has wr (w.heap.size + 1) 28 #[.int .i64 u.kind, .bool u.bool, .int .i64 u.num, .string ⟨u.str.toArray⟩, .int .i64 u.id, .slice U1 u.keys.length l1, .slice U2 u.items.length l2, .slice U3 u.rest.length l3] := hV
      have hw := hrel.bel
      have S := hrel.sch
      have R := hrel.res
      have Hat := Lib.hid hrel.at_
      have Hfit := Lib.hid hrel.fit
      have Hwt := Lib.hid hrel.wtu
      clear hrel hV
      replace S := Lib.hid S
      replace V := Lib.hid V
      replace R := Lib.hid R
      have U := Lib.hid (Kept.rd (P := fun w B => ValAt w B u (.slice U1 u.keys.length l1) (.slice U2 u.items.length l2) (.slice U3 u.rest.length l3)) hua hw.size (fun _ hk => hua.keep hk (Nat.le_refl _)))
      clear hua
      by_cases hlt : k < path.length
      · obtain ⟨bp, op, rfl, hbp, hcp2⟩ := (HP.out.keep (w' := wr) (fun q hq => hw.cell hq)).at_ (by omega)
        have pc := ints_at hcp2 k hlt
        have Hdr : Hid (path.drop k = path[k] :: path.drop (k + 1)) := List.drop_eq_getElem_cons hlt
        have hI := HPI.out _ (List.getElem_mem hlt)
        generalize path[k] = p at *
        obtain ⟨b', o', hA, hbb, hel⟩ := (HT.out.keep (w' := wr) (fun q hq => hw.cell hq) (Nat.le_refl _)).elem (by omega)
        injection hA with hA
        injection hA with hA1 hA2
        subst hA1 hA2
        obtain ⟨vs, vm, hcells, hxa⟩ := hel n hn
        have hKx : KindIn x.kind := by rw [← hnx]; exact HK.out _ (List.getElem_mem hn)
        rw [hnx] at hcells hxa
        clear hel hcp2
        obtain ⟨C1, m1, C2, m2, rfl, rfl, -, -⟩ := hxa.forms
        obtain ⟨c0, c1, c2, c3, c4, c5, c6, c7, c8, c9⟩ := hcells
        have hi1 : (k : Int) < path.length := by omega
        have hi2 : (n : Int) < ts.length := by omega
        have hxs := hxa.lens
        have XA := Lib.hid (Kept.rd (P := fun w B => TypAt w B x (.slice C1 x.syms.length m1) (.slice C2 x.mems.length m2)) hxa hw.size (fun _ hk => hxa.keep hk (Nat.le_refl _)))
        have HM := Lib.hid (fun W h => rmember_any x (.slice C1 x.syms.length m1) (.slice C2 x.mems.length m2) p W h)
        have Hx := Lib.hid hx
        clear hx hnx hxa
        have cS_0 : wr.cell? ⟨w.heap.size, 0, none⟩ = some (.slice (some ⟨b, o, none⟩) ts.length c) := S.out.cell 0
        go_upto_region 6 with fail
        have pcA := cell_al pc
        have d0 := cell_al c0
        have d1 := cell_al c1
        have d2 := cell_al c2
        have d3 := cell_al c3
        have d4 := cell_al c4
        have d5 := cell_al c5
        have d6 := cell_al c6
        have d7 := cell_al c7
        have d8 := cell_al c8
        have d9 := cell_al c9
        have dS := cell_al cS_0
        go_region
        clear pcA d0 d1 d2 d3 d4 d5 d6 d7 d8 d9 dS pc c0 c1 c2 c3 c4 c5 c6 c7 c8 c9
        clear cS_0
        have hb7 := below_al (Below.refl wr.heap.size wr) (Nat.le_refl _) (.cells #[.int .i64 x.kind, .string ⟨x.name.toArray⟩, .int .i64 x.low, .int .i64 x.high, .int .i64 x.max, .slice C1 x.syms.length m1, .slice C2 x.mems.length m2, .int .i64 x.key, .int .i64 x.elem, .bool x.opn] 67)
        have X := Has.made wr 67 #[.int .i64 x.kind, .string ⟨x.name.toArray⟩, .int .i64 x.low, .int .i64 x.high, .int .i64 x.max, .slice C1 x.syms.length m1, .slice C2 x.mems.length m2, .int .i64 x.key, .int .i64 x.elem, .bool x.opn]
        have hl9 := S.out.here
        have hl10 := V.out.here
        have hl11 := R.out.here
        have hl12 := U.out.le
        have hl13 := XA.out.le
        have hl14 := hw.size
        replace S := Lib.hid (S.out.below hb7 S.out.here)
        replace V := Lib.hid (V.out.below hb7 V.out.here)
        replace R := Lib.hid (R.out.below hb7 R.out.here)
        replace U := Lib.hid (U.out.on hb7)
        replace XA := Lib.hid (XA.out.on hb7)
        replace hw := hw.trans (hb7.mono hw.size)
        replace X := Lib.hid X
        clear hb7
        generalize (wr.alloc (.cells #[.int .i64 x.kind, .string ⟨x.name.toArray⟩, .int .i64 x.low, .int .i64 x.high, .int .i64 x.max, .slice C1 x.syms.length m1, .slice C2 x.mems.length m2, .int .i64 x.key, .int .i64 x.elem, .bool x.opn] 67)) = wd15 at *
        generalize wr.heap.size = g8 at *
        have hb16 : Below wd15.heap.size wd15 (wd15.drew) := (Below.refl _ _).drew
        replace S := Lib.hid (S.out.below hb16 S.out.here)
        replace V := Lib.hid (V.out.below hb16 V.out.here)
        replace R := Lib.hid (R.out.below hb16 R.out.here)
        replace X := Lib.hid (X.out.below hb16 X.out.here)
        replace U := Lib.hid (U.out.on hb16)
        replace XA := Lib.hid (XA.out.on hb16)
        replace hw := hw.trans (hb16.mono hw.size)
        clear hb16
        generalize wd15.drew = wd17 at *
        have hle1 : w.heap.size ≤ wd17.heap.size := (hw).size
        have cX_0 : wd17.cell? ⟨g8, 0, none⟩ = some (.int .i64 x.kind) := X.out.cell 0
        have cX_1 : wd17.cell? ⟨g8, 1, none⟩ = some (.string ⟨x.name.toArray⟩) := X.out.cell 1
        have cX_2 : wd17.cell? ⟨g8, 2, none⟩ = some (.int .i64 x.low) := X.out.cell 2
        have cX_3 : wd17.cell? ⟨g8, 3, none⟩ = some (.int .i64 x.high) := X.out.cell 3
        have cX_4 : wd17.cell? ⟨g8, 4, none⟩ = some (.int .i64 x.max) := X.out.cell 4
        have cX_5 : wd17.cell? ⟨g8, 5, none⟩ = some (.slice C1 x.syms.length m1) := X.out.cell 5
        have cX_6 : wd17.cell? ⟨g8, 6, none⟩ = some (.slice C2 x.mems.length m2) := X.out.cell 6
        have cX_7 : wd17.cell? ⟨g8, 7, none⟩ = some (.int .i64 x.key) := X.out.cell 7
        have cX_8 : wd17.cell? ⟨g8, 8, none⟩ = some (.int .i64 x.elem) := X.out.cell 8
        have cX_9 : wd17.cell? ⟨g8, 9, none⟩ = some (.bool x.opn) := X.out.cell 9
        go_upto_block 2 with fail
        clear cX_0 cX_1 cX_2 cX_3 cX_4 cX_5 cX_6 cX_7 cX_8 cX_9
        go_cut [1, 14] from 42 to 94 (fun s1 s14 wx => StepCut x u p s1 s14 ∧ Below wd17.heap.size wd17 wx)
        case first =>
          by_cases h5 : x.kind = 5
          · have H5 := Lib.hid h5
            have hz5 : (x.kind == 5) = true := by simp [h5]
            clear h5
            have cX_0 : wd17.cell? ⟨g8, 0, none⟩ = some (.int .i64 x.kind) := X.out.cell 0
            have cX_1 : wd17.cell? ⟨g8, 1, none⟩ = some (.string ⟨x.name.toArray⟩) := X.out.cell 1
            have cX_2 : wd17.cell? ⟨g8, 2, none⟩ = some (.int .i64 x.low) := X.out.cell 2
            have cX_3 : wd17.cell? ⟨g8, 3, none⟩ = some (.int .i64 x.high) := X.out.cell 3
            have cX_4 : wd17.cell? ⟨g8, 4, none⟩ = some (.int .i64 x.max) := X.out.cell 4
            have cX_5 : wd17.cell? ⟨g8, 5, none⟩ = some (.slice C1 x.syms.length m1) := X.out.cell 5
            have cX_6 : wd17.cell? ⟨g8, 6, none⟩ = some (.slice C2 x.mems.length m2) := X.out.cell 6
            have cX_7 : wd17.cell? ⟨g8, 7, none⟩ = some (.int .i64 x.key) := X.out.cell 7
            have cX_8 : wd17.cell? ⟨g8, 8, none⟩ = some (.int .i64 x.elem) := X.out.cell 8
            have cX_9 : wd17.cell? ⟨g8, 9, none⟩ = some (.bool x.opn) := X.out.cell 9
            go_wp2_with fail
            clear cX_0 cX_1 cX_2 cX_3 cX_4 cX_5 cX_6 cX_7 cX_8 cX_9
            ((with_reducible refine (HM.out _ (XA.out.now.keep (fun _ _ => rfl) hle1)).mono ?_); rintro e wd18 ⟨rfl, hc5⟩)
            cases hmi : memIdx x p with
            | none =>
              simp only [pairV, Option.isSome_none]
              go_wp2_with fail
              go_meet
              exact ⟨.inl ⟨rfl, step5_none x u p H5.out hmi⟩, hc5⟩
            | some i =>
              have hil := memIdx_lt x p i hmi
              have hil2 : (i : Int) < x.mems.length := by omega
              have hit : i < u.items.length := by rw [fit5_len Hfit.out Hx.out H5.out]; exact hil
              have Hst : Hid (stepV x u p = some (u.items[i], x.mems[i].ty)) := step5_some x u p i H5.out hmi hil hit
              simp only [pairV, Option.isSome_some]
              have XA2 := XA.out.on hc5
              obtain ⟨bm, om, hC2, hbm, hem⟩ := XA2.now.mems.elem (by omega)
              obtain ⟨mk, mi, mr, hmc, -⟩ := hem i hil
              have mt := hmc.2.2.1
              have cX_6 := (X.out.below hc5 X.out.here).cell 6
              simp only [List.getElem?_toArray, List.getElem?_cons_succ, List.getElem?_cons_zero] at cX_6
              clear hem hmc hmi
              go_upto_region 12 with fail
              go_quiet (fail)
              go_wp2_with fail
              go_meet
              exact ⟨.inr ⟨i, _, hit, rfl, rfl, Hst.out⟩, below_drewN hc5 _⟩
          · by_cases h6 : x.kind = 6
            · have H6 := Lib.hid h6
              have hz5 : (x.kind == 5) = false := by simp [h6]
              have hz6 : (x.kind == 6) = true := by simp [h6]
              clear h5 h6
              have cX_0 : wd17.cell? ⟨g8, 0, none⟩ = some (.int .i64 x.kind) := X.out.cell 0
              have cX_1 : wd17.cell? ⟨g8, 1, none⟩ = some (.string ⟨x.name.toArray⟩) := X.out.cell 1
              have cX_2 : wd17.cell? ⟨g8, 2, none⟩ = some (.int .i64 x.low) := X.out.cell 2
              have cX_3 : wd17.cell? ⟨g8, 3, none⟩ = some (.int .i64 x.high) := X.out.cell 3
              have cX_4 : wd17.cell? ⟨g8, 4, none⟩ = some (.int .i64 x.max) := X.out.cell 4
              have cX_5 : wd17.cell? ⟨g8, 5, none⟩ = some (.slice C1 x.syms.length m1) := X.out.cell 5
              have cX_6 : wd17.cell? ⟨g8, 6, none⟩ = some (.slice C2 x.mems.length m2) := X.out.cell 6
              have cX_7 : wd17.cell? ⟨g8, 7, none⟩ = some (.int .i64 x.key) := X.out.cell 7
              have cX_8 : wd17.cell? ⟨g8, 8, none⟩ = some (.int .i64 x.elem) := X.out.cell 8
              have cX_9 : wd17.cell? ⟨g8, 9, none⟩ = some (.bool x.opn) := X.out.cell 9
              go_wp2_with fail
              clear cX_0 cX_1 cX_2 cX_3 cX_4 cX_5 cX_6 cX_7 cX_8 cX_9
              ((with_reducible refine (HM.out _ (XA.out.now.keep (fun _ _ => rfl) hle1)).mono ?_); rintro e wd20 ⟨rfl, hc5⟩)
              have cV_4 := (V.out.below hc5 V.out.here).cell 4
              simp only [List.getElem?_toArray, List.getElem?_cons_succ, List.getElem?_cons_zero] at cV_4
              cases hmi : memIdx x p with
              | none =>
                simp only [pairV, Option.isSome_none]
                go_wp2_with fail
                go_meet
                exact ⟨.inl ⟨rfl, step6_none x u p H6.out hmi⟩, hc5⟩
              | some i =>
                have hil := memIdx_lt x p i hmi
                have hil2 : (i : Int) < x.mems.length := by omega
                simp only [pairV, Option.isSome_some]
                by_cases hpv : p = u.id
                · have hpv2 : (p == u.id) = true := by simp [hpv]
                  have hit : 0 < u.items.length := fit6_len Hfit.out Hx.out H6.out (by rw [← hpv]; exact hmi)
                  have Hst : Hid (stepV x u p = some (u.items[0], x.mems[i].ty)) := step6_some x u p i H6.out hmi hpv hil hit
                  have XA2 := XA.out.on hc5
                  obtain ⟨bm, om, hC2, hbm, hem⟩ := XA2.now.mems.elem (by omega)
                  obtain ⟨mk, mi, mr, hmc, -⟩ := hem i hil
                  have mt := hmc.2.2.1
                  have cX_6 := (X.out.below hc5 X.out.here).cell 6
                  simp only [List.getElem?_toArray, List.getElem?_cons_succ, List.getElem?_cons_zero] at cX_6
                  clear hem hmc hmi hpv
                  go_upto_region 16 with fail
                  go_quiet (fail)
                  go_wp2_with fail
                  go_meet
                  exact ⟨.inr ⟨0, _, hit, rfl, rfl, Hst.out⟩, below_drewN hc5 _⟩
                · have hpv2 : (p == u.id) = false := by simpa using hpv
                  have Hst : Hid (stepV x u p = none) := step6_ne x u p H6.out hpv
                  clear hmi hpv
                  go_wp2_with fail
                  go_meet
                  exact ⟨.inl ⟨rfl, Hst.out⟩, hc5⟩
            · have hz5 : (x.kind == 5) = false := by simpa using h5
              have hz6 : (x.kind == 6) = false := by simpa using h6
              by_cases h7 : x.kind < 5
              · have Hst : Hid (stepV x u p = none) := step_low p Hfit.out Hx.out h7
                have hz7 : (x.kind == 7) = false := beq_eq_false_iff_ne.2 (by omega)
                have hz8 : (x.kind == 8) = false := beq_eq_false_iff_ne.2 (by omega)
                have hz9 : (x.kind == 9) = false := beq_eq_false_iff_ne.2 (by omega)
                clear h5 h6 h7
                have cX_0 : wd17.cell? ⟨g8, 0, none⟩ = some (.int .i64 x.kind) := X.out.cell 0
                have cX_1 : wd17.cell? ⟨g8, 1, none⟩ = some (.string ⟨x.name.toArray⟩) := X.out.cell 1
                have cX_2 : wd17.cell? ⟨g8, 2, none⟩ = some (.int .i64 x.low) := X.out.cell 2
                have cX_3 : wd17.cell? ⟨g8, 3, none⟩ = some (.int .i64 x.high) := X.out.cell 3
                have cX_4 : wd17.cell? ⟨g8, 4, none⟩ = some (.int .i64 x.max) := X.out.cell 4
                have cX_5 : wd17.cell? ⟨g8, 5, none⟩ = some (.slice C1 x.syms.length m1) := X.out.cell 5
                have cX_6 : wd17.cell? ⟨g8, 6, none⟩ = some (.slice C2 x.mems.length m2) := X.out.cell 6
                have cX_7 : wd17.cell? ⟨g8, 7, none⟩ = some (.int .i64 x.key) := X.out.cell 7
                have cX_8 : wd17.cell? ⟨g8, 8, none⟩ = some (.int .i64 x.elem) := X.out.cell 8
                have cX_9 : wd17.cell? ⟨g8, 9, none⟩ = some (.bool x.opn) := X.out.cell 9
                go_wp2_with fail
                go_meet
                exact ⟨.inl ⟨rfl, Hst.out⟩, Below.refl _ _⟩
              · have h789 : x.kind = 7 ∨ x.kind = 8 ∨ x.kind = 9 ∨ False := by unfold KindIn at hKx; omega
                have H5 := Lib.hid h5
                have H6 := Lib.hid h6
                clear h5 h6 h7
                have cX_0 : wd17.cell? ⟨g8, 0, none⟩ = some (.int .i64 x.kind) := X.out.cell 0
                have cX_1 : wd17.cell? ⟨g8, 1, none⟩ = some (.string ⟨x.name.toArray⟩) := X.out.cell 1
                have cX_2 : wd17.cell? ⟨g8, 2, none⟩ = some (.int .i64 x.low) := X.out.cell 2
                have cX_3 : wd17.cell? ⟨g8, 3, none⟩ = some (.int .i64 x.high) := X.out.cell 3
                have cX_4 : wd17.cell? ⟨g8, 4, none⟩ = some (.int .i64 x.max) := X.out.cell 4
                have cX_5 : wd17.cell? ⟨g8, 5, none⟩ = some (.slice C1 x.syms.length m1) := X.out.cell 5
                have cX_6 : wd17.cell? ⟨g8, 6, none⟩ = some (.slice C2 x.mems.length m2) := X.out.cell 6
                have cX_7 : wd17.cell? ⟨g8, 7, none⟩ = some (.int .i64 x.key) := X.out.cell 7
                have cX_8 : wd17.cell? ⟨g8, 8, none⟩ = some (.int .i64 x.elem) := X.out.cell 8
                have cX_9 : wd17.cell? ⟨g8, 9, none⟩ = some (.bool x.opn) := X.out.cell 9
                have cV_6 : wd17.cell? ⟨w.heap.size + 1, 6, none⟩ = some (.slice U2 u.items.length l2) := V.out.cell 6
                rcases h789 with h7 | h789
                · have hz7 : (x.kind == 7) = true := (by simp [h7])
                  clear h7
                  by_cases hneg : p < 0
                  · have hd1 : decide (0 ≤ p) = false := decide_eq_false (by omega)
                    have Hst : Hid (stepV x u p = none) := step7_neg x u p H5.out H6.out hneg
                    clear hneg
                    go_wp2_with fail
                    go_meet
                    exact ⟨.inl ⟨rfl, Hst.out⟩, Below.refl _ _⟩
                  · obtain ⟨i, rfl⟩ : ∃ i : Nat, p = i := ⟨p.toNat, by omega⟩
                    have hd1 : decide (0 ≤ (i : Int)) = true := decide_eq_true (by omega)
                    by_cases hit : i < u.items.length
                    · have hit2 : (i : Int) < u.items.length := by omega
                      have hd2 : decide (i < u.items.length) = true := decide_eq_true hit
                      have Hst : Hid (stepV x u i = some (u.items[i], x.elem)) := step7_some x u i H5.out H6.out hit
                      clear hneg
                      go_upto_region 21 with fail
                      go_quiet (fail)
                      go_wp2_with fail
                      go_meet
                      exact ⟨.inr ⟨i, _, hit, rfl, rfl, Hst.out⟩, below_drewN (Below.refl _ _) _⟩
                    · have hd2 : decide (i < u.items.length) = false := decide_eq_false hit
                      have Hst : Hid (stepV x u i = none) := step7_out x u i H5.out H6.out hit
                      clear hneg
                      go_wp2_with fail
                      go_meet
                      exact ⟨.inl ⟨rfl, Hst.out⟩, Below.refl _ _⟩
                rcases h789 with h7 | h789
                · have hz7 : (x.kind == 7) = false := (by simp [h7]); have hz8 : (x.kind == 8) = true := (by simp [h7])
                  clear h7
                  by_cases hneg : p < 0
                  · have hd1 : decide (0 ≤ p) = false := decide_eq_false (by omega)
                    have Hst : Hid (stepV x u p = none) := step7_neg x u p H5.out H6.out hneg
                    clear hneg
                    go_wp2_with fail
                    go_meet
                    exact ⟨.inl ⟨rfl, Hst.out⟩, Below.refl _ _⟩
                  · obtain ⟨i, rfl⟩ : ∃ i : Nat, p = i := ⟨p.toNat, by omega⟩
                    have hd1 : decide (0 ≤ (i : Int)) = true := decide_eq_true (by omega)
                    by_cases hit : i < u.items.length
                    · have hit2 : (i : Int) < u.items.length := by omega
                      have hd2 : decide (i < u.items.length) = true := decide_eq_true hit
                      have Hst : Hid (stepV x u i = some (u.items[i], x.elem)) := step7_some x u i H5.out H6.out hit
                      clear hneg
                      go_upto_region 21 with fail
                      go_quiet (fail)
                      go_wp2_with fail
                      go_meet
                      exact ⟨.inr ⟨i, _, hit, rfl, rfl, Hst.out⟩, below_drewN (Below.refl _ _) _⟩
                    · have hd2 : decide (i < u.items.length) = false := decide_eq_false hit
                      have Hst : Hid (stepV x u i = none) := step7_out x u i H5.out H6.out hit
                      clear hneg
                      go_wp2_with fail
                      go_meet
                      exact ⟨.inl ⟨rfl, Hst.out⟩, Below.refl _ _⟩
                rcases h789 with h7 | h789
                · have hz7 : (x.kind == 7) = false := (by simp [h7]); have hz8 : (x.kind == 8) = false := (by simp [h7]); have hz9 : (x.kind == 9) = true := (by simp [h7])
                  clear h7
                  by_cases hneg : p < 0
                  · have hd1 : decide (0 ≤ p) = false := decide_eq_false (by omega)
                    have Hst : Hid (stepV x u p = none) := step7_neg x u p H5.out H6.out hneg
                    clear hneg
                    go_wp2_with fail
                    go_meet
                    exact ⟨.inl ⟨rfl, Hst.out⟩, Below.refl _ _⟩
                  · obtain ⟨i, rfl⟩ : ∃ i : Nat, p = i := ⟨p.toNat, by omega⟩
                    have hd1 : decide (0 ≤ (i : Int)) = true := decide_eq_true (by omega)
                    by_cases hit : i < u.items.length
                    · have hit2 : (i : Int) < u.items.length := by omega
                      have hd2 : decide (i < u.items.length) = true := decide_eq_true hit
                      have Hst : Hid (stepV x u i = some (u.items[i], x.elem)) := step7_some x u i H5.out H6.out hit
                      clear hneg
                      go_upto_region 21 with fail
                      go_quiet (fail)
                      go_wp2_with fail
                      go_meet
                      exact ⟨.inr ⟨i, _, hit, rfl, rfl, Hst.out⟩, below_drewN (Below.refl _ _) _⟩
                    · have hd2 : decide (i < u.items.length) = false := decide_eq_false hit
                      have Hst : Hid (stepV x u i = none) := step7_out x u i H5.out H6.out hit
                      clear hneg
                      go_wp2_with fail
                      go_meet
                      exact ⟨.inl ⟨rfl, Hst.out⟩, Below.refl _ _⟩
                exact h789.elim
        case rest =>
          obtain ⟨hcut, hcb⟩ := hcut
          replace S := Lib.hid (S.out.below hcb S.out.here)
          replace V := Lib.hid (V.out.below hcb V.out.here)
          replace R := Lib.hid (R.out.below hcb R.out.here)
          replace X := Lib.hid (X.out.below hcb X.out.here)
          replace U := Lib.hid (U.out.on hcb)
          replace XA := Lib.hid (XA.out.on hcb)
          replace hw := hw.trans (hcb.mono hw.size)
          clear hcb
          rcases hcut with ⟨rfl, hst⟩ | ⟨J, nt, hit, rfl, rfl, hst⟩
          · have Hst := Lib.hid hst
            clear hst
            have Her : Hid (atE ts path v t = .error 4) := by
              show _ = _
              rw [Hre.out, Hat.out, Hdr.out, atV_cons ts p _ u n x Hx.out, Hst.out]
            go_upto_region 23 with fail
            go_wp2_with (refine wpList_store_row rfl 28 _ _ rfl (w.heap.size + 1 + 1) _ rfl rfl 28 _ R.out (by kernel_rfl) rfl (by simp [Value.oneCell']) ?_)
            replace S := Lib.hid (has_row (cs' := #[.int .i64 0, .bool false, .int .i64 0, .string ⟨#[]⟩, .int .i64 0, .slice none 0 0, .slice none 0 0, .slice none 0 0]) S.out (show w.heap.size ≠ w.heap.size + 1 + 1 by omega))
            replace V := Lib.hid (has_row (cs' := #[.int .i64 0, .bool false, .int .i64 0, .string ⟨#[]⟩, .int .i64 0, .slice none 0 0, .slice none 0 0, .slice none 0 0]) V.out (show w.heap.size + 1 ≠ w.heap.size + 1 + 1 by omega))
            replace X := Lib.hid (has_row (cs' := #[.int .i64 0, .bool false, .int .i64 0, .string ⟨#[]⟩, .int .i64 0, .slice none 0 0, .slice none 0 0, .slice none 0 0]) X.out (show g8 ≠ w.heap.size + 1 + 1 by omega))
            replace R : Hid (Has (wc.setRow (w.heap.size + 1 + 1) #[.int .i64 0, .bool false, .int .i64 0, .string ⟨#[]⟩, .int .i64 0, .slice none 0 0, .slice none 0 0, .slice none 0 0]) (w.heap.size + 1 + 1) 28 #[.int .i64 0, .bool false, .int .i64 0, .string ⟨#[]⟩, .int .i64 0, .slice none 0 0, .slice none 0 0, .slice none 0 0]) := Lib.hid (row_has R.out _)
            replace U := Lib.hid (U.out.row (w.heap.size + 1 + 1) (show w.heap.size ≤ w.heap.size + 1 + 1 ∨ w.heap.size + 1 + 1 < 0 by omega) #[.int .i64 0, .bool false, .int .i64 0, .string ⟨#[]⟩, .int .i64 0, .slice none 0 0, .slice none 0 0, .slice none 0 0])
            replace XA := Lib.hid (XA.out.row (w.heap.size + 1 + 1) (show w.heap.size ≤ w.heap.size + 1 + 1 ∨ w.heap.size + 1 + 1 < 0 by omega) #[.int .i64 0, .bool false, .int .i64 0, .string ⟨#[]⟩, .int .i64 0, .slice none 0 0, .slice none 0 0, .slice none 0 0])
            replace hw := below_setRow hw (show w.heap.size ≤ w.heap.size + 1 + 1 by omega) #[.int .i64 0, .bool false, .int .i64 0, .string ⟨#[]⟩, .int .i64 0, .slice none 0 0, .slice none 0 0, .slice none 0 0]
            generalize wc.setRow (w.heap.size + 1 + 1) #[.int .i64 0, .bool false, .int .i64 0, .string ⟨#[]⟩, .int .i64 0, .slice none 0 0, .slice none 0 0, .slice none 0 0] = wd22 at *
            have cR_0 : wd22.cell? ⟨w.heap.size + 1 + 1, 0, none⟩ = some (.int .i64 0) := R.out.cell 0
            have cR_1 : wd22.cell? ⟨w.heap.size + 1 + 1, 1, none⟩ = some (.bool false) := R.out.cell 1
            have cR_2 : wd22.cell? ⟨w.heap.size + 1 + 1, 2, none⟩ = some (.int .i64 0) := R.out.cell 2
            have cR_3 : wd22.cell? ⟨w.heap.size + 1 + 1, 3, none⟩ = some (.string ⟨#[]⟩) := R.out.cell 3
            have cR_4 : wd22.cell? ⟨w.heap.size + 1 + 1, 4, none⟩ = some (.int .i64 0) := R.out.cell 4
            have cR_5 : wd22.cell? ⟨w.heap.size + 1 + 1, 5, none⟩ = some (.slice none 0 0) := R.out.cell 5
            have cR_6 : wd22.cell? ⟨w.heap.size + 1 + 1, 6, none⟩ = some (.slice none 0 0) := R.out.cell 6
            have cR_7 : wd22.cell? ⟨w.heap.size + 1 + 1, 7, none⟩ = some (.slice none 0 0) := R.out.cell 7
            exact bodyPost_ret (v := .tuple #[.agg #[.int .i64 0, .bool false, .int .i64 0, .string ⟨#[]⟩, .int .i64 0, .slice none 0 0, .slice none 0 0, .slice none 0 0], .int .i64 0, .int .i64 4]) (by simp [results, Try.results27, go_sem, cR_0, cR_1, cR_2, cR_3, cR_4, cR_5, cR_6, cR_7]) rfl ((by show AtPost _ _ _ _; rw [Her.out]; exact ⟨rfl, hw⟩))
          · have Hst := Lib.hid hst
            clear hst
            go_upto_region 24 with fail
            have cV_6 : wc.cell? ⟨w.heap.size + 1, 6, none⟩ = some (.slice U2 u.items.length l2) := V.out.cell 6
            have hitj : (J : Int) < u.items.length := by omega
            have hitn : ((J : Nat) : Int) < u.items.length := by omega
            obtain ⟨bi, oi, hbi0, hbi, hei⟩ := (U.out.now).items.elem (by omega)
            obtain ⟨yk, yi, yr, hcy, hya⟩ := hei J hit
            clear hei
            generalize u.items[J] = y at *
            obtain ⟨Y1, e1, Y2, e2, Y3, e3, rfl, rfl, rfl, -, -, -⟩ := hya.forms
            obtain ⟨y0, y1, y2, y3, y4, y5, y6, y7⟩ := hcy
            try simp only [Nat.zero_mul, Nat.add_zero] at y0 y1 y2 y3 y4 y5 y6 y7
            have Y := Lib.hid (Kept.rd (P := fun w B => ValAt w B y (.slice Y1 y.keys.length e1) (.slice Y2 y.items.length e2) (.slice Y3 y.rest.length e3)) hya U.out.le (fun _ hk => hya.keep hk (Nat.le_refl _)))
            clear hya
            go_wp2_with (refine wpList_store_row rfl 28 _ _ rfl (w.heap.size + 1) _ rfl rfl 28 _ V.out (by kernel_rfl) rfl (by simp [Value.oneCell']) ?_)
            clear cV_6
            replace S := Lib.hid (has_row (cs' := #[.int .i64 y.kind, .bool y.bool, .int .i64 y.num, .string ⟨y.str.toArray⟩, .int .i64 y.id, .slice Y1 y.keys.length e1, .slice Y2 y.items.length e2, .slice Y3 y.rest.length e3]) S.out (show w.heap.size ≠ w.heap.size + 1 by omega))
            replace R := Lib.hid (has_row (cs' := #[.int .i64 y.kind, .bool y.bool, .int .i64 y.num, .string ⟨y.str.toArray⟩, .int .i64 y.id, .slice Y1 y.keys.length e1, .slice Y2 y.items.length e2, .slice Y3 y.rest.length e3]) R.out (show w.heap.size + 1 + 1 ≠ w.heap.size + 1 by omega))
            replace X := Lib.hid (has_row (cs' := #[.int .i64 y.kind, .bool y.bool, .int .i64 y.num, .string ⟨y.str.toArray⟩, .int .i64 y.id, .slice Y1 y.keys.length e1, .slice Y2 y.items.length e2, .slice Y3 y.rest.length e3]) X.out (show g8 ≠ w.heap.size + 1 by omega))
            replace V : Hid (Has (wc.setRow (w.heap.size + 1) #[.int .i64 y.kind, .bool y.bool, .int .i64 y.num, .string ⟨y.str.toArray⟩, .int .i64 y.id, .slice Y1 y.keys.length e1, .slice Y2 y.items.length e2, .slice Y3 y.rest.length e3]) (w.heap.size + 1) 28 #[.int .i64 y.kind, .bool y.bool, .int .i64 y.num, .string ⟨y.str.toArray⟩, .int .i64 y.id, .slice Y1 y.keys.length e1, .slice Y2 y.items.length e2, .slice Y3 y.rest.length e3]) := Lib.hid (row_has V.out _)
            replace U := Lib.hid (U.out.row (w.heap.size + 1) (show w.heap.size ≤ w.heap.size + 1 ∨ w.heap.size + 1 < 0 by omega) #[.int .i64 y.kind, .bool y.bool, .int .i64 y.num, .string ⟨y.str.toArray⟩, .int .i64 y.id, .slice Y1 y.keys.length e1, .slice Y2 y.items.length e2, .slice Y3 y.rest.length e3])
            replace XA := Lib.hid (XA.out.row (w.heap.size + 1) (show w.heap.size ≤ w.heap.size + 1 ∨ w.heap.size + 1 < 0 by omega) #[.int .i64 y.kind, .bool y.bool, .int .i64 y.num, .string ⟨y.str.toArray⟩, .int .i64 y.id, .slice Y1 y.keys.length e1, .slice Y2 y.items.length e2, .slice Y3 y.rest.length e3])
            replace Y := Lib.hid (Y.out.row (w.heap.size + 1) (show w.heap.size ≤ w.heap.size + 1 ∨ w.heap.size + 1 < 0 by omega) #[.int .i64 y.kind, .bool y.bool, .int .i64 y.num, .string ⟨y.str.toArray⟩, .int .i64 y.id, .slice Y1 y.keys.length e1, .slice Y2 y.items.length e2, .slice Y3 y.rest.length e3])
            replace hw := below_setRow hw (show w.heap.size ≤ w.heap.size + 1 by omega) #[.int .i64 y.kind, .bool y.bool, .int .i64 y.num, .string ⟨y.str.toArray⟩, .int .i64 y.id, .slice Y1 y.keys.length e1, .slice Y2 y.items.length e2, .slice Y3 y.rest.length e3]
            generalize wc.setRow (w.heap.size + 1) #[.int .i64 y.kind, .bool y.bool, .int .i64 y.num, .string ⟨y.str.toArray⟩, .int .i64 y.id, .slice Y1 y.keys.length e1, .slice Y2 y.items.length e2, .slice Y3 y.rest.length e3] = wd23 at *
            have hnew : AtRel w ts (some ⟨b, o, none⟩) c path v t 28 31 (k + 1) y nt wd23 :=
              { sch := S.out, res := R.out, blk := ⟨_, _, _, V.out, Y.out.now⟩
                fit := step_fit ts false u n x _ y nt hKx Hfit.out Hx.out Hst.out
                wtu := Nat.le_trans (step_wt x u _ y nt Hst.out) Hwt.out
                le := hlt
                at_ := by rw [Hat.out, Hdr.out, atV_cons ts _ _ u n x Hx.out, Hst.out]
                bel := hw }
            have Hnew := Lib.hid hnew
            clear hnew
            go_wp2_with fail
            go_roundw
            case rel => exact ⟨k + 1, y, nt, rfl, by go_num, Hnew.out⟩
            case measure => simp [intOf]; omega
      · have hend : Hid (atE ts path v t = .ok (u, (n : Int))) := by
          show _ = _
          rw [Hre.out, Hat.out, List.drop_eq_nil_of_le (by omega), atV]
        have HUA := Lib.hid (U.out.now.keep (B' := wr.heap.size) (fun _ _ => rfl) U.out.le)
        have cV_0 : wr.cell? ⟨w.heap.size + 1, 0, none⟩ = some (.int .i64 u.kind) := V.out.cell 0
        have cV_1 : wr.cell? ⟨w.heap.size + 1, 1, none⟩ = some (.bool u.bool) := V.out.cell 1
        have cV_2 : wr.cell? ⟨w.heap.size + 1, 2, none⟩ = some (.int .i64 u.num) := V.out.cell 2
        have cV_3 : wr.cell? ⟨w.heap.size + 1, 3, none⟩ = some (.string ⟨u.str.toArray⟩) := V.out.cell 3
        have cV_4 : wr.cell? ⟨w.heap.size + 1, 4, none⟩ = some (.int .i64 u.id) := V.out.cell 4
        have cV_5 : wr.cell? ⟨w.heap.size + 1, 5, none⟩ = some (.slice U1 u.keys.length l1) := V.out.cell 5
        have cV_6 : wr.cell? ⟨w.heap.size + 1, 6, none⟩ = some (.slice U2 u.items.length l2) := V.out.cell 6
        have cV_7 : wr.cell? ⟨w.heap.size + 1, 7, none⟩ = some (.slice U3 u.rest.length l3) := V.out.cell 7
        go_upto_region 25 with fail
        go_wp2_with (refine wpList_store_row rfl 28 _ _ rfl (w.heap.size + 1 + 1) _ rfl rfl 28 _ R.out (by kernel_rfl) rfl (by simp [Value.oneCell']) ?_)
        clear cV_0 cV_1 cV_2 cV_3 cV_4 cV_5 cV_6 cV_7
        replace S := Lib.hid (has_row (cs' := #[.int .i64 u.kind, .bool u.bool, .int .i64 u.num, .string ⟨u.str.toArray⟩, .int .i64 u.id, .slice U1 u.keys.length l1, .slice U2 u.items.length l2, .slice U3 u.rest.length l3]) S.out (show w.heap.size ≠ w.heap.size + 1 + 1 by omega))
        replace V := Lib.hid (has_row (cs' := #[.int .i64 u.kind, .bool u.bool, .int .i64 u.num, .string ⟨u.str.toArray⟩, .int .i64 u.id, .slice U1 u.keys.length l1, .slice U2 u.items.length l2, .slice U3 u.rest.length l3]) V.out (show w.heap.size + 1 ≠ w.heap.size + 1 + 1 by omega))
        replace R : Hid (Has (wr.setRow (w.heap.size + 1 + 1) #[.int .i64 u.kind, .bool u.bool, .int .i64 u.num, .string ⟨u.str.toArray⟩, .int .i64 u.id, .slice U1 u.keys.length l1, .slice U2 u.items.length l2, .slice U3 u.rest.length l3]) (w.heap.size + 1 + 1) 28 #[.int .i64 u.kind, .bool u.bool, .int .i64 u.num, .string ⟨u.str.toArray⟩, .int .i64 u.id, .slice U1 u.keys.length l1, .slice U2 u.items.length l2, .slice U3 u.rest.length l3]) := Lib.hid (row_has R.out _)
        replace U := Lib.hid (U.out.row (w.heap.size + 1 + 1) (show w.heap.size ≤ w.heap.size + 1 + 1 ∨ w.heap.size + 1 + 1 < 0 by omega) #[.int .i64 u.kind, .bool u.bool, .int .i64 u.num, .string ⟨u.str.toArray⟩, .int .i64 u.id, .slice U1 u.keys.length l1, .slice U2 u.items.length l2, .slice U3 u.rest.length l3])
        replace hw := below_setRow hw (show w.heap.size ≤ w.heap.size + 1 + 1 by omega) #[.int .i64 u.kind, .bool u.bool, .int .i64 u.num, .string ⟨u.str.toArray⟩, .int .i64 u.id, .slice U1 u.keys.length l1, .slice U2 u.items.length l2, .slice U3 u.rest.length l3]
        generalize wr.setRow (w.heap.size + 1 + 1) #[.int .i64 u.kind, .bool u.bool, .int .i64 u.num, .string ⟨u.str.toArray⟩, .int .i64 u.id, .slice U1 u.keys.length l1, .slice U2 u.items.length l2, .slice U3 u.rest.length l3] = wd24 at *
        have hua2 := Lib.hid (U.out.now.keep (B' := wd24.heap.size) (fun _ _ => rfl) U.out.le)
        have cR_0 : wd24.cell? ⟨w.heap.size + 1 + 1, 0, none⟩ = some (.int .i64 u.kind) := R.out.cell 0
        have cR_1 : wd24.cell? ⟨w.heap.size + 1 + 1, 1, none⟩ = some (.bool u.bool) := R.out.cell 1
        have cR_2 : wd24.cell? ⟨w.heap.size + 1 + 1, 2, none⟩ = some (.int .i64 u.num) := R.out.cell 2
        have cR_3 : wd24.cell? ⟨w.heap.size + 1 + 1, 3, none⟩ = some (.string ⟨u.str.toArray⟩) := R.out.cell 3
        have cR_4 : wd24.cell? ⟨w.heap.size + 1 + 1, 4, none⟩ = some (.int .i64 u.id) := R.out.cell 4
        have cR_5 : wd24.cell? ⟨w.heap.size + 1 + 1, 5, none⟩ = some (.slice U1 u.keys.length l1) := R.out.cell 5
        have cR_6 : wd24.cell? ⟨w.heap.size + 1 + 1, 6, none⟩ = some (.slice U2 u.items.length l2) := R.out.cell 6
        have cR_7 : wd24.cell? ⟨w.heap.size + 1 + 1, 7, none⟩ = some (.slice U3 u.rest.length l3) := R.out.cell 7
        exact bodyPost_ret (v := .tuple #[valA u (.slice U1 u.keys.length l1) (.slice U2 u.items.length l2) (.slice U3 u.rest.length l3), .int .i64 n, .int .i64 0]) (by simp [results, Try.results27, go_sem, cR_0, cR_1, cR_2, cR_3, cR_4, cR_5, cR_6, cR_7]) rfl ((by show AtPost _ _ _ _; rw [hend.out]; exact ⟨⟨_, _, _, rfl, hua2.out⟩, hw⟩))
end Go.Proofs.Ytjcoeolconelmaa

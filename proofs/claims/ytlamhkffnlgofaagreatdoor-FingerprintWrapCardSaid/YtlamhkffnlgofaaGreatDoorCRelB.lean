/- What canon.relation computes: the greatest relation of two schemas. No condition. -/
import Derived.Test.YtlamhkffnlgofaaGreatDoorCRel
set_option maxHeartbeats 8000000
namespace Go.Proofs.YtlamhkffnlgofaaGreatDoor
open Go.ChangeShapes Go.WideShapes Go.ChangeAt Go.RowKit
theorem info_bools : (Tryz.prog.info? 125).map (fun i => (i.zero, i.size, i.bytes)) = some (some (.slice none 0 0), 1, 24) := by kernel_rfl
theorem info_bool1 : (Tryz.prog.info? 4).map (fun i => (i.zero, i.size, i.bytes)) = some (some (.bool false), 1, 1) := by kernel_rfl
def alkRow (ts us : List Typ) (a : Nat) : List Bool := match ts[a]? with | some x => us.map (alikeB x) | none => []
theorem alkRow_len {ts us : List Typ} {a : Nat} (h : a < ts.length) : (alkRow ts us a).length = us.length := by unfold alkRow; rw [List.getElem?_eq_getElem h]; simp
def BuiltP (ts us : List Typ) (M : Tab) (i k : Nat) : Prop := M.length = ts.length ∧ ∀ (a : Nat) (h : a < M.length), M[a] = if a < i then alkRow ts us a else if a = i then (alkRow ts us a).take k else []
theorem BuiltP.start (ts us : List Typ) : BuiltP ts us (List.replicate ts.length []) 0 0 := by
 refine ⟨by simp, fun a h => ?_⟩
 rw [List.getElem_replicate, if_neg (by omega)]
 split <;> simp
theorem BuiltP.next {ts us : List Typ} {M : Tab} {i k : Nat} (h : BuiltP ts us M i k) (hi : i < ts.length) (hk : k < us.length) : ∃ h1 : i < M.length, M[i].length = k ∧ BuiltP ts us (M.set i (M[i] ++ [alikeB ts[i] us[k]])) i (k + 1) := by
 have h1 : i < M.length := by rw [h.1]; exact hi
 have hr := h.2 i h1
 rw [if_neg (by omega), if_pos rfl] at hr
 refine ⟨h1, by rw [hr, List.length_take, alkRow_len hi]; omega, by rw [List.length_set]; exact h.1, fun a ha => ?_⟩
 rw [List.length_set] at ha
 by_cases e : a = i
 ·
  subst e
  rw [List.getElem_set_self, if_neg (by omega), if_pos rfl, hr]
  have : (alkRow ts us a).take (k + 1) = (alkRow ts us a).take k ++ [(alkRow ts us a)[k]'(by rw [alkRow_len hi]; exact hk)] := List.take_succ_eq_append_getElem _
  rw [this]
  congr 2
  unfold alkRow
  simp [List.getElem?_eq_getElem hi]
 rw [List.getElem_set_ne (fun h => e h.symm), h.2 a ha]
 split <;> first | rfl | simp [e]
theorem BuiltP.row {ts us : List Typ} {M : Tab} {i : Nat} (h : BuiltP ts us M i us.length) : BuiltP ts us M (i + 1) 0 := by
 refine ⟨h.1, fun a ha => ?_⟩
 rw [h.2 a ha]
 by_cases e1 : a < i
 ·
  rw [if_pos e1, if_pos (by omega)]
 rw [if_neg e1]
 by_cases e2 : a = i
 ·
  subst e2
  rw [if_pos rfl, if_pos (by omega), List.take_of_length_le (by rw [alkRow_len (by rw [← h.1]; exact ha)]; exact Nat.le_refl _)]
 rw [if_neg e2, if_neg (by omega)]
 split <;> simp
theorem BuiltP.done {ts us : List Typ} {M : Tab} (h : BuiltP ts us M ts.length 0) : M.shape ts.length us.length ∧ Sound ts us M ∧ Marks ts us M := by
 have hrow : ∀ (a : Nat) (ha : a < M.length), M[a] = alkRow ts us a := fun a ha => by
  have := h.2 a ha
  rwa [if_pos (by rw [← h.1]; exact ha)] at this
 have hat : ∀ i k x y, ts[i]? = some x → us[k]? = some y → M.at_ i k = alikeB x y := by
  intro i k x y hx hy
  have hi := (List.getElem?_eq_some_iff.1 hx).1
  have hk := (List.getElem?_eq_some_iff.1 hy).1
  have hiM : i < M.length := by rw [h.1]; exact hi
  have e1 : M.getD i [] = alkRow ts us i := by rw [List.getD_eq_getElem?_getD, List.getElem?_eq_getElem hiM, Option.getD_some, hrow i hiM]
  unfold Tab.at_
  rw [e1]
  unfold alkRow
  rw [hx]
  simp [List.getD_eq_getElem?_getD, hy]
 refine ⟨⟨h.1, fun i hi => by rw [hrow i hi, alkRow_len (by rw [← h.1]; exact hi)]⟩, fun i k hb => ?_, fun i k hm => ?_⟩
 ·
  obtain ⟨x, y, hx, hy, ha, _⟩ := bis_closed ts us i k hb
  rw [hat i k x y hx hy]
  exact (alikeB_iff x y).2 ha
 have hi : i < M.length := by
  rcases Nat.lt_or_ge i M.length with h1 | h1
  ·
   exact h1
  unfold Tab.at_ at hm
  rw [show M.getD i [] = [] by simp [List.getD, List.getElem?_eq_none h1]] at hm
  simp [List.getD] at hm
 have hi2 : i < ts.length := by rw [← h.1]; exact hi
 have hk : k < us.length := by
  rcases Nat.lt_or_ge k us.length with h1 | h1
  ·
   exact h1
  unfold Tab.at_ at hm
  rw [show M.getD i [] = M[i] by simp [List.getD, hi], hrow i hi] at hm
  rw [List.getD_eq_getElem?_getD, List.getElem?_eq_none (by rw [alkRow_len hi2]; exact h1)] at hm
  cases hm
 refine ⟨ts[i], us[k], List.getElem?_eq_getElem hi2, List.getElem?_eq_getElem hk, ?_⟩
 rw [hat i k _ _ (List.getElem?_eq_getElem hi2) (List.getElem?_eq_getElem hk)] at hm
 exact (alikeB_iff _ _).1 hm
theorem usesC_len {x y : Typ} (h : Alike x y) : (usesC x).length = (usesC y).length := by
 have := h.outs
 unfold outs at this
 simpa using this
theorem usesC_few {x : Typ} (h : x.mems.length ≤ 1000) : (usesC x).length ≤ 1000000 := by
 unfold usesC
 rw [List.length_append, List.length_append, List.length_map]
 split <;> split <;> simp <;> omega
def RelPost (ts us : List Typ) (w : World) (e : Ending) (w' : World) : Prop := ∃ rb c M, e = .returned (.slice (some ⟨rb, 0, none⟩) ts.length c) ∧ TabAt w' w.heap.size (.slice (some ⟨rb, 0, none⟩) ts.length c) M ∧ M.shape ts.length us.length ∧ (∀ i k, M.at_ i k = bisB ts us i k) ∧ Below w.heap.size w w'
theorem TabAt.base {w : World} {L L' : Nat} {v : Value} {M : Tab} (h : TabAt w L v M) (hL : L' ≤ L) : TabAt w L' v M := by
 obtain ⟨us, h1, h2, h3⟩ := h
 exact ⟨us, own_base h1 hL, fun i hi => by obtain ⟨u, hu, h4⟩ := h2 i hi; exact ⟨u, hu, own_base h4 hL⟩, h3⟩
theorem TabAt.rowAt {w : World} {L n c rb : Nat} {M : Tab} {u : Value} (h : TabAt w L (.slice (some ⟨rb, 0, none⟩) n c) M) {i : Nat} (hi : i < M.length) (hc : w.cell? ⟨rb, i, none⟩ = some u) : RowAt w L (.slice (some ⟨rb, 0, none⟩) n c) M rb i M[i] u := by
 obtain ⟨u2, h2⟩ := h.row hi
 have h3 := h2.cell
 rw [hc] at h3
 injection h3 with h3
 subst h3; exact h2
theorem keptCellC {w : World} {g o : Nat} {u : Value} (h : w.cell? ⟨g, o, none⟩ = some u) : Kept (fun w => w.cell? ⟨g, o, none⟩ = some u) w g (g + 1) := by
 refine ⟨h, fun _ hk => (World.cell?_of_block (hk g (Nat.le_refl _) (by omega))).trans h, ?_⟩
 exact World.block_lt_of_cell? _ _ h
theorem TypAt.up {w : World} {B : Nat} {x : Typ} {vs vm : Value} (h : TypAt w B x vs vm) (hB : B ≤ w.heap.size) : TypAt w w.heap.size x vs vm := h.keep (fun _ _ => rfl) hB
def SwInv (ts us : List Typ) (M : Tab) : Prop := M.shape ts.length us.length ∧ Sound ts us M ∧ Marks ts us M
structure RelHeap (w wr : World) (A A' : Option Addr) (n m c c' gR rb : Nat) (M : Tab) : Prop where
 sa : Has wr w.heap.size 25 #[.slice A n c]
 sb : Has wr (w.heap.size + 1) 25 #[.slice A' m c']
 r : Has wr gR 126 #[.slice (some ⟨rb, 0, none⟩) n n]
 t : TabAt wr (w.heap.size + 2) (.slice (some ⟨rb, 0, none⟩) n n) M
 b : Below w.heap.size w wr
set_option maxRecDepth 100000 in
theorem relation_any (ts us : List Typ) (A A' : Option Addr) (c c' : Nat) (w : World) (hn : ts.length ≤ 1000) (hm : us.length ≤ 1000) (hml : ∀ x ∈ ts, x.mems.length ≤ 1000) (hml' : ∀ x ∈ us, x.mems.length ≤ 1000) (hiu : InU ts) (hiu' : InU us)
  (ht : RdTyps w w.heap.size (.slice A ts.length c) ts) (hu : RdTyps w w.heap.size (.slice A' us.length c') us) :
  Calls Tryz.prog 100 #[.agg #[.slice A ts.length c], .agg #[.slice A' us.length c'], .bool false] w (RelPost ts us w) := by
 have HT := Lib.hid ht
 have HU := Lib.hid hu
 have HM1 := Lib.hid hml
 have HM2 := Lib.hid hml'
 have HI1 := Lib.hid hiu
 have HI2 := Lib.hid hiu'
 clear ht hu hml hml' hiu hiu'
 go_enter Tryz.func100, Tryz.ntmps100
 go_upto_region 1 with fail
 refine am2 (fun wd2 hb1 SA SB => ?_)
 have hw3 := hb1
 clear hb1
 have cSA_0 := SA.out.e0
 obtain ⟨i0, hi, hz0, hz1, hz2⟩ := info_parts info_bools
 have hLb : w.heap.size + 2 ≤ wd2.heap.size := SB.out.here
 go_upto_region 2 with (refine wpList_make_full wd2 rfl _ _ 126 rfl (w.heap.size + 2) 125 i0 (.slice none 0 0) 1 Tryz.underlying126 hi hz0 hz1 .i64 .i64 _ _ ts.length rfl rfl rfl rfl (by rw [hz2]; omega) (by simp only [maxLen]; omega) hLb ?_; intro w3 hown3 hg3)
 rw [made_one _ _ rfl] at hown3
 have htab := TabAt.new hown3
 have hb3 : Below wd2.heap.size wd2 w3 := (Below.refl _ wd2).grown hg3 (Nat.le_refl _) (fun k hk => by cases hk)
 obtain ⟨rb, hrb⟩ : ∃ g, g = wd2.heap.size := ⟨_, rfl⟩
 rw [← hrb] at htab hLb
 rw [← hrb]
 clear hown3 hg3 hi hz0 hz1 hz2 hrb
 clear cSA_0
 obtain ⟨SA, SB⟩ := b2 SA SB hb3
 replace hw3 := dT hw3 hb3
 have TB := Lib.hid (Kept.tab htab)
 clear htab hb3
 refine am1 (fun wd5 hb4 R => ?_)
 have hl7 := SA.out.here
 have hl8 := SB.out.here
 have hl9 := TB.out.le
 have hl10 := hw3.size
 obtain ⟨SA, SB, TB⟩ := b3 SA SB TB hb4
 replace hw3 := dT hw3 hb4
 clear hb4
 generalize w3.heap.size = g6 at *
 obtain ⟨gR, rfl⟩ : ∃ g, g = g6 := ⟨_, rfl⟩
 have hRH0 : RelHeap w wd5 A A' ts.length us.length c c' gR rb _ := ⟨SA.out, SB.out, R.out, TB.out.now, hw3⟩
 have cSA_0 := SA.out.e0
 go_upto_region 3 with fail
 go_loopw [24] (fun s24 wr => ∃ i : Nat, i ≤ ts.length ∧ s24 = .int .i64 i ∧ ∃ M, BuiltP ts us M i 0 ∧ RelHeap w wr A A' ts.length us.length c c' gR rb M) (fun s24 _ => ts.length - (intOf s24).toNat)
 case atStart => exact ⟨0, by omega, rfl, _, BuiltP.start ts us, hRH0⟩
 case round =>
  clear SA SB R TB hRH0
  obtain ⟨i, hi, rfl, M, hM, hRH⟩ := hrel
  have hb0 := hRH.b
  have SA := hRH.sa
  have SB := hRH.sb
  have R := hRH.r
  have hTA := hRH.t
  replace SA := Lib.hid SA
  replace SB := Lib.hid SB
  replace R := Lib.hid R
  have TB := Lib.hid (Kept.tab hTA)
  clear hTA
  clear hRH
  have HBM := Lib.hid hM
  clear hM
  by_cases hlt : i < ts.length
  ·
   have hi1 : (i : Int) < ts.length := by omega
   obtain ⟨b, o, hAe, hbb, hel⟩ := HT.out.elem (by omega)
   obtain ⟨vs, vm, hcs, hxa⟩ := hel i hlt
   replace hcs := hcs.below hb0 hbb
   replace hxa := hxa.keep (w' := wr) (fun p hp => (hb0).cell hp) (Nat.le_refl _)
   obtain ⟨x, hxe⟩ : ∃ x, x = ts[i] := ⟨_, rfl⟩
   rw [← hxe] at hcs hxa
   obtain ⟨C1, l1, C2, l2, rfl, rfl, -, -⟩ := hxa.forms
   obtain ⟨x0, x1, x2, x3, x4, x5, x6, x7, x8, x9⟩ := hcs
   have hlx : i < ts.length := hlt
   have HX := Lib.hid (Kept.rd (P := fun w B => TypAt w B x (.slice C1 x.syms.length l1) (.slice C2 x.mems.length l2)) hxa (hb0).size (fun _ hk => hxa.keep hk (Nat.le_refl _)))
   have hxi : ts[i]? = some x := by rw [hxe]; exact List.getElem?_eq_getElem hlt
   have HXI := Lib.hid hxi
   clear hel hxa hxe hxi
   subst hAe
   have cSA_0 := SA.out.e0
   go_upto_region 5 with fail
   clear cSA_0
   refine am1 (fun wd12 hb11 X => ?_)
   have hl14 := SA.out.here
   have hl15 := SB.out.here
   have hl16 := R.out.here
   have hl17 := TB.out.le
   have hl18 := HX.out.le
   have hl19 := hb0.size
   obtain ⟨SA, SB, R, TB, HX⟩ := b5 SA SB R TB HX hb11
   replace hb0 := dT hb0 hb11
   clear hb11
   generalize wr.heap.size = g13 at *
   clear x0 x1 x2 x3 x4 x5 x6 x7 x8 x9
   obtain ⟨gX, rfl⟩ : ∃ g, g = g13 := ⟨_, rfl⟩
   have hX0 := X.out
   have hRH1 : RelHeap w wd12 (some ⟨b, o, none⟩) A' ts.length us.length c c' gR rb M := ⟨SA.out, SB.out, R.out, TB.out.now, hb0⟩
   have hHX0 := HX.out
   have cSB_0 := SB.out.e0
   go_upto_region 6 with fail
   clear cSB_0
   go_loopw [32] (fun s32 wr2 => ∃ k : Nat, k ≤ us.length ∧ s32 = .int .i64 k ∧ ∃ M, BuiltP ts us M i k ∧ Has wr2 gX 71 #[.int .i64 x.kind, .string ⟨x.name.toArray⟩, .int .i64 x.low, .int .i64 x.high, .int .i64 x.max, .slice C1 x.syms.length l1, .slice C2 x.mems.length l2, .int .i64 x.key, .int .i64 x.elem, .bool x.opn] ∧ Kept (fun w' => TypAt w' w.heap.size x (.slice C1 x.syms.length l1) (.slice C2 x.mems.length l2)) wr2 0 w.heap.size ∧ RelHeap w wr2 (some ⟨b, o, none⟩) A' ts.length us.length c c' gR rb M) (fun s32 _ => us.length - (intOf s32).toNat)
   case atStart => exact ⟨0, by omega, rfl, M, HBM.out, hX0, hHX0, hRH1⟩
   case round =>
    clear SA SB R TB X HX hRH1 hX0 hHX0 HBM hb0
    obtain ⟨k, hk, rfl, M, hM, X, hHX, hRH⟩ := hrel
    have hb0 := hRH.b
    have SA := hRH.sa
    have SB := hRH.sb
    have R := hRH.r
    have hTA := hRH.t
    replace SA := Lib.hid SA
    replace SB := Lib.hid SB
    replace R := Lib.hid R
    have TB := Lib.hid (Kept.tab hTA)
    clear hTA
    clear hRH
    have HBM := Lib.hid hM
    have HX := Lib.hid (hHX)
    clear hM hHX
    replace X := Lib.hid X
    by_cases hltk : k < us.length
    ·
     have hi2 : (k : Int) < us.length := by omega
     obtain ⟨ba2, oa2, hAe, hbb, hel⟩ := HU.out.elem (by omega)
     obtain ⟨vs, vm, hcs, hxa⟩ := hel k hltk
     replace hcs := hcs.below hb0 hbb
     replace hxa := hxa.keep (w' := wr) (fun p hp => (hb0).cell hp) (Nat.le_refl _)
     obtain ⟨y, hye⟩ : ∃ x, x = us[k] := ⟨_, rfl⟩
     rw [← hye] at hcs hxa
     obtain ⟨D1, m1, D2, m2, rfl, rfl, -, -⟩ := hxa.forms
     obtain ⟨y0, y1, y2, y3, y4, y5, y6, y7, y8, y9⟩ := hcs
     have HY := Lib.hid (Kept.rd (P := fun w B => TypAt w B y (.slice D1 y.syms.length m1) (.slice D2 y.mems.length m2)) hxa (hb0).size (fun _ hk => hxa.keep hk (Nat.le_refl _)))
     obtain ⟨hiM, hri, hbn⟩ := HBM.out.next hlx hltk
     rw [← hye, show ts[i] = x from Option.some.inj ((List.getElem?_eq_getElem hlx).symm.trans HXI.out)] at hbn
     have HBN := Lib.hid hbn
     clear hel hxa hye hbn
     subst hAe
     have cSB_0 := SB.out.e0
     go_upto_region 8 with fail
     clear cSB_0
     refine am1 (fun wd21 hb20 Y => ?_)
     have hl23 := SA.out.here
     have hl24 := SB.out.here
     have hl25 := R.out.here
     have hl26 := X.out.here
     have hl27 := TB.out.le
     have hl28 := HX.out.le
     have hl29 := HY.out.le
     have hl30 := hb0.size
     obtain ⟨SA, SB, R, X, TB, HX, HY⟩ := b7 SA SB R X TB HX HY hb20
     replace hb0 := dT hb0 hb20
     clear hb20
     generalize wr.heap.size = g22 at *
     clear y0 y1 y2 y3 y4 y5 y6 y7 y8 y9
     obtain ⟨gY, rfl⟩ : ∃ g, g = g22 := ⟨_, rfl⟩
     obtain ⟨u, hrow⟩ := TB.out.now.row hiM
     obtain ⟨Au, cu, rfl⟩ := hrow.form
     rw [hri] at hrow
     have KC := Lib.hid (keptCellC hrow.cell)
     have hi3 : (i : Int) < ts.length := by omega
     have hd0 : decide ((i : Int) < 0) = false := by simp
     have hd1 : decide (ts.length ≤ i) = false := by simpa using hlx
     clear hrow
     have cR_0 := R.out.e0
     obtain ⟨cX_0, cX_1, cX_2, cX_3, cX_4, cX_5, cX_6, cX_7, cX_8, cX_9⟩ := X.out.c10
     obtain ⟨cY_0, cY_1, cY_2, cY_3, cY_4, cY_5, cY_6, cY_7, cY_8, cY_9⟩ := Y.out.c10
     refine wp_region_T (S := (fun w' => w'.cell? ⟨gR, 0, none⟩ = some (.slice (some ⟨rb, 0, none⟩) ts.length ts.length) ∧ w'.cell? ⟨gX, 0, none⟩ = some (.int .i64 x.kind) ∧ w'.cell? ⟨gX, 1, none⟩ = some (.string ⟨x.name.toArray⟩) ∧ w'.cell? ⟨gX, 2, none⟩ = some (.int .i64 x.low) ∧ w'.cell? ⟨gX, 3, none⟩ = some (.int .i64 x.high) ∧ w'.cell? ⟨gX, 4, none⟩ = some (.int .i64 x.max) ∧ w'.cell? ⟨gX, 5, none⟩ = some (.slice C1 x.syms.length l1) ∧ w'.cell? ⟨gX, 6, none⟩ = some (.slice C2 x.mems.length l2) ∧ w'.cell? ⟨gX, 7, none⟩ = some (.int .i64 x.key) ∧ w'.cell? ⟨gX, 8, none⟩ = some (.int .i64 x.elem) ∧ w'.cell? ⟨gX, 9, none⟩ = some (.bool x.opn) ∧ w'.cell? ⟨gY, 0, none⟩ = some (.int .i64 y.kind) ∧ w'.cell? ⟨gY, 1, none⟩ = some (.string ⟨y.name.toArray⟩) ∧ w'.cell? ⟨gY, 2, none⟩ = some (.int .i64 y.low) ∧ w'.cell? ⟨gY, 3, none⟩ = some (.int .i64 y.high) ∧ w'.cell? ⟨gY, 4, none⟩ = some (.int .i64 y.max) ∧ w'.cell? ⟨gY, 5, none⟩ = some (.slice D1 y.syms.length m1) ∧ w'.cell? ⟨gY, 6, none⟩ = some (.slice D2 y.mems.length m2) ∧ w'.cell? ⟨gY, 7, none⟩ = some (.int .i64 y.key) ∧ w'.cell? ⟨gY, 8, none⟩ = some (.int .i64 y.elem) ∧ w'.cell? ⟨gY, 9, none⟩ = some (.bool y.opn) ∧ (w'.cell? ⟨rb, i, none⟩ = some (.slice Au k cu)))) (fun j => j == 13) (by kernel_rfl) ⟨cR_0, cX_0, cX_1, cX_2, cX_3, cX_4, cX_5, cX_6, cX_7, cX_8, cX_9, cY_0, cY_1, cY_2, cY_3, cY_4, cY_5, cY_6, cY_7, cY_8, cY_9, (KC.out.now)⟩ (fun hHeld => ?_)
     clear cR_0 cX_0 cX_1 cX_2 cX_3 cX_4 cX_5 cX_6 cX_7 cX_8 cX_9 cY_0 cY_1 cY_2 cY_3 cY_4 cY_5 cY_6 cY_7 cY_8 cY_9
     have hb31 : Below wd21.heap.size wd21 (wd21.drew) := (Below.refl _ _).drew
     obtain ⟨SA, SB, R, X, Y, TB, HX, HY, KC⟩ := b9 SA SB R X Y TB HX HY KC hb31
     replace hb0 := dT hb0 hb31
     clear hb31
     generalize wd21.drew = wd32 at *
     refine tkT 0 ?_
     refine tkT 1 ?_
     refine tkT 2 ?_
     refine tkT 3 ?_
     refine tkT 4 ?_
     refine tkT 5 ?_
     refine tkT 6 ?_
     refine tkT 7 ?_
     refine tkT 8 ?_
     refine rdT1 9 fun K hK => ?_
     go_simp
     ((with_reducible refine (alike_any x y _ _ _ _ _ (HX.out.now.up HX.out.le) (HY.out.now.up HY.out.le)).mono ?_); rintro e wd33 ⟨rfl, hb34⟩)
     obtain ⟨SA, SB, R, X, Y, TB, HX, HY, KC⟩ := b9 SA SB R X Y TB HX HY KC hb34
     replace hb0 := dT hb0 hb34
     clear hb34
     try clear hHeld
     refine hK.out _ _ (⟨R.out.cell 0, ⟨X.out.cell 0, ⟨X.out.cell 1, ⟨X.out.cell 2, ⟨X.out.cell 3, ⟨X.out.cell 4, ⟨X.out.cell 5, ⟨X.out.cell 6, ⟨X.out.cell 7, ⟨X.out.cell 8, ⟨X.out.cell 9, ⟨Y.out.cell 0, ⟨Y.out.cell 1, ⟨Y.out.cell 2, ⟨Y.out.cell 3, ⟨Y.out.cell 4, ⟨Y.out.cell 5, ⟨Y.out.cell 6, ⟨Y.out.cell 7, ⟨Y.out.cell 8, ⟨Y.out.cell 9, (KC.out.now)⟩⟩⟩⟩⟩⟩⟩⟩⟩⟩⟩⟩⟩⟩⟩⟩⟩⟩⟩⟩⟩) (fun hHeld => ?_)
     clear hK K
     refine rdT1 10 fun K hK => ?_
     go_simp
     refine am1 (fun wd36 hb35 N => ?_)
     have hl38 := SA.out.here
     have hl39 := SB.out.here
     have hl40 := R.out.here
     have hl41 := X.out.here
     have hl42 := Y.out.here
     have hl43 := TB.out.le
     have hl44 := HX.out.le
     have hl45 := HY.out.le
     have hl46 := KC.out.le
     have hl47 := hb0.size
     obtain ⟨SA, SB, R, X, Y, TB, HX, HY, KC⟩ := b9 SA SB R X Y TB HX HY KC hb35
     replace hb0 := dT hb0 hb35
     clear hb35
     generalize wd33.heap.size = g37 at *
     try clear hHeld
     refine hK.out _ _ (⟨R.out.cell 0, ⟨X.out.cell 0, ⟨X.out.cell 1, ⟨X.out.cell 2, ⟨X.out.cell 3, ⟨X.out.cell 4, ⟨X.out.cell 5, ⟨X.out.cell 6, ⟨X.out.cell 7, ⟨X.out.cell 8, ⟨X.out.cell 9, ⟨Y.out.cell 0, ⟨Y.out.cell 1, ⟨Y.out.cell 2, ⟨Y.out.cell 3, ⟨Y.out.cell 4, ⟨Y.out.cell 5, ⟨Y.out.cell 6, ⟨Y.out.cell 7, ⟨Y.out.cell 8, ⟨Y.out.cell 9, (KC.out.now)⟩⟩⟩⟩⟩⟩⟩⟩⟩⟩⟩⟩⟩⟩⟩⟩⟩⟩⟩⟩⟩) (fun hHeld => ?_)
     clear hK K
     refine rdT1 11 fun K hK => ?_
     have hrow := TB.out.now.rowAt hiM KC.out.now
     have hown := hrow.own
     rw [hri] at hown
     have hrb := TB.out.le
     obtain ⟨i0, hif, hz0, hz1, hz2⟩ := info_parts info_bool1
     have hsep : ∀ q, (Value.slice Au k cu).ownBlock = some q → w.heap.size + 2 ≤ q ∧ q ≠ gR ∧ q ≠ gX ∧ q ≠ gY ∧ q ≠ rb ∧ q < wd36.heap.size := fun q hq =>
      ⟨(hown.lt q hq).1, fun e => own_hasne hown R.out (by decide) hq e.symm, fun e => own_hasne hown X.out (by decide) hq e.symm, fun e => own_hasne hown Y.out (by decide) hq e.symm, fun e => hrow.ne q hq e.symm, (hown.lt q hq).2⟩
     have hrbs := KC.out.le
     refine step_append_lies (P := Tryz.prog) wd36 (by rfl) _ _ _ (by rfl) (w.heap.size + 2) 4 i0 _ 1 1 Tryz.underlying125 hif hz0 hz1 hz2 rfl (by decide) (.slice Au k cu) k _ rfl hown ⟨g37, 0, none⟩ 1 1 [.bool (alikeB x y)] rfl rfl (World.news_of_block N.out) (by simp [Value.oneCell']) (by omega) (by simp only [maxLen]; omega) (by omega) (by omega) wd36.heap.size rfl ?_
     intro g cap w1 hown1 hgr hat _
     have hk4 : ∀ q, q < wd36.heap.size → (Value.slice Au k cu).ownBlock ≠ some q → w1.heap[q]? = wd36.heap[q]? := fun q h1 h2 => hgr.block q h1 (fun e => h2 e.symm)
     have hb4 : Below (w.heap.size + 2) wd36 w1 := (Below.refl _ wd36).grown hgr (by omega) (fun q hq => (hown.lt q hq).1)
     have hput := hrow.put w1 (.slice (some ⟨g, 0, none⟩) (k + 1) cap) (M[i] ++ [alikeB x y]) (by rw [List.length_append, hri]; unfold bV; rw [List.map_append]; exact hown1) hb4.size (fun q _ h1 h2 => hk4 q h1 h2) (fun q hq => by
      simp only [Value.ownBlock, Option.some.injEq] at hq
      subst hq
      rcases hat with h | h
      ·
       exact .inl h
      exact .inr (by omega))
     have hcell2 : w1.cell? ⟨rb, i, none⟩ = some (.slice Au k cu) := (World.cell?_of_block (hk4 rb (by omega) (fun e => hrow.ne rb e rfl))).trans hrow.cell
     have hfree2 : w1.frozen? ⟨rb, i, none⟩ = false := (World.frozen?_of_block (hk4 rb (by omega) (fun e => hrow.ne rb e rfl))).trans hrow.free
     have hsep2 : ∀ q, (Value.slice Au k cu).ownBlock = some q → w.heap.size + 2 ≤ q ∧ q ≠ gR ∧ q ≠ gX ∧ q ≠ gY ∧ q ≠ rb := fun q hq => by have := hsep q hq; omega
     have hRr : gR ≠ rb := fun e => by
      obtain ⟨us0, hu0, _⟩ := TB.out.now
      exact own_hasne hu0 R.out (by decide) rfl e
     have hXr : gX ≠ rb := fun e => by
      obtain ⟨us0, hu0, _⟩ := TB.out.now
      exact own_hasne hu0 X.out (by decide) rfl e
     have hYr : gY ≠ rb := fun e => by
      obtain ⟨us0, hu0, _⟩ := TB.out.now
      exact own_hasne hu0 Y.out (by decide) rfl e
     have hrL : w.heap.size + 2 ≤ rb := by
      obtain ⟨us0, hu0, _⟩ := TB.out.now
      exact (hu0.lt rb rfl).1
     clear hown hown1 hgr hat hrow hsep
     clear N
     clear HY
     clear TB
     clear KC
     replace SA := dG SA hk4 (fun hh => by have := hsep2 _ hh; omega)
     replace SB := dG SB hk4 (fun hh => by have := hsep2 _ hh; omega)
     replace R := dG R hk4 (fun hh => by have := hsep2 _ hh; omega)
     replace X := dG X hk4 (fun hh => by have := hsep2 _ hh; omega)
     replace Y := dG Y hk4 (fun hh => by have := hsep2 _ hh; omega)
     replace HX := Lib.hid (HX.out.from0 hb4 (show w.heap.size ≤ w.heap.size + 2 by omega))
     replace hb0 := hb0.trans (hb4.mono (show w.heap.size ≤ w.heap.size + 2 by omega))
     clear hk4 hb4 hsep2
     have KC := Lib.hid (keptCellC hcell2)
     try clear hHeld
     refine hK.out _ _ (⟨R.out.cell 0, ⟨X.out.cell 0, ⟨X.out.cell 1, ⟨X.out.cell 2, ⟨X.out.cell 3, ⟨X.out.cell 4, ⟨X.out.cell 5, ⟨X.out.cell 6, ⟨X.out.cell 7, ⟨X.out.cell 8, ⟨X.out.cell 9, ⟨Y.out.cell 0, ⟨Y.out.cell 1, ⟨Y.out.cell 2, ⟨Y.out.cell 3, ⟨Y.out.cell 4, ⟨Y.out.cell 5, ⟨Y.out.cell 6, ⟨Y.out.cell 7, ⟨Y.out.cell 8, ⟨Y.out.cell 9, (KC.out.now)⟩⟩⟩⟩⟩⟩⟩⟩⟩⟩⟩⟩⟩⟩⟩⟩⟩⟩⟩⟩⟩) (fun hHeld => ?_)
     clear hK K
     refine tkT 12 ?_
     refine rdTL 13 fun K hK => ?_
     go_simp
     clear KC
     generalize HEX : w1.setCell ⟨rb, i, none⟩ (.slice (some ⟨g, 0, none⟩) (k + 1) cap) = wd48
     obtain ⟨SA, SB, R, X, Y, HX⟩ := f6 SA SB R X Y HX (eF HEX)
     replace hb0 := tf hb0 HEX
     rw [HEX] at hput
     clear HEX
     try clear hHeld
     refine hK.out _ _ ?_
     clear hK K
     refine wpAnyT_done (by kernel_rfl) ?_ _
     try clear hHeld
     clear hcell2 hfree2
     clear Y
     have HPUT := Lib.hid hput
     clear hput
     go_wp2_with fail
     go_roundw
     case rel => exact ⟨k + 1, by omega, by go_num, _, HBN.out, X.out, HX.out, ⟨SA.out, SB.out, R.out, HPUT.out, hb0⟩⟩
     case measure => simp [intOf]; omega
    obtain rfl : k = us.length := by omega
    have hbn := HBM.out.row
    have HBN := Lib.hid hbn
    clear hbn HBM
    have cSB_0 := SB.out.e0
    go_wp2_with fail
    clear cSB_0
    go_roundw
    case rel => exact ⟨i + 1, by omega, by go_num, _, HBN.out, ⟨SA.out, SB.out, R.out, TB.out.now, hb0⟩⟩
    case measure => simp [intOf]; omega
  obtain rfl : i = ts.length := by omega
  have hbn := HBM.out.done
  have HBN := Lib.hid hbn
  clear hbn HBM
  have cSA_0 := SA.out.e0
  go_upto_region 12 with fail
  clear cSA_0
  have hRH2 : RelHeap w wr A A' ts.length us.length c c' gR rb M := ⟨SA.out, SB.out, R.out, TB.out.now, hb0⟩
  go_loopg [12] (2 * M.cnt + 1) (fun gk s12 wr => ∃ (ch : Bool) (M : Tab), s12 = .bool ch ∧ gk = 2 * M.cnt + (if ch then 1 else 0) ∧ SwInv ts us M ∧ (ch = false → Swept ts us M ts.length 0) ∧ RelHeap w wr A A' ts.length us.length c c' gR rb M)
  case atStart => exact ⟨true, M, rfl, rfl, HBN.out, fun h => (by cases h), hRH2⟩
  case round =>
   clear hRH2 HBN SA SB R TB hb0
   obtain ⟨ch, M, rfl, hgk, hinv, hswp, hRH⟩ := hrel
   cases ch with
   | false =>
    have hb0 := hRH.b
    have SA := hRH.sa
    have SB := hRH.sb
    have R := hRH.r
    have hTA := hRH.t
    replace SA := Lib.hid SA
    replace SB := Lib.hid SB
    replace R := Lib.hid R
    have TB := Lib.hid (Kept.tab hTA)
    clear hTA
    have hfin := bis_tabB hinv.2.1 hinv.2.2 (hswp rfl)
    have HFI := Lib.hid hfin
    have HSH := Lib.hid hinv.1
    clear hfin hinv hswp hgk
    have cR_0 := R.out.e0
    go_wp2_with fail
    go_ret
    exact ⟨rb, _, M, rfl, hRH.t.base (by omega), HSH.out, HFI.out, hb0⟩
   | true =>
    have HGK := Lib.hid hgk
    have HI0 := Lib.hid hinv
    clear hswp hgk hinv
    have cSA := hRH.sa.e0
    go_wp2_with fail
    clear cSA
    have hRH0 := hRH
    have HI1 := Lib.hid HI0.out
    go_loopw [12, 55] (fun s12 s55 wr2 => ∃ (i : Nat) (b : Bool) (M' : Tab), i ≤ ts.length ∧ s55 = .int .i64 i ∧ s12 = .bool b ∧ SwInv ts us M' ∧ M'.cnt ≤ M.cnt ∧ (b = true → M'.cnt + 1 ≤ M.cnt) ∧ (b = false → Swept ts us M' i 0) ∧ RelHeap w wr2 A A' ts.length us.length c c' gR rb M') (fun _ s55 _ => ts.length - (intOf s55).toNat)
    case atStart => exact ⟨0, false, M, by omega, rfl, rfl, HI1.out, Nat.le_refl _, fun h => (by cases h), fun _ a b x y hab => (by omega), hRH0⟩
    case round =>
     clear hRH hRH0 HI1
     obtain ⟨i, bb, M1, hi, rfl, rfl, hin1, hc1, hc2, hsw1, hRH⟩ := hrel
     have hb0 := hRH.b
     have SA := hRH.sa
     have SB := hRH.sb
     have R := hRH.r
     have hTA := hRH.t
     replace SA := Lib.hid SA
     replace SB := Lib.hid SB
     replace R := Lib.hid R
     have TB := Lib.hid (Kept.tab hTA)
     clear hTA
     clear hRH
     have HIN := Lib.hid hin1
     have HC2 := Lib.hid hc2
     have HSW := Lib.hid hsw1
     clear hin1 hc2 hsw1
     by_cases hlt : i < ts.length
     ·
      have hi1 : (i : Int) < ts.length := by omega
      have hlx : i < ts.length := hlt
      obtain ⟨b, o, hAe, hbb, hel⟩ := HT.out.elem (by omega)
      obtain ⟨vs, vm, hcs, hxa⟩ := hel i hlt
      replace hcs := hcs.below hb0 hbb
      replace hxa := hxa.keep (w' := wr) (fun p hp => (hb0).cell hp) (Nat.le_refl _)
      obtain ⟨x, hxe⟩ : ∃ x, x = ts[i] := ⟨_, rfl⟩
      rw [← hxe] at hcs hxa
      obtain ⟨C1, l1, C2, l2, rfl, rfl, -, -⟩ := hxa.forms
      obtain ⟨x0, x1, x2, x3, x4, x5, x6, x7, x8, x9⟩ := hcs
      have HX := Lib.hid (Kept.rd (P := fun w B => TypAt w B x (.slice C1 x.syms.length l1) (.slice C2 x.mems.length l2)) hxa (hb0).size (fun _ hk => hxa.keep hk (Nat.le_refl _)))
      have hxi : ts[i]? = some x := by rw [hxe]; exact List.getElem?_eq_getElem hlt
      have HXI := Lib.hid hxi
      clear hel hxa hxe hxi
      subst hAe
      have cSA_0 := SA.out.e0
      go_upto_region 17 with fail
      clear cSA_0
      refine am1 (fun wd12 hb11 X => ?_)
      have hl14 := SA.out.here
      have hl15 := SB.out.here
      have hl16 := R.out.here
      have hl17 := TB.out.le
      have hl18 := HX.out.le
      have hl19 := hb0.size
      obtain ⟨SA, SB, R, TB, HX⟩ := b5 SA SB R TB HX hb11
      replace hb0 := dT hb0 hb11
      clear hb11
      generalize wr.heap.size = g13 at *
      clear x0 x1 x2 x3 x4 x5 x6 x7 x8 x9
      obtain ⟨gX, rfl⟩ : ∃ g, g = g13 := ⟨_, rfl⟩
      have hX0 := X.out
      have hRH1 : RelHeap w wd12 (some ⟨b, o, none⟩) A' ts.length us.length c c' gR rb M1 := ⟨SA.out, SB.out, R.out, TB.out.now, hb0⟩
      have hHX0 := HX.out
      have cSB_0 := SB.out.e0
      go_upto_region 18 with fail
      clear cSB_0
      have HSW0 := Lib.hid (fun h => HSW.out h)
      go_loopw [12, 63] (fun s12 s63 wr2 => ∃ (k : Nat) (b0 : Bool) (M' : Tab), k ≤ us.length ∧ s63 = .int .i64 k ∧ s12 = .bool b0 ∧ SwInv ts us M' ∧ M'.cnt ≤ M.cnt ∧ (b0 = true → M'.cnt + 1 ≤ M.cnt) ∧ (b0 = false → Swept ts us M' i k) ∧ Has wr2 gX 71 #[.int .i64 x.kind, .string ⟨x.name.toArray⟩, .int .i64 x.low, .int .i64 x.high, .int .i64 x.max, .slice C1 x.syms.length l1, .slice C2 x.mems.length l2, .int .i64 x.key, .int .i64 x.elem, .bool x.opn] ∧ Kept (fun w' => TypAt w' w.heap.size x (.slice C1 x.syms.length l1) (.slice C2 x.mems.length l2)) wr2 0 w.heap.size ∧ RelHeap w wr2 (some ⟨b, o, none⟩) A' ts.length us.length c c' gR rb M') (fun _ s63 _ => us.length - (intOf s63).toNat)
      case atStart => exact ⟨0, bb, M1, by omega, rfl, rfl, HIN.out, hc1, HC2.out, HSW0.out, hX0, hHX0, hRH1⟩
      case round =>
       clear SA SB R TB X HX hRH1 hX0 hHX0 hb0 HIN HC2 HSW HSW0 hc1
       obtain ⟨k, bb, M2, hk, rfl, rfl, hin2, hc1, hc2, hsw2, X, hHX, hRH⟩ := hrel
       have hb0 := hRH.b
       have SA := hRH.sa
       have SB := hRH.sb
       have R := hRH.r
       have hTA := hRH.t
       replace SA := Lib.hid SA
       replace SB := Lib.hid SB
       replace R := Lib.hid R
       have TB := Lib.hid (Kept.tab hTA)
       clear hTA
       clear hRH
       have HX := Lib.hid (hHX)
       clear hHX
       replace X := Lib.hid X
       have HIN := Lib.hid hin2
       have HC2 := Lib.hid hc2
       have HSW := Lib.hid hsw2
       clear hin2 hc2 hsw2
       by_cases hltk : k < us.length
       ·
        have hi2 : (k : Int) < us.length := by omega
        have hly : k < us.length := hltk
        obtain ⟨ba2, oa2, hAe, hbb, hel⟩ := HU.out.elem (by omega)
        obtain ⟨vs, vm, hcs, hxa⟩ := hel k hltk
        replace hcs := hcs.below hb0 hbb
        replace hxa := hxa.keep (w' := wr) (fun p hp => (hb0).cell hp) (Nat.le_refl _)
        obtain ⟨y, hye⟩ : ∃ x, x = us[k] := ⟨_, rfl⟩
        rw [← hye] at hcs hxa
        obtain ⟨D1, m1, D2, m2, rfl, rfl, -, -⟩ := hxa.forms
        obtain ⟨y0, y1, y2, y3, y4, y5, y6, y7, y8, y9⟩ := hcs
        have HY := Lib.hid (Kept.rd (P := fun w B => TypAt w B y (.slice D1 y.syms.length m1) (.slice D2 y.mems.length m2)) hxa (hb0).size (fun _ hk => hxa.keep hk (Nat.le_refl _)))
        have hyi : us[k]? = some y := by rw [hye]; exact List.getElem?_eq_getElem hltk
        have HYI := Lib.hid hyi
        clear hel hxa hye hyi
        subst hAe
        have cSB_0 := SB.out.e0
        go_upto_region 20 with fail
        clear cSB_0
        refine am1 (fun wd21 hb20 Y => ?_)
        have hl23 := SA.out.here
        have hl24 := SB.out.here
        have hl25 := R.out.here
        have hl26 := X.out.here
        have hl27 := TB.out.le
        have hl28 := HX.out.le
        have hl29 := HY.out.le
        have hl30 := hb0.size
        obtain ⟨SA, SB, R, X, TB, HX, HY⟩ := b7 SA SB R X TB HX HY hb20
        replace hb0 := dT hb0 hb20
        clear hb20
        generalize wr.heap.size = g22 at *
        clear y0 y1 y2 y3 y4 y5 y6 y7 y8 y9
        obtain ⟨gY, rfl⟩ : ∃ g, g = g22 := ⟨_, rfl⟩
        have hiM : i < M2.length := by rw [HIN.out.1.1]; exact hlx
        have hkM : k < M2[i].length := by rw [HIN.out.1.2]; exact hly
        have hat0 : M2.at_ i k = M2[i][k] := by simp [Tab.at_, List.getD, hiM, hkM]
        obtain ⟨u, hrow⟩ := TB.out.now.row hiM
        obtain ⟨rg, cu, rfl, hrgL, hrgs, hrgne, hbc, hbf⟩ := hrow.pos hkM
        have KC := Lib.hid (keptCellC hrow.cell)
        have KB := Lib.hid (keptCellC hbc)
        have hgle : gR < wd21.heap.size ∧ gX < wd21.heap.size ∧ gY < wd21.heap.size := ⟨R.out.here, X.out.here, Y.out.here⟩
        have hd0 : decide ((i : Int) < 0) = false := by simp
        have hd1 : decide (ts.length ≤ i) = false := by simpa using hlx
        have hd2 : decide ((k : Int) < 0) = false := by simp
        have hd3 : decide (M2[i].length ≤ k) = false := by simpa using hkM
        have hkM1 : (k : Int) < M2[i].length := by omega
        have hiT : (i : Int) < ts.length := by omega
        clear hrow hbc hbf
        obtain ⟨bt, hbt⟩ : ∃ bt, bt = M2[i][k] := ⟨_, rfl⟩
        rw [← hbt] at KB hat0
        have HAT := Lib.hid hat0
        have hln : M2[i].length = us.length := HIN.out.1.2 i hiM
        rw [hln] at KC hd3 hkM1
        clear hat0 hbt hln
        cases bt with
        | false =>
         have hsw := fun h => (HSW.out h).next HXI.out HYI.out (fun h2 => by rw [HAT.out] at h2; cases h2)
         have HSW2 := Lib.hid hsw
         clear hsw HSW
         have cR_0 := R.out.e0
         refine wp_region_held_drew (S := (fun w' => w'.cell? ⟨gR, 0, none⟩ = some (.slice (some ⟨rb, 0, none⟩) ts.length ts.length) ∧ (w'.cell? ⟨rb, i, none⟩ = some (.slice (some ⟨rg, 0, none⟩) us.length cu)) ∧ (w'.cell? ⟨rg, k, none⟩ = some (.bool false)))) (by kernel_rfl) ⟨cR_0, (KC.out.now), (KB.out.now)⟩ (fun hHeld => ?_)
         clear cR_0
         have hb31 : Below wd21.heap.size wd21 (wd21.drew) := (Below.refl _ _).drew
         obtain ⟨SA, SB, R, X, Y, TB, HX, HY, KC⟩ := b9 SA SB R X Y TB HX HY KC hb31
         replace KB := b1 KB hb31
         replace hb0 := dT hb0 hb31
         clear hb31
         generalize wd21.drew = wd32 at *
         refine tk 0 ?_
         refine tk 1 ?_
         refine tk 2 ?_
         refine tk 3 ?_
         refine tk 4 ?_
         refine tk 5 ?_
         refine tk 6 ?_
         refine tk 7 ?_
         refine tks 8 ?_
         simp only [put_laws2]
         refine tks 9 ?_
         simp only [put_laws2]
         refine tks 10 ?_
         simp only [put_laws2]
         refine tks 11 ?_
         simp only [put_laws2]
         refine tks 12 ?_
         simp only [put_laws2]
         refine tks 13 ?_
         simp only [put_laws2]
         refine tks 14 ?_
         simp only [put_laws2]
         refine tk 15 ?_
         refine wpAnyH_done (by kernel_rfl) ?_ _
         try clear hHeld
         clear Y
         clear HY
         clear KC
         clear KB
         go_wp2_with fail
         go_roundw
         case rel => exact ⟨k + 1, bb, M2, by omega, by go_num, rfl, HIN.out, hc1, HC2.out, HSW2.out, X.out, HX.out, ⟨SA.out, SB.out, R.out, TB.out.now, hb0⟩⟩
         case measure => simp [intOf]; omega
        | true =>
         have hal : Alike x y := by
          obtain ⟨x', y', hx', hy', ha⟩ := HIN.out.2.2 i k HAT.out
          rw [HXI.out] at hx'; injection hx' with hx'
          rw [HYI.out] at hy'; injection hy' with hy'
          subst hx'; subst hy'; exact ha
         have heq := eqL_rel M2 x y (usesC_len hal)
         have HEQ := Lib.hid heq
         have hxm : x ∈ ts := List.mem_of_getElem? HXI.out
         have hym : y ∈ us := List.mem_of_getElem? HYI.out
         have hux : (usesC x).length ≤ 1000000 := usesC_few (HM1.out x hxm)
         have huy : (usesC y).length ≤ 1000000 := usesC_few (HM2.out y hym)
         have hmx := HM1.out x hxm
         have hmy := HM2.out y hym
         have HIX := Lib.hid (HI1.out x hxm)
         have HIY := Lib.hid (HI2.out y hym)
         have hsh2 : M2.shape ts.length us.length := HIN.out.1
         clear heq hal hxm hym
         have cR_0 := R.out.e0
         obtain ⟨cX_0, cX_1, cX_2, cX_3, cX_4, cX_5, cX_6, cX_7, cX_8, cX_9⟩ := X.out.c10
         obtain ⟨cY_0, cY_1, cY_2, cY_3, cY_4, cY_5, cY_6, cY_7, cY_8, cY_9⟩ := Y.out.c10
         refine wp_region_held_drew (S := (fun w' => w'.cell? ⟨gR, 0, none⟩ = some (.slice (some ⟨rb, 0, none⟩) ts.length ts.length) ∧ w'.cell? ⟨gX, 0, none⟩ = some (.int .i64 x.kind) ∧ w'.cell? ⟨gX, 1, none⟩ = some (.string ⟨x.name.toArray⟩) ∧ w'.cell? ⟨gX, 2, none⟩ = some (.int .i64 x.low) ∧ w'.cell? ⟨gX, 3, none⟩ = some (.int .i64 x.high) ∧ w'.cell? ⟨gX, 4, none⟩ = some (.int .i64 x.max) ∧ w'.cell? ⟨gX, 5, none⟩ = some (.slice C1 x.syms.length l1) ∧ w'.cell? ⟨gX, 6, none⟩ = some (.slice C2 x.mems.length l2) ∧ w'.cell? ⟨gX, 7, none⟩ = some (.int .i64 x.key) ∧ w'.cell? ⟨gX, 8, none⟩ = some (.int .i64 x.elem) ∧ w'.cell? ⟨gX, 9, none⟩ = some (.bool x.opn) ∧ w'.cell? ⟨gY, 0, none⟩ = some (.int .i64 y.kind) ∧ w'.cell? ⟨gY, 1, none⟩ = some (.string ⟨y.name.toArray⟩) ∧ w'.cell? ⟨gY, 2, none⟩ = some (.int .i64 y.low) ∧ w'.cell? ⟨gY, 3, none⟩ = some (.int .i64 y.high) ∧ w'.cell? ⟨gY, 4, none⟩ = some (.int .i64 y.max) ∧ w'.cell? ⟨gY, 5, none⟩ = some (.slice D1 y.syms.length m1) ∧ w'.cell? ⟨gY, 6, none⟩ = some (.slice D2 y.mems.length m2) ∧ w'.cell? ⟨gY, 7, none⟩ = some (.int .i64 y.key) ∧ w'.cell? ⟨gY, 8, none⟩ = some (.int .i64 y.elem) ∧ w'.cell? ⟨gY, 9, none⟩ = some (.bool y.opn) ∧ (w'.cell? ⟨rb, i, none⟩ = some (.slice (some ⟨rg, 0, none⟩) us.length cu)) ∧ (w'.cell? ⟨rg, k, none⟩ = some (.bool true)))) (by kernel_rfl) ⟨cR_0, cX_0, cX_1, cX_2, cX_3, cX_4, cX_5, cX_6, cX_7, cX_8, cX_9, cY_0, cY_1, cY_2, cY_3, cY_4, cY_5, cY_6, cY_7, cY_8, cY_9, (KC.out.now), (KB.out.now)⟩ (fun hHeld => ?_)
         clear cR_0 cX_0 cX_1 cX_2 cX_3 cX_4 cX_5 cX_6 cX_7 cX_8 cX_9 cY_0 cY_1 cY_2 cY_3 cY_4 cY_5 cY_6 cY_7 cY_8 cY_9
         have hb31 : Below wd21.heap.size wd21 (wd21.drew) := (Below.refl _ _).drew
         obtain ⟨SA, SB, R, X, Y, TB, HX, HY, KC⟩ := b9 SA SB R X Y TB HX HY KC hb31
         replace KB := b1 KB hb31
         replace hb0 := dT hb0 hb31
         clear hb31
         generalize wd21.drew = wd32 at *
         refine tk 0 ?_
         refine tk 1 ?_
         refine tk 2 ?_
         refine tk 3 ?_
         refine tk 4 ?_
         refine tk 5 ?_
         refine tk 6 ?_
         refine tk 7 ?_
         refine tk 8 ?_
         refine tk 10 ?_
         refine tk 12 ?_
         refine rd1 9 fun K hK => ?_
         go_simp
         ((with_reducible refine (cuses_any x _ _ _ (by omega) (HX.out.now.up HX.out.le)).mono ?_); rintro e wd33 ⟨v1, rfl, hu1, hb34⟩)
         obtain ⟨SA, SB, R, X, Y, TB, HX, HY, KC⟩ := b9 SA SB R X Y TB HX HY KC hb34
         replace KB := b1 KB hb34
         replace hb0 := dT hb0 hb34
         clear hb34
         have U1 := Lib.hid (Kept.rd (P := fun w B => Rd w B 2 v1 (usesC x).length (usesV (usesC x))) (Rd.of_own hu1) (Nat.le_refl _) (fun _ hk => (Rd.of_own hu1).keep hk))
         clear hu1
         try clear hHeld
         refine hK.out _ _ (⟨R.out.cell 0, ⟨X.out.cell 0, ⟨X.out.cell 1, ⟨X.out.cell 2, ⟨X.out.cell 3, ⟨X.out.cell 4, ⟨X.out.cell 5, ⟨X.out.cell 6, ⟨X.out.cell 7, ⟨X.out.cell 8, ⟨X.out.cell 9, ⟨Y.out.cell 0, ⟨Y.out.cell 1, ⟨Y.out.cell 2, ⟨Y.out.cell 3, ⟨Y.out.cell 4, ⟨Y.out.cell 5, ⟨Y.out.cell 6, ⟨Y.out.cell 7, ⟨Y.out.cell 8, ⟨Y.out.cell 9, ⟨(KC.out.now), (KB.out.now)⟩⟩⟩⟩⟩⟩⟩⟩⟩⟩⟩⟩⟩⟩⟩⟩⟩⟩⟩⟩⟩⟩) (fun hHeld => ?_)
         clear hK K
         refine rd1 11 fun K hK => ?_
         go_simp
         ((with_reducible refine (cuses_any y _ _ _ (by omega) (HY.out.now.up HY.out.le)).mono ?_); rintro e wd35 ⟨v2, rfl, hu2, hb36⟩)
         obtain ⟨SA, SB, R, X, Y, TB, HX, HY, KC⟩ := b9 SA SB R X Y TB HX HY KC hb36
         obtain ⟨KB, U1⟩ := b2 KB U1 hb36
         replace hb0 := dT hb0 hb36
         clear hb36
         have U2 := Lib.hid (Kept.rd (P := fun w B => Rd w B 2 v2 (usesC y).length (usesV (usesC y))) (Rd.of_own hu2) (Nat.le_refl _) (fun _ hk => (Rd.of_own hu2).keep hk))
         clear hu2
         try clear hHeld
         refine hK.out _ _ (⟨R.out.cell 0, ⟨X.out.cell 0, ⟨X.out.cell 1, ⟨X.out.cell 2, ⟨X.out.cell 3, ⟨X.out.cell 4, ⟨X.out.cell 5, ⟨X.out.cell 6, ⟨X.out.cell 7, ⟨X.out.cell 8, ⟨X.out.cell 9, ⟨Y.out.cell 0, ⟨Y.out.cell 1, ⟨Y.out.cell 2, ⟨Y.out.cell 3, ⟨Y.out.cell 4, ⟨Y.out.cell 5, ⟨Y.out.cell 6, ⟨Y.out.cell 7, ⟨Y.out.cell 8, ⟨Y.out.cell 9, ⟨(KC.out.now), (KB.out.now)⟩⟩⟩⟩⟩⟩⟩⟩⟩⟩⟩⟩⟩⟩⟩⟩⟩⟩⟩⟩⟩⟩) (fun hHeld => ?_)
         clear hK K
         refine rd1 13 fun K hK => ?_
         go_simp
         ((with_reducible refine (equse_any M2 (usesC x) (usesC y) ts.length us.length ts.length (w.heap.size + 2) gR rb v1 v2 _ hsh2 hux huy HIX.out HIY.out (U1.out.now.mono U1.out.le) (U2.out.now.mono U2.out.le) R.out.e0 R.out.here TB.out.now).mono ?_); rintro e wd37 ⟨rfl, hb38⟩)
         obtain ⟨SA, SB, R, X, Y, TB, HX, HY, KC⟩ := b9 SA SB R X Y TB HX HY KC hb38
         obtain ⟨KB, U1, U2⟩ := b3 KB U1 U2 hb38
         replace hb0 := dT hb0 hb38
         clear hb38
         clear U1
         clear U2
         try clear hHeld
         refine hK.out _ _ (⟨R.out.cell 0, ⟨X.out.cell 0, ⟨X.out.cell 1, ⟨X.out.cell 2, ⟨X.out.cell 3, ⟨X.out.cell 4, ⟨X.out.cell 5, ⟨X.out.cell 6, ⟨X.out.cell 7, ⟨X.out.cell 8, ⟨X.out.cell 9, ⟨Y.out.cell 0, ⟨Y.out.cell 1, ⟨Y.out.cell 2, ⟨Y.out.cell 3, ⟨Y.out.cell 4, ⟨Y.out.cell 5, ⟨Y.out.cell 6, ⟨Y.out.cell 7, ⟨Y.out.cell 8, ⟨Y.out.cell 9, ⟨(KC.out.now), (KB.out.now)⟩⟩⟩⟩⟩⟩⟩⟩⟩⟩⟩⟩⟩⟩⟩⟩⟩⟩⟩⟩⟩⟩) (fun hHeld => ?_)
         clear hK K
         refine tk 14 ?_
         refine tk 15 ?_
         refine wpAnyH_done (by kernel_rfl) ?_ _
         try clear hHeld
         clear Y
         clear HY
         rw [HEQ.out]
         clear HIX HIY hux huy hmx hmy HEQ hsh2
         cases hrl : relB M2 (outs x) (outs y) with
         | true =>
          have hsw := fun h => (HSW.out h).next HXI.out HYI.out (fun _ => hrl)
          have HSW2 := Lib.hid hsw
          clear hsw HSW hrl
          clear KC
          clear KB
          go_wp2_with fail
          go_roundw
          case rel => exact ⟨k + 1, bb, M2, by omega, by go_num, rfl, HIN.out, hc1, HC2.out, HSW2.out, X.out, HX.out, ⟨SA.out, SB.out, R.out, TB.out.now, hb0⟩⟩
          case measure => simp [intOf]; omega
         | false =>
          have hin3 : SwInv ts us (M2.off i k) := ⟨Tab.off_shape HIN.out.1 i k, HIN.out.2.1.off HXI.out HYI.out hrl, HIN.out.2.2.off i k⟩
          have hcn := Tab.off_cnt HAT.out
          have HIN3 := Lib.hid hin3
          clear hin3 hrl HSW
          have hrow := TB.out.now.rowAt hiM KC.out.now
          have hset := hrow.set rg cu k false (by rw [HIN.out.1.2 i hiM])
          have hoff : M2.set i (M2[i].set k false) = M2.off i k := by unfold Tab.off; simp [List.getD, hiM]
          rw [hoff] at hset
          have hrf : wd37.frozen? ⟨rb, i, none⟩ = false := hrow.free
          have hbf : wd37.frozen? ⟨rg, k, none⟩ = false := by
           have ho := hrow.own
           rw [HIN.out.1.2 i hiM] at ho
           exact ho.frozenAt k
          have hbc := KB.out.now
          have hrc := KC.out.now
          have hRg : gR ≠ rg := fun e => own_hasne hrow.own R.out (by decide) rfl e
          have hXg : gX ≠ rg := fun e => own_hasne hrow.own X.out (by decide) rfl e
          clear hrow hoff
          have cR_0 := R.out.e0
          go_upto_region 22 with fail
          clear cR_0
          clear hrc hbc hrf hbf
          clear KC
          clear KB
          clear TB
          generalize HEX : wd37.setCell ⟨rg, k, none⟩ (.bool false) = wd39
          obtain ⟨SA, SB, R, X, HX⟩ := f5 SA SB R X HX (eF HEX)
          replace hb0 := tf hb0 HEX
          rw [HEX] at hset
          clear HEX
          have HSET := Lib.hid hset
          clear hset
          go_wp2_with fail
          go_roundw
          case rel => exact ⟨k + 1, true, M2.off i k, by omega, by go_num, rfl, HIN3.out, by omega, fun _ => by omega, fun h => (by cases h), X.out, HX.out, ⟨SA.out, SB.out, R.out, HSET.out, hb0⟩⟩
          case measure => simp [intOf]; omega
       obtain rfl : k = us.length := by omega
       have hsw := fun h => (HSW.out h).row
       have HSW2 := Lib.hid hsw
       clear hsw HSW
       have cSB_0 := SB.out.e0
       go_wp2_with fail
       clear cSB_0
       go_roundw
       case rel => exact ⟨i + 1, bb, M2, by omega, by go_num, rfl, HIN.out, hc1, HC2.out, HSW2.out, ⟨SA.out, SB.out, R.out, TB.out.now, hb0⟩⟩
       case measure => simp [intOf]; omega
     obtain rfl : i = ts.length := by omega
     have hg := HGK.out
     have cSA_0 := SA.out.e0
     go_wp2_with fail
     clear cSA_0
     go_roundg (2 * M1.cnt + (if bb then 1 else 0))
     case measure =>
      cases bb with
      | true => have := HC2.out rfl; simp only [if_true] at hg ⊢; omega
      | false => simp only [if_true] at hg ⊢; simp; omega
     case rel => exact ⟨bb, M1, rfl, rfl, HIN.out, HSW.out, ⟨SA.out, SB.out, R.out, TB.out.now, hb0⟩⟩
end Go.Proofs.YtlamhkffnlgofaaGreatDoor

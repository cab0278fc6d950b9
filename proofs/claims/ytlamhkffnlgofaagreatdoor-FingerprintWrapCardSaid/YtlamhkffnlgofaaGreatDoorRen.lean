/- What canon.renamed computes. No condition. -/
import Derived.Test.YtlamhkffnlgofaaGreatDoorHAM
import Derived.Test.YtlamhkffnlgofaaGreatDoorShelf
import Derived.Lib.AppendIntMem
import Derived.Lib.SmallJoins
set_option maxHeartbeats 3200000
namespace Go.Proofs.YtlamhkffnlgofaaGreatDoor
open Go.ChangeShapes Go.WideShapes Go.ChangeAt Go.RowKit
abbrev PowIs (w : World) : Prop := Lib.TabIs Tryz.prog w "internal/strconv.uint64pow10" .u64 Lib.pow10Tab
theorem PowIs.on {w w' : World} (h : PowIs w) (hb : Below w.heap.size w w') : PowIs w' :=
 Go.Joins.tab_stays (show Tryz.prog.globalNamed "internal/strconv.uint64pow10" = some 0 by kernel_rfl) h hb (Nat.le_refl _)
theorem itoa19_any (n : Int) (hn : I64 n) (w : World) (h : PowIs w) : Calls Tryz.prog 69 #[.int .i64 n] w fun e w' => e = .returned (.string ⟨(Lib.itoa n).toArray⟩) ∧ Below w.heap.size w w' :=
 (Tryz.strconv_Itoa n hn.1 hn.2 w h).mono fun _ _ ⟨h1, k, os, h2⟩ => ⟨h1, h2 ▸ Lib.below_grow _ _ (Nat.le_refl _) k os⟩
def RenPost (x y : Typ) (w : World) (e : Ending) (w' : World) : Prop := ∃ vs vm, e = .returned (typA y vs vm) ∧ TypP w' (fun b => w.heap.size ≤ b ∧ b < w'.heap.size) y vs vm ∧ Below w.heap.size w w' ∧ x = x
theorem clone_sy (x : Typ) (A : Option Addr) (c : Nat) (A2 : Option Addr) (c2 : Nat) (w : World) (hl : x.syms.length ≤ 1000) (h : TypAt w w.heap.size x (.slice A x.syms.length c) (.slice A2 x.mems.length c2)) :
  Calls Tryz.prog 104 #[.slice A x.syms.length c] w (ClonedV w 105 2 x.syms.length (rawsV x.syms)) := by
 obtain ⟨h1, h2, h3⟩ := h.syms.flat (Nat.le_refl _)
 exact clonesy_any x.syms.length A c (rawsV x.syms) w (by omega) h1 (raws_len _) h2 h3 (raws_one _)
theorem clone_mem (x : Typ) (A : Option Addr) (c : Nat) (A2 : Option Addr) (c2 : Nat) (w : World) (hl : x.mems.length ≤ 1000) (h : TypAt w w.heap.size x (.slice A x.syms.length c) (.slice A2 x.mems.length c2)) :
  ∃ cm : Nat → List Value, (∀ (i : Nat) (hi : i < x.mems.length), ∃ vk vi vr, cm i = memV x.mems[i] vk vi vr ∧ MemAt w w.heap.size x.mems[i] vk vi vr) ∧
   ∀ W, Below w.heap.size w W → Calls Tryz.prog 105 #[.slice A2 x.mems.length c2] W (ClonedV W 83 13 x.mems.length (rowsV cm x.mems.length)) := by
 obtain ⟨cm, hrow, hel⟩ := h.mems
 have hl13 : ∀ i, i < x.mems.length → (cm i).length = 13 := fun i hi => by obtain ⟨_, _, _, h, _⟩ := hel i hi; rw [h]; rfl
 refine ⟨cm, fun i hi => hel i hi, fun W hb => ?_⟩
 obtain ⟨h1, h2, h3⟩ := (hrow.keep (w' := W) fun p hp => hb.cell hp).flat' hb.size (by omega) hl13
 refine clonem_any x.mems.length A2 c2 _ W (by omega) h1 (rowsV_len _ _ _ hl13) h2 h3 ?_
 intro u hu
 obtain ⟨q, hq⟩ := List.mem_iff_getElem?.1 hu
 obtain ⟨h4, h5⟩ := rowsV_inv cm 13 _ (by omega) hl13 q u hq
 obtain ⟨a1, a2, a3, h6, h7⟩ := hel _ h4
 obtain ⟨_, _, _, _, _, _, rfl, rfl, rfl, -, -, -⟩ := h7.dflt.forms
 rw [h6] at h5
 have hm := List.mem_of_getElem? h5
 simp only [memV, valV, List.cons_append, List.nil_append, List.mem_cons, List.not_mem_nil, or_false] at hm
 rcases hm with rfl | rfl | rfl | rfl | rfl | rfl | rfl | rfl | rfl | rfl | rfl | rfl | rfl <;> rfl
theorem keptSame (w : World) (L B : Nat) (hB : B ≤ w.heap.size) : Kept (fun W => ∀ q, L ≤ q → q < B → W.heap[q]? = w.heap[q]?) w L B := ⟨fun _ _ _ => rfl, fun _ hk q h1 h2 => hk q h1 h2, hB⟩
theorem RdP.of_own19 {w : World} {base n size : Nat} {e : TypeId} {v : Value} {xs : List Value} (h : w.ownsRow base e size v n xs) : RdP w (fun b => base ≤ b ∧ b < w.heap.size) size v n xs := by
 obtain ⟨hl, A, c, hv, hc, h2⟩ := Rd.of_own h
 refine ⟨hl, A, c, hv, hc, ?_⟩
 rcases h2 with h2 | ⟨b, o, hA, hb, hcell⟩
 ·
  exact .inl h2
 exact .inr ⟨b, o, hA, ⟨(h.lt b (by rw [hv, hA]; rfl)).1, hb⟩, hcell⟩
theorem keptRdP {w : World} {L size n : Nat} {v : Value} {xs : List Value} (h : RdP w (fun b => L ≤ b ∧ b < w.heap.size) size v n xs) : Kept (fun w' => RdP w' (fun b => L ≤ b ∧ b < w.heap.size) size v n xs) w L w.heap.size :=
 ⟨h, fun _ hk => h.keep (fun p hp => World.cell?_of_block (hk p.block hp.1 hp.2)) (fun _ h => h), Nat.le_refl _⟩
theorem keptMems {w : World} {L : Nat} {v : Value} {ms : List Mem} (h : RdMemsP w (fun b => L ≤ b ∧ b < w.heap.size) v ms) : Kept (fun w' => RdMemsP w' (fun b => L ≤ b ∧ b < w.heap.size) v ms) w L w.heap.size :=
 ⟨h, fun _ hk => h.keep (fun p hp => World.cell?_of_block (hk p.block hp.1 hp.2)) (fun _ h => h), Nat.le_refl _⟩
theorem wp_region_N {P : Program} {ops : Array Oper} {Q : Exit → Act → World → Prop} {id : Nat} {a : Act} {w : World} (hm : P.follows .mixedOrders = true)
  (h : wpAny P .any ops Q ops.size (Array.replicate ops.size false) a w.drew) : (Code.region id ops true).wp P Q a w := wp_region_any hm h
section
variable {P : Program} {ops : Array Oper} {Q : Exit → Act → World → Prop} {md : Region.Mode} {f : Nat} {listed : Array Bool} {a : Act} {w : World} {oi : Oper}
theorem tkN (i : Nat) {v : Value} {a2 : Act} (r : wpAny P md ops Q f (listed.setIfInBounds i true) a2 w) (hi : ops[i]? = some oi := by rfl) (y : ∀ w, (execOp a.eval oi).run P w = .ok (.value v) w := by (intro w; go_simp; (first | done | with_reducible rfl)))
  (h1 : Region.noSelect ops = true := by kernel_rfl) (h2 : Region.free md ops listed i = true := by kernel_rfl) (h3 : (Region.ready md ops listed).contains i = true := by kernel_rfl)
  (h4 : ∀ c a w, Q (.panic c) (a.put oi.dst v) w → Q (.panic c) a w := by exact fun _ _ _ h => h) (h5 : Region.wanted oi (yielded ops a.tmps) = true := by rfl) (e : a.put oi.dst v = a2 := by simp only [put_laws2]; exact rfl) : wpAny P md ops Q (f + 1) listed a w :=
 wpAny_take hi h1 h2 h3 h4 (.inl ⟨h5, y⟩) (e ▸ r)
theorem wpAny_T {S : World → Prop} (T : Nat → Bool) (hS : S w) (h : S w → wpAnyT P md ops Q S T f listed a w) : wpAny P md ops Q f listed a w := wpAnyT_any _ _ _ _ (h hS)
end
theorem ren_typP (n : Nat) (hn : n ≤ 1000) (ix : Nat → Nat) (hix : ∀ u, ix u ≤ 1000) {x : Typ} {w0 w : World} {B : Nat} {v0 m0 vs vm : Value} {S : Nat → Prop} (hx : TypAt w0 B x v0 m0)
  (hs : RdP w S 2 vs x.syms.length (rawsV (x.syms.map renS))) (hm : RdMemsP w S vm (x.mems.map (renM ix))) : TypP w S (renT n ix x) vs vm := by
 obtain ⟨h1, h2, h3, h4, h5, h6⟩ := hx.ints
 have hI : ∀ u, I64 ((ix u : Nat) : Int) := fun u => by have := hix u; unfold I64; omega
 refine ⟨⟨h1, h2, h3, h4, ?_, ?_⟩, ?_, ⟨by simpa [renT] using hx.lens.1, by simpa [renT] using hx.lens.2⟩, fun r hr => ?_, by simpa [renT] using hs, hm⟩
 ·
  show I64 (if x.kind = 8 then _ else _); split
  ·
   exact hI _
  exact h5
 ·
  show I64 (if x.kind = 7 ∨ x.kind = 8 ∨ x.kind = 9 then _ else _); split
  ·
   exact hI _
  exact h6
 ·
  show (if x.name = [] then ([] : List UInt8) else nmC 84 n).length ≤ _
  have := nmC_len 84 n (by unfold I64; omega)
  split <;> simp <;> omega
 obtain ⟨s, hs1, rfl⟩ := List.mem_map.1 (show r ∈ x.syms.map renS from hr)
 have := nmC_len 115 s.1 (hx.symsin s hs1).1
 exact ⟨(hx.symsin s hs1).1, by show (nmC 115 s.1).length ≤ _; omega⟩
theorem TypP.sub {w : World} {S S' : Nat → Prop} {x : Typ} {vs vm : Value} (h : TypP w S x vs vm) (hS : ∀ b, S b → S' b) : TypP w S' x vs vm := h.keep (fun _ _ => rfl) hS
set_option maxRecDepth 100000 in
theorem renamed_any (n : Nat) (hn : n ≤ 1000) (x : Typ) (vs vm : Value) (ix : Nat → Nat) (hix : ∀ u, ix u ≤ 1000) (p1 p2 : Value) (w : World) (hx : TypAt w w.heap.size x vs vm) (hls : x.syms.length ≤ 1000) (hlm : x.mems.length ≤ 1000) (hp : PowIs w)
  (hU : ∀ u ∈ usesC x, 0 ≤ u.2) (hC : ∀ u ∈ outs x, ∀ W, Below w.heap.size w W → Calls Tryz.prog 77 #[.int .i64 (u : Nat), p1, p2] W fun e w' => e = .returned (.int .i64 (ix u : Nat)) ∧ Below W.heap.size W w') :
  Calls Tryz.prog 76 #[typA x vs vm, .int .i64 n, .func (.func 77) #[] #[p1, p2]] w (RenPost x (renT n ix x) w) := by
 obtain ⟨C1, l1, C2, l2, rfl, rfl, -, -⟩ := hx.forms
 obtain ⟨cm, hcm, hcl⟩ := clone_mem x C1 l1 C2 l2 w hlm hx
 have HCM := Lib.hid hcm
 have HCL := Lib.hid hcl
 have HX := Lib.hid hx
 have HP := Lib.hid hp
 have HU := Lib.hid hU
 have HC := Lib.hid hC
 have HIB := Lib.hid hix
 have HN := Lib.hid hn
 clear hx hp hU hC hix hcm hcl
 go_enter Tryz.func76, Tryz.ntmps76
 go_upto_region 1 with fail
 refine am2 (fun wd2 hb1 T R => ?_)
 have hw3 := hb1
 clear hb1
 have hT0 := T.out
 have hR0 := R.out
 have hW0 := hw3
 have cT_1 := T.out.e1
 go_upto_if 12 with fail
 clear cT_1
 obtain ⟨bq, hbq⟩ : ∃ b, b = !x.name.isEmpty := ⟨_, rfl⟩
 rw [← hbq]
 have HB1 := Lib.hid (show bq = false → x.name = [] from fun h => by rw [h] at hbq; simpa using hbq)
 have HB2 := Lib.hid (show bq = true → x.name ≠ [] from fun h => by rw [h] at hbq; simpa using hbq)
 clear hbq
 go_cut [] from 13 to 16 (fun wx => Has wx w.heap.size 71 #[.int .i64 x.kind, .string ⟨(renT n ix x).name.toArray⟩, .int .i64 x.low, .int .i64 x.high, .int .i64 x.max, .slice C1 x.syms.length l1, .slice C2 x.mems.length l2, .int .i64 x.key, .int .i64 x.elem, .bool x.opn] ∧ Has wx (w.heap.size + 1) 71 #[.int .i64 0, .string ⟨#[]⟩, .int .i64 0, .int .i64 0, .int .i64 0, .slice none 0 0, .slice none 0 0, .int .i64 0, .int .i64 0, .bool false] ∧ Below w.heap.size w wx)
 case first =>
  clear hT0 hR0 hW0
  cases bq with
  | false =>
   have hq : (renT n ix x).name = x.name := by unfold renT; simp [HB1.out rfl]
   have HQ := Lib.hid hq
   clear hq
   go_wp2_with fail
   go_meet
   case rel => exact ⟨by rw [HQ.out]; exact T.out, R.out, hw3⟩
  | true =>
   have hq : (renT n ix x).name = nmC 84 n := by unfold renT; simp [HB2.out rfl]
   have HQ := Lib.hid hq
   have hni : I64 (n : Int) := by unfold I64; omega
   have hnl := nmC_len 84 n hni
   have hil : (Lib.itoa n).length ≤ 30 := by unfold nmC at hnl; rw [List.length_cons] at hnl; omega
   clear hq hnl
   go_wp2_with fail
   ((with_reducible refine (itoa19_any n hni _ (HP.out.on hw3)).mono ?_); rintro e wd4 ⟨rfl, hb5⟩)
   obtain ⟨T, R⟩ := b2 T R hb5
   replace hw3 := dT hw3 hb5
   clear hb5
   obtain ⟨q, hq⟩ : ∃ q, Lib.itoa (n : Int) = q := ⟨_, rfl⟩
   have hstr : Hid (nmC 84 n = 84 :: q) := by show _ = _; rw [← hq]; rfl
   rw [hq] at hil ⊢
   clear hq
   have cT_1 := T.out.e1
   have fT_1 := T.out.free 1
   go_wp2_with fail
   rw [str_app [84] q]
   clear cT_1 fT_1
   generalize hE7 : wd4.setCell _ _ = wd6
   replace R := f1 R (eF hE7)
   replace T := dS1 T hE7
   replace hw3 := tf hw3 hE7
   clear hE7
   go_meet
   case rel => exact ⟨by rw [HQ.out, hstr.out]; exact T.out, R.out, hw3⟩
 case rest =>
  obtain ⟨T, R, hb0⟩ := hcut
  clear hT0 hR0 hW0
  obtain ⟨nm, HNM⟩ : ∃ nm, Hid (nm = (renT n ix x).name) := ⟨_, Lib.hid rfl⟩
  rw [← HNM.out] at T
  replace T := Lib.hid T
  replace R := Lib.hid R
  have cT_5 := T.out.e5
  go_wp2_with fail
  have hRh := R.out.here
  clear cT_5
  ((with_reducible refine (clone_sy x C1 l1 C2 l2 _ hls (HX.out.on hb0)).mono ?_); rintro e wd4 ⟨v5, rfl, hown5, hb5⟩)
  obtain ⟨T, R⟩ := b2 T R hb5
  replace hb0 := dT hb0 hb5
  clear hb5
  obtain ⟨A5, c5, rfl⟩ := own_form hown5
  have O5 := Lib.hid (Kept.own (own_base hown5 hRh))
  clear hown5
  have cT_5 := T.out.e5
  have fT_5 := T.out.free 5
  go_upto_region 4 with fail
  clear cT_5 fT_5
  generalize hE7 : wd4.setCell _ _ = wd6
  obtain ⟨R, O5⟩ := f2 R O5 (eF hE7)
  replace T := dS5 T hE7
  replace hb0 := tf hb0 hE7
  clear hE7
  have hown5 := O5.out.now
  rw [← symsC_zero] at hown5
  have hT0 := T.out
  have hR0 := R.out
  have hW0 := hb0
  have cT_5 := T.out.e5
  go_upto_region 5 with fail
  clear cT_5
  go_loopw [24] (fun s24 wr => ∃ k : Nat, k ≤ x.syms.length ∧ s24 = .int .i64 k ∧ wr.ownsRow (w.heap.size + 2) 105 2 (.slice A5 x.syms.length c5) x.syms.length (symsC x.syms k) ∧ Has wr w.heap.size 71 #[.int .i64 x.kind, .string ⟨nm.toArray⟩, .int .i64 x.low, .int .i64 x.high, .int .i64 x.max, .slice A5 x.syms.length c5, .slice C2 x.mems.length l2, .int .i64 x.key, .int .i64 x.elem, .bool x.opn] ∧ Has wr (w.heap.size + 1) 71 #[.int .i64 0, .string ⟨#[]⟩, .int .i64 0, .int .i64 0, .int .i64 0, .slice none 0 0, .slice none 0 0, .int .i64 0, .int .i64 0, .bool false] ∧ Below w.heap.size w wr) (fun s24 _ => x.syms.length - (intOf s24).toNat)
  case atStart => exact ⟨0, by omega, rfl, hown5, hT0, hR0, hW0⟩
  case round =>
   clear T R O5 hown5 hT0 hR0 hW0 hb0
   obtain ⟨k, hk, rfl, hown, T, R, hb0⟩ := hrel
   replace T := Lib.hid T
   replace R := Lib.hid R
   have O5 := Lib.hid (Kept.own hown)
   by_cases hlt : k < x.syms.length
   ·
    obtain ⟨g, rfl⟩ : ∃ g, A5 = some ⟨g, 0, none⟩ := by
     rcases hown.2 with ⟨h, h2⟩ | ⟨g, cap, cur, h, _⟩
     ·
      omega
     injection h with h; exact ⟨g, h⟩
    obtain ⟨hs0, hs1⟩ := symsC_at x.syms k hlt
    have hnx := symsC_next x.syms k hlt
    have hgl := (hown.lt g rfl)
    have hids := (HX.out.symsin _ (List.getElem_mem hlt)).1
    generalize x.syms[k] = y at *
    obtain ⟨yi, yn⟩ := y
    simp only at hs0 hs1 hnx hids
    have KC := Lib.hid (keptCellC ((hown.cellAt (k * 2) (by omega)).trans hs0))
    have HNX := Lib.hid hnx
    have HS0 := Lib.hid hs0
    have HS1 := Lib.hid hs1
    have hnl := nmC_len 115 yi hids
    have hil : (Lib.itoa yi).length ≤ 30 := by unfold nmC at hnl; rw [List.length_cons] at hnl; omega
    have hi1 : (k : Int) < x.syms.length := by omega
    have hd0 : decide ((k : Int) < 0) = false := by simp
    have hd1 : decide (x.syms.length ≤ k) = false := by simpa using hlt
    clear hown hs0 hs1 hnx hnl
    go_upto_region 7 with fail
    have cT_5 := T.out.e5
    refine wp_region_held_drew (S := (fun w' => w'.cell? ⟨w.heap.size, 5, none⟩ = some (.slice (some ⟨g, 0, none⟩) x.syms.length c5) ∧ (w'.cell? ⟨g, k * 2, none⟩ = some (.int .i64 yi)))) (by kernel_rfl) ⟨cT_5, (KC.out.now)⟩ (fun hHeld => ?_)
    clear cT_5
    have hb8 : Below wr.heap.size wr (wr.drew) := (Below.refl _ _).drew
    obtain ⟨T, R, O5, KC⟩ := b4 T R O5 KC hb8
    replace hb0 := dT hb0 hb8
    clear hb8
    generalize wr.drew = wd9 at *
    refine tk 0 ?_
    refine tk 1 ?_
    refine tk 2 ?_
    refine tk 3 ?_
    refine tk 4 ?_
    refine tk 5 ?_
    refine tk 6 ?_
    refine tk 7 ?_
    refine tk 8 ?_
    refine rd1 9 fun K hK => ?_
    go_simp
    ((with_reducible refine (itoa19_any yi hids _ (HP.out.on hb0)).mono ?_); rintro e wd10 ⟨rfl, hb11⟩)
    obtain ⟨T, R, O5, KC⟩ := b4 T R O5 KC hb11
    replace hb0 := dT hb0 hb11
    clear hb11
    try clear hHeld
    refine hK.out _ _ (⟨T.out.cell 5, (KC.out.now)⟩) (fun hHeld => ?_)
    clear hK K
    obtain ⟨q, hq⟩ : ∃ q, Lib.itoa yi = q := ⟨_, rfl⟩
    have hstr : Hid (nmC 115 yi = 115 :: q) := by show _ = _; rw [← hq]; rfl
    rw [hq] at hil ⊢
    have hcat : ¬ 9223372036854775807 < 1 + q.length := by omega
    clear hq
    refine tk 10 ?_
    refine tk 11 ?_
    refine tk 12 ?_
    refine rd1 13 fun K hK => ?_
    have hown := O5.out.now
    have cN := (hown.cellAt (k * 2 + 1) (by omega)).trans HS1.out
    have fN := hown.frozenAt (k * 2 + 1)
    go_simp
    rw [str_app [115] q]
    have hset := (hown.stored (k * 2 + 1) (.string ⟨([115] ++ q).toArray⟩)).1
    rw [show ([115] ++ q : List UInt8) = nmC 115 yi from hstr.out.symm, HNX.out] at hset
    rw [show ([115] ++ q : List UInt8) = nmC 115 yi from hstr.out.symm]
    clear cN fN hown hcat hstr
    clear O5
    clear KC
    generalize HEX : wd10.setCell ⟨g, k * 2 + 1, none⟩ (.string ⟨(nmC 115 yi).toArray⟩) = wd12
    obtain ⟨T, R⟩ := f2 T R (eF HEX)
    replace hb0 := tf hb0 HEX
    rw [HEX] at hset
    clear HEX
    have hcK : wd12.cell? ⟨g, k * 2, none⟩ = some (.int .i64 yi) := (hset.cellAt (k * 2) (by omega)).trans (by rw [← HNX.out, List.getElem?_set_ne (by omega)]; exact HS0.out)
    have KC := Lib.hid (keptCellC hcK)
    have HSET := Lib.hid hset
    clear hset hcK
    try clear hHeld
    refine hK.out _ _ (⟨T.out.cell 5, (KC.out.now)⟩) (fun hHeld => ?_)
    clear hK K
    refine wpAnyH_done (by kernel_rfl) ?_ _
    try clear hHeld
    clear KC
    go_wp2_with fail
    go_roundw
    case rel => exact ⟨k + 1, by omega, by go_num, HSET.out, T.out, R.out, hb0⟩
    case measure => simp [intOf]; omega
   obtain rfl : k = x.syms.length := by omega
   rw [symsC_all] at hown
   clear O5
   have O5 := Lib.hid (Kept.own hown)
   clear hown
   have cT_5 := T.out.e5
   have cT_6 := T.out.e6
   go_wp2_with fail
   have hRh := R.out.here
   clear cT_5 cT_6
   ((with_reducible refine (HCL.out _ hb0).mono ?_); rintro e wd8 ⟨v6, rfl, hown6, hb9⟩)
   obtain ⟨T, R, O5⟩ := b3 T R O5 hb9
   replace hb0 := dT hb0 hb9
   clear hb9
   obtain ⟨A6, c6, rfl⟩ := own_form hown6
   have hmr : MemsRen w (w.heap.size + 2) (.slice A6 x.mems.length c6) x.mems.length 0 ix x.mems wd8 := ⟨cm, _, own_base hown6 hRh, Tiled.of_rows _ _ _ (fun i hi => by obtain ⟨_, _, _, h, _⟩ := HCM.out i hi; rw [h]; rfl), fun i _ h => by omega, fun i h _ => HCM.out i h⟩
   have M6 := Lib.hid (MemsRen.kept hmr)
   clear hown6 hmr
   have cT_6 := T.out.e6
   have fT_6 := T.out.free 6
   go_upto_region 10 with fail
   clear cT_6 fT_6
   generalize hE11 : wd8.setCell _ _ = wd10
   obtain ⟨R, O5, M6⟩ := f3 R O5 M6 (eF hE11)
   replace T := dS6 T hE11
   replace hb0 := tf hb0 hE11
   clear hE11
   have hT0 := T.out
   have hR0 := R.out
   have hW0 := hb0
   have hO5 := O5.out.now
   have hM6 := M6.out.now
   have cT_6 := T.out.e6
   go_upto_region 11 with fail
   clear cT_6
   go_loopw [48] (fun s48 wr => ∃ k : Nat, k ≤ x.mems.length ∧ s48 = .int .i64 k ∧ wr.ownsRow (w.heap.size + 2) 105 2 (.slice A5 x.syms.length c5) x.syms.length (rawsV (x.syms.map renS)) ∧ MemsRen w (w.heap.size + 2) (.slice A6 x.mems.length c6) x.mems.length k ix x.mems wr ∧ Has wr w.heap.size 71 #[.int .i64 x.kind, .string ⟨nm.toArray⟩, .int .i64 x.low, .int .i64 x.high, .int .i64 x.max, .slice A5 x.syms.length c5, .slice A6 x.mems.length c6, .int .i64 x.key, .int .i64 x.elem, .bool x.opn] ∧ Has wr (w.heap.size + 1) 71 #[.int .i64 0, .string ⟨#[]⟩, .int .i64 0, .int .i64 0, .int .i64 0, .slice none 0 0, .slice none 0 0, .int .i64 0, .int .i64 0, .bool false] ∧ Below w.heap.size w wr) (fun s48 _ => x.mems.length - (intOf s48).toNat)
   case atStart => exact ⟨0, by omega, rfl, hO5, hM6, hT0, hR0, hW0⟩
   case round =>
    clear T R O5 M6 hO5 hM6 hT0 hR0 hW0 hb0
    obtain ⟨k, hk, rfl, hown5, hmr, T, R, hb0⟩ := hrel
    replace T := Lib.hid T
    replace R := Lib.hid R
    by_cases hlt : k < x.mems.length
    ·
     obtain ⟨c, xs, hown, htil, hdone, htodo⟩ := hmr.ex
     obtain ⟨g, rfl⟩ : ∃ g, A6 = some ⟨g, 0, none⟩ := by
      rcases hown.2 with ⟨h, h2⟩ | ⟨g, cap, cur, h, _⟩
      ·
       omega
      injection h with h; exact ⟨g, h⟩
     obtain ⟨vk, vi, vr, hck, hma⟩ := htodo k hlt (Nat.le_refl _)
     have hgl := hown.lt g rfl
     have hmx : x.mems[k] ∈ x.mems := List.getElem_mem hlt
     have hmu : memU x.mems[k] ∈ usesC x := List.mem_append_left _ (List.mem_map_of_mem hmx)
     have hty : 0 ≤ x.mems[k].ty := HU.out _ hmu
     have hto : (x.mems[k].ty).toNat ∈ outs x := List.mem_map_of_mem (f := fun u => u.2.toNat) hmu
     have hcal := HC.out _ hto
     have hib := HIB.out (x.mems[k].ty).toNat
     have hren : ∀ zk zi zr, setL (((memV x.mems[k] vk vi vr).set 1 (.string ⟨(nmC 102 x.mems[k].id).toArray⟩)).set 2 (.int .i64 (ix x.mems[k].ty.toNat : Nat))) 5 (valV x.mems[k].dflt zk zi zr) = memV (renM ix x.mems[k]) zk zi zr := fun zk zi zr => rfl
     have hrk : ∀ w' S zk zi zr, ValP w' S x.mems[k].dflt zk zi zr → MemP w' S (renM ix x.mems[k]) zk zi zr := fun w' S zk zi zr h => ⟨⟨hma.ints.1, by show I64 (ix _ : Nat); unfold I64; omega⟩, by show (nmC 102 x.mems[k].id).length ≤ _; have := nmC_len 102 x.mems[k].id hma.ints.1; omega, h⟩
     have HREN := Lib.hid hren
     have HRK := Lib.hid hrk
     have HDONE := Lib.hid hdone
     have HTODO := Lib.hid htodo
     have HTIL := Lib.hid htil
     obtain ⟨m, hm⟩ : ∃ m, m = x.mems[k] := ⟨_, rfl⟩
     have HMEQ := Lib.hid hm
     rw [← hm] at hck hma hty hcal hib HREN HRK
     obtain ⟨mi, mn, mt, mc, mh, mf⟩ := m
     clear hm hmx hmu hto hren hrk hdone htodo
     simp only at hty hcal hib
     obtain ⟨u, rfl⟩ : ∃ u : Nat, mt = (u : Int) := ⟨mt.toNat, by omega⟩
     simp only [Int.toNat_natCast] at hcal hib HREN HRK
     have HCAL := Lib.hid hcal
     obtain ⟨D1, d1, D2, d2, D3, d3, rfl, rfl, rfl, -, -, -⟩ := hma.dflt.forms
     have hid : I64 mi := hma.ints.1
     have hnl := nmC_len 102 mi hid
     have hil : (Lib.itoa mi).length ≤ 30 := by unfold nmC at hnl; rw [List.length_cons] at hnl; omega
     have HVD := Lib.hid hma.dflt
     have hmrow : MRow wr (w.heap.size + 2) g x.mems.length c6 k xs [.int .i64 mi, .string ⟨mn.toArray⟩, .int .i64 (u : Int), .bool mc, .bool mh, .int .i64 mf.kind, .bool mf.bool, .int .i64 mf.num, .string ⟨mf.str.toArray⟩, .int .i64 mf.id, .slice D1 mf.keys.length d1, .slice D2 mf.items.length d2, .slice D3 mf.rest.length d3] := ⟨hown, hlt, rfl, fun j v hv => htil.2.2 k hlt j v (by rw [hck]; exact hv)⟩
     have MR := Lib.hid (hmrow.kept)
     have KA := Lib.hid (keptSame wr 0 g (Nat.le_of_lt hgl.2))
     obtain ⟨Gr, hGr⟩ : ∃ G, G = wr.heap.size := ⟨_, rfl⟩
     have KB := Lib.hid (keptSame wr (g + 1) Gr (Nat.le_of_eq hGr))
     have hgG : g < Gr := by rw [hGr]; exact hgl.2
     have hi1 : (k : Int) < x.mems.length := by omega
     have hd0 : decide ((k : Int) < 0) = false := by simp
     have hd1 : decide (x.mems.length ≤ k) = false := by simpa using hlt
     have HCK := Lib.hid hck
     have HO5 := Lib.hid hown5
     have HSEP := Lib.hid (fun q (hq : (Value.slice A5 x.syms.length c5).ownBlock = some q) (e : q = g) => own_part hown5 hown (by decide) hq (by rw [e]; rfl))
     clear hown htil hck hma hmrow hnl hcal hown5 hmr
     have cT_6 := T.out.e6
     go_upto_region 14 with fail
     clear cT_6
     refine wp_region_N (by kernel_rfl) ?_
     refine tkN 2 ?_
     refine tkN 15 ?_
     refine tkN 16 ?_
     refine tkN 17 ?_
     refine wpAny_T (S := (fun w' => (w'.cell? ⟨g, k * 13, none⟩ = some (.int .i64 mi)) ∧ (w'.cell? ⟨g, k * 13 + 2, none⟩ = some (.int .i64 (u : Int))) ∧ (w'.cell? ⟨g, k * 13 + 5, none⟩ = some (.int .i64 mf.kind)) ∧ (w'.cell? ⟨g, k * 13 + 6, none⟩ = some (.bool mf.bool)) ∧ (w'.cell? ⟨g, k * 13 + 7, none⟩ = some (.int .i64 mf.num)) ∧ (w'.cell? ⟨g, k * 13 + 8, none⟩ = some (.string ⟨mf.str.toArray⟩)) ∧ (w'.cell? ⟨g, k * 13 + 9, none⟩ = some (.int .i64 mf.id)) ∧ (w'.cell? ⟨g, k * 13 + 10, none⟩ = some (.slice D1 mf.keys.length d1)) ∧ (w'.cell? ⟨g, k * 13 + 11, none⟩ = some (.slice D2 mf.items.length d2)) ∧ (w'.cell? ⟨g, k * 13 + 12, none⟩ = some (.slice D3 mf.rest.length d3)))) (fun j => j == 25 || j == 26 || j == 27 || j == 28) ⟨(MR.out.now.c 0 rfl), (MR.out.now.c 2 rfl), (MR.out.now.c 5 rfl), (MR.out.now.c 6 rfl), (MR.out.now.c 7 rfl), (MR.out.now.c 8 rfl), (MR.out.now.c 9 rfl), (MR.out.now.c 10 rfl), (MR.out.now.c 11 rfl), (MR.out.now.c 12 rfl)⟩ (fun hHeld => ?_)
     have hb12 : Below wr.heap.size wr (wr.drew) := (Below.refl _ _).drew
     obtain ⟨T, R, MR, KA, KB⟩ := b5 T R MR KA KB hb12
     replace hb0 := dT hb0 hb12
     clear hb12
     generalize wr.drew = wd13 at *
     refine tkT 0 ?_
     refine tkT 1 ?_
     refine tkT 3 ?_
     refine tkT 4 ?_
     refine tkT 5 ?_
     refine tkT 6 ?_
     refine tkT 9 ?_
     refine tkT 10 ?_
     refine tkT 11 ?_
     refine tkT 12 ?_
     refine tkT 13 ?_
     refine tkT 18 ?_
     refine rdT1 7 fun K hK => ?_
     go_simp
     ((with_reducible refine (itoa19_any mi hid _ (HP.out.on hb0)).mono ?_); rintro e wd14 ⟨rfl, hb15⟩)
     obtain ⟨T, R, MR, KA, KB⟩ := b5 T R MR KA KB hb15
     replace hb0 := dT hb0 hb15
     clear hb15
     try clear hHeld
     refine hK.out _ _ (⟨(MR.out.now.c 0 rfl), ⟨(MR.out.now.c 2 rfl), ⟨(MR.out.now.c 5 rfl), ⟨(MR.out.now.c 6 rfl), ⟨(MR.out.now.c 7 rfl), ⟨(MR.out.now.c 8 rfl), ⟨(MR.out.now.c 9 rfl), ⟨(MR.out.now.c 10 rfl), ⟨(MR.out.now.c 11 rfl), (MR.out.now.c 12 rfl)⟩⟩⟩⟩⟩⟩⟩⟩⟩) (fun hHeld => ?_)
     clear hK K
     obtain ⟨q, hq⟩ : ∃ q, Lib.itoa mi = q := ⟨_, rfl⟩
     have hstr : Hid (nmC 102 mi = 102 :: q) := by show _ = _; rw [← hq]; rfl
     rw [hq] at hil ⊢
     have hcat : ¬ 9223372036854775807 < 1 + q.length := by omega
     clear hq
     refine tkT 8 ?_
     refine rdT1 14 fun K hK => ?_
     go_simp
     ((with_reducible refine (HCAL.out _ hb0).mono ?_); rintro e wd16 ⟨rfl, hb17⟩)
     obtain ⟨T, R, MR, KA, KB⟩ := b5 T R MR KA KB hb17
     replace hb0 := dT hb0 hb17
     clear hb17
     try clear hHeld
     refine hK.out _ _ (⟨(MR.out.now.c 0 rfl), ⟨(MR.out.now.c 2 rfl), ⟨(MR.out.now.c 5 rfl), ⟨(MR.out.now.c 6 rfl), ⟨(MR.out.now.c 7 rfl), ⟨(MR.out.now.c 8 rfl), ⟨(MR.out.now.c 9 rfl), ⟨(MR.out.now.c 10 rfl), ⟨(MR.out.now.c 11 rfl), (MR.out.now.c 12 rfl)⟩⟩⟩⟩⟩⟩⟩⟩⟩) (fun hHeld => ?_)
     clear hK K
     refine rdT1 19 fun K hK => ?_
     go_simp
     obtain ⟨z6, h6e⟩ : ∃ z, z = (wd16).heap.size := ⟨_, rfl⟩
     have hz6 := R.out.here
     have hzG := KB.out.le
     rw [← h6e] at hz6 hzG
     ((with_reducible refine (ccopied_any (wt mf) mf _ _ _ _ (Nat.le_refl _) (HVD.out.keep (fun p hp => ((hb0).cell hp)) (hb0).size)).mono ?_); rintro e wd18 ⟨zk, zi, zr, rfl, hz, hb19⟩)
     obtain ⟨T, R, MR, KA, KB⟩ := b5 T R MR KA KB hb19
     replace hb0 := dT hb0 hb19
     clear hb19
     obtain ⟨_, ⟨Z1, z1, rfl, _⟩, _⟩ := id hz.keys
     obtain ⟨_, ⟨Z2, z2, rfl, _⟩, _⟩ := id hz.items
     obtain ⟨_, Z3, z3, rfl, _⟩ := id hz.rest
     obtain ⟨z7, h7e⟩ : ∃ z, z = (wd18).heap.size := ⟨_, rfl⟩
     have HZ := Lib.hid (ValN.at_ hz h6e h7e)
     clear hz h6e h7e
     try clear hHeld
     refine hK.out _ _ (⟨(MR.out.now.c 0 rfl), ⟨(MR.out.now.c 2 rfl), ⟨(MR.out.now.c 5 rfl), ⟨(MR.out.now.c 6 rfl), ⟨(MR.out.now.c 7 rfl), ⟨(MR.out.now.c 8 rfl), ⟨(MR.out.now.c 9 rfl), ⟨(MR.out.now.c 10 rfl), ⟨(MR.out.now.c 11 rfl), (MR.out.now.c 12 rfl)⟩⟩⟩⟩⟩⟩⟩⟩⟩) (fun hHeld => ?_)
     clear hK K
     refine rdT1 20 fun K hK => ?_
     go_simp
     try clear hHeld
     refine hK.out _ _ (⟨(MR.out.now.c 0 rfl), ⟨(MR.out.now.c 2 rfl), ⟨(MR.out.now.c 5 rfl), ⟨(MR.out.now.c 6 rfl), ⟨(MR.out.now.c 7 rfl), ⟨(MR.out.now.c 8 rfl), ⟨(MR.out.now.c 9 rfl), ⟨(MR.out.now.c 10 rfl), ⟨(MR.out.now.c 11 rfl), (MR.out.now.c 12 rfl)⟩⟩⟩⟩⟩⟩⟩⟩⟩) (fun hHeld => ?_)
     clear hK K
     refine rdT1 21 fun K hK => ?_
     go_simp
     try clear hHeld
     refine hK.out _ _ (⟨(MR.out.now.c 0 rfl), ⟨(MR.out.now.c 2 rfl), ⟨(MR.out.now.c 5 rfl), ⟨(MR.out.now.c 6 rfl), ⟨(MR.out.now.c 7 rfl), ⟨(MR.out.now.c 8 rfl), ⟨(MR.out.now.c 9 rfl), ⟨(MR.out.now.c 10 rfl), ⟨(MR.out.now.c 11 rfl), (MR.out.now.c 12 rfl)⟩⟩⟩⟩⟩⟩⟩⟩⟩) (fun hHeld => ?_)
     clear hK K
     refine rdT1 22 fun K hK => ?_
     have cM := MR.out.now.c 1 rfl
     have fM := MR.out.now.f 1
     go_simp
     rw [str_app [102] q, show ([102] ++ q : List UInt8) = nmC 102 mi from hstr.out.symm]
     have hput := MR.out.now.put 1 (.string ⟨(nmC 102 mi).toArray⟩)
     clear cM fM
     clear MR
     generalize HEX : wd18.setCell ⟨g, k * 13 + 1, none⟩ (.string ⟨(nmC 102 mi).toArray⟩) = wd20
     obtain ⟨T, R, KA, KB, HZ⟩ := f5 T R KA KB HZ (eF HEX)
     replace hb0 := tf hb0 HEX
     rw [HEX] at hput
     clear HEX
     have MR := Lib.hid (hput.kept)
     clear hput
     try clear hHeld
     refine hK.out _ _ (⟨(MR.out.now.c 0 rfl), ⟨(MR.out.now.c 2 rfl), ⟨(MR.out.now.c 5 rfl), ⟨(MR.out.now.c 6 rfl), ⟨(MR.out.now.c 7 rfl), ⟨(MR.out.now.c 8 rfl), ⟨(MR.out.now.c 9 rfl), ⟨(MR.out.now.c 10 rfl), ⟨(MR.out.now.c 11 rfl), (MR.out.now.c 12 rfl)⟩⟩⟩⟩⟩⟩⟩⟩⟩) (fun hHeld => ?_)
     clear hK K
     refine rdT1 23 fun K hK => ?_
     go_simp
     try clear hHeld
     refine hK.out _ _ (⟨(MR.out.now.c 0 rfl), ⟨(MR.out.now.c 2 rfl), ⟨(MR.out.now.c 5 rfl), ⟨(MR.out.now.c 6 rfl), ⟨(MR.out.now.c 7 rfl), ⟨(MR.out.now.c 8 rfl), ⟨(MR.out.now.c 9 rfl), ⟨(MR.out.now.c 10 rfl), ⟨(MR.out.now.c 11 rfl), (MR.out.now.c 12 rfl)⟩⟩⟩⟩⟩⟩⟩⟩⟩) (fun hHeld => ?_)
     clear hK K
     refine rdT1 24 fun K hK => ?_
     go_simp
     try clear hHeld
     refine hK.out _ _ (⟨(MR.out.now.c 0 rfl), ⟨(MR.out.now.c 2 rfl), ⟨(MR.out.now.c 5 rfl), ⟨(MR.out.now.c 6 rfl), ⟨(MR.out.now.c 7 rfl), ⟨(MR.out.now.c 8 rfl), ⟨(MR.out.now.c 9 rfl), ⟨(MR.out.now.c 10 rfl), ⟨(MR.out.now.c 11 rfl), (MR.out.now.c 12 rfl)⟩⟩⟩⟩⟩⟩⟩⟩⟩) (fun hHeld => ?_)
     clear hK K
     refine rdTL 25 fun K hK => ?_
     have cM := MR.out.now.c 2 rfl
     have fM := MR.out.now.f 2
     go_simp
     have hput := MR.out.now.put 2 (.int .i64 (ix u : Nat))
     clear cM fM
     clear MR
     generalize HEX : wd20.setCell ⟨g, k * 13 + 2, none⟩ (.int .i64 (ix u : Nat)) = wd21
     obtain ⟨T, R, KA, KB, HZ⟩ := f5 T R KA KB HZ (eF HEX)
     replace hb0 := tf hb0 HEX
     rw [HEX] at hput
     clear HEX
     have MR := Lib.hid (hput.kept)
     clear hput
     try clear hHeld
     refine hK.out _ _ ?_
     clear hK K
     refine rdTL 26 fun K hK => ?_
     go_simp
     try clear hHeld
     refine hK.out _ _ ?_
     clear hK K
     refine rdTL 27 fun K hK => ?_
     go_simp
     try clear hHeld
     refine hK.out _ _ ?_
     clear hK K
     refine rdTL 28 fun K hK => ?_
     have hown7 := MR.out.now.1
     have htl := tile_lt (size := 13) hlt
     refine step_store_mid rfl 81 _ _ rfl g (k * 13 + 5) _ rfl rfl (own_there hown7 (k * 13 + 5) 8 (by omega)) (by kernel_rfl) (by simp [Value.oneCell']) ?_
     have hown8 := own_setCells (valV mf (.slice Z1 mf.keys.length z1) (.slice Z2 mf.items.length z2) (.slice Z3 mf.rest.length z3)) _ (k * 13 + 5) _ hown7
     change K _ (wd21.setCells g (k * 13 + 5) (valV mf (.slice Z1 mf.keys.length z1) (.slice Z2 mf.items.length z2) (.slice Z3 mf.rest.length z3)))
     clear MR
     obtain ⟨wd22, HEX⟩ : ∃ ww, ww = wd21.setCells g (k * 13 + 5) (valV mf (.slice Z1 mf.keys.length z1) (.slice Z2 mf.items.length z2) (.slice Z3 mf.rest.length z3)) := ⟨_, rfl⟩
     rw [← HEX]
     have hkX : ∀ k, k ≠ g → wd22.heap[k]? = wd21.heap[k]? := fun k hk => by rw [HEX]; exact heap_setCellsX g _ _ _ k hk
     have hbX : Below g wd21 wd22 := by rw [HEX]; exact below_setCells (Nat.le_refl _) _ _ _ (Below.refl _ _)
     replace T := Lib.hid ((hkX (w.heap.size) (by omega)).trans T.out)
     replace T : Hid (Has wd22 (w.heap.size) 71 #[.int .i64 x.kind, .string ⟨nm.toArray⟩, .int .i64 x.low, .int .i64 x.high, .int .i64 x.max, .slice A5 x.syms.length c5, .slice (some ⟨g, 0, none⟩) x.mems.length c6, .int .i64 x.key, .int .i64 x.elem, .bool x.opn]) := T
     replace R := Lib.hid ((hkX (w.heap.size + 1) (by omega)).trans R.out)
     replace R : Hid (Has wd22 (w.heap.size + 1) 71 #[.int .i64 0, .string ⟨#[]⟩, .int .i64 0, .int .i64 0, .int .i64 0, .slice none 0 0, .slice none 0 0, .int .i64 0, .int .i64 0, .bool false]) := R
     replace KA := Lib.hid (KA.out.move (fun k hl hb => hkX k (by omega)) hbX.size)
     replace KB := Lib.hid (KB.out.move (fun k hl hb => hkX k (by omega)) hbX.size)
     replace HZ := Lib.hid (HZ.out.move (fun k hl hb => hkX k (by omega)) hbX.size)
     replace hb0 := hb0.trans (hbX.mono (show w.heap.size ≤ g by omega))
     rw [← HEX] at hown8
     clear HEX hkX hbX hown7
     have hmr : MemsRen w (w.heap.size + 2) (.slice (some ⟨g, 0, none⟩) x.mems.length c6) x.mems.length (k + 1) ix x.mems wd22 := by
      have hA := KA.out.now
      have hB := KB.out.now
      have hne : ∀ q, q ≠ g → q < Gr → wd22.heap[q]? = wr.heap[q]? := fun q h1 h2 => by
       rcases Nat.lt_or_ge q g with h | h
       ·
        exact hA q (Nat.zero_le _) h
       exact hB q (by omega) h2
      have hbs : Gr ≤ wd22.heap.size := KB.out.le
      refine ⟨_, _, hown8, Tiled.sub k hlt (valV mf (.slice Z1 mf.keys.length z1) (.slice Z2 mf.items.length z2) (.slice Z3 mf.rest.length z3)) 5 ((HTIL.out.set1 k 1 (.string ⟨(nmC 102 mi).toArray⟩) hlt (by omega)).set1 k 2 (.int .i64 (ix u : Nat)) hlt (by omega)) (by simp [valV]), fun i h hik => ?_, fun i h hik => ?_⟩
      ·
       by_cases e : i = k
       ·
        subst e
        simp only [if_pos]
        rw [HCK.out, HREN.out, ← HMEQ.out]
        obtain ⟨S, hv, hS⟩ := HZ.out.now
        have hzle := HZ.out.le
        refine ⟨_, _, _, rfl, HRK.out _ _ _ _ _ (hv.keep (fun _ _ => rfl) (fun b hb => ?_))⟩
        obtain ⟨hb1, hb2, _⟩ := hS b hb
        refine ⟨by omega, by omega, fun e => ?_⟩
        simp only [Value.ownBlock, Option.some.injEq] at e
        omega
       simp only [if_neg e]
       exact (HDONE.out i h (by omega)).keep (fun p hp => World.cell?_of_block (hne p.block (fun e => hp.2.2 (by rw [e]; rfl)) (by have := hp.2.1; omega))) (fun b hb => ⟨hb.1, by have := hb.2.1; omega, hb.2.2⟩)
      simp only [if_neg (show i ≠ k by omega)]
      exact HTODO.out i h (by omega)
     have ho5 : wd22.ownsRow (w.heap.size + 2) 105 2 (.slice A5 x.syms.length c5) x.syms.length (rawsV (x.syms.map renS)) := by
      have hA := KA.out.now
      have hB := KB.out.now
      refine own_keep HO5.out fun q hq => ?_
      have hqs := HO5.out.lt q hq
      have hqg : q ≠ g := HSEP.out q hq
      rcases Nat.lt_or_ge q g with h | h
      ·
       exact hA q (Nat.zero_le _) h
      exact hB q (by omega) (by omega)
     have HMR := Lib.hid hmr
     have HO6 := Lib.hid ho5
     clear hmr ho5 hown8
     try clear hHeld
     refine hK.out _ _ ?_
     clear hK K
     refine wpAnyT_done (by kernel_rfl) ?_ _
     try clear hHeld
     clear KA
     clear KB
     clear HZ
     go_wp2_with fail
     go_roundw
     case rel => exact ⟨k + 1, by omega, by go_num, HO6.out, HMR.out, T.out, R.out, hb0⟩
     case measure => simp [intOf]; omega
    obtain rfl : k = x.mems.length := by omega
    have hall := hmr.all rfl
    have hsy := RdP.of_own19 hown5
    have SY := Lib.hid (keptRdP hsy)
    have ME := Lib.hid (keptMems hall)
    clear hmr hall hsy hown5
    have HW2 := R.out.here
    have HY := Lib.hid (⟨by rw [HNM.out], rfl, rfl⟩ : (renT n ix x).name = nm ∧ (renT n ix x).key = (if x.kind = 8 then ((ix x.key.toNat : Nat) : Int) else x.key) ∧ (renT n ix x).elem = (if x.kind = 7 ∨ x.kind = 8 ∨ x.kind = 9 then ((ix x.elem.toNat : Nat) : Int) else x.elem))
    have HCI := HX.out.ints
    by_cases h8 : x.kind = 8
    ·
     have hk8 : (0, x.key) ∈ usesC x := by rw [usesC_8 h8]; simp
     have he8 : (-1, x.elem) ∈ usesC x := by rw [usesC_8 h8]; simp
     have hck := HC.out _ (List.mem_map_of_mem (f := fun u => u.2.toNat) hk8)
     have hce := HC.out _ (List.mem_map_of_mem (f := fun u => u.2.toNat) he8)
     simp only [Int.toNat_of_nonneg (HU.out _ hk8), Int.toNat_of_nonneg (HU.out _ he8)] at hck hce
     have HCK := Lib.hid hck
     have HCE := Lib.hid hce
     have HEQ : Hid (typA (renT n ix x) (.slice A5 x.syms.length c5) (.slice A6 x.mems.length c6) = .agg #[.int .i64 x.kind, .string ⟨nm.toArray⟩, .int .i64 x.low, .int .i64 x.high, .int .i64 x.max, .slice A5 x.syms.length c5, .slice A6 x.mems.length c6, .int .i64 (ix x.key.toNat : Nat), .int .i64 (ix x.elem.toNat : Nat), .bool x.opn]) := by
      obtain ⟨h1, h2, h3⟩ := HY.out
      rw [if_pos h8] at h2
      rw [if_pos (.inr (.inl h8))] at h3
      show _ = _
      unfold typA
      rw [h1, h2, h3]
      rfl
     have t8 : (x.kind == 8) = true := by simp [h8]
     clear h8 hk8 he8 hck hce HY
     have cT_0 := T.out.e0
     have cT_7 := T.out.e7
     go_wp2_with fail
     clear cT_0 cT_7
     ((with_reducible refine (HCK.out _ hb0).mono ?_); rintro e wd12 ⟨rfl, hb13⟩)
     obtain ⟨T, R, SY, ME⟩ := b4 T R SY ME hb13
     replace hb0 := dT hb0 hb13
     clear hb13
     have cT_7 := T.out.e7
     have fT_7 := T.out.free 7
     go_upto_region 18 with fail
     clear cT_7 fT_7
     generalize hE15 : wd12.setCell _ _ = wd14
     obtain ⟨R, SY, ME⟩ := f3 R SY ME (eF hE15)
     replace T := dS7 T hE15
     replace hb0 := tf hb0 hE15
     clear hE15
     have cT_0 := T.out.e0
     have cT_8 := T.out.e8
     go_wp2_with fail
     clear cT_0 cT_8
     ((with_reducible refine (HCE.out _ hb0).mono ?_); rintro e wd16 ⟨rfl, hb17⟩)
     obtain ⟨T, R, SY, ME⟩ := b4 T R SY ME hb17
     replace hb0 := dT hb0 hb17
     clear hb17
     have cT_8 := T.out.e8
     have fT_8 := T.out.free 8
     go_upto_region 20 with fail
     clear cT_8 fT_8
     generalize hE19 : wd16.setCell _ _ = wd18
     obtain ⟨R, SY, ME⟩ := f3 R SY ME (eF hE19)
     replace T := dS8 T hE19
     replace hb0 := tf hb0 hE19
     clear hE19
     obtain ⟨cT_0, cT_1, cT_2, cT_3, cT_4, cT_5, cT_6, cT_7, cT_8, cT_9⟩ := T.out.c10
     go_wp2_with (refine sR R.out ?_)
     clear cT_0 cT_1 cT_2 cT_3 cT_4 cT_5 cT_6 cT_7 cT_8 cT_9
     generalize hE21 : wd18.setRow _ _ = wd20
     obtain ⟨T, SY, ME⟩ := f3 T SY ME (eR hE21)
     replace R := dO' R hE21
     replace hb0 := tr hb0 hE21
     clear hE21
     exact bodyPost_ret (v := .agg #[.int .i64 x.kind, .string ⟨nm.toArray⟩, .int .i64 x.low, .int .i64 x.high, .int .i64 x.max, .slice A5 x.syms.length c5, .slice A6 x.mems.length c6, .int .i64 (ix x.key.toNat : Nat), .int .i64 (ix x.elem.toNat : Nat), .bool x.opn]) (by simp [results, Tryz.results76, go_sem, R.out.c10]) rfl (⟨_, _, congrArg _ HEQ.out.symm, (ren_typP n HN.out ix HIB.out HX.out SY.out.now ME.out.now).sub (fun b hb => ⟨by have := hb.1; omega, by have := hb.2; have := SY.out.le; omega⟩), hb0, rfl⟩)
    by_cases h79 : x.kind = 7 ∨ x.kind = 9
    ·
     have he8 : (-1, x.elem) ∈ usesC x := by rw [usesC_79 h79]; simp
     have hce := HC.out _ (List.mem_map_of_mem (f := fun u => u.2.toNat) he8)
     simp only [Int.toNat_of_nonneg (HU.out _ he8)] at hce
     have HCE := Lib.hid hce
     have HEQ : Hid (typA (renT n ix x) (.slice A5 x.syms.length c5) (.slice A6 x.mems.length c6) = .agg #[.int .i64 x.kind, .string ⟨nm.toArray⟩, .int .i64 x.low, .int .i64 x.high, .int .i64 x.max, .slice A5 x.syms.length c5, .slice A6 x.mems.length c6, .int .i64 x.key, .int .i64 (ix x.elem.toNat : Nat), .bool x.opn]) := by
      obtain ⟨h1, h2, h3⟩ := HY.out
      rw [if_neg h8] at h2
      rw [if_pos (by omega)] at h3
      show _ = _
      unfold typA
      rw [h1, h2, h3]
      rfl
     have t8 : (x.kind == 8) = false := by simpa using h8
     rcases h79 with h7 | h7
     ·
      have t7 : (x.kind == 7) = true := by simp [h7]
      clear h8 h7 he8 hce HY
      have cT_0 := T.out.e0
      have cT_8 := T.out.e8
      go_wp2_with fail
      clear cT_0 cT_8
      ((with_reducible refine (HCE.out _ hb0).mono ?_); rintro e wd12 ⟨rfl, hb13⟩)
      obtain ⟨T, R, SY, ME⟩ := b4 T R SY ME hb13
      replace hb0 := dT hb0 hb13
      clear hb13
      have cT_8 := T.out.e8
      have fT_8 := T.out.free 8
      go_upto_region 20 with fail
      clear cT_8 fT_8
      generalize hE15 : wd12.setCell _ _ = wd14
      obtain ⟨R, SY, ME⟩ := f3 R SY ME (eF hE15)
      replace T := dS8 T hE15
      replace hb0 := tf hb0 hE15
      clear hE15
      obtain ⟨cT_0, cT_1, cT_2, cT_3, cT_4, cT_5, cT_6, cT_7, cT_8, cT_9⟩ := T.out.c10
      go_wp2_with (refine sR R.out ?_)
      clear cT_0 cT_1 cT_2 cT_3 cT_4 cT_5 cT_6 cT_7 cT_8 cT_9
      generalize hE17 : wd14.setRow _ _ = wd16
      obtain ⟨T, SY, ME⟩ := f3 T SY ME (eR hE17)
      replace R := dO' R hE17
      replace hb0 := tr hb0 hE17
      clear hE17
      exact bodyPost_ret (v := .agg #[.int .i64 x.kind, .string ⟨nm.toArray⟩, .int .i64 x.low, .int .i64 x.high, .int .i64 x.max, .slice A5 x.syms.length c5, .slice A6 x.mems.length c6, .int .i64 x.key, .int .i64 (ix x.elem.toNat : Nat), .bool x.opn]) (by simp [results, Tryz.results76, go_sem, R.out.c10]) rfl (⟨_, _, congrArg _ HEQ.out.symm, (ren_typP n HN.out ix HIB.out HX.out SY.out.now ME.out.now).sub (fun b hb => ⟨by have := hb.1; omega, by have := hb.2; have := SY.out.le; omega⟩), hb0, rfl⟩)
     have t7 : (x.kind == 7) = false := by simp [h7]
     have t9 : (x.kind == 9) = true := by simp [h7]
     clear h8 h7 he8 hce HY
     have cT_0 := T.out.e0
     have cT_8 := T.out.e8
     go_wp2_with fail
     clear cT_0 cT_8
     ((with_reducible refine (HCE.out _ hb0).mono ?_); rintro e wd12 ⟨rfl, hb13⟩)
     obtain ⟨T, R, SY, ME⟩ := b4 T R SY ME hb13
     replace hb0 := dT hb0 hb13
     clear hb13
     have cT_8 := T.out.e8
     have fT_8 := T.out.free 8
     go_upto_region 20 with fail
     clear cT_8 fT_8
     generalize hE15 : wd12.setCell _ _ = wd14
     obtain ⟨R, SY, ME⟩ := f3 R SY ME (eF hE15)
     replace T := dS8 T hE15
     replace hb0 := tf hb0 hE15
     clear hE15
     obtain ⟨cT_0, cT_1, cT_2, cT_3, cT_4, cT_5, cT_6, cT_7, cT_8, cT_9⟩ := T.out.c10
     go_wp2_with (refine sR R.out ?_)
     clear cT_0 cT_1 cT_2 cT_3 cT_4 cT_5 cT_6 cT_7 cT_8 cT_9
     generalize hE17 : wd14.setRow _ _ = wd16
     obtain ⟨T, SY, ME⟩ := f3 T SY ME (eR hE17)
     replace R := dO' R hE17
     replace hb0 := tr hb0 hE17
     clear hE17
     exact bodyPost_ret (v := .agg #[.int .i64 x.kind, .string ⟨nm.toArray⟩, .int .i64 x.low, .int .i64 x.high, .int .i64 x.max, .slice A5 x.syms.length c5, .slice A6 x.mems.length c6, .int .i64 x.key, .int .i64 (ix x.elem.toNat : Nat), .bool x.opn]) (by simp [results, Tryz.results76, go_sem, R.out.c10]) rfl (⟨_, _, congrArg _ HEQ.out.symm, (ren_typP n HN.out ix HIB.out HX.out SY.out.now ME.out.now).sub (fun b hb => ⟨by have := hb.1; omega, by have := hb.2; have := SY.out.le; omega⟩), hb0, rfl⟩)
    have HEQ : Hid (typA (renT n ix x) (.slice A5 x.syms.length c5) (.slice A6 x.mems.length c6) = .agg #[.int .i64 x.kind, .string ⟨nm.toArray⟩, .int .i64 x.low, .int .i64 x.high, .int .i64 x.max, .slice A5 x.syms.length c5, .slice A6 x.mems.length c6, .int .i64 x.key, .int .i64 x.elem, .bool x.opn]) := by
     obtain ⟨h1, h2, h3⟩ := HY.out
     rw [if_neg h8] at h2
     rw [if_neg (by omega)] at h3
     show _ = _
     unfold typA
     rw [h1, h2, h3]
     rfl
    have t8 : (x.kind == 8) = false := by simpa using h8
    have t7 : (x.kind == 7) = false := by simpa using fun h => h79 (.inl h)
    have t9 : (x.kind == 9) = false := by simpa using fun h => h79 (.inr h)
    clear h8 h79 HY
    obtain ⟨cT_0, cT_1, cT_2, cT_3, cT_4, cT_5, cT_6, cT_7, cT_8, cT_9⟩ := T.out.c10
    go_wp2_with (refine sR R.out ?_)
    clear cT_0 cT_1 cT_2 cT_3 cT_4 cT_5 cT_6 cT_7 cT_8 cT_9
    generalize hE13 : wr.setRow _ _ = wd12
    obtain ⟨T, SY, ME⟩ := f3 T SY ME (eR hE13)
    replace R := dO' R hE13
    replace hb0 := tr hb0 hE13
    clear hE13
    exact bodyPost_ret (v := .agg #[.int .i64 x.kind, .string ⟨nm.toArray⟩, .int .i64 x.low, .int .i64 x.high, .int .i64 x.max, .slice A5 x.syms.length c5, .slice A6 x.mems.length c6, .int .i64 x.key, .int .i64 x.elem, .bool x.opn]) (by simp [results, Tryz.results76, go_sem, R.out.c10]) rfl (⟨_, _, congrArg _ HEQ.out.symm, (ren_typP n HN.out ix HIB.out HX.out SY.out.now ME.out.now).sub (fun b hb => ⟨by have := hb.1; omega, by have := hb.2; have := SY.out.le; omega⟩), hb0, rfl⟩)
end Go.Proofs.YtlamhkffnlgofaaGreatDoor

/- copied: a value that reads the same, all of whose parts are new and no rows of ints. No condition. -/
import Derived.Test.YtlamhkffnlgofaaGreatDoorDecK
import Derived.Test.YtlamhkffnlgofaaGreatDoorHAK
import Derived.Test.YtlamhkffnlgofaaGreatDoorHAI
set_option maxHeartbeats 1600000
namespace Go.Proofs.YtlamhkffnlgofaaGreatDoor
open Go.ChangeShapes Go.WideShapes Go.ChangeAt Go.RowKit
theorem heap_setCellsX (g : Nat) : ∀ (vs : List Value) (o : Nat) (w : World) (k : Nat), k ≠ g → (w.setCells g o vs).heap[k]? = w.heap[k]?
 | [], _, _, _, _ => rfl
 | v :: r, o, w, k, hk => (heap_setCellsX g r (o + 1) (w.setCell ⟨g, o, none⟩ v) k hk).trans (Below.heap_setCell w ⟨g, o, none⟩ v k hk)
def CopyT (x : Val) (w : World) (e : Ending) (w' : World) : Prop :=
 ∃ vk vi vr, e = .returned (valA x vk vi vr) ∧ ValP w' (NewT w w') x vk vi vr ∧ Below w.heap.size w w'
theorem Kept.mark {w : World} {n : Nat} (h : n = w.heap.size) : Kept (fun _ => True) w n n := ⟨trivial, fun _ _ => trivial, by omega⟩
theorem Kept.own_at {w : World} {base m n size : Nat} {e : TypeId} {v : Value} {xs : List Value} (h : w.ownsRow base e size v n xs) (hm : m = w.heap.size) : Kept (fun w => w.ownsRow base e size v n xs) w base m := hm ▸ Kept.own h
theorem Kept.own1 {w : World} {base n c g size : Nat} {e : TypeId} {xs : List Value} (h : w.ownsRow base e size (.slice (some ⟨g, 0, none⟩) n c) n xs) : Kept (fun w => w.ownsRow base e size (.slice (some ⟨g, 0, none⟩) n c) n xs) w g (g + 1) :=
 ⟨h, fun _ hk => own_keep h fun b hb => by
  simp only [Value.ownBlock, Option.some.injEq] at hb; subst hb; exact hk _ (Nat.le_refl _) (Nat.lt_succ_self _), (h.lt g rfl).2⟩
theorem ValN.at_ {y : Val} {vk vi vr : Value} {W1 W : World} {L B : Nat} (h : ValP W (NewT W1 W) y vk vi vr) (hL : L = W1.heap.size) (hB : B = W.heap.size) : Kept (ValN L B y vk vi vr) W L B := by
 subst hL; subst hB
 have hN : ValN W1.heap.size W.heap.size y vk vi vr W := ⟨NewT W1 W, h, fun k h => h⟩
 exact ⟨hN, fun _ hk => (hN.kept (Nat.le_refl _)).st _ (fun k h1 h2 _ => hk k h1 h2), Nat.le_refl _⟩
theorem Kept.vals {w : World} {S : Nat → Prop} {L B : Nat} {v : Value} {xs : List Val} (h : RdValsP w S v xs) (hS : ∀ b, S b → L ≤ b ∧ b < B ∧ NotInt w b) (hB : B ≤ w.heap.size) : Kept (fun W => ∃ S, RdValsP W S v xs ∧ ∀ b, S b → L ≤ b ∧ b < B ∧ NotInt W b) w L B :=
 ⟨⟨S, h, hS⟩, fun _ hk => ⟨S, h.keep (fun p hp => World.cell?_of_block (hk p.block (hS _ hp).1 (hS _ hp).2.1)) (fun _ h => h), fun b hb => ⟨(hS b hb).1, (hS b hb).2.1, NotInt.to (hk b (hS b hb).1 (hS b hb).2.1) (hS b hb).2.2⟩⟩, hB⟩
theorem newT_vals {w W : World} {L B : Nat} {v : Value} {xs : List Val} (h : ∃ S, RdValsP W S v xs ∧ ∀ b, S b → L ≤ b ∧ b < B ∧ NotInt W b) (hL : w.heap.size ≤ L) (hB : B ≤ W.heap.size) : RdValsP W (NewT w W) v xs := by
 obtain ⟨S, h1, h2⟩ := h
 exact h1.keep (fun _ _ => rfl) fun b hb => ⟨Nat.le_trans hL (h2 b hb).1, Nat.lt_of_lt_of_le (h2 b hb).2.1 hB, (h2 b hb).2.2⟩
theorem newT_own {w W : World} {L n size : Nat} {T : TypeId} {v : Value} {xs : List Value} (h : W.ownsRow L T size v n xs) (hT : T ≠ 3) (hL : w.heap.size ≤ L) : RdP W (NewT w W) size v n xs := by
 obtain ⟨hl, A, c, hv, hc, h2⟩ := Rd.of_own h
 refine ⟨hl, A, c, hv, hc, ?_⟩
 rcases h2 with h2 | ⟨b, o, hA, hb, hcell⟩
 ·
  exact .inl h2
 have ho : v.ownBlock = some b := by rw [hv, hA]; rfl
 exact .inr ⟨b, o, hA, ⟨Nat.le_trans hL (h.lt b ho).1, hb, own_type h hT ho⟩, hcell⟩
structure CopL (w wo : World) (fld : List Val) (v : Value) (L k : Nat) (wr : World) : Prop where
 ex : ∃ (c : Nat → List Value) (xs : List Value), wr.ownsRow L 81 8 v fld.length xs ∧ Tiled 8 fld.length xs c ∧
  (∀ (i : Nat) (h : i < fld.length), i < k → RdValP wr (fun b => wo.heap.size ≤ b ∧ b < wr.heap.size ∧ NotInt wr b) fld[i] (c i)) ∧ ∀ (i : Nat) (h : i < fld.length), k ≤ i → RdValP wr (· < w.heap.size) fld[i] (c i)
 far : ∀ b, b < wo.heap.size → v.ownBlock ≠ some b → wr.heap[b]? = wo.heap[b]?
 bel : Below L wo wr
def Rng (L L' B : Nat) (w : World) (b : Nat) : Prop := (L ≤ b ∧ b < L' ∨ B ≤ b ∧ b < w.heap.size) ∧ NotInt w b
theorem CopL.done {w wo : World} {fld : List Val} {v : Value} {L L' : Nat} {wr : World} (h : CopL w wo fld v L fld.length wr) (hL : ∀ b, v.ownBlock = some b → b < L') : RdValsP wr (Rng L L' wo.heap.size wr) v fld := by
 obtain ⟨⟨c, xs, h1, h2, h3, _⟩, _, _⟩ := h
 exact ⟨c, (RowP.of_tiled h1 h2).keep (fun _ _ => rfl) (fun b hb => ⟨.inl ⟨(h1.lt b hb).1, hL b hb⟩, own_type h1 (by decide) hb⟩), fun i hi => (h3 i hi hi).keep (fun _ _ => rfl) (fun b hb => ⟨.inr ⟨hb.1, hb.2.1⟩, hb.2.2⟩)⟩
set_option maxRecDepth 100000 in
theorem ccopied_any : ∀ (N : Nat) (x : Val) (vk vi vr : Value) (w : World), wt x ≤ N → ValAt w w.heap.size x vk vi vr →
  Calls Tryz.prog 106 #[valA x vk vi vr] w (CopyT x w) := by
 intro N
 induction N with
 | zero => intro x vk vi vr w h; have := wt_pos x; omega
 | succ N ih =>
  intro x vk vi vr w hN hv
  have hwe := wt_eq x
  have hkl := wtL_len x.keys
  have hil := wtL_len x.items
  have hkeys := hv.keys
  have hitems := hv.items
  have hrest := hv.rest
  obtain ⟨A1, n1, A2, n2, A3, n3, rfl, rfl, rfl, -, -, -⟩ := hv.forms
  have IH := Lib.hid ih
  have HV := Lib.hid hv
  obtain ⟨ck, hkrow, hkel⟩ := hkeys
  obtain ⟨ci, hirow, hiel⟩ := hitems
  have hb1 : wtL x.keys ≤ N := by omega
  have hb2 : wtL x.items ≤ N := by omega
  have hlz := hv.lenz
  have HKL : Hid (∀ i, i < x.keys.length → (ck i).length = 8) := Lib.hid fun i hi => by obtain ⟨_, _, _, h, _⟩ := (hkel i hi).inv; rw [h]; rfl
  have HIL : Hid (∀ i, i < x.items.length → (ci i).length = 8) := Lib.hid fun i hi => by obtain ⟨_, _, _, h, _⟩ := (hiel i hi).inv; rw [h]; rfl
  have one : ∀ (l : List Val) (c : Nat → List Value), (∀ i, i < l.length → (c i).length = 8) → (∀ (i : Nat) (h : i < l.length), RdVal w w.heap.size l[i] (c i)) → ∀ u ∈ rowsV c l.length, u.oneCell' = true := by
   intro l c hl hel u hu
   obtain ⟨q, hq⟩ := List.mem_iff_getElem?.1 hu
   obtain ⟨h1, h2⟩ := rowsV_inv c 8 _ (by omega) hl q u hq
   obtain ⟨a1, a2, a3, h, hva⟩ := (hel _ h1).inv
   obtain ⟨_, _, _, _, _, _, rfl, rfl, rfl, -, -, -⟩ := hva.forms
   rw [h] at h2
   exact valV_one _ _ _ _ rfl rfl rfl u (List.mem_of_getElem? h2)
  have HCK : Hid (∀ W, Below w.heap.size w W → Calls Tryz.prog 127 #[.slice A1 x.keys.length n1] W (ClonedV W 81 8 x.keys.length (rowsV ck x.keys.length))) := Lib.hid fun W hb => by
   obtain ⟨hr1, hr2, hr3⟩ := (hkrow.keep (w' := W) fun p hp => hb.cell hp).flat' hb.size (by omega) HKL.out
   exact clonev_any x.keys.length A1 n1 _ W (by omega) hr1 (rowsV_len _ _ _ HKL.out) hr2 hr3 (one _ _ HKL.out hkel)
  have HCI : Hid (∀ W, Below w.heap.size w W → Calls Tryz.prog 127 #[.slice A2 x.items.length n2] W (ClonedV W 81 8 x.items.length (rowsV ci x.items.length))) := Lib.hid fun W hb => by
   obtain ⟨hr1, hr2, hr3⟩ := (hirow.keep (w' := W) fun p hp => hb.cell hp).flat' hb.size (by omega) HIL.out
   exact clonev_any x.items.length A2 n2 _ W (by omega) hr1 (rowsV_len _ _ _ HIL.out) hr2 hr3 (one _ _ HIL.out hiel)
  have HCR : Hid (∀ W, Below w.heap.size w W → Calls Tryz.prog 128 #[.slice A3 x.rest.length n3] W (ClonedV W 129 2 x.rest.length (rawsV x.rest))) := Lib.hid fun W hb => by
   obtain ⟨hr1, hr2, hr3⟩ := ((hrest.below hb).mono hb.size).flat (Nat.le_refl _)
   exact cloner_any x.rest.length A3 n3 _ W (by omega) hr1 (raws_len _) hr2 hr3 (raws_one _)
  have HKE := Lib.hid hkel
  have HIE := Lib.hid hiel
  clear ih hv hwe hkrow hirow hkel hiel hrest one
  go_enter Tryz.func106, Tryz.ntmps106
  go_upto_region 1 with fail
  refine am2 (fun wd2 hb1 B Z => ?_)
  have hw3 := hb1
  clear hb1
  obtain ⟨-, -, -, -, -, cB_5, cB_6, cB_7⟩ := B.out.c8
  refine wp_region_T (S := (fun w' => w'.cell? ⟨w.heap.size, 5, none⟩ = some (.slice A1 x.keys.length n1) ∧ w'.cell? ⟨w.heap.size, 6, none⟩ = some (.slice A2 x.items.length n2) ∧ w'.cell? ⟨w.heap.size, 7, none⟩ = some (.slice A3 x.rest.length n3))) (fun j => j == 10 || j == 11 || j == 12 || j == 13 || j == 14) (by kernel_rfl) ⟨cB_5, cB_6, cB_7⟩ (fun hHeld => ?_)
  clear cB_5 cB_6 cB_7
  have hb4 : Below wd2.heap.size wd2 (wd2.drew) := (Below.refl _ _).drew
  obtain ⟨B, Z⟩ := b2 B Z hb4
  replace hw3 := dT hw3 hb4
  clear hb4
  generalize wd2.drew = wd5 at *
  refine tkT 0 ?_
  refine tkT 1 ?_
  refine tkT 3 ?_
  refine tkT 4 ?_
  refine tkT 6 ?_
  refine tkT 7 ?_
  refine rdT1 2 fun K hK => ?_
  go_simp
  have hz5 := Z.out.here
  obtain ⟨L5, h5e⟩ : ∃ n, n = (wd5).heap.size := ⟨_, rfl⟩
  have M5 := Lib.hid (Kept.mark h5e)
  ((with_reducible refine (HCK.out _ hw3).mono ?_); rintro e wd6 ⟨v5, rfl, hown5, hb7⟩)
  obtain ⟨B, Z, M5⟩ := b3 B Z M5 hb7
  replace hw3 := dT hw3 hb7
  clear hb7
  obtain ⟨A5, c5, rfl⟩ := own_form hown5
  rw [← h5e] at hown5 hz5
  clear h5e
  have hL6 := M5.out.le
  obtain ⟨L6, h6e⟩ : ∃ n, n = (wd6).heap.size := ⟨_, rfl⟩
  rw [← h6e] at hL6
  have O5 := Lib.hid (Kept.own_at hown5 h6e)
  have HS5 : Hid (∀ b, (Value.slice A5 x.keys.length c5).ownBlock = some b → L5 ≤ b ∧ b < L6) := Lib.hid fun b hb => by rw [h6e]; exact hown5.lt b hb
  have M6 := Lib.hid (Kept.mark h6e)
  clear M5
  clear hown5
  try clear hHeld
  refine hK.out _ _ (⟨B.out.cell 5, ⟨B.out.cell 6, B.out.cell 7⟩⟩) (fun hHeld => ?_)
  clear hK K
  refine tkT 9 ?_
  refine rdT1 5 fun K hK => ?_
  go_simp
  ((with_reducible refine (HCI.out _ hw3).mono ?_); rintro e wd8 ⟨v6, rfl, hown6, hb9⟩)
  obtain ⟨B, Z, O5, M6⟩ := b4 B Z O5 M6 hb9
  replace hw3 := dT hw3 hb9
  clear hb9
  obtain ⟨A6, c6, rfl⟩ := own_form hown6
  rw [← h6e] at hown6
  clear h6e
  have hL7 := M6.out.le
  obtain ⟨L7, h7e⟩ : ∃ n, n = (wd8).heap.size := ⟨_, rfl⟩
  rw [← h7e] at hL7
  have O6 := Lib.hid (Kept.own_at hown6 h7e)
  have HS6 : Hid (∀ b, (Value.slice A6 x.items.length c6).ownBlock = some b → L6 ≤ b ∧ b < L7) := Lib.hid fun b hb => by rw [h7e]; exact hown6.lt b hb
  have M7 := Lib.hid (Kept.mark h7e)
  clear M6
  clear hown6
  try clear hHeld
  refine hK.out _ _ (⟨B.out.cell 5, ⟨B.out.cell 6, B.out.cell 7⟩⟩) (fun hHeld => ?_)
  clear hK K
  refine rdT1 8 fun K hK => ?_
  go_simp
  ((with_reducible refine (HCR.out _ hw3).mono ?_); rintro e wd10 ⟨v7, rfl, hown7, hb11⟩)
  obtain ⟨B, Z, O5, O6, M7⟩ := b5 B Z O5 O6 M7 hb11
  replace hw3 := dT hw3 hb11
  clear hb11
  obtain ⟨A7, c7, rfl⟩ := own_form hown7
  rw [← h7e] at hown7
  clear h7e
  have hL8 := M7.out.le
  obtain ⟨L8, h8e⟩ : ∃ n, n = (wd10).heap.size := ⟨_, rfl⟩
  rw [← h8e] at hL8
  have O7 := Lib.hid (Kept.own_at hown7 h8e)
  have M8 := Lib.hid (Kept.mark h8e)
  clear M7
  clear hown7 h8e
  try clear hHeld
  refine hK.out _ _ (⟨B.out.cell 5, ⟨B.out.cell 6, B.out.cell 7⟩⟩) (fun hHeld => ?_)
  clear hK K
  refine rdTL 10 fun K hK => ?_
  have cB_5 := B.out.e5
  have fB_5 := B.out.free 5
  go_simp
  clear cB_5 fB_5
  generalize hE13 : wd10.setCell _ _ = wd12
  obtain ⟨Z, O5, O6, O7, M8⟩ := f5 Z O5 O6 O7 M8 (eF hE13)
  replace B := dS5 B hE13
  replace hw3 := tf hw3 hE13
  clear hE13
  try clear hHeld
  refine hK.out _ _ ?_
  clear hK K
  refine rdTL 11 fun K hK => ?_
  go_simp
  try clear hHeld
  refine hK.out _ _ ?_
  clear hK K
  refine rdTL 12 fun K hK => ?_
  have cB_6 := B.out.e6
  have fB_6 := B.out.free 6
  go_simp
  clear cB_6 fB_6
  generalize hE15 : wd12.setCell _ _ = wd14
  obtain ⟨Z, O5, O6, O7, M8⟩ := f5 Z O5 O6 O7 M8 (eF hE15)
  replace B := dS6 B hE15
  replace hw3 := tf hw3 hE15
  clear hE15
  try clear hHeld
  refine hK.out _ _ ?_
  clear hK K
  refine rdTL 13 fun K hK => ?_
  go_simp
  try clear hHeld
  refine hK.out _ _ ?_
  clear hK K
  refine rdTL 14 fun K hK => ?_
  have cB_7 := B.out.e7
  have fB_7 := B.out.free 7
  go_simp
  clear cB_7 fB_7
  generalize hE17 : wd14.setCell _ _ = wd16
  obtain ⟨Z, O5, O6, O7, M8⟩ := f5 Z O5 O6 O7 M8 (eF hE17)
  replace B := dS7 B hE17
  replace hw3 := tf hw3 hE17
  clear hE17
  try clear hHeld
  refine hK.out _ _ ?_
  clear hK K
  refine wpAnyT_done (by kernel_rfl) ?_ _
  try clear hHeld
  clear M8
  have hl1 : Hid (CopL w wd16 x.keys (.slice A5 x.keys.length c5) L5 0 wd16) := Lib.hid ⟨⟨_, _, O5.out.now, Tiled.of_rows _ _ _ HKL.out, fun i h1 h2 => by omega, fun i h1 _ => ((HKE.out i h1).toP.keep (fun p hp => (hw3).cell hp) (fun _ h => h))⟩, fun _ _ _ => rfl, Below.refl _ _⟩
  have hz8 : L8 ≤ wd16.heap.size := O7.out.le
  have hb0 := hw3
  obtain ⟨wo, rfl⟩ : ∃ wo, wo = wd16 := ⟨_, rfl⟩
  have HB1 := Lib.hid B.out
  have HZ1 := Lib.hid Z.out
  have cB_5 := B.out.e5
  go_upto_region 3 with fail
  clear B Z cB_5
  go_loopw [22] (fun i wr => ∃ k : Nat, i = .int .i64 k ∧ k ≤ x.keys.length ∧ CopL w wo x.keys (.slice A5 x.keys.length c5) L5 k wr ∧ Has wr w.heap.size 81 #[.int .i64 x.kind, .bool x.bool, .int .i64 x.num, .string ⟨x.str.toArray⟩, .int .i64 x.id, (.slice A5 x.keys.length c5), (.slice A6 x.items.length c6), (.slice A7 x.rest.length c7)] ∧ Has wr (w.heap.size + 1) 81 #[.int .i64 0, .bool false, .int .i64 0, .string ⟨#[]⟩, .int .i64 0, .slice none 0 0, .slice none 0 0, .slice none 0 0] ∧ Below w.heap.size w wr) (fun i _ => x.keys.length - (intOf i).toNat)
  case atStart => exact ⟨0, rfl, by omega, hl1.out, HB1.out, HZ1.out, hb0⟩
  case round =>
   clear HB1 HZ1 hl1 hb0
   obtain ⟨k, rfl, hk, hC, B, Z, hb0⟩ := hrel
   replace B := Lib.hid B
   replace Z := Lib.hid Z
   obtain ⟨⟨c, xs, hown, htil, hdone, htodo⟩, hfar, hbel⟩ := hC
   by_cases hlt : k < x.keys.length
   ·
    obtain ⟨g, rfl⟩ : ∃ g, A5 = some ⟨g, 0, none⟩ := by
     rcases hown.2 with ⟨h, h2⟩ | ⟨g, cap, cur, h, _⟩
     ·
      omega
     injection h with h; exact ⟨g, h⟩
    obtain ⟨ak, ai, ar, hck, hva⟩ := ((htodo k hlt (Nat.le_refl _)).rd (B := w.heap.size) (fun _ h => h)).inv
    have hy : ∀ j u, (valV x.keys[k] ak ai ar)[j]? = some u → wr.cell? ⟨g, k * 8 + j, none⟩ = some u := fun j u hu => by
     have h8 : k * 8 + j < x.keys.length * 8 := by
      have hj := (List.getElem?_eq_some_iff.1 hu).1
      simp only [valV, List.length_cons, List.length_nil] at hj
      omega
     rw [hown.cellAt _ h8]
     exact htil.2.2 k hlt j u (by rw [hck]; exact hu)
    have hmem : wt x.keys[k] ≤ N := by have := wtL_mem x.keys _ (List.getElem_mem hlt); omega
    have hi1 : (k : Int) < x.keys.length := by omega
    have hd0 : decide ((k : Int) < 0) = false := by simp
    have hd1 : decide (x.keys.length ≤ k) = false := by simpa using hlt
    obtain ⟨Y1, m1, Y2, m2, Y3, m3, rfl, rfl, rfl, -, -, -⟩ := hva.forms
    have y0 := hy 0 _ rfl
    have y1 := hy 1 _ rfl
    have y2 := hy 2 _ rfl
    have y3 := hy 3 _ rfl
    have y4 := hy 4 _ rfl
    have y5 := hy 5 _ rfl
    have y6 := hy 6 _ rfl
    have y7 := hy 7 _ rfl
    simp only [Nat.add_zero] at y0
    have HVA := Lib.hid hva
    have OW := Lib.hid (Kept.own1 hown)
    have Htil := Lib.hid htil
    have Hdone := Lib.hid hdone
    have Htodo := Lib.hid htodo
    have Hmem := Lib.hid hmem
    have Hfar := Lib.hid hfar
    have hgb := HS5.out g rfl
    have hsw := hbel.size
    clear hy hva hown htil hdone htodo hmem hck hfar
    generalize hyy : x.keys[k] = y at *
    have Hyy := Lib.hid hyy
    have hb0r := hb0
    clear hyy
    go_upto_region 5 with fail
    clear y0 y1 y2 y3 y4 y5 y6 y7
    refine am1 (fun wd19 hb18 X => ?_)
    obtain ⟨B, Z, OW⟩ := b3 B Z OW hb18
    have hw20 := hb18
    clear hb18
    have cB_5 := B.out.e5
    obtain ⟨cX_0, cX_1, cX_2, cX_3, cX_4, cX_5, cX_6, cX_7⟩ := X.out.c8
    refine wp_region_held_drew (S := (fun w' => w'.cell? ⟨w.heap.size, 5, none⟩ = some (.slice (some ⟨g, 0, none⟩) x.keys.length c5) ∧ w'.cell? ⟨wr.heap.size, 0, none⟩ = some (.int .i64 y.kind) ∧ w'.cell? ⟨wr.heap.size, 1, none⟩ = some (.bool y.bool) ∧ w'.cell? ⟨wr.heap.size, 2, none⟩ = some (.int .i64 y.num) ∧ w'.cell? ⟨wr.heap.size, 3, none⟩ = some (.string ⟨y.str.toArray⟩) ∧ w'.cell? ⟨wr.heap.size, 4, none⟩ = some (.int .i64 y.id) ∧ w'.cell? ⟨wr.heap.size, 5, none⟩ = some (.slice Y1 y.keys.length m1) ∧ w'.cell? ⟨wr.heap.size, 6, none⟩ = some (.slice Y2 y.items.length m2) ∧ w'.cell? ⟨wr.heap.size, 7, none⟩ = some (.slice Y3 y.rest.length m3))) (by kernel_rfl) ⟨cB_5, cX_0, cX_1, cX_2, cX_3, cX_4, cX_5, cX_6, cX_7⟩ (fun hHeld => ?_)
    clear cB_5 cX_0 cX_1 cX_2 cX_3 cX_4 cX_5 cX_6 cX_7
    have hb21 : Below wd19.heap.size wd19 (wd19.drew) := (Below.refl _ _).drew
    obtain ⟨B, Z, X, OW⟩ := b4 B Z X OW hb21
    replace hw20 := dT hw20 hb21
    clear hb21
    generalize wd19.drew = wd22 at *
    refine tk 0 ?_
    refine tk 1 ?_
    refine tk 2 ?_
    refine tk 3 ?_
    refine rd1 4 fun K hK => ?_
    go_simp
    obtain ⟨z6, h6e⟩ : ∃ z, z = (wd22).heap.size := ⟨_, rfl⟩
    have hzz := (hw20).size
    rw [← h6e] at hzz
    ((with_reducible refine (IH.out y _ _ _ _ Hmem.out (HVA.out.keep (fun p hp => ((hw20).cell (by omega))) (by omega))).mono ?_); rintro e wd23 ⟨zk, zi, zr, rfl, hz, hb24⟩)
    obtain ⟨B, Z, X, OW⟩ := b4 B Z X OW hb24
    replace hw20 := dT hw20 hb24
    clear hb24
    obtain ⟨_, ⟨Z1, z1, rfl, _⟩, _⟩ := id hz.keys
    obtain ⟨_, ⟨Z2, z2, rfl, _⟩, _⟩ := id hz.items
    obtain ⟨_, Z3, z3, rfl, _⟩ := id hz.rest
    obtain ⟨z7, h7e⟩ : ∃ z, z = (wd23).heap.size := ⟨_, rfl⟩
    have HZ := Lib.hid (ValN.at_ hz h6e h7e)
    clear hz h6e h7e
    try clear hHeld
    refine hK.out _ _ (⟨B.out.cell 5, X.out.c8⟩) (fun hHeld => ?_)
    clear hK K
    refine tk 5 ?_
    refine rd1 6 fun K hK => ?_
    have ho7 := OW.out.now
    clear OW
    refine step_store_mid rfl 81 _ _ rfl g (k * 8) _ rfl rfl (own_there ho7 (k * 8) 8 (tile_lt hlt)) (by kernel_rfl) (by simp [Value.oneCell']) ?_
    have ho8 := own_setCells (valV y (.slice Z1 y.keys.length z1) (.slice Z2 y.items.length z2) (.slice Z3 y.rest.length z3)) xs (k * 8) _ ho7
    change K _ (wd23.setCells g (k * 8) (valV y (.slice Z1 y.keys.length z1) (.slice Z2 y.items.length z2) (.slice Z3 y.rest.length z3)))
    have hf7 := fun b h => (hw20).block b h
    have hs7 := (hw20).size
    have hb7 := hw20
    obtain ⟨wd25, HEX⟩ : ∃ ww, ww = wd23.setCells g (k * 8) (valV y (.slice Z1 y.keys.length z1) (.slice Z2 y.items.length z2) (.slice Z3 y.rest.length z3)) := ⟨_, rfl⟩
    rw [← HEX]
    have hkX : ∀ k, k ≠ g → wd25.heap[k]? = wd23.heap[k]? := fun k hk => by rw [HEX]; exact heap_setCellsX g _ _ _ k hk
    have hbX : Below g wd23 wd25 := by rw [HEX]; exact below_setCells (Nat.le_refl _) _ _ _ (Below.refl _ _)
    replace B := Lib.hid ((hkX (w.heap.size) (by omega)).trans B.out)
    replace B : Hid (Has wd25 (w.heap.size) 81 #[.int .i64 x.kind, .bool x.bool, .int .i64 x.num, .string ⟨x.str.toArray⟩, .int .i64 x.id, .slice (some ⟨g, 0, none⟩) x.keys.length c5, .slice A6 x.items.length c6, .slice A7 x.rest.length c7]) := B
    replace Z := Lib.hid ((hkX (w.heap.size + 1) (by omega)).trans Z.out)
    replace Z : Hid (Has wd25 (w.heap.size + 1) 81 #[.int .i64 0, .bool false, .int .i64 0, .string ⟨#[]⟩, .int .i64 0, .slice none 0 0, .slice none 0 0, .slice none 0 0]) := Z
    replace X := Lib.hid ((hkX (wr.heap.size) (by omega)).trans X.out)
    replace X : Hid (Has wd25 (wr.heap.size) 81 #[.int .i64 y.kind, .bool y.bool, .int .i64 y.num, .string ⟨y.str.toArray⟩, .int .i64 y.id, .slice Y1 y.keys.length m1, .slice Y2 y.items.length m2, .slice Y3 y.rest.length m3]) := X
    replace HZ := Lib.hid (HZ.out.move (fun k hl hb => hkX k (by omega)) hbX.size)
    replace hw20 := (hw20.mono (show g ≤ wr.heap.size by omega)).trans hbX
    rw [← HEX] at ho8
    try clear hHeld
    refine hK.out _ _ (⟨B.out.cell 5, X.out.c8⟩) (fun hHeld => ?_)
    clear hK K
    refine wpAnyH_done (by kernel_rfl) ?_ _
    try clear hHeld
    have hfar2 : ∀ b, b ≠ g → b < wr.heap.size → wd25.heap[b]? = wr.heap[b]? := fun b h1 h2 => (hkX b h1).trans (hf7 b h2)
    have hsX : wr.heap.size ≤ wd25.heap.size := Nat.le_trans hs7 hbX.size
    have htil8 := Htil.out.set k (valV y (.slice Z1 y.keys.length z1) (.slice Z2 y.items.length z2) (.slice Z3 y.rest.length z3)) hlt rfl
    have hzN := HZ.out.now
    have hzL := HZ.out.le
    have hb8 := ((hb7.mono (show g ≤ wr.heap.size by omega)).trans hbX)
    have hC8 : CopL w wo x.keys (.slice (some ⟨g, 0, none⟩) x.keys.length c5) L5 (k + 1) wd25 := by
     refine ⟨⟨_, _, ho8, htil8, fun i h1 h2 => ?_, fun i h1 h2 => ?_⟩, fun b h1 h2 => ?_, hbel.trans (hb8.mono (by omega))⟩
     ·
      by_cases e : i = k
      ·
       subst e
       rw [if_pos rfl, Hyy.out]
       obtain ⟨S, hv, hS⟩ := hzN
       exact hv.rd.keep (fun _ _ => rfl) (fun b hb => ⟨by have := (hS b hb).1; omega, by have := (hS b hb).2.1; omega, (hS b hb).2.2⟩)
      rw [if_neg e]
      exact (Hdone.out i h1 (by omega)).keep (fun p hp => World.cell?_of_block (hfar2 p.block (by have := hp.1; omega) hp.2.1)) (fun b hb => ⟨hb.1, by have := hb.2.1; omega, NotInt.to (hfar2 b (by have := hb.1; omega) hb.2.1) hb.2.2⟩)
     ·
      rw [if_neg (by omega)]
      exact (Htodo.out i h1 (by omega)).keep (fun p hp => World.cell?_of_block (hfar2 p.block (by have : p.block < w.heap.size := hp; omega) (by have : p.block < w.heap.size := hp; omega))) (fun _ h => h)
     have hne : b ≠ g := fun e => h2 (by rw [e]; rfl)
     exact (hfar2 b hne (by omega)).trans (Hfar.out b h1 h2)
    have hb08 := hb0r.trans (hb8.mono (by omega))
    have HC8 := Lib.hid hC8
    clear hC8 hzN htil8 hfar2 ho8 ho7 hf7 hb7 hkX hbX HEX hb8
    clear X
    clear HZ
    go_wp2_with fail
    go_roundw
    case rel => exact ⟨k + 1, by go_num, by omega, HC8.out, B.out, Z.out, hb08⟩
    case measure => simp [intOf]; omega
   obtain rfl : k = x.keys.length := by omega
   have hsw := hbel.size
   have hCd : RdValsP wr (Rng L5 L6 wo.heap.size wr) (.slice A5 x.keys.length c5) x.keys := CopL.done ⟨⟨c, xs, hown, htil, hdone, htodo⟩, hfar, hbel⟩ (fun b hb => (HS5.out b hb).2)
   have hO6 := O6.out.move (w' := wr) (fun q h1 h2 => hfar q (by omega) (fun e => by have := HS5.out q e; omega)) hsw
   have hO7 := O7.out.move (w' := wr) (fun q h1 h2 => hfar q (by omega) (fun e => by have := HS5.out q e; omega)) hsw
   have hl2 : Hid (CopL w wr x.items (.slice A6 x.items.length c6) L6 0 wr) := Lib.hid ⟨⟨_, _, hO6.now, Tiled.of_rows _ _ _ HIL.out, fun i h1 h2 => by omega, fun i h1 _ => ((HIE.out i h1).toP.keep (fun p hp => hb0.cell hp) (fun _ h => h))⟩, fun _ _ _ => rfl, Below.refl _ _⟩
   have HCd := Lib.hid hCd
   have HO7 := Lib.hid hO7
   have HB1 := Lib.hid B.out
   have HZ1 := Lib.hid Z.out
   have hz9 : L8 ≤ wr.heap.size := by omega
   clear hCd hO6 hO7 hown htil hdone htodo hfar hbel O5 O6 O7
   obtain ⟨wo2, rfl⟩ : ∃ wo2 : World, wo2 = wr := ⟨_, rfl⟩
   have cB_6 := B.out.e6
   go_upto_region 8 with fail
   clear B Z cB_6
   go_loopw [37] (fun i wr => ∃ k : Nat, i = .int .i64 k ∧ k ≤ x.items.length ∧ CopL w wo2 x.items (.slice A6 x.items.length c6) L6 k wr ∧ Has wr w.heap.size 81 #[.int .i64 x.kind, .bool x.bool, .int .i64 x.num, .string ⟨x.str.toArray⟩, .int .i64 x.id, .slice A5 x.keys.length c5, .slice A6 x.items.length c6, .slice A7 x.rest.length c7] ∧ Has wr (w.heap.size + 1) 81 #[.int .i64 0, .bool false, .int .i64 0, .string ⟨#[]⟩, .int .i64 0, .slice none 0 0, .slice none 0 0, .slice none 0 0] ∧ Below w.heap.size w wr) (fun i _ => x.items.length - (intOf i).toNat)
   case atStart => exact ⟨0, rfl, by omega, hl2.out, HB1.out, HZ1.out, hb0⟩
   case round =>
    clear HB1 HZ1 hl2 hb0
    obtain ⟨k, rfl, hk, hC, B, Z, hb0⟩ := hrel
    replace B := Lib.hid B
    replace Z := Lib.hid Z
    obtain ⟨⟨c, xs, hown, htil, hdone, htodo⟩, hfar, hbel⟩ := hC
    by_cases hlt : k < x.items.length
    ·
     obtain ⟨g, rfl⟩ : ∃ g, A6 = some ⟨g, 0, none⟩ := by
      rcases hown.2 with ⟨h, h2⟩ | ⟨g, cap, cur, h, _⟩
      ·
       omega
      injection h with h; exact ⟨g, h⟩
     obtain ⟨ak, ai, ar, hck, hva⟩ := ((htodo k hlt (Nat.le_refl _)).rd (B := w.heap.size) (fun _ h => h)).inv
     have hy : ∀ j u, (valV x.items[k] ak ai ar)[j]? = some u → wr.cell? ⟨g, k * 8 + j, none⟩ = some u := fun j u hu => by
      have h8 : k * 8 + j < x.items.length * 8 := by
       have hj := (List.getElem?_eq_some_iff.1 hu).1
       simp only [valV, List.length_cons, List.length_nil] at hj
       omega
      rw [hown.cellAt _ h8]
      exact htil.2.2 k hlt j u (by rw [hck]; exact hu)
     have hmem : wt x.items[k] ≤ N := by have := wtL_mem x.items _ (List.getElem_mem hlt); omega
     have hi1 : (k : Int) < x.items.length := by omega
     have hd0 : decide ((k : Int) < 0) = false := by simp
     have hd1 : decide (x.items.length ≤ k) = false := by simpa using hlt
     obtain ⟨Y1, m1, Y2, m2, Y3, m3, rfl, rfl, rfl, -, -, -⟩ := hva.forms
     have y0 := hy 0 _ rfl
     have y1 := hy 1 _ rfl
     have y2 := hy 2 _ rfl
     have y3 := hy 3 _ rfl
     have y4 := hy 4 _ rfl
     have y5 := hy 5 _ rfl
     have y6 := hy 6 _ rfl
     have y7 := hy 7 _ rfl
     simp only [Nat.add_zero] at y0
     have HVA := Lib.hid hva
     have OW := Lib.hid (Kept.own1 hown)
     have Htil := Lib.hid htil
     have Hdone := Lib.hid hdone
     have Htodo := Lib.hid htodo
     have Hmem := Lib.hid hmem
     have Hfar := Lib.hid hfar
     have hgb := HS6.out g rfl
     have hsw := hbel.size
     clear hy hva hown htil hdone htodo hmem hck hfar
     generalize hyy : x.items[k] = y at *
     have Hyy := Lib.hid hyy
     have hb0r := hb0
     clear hyy
     go_upto_region 10 with fail
     clear y0 y1 y2 y3 y4 y5 y6 y7
     refine am1 (fun wd19 hb18 X => ?_)
     obtain ⟨B, Z, OW⟩ := b3 B Z OW hb18
     have hw20 := hb18
     clear hb18
     have cB_6 := B.out.e6
     obtain ⟨cX_0, cX_1, cX_2, cX_3, cX_4, cX_5, cX_6, cX_7⟩ := X.out.c8
     refine wp_region_held_drew (S := (fun w' => w'.cell? ⟨w.heap.size, 6, none⟩ = some (.slice (some ⟨g, 0, none⟩) x.items.length c6) ∧ w'.cell? ⟨wr.heap.size, 0, none⟩ = some (.int .i64 y.kind) ∧ w'.cell? ⟨wr.heap.size, 1, none⟩ = some (.bool y.bool) ∧ w'.cell? ⟨wr.heap.size, 2, none⟩ = some (.int .i64 y.num) ∧ w'.cell? ⟨wr.heap.size, 3, none⟩ = some (.string ⟨y.str.toArray⟩) ∧ w'.cell? ⟨wr.heap.size, 4, none⟩ = some (.int .i64 y.id) ∧ w'.cell? ⟨wr.heap.size, 5, none⟩ = some (.slice Y1 y.keys.length m1) ∧ w'.cell? ⟨wr.heap.size, 6, none⟩ = some (.slice Y2 y.items.length m2) ∧ w'.cell? ⟨wr.heap.size, 7, none⟩ = some (.slice Y3 y.rest.length m3))) (by kernel_rfl) ⟨cB_6, cX_0, cX_1, cX_2, cX_3, cX_4, cX_5, cX_6, cX_7⟩ (fun hHeld => ?_)
     clear cB_6 cX_0 cX_1 cX_2 cX_3 cX_4 cX_5 cX_6 cX_7
     have hb21 : Below wd19.heap.size wd19 (wd19.drew) := (Below.refl _ _).drew
     obtain ⟨B, Z, X, OW⟩ := b4 B Z X OW hb21
     replace hw20 := dT hw20 hb21
     clear hb21
     generalize wd19.drew = wd22 at *
     refine tk 0 ?_
     refine tk 1 ?_
     refine tk 2 ?_
     refine tk 3 ?_
     refine rd1 4 fun K hK => ?_
     go_simp
     obtain ⟨z6, h6e⟩ : ∃ z, z = (wd22).heap.size := ⟨_, rfl⟩
     have hzz := (hw20).size
     rw [← h6e] at hzz
     ((with_reducible refine (IH.out y _ _ _ _ Hmem.out (HVA.out.keep (fun p hp => ((hw20).cell (by omega))) (by omega))).mono ?_); rintro e wd23 ⟨zk, zi, zr, rfl, hz, hb24⟩)
     obtain ⟨B, Z, X, OW⟩ := b4 B Z X OW hb24
     replace hw20 := dT hw20 hb24
     clear hb24
     obtain ⟨_, ⟨Z1, z1, rfl, _⟩, _⟩ := id hz.keys
     obtain ⟨_, ⟨Z2, z2, rfl, _⟩, _⟩ := id hz.items
     obtain ⟨_, Z3, z3, rfl, _⟩ := id hz.rest
     obtain ⟨z7, h7e⟩ : ∃ z, z = (wd23).heap.size := ⟨_, rfl⟩
     have HZ := Lib.hid (ValN.at_ hz h6e h7e)
     clear hz h6e h7e
     try clear hHeld
     refine hK.out _ _ (⟨B.out.cell 6, X.out.c8⟩) (fun hHeld => ?_)
     clear hK K
     refine tk 5 ?_
     refine rd1 6 fun K hK => ?_
     have ho7 := OW.out.now
     clear OW
     refine step_store_mid rfl 81 _ _ rfl g (k * 8) _ rfl rfl (own_there ho7 (k * 8) 8 (tile_lt hlt)) (by kernel_rfl) (by simp [Value.oneCell']) ?_
     have ho8 := own_setCells (valV y (.slice Z1 y.keys.length z1) (.slice Z2 y.items.length z2) (.slice Z3 y.rest.length z3)) xs (k * 8) _ ho7
     change K _ (wd23.setCells g (k * 8) (valV y (.slice Z1 y.keys.length z1) (.slice Z2 y.items.length z2) (.slice Z3 y.rest.length z3)))
     have hf7 := fun b h => (hw20).block b h
     have hs7 := (hw20).size
     have hb7 := hw20
     obtain ⟨wd25, HEX⟩ : ∃ ww, ww = wd23.setCells g (k * 8) (valV y (.slice Z1 y.keys.length z1) (.slice Z2 y.items.length z2) (.slice Z3 y.rest.length z3)) := ⟨_, rfl⟩
     rw [← HEX]
     have hkX : ∀ k, k ≠ g → wd25.heap[k]? = wd23.heap[k]? := fun k hk => by rw [HEX]; exact heap_setCellsX g _ _ _ k hk
     have hbX : Below g wd23 wd25 := by rw [HEX]; exact below_setCells (Nat.le_refl _) _ _ _ (Below.refl _ _)
     replace B := Lib.hid ((hkX (w.heap.size) (by omega)).trans B.out)
     replace B : Hid (Has wd25 (w.heap.size) 81 #[.int .i64 x.kind, .bool x.bool, .int .i64 x.num, .string ⟨x.str.toArray⟩, .int .i64 x.id, .slice A5 x.keys.length c5, .slice (some ⟨g, 0, none⟩) x.items.length c6, .slice A7 x.rest.length c7]) := B
     replace Z := Lib.hid ((hkX (w.heap.size + 1) (by omega)).trans Z.out)
     replace Z : Hid (Has wd25 (w.heap.size + 1) 81 #[.int .i64 0, .bool false, .int .i64 0, .string ⟨#[]⟩, .int .i64 0, .slice none 0 0, .slice none 0 0, .slice none 0 0]) := Z
     replace X := Lib.hid ((hkX (wr.heap.size) (by omega)).trans X.out)
     replace X : Hid (Has wd25 (wr.heap.size) 81 #[.int .i64 y.kind, .bool y.bool, .int .i64 y.num, .string ⟨y.str.toArray⟩, .int .i64 y.id, .slice Y1 y.keys.length m1, .slice Y2 y.items.length m2, .slice Y3 y.rest.length m3]) := X
     replace HZ := Lib.hid (HZ.out.move (fun k hl hb => hkX k (by omega)) hbX.size)
     replace hw20 := (hw20.mono (show g ≤ wr.heap.size by omega)).trans hbX
     rw [← HEX] at ho8
     try clear hHeld
     refine hK.out _ _ (⟨B.out.cell 6, X.out.c8⟩) (fun hHeld => ?_)
     clear hK K
     refine wpAnyH_done (by kernel_rfl) ?_ _
     try clear hHeld
     have hfar2 : ∀ b, b ≠ g → b < wr.heap.size → wd25.heap[b]? = wr.heap[b]? := fun b h1 h2 => (hkX b h1).trans (hf7 b h2)
     have hsX : wr.heap.size ≤ wd25.heap.size := Nat.le_trans hs7 hbX.size
     have htil8 := Htil.out.set k (valV y (.slice Z1 y.keys.length z1) (.slice Z2 y.items.length z2) (.slice Z3 y.rest.length z3)) hlt rfl
     have hzN := HZ.out.now
     have hzL := HZ.out.le
     have hb8 := ((hb7.mono (show g ≤ wr.heap.size by omega)).trans hbX)
     have hC8 : CopL w wo2 x.items (.slice (some ⟨g, 0, none⟩) x.items.length c6) L6 (k + 1) wd25 := by
      refine ⟨⟨_, _, ho8, htil8, fun i h1 h2 => ?_, fun i h1 h2 => ?_⟩, fun b h1 h2 => ?_, hbel.trans (hb8.mono (by omega))⟩
      ·
       by_cases e : i = k
       ·
        subst e
        rw [if_pos rfl, Hyy.out]
        obtain ⟨S, hv, hS⟩ := hzN
        exact hv.rd.keep (fun _ _ => rfl) (fun b hb => ⟨by have := (hS b hb).1; omega, by have := (hS b hb).2.1; omega, (hS b hb).2.2⟩)
       rw [if_neg e]
       exact (Hdone.out i h1 (by omega)).keep (fun p hp => World.cell?_of_block (hfar2 p.block (by have := hp.1; omega) hp.2.1)) (fun b hb => ⟨hb.1, by have := hb.2.1; omega, NotInt.to (hfar2 b (by have := hb.1; omega) hb.2.1) hb.2.2⟩)
      ·
       rw [if_neg (by omega)]
       exact (Htodo.out i h1 (by omega)).keep (fun p hp => World.cell?_of_block (hfar2 p.block (by have : p.block < w.heap.size := hp; omega) (by have : p.block < w.heap.size := hp; omega))) (fun _ h => h)
      have hne : b ≠ g := fun e => h2 (by rw [e]; rfl)
      exact (hfar2 b hne (by omega)).trans (Hfar.out b h1 h2)
     have hb08 := hb0r.trans (hb8.mono (by omega))
     have HC8 := Lib.hid hC8
     clear hC8 hzN htil8 hfar2 ho8 ho7 hf7 hb7 hkX hbX HEX hb8
     clear X
     clear HZ
     go_wp2_with fail
     go_roundw
     case rel => exact ⟨k + 1, by go_num, by omega, HC8.out, B.out, Z.out, hb08⟩
     case measure => simp [intOf]; omega
    obtain rfl : k = x.items.length := by omega
    have hsw2 := hbel.size
    have hI : RdValsP wr (Rng L6 L7 wo2.heap.size wr) (.slice A6 x.items.length c6) x.items := CopL.done ⟨⟨c, xs, hown, htil, hdone, htodo⟩, hfar, hbel⟩ (fun b hb => (HS6.out b hb).2)
    have hR := (HO7.out.move (w' := wr) (fun q h1 h2 => hfar q (by omega) (fun e => by have := HS6.out q e; omega)) hsw2)
    have hne : ∀ b, Rng L5 L6 wo.heap.size wo2 b → wr.heap[b]? = wo2.heap[b]? := fun b hb => hfar b (by have := hb.1; omega) (fun e => by have := HS6.out b e; have := hb.1; omega)
    have hK : RdValsP wr (fun b => w.heap.size + 2 ≤ b ∧ b < wr.heap.size ∧ NotInt wr b) (.slice A5 x.keys.length c5) x.keys := HCd.out.keep (fun p hp => World.cell?_of_block (hne _ hp)) (fun b hb => ⟨by have := hb.1; omega, by have := hb.1; omega, NotInt.to (hne _ hb) hb.2⟩)
    replace B := B.out
    replace Z := Z.out
    replace B := Lib.hid B
    replace Z := Lib.hid Z
    have KI := Lib.hid (Kept.vals (L := w.heap.size + 2) (B := wr.heap.size) hI (fun b hb => ⟨by have := hb.1; omega, by have := hb.1; omega, hb.2⟩) (Nat.le_refl _))
    have KK := Lib.hid (Kept.vals (L := w.heap.size + 2) (B := wr.heap.size) hK (fun b hb => hb) (Nat.le_refl _))
    have KR := Lib.hid (hR)
    clear hI hK hR hne hown htil hdone htodo hfar hbel
    obtain ⟨cB_0, cB_1, cB_2, cB_3, cB_4, cB_5, cB_6, cB_7⟩ := B.out.c8
    go_wp2_with (refine sR Z.out ?_)
    clear cB_0 cB_1 cB_2 cB_3 cB_4 cB_5 cB_6 cB_7
    generalize hE19 : wr.setRow _ _ = wd18
    obtain ⟨B, KI, KK, KR⟩ := f4 B KI KK KR (eR hE19)
    replace Z := dO' Z hE19
    replace hb0 := tr hb0 hE19
    clear hE19
    have hle := KK.out.le
    exact bodyPost_ret (v := valA x (.slice A5 x.keys.length c5) (.slice A6 x.items.length c6) (.slice A7 x.rest.length c7)) (by simp [results, Tryz.results106, go_sem, Z.out.c8]) rfl (⟨_, _, _, rfl, ⟨HV.out.ints, HV.out.strl, HV.out.lenz, HV.out.raws, newT_vals KK.out.now (by omega) hle, newT_vals KI.out.now (by omega) hle, newT_own KR.out.now (by decide) (by omega)⟩, hb0⟩)
end Go.Proofs.YtlamhkffnlgofaaGreatDoor

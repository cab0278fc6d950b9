/- What canon.Canon computes. No condition. -/
import Derived.Test.YtlamhkffnlgofaaGreatDoorHAO
import Derived.Test.YtlamhkffnlgofaaGreatDoorRen
import Derived.Test.YtlamhkffnlgofaaGreatDoorNumM
import Derived.Test.YtlamhkffnlgofaaGreatDoorHAN
set_option maxHeartbeats 6400000
namespace Go.Proofs.YtlamhkffnlgofaaGreatDoor
open Go.ChangeShapes Go.WideShapes Go.ChangeAt Go.RowKit
theorem syms_few {x : Typ} (h : formB x = true) : x.syms.length ≤ 16 := by
 by_cases hk : x.kind = 4
 ·
  unfold formB okT at h
  simp only [hk] at h
  simp only [Bool.and_eq_true] at h
  have := h.2.1
  simp [symB, idsB] at this
  exact this.2.2.2
 rw [(form_zero h).2.2.2.2 hk]; simp
set_option maxRecDepth 100000 in
theorem canon1_any (f : List Nat) (cl : Nat → Nat) (n : Nat) (p5 p7 b L : Nat) (A : Option Addr) (c u : Nat) (hu : u < n) (hcl : cl u ≤ 4294967296) (w : World) (P7 : Has w p7 130 #[.map (some b)]) (P5 : Has w p5 39 #[.slice A n c]) (hm : NumAt w b f)
  (hr : w.ownsRow L 3 1 (.slice A n c) n ((List.range n).map fun i => .int .i64 (cl i : Nat))) :
  Calls Tryz.prog 77 #[.int .i64 (u : Nat), .pointer (some ⟨p7, 0, none⟩), .pointer (some ⟨p5, 0, none⟩)] w fun e w' => e = .returned (.int .i64 (if cl u ∈ f then f.idxOf (cl u) else 0 : Nat)) ∧ Below w.heap.size w w' := by
 obtain ⟨g, rfl⟩ : ∃ g, A = some ⟨g, 0, none⟩ := by
  rcases hr.2 with ⟨h, h2⟩ | ⟨g, cap, cur, h, _⟩
  ·
   omega
  injection h with h; exact ⟨g, h⟩
 have hcell := hr.cellAt u (by omega)
 have hd0 : decide ((u : Int) < 0) = false := by simp
 have hd1 : decide (n ≤ u) = false := by simpa using hu
 rw [List.getElem?_map, List.getElem?_range hu] at hcell
 simp only [Option.map_some] at hcell
 have hbg := (hr.lt g rfl).2
 replace P7 := Lib.hid P7
 replace P5 := Lib.hid P5
 have NM := Lib.hid (hm.kept)
 have CL := Lib.hid (keptCellC hcell)
 clear hm hr hcell
 generalize cl u = q at *
 obtain ⟨r, hr⟩ : ∃ r : Nat, r = if q ∈ f then f.idxOf q else 0 := ⟨_, rfl⟩
 rw [← hr]
 have HRR := Lib.hid hr
 clear hr
 go_enter Tryz.func77, Tryz.ntmps77
 go_upto_region 1 with fail
 have cP7_0 := P7.out.e0
 have cP5_0 := P5.out.e0
 refine wp_region_held_drew (S := (fun w' => w'.cell? ⟨p7, 0, none⟩ = some (.map (some b)) ∧ w'.cell? ⟨p5, 0, none⟩ = some (.slice (some ⟨g, 0, none⟩) n c) ∧ (w'.cell? ⟨g, u, none⟩ = some (.int .i64 (q : Nat))) ∧ ((Instr.lookup 130 (.map (some b)) (.int .i64 (q : Int)) false).run Tryz.prog w' = .ok (.int .i64 (r : Nat)) w'))) (by kernel_rfl) ⟨cP7_0, cP5_0, (CL.out.now), ((by rw [HRR.out]; refine NumAt.look1 ?_ q hcl; exact NumAt.keep NM.out.now rfl))⟩ (fun hHeld => ?_)
 clear cP7_0 cP5_0
 have hb1 : Below w.heap.size w (w.drew) := (Below.refl _ _).drew
 obtain ⟨P7, P5, NM, CL⟩ := b4 P7 P5 NM CL hb1
 have hw3 := hb1
 clear hb1
 generalize w.drew = wd2 at *
 refine tk 0 ?_
 refine tk 1 ?_
 refine tk 2 ?_
 refine tk 3 ?_
 refine tk 4 ?_
 refine tk 5 ?_
 refine tk 6 ?_
 refine wpAnyH_done (by kernel_rfl) ?_ _
 try clear hHeld
 go_wp2_with fail
 go_ret
 exact ⟨rfl, hw3⟩
theorem bfs_next {c : Nat → Nat} {o : Nat → List Nat} {k n a : Nat} {f : List Nat} (h : f[n]? = some a) : bfs c o (k + 1) n f = bfs c o k (n + 1) (addC c f (o a)) := by rw [bfs, h]
theorem bfs_end {c : Nat → Nat} {o : Nat → List Nat} {k n : Nat} {f : List Nat} (h : f.length ≤ n) : bfs c o k n f = f := by
 cases k with
 | zero => rfl
 | succ k => rw [bfs, List.getElem?_eq_none h]
theorem own_has1 {w : World} {g base : Nat} {T : TypeId} {u : Value} (h : Has w g T #[u]) (hb : base ≤ g) : w.ownsRow base T 1 (.slice (some ⟨g, 0, none⟩) 1 1) 1 [u] :=
 ⟨rfl, .inr ⟨g, 1, #[u], rfl, hb, h, Nat.le_refl _, by decide, rfl, rfl⟩⟩
def nV (c : Nat) : Value := .int .i64 (c : Nat)
noncomputable def clsV (ts : List Typ) : List Value := (List.range ts.length).map fun i => .int .i64 (clsN ts i : Nat)
theorem clsV_at (ts : List Typ) (i : Nat) (h : i < ts.length) : (clsV ts)[i]? = some (.int .i64 (clsN ts i : Nat)) := by
 unfold clsV; rw [List.getElem?_map, List.getElem?_range h]; rfl
theorem cells10_kept {w : World} {b o : Nat} {x : Typ} {vs vm : Value} (h : Cells10 w b o x vs vm) (hb : b < w.heap.size) : Kept (fun w => Cells10 w b o x vs vm) w b (b + 1) :=
 ⟨h, fun w' hk => by
  have e : ∀ i, w'.cell? ⟨b, i, none⟩ = w.cell? ⟨b, i, none⟩ := fun i => World.cell?_of_block (hk b (Nat.le_refl _) (Nat.lt_succ_self _))
  obtain ⟨y0, y1, y2, y3, y4, y5, y6, y7, y8, y9⟩ := h
  exact ⟨(e _).trans y0, (e _).trans y1, (e _).trans y2, (e _).trans y3, (e _).trans y4, (e _).trans y5, (e _).trans y6, (e _).trans y7, (e _).trans y8, (e _).trans y9⟩, hb⟩
abbrev Cells10' (w : World) (b o : Nat) (t : Typ) (vs vm : Value) : Prop :=
 w.cell? ⟨b, o, none⟩ = some (.int .i64 t.kind) ∧ w.cell? ⟨b, o + 1, none⟩ = some (.string ⟨t.name.toArray⟩) ∧ w.cell? ⟨b, o + 2, none⟩ = some (.int .i64 t.low) ∧ w.cell? ⟨b, o + 3, none⟩ = some (.int .i64 t.high) ∧ w.cell? ⟨b, o + 4, none⟩ = some (.int .i64 t.max) ∧
 w.cell? ⟨b, o + 5, none⟩ = some vs ∧ w.cell? ⟨b, o + 6, none⟩ = some vm ∧ w.cell? ⟨b, o + 7, none⟩ = some (.int .i64 t.key) ∧ w.cell? ⟨b, o + 8, none⟩ = some (.int .i64 t.elem) ∧ w.cell? ⟨b, o + 9, none⟩ = some (.bool t.opn)
def CanH (w wr : World) (bT oT n c i gc cc gP5 gP7 gm : Nat) (cv : List Value) : Prop :=
 Has wr w.heap.size 27 #[.slice (some ⟨bT, oT, none⟩) n c, .int .i64 (i : Nat)] ∧ Has wr (w.heap.size + 1) 27 #[.slice none 0 0, .int .i64 0] ∧
 Has wr gP5 39 #[.slice (some ⟨gc, 0, none⟩) n cc] ∧ Has wr gP7 130 #[.map (some gm)] ∧ wr.ownsRow (w.heap.size + 2) 3 1 (.slice (some ⟨gc, 0, none⟩) n cc) n cv ∧ Below w.heap.size w wr
theorem typP_kept {w : World} {L B : Nat} {y : Typ} {vs vm : Value} (h : TypP w (fun b => L ≤ b ∧ b < B) y vs vm) (hB : B ≤ w.heap.size) : Kept (fun w' => TypP w' (fun b => L ≤ b ∧ b < B) y vs vm) w L B :=
 ⟨h, fun _ hk => h.keep (fun p hp => World.cell?_of_block (hk p.block hp.1 hp.2)) (fun _ h => h), hB⟩
theorem can_take {l : List Typ} {k : Nat} {y : Typ} (h : l[k]? = some y) : l.take (k + 1) = l.take k ++ [y] := by rw [List.take_add_one, h]; rfl
theorem info_typC : (Tryz.prog.info? 71).map (fun i => (i.zero, i.size, i.bytes)) = some (some (.agg #[.int .i64 0, .string ByteArray.empty, .int .i64 0, .int .i64 0, .int .i64 0, .slice none 0 0, .slice none 0 0, .int .i64 0, .int .i64 0, .bool false]), 10, 120) := by kernel_rfl
theorem usesC_lenC (x : Typ) (h : x.mems.length ≤ 1000) : (usesC x).length ≤ 1002 := by
 unfold usesC; simp only [List.length_append, List.length_map]
 split <;> split <;> simp <;> omega
def CanPost (ts : List Typ) (t : Int) (w : World) (e : Ending) (w' : World) : Prop := Below w.heap.size w w' ∧
 ((rootE ts t ≠ 0 ∧ e = .returned (.tuple #[.agg #[.slice none 0 0, .int .i64 0], .int .i64 (rootE ts t)])) ∨
  rootE ts t = 0 ∧ ∃ A c, e = .returned (.tuple #[.agg #[.slice A (canT ts t.toNat).length c, .int .i64 0], .int .i64 0]) ∧ RdTyps w' w'.heap.size (.slice A (canT ts t.toNat).length c) (canT ts t.toNat))
set_option maxRecDepth 100000 in
theorem canon_any (ts : List Typ) (A : Option Addr) (c : Nat) (t : Int) (w : World) (hs : Sizes ts) (ht : RdTyps w w.heap.size (.slice A ts.length c) ts) (hp : PowIs w) :
  Calls Tryz.prog 44 #[.agg #[.slice A ts.length c, .int .i64 t]] w (CanPost ts t w) := by
 have HT := Lib.hid ht
 have HP := Lib.hid hp
 have H1 := Lib.hid (fun W h => ccheck_any ts A c t W hs h)
 have HC2 := Lib.hid (fun (hv : validE ts = 0) W h => classes_any ts A c W hs hv h)
 by_cases h1 : rootE ts t = 0
 ·
  obtain ⟨hv, ht0, htl⟩ := rootE_ok h1
  obtain ⟨i, rfl⟩ : ∃ i : Nat, t = (i : Int) := ⟨t.toNat, by omega⟩
  have hil : i < ts.length := by omega
  have hlen := (goodS hv).len
  have HIN := Lib.hid (inside_of hv)
  have HGM := Lib.hid (goodS hv).mems
  have HGS := Lib.hid (fun x (hx : x ∈ ts) => syms_few ((valid_all hv).2 x hx).1)
  have HGI := Lib.hid (goodS hv).inu
  have hpost : ∀ w' A' c', Below w.heap.size w w' → RdTyps w' w'.heap.size (.slice A' (canT ts i).length c') (canT ts i) → CanPost ts i w (.returned (.tuple #[.agg #[.slice A' (canT ts i).length c', .int .i64 0], .int .i64 0])) w' := fun w' A' c' h2 h3 => ⟨h2, .inr ⟨h1, A', c', rfl, h3⟩⟩
  have HPO := Lib.hid hpost
  have hcl := fun W h => HC2.out hv W h
  have HCL := Lib.hid hcl
  rw [h1] at H1
  obtain ⟨bT, oT, rfl, hbT, hel⟩ := ht.elem (by omega)
  have HEL := Lib.hid hel
  have hd0 : decide ((i : Int) < 0) = false := by simp
  have hd1 : decide (ts.length ≤ i) = false := by simpa using hil
  clear ht hp hs h1 hv ht0 htl hpost hcl HC2 hel
  go_enter Tryz.func44, Tryz.ntmps44
  go_upto_region 1 with fail
  refine am2 (fun wd2 hb1 R Z => ?_)
  have hw3 := hb1
  clear hb1
  obtain ⟨cR_0, cR_1⟩ := R.out.c2
  go_wp2_with fail
  clear cR_0 cR_1
  ((with_reducible refine (H1.out _ (HT.out.on hw3)).mono ?_); rintro e wd4 ⟨rfl, hb5⟩)
  obtain ⟨R, Z⟩ := b2 R Z hb5
  replace hw3 := dT hw3 hb5
  clear hb5
  have cR_0 := R.out.e0
  go_wp2_with fail
  have hZ1 := Z.out.here
  clear cR_0
  ((with_reducible refine (HCL.out _ (HT.out.on hw3)).mono ?_); rintro e wd6 ⟨cv, rfl, hcls, hb7⟩)
  obtain ⟨R, Z⟩ := b2 R Z hb7
  replace hw3 := dT hw3 hb7
  clear hb7
  obtain ⟨Ac, cc, rfl⟩ := own_form hcls
  obtain ⟨gc, rfl⟩ : ∃ g, Ac = some ⟨g, 0, none⟩ := by
   rcases hcls.2 with ⟨h, h2⟩ | ⟨g, cap, cur, h, _⟩
   ·
    omega
   injection h with h; exact ⟨g, h⟩
  have hcl2 : wd6.ownsRow (w.heap.size + 2) 3 1 (.slice (some ⟨gc, 0, none⟩) ts.length cc) ts.length (clsV ts) := own_base hcls hZ1
  have CL := Lib.hid (Kept.own1 hcl2)
  have hgc := hcl2.lt gc rfl
  have HGC0 := Lib.hid hgc.1
  clear hcl2
  clear hcls
  go_upto_region 5 with fail
  refine am1 (fun wd9 hb8 P5 => ?_)
  have hl11 := R.out.here
  have hl12 := Z.out.here
  have hl13 := CL.out.le
  have hl14 := hw3.size
  obtain ⟨R, Z, CL⟩ := b3 R Z CL hb8
  replace hw3 := dT hw3 hb8
  clear hb8
  generalize wd6.heap.size = g10 at *
  go_upto_region 7 with fail
  obtain ⟨gm, hgm⟩ : ∃ g, g = wd9.heap.size := ⟨_, rfl⟩
  have hl5 := P5.out.here
  have hm0 := NumAt.made wd9
  have hbm := below_al (Below.refl wd9.heap.size wd9) (Nat.le_refl _) (.map #[] 0)
  have c5 := (P5.out.below hbm P5.out.here).cell 0
  have c1 := (R.out.below hbm R.out.here).cell 1
  have hcc := (CL.out.on hbm).now.cellAt i (by omega)
  have HGC : Hid (w.heap.size + 2 ≤ gc ∧ gc < g10) := ⟨HGC0.out, hgc.2⟩
  simp only [List.getElem?_toArray, List.getElem?_cons_zero, List.getElem?_cons_succ] at c5 c1
  rw [clsV_at ts i hil] at hcc
  have hci : clsN ts i ≤ 32 := by have := cls_lt HIN.out hil; omega
  obtain ⟨q, hq⟩ : ∃ q, q = clsN ts i := ⟨_, rfl⟩
  rw [← hq] at hcc hci
  have HQ := Lib.hid hq
  clear hq
  have hmm := @run_makeMap Tryz.prog
  go_upto_region 8 with (refine wpList_put_num rfl _ _ _ (.inr rfl) _ [] rfl hm0 (by simp) q rfl rfl (by omega) (by simp) ?_; intro w3 hnum3 hg3)
  have hbg3 := hgr_below hg3 (B := wd9.heap.size) (by simp) (fun j hj => by cases hj; exact Nat.le_refl _)
  have hb3 := hbm.trans hbg3
  clear hm0 hbm c5 c1 hcc hg3 hbg3
  rw [← hgm] at hnum3 hl5 ⊢
  obtain ⟨R, Z, P5, CL⟩ := b4 R Z P5 CL hb3
  replace hw3 := dT hw3 hb3
  have NM := Lib.hid (hnum3.kept)
  clear hnum3 hb3 hgm
  refine am1 (fun wd16 hb15 P7 => ?_)
  have hl18 := R.out.here
  have hl19 := Z.out.here
  have hl20 := P5.out.here
  have hl21 := CL.out.le
  have hl22 := NM.out.le
  have hl23 := hw3.size
  obtain ⟨R, Z, P5, CL, NM⟩ := b5 R Z P5 CL NM hb15
  replace hw3 := dT hw3 hb15
  clear hb15
  generalize w3.heap.size = g17 at *
  have hA : w.heap.size + 2 ≤ gc ∧ gc < g10 ∧ g10 < gm ∧ gm < g17 := ⟨HGC.out.1, HGC.out.2, by omega, by omega⟩
  obtain ⟨gP5, rfl⟩ : ∃ g, g = g10 := ⟨_, rfl⟩
  obtain ⟨gP7, rfl⟩ : ∃ g, g = g17 := ⟨_, rfl⟩
  have hcc := CL.out.now.cellAt i (by omega)
  rw [clsV_at ts i hil, ← HQ.out] at hcc
  have cP5_0 := P5.out.e0
  have cR_1 := R.out.e1
  go_upto_region 9 with fail
  clear cP5_0 cR_1
  clear hcc
  refine am1 (fun wd25 hb24 ON => ?_)
  have hl27 := R.out.here
  have hl28 := Z.out.here
  have hl29 := P5.out.here
  have hl30 := P7.out.here
  have hl31 := CL.out.le
  have hl32 := NM.out.le
  have hl33 := hw3.size
  obtain ⟨R, Z, P5, P7, CL, NM⟩ := b6 R Z P5 P7 CL NM hb24
  replace hw3 := dT hw3 hb24
  clear hb24
  generalize wd16.heap.size = g26 at *
  have hO := own_has1 (base := gP7 + 1) ON.out (by omega)
  clear ON
  have O := Lib.hid (Kept.own hO)
  clear hO
  have hst : Hid (bfs (clsN ts) (outsAt ts) ts.length 0 [q] = ordN ts i ∧ Reps ts [q]) := by show _ ∧ _; rw [HQ.out]; exact ⟨rfl, reps_one HIN.out hil⟩
  have hH : CanH w wd25 bT oT ts.length c i gc cc gP5 gP7 gm (clsV ts) := ⟨R.out, Z.out, P5.out, P7.out, CL.out.now, hw3⟩
  have hO := O.out.now
  have hN := NM.out.now
  clear hci HGC HQ
  go_upto_region 10 with fail
  go_loopw [8, 9] (fun s8 s9 wr => ∃ (n k : Nat) (f : List Nat), s9 = .int .i64 n ∧ n ≤ f.length ∧ bfs (clsN ts) (outsAt ts) k n f = ordN ts i ∧ ts.length ≤ k + n ∧ Reps ts f ∧ wr.ownsRow (gP7 + 1) 3 1 s8 f.length (f.map nV) ∧ NumAt wr gm f ∧ CanH w wr bT oT ts.length c i gc cc gP5 gP7 gm (clsV ts)) (fun _ s9 _ => ts.length - (intOf s9).toNat)
  case atStart => exact ⟨0, ts.length, [q], rfl, Nat.zero_le _, hst.out.1, by omega, hst.out.2, hO, hN, hH⟩
  case round =>
   clear R Z P5 P7 CL O NM hO hN hH hst
   obtain ⟨n, k, f, rfl, hnl, hbfs, hkn, hreps, hown, hnum, hH⟩ := hrel
   obtain ⟨A8, c8, rfl⟩ := own_form hown
   obtain ⟨R, Z, P5, P7, hCL, hb0⟩ := hH
   have hfl := hreps.len
   replace R := Lib.hid R
   replace Z := Lib.hid Z
   replace P5 := Lib.hid P5
   replace P7 := Lib.hid P7
   have CL := Lib.hid (Kept.own1 hCL)
   have NM := Lib.hid (hnum.kept)
   have O := Lib.hid (Kept.own hown)
   clear hnum hCL
   by_cases hlt : n < f.length
   ·
    obtain ⟨k, rfl⟩ : ∃ q, k = q + 1 := ⟨k - 1, by omega⟩
    have hfn : f[n]? = some f[n] := List.getElem?_eq_getElem hlt
    have hal := (hreps.lt _ (List.getElem_mem hlt)).1
    have hbn := bfs_next (c := clsN ts) (o := outsAt ts) (k := k) hfn
    rw [hbfs] at hbn
    obtain ⟨g8, rfl⟩ : ∃ g, A8 = some ⟨g, 0, none⟩ := by
     rcases hown.2 with ⟨h, h2⟩ | ⟨g, cap, cur, h, _⟩
     ·
      omega
     injection h with h; exact ⟨g, h⟩
    have hcn := (hown.cellAt n (by omega)).trans (by rw [List.getElem?_map, hfn]; rfl : (f.map nV)[n]? = some (nV f[n]))
    obtain ⟨a, ha⟩ : ∃ a, a = f[n] := ⟨_, rfl⟩
    rw [← ha] at hal hbn hcn
    obtain ⟨vs, vm, hcells, hxa⟩ := HEL.out a hal
    have hxm : ts[a] ∈ ts := List.getElem_mem hal
    have hmx := HGM.out _ hxm
    have hux := HGI.out _ hxm
    have hlu := usesC_lenC _ hmx
    have hox : outsAt ts a = (usesC ts[a]).map fun u => u.2.toNat := by unfold outsAt; rw [List.getElem?_eq_getElem hal]; rfl
    rw [hox] at hbn
    have HBN := Lib.hid hbn
    have HUX := Lib.hid hux
    have hal2 := hal
    generalize ts[a] = x at *
    obtain ⟨C1, l1, C2, l2, rfl, rfl, -, -⟩ := hxa.forms
    have hct : Cells10 wr bT (oT + a * 10) x (.slice C1 x.syms.length l1) (.slice C2 x.mems.length l2) := by
     obtain ⟨y0, y1, y2, y3, y4, y5, y6, y7, y8, y9⟩ := hcells
     exact ⟨(hb0.cell (p := ⟨bT, _, none⟩) hbT).trans y0, (hb0.cell (p := ⟨bT, _, none⟩) hbT).trans y1, (hb0.cell (p := ⟨bT, _, none⟩) hbT).trans y2, (hb0.cell (p := ⟨bT, _, none⟩) hbT).trans y3, (hb0.cell (p := ⟨bT, _, none⟩) hbT).trans y4, (hb0.cell (p := ⟨bT, _, none⟩) hbT).trans y5, (hb0.cell (p := ⟨bT, _, none⟩) hbT).trans y6, (hb0.cell (p := ⟨bT, _, none⟩) hbT).trans y7, (hb0.cell (p := ⟨bT, _, none⟩) hbT).trans y8, (hb0.cell (p := ⟨bT, _, none⟩) hbT).trans y9⟩
    have KT := Lib.hid (cells10_kept hct (by have := hb0.size; omega))
    have HXA := Lib.hid hxa
    have hcn2 : wr.cell? ⟨g8, n, none⟩ = some (.int .i64 (a : Nat)) := hcn
    have KN := Lib.hid (keptCellC hcn2)
    have hi1 : (n : Int) < f.length := by omega
    have hd0 : decide ((n : Int) < 0) = false := by simp
    have hd1 : decide (f.length ≤ n) = false := by simpa using hlt
    have hd2 : decide ((a : Int) < 0) = false := by simp
    have hd3 : decide (ts.length ≤ a) = false := by simpa using hal2
    have HFN := Lib.hid hfn
    have HREP := Lib.hid hreps
    clear hcells hct hxa hcn hcn2 hfn hbn hux hox ha hreps hbfs hown hxm
    go_upto_region 12 with fail
    have cR_0 := R.out.e0
    refine wp_region_held_drew (S := (fun w' => w'.cell? ⟨w.heap.size, 0, none⟩ = some (.slice (some ⟨bT, oT, none⟩) ts.length c) ∧ (w'.cell? ⟨g8, n, none⟩ = some (.int .i64 (a : Nat))) ∧ (Cells10' w' bT (oT + a * 10) x (.slice C1 x.syms.length l1) (.slice C2 x.mems.length l2)))) (by kernel_rfl) ⟨cR_0, (KN.out.now), (KT.out.now)⟩ (fun hHeld => ?_)
    clear cR_0
    have hb34 : Below wr.heap.size wr (wr.drew) := (Below.refl _ _).drew
    obtain ⟨R, Z, P5, P7, CL, NM, O, KT, KN⟩ := b9 R Z P5 P7 CL NM O KT KN hb34
    replace hb0 := dT hb0 hb34
    clear hb34
    generalize wr.drew = wd35 at *
    refine tk 0 ?_
    refine tk 1 ?_
    refine tk 2 ?_
    refine tk 3 ?_
    refine tk 4 ?_
    refine tk 5 ?_
    refine tk 6 ?_
    refine tk 7 ?_
    refine tk 8 ?_
    refine tk 11 ?_
    refine rd1 9 fun K hK => ?_
    go_simp
    have hrh := R.out.here
    have hp7 := P7.out.here
    ((with_reducible refine (cuses_any x _ _ _ (by omega) (HXA.out.on hb0)).mono ?_); rintro e wd36 ⟨vu, rfl, hus, hb37⟩)
    obtain ⟨R, Z, P5, P7, CL, NM, O, KT, KN⟩ := b9 R Z P5 P7 CL NM O KT KN hb37
    replace hb0 := dT hb0 hb37
    clear hb37
    obtain ⟨Au, cu, rfl⟩ := own_form hus
    have US := Lib.hid (Kept.own (own_base hus (show gP7 + 1 ≤ _ by omega)))
    clear hus hp7
    try clear hHeld
    refine hK.out _ _ (⟨R.out.cell 0, ⟨(KN.out.now), (KT.out.now)⟩⟩) (fun hHeld => ?_)
    clear hK K
    refine tk 10 ?_
    refine wpAnyH_done (by kernel_rfl) ?_ _
    try clear hHeld
    clear KT
    clear KN
    have hH : CanH w wd36 bT oT ts.length c i gc cc gP5 gP7 gm (clsV ts) := ⟨R.out, Z.out, P5.out, P7.out, CL.out.now, hb0⟩
    have hO := O.out.now
    have hN := NM.out.now
    have hU := US.out.now
    go_upto_region 13 with fail
    go_loopw [8, 64] (fun s8 s64 wr => ∃ (j : Nat) (g : List Nat), s64 = .int .i64 j ∧ j ≤ (usesC x).length ∧ addC (clsN ts) g (((usesC x).map fun u => u.2.toNat).drop j) = addC (clsN ts) f ((usesC x).map fun u => u.2.toNat) ∧ Reps ts g ∧ wr.ownsRow (gP7 + 1) 3 1 s8 g.length (g.map nV) ∧ NumAt wr gm g ∧ wr.ownsRow (gP7 + 1) 134 2 (.slice Au (usesC x).length cu) (usesC x).length (usesV (usesC x)) ∧ CanH w wr bT oT ts.length c i gc cc gP5 gP7 gm (clsV ts)) (fun _ s64 _ => (usesC x).length - (intOf s64).toNat)
    case atStart => exact ⟨0, f, rfl, Nat.zero_le _, rfl, HREP.out, hO, hN, hU, hH⟩
    case round =>
     clear R Z P5 P7 CL O NM US hO hN hU hH hb0
     obtain ⟨j, g, rfl, hjl, hadd, hreps, hown, hnum, hus, hH⟩ := hrel
     obtain ⟨A9, c9, rfl⟩ := own_form hown
     obtain ⟨R, Z, P5, P7, hCL, hb0⟩ := hH
     have hgl := hreps.len
     replace R := Lib.hid R
     replace Z := Lib.hid Z
     replace P5 := Lib.hid P5
     replace P7 := Lib.hid P7
     have CL := Lib.hid (Kept.own1 hCL)
     have NM := Lib.hid (hnum.kept)
     have O := Lib.hid (Kept.own hown)
     have US := Lib.hid (Kept.own hus)
     clear hnum hCL
     by_cases hju : j < (usesC x).length
     ·
      obtain ⟨gu, rfl⟩ : ∃ g, Au = some ⟨g, 0, none⟩ := by
       rcases hus.2 with ⟨h, h2⟩ | ⟨g, cap, cur, h, _⟩
       ·
        omega
       injection h with h; exact ⟨g, h⟩
      have hux := HUX.out _ (List.getElem_mem hju)
      have cu0 := (hus.cellAt (j * 2) (by omega)).trans (flat_get useV_len (usesC x) j 0 hju (by omega))
      have cu1 := (hus.cellAt (j * 2 + 1) (by omega)).trans (flat_get useV_len (usesC x) j 1 hju (by omega))
      simp only [useV] at cu0 cu1
      rw [List.drop_eq_getElem_cons (by simpa using hju), List.getElem_map, addC] at hadd
      generalize (usesC x)[j] = y at *
      obtain ⟨yi, yt⟩ := y
      simp only at hux cu0 cu1 hadd
      obtain ⟨u, rfl⟩ : ∃ u : Nat, yt = (u : Int) := ⟨yt.toNat, by omega⟩
      simp only [Int.toNat_natCast] at hadd
      have hul : u < ts.length := by omega
      simp only [List.getElem?_cons_zero, List.getElem?_cons_succ] at cu0 cu1
      have hi1 : (j : Int) < (usesC x).length := by omega
      have hd0 : decide ((j : Int) < 0) = false := by simp
      have hd1 : decide ((usesC x).length ≤ j) = false := by simpa using hju
      have hcq : clsN ts u ≤ 32 := by have := cls_lt HIN.out hul; omega
      have hra := hreps.add1 HIN.out hul
      have hcc := (CL.out.now.cellAt u (by omega)).trans (clsV_at ts u hul)
      obtain ⟨q, hq⟩ : ∃ q, q = clsN ts u := ⟨_, rfl⟩
      rw [← hq] at hadd hcq hra hcc
      have HADD := Lib.hid hadd
      have HRA := Lib.hid hra
      have KC := Lib.hid (keptCellC hcc)
      clear hq hadd hra hreps hus hown hux hcc
      go_upto_region 15 with fail
      refine am1 (fun wd39 hb38 U => ?_)
      have hl41 := R.out.here
      have hl42 := Z.out.here
      have hl43 := P5.out.here
      have hl44 := P7.out.here
      have hl45 := CL.out.le
      have hl46 := NM.out.le
      have hl47 := O.out.le
      have hl48 := US.out.le
      have hl49 := KC.out.le
      have hl50 := hb0.size
      obtain ⟨R, Z, P5, P7, CL, NM, O, US, KC⟩ := b9 R Z P5 P7 CL NM O US KC hb38
      replace hb0 := dT hb0 hb38
      clear hb38
      generalize wr.heap.size = g40 at *
      clear cu0 cu1 hd1 hi1
      have hd2 : decide ((u : Int) < 0) = false := by simp
      have hd3 : decide (ts.length ≤ u) = false := by simpa using hul
      have hcc := KC.out.now
      have cP5_0 := P5.out.e0
      have cU_1 := U.out.e1
      go_upto_region 16 with fail
      clear cP5_0 cU_1
      clear hcc hd2 hd3 hd0
      clear KC
      clear U
      have hlook := NM.out.now.look q (by omega)
      by_cases hm : q ∈ g
      ·
       rw [if_pos hm, decide_eq_true hm] at hlook
       rw [if_pos hm] at HADD HRA
       clear hm
       generalize g.idxOf q = iq at hlook
       have cP7_0 := P7.out.e0
       go_wp2_with fail
       clear hlook
       clear cP7_0
       go_roundw
       case rel => exact ⟨j + 1, g, by go_num, by omega, HADD.out, HRA.out, O.out.now, NM.out.now, US.out.now, R.out, Z.out, P5.out, P7.out, CL.out.now, hb0⟩
       case measure => simp [intOf]; omega
      rw [if_neg hm, decide_eq_false hm] at hlook
      rw [if_neg hm] at HADD HRA
      have cP7_0 := P7.out.e0
      go_upto_region 18 with fail
      clear hlook
      have hgm2 := NM.out.le
      go_upto_region 19 with (refine wpList_put_num rfl _ _ _ (.inl rfl) gm g rfl NM.out.now (by omega) q rfl rfl (by omega) hm ?_; intro w3 hnum3 hg3)
      clear cP7_0
      have hbm := hgr_below hg3 (Nat.le_of_lt hgm2) (fun k hk => by cases hk; exact Nat.le_refl _)
      have hO2 := own_keep O.out.now (fun k hk => hg3.block k (O.out.now.lt k hk).2 (fun e => by have h1 := (O.out.now.lt k hk).1; injection e with e; omega))
      have hU2 := own_keep US.out.now (fun k hk => hg3.block k (US.out.now.lt k hk).2 (fun e => by have h1 := (US.out.now.lt k hk).1; injection e with e; omega))
      have hkk : ∀ q, q < wd39.heap.size → some gm ≠ some q → w3.heap[q]? = wd39.heap[q]? := fun q hq hne => hg3.block q hq (fun e => hne e.symm)
      have hvv : ∀ q, some gm = some q → q = gm := fun q h => by injection h with h; exact h.symm
      have hp7 := P7.out.here
      have hsz := hg3.size
      clear O
      clear US
      clear NM
      replace R := dG R hkk (fun hh => by have := hvv _ hh; omega)
      replace Z := dG Z hkk (fun hh => by have := hvv _ hh; omega)
      replace P5 := dG P5 hkk (fun hh => by have := hvv _ hh; omega)
      replace P7 := dG P7 hkk (fun hh => by have := hvv _ hh; omega)
      replace CL := Lib.hid (CL.out.from0 hbm (show gc + 1 ≤ gm by omega))
      replace hb0 := hb0.trans (hbm.mono (show w.heap.size ≤ gm by omega))
      have NM := Lib.hid (hnum3.kept)
      have O := Lib.hid (Kept.own hO2)
      have US := Lib.hid (Kept.own hU2)
      clear hnum3 hg3 hkk hvv hbm hgm2 hO2 hU2
      have hbase : gP7 + 1 ≤ w3.heap.size := P7.out.here
      go_upto_region 20 with (at_builtin; refine wpList_append_lie rfl _ _ _ rfl (gP7 + 1) 3 _ 1 8 Tryz.underlying39 info_intC rfl (by decide) _ g.length _ rfl O.out.now [.int .i64 (q : Nat)] _ 1 _ rfl rfl rfl (by simp [Value.oneCell']) (by omega) (by omega) hbase ?_; intro g2 cap w4 hown4 hg4 hgat hb4)
      have hU4 := own_keep US.out.now (w' := w4) (fun k hk => (hg4.block k (by have := (US.out.now.lt k hk).2; simp; omega) (fun e => own_part US.out.now O.out.now (by decide) hk e.symm)).trans ((below_al (Below.refl w3.heap.size w3) (Nat.le_refl _) _).block k (US.out.now.lt k hk).2))
      clear hg4 hgat hbase
      clear O
      clear US
      replace R := Lib.hid (R.out.below hb4 (show w.heap.size < gP7 + 1 by omega))
      replace Z := Lib.hid (Z.out.below hb4 (show w.heap.size + 1 < gP7 + 1 by omega))
      replace P5 := Lib.hid (P5.out.below hb4 (show gP5 < gP7 + 1 by omega))
      replace P7 := Lib.hid (P7.out.below hb4 (show gP7 < gP7 + 1 by omega))
      replace CL := Lib.hid (CL.out.from0 hb4 (show gc + 1 ≤ gP7 + 1 by omega))
      replace NM := Lib.hid (NM.out.from0 hb4 (show gm + 1 ≤ gP7 + 1 by omega))
      replace hb0 := hb0.trans (hb4.mono (show w.heap.size ≤ gP7 + 1 by omega))
      have O := Lib.hid (Kept.own hown4)
      have US := Lib.hid (Kept.own hU4)
      clear hown4 hU4
      go_wp2_with fail
      go_roundw
      case rel => exact ⟨j + 1, g ++ [q], by go_num, by omega, HADD.out, HRA.out, by rw [List.length_append, List.map_append]; exact O.out.now, NM.out.now, US.out.now, R.out, Z.out, P5.out, P7.out, CL.out.now, hb0⟩
      case measure => simp [intOf]; omega
     obtain rfl : j = (usesC x).length := by omega
     rw [List.drop_eq_nil_of_le (by simp), addC] at hadd
     have hgf : f.length ≤ g.length := by
      obtain ⟨r, hr⟩ := addC_pre (clsN ts) ((usesC x).map fun u => u.2.toNat) f
      rw [hadd, hr]; simp
     have hbf := HBN.out
     rw [← hadd] at hbf
     have HBF := Lib.hid hbf
     have HRE := Lib.hid hreps
     clear hadd hreps hbf hown hus
     clear US
     go_wp2_with fail
     go_roundw
     case rel => exact ⟨n + 1, k, g, by go_num, by omega, HBF.out.symm, by omega, HRE.out, O.out.now, NM.out.now, R.out, Z.out, P5.out, P7.out, CL.out.now, hb0⟩
     case measure => simp [intOf]; omega
   obtain rfl : n = f.length := by omega
   rw [bfs_end (Nat.le_refl _)] at hbfs
   subst hbfs
   obtain ⟨hre, -, hcls⟩ := ord_spec HIN.out hil
   have HCLS := Lib.hid hcls
   have HRE := Lib.hid hre
   have hfl2 : (canT ts i).length = (ordN ts i).length := can_len ts i
   have HGET := Lib.hid (can_get ts i)
   have hixd : ∀ u, ixN ts i u = (ordN ts i).idxOf (clsN ts u) := fun u => rfl
   have hixb : ∀ u, ixN ts i u ≤ 1000 := fun u => by rw [hixd]; have := List.idxOf_le_length (a := clsN ts u) (l := ordN ts i); omega
   have HIX := Lib.hid hixd
   have HIB := Lib.hid hixb
   generalize ordN ts i = f at *
   generalize ixN ts i = ix at *
   clear hreps hre hcls hown hixd hixb
   go_upto_region 22 with fail
   refine am1 (fun wd35 hb34 OUT => ?_)
   have hl37 := R.out.here
   have hl38 := Z.out.here
   have hl39 := P5.out.here
   have hl40 := P7.out.here
   have hl41 := CL.out.le
   have hl42 := NM.out.le
   have hl43 := O.out.le
   have hl44 := hb0.size
   obtain ⟨R, Z, P5, P7, CL, NM, O⟩ := b7 R Z P5 P7 CL NM O hb34
   replace hb0 := dT hb0 hb34
   clear hb34
   generalize wr.heap.size = g36 at *
   obtain ⟨gO, rfl⟩ : ∃ g, g = g36 := ⟨_, rfl⟩
   have hOT := OwnTyps.nil wd35 (gO + 1) wd35.heap.size
   have hH : CanH w wd35 bT oT ts.length c i gc cc gP5 gP7 gm (clsV ts) := ⟨R.out, Z.out, P5.out, P7.out, CL.out.now, hb0⟩
   have hO := O.out
   have hN := NM.out.now
   have hOU := OUT.out
   go_upto_region 23 with fail
   go_loopw [92] (fun s92 wr => ∃ (k : Nat) (A : Option Addr) (c2 : Nat), s92 = .int .i64 k ∧ k ≤ f.length ∧ Has wr gO 27 #[.slice A k c2, .int .i64 0] ∧ OwnTyps wr (gO + 1) wr.heap.size (.slice A k c2) ((canT ts i).take k) ∧ Kept (fun w => w.ownsRow (gP7 + 1) 3 1 (.slice A8 f.length c8) f.length (f.map nV)) wr (gP7 + 1) gO ∧ NumAt wr gm f ∧ CanH w wr bT oT ts.length c i gc cc gP5 gP7 gm (clsV ts)) (fun s92 _ => f.length - (intOf s92).toNat)
   case atStart => exact ⟨0, none, 0, rfl, Nat.zero_le _, hOU, hOT, hO, hN, hH⟩
   case round =>
    clear R Z P5 P7 CL O NM OUT hO hN hOU hH hb0 hOT
    obtain ⟨k, Ak, ck, rfl, hkl, OUT, hOT, hO, hnum, hH⟩ := hrel
    obtain ⟨R, Z, P5, P7, hCL, hb0⟩ := hH
    replace R := Lib.hid R
    replace Z := Lib.hid Z
    replace P5 := Lib.hid P5
    replace P7 := Lib.hid P7
    have CL := Lib.hid (Kept.own1 hCL)
    have NM := Lib.hid (hnum.kept)
    replace OUT := Lib.hid OUT
    have O := Lib.hid (hO)
    have OT := Lib.hid (hOT.kept (Nat.le_refl _))
    clear hnum hCL hO hOT
    by_cases hlt : k < f.length
    ·
     have hfk : f[k]? = some f[k] := List.getElem?_eq_getElem hlt
     have hown := O.out.now
     obtain ⟨g8, rfl⟩ : ∃ g, A8 = some ⟨g, 0, none⟩ := by
      rcases hown.2 with ⟨h, h2⟩ | ⟨g, cap, cur, h, _⟩
      ·
       omega
      injection h with h; exact ⟨g, h⟩
     have hcn := (hown.cellAt k (by omega)).trans (by rw [List.getElem?_map, hfk]; rfl : (f.map nV)[k]? = some (nV f[k]))
     have hfm : f[k] ∈ f := List.getElem_mem hlt
     have hal := (HRE.out.lt _ hfm).1
     have hget := HGET.out k _ hfk
     have hcls := HCLS.out _ hfm
     generalize f[k] = a at *
     obtain ⟨vs, vm, hcells, hxa⟩ := HEL.out a hal
     have hxm : ts[a] ∈ ts := List.getElem_mem hal
     have hmx := HGM.out _ hxm
     have hsx := HGS.out _ hxm
     have hux := HGI.out _ hxm
     have hox : outsAt ts a = outs ts[a] := by unfold outsAt; rw [List.getElem?_eq_getElem hal]
     rw [hox] at hcls
     rw [List.getD_eq_getElem?_getD, List.getElem?_eq_getElem hal, Option.getD_some] at hget
     have hal2 := hal
     generalize ts[a] = x at *
     obtain ⟨C1, l1, C2, l2, rfl, rfl, -, -⟩ := hxa.forms
     have hct : Cells10 wr bT (oT + a * 10) x (.slice C1 x.syms.length l1) (.slice C2 x.mems.length l2) := by
      obtain ⟨y0, y1, y2, y3, y4, y5, y6, y7, y8, y9⟩ := hcells
      exact ⟨(hb0.cell (p := ⟨bT, _, none⟩) hbT).trans y0, (hb0.cell (p := ⟨bT, _, none⟩) hbT).trans y1, (hb0.cell (p := ⟨bT, _, none⟩) hbT).trans y2, (hb0.cell (p := ⟨bT, _, none⟩) hbT).trans y3, (hb0.cell (p := ⟨bT, _, none⟩) hbT).trans y4, (hb0.cell (p := ⟨bT, _, none⟩) hbT).trans y5, (hb0.cell (p := ⟨bT, _, none⟩) hbT).trans y6, (hb0.cell (p := ⟨bT, _, none⟩) hbT).trans y7, (hb0.cell (p := ⟨bT, _, none⟩) hbT).trans y8, (hb0.cell (p := ⟨bT, _, none⟩) hbT).trans y9⟩
     have KT := Lib.hid (cells10_kept hct (by have := hb0.size; omega))
     have hcn2 : wr.cell? ⟨g8, k, none⟩ = some (.int .i64 (a : Nat)) := hcn
     clear hcn
     have HXA := Lib.hid hxa
     have HTK := Lib.hid (can_take hget)
     have HUX := Lib.hid (fun u hu => (hux u hu).1)
     have hcl2 : ∀ u ∈ outs x, clsN ts u ∈ f ∧ u < ts.length := fun u hu => ⟨hcls u hu, by obtain ⟨y, hy, rfl⟩ := List.mem_map.1 hu; have := hux y hy; omega⟩
     have HCL2 := Lib.hid hcl2
     obtain ⟨y, hy⟩ : ∃ y, y = renT k ix x := ⟨_, rfl⟩
     rw [← hy] at HTK
     have HY0 := Lib.hid hy
     have hi1 : (k : Int) < f.length := by omega
     have hd0 : decide ((k : Int) < 0) = false := by simp
     have hd1 : decide (f.length ≤ k) = false := by simpa using hlt
     have hd2 : decide ((a : Int) < 0) = false := by simp
     have hd3 : decide (ts.length ≤ a) = false := by simpa using hal2
     have htl : ((canT ts i).take k).length = k := by rw [List.length_take]; omega
     have HTL := Lib.hid htl
     clear hcells hct hxa hown hfk hfm hal hget hcls hcl2 hux hox hxm hy htl
     go_upto_region 25 with fail
     clear hcn2
     have cR_0 := R.out.e0
     have cOUT_0 := OUT.out.e0
     refine wp_region_T (S := (fun w' => w'.cell? ⟨w.heap.size, 0, none⟩ = some (.slice (some ⟨bT, oT, none⟩) ts.length c) ∧ w'.cell? ⟨gO, 0, none⟩ = some (.slice Ak k ck) ∧ (Cells10' w' bT (oT + a * 10) x (.slice C1 x.syms.length l1) (.slice C2 x.mems.length l2)))) (fun j => j == 16) (by kernel_rfl) ⟨cR_0, cOUT_0, (KT.out.now)⟩ (fun hHeld => ?_)
     clear cR_0 cOUT_0
     have hb45 : Below wr.heap.size wr (wr.drew) := (Below.refl _ _).drew
     obtain ⟨R, Z, P5, P7, OUT, CL, NM, O, OT⟩ := b9 R Z P5 P7 OUT CL NM O OT hb45
     replace KT := b1 KT hb45
     replace hb0 := dT hb0 hb45
     clear hb45
     generalize wr.drew = wd46 at *
     refine tkT 0 ?_
     refine tkT 1 ?_
     refine tkT 2 ?_
     refine tkT 3 ?_
     refine tkT 4 ?_
     refine tkT 5 ?_
     refine tkT 6 ?_
     refine tkT 7 ?_
     refine tkT 8 ?_
     refine tkT 9 ?_
     refine tkT 10 ?_
     refine rdT1 11 fun K hK => ?_
     go_simp
     obtain ⟨z6, h6e⟩ : ∃ z, z = (wd46).heap.size := ⟨_, rfl⟩
     have hz6 := OUT.out.here
     have hzB := OT.out.le
     rw [← h6e] at hz6 hzB
     have hC : ∀ u ∈ outs x, ∀ W', Below wd46.heap.size wd46 W' → Calls Tryz.prog 77 #[.int .i64 (u : Nat), .pointer (some ⟨gP7, 0, none⟩), .pointer (some ⟨gP5, 0, none⟩)] W' fun e w' => e = .returned (.int .i64 (ix u : Nat)) ∧ Below W'.heap.size W' w' := fun u hu W' hb => by
      obtain ⟨hm, hul⟩ := HCL2.out u hu
      have h := canon1_any f (clsN ts) ts.length gP5 gP7 gm (w.heap.size + 2) (some ⟨gc, 0, none⟩) cc u hul (by have := (HRE.out.lt _ hm).1; omega) W' (P7.out.below hb P7.out.here) (P5.out.below hb P5.out.here) (NM.out.on hb).now (CL.out.on hb).now
      rw [if_pos hm, ← HIX.out u] at h
      exact h
     ((with_reducible refine (renamed_any k (by omega) x _ _ ix HIB.out _ _ _ (HXA.out.on hb0) (by omega) hmx (HP.out.on hb0) HUX.out hC).mono ?_); rintro e wd47 ⟨v5, v6, rfl, htp, hb48, -⟩)
     obtain ⟨R, Z, P5, P7, OUT, CL, NM, O, OT⟩ := b9 R Z P5 P7 OUT CL NM O OT hb48
     replace KT := b1 KT hb48
     replace hb0 := dT hb0 hb48
     clear hb48
     rw [← HY0.out] at htp ⊢
     obtain ⟨A5, c5, A6, c6, rfl, rfl⟩ := htp.forms
     obtain ⟨z7, h7e⟩ : ∃ z, z = (wd47).heap.size := ⟨_, rfl⟩
     rw [← h6e, ← h7e] at htp
     have HY := Lib.hid (typP_kept htp (Nat.le_of_eq h7e))
     have hz7 := HY.out.le
     clear htp hC h6e
     try clear hHeld
     refine hK.out _ _ (⟨R.out.cell 0, ⟨OUT.out.cell 0, (KT.out.now)⟩⟩) (fun hHeld => ?_)
     clear hK K
     refine rdT1 12 fun K hK => ?_
     go_simp
     refine am1 (fun wd50 hb49 N => ?_)
     have hl52 := R.out.here
     have hl53 := Z.out.here
     have hl54 := P5.out.here
     have hl55 := P7.out.here
     have hl56 := OUT.out.here
     have hl57 := CL.out.le
     have hl58 := NM.out.le
     have hl59 := O.out.le
     have hl60 := OT.out.le
     have hl61 := KT.out.le
     have hl62 := HY.out.le
     have hl63 := hb0.size
     obtain ⟨R, Z, P5, P7, OUT, CL, NM, O, OT⟩ := b9 R Z P5 P7 OUT CL NM O OT hb49
     obtain ⟨KT, HY⟩ := b2 KT HY hb49
     replace hb0 := dT hb0 hb49
     clear hb49
     generalize wd47.heap.size = g51 at *
     try clear hHeld
     refine hK.out _ _ (⟨R.out.cell 0, ⟨OUT.out.cell 0, (KT.out.now)⟩⟩) (fun hHeld => ?_)
     clear hK K
     refine rdT1 13 fun K hK => ?_
     have hNh := N.out.here
     obtain ⟨cs, hown, happ⟩ := OT.out.now.row
     rw [HTL.out] at hown happ
     obtain ⟨i0, hi, hz0, hz1, hz2⟩ := info_parts info_typC
     refine step_append_lies (P := Tryz.prog) wd50 (by rfl) _ _ _ (by rfl) (gO + 1) 71 i0 _ 10 120 Tryz.underlying23 hi hz0 hz1 hz2 rfl (by decide) (.slice Ak k ck) k _ rfl hown ⟨g51, 0, none⟩ 1 1 (typV y (.slice A5 y.syms.length c5) (.slice A6 y.mems.length c6)) rfl rfl (World.news_of_block N.out) (by simp [typV, Value.oneCell']) (by omega) (by simp only [maxLen]; omega) (by omega) (by omega) wd50.heap.size rfl ?_
     intro g cap w1 hown1 hgr hat hgl
     have hv5 : ∀ b, (Value.slice Ak k ck).ownBlock = some b → b < z6 := fun b hb => by
      obtain ⟨_, _, h0, _⟩ := OT.out.now
      have := h0 b hb
      omega
     have hy1 : TypP wd50 (fun b => gO + 1 ≤ b ∧ b < w1.heap.size ∧ b < wd50.heap.size ∧ (Value.slice Ak k ck).ownBlock ≠ some b ∧ (Value.slice (some ⟨g, 0, none⟩) (k + 1) cap).ownBlock ≠ some b) y (.slice A5 y.syms.length c5) (.slice A6 y.mems.length c6) := HY.out.now.keep (fun _ _ => rfl) fun b hb => by
      have h1 := hgr.size
      have h2 := hz7
      have h3 := HY.out.le
      refine ⟨by omega, by omega, by omega, fun e => by have := hv5 b e; omega, fun e => ?_⟩
      simp only [Value.ownBlock, Option.some.injEq] at e
      rcases hat with h4 | h4
      ·
       have := hv5 g h4; omega
      omega
     have hT1 := happ w1 (.slice (some ⟨g, 0, none⟩) (k + 1) cap) y _ _ w1.heap.size hgr hown1 (fun b hb => by
      simp only [Value.ownBlock, Option.some.injEq] at hb
      rcases hat with h4 | h4
      ·
       exact .inl (hb ▸ h4)
      exact .inr (by have := OT.out.le; omega)) OT.out.le (fun b hb => by simp only [Value.ownBlock, Option.some.injEq] at hb; omega) (Nat.le_trans OT.out.le hgr.size) hy1
     rw [← HTK.out] at hT1
     have hb4 : Below (gO + 1) wd50 w1 := (Below.refl _ wd50).grown hgr (by omega) (fun q hq => (hown.lt q hq).1)
     clear hv5 hy1 hown happ hown1 hgr hat hgl
     clear OT
     clear N
     clear HY
     replace R := Lib.hid (R.out.below hb4 (show w.heap.size < gO + 1 by omega))
     replace Z := Lib.hid (Z.out.below hb4 (show w.heap.size + 1 < gO + 1 by omega))
     replace P5 := Lib.hid (P5.out.below hb4 (show gP5 < gO + 1 by omega))
     replace P7 := Lib.hid (P7.out.below hb4 (show gP7 < gO + 1 by omega))
     replace OUT := Lib.hid (OUT.out.below hb4 (show gO < gO + 1 by omega))
     replace CL := Lib.hid (CL.out.from0 hb4 (show gc + 1 ≤ gO + 1 by omega))
     replace NM := Lib.hid (NM.out.from0 hb4 (show gm + 1 ≤ gO + 1 by omega))
     replace O := Lib.hid (O.out.from0 hb4 (show gO ≤ gO + 1 by omega))
     replace KT := Lib.hid (KT.out.from0 hb4 (show bT + 1 ≤ gO + 1 by omega))
     replace hb0 := hb0.trans (hb4.mono (show w.heap.size ≤ gO + 1 by omega))
     have OT := Lib.hid (hT1.kept (Nat.le_refl _))
     clear hT1 hb4
     try clear hHeld
     refine hK.out _ _ (⟨R.out.cell 0, ⟨OUT.out.cell 0, (KT.out.now)⟩⟩) (fun hHeld => ?_)
     clear hK K
     refine rdT1 14 fun K hK => ?_
     go_simp
     try clear hHeld
     refine hK.out _ _ (⟨R.out.cell 0, ⟨OUT.out.cell 0, (KT.out.now)⟩⟩) (fun hHeld => ?_)
     clear hK K
     refine tkT 15 ?_
     refine rdTL 16 fun K hK => ?_
     have cOUT_0 := OUT.out.e0
     have fOUT_0 := OUT.out.free 0
     go_simp
     clear cOUT_0 fOUT_0
     generalize hE65 : w1.setCell _ _ = wd64
     obtain ⟨R, Z, P5, P7, CL, NM, O, KT, OT⟩ := f9 R Z P5 P7 CL NM O KT OT (eF hE65)
     replace OUT := dS0 OUT hE65
     replace hb0 := tf hb0 hE65
     clear hE65
     try clear hHeld
     refine hK.out _ _ ?_
     clear hK K
     refine wpAnyT_done (by kernel_rfl) ?_ _
     try clear hHeld
     clear KT
     go_wp2_with fail
     go_roundw
     case rel => exact ⟨k + 1, some ⟨g, 0, none⟩, cap, by go_num, by omega, OUT.out, OT.out.now.mono OT.out.le, O.out, NM.out.now, R.out, Z.out, P5.out, P7.out, CL.out.now, hb0⟩
     case measure => simp [intOf]; omega
    obtain rfl : k = f.length := by omega
    have hT1 := OT.out.now.rd OT.out.le
    rw [List.take_of_length_le (by omega), ← hfl2] at hT1
    obtain ⟨cOUT_0, cOUT_1⟩ := OUT.out.c2
    go_wp2_with (refine sR Z.out ?_)
    clear cOUT_0 cOUT_1
    generalize hE46 : wr.setRow _ _ = wd45
    obtain ⟨R, P5, P7, OUT, CL, NM, O, OT⟩ := f8 R P5 P7 OUT CL NM O OT (eR hE46)
    replace Z := dO' Z hE46
    replace hb0 := tr hb0 hE46
    clear hE46
    have hT2 := OT.out.now.rd OT.out.le
    rw [List.take_of_length_le (by omega), ← hfl2] at hT2
    have hfin := HPO.out _ Ak ck hb0 hT2
    rw [hfl2] at hfin
    clear hT1 hT2
    exact bodyPost_ret (v := .tuple #[.agg #[.slice Ak f.length ck, .int .i64 0], .int .i64 0]) (by simp [results, Tryz.results44, go_sem, Z.out.c2]) rfl (hfin)
 have t1 : (rootE ts t == 0) = false := by simpa using h1
 have HR := Lib.hid h1
 clear ht hp hs h1
 go_enter Tryz.func44, Tryz.ntmps44
 go_upto_region 1 with fail
 refine am2 (fun wd2 hb1 R Z => ?_)
 have hw3 := hb1
 clear hb1
 obtain ⟨cR_0, cR_1⟩ := R.out.c2
 go_wp2_with fail
 clear cR_0 cR_1
 ((with_reducible refine (H1.out _ (HT.out.on hw3)).mono ?_); rintro e wd4 ⟨rfl, hb5⟩)
 obtain ⟨R, Z⟩ := b2 R Z hb5
 replace hw3 := dT hw3 hb5
 clear hb5
 have HPO : Hid (∀ W, Below w.heap.size w W → CanPost ts t w (.returned (.tuple #[.agg #[.slice none 0 0, .int .i64 0], .int .i64 (rootE ts t)])) W) := fun W h => ⟨h, .inl ⟨HR.out, rfl⟩⟩
 generalize rootE ts t = r1 at *
 go_wp2_with (refine sR Z.out ?_)
 generalize hE7 : wd4.setRow _ _ = wd6
 replace R := f1 R (eR hE7)
 replace Z := dO' Z hE7
 replace hw3 := tr hw3 hE7
 clear hE7
 exact bodyPost_ret (v := .tuple #[.agg #[.slice none 0 0, .int .i64 0], .int .i64 r1]) (by simp [results, Tryz.results44, go_sem, Z.out.c2]) rfl (HPO.out _ hw3)
end Go.Proofs.YtlamhkffnlgofaaGreatDoor

/- part. No condition. -/
import Derived.Test.YtccmmibkihbobaaDoorDecK
set_option maxHeartbeats 800000
namespace Go.Proofs.YtccmmibkihbobaaDoor
open Go.ChangeShapes Go.WideShapes Go.ChangeAt Go.RowKit
set_option maxRecDepth 100000 in
theorem part_post (gr : Nat) (tv fp : Value) (fn : Int) (path : List Int) (s t : Int) (p : List UInt8) (r : Res) (w : World) (hp : path.length ≤ 1000) (hR : RdrAt w gr tv fp fn path)
  (HPay : ∀ (W : World) (fp' : Value) (fn' : Int), KeepT w gr W → RdrAt W gr tv fp' fn' (path ++ [s]) → Calls Tryd.prog 28 #[.pointer (some ⟨gr, 0, none⟩), .int .i64 t, .string ⟨p.toArray⟩] W (PayPost gr tv (path ++ [s]) W r)) :
  Calls Tryd.prog 42 #[.pointer (some ⟨gr, 0, none⟩), .int .i64 s, .int .i64 t, .string ⟨p.toArray⟩] w (PayPost gr tv path w r) := by
 obtain ⟨pv, hrow, hown⟩ := hR.row
 have hgr := hrow.here
 have HO := Lib.hid hown
 have HP := Lib.hid HPay
 clear hR hown HPay
 replace hrow := Lib.hid hrow
 go_enter Tryd.func42, Tryd.ntmps42
 go_upto_region 1 with fail
 obtain ⟨wd2, hE3⟩ : ∃ ww, ww = w.alloc (.cells #[.int .i64 0, .bool false, .int .i64 0, .string ⟨#[]⟩, .int .i64 0, .slice none 0 0, .slice none 0 0, .slice none 0 0] 45) := ⟨_, rfl⟩
 rw [← hE3]
 have hb1 := aB hE3
 have Z := aN hE3
 clear hE3
 replace hrow := dB hrow hb1
 have hw4 := hb1
 clear hb1
 have chrow_0 : wd2.cell? ⟨gr, 0, none⟩ = some (tv) := hrow.out.cell 0
 have chrow_1 : wd2.cell? ⟨gr, 1, none⟩ = some (pv) := hrow.out.cell 1
 have hown1 := own_below HO.out hw4
 have hs1 := (hw4).size
 have hlt := HO.out.lt
 go_upto_region 2 with (at_builtin; refine wpList_append_lie rfl _ _ _ rfl (gr + 1) 3 _ 1 8 Tryd.underlying22 info_intC rfl (by decide) pv path.length (path.map V64i) rfl hown1 [_] _ 1 _ rfl rfl rfl (by simp [Value.oneCell']) (by omega) (by omega) (by omega) ?_; intro g2 cap2 w3 hown3 hg3 hg3b hb3; have R3 : Hid (Has w3 gr 78 #[tv, pv, fp, .int .i64 fn]) := Lib.hid ((hb3.block gr (by omega)).trans hrow.out); have r3 : w3.cell? ⟨gr, 1, none⟩ = some pv := R3.out.cell 1; have r4 := R3.out.free 1; clear chrow_0 chrow_1)
 have hzw : wd2.heap[w.heap.size]? = some (.cells #[.int .i64 0, .bool false, .int .i64 0, .string ⟨#[]⟩, .int .i64 0, .slice none 0 0, .slice none 0 0, .slice none 0 0] 45 (0, 0)) := Z.out
 have hz2 := Z.out.here
 have Ka : KeepT wd2 gr (wd2.alloc (.cells #[.int .i64 s] 3)) := KeepT.of_below ((Below.refl _ _).alloc (Nat.le_refl _) _) (by omega)
 have K3 : KeepT w gr w3 := (KeepT.of_below hw4 (Nat.le_of_lt hgr)).trans (Ka.trans (KeepT.grown hg3 (hown1.alloc _) (Nat.lt_succ_self gr) (by simp; omega)))
 have Z3 : Hid (Has w3 w.heap.size 45 #[.int .i64 0, .bool false, .int .i64 0, .string ⟨#[]⟩, .int .i64 0, .slice none 0 0, .slice none 0 0, .slice none 0 0]) :=
  Lib.hid ((hg3.block w.heap.size (by simp; omega) (fun e => by have := hlt _ e.symm; omega)).trans ((Z.out.alloc _)))
 obtain ⟨w4, hE⟩ : ∃ ww, ww = w3.setCell ⟨gr, 1, none⟩ (.slice (some ⟨g2, 0, none⟩) (path.length + 1) cap2) := ⟨_, rfl⟩
 rw [← hE]
 have K4 : KeepT w gr w4 := hE ▸ K3.trans (KeepT.setCell _ _ _ _)
 have O4 := own_rdr hown3 (Nat.lt_succ_self gr) 1 (.slice (some ⟨g2, 0, none⟩) (path.length + 1) cap2)
 rw [← hE] at O4
 have Z4 := dF Z3 hE (show w.heap.size ≠ gr by omega)
 have R4 : Has w4 gr 78 #[tv, .slice (some ⟨g2, 0, none⟩) (path.length + 1) cap2, fp, .int .i64 fn] := by simpa using dS R3 hE
 have HC := Lib.hid (HP.out w4 fp fn K4 ⟨_, R4, by simpa [V64i] using O4⟩)
 clear hE Z3 R3 r3 r4 K3 Ka hg3 hb3 hown3 hown1 hzw Z hrow
 go_wp2_with fail
 refine HC.out.mono ?_
 intro e w5 h5
 obtain ⟨c0, c1, c2, c3, c4, c5, c6, c7, bb, h1, rfl⟩ := h5.form
 obtain ⟨fp', fn', ⟨pv5, hR5, hO5⟩, K5, h5'⟩ := h5
 have H5 := Lib.hid h5'
 clear h5' HC
 have M5 := Has.made w5 45 #[.int .i64 0, .bool false, .int .i64 0, .string ⟨#[]⟩, .int .i64 0, .slice none 0 0, .slice none 0 0, .slice none 0 0]
 have h1' : (#[c0, c1, c2, c3, c4, c5, c6, c7] : Array Value).all (·.oneCell') = true := by simpa using h1
 go_upto_region 3 with (refine wpList_store_row rfl 45 _ _ rfl w5.heap.size _ rfl rfl 45 _ M5 (by kernel_rfl) rfl h1' ?_)
 obtain ⟨w6, hE6⟩ : ∃ ww, ww = (w5.alloc (.cells #[.int .i64 0, .bool false, .int .i64 0, .string ⟨#[]⟩, .int .i64 0, .slice none 0 0, .slice none 0 0, .slice none 0 0] 45)).setRow w5.heap.size #[c0, c1, c2, c3, c4, c5, c6, c7] := ⟨_, rfl⟩
 rw [← hE6]
 have hs5 := K5.size
 have hs4 := K4.size
 have B6 : Below w5.heap.size w5 w6 := hE6 ▸ below_setRow ((Below.refl w5.heap.size w5).alloc (Nat.le_refl _) _) (Nat.le_refl _) _
 have M6 := dO (Lib.hid M5) hE6
 have R6 : Has w6 gr _ _ := (B6.block gr (by omega)).trans hR5
 have O6 := own_below hO5 B6
 rw [List.length_append, List.map_append] at O6
 obtain ⟨g6, cap6, rfl, hcap, O6'⟩ := own_cut O6 (by simp)
 have r1 : w6.cell? ⟨gr, 1, none⟩ = some (.slice (some ⟨g6, 0, none⟩) (path.length + 1) cap6) := R6.cell 1
 have r2 := R6.free 1
 clear hE6 M5
 have i1 : wrap64 (((path.length + 1 : Nat) : Int) - 1) = (path.length : Int) := by unfold wrap64; omega
 have i2 : ((path.length : Int)).toNat = path.length := by omega
 have i3 : ¬ ((path.length : Int) < 0) := by omega
 have i4 : path.length ≤ cap6 := by omega
 clear O6 hcap
 go_region
 obtain ⟨w7, hE7⟩ : ∃ ww, ww = (w6.setCell ⟨gr, 1, none⟩ (.slice (some ⟨g6, 0, none⟩) path.length cap6)).drew := ⟨_, rfl⟩
 rw [← hE7]
 have hz4 := Z4.out.here
 have Z6 : Hid (Has w6 w.heap.size _ _) := Lib.hid ((B6.block w.heap.size (by omega)).trans ((K5.block w.heap.size hgr (by omega) (fun c f e => by rw [Z4.out] at e; injection e with e1; injection e1 with _ e2; exact absurd e2 (by decide))).trans Z4.out))
 have M7 : Has w7 w5.heap.size 45 #[c0, c1, c2, c3, c4, c5, c6, c7] := by rw [hE7]; exact (dF M6 rfl (show w5.heap.size ≠ gr by omega)).out
 have Z7 : Has w7 w.heap.size 45 #[.int .i64 0, .bool false, .int .i64 0, .string ⟨#[]⟩, .int .i64 0, .slice none 0 0, .slice none 0 0, .slice none 0 0] := by rw [hE7]; exact (dF Z6 rfl (show w.heap.size ≠ gr by omega)).out
 have gB6 : gr < w5.heap.size := by omega
 have K6 : KeepT w gr w6 := K4.trans (K5.trans (KeepT.of_below B6 (by omega)))
 have K7 : KeepT w gr w7 := by rw [hE7]; exact (K6.trans (KeepT.setCell _ _ _ _)).drew
 have K57 : KeepT w5 gr w7 := by rw [hE7]; exact ((KeepT.of_below B6 (Nat.le_of_lt gB6)).trans (KeepT.setCell _ _ _ _)).drew
 have R7 : Has w7 gr 78 #[tv, .slice (some ⟨g6, 0, none⟩) path.length cap6, fp', .int .i64 fn'] := by rw [hE7]; exact (dS (Lib.hid R6) (i := 1) (v := .slice (some ⟨g6, 0, none⟩) path.length cap6) rfl).drew
 have O7 : w7.ownsRow (gr + 1) 3 1 (.slice (some ⟨g6, 0, none⟩) path.length cap6) path.length (path.map V64i) := by rw [hE7]; exact own_rdr O6' (Nat.lt_succ_self gr) 1 _
 have F7 : ∀ n ys, w5.ownsRow (gr + 1) 3 1 fp' n ys → w7.ownsRow (gr + 1) 3 1 fp' n ys := fun n ys hy => by rw [hE7]; exact own_rdr (own_below hy B6) (Nat.lt_succ_self gr) 1 _
 obtain ⟨m0, m1, m2, m3, m4, m5, m6, m7⟩ := M7.c8
 have HR8 : Hid (∀ cs', RdrAt (w7.setRow w.heap.size cs') gr tv fp' fn' path) := Lib.hid fun cs' => (rdr_to (RdrX.of ⟨_, R7, O7⟩) Z7 (by decide) (by omega) fun k hk => setRow_other _ _ _ _ hk).at_
 have HF8 : Hid (∀ n ys cs', w5.ownsRow (gr + 1) 3 1 fp' n ys → (w7.setRow w.heap.size cs').ownsRow (gr + 1) 3 1 fp' n ys) := Lib.hid fun n ys cs' hy => own_keep (F7 n ys hy) fun k hb => setRow_other _ _ _ _ (fun e => own_not (F7 n ys hy) Z7 (by decide) (e ▸ hb))
 have HN8 : Hid (∀ cs' b, NewT w4 w5 b → (w7.setRow w.heap.size cs').heap[b]? = w5.heap[b]? ∧ NewT w (w7.setRow w.heap.size cs') b) := Lib.hid fun cs' b hb => by
  have h1 := hb.1
  obtain ⟨e1, n1⟩ := hb.keep (by omega) K57
  have e2 : (w7.setRow w.heap.size cs').heap[b]? = w7.heap[b]? := setRow_other _ _ _ _ (by omega)
  exact ⟨e2.trans e1, by omega, by rw [setRow_size]; exact n1.2.1, fun c f e => n1.2.2 c f (e2.symm.trans e)⟩
 have HZ8 := Lib.hid Z7
 have HK7 := Lib.hid K7
 clear hE7 R7 O7 F7 r1 r2 i1 i2 i3 i4 M6 Z6 R6 B6 Z4 R4 hR5 hO5 O6' O4 K6 Z7 M7 K57 K7 K4 K5
 go_upto_region 4 with fail
 go_wp2_with (refine wpList_store_row rfl 45 _ _ rfl w.heap.size _ rfl rfl 45 _ HZ8.out (by kernel_rfl) rfl h1' ?_)
 obtain ⟨z0, z1, z2, z3, z4, z5, z6, z7⟩ := (row_has HZ8.out #[c0, c1, c2, c3, c4, c5, c6, c7]).c8
 refine bodyPost_ret (v := .tuple #[.agg #[c0, c1, c2, c3, c4, c5, c6, c7], .bool bb]) (by simp [results, Tryd.results42, go_sem, z0, z1, z2, z3, z4, z5, z6, z7]) rfl ?_
 refine ⟨fp', fn', HR8.out _, kRw HK7.out hgr rfl (Nat.le_refl _), ?_⟩
 have H5 := H5.out
 cases r with
 | ok v =>
  obtain ⟨vk, vi, vr, he, hv⟩ := H5
  exact ⟨vk, vi, vr, he, hv.keep (fun p hp => World.cell?_of_block (HN8.out _ p.block hp).1) (fun b hb => (HN8.out _ b hb).2)⟩
 | error q =>
  obtain ⟨p, n⟩ := q
  obtain ⟨h1, h2, h3⟩ := H5
  exact ⟨h1, HF8.out _ _ _ h2, h3⟩
end Go.Proofs.YtccmmibkihbobaaDoor

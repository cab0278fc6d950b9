/- What At of the program computes. No condition. -/
import Derived.Test.YtgeapglanckjpaaGE
import Derived.Test.YtgeapglanckjpaaGG
import Derived.Test.YtgeapglanckjpaaCopied
import Derived.Deep.Cut
set_option maxHeartbeats 8000000
namespace Go.Proofs.Ytgeapglanckjpaa
open Go.ChangeShapes Go.WideShapes Go.ChangeAt Go.RowKit
theorem typAt_nat {ts : List Typ} {t : Int} {x : Typ} (h : typAt ts t = some x) : ∃ n : Nat, t = n ∧ ∃ hn : n < ts.length, ts[n] = x := by
 unfold typAt at h
 split at h
 ·
  obtain ⟨h1, h2⟩ := List.getElem?_eq_some_iff.1 h
  exact ⟨t.toNat, by omega, h1, h2⟩
 cases h
theorem fit_typ {ts : List Typ} {pl : Bool} {v : Val} {t : Int} (h : fitV ts pl v t = true) : ∃ x, typAt ts t = some x := by
 cases hx : typAt ts t with
 | none => rw [fitV_eq, hx] at h; cases h
 | some x => exact ⟨x, rfl⟩
theorem ValAt.mono {w : World} {B B' : Nat} {x : Val} {vk vi vr : Value} (h : ValAt w B x vk vi vr) (hB : B ≤ B') : ValAt w B' x vk vi vr := h.keep (fun _ _ => rfl) hB
theorem ints_at {w : World} {b o : Nat} {zs : List Int} (h : ∀ j u, (zs.map (Value.int .i64))[j]? = some u → w.cell? ⟨b, o + j, none⟩ = some u) (k : Nat) (hk : k < zs.length) : w.cell? ⟨b, o + k, none⟩ = some (.int .i64 zs[k]) :=
 h k _ (by simp [hk])
theorem has_setRow {w : World} {g k : Nat} {T : TypeId} {cs cs' : Array Value} (h : Has w g T cs) (hne : g ≠ k) : Has (w.setRow k cs') g T cs := (setRow_other _ _ _ _ hne).trans h
def AtPostF (w : World) (r : Except Int (Val × Int)) (e : Ending) (w' : World) : Prop :=
 match r with
 | .ok q => (∃ vk vi vr, e = .returned (.tuple #[valA q.1 vk vi vr, .int .i64 q.2, .int .i64 0]) ∧ ValP w' (fun b => w.heap.size ≤ b ∧ b < w'.heap.size) q.1 vk vi vr) ∧ Below w.heap.size w w'
 | .error n => e = .returned (.tuple #[.agg #[.int .i64 0, .bool false, .int .i64 0, .string ⟨#[]⟩, .int .i64 0, .slice none 0 0, .slice none 0 0, .slice none 0 0], .int .i64 0, .int .i64 n]) ∧ Below w.heap.size w w'
theorem AtPostF.post {w w' : World} {r : Except Int (Val × Int)} {e : Ending} (h : AtPostF w r e w') : AtPost w r e w' := by
 cases r with
 | ok q =>
  obtain ⟨⟨vk, vi, vr, he, hv⟩, hb⟩ := h
  exact ⟨⟨vk, vi, vr, he, hv.at_ (fun _ h => h.2)⟩, hb⟩
 | error n => exact h
structure AtRel (w : World) (ts : List Typ) (A : Option Addr) (c : Nat) (path : List Int) (v : Val) (t : Int) (T TS : TypeId) (k : Nat) (u : Val) (s : Int) (wr : World) : Prop where
 sch : Has wr w.heap.size TS #[.slice A ts.length c]
 res : Has wr (w.heap.size + 1 + 1) T #[.int .i64 0, .bool false, .int .i64 0, .string ⟨#[]⟩, .int .i64 0, .slice none 0 0, .slice none 0 0, .slice none 0 0]
 blk : ∃ vk vi vr, Has wr (w.heap.size + 1) T (valV u vk vi vr).toArray ∧ ValAt wr w.heap.size u vk vi vr
 fit : fitV ts false u s = true
 wtu : wt u ≤ 5000
 le : k ≤ path.length
 at_ : atV ts path v t = atV ts (path.drop k) u s
 bel : Below w.heap.size w wr
set_option maxRecDepth 100000 in
theorem vat_fresh (ts : List Typ) (A : Option Addr) (c : Nat) (t : Int) (v : Val) (path : List Int) (vk vi vr vp : Value) (w : World) (hk : Kinds ts) (hwt : wt v ≤ 5000) (hpl : path.length ≤ 140737488351232) (hpi : ∀ p ∈ path, I64 p)
  (ht : RdTyps w w.heap.size (.slice A ts.length c) ts) (hv : ValAt w w.heap.size v vk vi vr) (hp : Rd w w.heap.size 1 vp path.length (path.map (Value.int .i64))) :
  Calls Try.prog 13 #[.agg #[.slice A ts.length c], .int .i64 t, valA v vk vi vr, vp] w (AtPostF w (atE ts path v t)) := by
 obtain ⟨A1, n1, A2, n2, A3, n3, rfl, rfl, rfl, -, -, -⟩ := hv.forms
 obtain ⟨Ap, cp, rfl, hcp⟩ := hp.form
 have h3b := al3 w
 have HF := Lib.hid (fun W => vfits_any v ts A c t (.slice A1 v.keys.length n1) (.slice A2 v.items.length n2) (.slice A3 v.rest.length n3) W hk)
 have HV := Lib.hid hv
 have HT := Lib.hid ht
 have HP := Lib.hid hp
 have HK := Lib.hid hk
 have HPI := Lib.hid hpi
 have hS0 := ((Has.made w 30 #[.slice A ts.length c]).alloc (.cells #[.int .i64 v.kind, .bool v.bool, .int .i64 v.num, .string ⟨v.str.toArray⟩, .int .i64 v.id, .slice A1 v.keys.length n1, .slice A2 v.items.length n2, .slice A3 v.rest.length n3] 34)).alloc (.cells #[.int .i64 0, .bool false, .int .i64 0, .string ⟨#[]⟩, .int .i64 0, .slice none 0 0, .slice none 0 0, .slice none 0 0] 34)
 have hV0 := (Has.made (w.alloc (.cells #[.slice A ts.length c] 30)) 34 #[.int .i64 v.kind, .bool v.bool, .int .i64 v.num, .string ⟨v.str.toArray⟩, .int .i64 v.id, .slice A1 v.keys.length n1, .slice A2 v.items.length n2, .slice A3 v.rest.length n3]).alloc (.cells #[.int .i64 0, .bool false, .int .i64 0, .string ⟨#[]⟩, .int .i64 0, .slice none 0 0, .slice none 0 0, .slice none 0 0] 34)
 have hZ0 := Has.made ((w.alloc (.cells #[.slice A ts.length c] 30)).alloc (.cells #[.int .i64 v.kind, .bool v.bool, .int .i64 v.num, .string ⟨v.str.toArray⟩, .int .i64 v.id, .slice A1 v.keys.length n1, .slice A2 v.items.length n2, .slice A3 v.rest.length n3] 34)) 34 #[.int .i64 0, .bool false, .int .i64 0, .string ⟨#[]⟩, .int .i64 0, .slice none 0 0, .slice none 0 0, .slice none 0 0]
 rw [alloc_hs] at hV0
 rw [alloc_hs, alloc_hs] at hZ0
 have h01 := h3b (.cells #[.slice A ts.length c] 30) (.cells #[.int .i64 v.kind, .bool v.bool, .int .i64 v.num, .string ⟨v.str.toArray⟩, .int .i64 v.id, .slice A1 v.keys.length n1, .slice A2 v.items.length n2, .slice A3 v.rest.length n3] 34) (.cells #[.int .i64 0, .bool false, .int .i64 0, .string ⟨#[]⟩, .int .i64 0, .slice none 0 0, .slice none 0 0, .slice none 0 0] 34)
 clear hv ht hp hk hpi h3b
 go_enter Try.func13, Try.ntmps13
 go_wp2_with fail
 generalize ((w.alloc (.cells #[.slice A ts.length c] 30)).alloc (.cells #[.int .i64 v.kind, .bool v.bool, .int .i64 v.num, .string ⟨v.str.toArray⟩, .int .i64 v.id, .slice A1 v.keys.length n1, .slice A2 v.items.length n2, .slice A3 v.rest.length n3] 34)).alloc (.cells #[.int .i64 0, .bool false, .int .i64 0, .string ⟨#[]⟩, .int .i64 0, .slice none 0 0, .slice none 0 0, .slice none 0 0] 34) = w1 at *
 refine (HF.out _ (HT.out.on h01) (HV.out.on h01)).mono ?_
 rintro e w2 ⟨rfl, hb2⟩
 have h02 := h01.trans (hb2.mono h01.size)
 have hz1 := hZ0.here
 have hS2 := hS0.below hb2 (by omega)
 have hV2 := hV0.below hb2 (by omega)
 have hZ2 := hZ0.below hb2 hz1
 clear hS0 hV0 hZ0 hb2 h01 hz1 HF
 cases hfit : fitV ts false v t with
 | false =>
  have hr : Hid (atE ts path v t = .error 1) := by show _ = _; rw [atE, hfit]; rfl
  have HZ2 := Lib.hid hZ2
  clear hfit hZ2
  skip
  go_wp2_with (refine wpList_store_row rfl 34 _ _ rfl (w.heap.size + 1 + 1) _ rfl rfl 34 _ HZ2.out (by kernel_rfl) rfl (by simp [Value.oneCell']) ?_)
  have hQ : Has (w2.setRow (w.heap.size + 1 + 1) #[.int .i64 0, .bool false, .int .i64 0, .string ⟨#[]⟩, .int .i64 0, .slice none 0 0, .slice none 0 0, .slice none 0 0]) (w.heap.size + 1 + 1) 34 #[.int .i64 0, .bool false, .int .i64 0, .string ⟨#[]⟩, .int .i64 0, .slice none 0 0, .slice none 0 0, .slice none 0 0] := setRow_heap _ _ _ _ _ _ HZ2.out
  have hB := below_setRow h02 (show w.heap.size ≤ w.heap.size + 1 + 1 by omega) #[.int .i64 0, .bool false, .int .i64 0, .string ⟨#[]⟩, .int .i64 0, .slice none 0 0, .slice none 0 0, .slice none 0 0]
  generalize w2.setRow (w.heap.size + 1 + 1) #[.int .i64 0, .bool false, .int .i64 0, .string ⟨#[]⟩, .int .i64 0, .slice none 0 0, .slice none 0 0, .slice none 0 0] = w9 at *
  obtain ⟨q0, q1, q2, q3, q4, q5, q6, q7⟩ := hQ.c8
  exact bodyPost_ret (v := .tuple #[.agg #[.int .i64 0, .bool false, .int .i64 0, .string ⟨#[]⟩, .int .i64 0, .slice none 0 0, .slice none 0 0, .slice none 0 0], .int .i64 0, .int .i64 1]) (by simp [results, Try.results13, go_sem, q0, q1, q2, q3, q4, q5, q6, q7]) rfl (by show AtPostF _ _ _ _; rw [hr.out]; exact ⟨rfl, hB⟩)
 | true =>
  have hre : Hid (atE ts path v t = match atV ts path v t with | some r => .ok r | none => .error 4) := by show _ = _; rw [atE, hfit]; rfl
  have hrel0 : AtRel w ts A c path v t 34 30 0 v t w2 :=
   { sch := hS2, res := hZ2, blk := ⟨_, _, _, hV2, HV.out.keep (fun p hp => h02.cell hp) (Nat.le_refl _)⟩, fit := hfit, wtu := hwt, le := by omega, at_ := rfl, bel := h02 }
  have HR0 := Lib.hid hrel0
  clear hrel0 hS2 hV2 hZ2 hfit h02
  go_wp2_with fail
  go_loopw [1, 26] (fun tv i wr => ∃ (k : Nat) (u : Val) (s : Int), tv = .int .i64 s ∧ i = .int .i64 k ∧ AtRel w ts A c path v t 34 30 k u s wr) (fun _ i _ => path.length - (intOf i).toNat)
  case atStart => exact ⟨0, v, t, rfl, rfl, HR0.out⟩
  case round =>
   obtain ⟨k, u, s, rfl, rfl, hrel⟩ := hrel
   have hle := hrel.le
   obtain ⟨x, hx⟩ := fit_typ hrel.fit
   obtain ⟨n, rfl, hn, hnx⟩ := typAt_nat hx
   obtain ⟨uk, ui, ur, hblk, hua⟩ := hrel.blk
   obtain ⟨U1, l1, U2, l2, U3, l3, rfl, rfl, rfl, -, -, -⟩ := hua.forms
   have hbel := hrel.bel
   have hzr := hrel.res.here
   have s0 := hrel.sch.cell 0
   have HRes := Lib.hid hrel.res
   have HBlk := Lib.hid hblk
   have HSch := Lib.hid hrel.sch
   have HUA := Lib.hid hua
   have Hat := Lib.hid hrel.at_
   have Hfit := Lib.hid hrel.fit
   have Hwt := Lib.hid hrel.wtu
   simp only [gl3] at s0
   by_cases hlt : k < path.length
   ·
    obtain ⟨bp, op, rfl, hbp, hcp2⟩ := (HP.out.keep (w' := wr) (fun q hq => hbel.cell hq)).at_ (by omega)
    have pc := ints_at hcp2 k hlt
    have Hdr : Hid (path.drop k = path[k] :: path.drop (k + 1)) := List.drop_eq_getElem_cons hlt
    have hI := HPI.out _ (List.getElem_mem hlt)
    generalize path[k] = p at *
    obtain ⟨b, o, rfl, hbb, hel⟩ := (HT.out.keep (w' := wr) (fun q hq => hbel.cell hq) (Nat.le_refl _)).elem (by omega)
    obtain ⟨vs, vm, hcells, hxa⟩ := hel n hn
    have hKx : KindIn x.kind := by rw [← hnx]; exact HK.out _ (List.getElem_mem hn)
    rw [hnx] at hcells hxa
    clear hel hcp2
    obtain ⟨C1, m1, C2, m2, rfl, rfl, -, -⟩ := hxa.forms
    obtain ⟨c0, c1, c2, c3, c4, c5, c6, c7, c8, c9⟩ := hcells
    have hi1 : (k : Int) < path.length := by omega
    have hi2 : (n : Int) < ts.length := by omega
    have u4 := hblk.cell 4
    have u6 := hblk.cell 6
    simp only [valV, gl3] at u4 u6
    have Hx := Lib.hid hx
    have hxs := hxa.lens
    have HM := Lib.hid (fun W h => member_any x (.slice C1 x.syms.length m1) (.slice C2 x.mems.length m2) p W h)
    clear hx hnx hblk hua hrel
    by_cases h5 : x.kind = 5
    ·
     have H5 := Lib.hid h5
     rw [h5] at c0
     simp only [typA, h5, pairV] at HM
     clear h5
     have hX0 := Has.made wr 64 #[.int .i64 5, .string ⟨x.name.toArray⟩, .int .i64 x.low, .int .i64 x.high, .int .i64 x.max, .slice C1 x.syms.length m1, .slice C2 x.mems.length m2, .int .i64 x.key, .int .i64 x.elem, .bool x.opn]
     have h1w := (Below.refl wr.heap.size wr).alloc (Nat.le_refl _) (.cells #[.int .i64 5, .string ⟨x.name.toArray⟩, .int .i64 x.low, .int .i64 x.high, .int .i64 x.max, .slice C1 x.syms.length m1, .slice C2 x.mems.length m2, .int .i64 x.key, .int .i64 x.elem, .bool x.opn] 64)
     go_wp2_with fail
     refine (HM.out _ (hxa.keep (fun q hq => h1w.cell (by omega)) (by simp; omega))).mono ?_
     generalize wr.alloc (.cells #[.int .i64 5, .string ⟨x.name.toArray⟩, .int .i64 x.low, .int .i64 x.high, .int .i64 x.max, .slice C1 x.syms.length m1, .slice C2 x.mems.length m2, .int .i64 x.key, .int .i64 x.elem, .bool x.opn] 64) = w4 at *
     (rintro e w5 ⟨rfl, hb5⟩; have hX := hX0.below hb5 hX0.here; have h1w := h1w.trans (hb5.mono h1w.size))
     have h0w := hbel.trans (h1w.mono hbel.size)
     have hzX := hX.here
     have hsw := h1w.size
     have v4 := (h1w.cell (p := ⟨w.heap.size + 1, 4, none⟩) (show w.heap.size + 1 < wr.heap.size by omega)).trans u4
     have v6 := (h1w.cell (p := ⟨w.heap.size + 1, 6, none⟩) (show w.heap.size + 1 < wr.heap.size by omega)).trans u6
     have x0 := hX.cell 0
     have x6 := hX.cell 6
     have x8 := hX.cell 8
     simp only [gl3] at x0 x6 x8
     have HRes5 := Lib.hid (HRes.out.below h1w hzr)
     have HSch5 := Lib.hid (HSch.out.below h1w (show w.heap.size < wr.heap.size by omega))
     have HBlk5 := Lib.hid (HBlk.out.below h1w (show w.heap.size + 1 < wr.heap.size by omega))
     have HUA5 := Lib.hid (HUA.out.keep (w' := w5) (fun p hp => h1w.cell (by omega)) (Nat.le_refl _))
     have HXA5 := Lib.hid (hxa.keep (w' := w5) (fun p hp => h1w.cell (by omega)) (Nat.le_refl _))
     clear hX0 c0 c1 c2 c3 c4 c5 c6 c7 c8 c9 u4 u6 s0 pc hX hxa h1w
     cases hmi : memIdx x p with
     | none =>
      have Hst : Hid (stepV x u p = none) := step5_none x u p H5.out hmi
      have Her : Hid (atE ts path v t = .error 4) := by
       show _ = _
       rw [hre.out, Hat.out, Hdr.out, atV_cons ts p _ u n x Hx.out, Hst.out]
      simp only [Option.isSome_none]
      clear hmi
      go_upto_region 13 with (fail)
      go_wp2_with (refine wpList_store_row rfl 34 _ _ rfl (w.heap.size + 1 + 1) _ rfl rfl 34 _ HRes5.out (by kernel_rfl) rfl (by simp [Value.oneCell']) ?_)
      have hQ : Has (w5.setRow (w.heap.size + 1 + 1) #[.int .i64 0, .bool false, .int .i64 0, .string ⟨#[]⟩, .int .i64 0, .slice none 0 0, .slice none 0 0, .slice none 0 0]) (w.heap.size + 1 + 1) 34 #[.int .i64 0, .bool false, .int .i64 0, .string ⟨#[]⟩, .int .i64 0, .slice none 0 0, .slice none 0 0, .slice none 0 0] := setRow_heap _ _ _ _ _ _ HRes5.out
      have hB := below_setRow h0w (show w.heap.size ≤ w.heap.size + 1 + 1 by omega) #[.int .i64 0, .bool false, .int .i64 0, .string ⟨#[]⟩, .int .i64 0, .slice none 0 0, .slice none 0 0, .slice none 0 0]
      generalize w5.setRow (w.heap.size + 1 + 1) #[.int .i64 0, .bool false, .int .i64 0, .string ⟨#[]⟩, .int .i64 0, .slice none 0 0, .slice none 0 0, .slice none 0 0] = w9 at *
      obtain ⟨q0, q1, q2, q3, q4, q5, q6, q7⟩ := hQ.c8
      exact bodyPost_ret (v := .tuple #[.agg #[.int .i64 0, .bool false, .int .i64 0, .string ⟨#[]⟩, .int .i64 0, .slice none 0 0, .slice none 0 0, .slice none 0 0], .int .i64 0, .int .i64 4]) (by simp [results, Try.results13, go_sem, q0, q1, q2, q3, q4, q5, q6, q7]) rfl (by show AtPostF _ _ _ _; rw [Her.out]; exact ⟨rfl, hB⟩)
     | some i =>
      have hil := memIdx_lt x p i hmi
      have hil2 : (i : Int) < x.mems.length := by omega
      simp only [Option.isSome_some]
      obtain ⟨bm, om, rfl, hbm, hem⟩ := HXA5.out.mems.elem (by omega)
      obtain ⟨mk, mi, mr, hmc, -⟩ := hem i hil
      have mt := hmc.2.2.1
      by_cases hit : i < u.items.length
      ·
       have Hst : Hid (stepV x u p = some (u.items[i], x.mems[i].ty)) := step5_some x u p i H5.out hmi hil hit
       have hit2 : (i : Int) < u.items.length := by omega
       have hd1 : decide ((i : Int) < 0) = false := by simp
       have hd2 : decide (u.items.length ≤ i) = false := decide_eq_false (by omega)
       obtain ⟨bi, oi, rfl, hbi, hei⟩ := HUA5.out.items.elem (by omega)
       obtain ⟨yk, yi, yr, hcy, hya⟩ := hei i hit
       clear hem hei hmc hmi
       generalize x.mems[i].ty = nt at *
       generalize u.items[i] = y at *
       obtain ⟨Y1, e1, Y2, e2, Y3, e3, rfl, rfl, rfl, -, -, -⟩ := hya.forms
       obtain ⟨y0, y1, y2, y3, y4, y5, y6, y7⟩ := hcy
       go_upto_region 19 with (fail)
       go_wp2_with (refine wpList_store_row rfl 34 _ _ rfl (w.heap.size + 1) _ rfl rfl 34 _ HBlk5.out (by kernel_rfl) rfl (by simp [Value.oneCell']) ?_)
       have hQ : Has (w5.setRow (w.heap.size + 1) #[.int .i64 y.kind, .bool y.bool, .int .i64 y.num, .string ⟨y.str.toArray⟩, .int .i64 y.id, .slice Y1 y.keys.length e1, .slice Y2 y.items.length e2, .slice Y3 y.rest.length e3]) (w.heap.size + 1) 34 #[.int .i64 y.kind, .bool y.bool, .int .i64 y.num, .string ⟨y.str.toArray⟩, .int .i64 y.id, .slice Y1 y.keys.length e1, .slice Y2 y.items.length e2, .slice Y3 y.rest.length e3] := setRow_heap _ _ _ _ _ _ HBlk5.out
       have hnew : AtRel w ts _ c path v t 34 30 (k + 1) y nt (w5.setRow (w.heap.size + 1) #[.int .i64 y.kind, .bool y.bool, .int .i64 y.num, .string ⟨y.str.toArray⟩, .int .i64 y.id, .slice Y1 y.keys.length e1, .slice Y2 y.items.length e2, .slice Y3 y.rest.length e3]) :=
        {
         sch := has_setRow HSch5.out (by omega)
         res := has_setRow HRes5.out (by omega)
         blk := ⟨_, _, _, hQ, hya.keep (fun q hq => cell_setRow_other _ _ _ _ (by omega)) (Nat.le_refl _)⟩
         fit := step_fit ts false u n x _ y nt hKx Hfit.out Hx.out Hst.out
         wtu := Nat.le_trans (step_wt x u _ y nt Hst.out) Hwt.out
         le := hlt
         at_ := by rw [Hat.out, Hdr.out, atV_cons ts _ _ u n x Hx.out, Hst.out]
         bel := below_setRow h0w (show w.heap.size ≤ w.heap.size + 1 by omega) #[.int .i64 y.kind, .bool y.bool, .int .i64 y.num, .string ⟨y.str.toArray⟩, .int .i64 y.id, .slice Y1 y.keys.length e1, .slice Y2 y.items.length e2, .slice Y3 y.rest.length e3] }
       generalize w5.setRow (w.heap.size + 1) #[.int .i64 y.kind, .bool y.bool, .int .i64 y.num, .string ⟨y.str.toArray⟩, .int .i64 y.id, .slice Y1 y.keys.length e1, .slice Y2 y.items.length e2, .slice Y3 y.rest.length e3] = w9 at *
       have Hnew := Lib.hid hnew
       clear hnew hQ
       go_wp2_with fail
       go_roundw
       case rel => exact ⟨k + 1, y, nt, rfl, by go_num, Hnew.out⟩
       case measure => simp [intOf]; omega
      have Hst : Hid (stepV x u p = none) := step5_out x u p i H5.out hmi hit
      have Her : Hid (atE ts path v t = .error 4) := by
       show _ = _
       rw [hre.out, Hat.out, Hdr.out, atV_cons ts p _ u n x Hx.out, Hst.out]
      have hd1 : decide ((i : Int) < 0) = false := by simp
      have hd2 : decide (u.items.length ≤ i) = true := decide_eq_true (by omega)
      clear hem hmc hmi
      generalize x.mems[i].ty = nt at *
      go_upto_region 18 with (fail)
      go_wp2_with (refine wpList_store_row rfl 34 _ _ rfl (w.heap.size + 1 + 1) _ rfl rfl 34 _ HRes5.out (by kernel_rfl) rfl (by simp [Value.oneCell']) ?_)
      have hQ : Has (w5.setRow (w.heap.size + 1 + 1) #[.int .i64 0, .bool false, .int .i64 0, .string ⟨#[]⟩, .int .i64 0, .slice none 0 0, .slice none 0 0, .slice none 0 0]) (w.heap.size + 1 + 1) 34 #[.int .i64 0, .bool false, .int .i64 0, .string ⟨#[]⟩, .int .i64 0, .slice none 0 0, .slice none 0 0, .slice none 0 0] := setRow_heap _ _ _ _ _ _ HRes5.out
      have hB := below_setRow h0w (show w.heap.size ≤ w.heap.size + 1 + 1 by omega) #[.int .i64 0, .bool false, .int .i64 0, .string ⟨#[]⟩, .int .i64 0, .slice none 0 0, .slice none 0 0, .slice none 0 0]
      generalize w5.setRow (w.heap.size + 1 + 1) #[.int .i64 0, .bool false, .int .i64 0, .string ⟨#[]⟩, .int .i64 0, .slice none 0 0, .slice none 0 0, .slice none 0 0] = w9 at *
      obtain ⟨q0, q1, q2, q3, q4, q5, q6, q7⟩ := hQ.c8
      exact bodyPost_ret (v := .tuple #[.agg #[.int .i64 0, .bool false, .int .i64 0, .string ⟨#[]⟩, .int .i64 0, .slice none 0 0, .slice none 0 0, .slice none 0 0], .int .i64 0, .int .i64 4]) (by simp [results, Try.results13, go_sem, q0, q1, q2, q3, q4, q5, q6, q7]) rfl (by show AtPostF _ _ _ _; rw [Her.out]; exact ⟨rfl, hB⟩)
    by_cases h6 : x.kind = 6
    ·
     have H6 := Lib.hid h6
     rw [h6] at c0
     simp only [typA, h6, pairV] at HM
     clear h5 h6
     have hX0 := Has.made wr 64 #[.int .i64 6, .string ⟨x.name.toArray⟩, .int .i64 x.low, .int .i64 x.high, .int .i64 x.max, .slice C1 x.syms.length m1, .slice C2 x.mems.length m2, .int .i64 x.key, .int .i64 x.elem, .bool x.opn]
     have h1w := (Below.refl wr.heap.size wr).alloc (Nat.le_refl _) (.cells #[.int .i64 6, .string ⟨x.name.toArray⟩, .int .i64 x.low, .int .i64 x.high, .int .i64 x.max, .slice C1 x.syms.length m1, .slice C2 x.mems.length m2, .int .i64 x.key, .int .i64 x.elem, .bool x.opn] 64)
     go_wp2_with fail
     refine (HM.out _ (hxa.keep (fun q hq => h1w.cell (by omega)) (by simp; omega))).mono ?_
     generalize wr.alloc (.cells #[.int .i64 6, .string ⟨x.name.toArray⟩, .int .i64 x.low, .int .i64 x.high, .int .i64 x.max, .slice C1 x.syms.length m1, .slice C2 x.mems.length m2, .int .i64 x.key, .int .i64 x.elem, .bool x.opn] 64) = w4 at *
     (rintro e w5 ⟨rfl, hb5⟩; have hX := hX0.below hb5 hX0.here; have h1w := h1w.trans (hb5.mono h1w.size))
     have h0w := hbel.trans (h1w.mono hbel.size)
     have hzX := hX.here
     have hsw := h1w.size
     have v4 := (h1w.cell (p := ⟨w.heap.size + 1, 4, none⟩) (show w.heap.size + 1 < wr.heap.size by omega)).trans u4
     have v6 := (h1w.cell (p := ⟨w.heap.size + 1, 6, none⟩) (show w.heap.size + 1 < wr.heap.size by omega)).trans u6
     have x0 := hX.cell 0
     have x6 := hX.cell 6
     have x8 := hX.cell 8
     simp only [gl3] at x0 x6 x8
     have HRes5 := Lib.hid (HRes.out.below h1w hzr)
     have HSch5 := Lib.hid (HSch.out.below h1w (show w.heap.size < wr.heap.size by omega))
     have HBlk5 := Lib.hid (HBlk.out.below h1w (show w.heap.size + 1 < wr.heap.size by omega))
     have HUA5 := Lib.hid (HUA.out.keep (w' := w5) (fun p hp => h1w.cell (by omega)) (Nat.le_refl _))
     have HXA5 := Lib.hid (hxa.keep (w' := w5) (fun p hp => h1w.cell (by omega)) (Nat.le_refl _))
     clear hX0 c0 c1 c2 c3 c4 c5 c6 c7 c8 c9 u4 u6 s0 pc hX hxa h1w
     cases hmi : memIdx x p with
     | none =>
      have Hst : Hid (stepV x u p = none) := step6_none x u p H6.out hmi
      have Her : Hid (atE ts path v t = .error 4) := by
       show _ = _
       rw [hre.out, Hat.out, Hdr.out, atV_cons ts p _ u n x Hx.out, Hst.out]
      simp only [Option.isSome_none]
      clear hmi
      go_upto_region 13 with (fail)
      go_wp2_with (refine wpList_store_row rfl 34 _ _ rfl (w.heap.size + 1 + 1) _ rfl rfl 34 _ HRes5.out (by kernel_rfl) rfl (by simp [Value.oneCell']) ?_)
      have hQ : Has (w5.setRow (w.heap.size + 1 + 1) #[.int .i64 0, .bool false, .int .i64 0, .string ⟨#[]⟩, .int .i64 0, .slice none 0 0, .slice none 0 0, .slice none 0 0]) (w.heap.size + 1 + 1) 34 #[.int .i64 0, .bool false, .int .i64 0, .string ⟨#[]⟩, .int .i64 0, .slice none 0 0, .slice none 0 0, .slice none 0 0] := setRow_heap _ _ _ _ _ _ HRes5.out
      have hB := below_setRow h0w (show w.heap.size ≤ w.heap.size + 1 + 1 by omega) #[.int .i64 0, .bool false, .int .i64 0, .string ⟨#[]⟩, .int .i64 0, .slice none 0 0, .slice none 0 0, .slice none 0 0]
      generalize w5.setRow (w.heap.size + 1 + 1) #[.int .i64 0, .bool false, .int .i64 0, .string ⟨#[]⟩, .int .i64 0, .slice none 0 0, .slice none 0 0, .slice none 0 0] = w9 at *
      obtain ⟨q0, q1, q2, q3, q4, q5, q6, q7⟩ := hQ.c8
      exact bodyPost_ret (v := .tuple #[.agg #[.int .i64 0, .bool false, .int .i64 0, .string ⟨#[]⟩, .int .i64 0, .slice none 0 0, .slice none 0 0, .slice none 0 0], .int .i64 0, .int .i64 4]) (by simp [results, Try.results13, go_sem, q0, q1, q2, q3, q4, q5, q6, q7]) rfl (by show AtPostF _ _ _ _; rw [Her.out]; exact ⟨rfl, hB⟩)
     | some i =>
      have hil := memIdx_lt x p i hmi
      have hil2 : (i : Int) < x.mems.length := by omega
      simp only [Option.isSome_some]
      by_cases hpv : p = u.id
      ·
       have hpv2 : (p != u.id) = false := by simp [hpv]
       have Hpv := Lib.hid hpv
       clear hpv
       obtain ⟨bm, om, rfl, hbm, hem⟩ := HXA5.out.mems.elem (by omega)
       obtain ⟨mk, mi, mr, hmc, -⟩ := hem i hil
       have mt := hmc.2.2.1
       by_cases hit : 0 < u.items.length
       ·
        have Hst : Hid (stepV x u p = some (u.items[0], x.mems[i].ty)) := step6_some x u p i H6.out hmi Hpv.out hil hit
        have hit2 : (0 : Int) < u.items.length := by omega
        have hd4 : ¬ u.items = [] := fun h => by rw [h] at hit; simp at hit
        have hd2 : decide (u.items.length ≤ 0) = false := decide_eq_false (by omega)
        have hd3 : decide ((u.items.length : Int) ≤ 0) = false := decide_eq_false (by omega)
        obtain ⟨bi, oi, rfl, hbi, hei⟩ := HUA5.out.items.elem (by omega)
        obtain ⟨yk, yi, yr, hcy, hya⟩ := hei 0 hit
        clear hem hei hmc hmi
        generalize x.mems[i].ty = nt at *
        generalize u.items[0] = y at *
        obtain ⟨Y1, e1, Y2, e2, Y3, e3, rfl, rfl, rfl, -, -, -⟩ := hya.forms
        obtain ⟨y0, y1, y2, y3, y4, y5, y6, y7⟩ := hcy
        simp only [Nat.zero_mul, Nat.add_zero] at y0 y1 y2 y3 y4 y5 y6 y7
        go_upto_region 19 with (fail)
        go_wp2_with (refine wpList_store_row rfl 34 _ _ rfl (w.heap.size + 1) _ rfl rfl 34 _ HBlk5.out (by kernel_rfl) rfl (by simp [Value.oneCell']) ?_)
        have hQ : Has (w5.setRow (w.heap.size + 1) #[.int .i64 y.kind, .bool y.bool, .int .i64 y.num, .string ⟨y.str.toArray⟩, .int .i64 y.id, .slice Y1 y.keys.length e1, .slice Y2 y.items.length e2, .slice Y3 y.rest.length e3]) (w.heap.size + 1) 34 #[.int .i64 y.kind, .bool y.bool, .int .i64 y.num, .string ⟨y.str.toArray⟩, .int .i64 y.id, .slice Y1 y.keys.length e1, .slice Y2 y.items.length e2, .slice Y3 y.rest.length e3] := setRow_heap _ _ _ _ _ _ HBlk5.out
        have hnew : AtRel w ts _ c path v t 34 30 (k + 1) y nt (w5.setRow (w.heap.size + 1) #[.int .i64 y.kind, .bool y.bool, .int .i64 y.num, .string ⟨y.str.toArray⟩, .int .i64 y.id, .slice Y1 y.keys.length e1, .slice Y2 y.items.length e2, .slice Y3 y.rest.length e3]) :=
         {
          sch := has_setRow HSch5.out (by omega)
          res := has_setRow HRes5.out (by omega)
          blk := ⟨_, _, _, hQ, hya.keep (fun q hq => cell_setRow_other _ _ _ _ (by omega)) (Nat.le_refl _)⟩
          fit := step_fit ts false u n x _ y nt hKx Hfit.out Hx.out Hst.out
          wtu := Nat.le_trans (step_wt x u _ y nt Hst.out) Hwt.out
          le := hlt
          at_ := by rw [Hat.out, Hdr.out, atV_cons ts _ _ u n x Hx.out, Hst.out]
          bel := below_setRow h0w (show w.heap.size ≤ w.heap.size + 1 by omega) #[.int .i64 y.kind, .bool y.bool, .int .i64 y.num, .string ⟨y.str.toArray⟩, .int .i64 y.id, .slice Y1 y.keys.length e1, .slice Y2 y.items.length e2, .slice Y3 y.rest.length e3] }
        generalize w5.setRow (w.heap.size + 1) #[.int .i64 y.kind, .bool y.bool, .int .i64 y.num, .string ⟨y.str.toArray⟩, .int .i64 y.id, .slice Y1 y.keys.length e1, .slice Y2 y.items.length e2, .slice Y3 y.rest.length e3] = w9 at *
        have Hnew := Lib.hid hnew
        clear hnew hQ
        go_wp2_with fail
        go_roundw
        case rel => exact ⟨k + 1, y, nt, rfl, by go_num, Hnew.out⟩
        case measure => simp [intOf]; omega
       have Hst : Hid (stepV x u p = none) := step6_out x u p H6.out hit
       have Her : Hid (atE ts path v t = .error 4) := by
        show _ = _
        rw [hre.out, Hat.out, Hdr.out, atV_cons ts p _ u n x Hx.out, Hst.out]
       have hit2 : u.items.length = 0 := by omega
       have Hit2 := Lib.hid hit2
       have hd2 : decide (u.items.length ≤ 0) = true := decide_eq_true (by omega)
       have hd3 : decide ((u.items.length : Int) ≤ 0) = true := decide_eq_true (by omega)
       have hd4 : u.items = [] := List.eq_nil_of_length_eq_zero hit2
       clear hem hmc hmi hit2
       generalize x.mems[i].ty = nt at *
       go_upto_region 18 with (fail)
       go_wp2_with (refine wpList_store_row rfl 34 _ _ rfl (w.heap.size + 1 + 1) _ rfl rfl 34 _ HRes5.out (by kernel_rfl) rfl (by simp [Value.oneCell']) ?_)
       have hQ : Has (w5.setRow (w.heap.size + 1 + 1) #[.int .i64 0, .bool false, .int .i64 0, .string ⟨#[]⟩, .int .i64 0, .slice none 0 0, .slice none 0 0, .slice none 0 0]) (w.heap.size + 1 + 1) 34 #[.int .i64 0, .bool false, .int .i64 0, .string ⟨#[]⟩, .int .i64 0, .slice none 0 0, .slice none 0 0, .slice none 0 0] := setRow_heap _ _ _ _ _ _ HRes5.out
       have hB := below_setRow h0w (show w.heap.size ≤ w.heap.size + 1 + 1 by omega) #[.int .i64 0, .bool false, .int .i64 0, .string ⟨#[]⟩, .int .i64 0, .slice none 0 0, .slice none 0 0, .slice none 0 0]
       generalize w5.setRow (w.heap.size + 1 + 1) #[.int .i64 0, .bool false, .int .i64 0, .string ⟨#[]⟩, .int .i64 0, .slice none 0 0, .slice none 0 0, .slice none 0 0] = w9 at *
       obtain ⟨q0, q1, q2, q3, q4, q5, q6, q7⟩ := hQ.c8
       exact bodyPost_ret (v := .tuple #[.agg #[.int .i64 0, .bool false, .int .i64 0, .string ⟨#[]⟩, .int .i64 0, .slice none 0 0, .slice none 0 0, .slice none 0 0], .int .i64 0, .int .i64 4]) (by simp [results, Try.results13, go_sem, q0, q1, q2, q3, q4, q5, q6, q7]) rfl (by show AtPostF _ _ _ _; rw [Her.out]; exact ⟨rfl, hB⟩)
      have hpv2 : (p != u.id) = true := by simpa using hpv
      have Hst : Hid (stepV x u p = none) := step6_ne x u p H6.out hpv
      have Her : Hid (atE ts path v t = .error 4) := by
       show _ = _
       rw [hre.out, Hat.out, Hdr.out, atV_cons ts p _ u n x Hx.out, Hst.out]
      clear hmi hpv
      go_upto_region 13 with (fail)
      go_wp2_with (refine wpList_store_row rfl 34 _ _ rfl (w.heap.size + 1 + 1) _ rfl rfl 34 _ HRes5.out (by kernel_rfl) rfl (by simp [Value.oneCell']) ?_)
      have hQ : Has (w5.setRow (w.heap.size + 1 + 1) #[.int .i64 0, .bool false, .int .i64 0, .string ⟨#[]⟩, .int .i64 0, .slice none 0 0, .slice none 0 0, .slice none 0 0]) (w.heap.size + 1 + 1) 34 #[.int .i64 0, .bool false, .int .i64 0, .string ⟨#[]⟩, .int .i64 0, .slice none 0 0, .slice none 0 0, .slice none 0 0] := setRow_heap _ _ _ _ _ _ HRes5.out
      have hB := below_setRow h0w (show w.heap.size ≤ w.heap.size + 1 + 1 by omega) #[.int .i64 0, .bool false, .int .i64 0, .string ⟨#[]⟩, .int .i64 0, .slice none 0 0, .slice none 0 0, .slice none 0 0]
      generalize w5.setRow (w.heap.size + 1 + 1) #[.int .i64 0, .bool false, .int .i64 0, .string ⟨#[]⟩, .int .i64 0, .slice none 0 0, .slice none 0 0, .slice none 0 0] = w9 at *
      obtain ⟨q0, q1, q2, q3, q4, q5, q6, q7⟩ := hQ.c8
      exact bodyPost_ret (v := .tuple #[.agg #[.int .i64 0, .bool false, .int .i64 0, .string ⟨#[]⟩, .int .i64 0, .slice none 0 0, .slice none 0 0, .slice none 0 0], .int .i64 0, .int .i64 4]) (by simp [results, Try.results13, go_sem, q0, q1, q2, q3, q4, q5, q6, q7]) rfl (by show AtPostF _ _ _ _; rw [Her.out]; exact ⟨rfl, hB⟩)
    have H5 := Lib.hid h5
    have H6 := Lib.hid h6
    have t5 : (x.kind == 5) = false := beq_eq_false_iff_ne.2 h5
    have t6 : (x.kind == 6) = false := beq_eq_false_iff_ne.2 h6
    clear h5 h6 HM
    have hX0 := Has.made wr 64 #[.int .i64 x.kind, .string ⟨x.name.toArray⟩, .int .i64 x.low, .int .i64 x.high, .int .i64 x.max, .slice C1 x.syms.length m1, .slice C2 x.mems.length m2, .int .i64 x.key, .int .i64 x.elem, .bool x.opn]
    have h1w := (Below.refl wr.heap.size wr).alloc (Nat.le_refl _) (.cells #[.int .i64 x.kind, .string ⟨x.name.toArray⟩, .int .i64 x.low, .int .i64 x.high, .int .i64 x.max, .slice C1 x.syms.length m1, .slice C2 x.mems.length m2, .int .i64 x.key, .int .i64 x.elem, .bool x.opn] 64)
    go_upto_region 7 with (fail)
    skip
    generalize wr.alloc (.cells #[.int .i64 x.kind, .string ⟨x.name.toArray⟩, .int .i64 x.low, .int .i64 x.high, .int .i64 x.max, .slice C1 x.syms.length m1, .slice C2 x.mems.length m2, .int .i64 x.key, .int .i64 x.elem, .bool x.opn] 64) = w4 at *
    have hX := hX0
    have h0w := hbel.trans (h1w.mono hbel.size)
    have hzX := hX.here
    have hsw := h1w.size
    have v4 := (h1w.cell (p := ⟨w.heap.size + 1, 4, none⟩) (show w.heap.size + 1 < wr.heap.size by omega)).trans u4
    have v6 := (h1w.cell (p := ⟨w.heap.size + 1, 6, none⟩) (show w.heap.size + 1 < wr.heap.size by omega)).trans u6
    have x0 := hX.cell 0
    have x6 := hX.cell 6
    have x8 := hX.cell 8
    simp only [gl3] at x0 x6 x8
    have HRes5 := Lib.hid (HRes.out.below h1w hzr)
    have HSch5 := Lib.hid (HSch.out.below h1w (show w.heap.size < wr.heap.size by omega))
    have HBlk5 := Lib.hid (HBlk.out.below h1w (show w.heap.size + 1 < wr.heap.size by omega))
    have HUA5 := Lib.hid (HUA.out.keep (w' := w4) (fun p hp => h1w.cell (by omega)) (Nat.le_refl _))
    have HXA5 := Lib.hid (hxa.keep (w' := w4) (fun p hp => h1w.cell (by omega)) (Nat.le_refl _))
    clear hX0 c0 c1 c2 c3 c4 c5 c6 c7 c8 c9 u4 u6 s0 pc hX hxa h1w
    by_cases hneg : p < 0
    ·
     have hd1 : decide (p < 0) = true := decide_eq_true hneg
     have Hst : Hid (stepV x u p = none) := step7_neg x u p H5.out H6.out hneg
     have Her : Hid (atE ts path v t = .error 4) := by
      show _ = _
      rw [hre.out, Hat.out, Hdr.out, atV_cons ts p _ u n x Hx.out, Hst.out]
     clear hneg
     go_upto_region 18 with (fail)
     go_wp2_with (refine wpList_store_row rfl 34 _ _ rfl (w.heap.size + 1 + 1) _ rfl rfl 34 _ HRes5.out (by kernel_rfl) rfl (by simp [Value.oneCell']) ?_)
     have hQ : Has (w4.setRow (w.heap.size + 1 + 1) #[.int .i64 0, .bool false, .int .i64 0, .string ⟨#[]⟩, .int .i64 0, .slice none 0 0, .slice none 0 0, .slice none 0 0]) (w.heap.size + 1 + 1) 34 #[.int .i64 0, .bool false, .int .i64 0, .string ⟨#[]⟩, .int .i64 0, .slice none 0 0, .slice none 0 0, .slice none 0 0] := setRow_heap _ _ _ _ _ _ HRes5.out
     have hB := below_setRow h0w (show w.heap.size ≤ w.heap.size + 1 + 1 by omega) #[.int .i64 0, .bool false, .int .i64 0, .string ⟨#[]⟩, .int .i64 0, .slice none 0 0, .slice none 0 0, .slice none 0 0]
     generalize w4.setRow (w.heap.size + 1 + 1) #[.int .i64 0, .bool false, .int .i64 0, .string ⟨#[]⟩, .int .i64 0, .slice none 0 0, .slice none 0 0, .slice none 0 0] = w9 at *
     obtain ⟨q0, q1, q2, q3, q4, q5, q6, q7⟩ := hQ.c8
     exact bodyPost_ret (v := .tuple #[.agg #[.int .i64 0, .bool false, .int .i64 0, .string ⟨#[]⟩, .int .i64 0, .slice none 0 0, .slice none 0 0, .slice none 0 0], .int .i64 0, .int .i64 4]) (by simp [results, Try.results13, go_sem, q0, q1, q2, q3, q4, q5, q6, q7]) rfl (by show AtPostF _ _ _ _; rw [Her.out]; exact ⟨rfl, hB⟩)
    obtain ⟨i, rfl⟩ : ∃ i : Nat, p = i := ⟨p.toNat, by omega⟩
    have hd1 : decide ((i : Int) < 0) = false := by simp
    by_cases hit : i < u.items.length
    ·
     have Hst : Hid (stepV x u i = some (u.items[i], x.elem)) := step7_some x u i H5.out H6.out hit
     have hit2 : (i : Int) < u.items.length := by omega
     have hd2 : decide (u.items.length ≤ i) = false := decide_eq_false (by omega)
     obtain ⟨bi, oi, rfl, hbi, hei⟩ := HUA5.out.items.elem (by omega)
     obtain ⟨yk, yi, yr, hcy, hya⟩ := hei i hit
     clear hei hneg
     generalize hnt : x.elem = nt at *
     clear hnt
     generalize u.items[i] = y at *
     obtain ⟨Y1, e1, Y2, e2, Y3, e3, rfl, rfl, rfl, -, -, -⟩ := hya.forms
     obtain ⟨y0, y1, y2, y3, y4, y5, y6, y7⟩ := hcy
     go_upto_region 19 with (fail)
     go_wp2_with (refine wpList_store_row rfl 34 _ _ rfl (w.heap.size + 1) _ rfl rfl 34 _ HBlk5.out (by kernel_rfl) rfl (by simp [Value.oneCell']) ?_)
     have hQ : Has (w4.setRow (w.heap.size + 1) #[.int .i64 y.kind, .bool y.bool, .int .i64 y.num, .string ⟨y.str.toArray⟩, .int .i64 y.id, .slice Y1 y.keys.length e1, .slice Y2 y.items.length e2, .slice Y3 y.rest.length e3]) (w.heap.size + 1) 34 #[.int .i64 y.kind, .bool y.bool, .int .i64 y.num, .string ⟨y.str.toArray⟩, .int .i64 y.id, .slice Y1 y.keys.length e1, .slice Y2 y.items.length e2, .slice Y3 y.rest.length e3] := setRow_heap _ _ _ _ _ _ HBlk5.out
     have hnew : AtRel w ts _ c path v t 34 30 (k + 1) y nt (w4.setRow (w.heap.size + 1) #[.int .i64 y.kind, .bool y.bool, .int .i64 y.num, .string ⟨y.str.toArray⟩, .int .i64 y.id, .slice Y1 y.keys.length e1, .slice Y2 y.items.length e2, .slice Y3 y.rest.length e3]) :=
      {
       sch := has_setRow HSch5.out (by omega)
       res := has_setRow HRes5.out (by omega)
       blk := ⟨_, _, _, hQ, hya.keep (fun q hq => cell_setRow_other _ _ _ _ (by omega)) (Nat.le_refl _)⟩
       fit := step_fit ts false u n x _ y nt hKx Hfit.out Hx.out Hst.out
       wtu := Nat.le_trans (step_wt x u _ y nt Hst.out) Hwt.out
       le := hlt
       at_ := by rw [Hat.out, Hdr.out, atV_cons ts _ _ u n x Hx.out, Hst.out]
       bel := below_setRow h0w (show w.heap.size ≤ w.heap.size + 1 by omega) #[.int .i64 y.kind, .bool y.bool, .int .i64 y.num, .string ⟨y.str.toArray⟩, .int .i64 y.id, .slice Y1 y.keys.length e1, .slice Y2 y.items.length e2, .slice Y3 y.rest.length e3] }
     generalize w4.setRow (w.heap.size + 1) #[.int .i64 y.kind, .bool y.bool, .int .i64 y.num, .string ⟨y.str.toArray⟩, .int .i64 y.id, .slice Y1 y.keys.length e1, .slice Y2 y.items.length e2, .slice Y3 y.rest.length e3] = w9 at *
     have Hnew := Lib.hid hnew
     clear hnew hQ
     go_wp2_with fail
     go_roundw
     case rel => exact ⟨k + 1, y, nt, rfl, by go_num, Hnew.out⟩
     case measure => simp [intOf]; omega
    have Hst : Hid (stepV x u i = none) := step7_out x u i H5.out H6.out hit
    have Her : Hid (atE ts path v t = .error 4) := by
     show _ = _
     rw [hre.out, Hat.out, Hdr.out, atV_cons ts _ _ u n x Hx.out, Hst.out]
    have hd2 : decide (u.items.length ≤ i) = true := decide_eq_true (by omega)
    clear hneg
    go_upto_region 18 with (fail)
    go_wp2_with (refine wpList_store_row rfl 34 _ _ rfl (w.heap.size + 1 + 1) _ rfl rfl 34 _ HRes5.out (by kernel_rfl) rfl (by simp [Value.oneCell']) ?_)
    have hQ : Has (w4.setRow (w.heap.size + 1 + 1) #[.int .i64 0, .bool false, .int .i64 0, .string ⟨#[]⟩, .int .i64 0, .slice none 0 0, .slice none 0 0, .slice none 0 0]) (w.heap.size + 1 + 1) 34 #[.int .i64 0, .bool false, .int .i64 0, .string ⟨#[]⟩, .int .i64 0, .slice none 0 0, .slice none 0 0, .slice none 0 0] := setRow_heap _ _ _ _ _ _ HRes5.out
    have hB := below_setRow h0w (show w.heap.size ≤ w.heap.size + 1 + 1 by omega) #[.int .i64 0, .bool false, .int .i64 0, .string ⟨#[]⟩, .int .i64 0, .slice none 0 0, .slice none 0 0, .slice none 0 0]
    generalize w4.setRow (w.heap.size + 1 + 1) #[.int .i64 0, .bool false, .int .i64 0, .string ⟨#[]⟩, .int .i64 0, .slice none 0 0, .slice none 0 0, .slice none 0 0] = w9 at *
    obtain ⟨q0, q1, q2, q3, q4, q5, q6, q7⟩ := hQ.c8
    exact bodyPost_ret (v := .tuple #[.agg #[.int .i64 0, .bool false, .int .i64 0, .string ⟨#[]⟩, .int .i64 0, .slice none 0 0, .slice none 0 0, .slice none 0 0], .int .i64 0, .int .i64 4]) (by simp [results, Try.results13, go_sem, q0, q1, q2, q3, q4, q5, q6, q7]) rfl (by show AtPostF _ _ _ _; rw [Her.out]; exact ⟨rfl, hB⟩)
   have hcop := Lib.hid (copied_any 5000 u _ _ _ wr Hwt.out (by omega) (HUA.out.mono hbel.size))
   have Hend : Hid (atE ts path v t = .ok (u, (n : Int))) := by
    show _ = _
    rw [hre.out, Hat.out, List.drop_eq_nil_of_le (by omega), atV]
   obtain ⟨u0, u1, u2, u3, u4, u5, u6, u7⟩ := hblk.c8
   clear hx hnx hblk hua hrel
   go_wp2_with fail
   refine hcop.out.mono ?_
   rintro e w3 ⟨zk, zi, zr, rfl, hz, hb3⟩
   obtain ⟨_, ⟨Z1, z1, rfl, _⟩, _⟩ := id hz.keys
   obtain ⟨_, ⟨Z2, z2, rfl, _⟩, _⟩ := id hz.items
   obtain ⟨_, Z3, z3, rfl, _⟩ := id hz.rest
   have h03 := hbel.trans (hb3.mono hbel.size)
   have HZ3 := Lib.hid (HRes.out.below hb3 hzr)
   clear u0 u1 u2 u3 u4 u5 u6 u7 s0
   go_wp2_with (refine wpList_store_row rfl 34 _ _ rfl (w.heap.size + 1 + 1) _ rfl rfl 34 _ HZ3.out (by kernel_rfl) rfl (by simp [Value.oneCell']) ?_)
   have hQ : Has (w3.setRow (w.heap.size + 1 + 1) #[.int .i64 u.kind, .bool u.bool, .int .i64 u.num, .string ⟨u.str.toArray⟩, .int .i64 u.id, .slice Z1 u.keys.length z1, .slice Z2 u.items.length z2, .slice Z3 u.rest.length z3]) (w.heap.size + 1 + 1) 34 #[.int .i64 u.kind, .bool u.bool, .int .i64 u.num, .string ⟨u.str.toArray⟩, .int .i64 u.id, .slice Z1 u.keys.length z1, .slice Z2 u.items.length z2, .slice Z3 u.rest.length z3] := setRow_heap _ _ _ _ _ _ HZ3.out
   have hB := below_setRow h03 (show w.heap.size ≤ w.heap.size + 1 + 1 by omega) #[.int .i64 u.kind, .bool u.bool, .int .i64 u.num, .string ⟨u.str.toArray⟩, .int .i64 u.id, .slice Z1 u.keys.length z1, .slice Z2 u.items.length z2, .slice Z3 u.rest.length z3]
   have hoth := fun (p : Addr) (hp : wr.heap.size ≤ p.block ∧ p.block < w3.heap.size) => cell_setRow_other w3 (w.heap.size + 1 + 1) #[.int .i64 u.kind, .bool u.bool, .int .i64 u.num, .string ⟨u.str.toArray⟩, .int .i64 u.id, .slice Z1 u.keys.length z1, .slice Z2 u.items.length z2, .slice Z3 u.rest.length z3] p (by omega)
   have hsz := setRow_size w3 (w.heap.size + 1 + 1) #[.int .i64 u.kind, .bool u.bool, .int .i64 u.num, .string ⟨u.str.toArray⟩, .int .i64 u.id, .slice Z1 u.keys.length z1, .slice Z2 u.items.length z2, .slice Z3 u.rest.length z3]
   generalize w3.setRow (w.heap.size + 1 + 1) #[.int .i64 u.kind, .bool u.bool, .int .i64 u.num, .string ⟨u.str.toArray⟩, .int .i64 u.id, .slice Z1 u.keys.length z1, .slice Z2 u.items.length z2, .slice Z3 u.rest.length z3] = w9 at *
   obtain ⟨q0, q1, q2, q3, q4, q5, q6, q7⟩ := hQ.c8
   have hle9 := hbel.size
   have hva := hz.keep hoth (S' := fun b => w.heap.size ≤ b ∧ b < w9.heap.size) (fun b hb => by have := hb.2; have := hb.1; exact ⟨by omega, by omega⟩)
   exact bodyPost_ret (v := .tuple #[valA u (.slice Z1 u.keys.length z1) (.slice Z2 u.items.length z2) (.slice Z3 u.rest.length z3), .int .i64 n, .int .i64 0]) (by simp [results, Try.results13, go_sem, q0, q1, q2, q3, q4, q5, q6, q7]) rfl (by show AtPostF _ _ _ _; rw [Hend.out]; exact ⟨⟨_, _, _, rfl, hva⟩, hB⟩)
theorem vat_any (ts : List Typ) (A : Option Addr) (c : Nat) (t : Int) (v : Val) (path : List Int) (vk vi vr vp : Value) (w : World) (hk : Kinds ts) (hwt : wt v ≤ 5000) (hpl : path.length ≤ 140737488351232) (hpi : ∀ p ∈ path, I64 p)
  (ht : RdTyps w w.heap.size (.slice A ts.length c) ts) (hv : ValAt w w.heap.size v vk vi vr) (hp : Rd w w.heap.size 1 vp path.length (path.map (Value.int .i64))) :
  Calls Try.prog 13 #[.agg #[.slice A ts.length c], .int .i64 t, valA v vk vi vr, vp] w (AtPost w (atE ts path v t)) :=
 (vat_fresh ts A c t v path vk vi vr vp w hk hwt hpl hpi ht hv hp).mono fun _ _ h => h.post
end Go.Proofs.Ytgeapglanckjpaa

/- entries. No condition. -/
import Derived.Test.YtccmmibkihbobaaDoorDecL
import Derived.Test.YtccmmibkihbobaaDoorHAG
set_option maxHeartbeats 3200000
namespace Go.Proofs.YtccmmibkihbobaaDoor
open Go.ChangeShapes Go.WideShapes Go.ChangeAt Go.RowKit
def entR (n : Nat) (fK fI : Nat → Res) (path : List Int) : Res := match seqN fK n 0 [] with
 | .error e => .error e
 | .ok ks => if ascB ks = false then .error (path, 1) else listR (fun is => .mk 8 false 0 [] 0 ks is []) (seqN fI n 0 [])
theorem entR_err {n : Nat} {fK fI : Nat → Res} {path : List Int} {e : List Int × Int} (h : seqN fK n 0 [] = .error e) : entR n fK fI path = .error e := by unfold entR; rw [h]
theorem entR_ok {n : Nat} {fK fI : Nat → Res} {path : List Int} {ks : List Val} (h : seqN fK n 0 [] = .ok ks) : entR n fK fI path = if ascB ks = false then .error (path, 1) else listR (fun is => .mk 8 false 0 [] 0 ks is []) (seqN fI n 0 []) := by unfold entR; rw [h]
theorem sb_of {W : World} {gs n n' c j : Nat} {l : List (List UInt8)} (h : W.ownsRow 0 9 1 (.slice (some ⟨gs, 0, none⟩) n c) n' (l.map SB)) (hj : j < l.length) : W.cell? ⟨gs, j, none⟩ = some (.string ⟨l[j].toArray⟩) := by
 have hn : n' = l.length := by have := h.1; simp at this; exact this.symm
 obtain ⟨g, c', hv, -, -, -, hc⟩ := own_pos h (by omega)
 injection hv with h1 h2 h3
 injection h1 with h1; injection h1 with h1
 subst h1; exact sb_at hc hj
structure EntAt (w : World) (gr : Nat) (tv : Value) (path : List Int) (x : Typ) (C1 : Option Addr) (l1 : Nat) (C2 : Option Addr) (l2 : Nat) (l : List (List UInt8)) (As : Option Addr) (cs gV : Nat) (vk vi : Value) (fp : Value) (fn : Int) (wr : World) : Prop where
 X : Has wr w.heap.size 33 #[.int .i64 8, .string ⟨x.name.toArray⟩, .int .i64 x.low, .int .i64 x.high, .int .i64 x.max, .slice C1 x.syms.length l1, .slice C2 x.mems.length l2, .int .i64 x.key, .int .i64 x.elem, .bool x.opn]
 Z : Has wr (w.heap.size + 1) 45 #[.int .i64 0, .bool false, .int .i64 0, .string ⟨#[]⟩, .int .i64 0, .slice none 0 0, .slice none 0 0, .slice none 0 0]
 V : Has wr gV 45 #[.int .i64 8, .bool false, .int .i64 0, .string ⟨#[]⟩, .int .i64 0, vk, vi, .slice none 0 0]
 R : RdrX wr gr tv fp fn path none
 KP : KeepT w gr wr
 ST : KeptN (fun w => w.ownsRow 0 9 1 (.slice As l.length cs) l.length (l.map SB)) wr (w.heap.size + 2) gV
 lo : w.heap.size + 1 < gV
/- the facts of a round's beginning -/
/- a round that decodes an item and appends it -/
set_option maxRecDepth 100000 in
theorem entries_any
 (ts : List Typ) (tv : Value) (gr : Nat) (fp : Value) (fn : Int) (path : List Int) (p : List UInt8) (rec : Int → List UInt8 → List Int → Res) (x : Typ) (vs vm : Value) (w : World) (hk : x.kind = 8) (hp : path.length < 200) (hpl : p.length ≤ 800000)
 (R : RdrAt w gr tv fp fn path) (ht : RdTyps w gr tv ts) (hx : TypAt w gr x vs vm) (HP : PartOn ts gr tv rec path) (hm : (typAt ts x.key).isSome = true ∧ (typAt ts x.elem).isSome = true) :
 Calls Tryd.prog 45 #[.pointer (some ⟨gr, 0, none⟩), typA x vs vm, .string ⟨p.toArray⟩] w (PayPost gr tv path w (decB rec x p path)) := by
 have HI := Lib.hid (fun W => items_any p (by omega) W)
 have HIL := Lib.hid (fun I h => items_len (p := p) (I := I) h)
 obtain ⟨C1, l1, C2, l2, rfl, rfl, -, -⟩ := hx.forms
 have HX := Lib.hid hx
 have HT := Lib.hid ht
 have HPo := Lib.hid HP
 have HM := Lib.hid hm
 have HKx := Lib.hid hk
 have hxs := hx.lens
 clear hx ht HP hm
 have hgr := R.here
 replace R := Lib.hid (RdrX.of R)
 have KP := KeepT.refl w gr
 go_enter Tryd.func45, Tryd.ntmps45
 go_upto_region 1 with fail
 obtain ⟨wd2, hE3⟩ : ∃ ww, ww = w.alloc (.cells #[.int .i64 8, .string ⟨x.name.toArray⟩, .int .i64 x.low, .int .i64 x.high, .int .i64 x.max, .slice C1 x.syms.length l1, .slice C2 x.mems.length l2, .int .i64 x.key, .int .i64 x.elem, .bool x.opn] 33) := ⟨_, rfl⟩
 rw [← hE3]
 have hb1 := aB hE3
 have X := aN hE3
 obtain ⟨wd4, hE5⟩ : ∃ ww, ww = wd2.alloc (.cells #[.int .i64 0, .bool false, .int .i64 0, .string ⟨#[]⟩, .int .i64 0, .slice none 0 0, .slice none 0 0, .slice none 0 0] 45) := ⟨_, rfl⟩
 rw [← hE5]
 replace X := dB X (aB hE5)
 replace hb1 := dT hb1 (aB hE5)
 have Z := aM hE5 (aZ hE3 rfl)
 clear hE3 hE5
 replace R := rB R hb1
 replace KP := kB KP hgr hb1
 clear hb1
 cases ha : itemsP p with
 | none =>
  have HR : Hid (decB rec x p path = .error (path, 1)) := by show _ = _; simp [decB, HKx.out, ha]
  simp only [ha] at HI
  clear ha
  go_wp2_with fail
  ((with_reducible refine (HI.out _).mono ?_); rintro e wd6 ⟨rfl, hb7⟩)
  replace X := dB X hb7
  replace Z := dB Z hb7
  replace R := rB R hb7
  replace KP := kB KP hgr hb7
  clear hb7
  go_upto_region 3 with fail
  have hz := Z.out.here
  go_wp2_with fail
  ((with_reducible refine (fail_post gr _ _ _ path 1 _ (by omega) R.out.at_).mono ?_); rintro e wd8 hp)
  obtain ⟨c0, c1, c2, c3, c4, c5, c6, c7, bb, h1', rfl⟩ := hp.form
  have Z2 := dKT Z hp.keep (by omega) (by decide)
  go_wp2_with (refine wpList_store_row rfl 45 _ _ rfl (w.heap.size + 1) _ rfl rfl 45 _ Z2.out (by kernel_rfl) rfl (by simpa using h1') ?_)
  obtain ⟨z0, z1, z2, z3, z4, z5, z6, z7⟩ := (row_has Z2.out #[c0, c1, c2, c3, c4, c5, c6, c7]).c8
  exact bodyPost_ret (v := .tuple #[.agg #[c0, c1, c2, c3, c4, c5, c6, c7], .bool bb]) (by simp [results, Tryd.results45, go_sem, z0, z1, z2, z3, z4, z5, z6, z7]) rfl (by rw [HR.out]; exact hp.tail KP hgr (by omega) hz Z2.out (by decide))
 | some l =>
  have HL : Hid (∀ q ∈ l, q.length ≤ p.length) := Lib.hid (HIL.out l ha)
  simp only [ha] at HI
  have HD : Hid (decB rec x p path = if l.length % 2 = 1 then .error (path, 1) else if x.max < ((l.length / 2 : Nat) : Int) then .error (path, 3) else entR (l.length / 2) (fun i => rec x.key (l.getD (2 * i) []) (path ++ [(i : Int)])) (fun i => rec x.elem (l.getD (2 * i + 1) []) (path ++ [(i : Int)])) path) := by
   show _ = _
   simp only [decB, HKx.out, ha]
   rw [if_neg (by decide), if_neg (by decide), if_neg (by decide), if_neg (by decide), if_neg (by decide), if_neg (by decide), if_neg (by decide), if_pos trivial]
   by_cases h1 : l.length % 2 = 1
   ·
    rw [if_pos h1, if_pos h1]
   rw [if_neg h1, if_neg h1]
   by_cases h2 : x.max < ((l.length / 2 : Nat) : Int)
   ·
    rw [if_pos h2]; simp at h2; simp [h2]
   rw [if_neg h2]
   simp at h2
   rw [if_neg (by simpa using h2)]
   unfold entR
   cases seqN (fun i => rec x.key (l.getD (2 * i) []) (path ++ [(i : Int)])) (l.length / 2) 0 [] with
   | error e => rfl
   | ok ks =>
    simp only []
    by_cases h3 : ascB ks = false
    ·
     rw [if_pos h3, if_pos h3]
    rw [if_neg h3, if_neg h3]
    cases seqN (fun i => rec x.elem (l.getD (2 * i + 1) []) (path ++ [(i : Int)])) (l.length / 2) 0 [] <;> rfl
  clear ha HIL
  have hS0 := Z.out.here
  go_wp2_with fail
  ((with_reducible refine (HI.out _).mono ?_); rintro e wd10 ⟨vl, rfl, hll, hown, hb11⟩)
  replace X := dB X hb11
  replace Z := dB Z hb11
  replace R := rB R hb11
  replace KP := kB KP hgr hb11
  clear hb11
  clear HI
  obtain ⟨As, cs, rfl⟩ := own_form hown
  have ST := Lib.hid ((KeptN.own (own_baseD hown (show w.heap.size + 2 ≤ _ from hS0)) (by decide)).imp fun _ h => own_baseD h (Nat.zero_le _))
  clear hown hS0
  by_cases hodd : l.length % 2 = 1
  ·
   have HR : Hid (decB rec x p path = .error (path, 1)) := by show _ = _; rw [HD.out, if_pos hodd]
   have ho : (l.length : Int) % 2 = 1 := by omega
   clear HD hodd
   go_upto_region 3 with fail
   have hz := Z.out.here
   go_wp2_with fail
   ((with_reducible refine (fail_post gr _ _ _ path 1 _ (by omega) R.out.at_).mono ?_); rintro e wd12 hp)
   obtain ⟨c0, c1, c2, c3, c4, c5, c6, c7, bb, h1', rfl⟩ := hp.form
   have Z2 := dKT Z hp.keep (by omega) (by decide)
   go_wp2_with (refine wpList_store_row rfl 45 _ _ rfl (w.heap.size + 1) _ rfl rfl 45 _ Z2.out (by kernel_rfl) rfl (by simpa using h1') ?_)
   obtain ⟨z0, z1, z2, z3, z4, z5, z6, z7⟩ := (row_has Z2.out #[c0, c1, c2, c3, c4, c5, c6, c7]).c8
   exact bodyPost_ret (v := .tuple #[.agg #[c0, c1, c2, c3, c4, c5, c6, c7], .bool bb]) (by simp [results, Tryd.results45, go_sem, z0, z1, z2, z3, z4, z5, z6, z7]) rfl (by rw [HR.out]; exact hp.tail KP hgr (by omega) hz Z2.out (by decide))
  obtain ⟨n, hn⟩ : ∃ n, l.length = 2 * n := ⟨l.length / 2, by omega⟩
  have hn2 : l.length / 2 = n := by omega
  have HD : Hid (decB rec x p path = if x.max < (n : Int) then .error (path, 3) else entR n (fun i => rec x.key (l.getD (2 * i) []) (path ++ [(i : Int)])) (fun i => rec x.elem (l.getD (2 * i + 1) []) (path ++ [(i : Int)])) path) := by show _ = _; rw [HD.out, if_neg hodd, hn2]
  have ho : (l.length : Int) % 2 = 0 := by omega
  have hq : (l.length : Int) / 2 = n := by omega
  have hn := Lib.hid hn
  clear hodd hn2
  obtain ⟨cX_0, cX_1, cX_2, cX_3, cX_4, cX_5, cX_6, cX_7, cX_8, cX_9⟩ := X.out.c10
  by_cases h1 : x.max < (n : Int)
  ·
   have HR : Hid (decB rec x p path = .error (path, 3)) := by show _ = _; rw [HD.out, if_pos h1]
   clear HD
   go_upto_region 5 with fail
   have hz := Z.out.here
   go_wp2_with fail
   clear cX_0 cX_1 cX_2 cX_3 cX_4 cX_5 cX_6 cX_7 cX_8 cX_9
   ((with_reducible refine (fail_post gr _ _ _ path 3 _ (by omega) R.out.at_).mono ?_); rintro e wd14 hp)
   obtain ⟨c0, c1, c2, c3, c4, c5, c6, c7, bb, h1', rfl⟩ := hp.form
   have Z2 := dKT Z hp.keep (by omega) (by decide)
   go_wp2_with (refine wpList_store_row rfl 45 _ _ rfl (w.heap.size + 1) _ rfl rfl 45 _ Z2.out (by kernel_rfl) rfl (by simpa using h1') ?_)
   obtain ⟨z0, z1, z2, z3, z4, z5, z6, z7⟩ := (row_has Z2.out #[c0, c1, c2, c3, c4, c5, c6, c7]).c8
   exact bodyPost_ret (v := .tuple #[.agg #[c0, c1, c2, c3, c4, c5, c6, c7], .bool bb]) (by simp [results, Tryd.results45, go_sem, z0, z1, z2, z3, z4, z5, z6, z7]) rfl (by rw [HR.out]; exact hp.tail KP hgr (by omega) hz Z2.out (by decide))
  have HD : Hid (decB rec x p path = entR n (fun i => rec x.key (l.getD (2 * i) []) (path ++ [(i : Int)])) (fun i => rec x.elem (l.getD (2 * i + 1) []) (path ++ [(i : Int)])) path) := by show _ = _; rw [HD.out, if_neg h1]
  go_upto_region 7 with fail
  clear h1 ho hq
  clear cX_0 cX_1 cX_2 cX_3 cX_4 cX_5 cX_6 cX_7 cX_8 cX_9
  obtain ⟨wd17, hE18⟩ : ∃ ww, ww = wd10.alloc (.cells #[.int .i64 8, .bool false, .int .i64 0, .string ⟨#[]⟩, .int .i64 0, .slice none 0 0, .slice none 0 0, .slice none 0 0] 45) := ⟨_, rfl⟩
  rw [← hE18]
  have hb16 := aB hE18
  have V := aN hE18
  clear hE18
  have hl20 := X.out.here
  have hl21 := Z.out.here
  have hl22 := ST.out.le
  have hl23 := KP.size
  replace X := dB X hb16
  replace Z := dB Z hb16
  replace ST := nB ST hb16
  replace R := rB R hb16
  replace KP := kB KP hgr hb16
  clear hb16
  generalize wd10.heap.size = g19 at *
  obtain ⟨gV, rfl⟩ : ∃ g, g = g19 := ⟨_, rfl⟩
  have hl0 : Hid (EntAt w gr tv path x C1 l1 C2 l2 l As cs gV (.slice none 0 0) (.slice none 0 0) fp fn wd17) :=
   Lib.hid ⟨X.out, Z.out, V.out, R.out, KP, ST.out, by omega⟩
  clear X Z V R KP ST
  go_upto_region 8 with fail
  go_loopw [11] (fun i wr => ∃ k j : Nat, k ≤ n ∧ j = 2 * k ∧ i = .int .i64 (j : Int) ∧ ∃ (fp : Value) (fn : Int) (va : Value) (acc : List Val), EntAt w gr tv path x C1 l1 C2 l2 l As cs gV va (.slice none 0 0) fp fn wr ∧ ListN (gV + 1) va acc wr ∧ acc.length = k ∧ seqN (fun i => rec x.key (l.getD (2 * i) []) (path ++ [(i : Int)])) n 0 [] = seqN (fun i => rec x.key (l.getD (2 * i) []) (path ++ [(i : Int)])) (n - k) k acc) (fun i _ => l.length - (intOf i).toNat)
  case atStart => exact ⟨0, 0, by omega, rfl, rfl, _, _, _, [], hl0.out, ListN.nil _ _, rfl, rfl⟩
  case round =>
   clear hl0
   obtain ⟨k, j, hk1, hj, rfl, fp1, fn1, va, acc, ⟨X, Z, V, R, KP, hST, hgV⟩, hL, hacc, hseq⟩ := hrel
   replace R := Lib.hid R
   replace X := Lib.hid X
   replace Z := Lib.hid Z
   replace V := Lib.hid V
   have ST := Lib.hid (hST)
   clear hST
   by_cases hlt : j < l.length
   ·
    skip
    obtain ⟨gs, cs', hvs, -, -, -, -⟩ := own_pos ST.out.now (by omega)
    injection hvs with hv1 hv2 hv3
    subst hv1; subst hv3; clear hv2
    have hvl : Hid (∀ j, va.ownBlock = some j → gV+1 ≤ j ∧ j < wr.heap.size) := Lib.hid (fun j hj => ⟨(hL.lt j hj).1, (hL.lt j hj).2.1⟩)
    have hLk := hL.kept
    have hgz := V.out.here
    obtain ⟨hz, hzE⟩ : ∃ hz, wr.heap.size = hz := ⟨_, rfl⟩
    rw [hzE] at hLk hvl hgz
    clear hzE hL
    have LI := Lib.hid (hLk)
    clear hLk
    have hST1 := Lib.hid (fun (W : World) h => sb_of (W := W) (gs := gs) (n := l.length) (n' := l.length) (c := cs) h hlt)
    have hn1 : n - k = (n - (k + 1)) + 1 := by omega
    have hfk : (fun i => rec x.key (l.getD (2 * k) []) (path ++ [(i : Int)])) k = rec x.key l[j] (path ++ [(k : Int)]) := by simp [List.getD, ← hj, hlt]
    rw [hn1] at hseq
    have hseqO := fun v h => hseq.trans (seqN_ok (v := v) (hfk.trans h))
    have hseqE := fun e h => hseq.trans (seqN_err (e := e) (hfk.trans h))
    clear hseq hn1 hfk
    have hlk := HL.out l[j] (List.getElem_mem hlt)
    have HPQ := Lib.hid (fun (W : World) (fp' : Value) (fn' : Int) h1 h2 => HPo.out W fp' fn' k x.key l[j] h1 h2 HM.out.1 (by omega))
    generalize rec x.key l[j] (path ++ [(k : Int)]) = q at *
    generalize l[j] = lk at *
    have HSO := Lib.hid hseqO
    have HSE := Lib.hid hseqE
    have Hacc := Lib.hid hacc
    have hlti : (j : Int) < l.length := by omega
    have hd0 : decide ((j : Int) < 0) = false := by simp
    have hd1 : decide (l.length ≤ j) = false := by simpa using hlt
    have hd2 : decide ((j : Int) < l.length) = true := by simpa using hlt
    have hq1 : (j : Int).tdiv 2 = (k : Int) := by rw [Int.tdiv_eq_ediv]; omega
    have hq2 : IntKind.i64.wrap (k : Int) = k := IntWalk.i64_in _ (by omega)
    have Hj := Lib.hid hj
    clear hseqO hseqE hacc hj
    go_upto_region 10 with fail
    go_cut [12, 13] from 48 to 75 (fun sa sb wx => ItemAt wx gr tv path q (hz - 1) sa sb ∧ KeepT w gr wx ∧ Has wx w.heap.size 33 #[.int .i64 8, .string ⟨x.name.toArray⟩, .int .i64 x.low, .int .i64 x.high, .int .i64 x.max, .slice C1 x.syms.length l1, .slice C2 x.mems.length l2, .int .i64 x.key, .int .i64 x.elem, .bool x.opn] ∧ Has wx (w.heap.size + 1) 45 #[.int .i64 0, .bool false, .int .i64 0, .string ⟨#[]⟩, .int .i64 0, .slice none 0 0, .slice none 0 0, .slice none 0 0] ∧ Has wx gV 45 #[.int .i64 8, .bool false, .int .i64 0, .string ⟨#[]⟩, .int .i64 0, va, .slice none 0 0, .slice none 0 0] ∧
     KeptN (fun w => w.ownsRow 0 9 1 (.slice (some ⟨gs, 0, none⟩) l.length cs) l.length (l.map SB)) wx (w.heap.size + 2) gV ∧ KeptN (ListN (gV+1) va acc) wx (gV+1) hz)
    case first =>
     have cX_7 : wr.cell? ⟨w.heap.size, 7, none⟩ = some (.int .i64 x.key) := X.out.cell 7
     refine wp_region_held_drew (S := (fun w' => w'.cell? ⟨w.heap.size, 7, none⟩ = some (.int .i64 x.key) ∧ (w'.cell? ⟨gs, j, none⟩ = some (.string ⟨lk.toArray⟩)))) (by kernel_rfl) ⟨cX_7, (hST1.out _ ST.out.now)⟩ (fun hHeld => ?_)
     clear cX_7
     have hb24 : Below wr.heap.size wr (wr.drew) := (Below.refl _ _).drew
     replace X := dB X hb24
     replace Z := dB Z hb24
     replace V := dB V hb24
     replace ST := nB ST hb24
     replace LI := nB LI hb24
     replace R := rB R hb24
     replace KP := kB KP hgr hb24
     clear hb24
     generalize wr.drew = wd25 at *
     refine tk (i := 0) (v := ?k26) ?_
     simp only [put_laws2]
     refine tk (i := 1) (v := ?k27) ?_
     simp only [put_laws2]
     refine tk (i := 2) (v := ?k28) ?_
     simp only [put_laws2]
     refine tk (i := 3) (v := ?k29) ?_
     simp only [put_laws2]
     refine tk (i := 4) (v := ?k30) ?_
     simp only [put_laws2]
     refine tk (i := 5) (v := ?k31) ?_
     simp only [put_laws2]
     refine tk (i := 6) (v := ?k32) ?_
     simp only [put_laws2]
     refine tk (i := 7) (v := ?k33) ?_
     simp only [put_laws2]
     refine tk (i := 8) (v := ?k34) ?_
     simp only [put_laws2]
     refine wpAnyH_ready (rs := [9, 13]) (by kernel_rfl) (by simp) ?_
     refine AllReadyH.cons rfl (fun K hK => ?_) (AllReadyH.cons rfl (fun K hK => ?_) (AllReadyH.nil))
     ·
      skip
      go_simp
      have hl42 := X.out.here
      have hl43 := Z.out.here
      have hl44 := V.out.here
      have hl45 := ST.out.le
      have hl46 := LI.out.le
      have hl47 := KP.size
      ((with_reducible refine (HPQ.out _ _ _ R.out.at_ (HT.out.keep (fun _ hp => KP.low.cell hp) (Nat.le_refl _))).mono ?_); rintro e wd35 hp37)
      obtain ⟨fp40, fn41, c0N, c1N, c2N, c3N, c4N, c5N, c6N, c7N, bbN, h1N, rfl, hR39, hK38, N⟩ := hp37.take
      replace X := dKT X hK38 (by omega) (by decide)
      replace Z := dKT Z hK38 (by omega) (by decide)
      replace V := dKT V hK38 (by omega) (by decide)
      replace ST := nT ST hK38 (by omega)
      replace LI := nT LI hK38 (by omega)
      replace R := Lib.hid hR39
      replace KP := KP.trans hK38
      replace N := Lib.hid N
      clear hK38
      have h1aN : (#[c0N, c1N, c2N, c3N, c4N, c5N, c6N, c7N] : Array Value).all (·.oneCell') = true := by simpa using h1N
      generalize wd25.heap.size = L36 at *
      try clear hHeld
      refine hK.out _ _ (⟨X.out.cell 7, (hST1.out _ ST.out.now)⟩) (fun hHeld => ?_)
      clear hK K
      refine tk (i := 10) (v := ?k48) ?_
      simp only [put_laws2]
      refine tk (i := 11) (v := ?k49) ?_
      simp only [put_laws2]
      refine tk (i := 12) (v := ?k50) ?_
      simp only [put_laws2]
      refine rd1 (i := 13) (fun K hK => ?_)
      go_simp
      obtain ⟨wd52, hE53⟩ : ∃ ww, ww = wd35.alloc (.cells #[.int .i64 0, .bool false, .int .i64 0, .string ⟨#[]⟩, .int .i64 0, .slice none 0 0, .slice none 0 0, .slice none 0 0] 45) := ⟨_, rfl⟩
      rw [← hE53]
      have hb51 := aB hE53
      have I := aN hE53
      clear hE53
      have hl55 := X.out.here
      have hl56 := Z.out.here
      have hl57 := V.out.here
      have hl58 := ST.out.le
      have hl59 := LI.out.le
      have hl60 := N.out.le
      have hl61 := KP.size
      replace X := dB X hb51
      replace Z := dB Z hb51
      replace V := dB V hb51
      replace ST := nB ST hb51
      replace LI := nB LI hb51
      replace N := nB N hb51
      replace R := rB R hb51
      replace KP := kB KP hgr hb51
      clear hb51
      generalize wd35.heap.size = g54 at *
      try clear hHeld
      refine hK.out _ _ (⟨X.out.cell 7, (hST1.out _ ST.out.now)⟩) (fun hHeld => ?_)
      clear hK K
      refine rd1 (i := 14) (fun K hK => ?_)
      refine step_store_row (by rfl) 45 _ _ (by rfl) (g54) #[c0N, c1N, c2N, c3N, c4N, c5N, c6N, c7N] (by rfl) (by rfl) 45 _ I.out (by kernel_rfl) rfl (by first | assumption | simp [Value.oneCell']) ?_
      obtain ⟨wd62, hE63⟩ : ∃ ww, ww = wd52.setRow (g54) #[c0N, c1N, c2N, c3N, c4N, c5N, c6N, c7N] := ⟨_, rfl⟩
      rw [← hE63]
      replace X := dR X hE63 (by omega)
      replace Z := dR Z hE63 (by omega)
      replace V := dR V hE63 (by omega)
      replace R := rR R I hE63 (by decide) (by omega)
      replace KP := kRw KP hgr hE63 (by omega)
      replace I := dO I hE63
      replace ST := nR ST hE63 (by omega)
      replace LI := nR LI hE63 (by omega)
      replace N := nR N hE63 (by omega)
      clear hE63
      try clear hHeld
      refine hK.out _ _ (⟨X.out.cell 7, (hST1.out _ ST.out.now)⟩) (fun hHeld => ?_)
      clear hK K
      refine tk (i := 15) (v := ?k64) ?_
      simp only [put_laws2]
      refine wpAnyH_done (by kernel_rfl) ?_ _
      try clear hHeld
      go_wp2_with fail
      go_meet
      have hBl := N.out.le
      exact ⟨⟨_, _, _, _, _, _, _, _, _, _, _, _, _, _, rfl, rfl, h1N, I.out, R.out, N.out, by omega, by omega, by omega⟩, KP, X.out, Z.out, V.out, ST.out, LI.out⟩
     skip
     go_simp
     obtain ⟨wd66, hE67⟩ : ∃ ww, ww = wd25.alloc (.cells #[.int .i64 0, .bool false, .int .i64 0, .string ⟨#[]⟩, .int .i64 0, .slice none 0 0, .slice none 0 0, .slice none 0 0] 45) := ⟨_, rfl⟩
     rw [← hE67]
     have hb65 := aB hE67
     have I := aN hE67
     clear hE67
     have hl69 := X.out.here
     have hl70 := Z.out.here
     have hl71 := V.out.here
     have hl72 := ST.out.le
     have hl73 := LI.out.le
     have hl74 := KP.size
     replace X := dB X hb65
     replace Z := dB Z hb65
     replace V := dB V hb65
     replace ST := nB ST hb65
     replace LI := nB LI hb65
     replace R := rB R hb65
     replace KP := kB KP hgr hb65
     clear hb65
     generalize wd25.heap.size = g68 at *
     try clear hHeld
     refine hK.out _ _ (⟨X.out.cell 7, (hST1.out _ ST.out.now)⟩) (fun hHeld => ?_)
     clear hK K
     refine rd1 (i := 9) (fun K hK => ?_)
     go_simp
     have hl82 := X.out.here
     have hl83 := Z.out.here
     have hl84 := V.out.here
     have hl85 := I.out.here
     have hl86 := ST.out.le
     have hl87 := LI.out.le
     have hl88 := KP.size
     ((with_reducible refine (HPQ.out _ _ _ R.out.at_ (HT.out.keep (fun _ hp => KP.low.cell hp) (Nat.le_refl _))).mono ?_); rintro e wd75 hp77)
     obtain ⟨fp80, fn81, c0N, c1N, c2N, c3N, c4N, c5N, c6N, c7N, bbN, h1N, rfl, hR79, hK78, N⟩ := hp77.take
     replace X := dKT X hK78 (by omega) (by decide)
     replace Z := dKT Z hK78 (by omega) (by decide)
     replace V := dKT V hK78 (by omega) (by decide)
     replace I := dKT I hK78 (by omega) (by decide)
     replace ST := nT ST hK78 (by omega)
     replace LI := nT LI hK78 (by omega)
     replace R := Lib.hid hR79
     replace KP := KP.trans hK78
     replace N := Lib.hid N
     clear hK78
     have h1aN : (#[c0N, c1N, c2N, c3N, c4N, c5N, c6N, c7N] : Array Value).all (·.oneCell') = true := by simpa using h1N
     generalize wd66.heap.size = L76 at *
     try clear hHeld
     refine hK.out _ _ (⟨X.out.cell 7, (hST1.out _ ST.out.now)⟩) (fun hHeld => ?_)
     clear hK K
     refine tk (i := 10) (v := ?k89) ?_
     simp only [put_laws2]
     refine tk (i := 11) (v := ?k90) ?_
     simp only [put_laws2]
     refine tk (i := 12) (v := ?k91) ?_
     simp only [put_laws2]
     refine rd1 (i := 14) (fun K hK => ?_)
     refine step_store_row (by rfl) 45 _ _ (by rfl) (g68) #[c0N, c1N, c2N, c3N, c4N, c5N, c6N, c7N] (by rfl) (by rfl) 45 _ I.out (by kernel_rfl) rfl (by first | assumption | simp [Value.oneCell']) ?_
     obtain ⟨wd92, hE93⟩ : ∃ ww, ww = wd75.setRow (g68) #[c0N, c1N, c2N, c3N, c4N, c5N, c6N, c7N] := ⟨_, rfl⟩
     rw [← hE93]
     replace X := dR X hE93 (by omega)
     replace Z := dR Z hE93 (by omega)
     replace V := dR V hE93 (by omega)
     replace R := rR R I hE93 (by decide) (by omega)
     replace KP := kRw KP hgr hE93 (by omega)
     replace I := dO I hE93
     replace ST := nR ST hE93 (by omega)
     replace LI := nR LI hE93 (by omega)
     replace N := nR N hE93 (by omega)
     clear hE93
     try clear hHeld
     refine hK.out _ _ (⟨X.out.cell 7, (hST1.out _ ST.out.now)⟩) (fun hHeld => ?_)
     clear hK K
     refine tk (i := 15) (v := ?k94) ?_
     simp only [put_laws2]
     refine wpAnyH_done (by kernel_rfl) ?_ _
     try clear hHeld
     go_wp2_with fail
     go_meet
     have hBl := N.out.le
     exact ⟨⟨_, _, _, _, _, _, _, _, _, _, _, _, _, _, rfl, rfl, h1N, I.out, R.out, N.out, by omega, by omega, by omega⟩, KP, X.out, Z.out, V.out, ST.out, LI.out⟩
    case rest =>
     clear ST LI X Z V R KP hST1 hd0 hd1 hd2 hq1 hq2
     obtain ⟨⟨gI, fp', fn', c0N, c1N, c2N, c3N, c4N, c5N, c6N, c7N, bbN, LN, BN, rfl, rfl, h1N, I, R, hN, hLN, hgI, hLB⟩, KP, X, Z, V, hST, hLI⟩ := hcut
     have h1aN : (#[c0N, c1N, c2N, c3N, c4N, c5N, c6N, c7N] : Array Value).all (·.oneCell') = true := by simpa using h1N
     replace R := Lib.hid R
     replace X := Lib.hid X
     replace Z := Lib.hid Z
     replace V := Lib.hid V
     replace I := Lib.hid I
     have ST := Lib.hid (hST)
     have LI := Lib.hid (hLI)
     have N := Lib.hid (hN)
     clear hST hLI hN
     obtain ⟨cI_0, cI_1, cI_2, cI_3, cI_4, cI_5, cI_6, cI_7⟩ := I.out.c8
     have hN := N.out.now
     have hNl := N.out.le
     cases q with
     | error pn =>
      obtain ⟨p', n'⟩ := pn
      obtain ⟨rfl, hf⟩ := hN
      have HR : Hid (decB rec x p path = .error (p', n')) := by show _ = _; rw [HD.out, entR_err (HSE.out _ rfl)]
      have hf := Lib.hid hf
      go_upto_region 12 with fail
      go_wp2_with (refine wpList_store_row rfl 45 _ _ rfl (w.heap.size + 1) _ rfl rfl 45 _ Z.out (by kernel_rfl) rfl (by first | assumption | simp [Value.oneCell']) ?_)
      clear cI_0 cI_1 cI_2 cI_3 cI_4 cI_5 cI_6 cI_7
      obtain ⟨wd95, hE96⟩ : ∃ ww, ww = wc.setRow (w.heap.size + 1) #[c0N, c1N, c2N, c3N, c4N, c5N, c6N, c7N] := ⟨_, rfl⟩
      rw [← hE96]
      replace X := dR X hE96 (by omega)
      replace V := dR V hE96 (by omega)
      replace I := dR I hE96 (by omega)
      replace R := rR R Z hE96 (by decide) (by omega)
      replace KP := kRw KP hgr hE96 (by omega)
      replace Z := dO Z hE96
      replace ST := nR ST hE96 (by omega)
      replace LI := nR LI hE96 (by omega)
      replace N := nR N hE96 (by omega)
      clear hE96
      obtain ⟨cZ_0, cZ_1, cZ_2, cZ_3, cZ_4, cZ_5, cZ_6, cZ_7⟩ := Z.out.c8
      exact bodyPost_ret (v := .tuple #[.agg #[c0N, c1N, c2N, c3N, c4N, c5N, c6N, c7N], .bool false]) (by simp [results, Tryd.results45, go_sem, cZ_0, cZ_1, cZ_2, cZ_3, cZ_4, cZ_5, cZ_6, cZ_7]) rfl (PayPost.bad HR.out R KP hf.out h1N)
     | ok v =>
      obtain ⟨rfl, vk1, vi1, vr1, hc, hv⟩ := hN
      have HCs : Hid ((#[c0N, c1N, c2N, c3N, c4N, c5N, c6N, c7N] : Array Value) = (valV v vk1 vi1 vr1).toArray) := by show _ = _; rw [← hc]
      have HV := Lib.hid hv
      clear hc hv
      have cV_5 : wc.cell? ⟨gV, 5, none⟩ = some (va) := V.out.cell 5
      have hli := LI.out.now
      have hIw := I.out.here
      have hlv := fun j hj => hli.lt j hj
      go_upto_region 9 with (at_builtin; refine wpList_append_item rfl _ _ rfl rfl HCs.out hli rfl rfl HV.out (fun j hj => by have := (hvl.out j hj).2; omega) hNl (by omega) (by have := Hacc.out; omega) (by omega) ?_; intro v' w3 hL3 hb3 hg3; obtain ⟨An, cn, hvv⟩ := hL3.form; obtain rfl : v' = .slice An (acc.length + 1) cn := (by rw [hvv, List.length_append]; rfl); clear hvv; have V3 := dG V hg3 (fun hh => by have := (hvl.out _ hh).1; omega); have v36 : w3.cell? ⟨gV, 5, none⟩ = some va := V3.out.cell 5; have f36 := V3.out.free 5)
      clear hli v36 f36 V3
      clear N
      clear LI
      clear cI_0 cI_1 cI_2 cI_3 cI_4 cI_5 cI_6 cI_7 cV_5
      replace X := dG X hg3 (fun hh => by have := hvl.out _ hh; omega)
      replace Z := dG Z hg3 (fun hh => by have := hvl.out _ hh; omega)
      replace V := dG V hg3 (fun hh => by have := hvl.out _ hh; omega)
      replace I := dG I hg3 (fun hh => by have := hvl.out _ hh; omega)
      replace ST := nG ST hg3 (fun k hh => by have := hvl.out k hh; omega) hb3.size
      replace R := rG R hg3 (fun j hj => ⟨by have := (hlv j hj).1; omega, (hlv j hj).2.2⟩)
      replace KP := KP.above hb3 (by omega) (by omega)
      clear hlv
      have LJ := Lib.hid (hL3.kept)
      clear hL3
      obtain ⟨wd97, hE98⟩ : ∃ ww, ww = w3.setCell ⟨gV, 5, none⟩ ((.slice An (acc.length + 1) cn)) := ⟨_, rfl⟩
      rw [← hE98]
      replace X := dF X hE98 (by omega)
      replace Z := dF Z hE98 (by omega)
      replace I := dF I hE98 (by omega)
      replace R := rF R V hE98 (by decide) (by omega)
      replace KP := kS KP hgr hE98 (by omega)
      replace V : Hid (Has wd97 (gV) 45 #[.int .i64 8, .bool false, .int .i64 0, .string ⟨#[]⟩, .int .i64 0, (.slice An (acc.length + 1) cn), .slice none 0 0, .slice none 0 0]) := Lib.hid (by simpa using dS V hE98)
      replace ST := nF ST hE98 (by omega)
      replace LJ := nF LJ hE98 (by omega)
      clear hE98
      go_wp2_with fail
      go_roundw
      case rel => exact ⟨k + 1, j + 2, by have := Hj.out; have := hn.out; omega, by have := Hj.out; omega, by go_num, _, _, _, acc ++ [v], ⟨X.out, Z.out, V.out, R.out, KP, ST.out, hgV⟩, LJ.out.now, by rw [List.length_append, Hacc.out]; rfl, HSO.out v rfl⟩
      case measure => simp [intOf]; omega
   obtain rfl : n = k := by have := hn.out; omega
   have HD : Hid (decB rec x p path = if ascB acc = false then .error (path, 1) else listR (fun is => .mk 8 false 0 [] 0 acc is []) (seqN (fun i => rec x.elem (l.getD (2 * i + 1) []) (path ++ [(i : Int)])) n 0 [])) := by show _ = _; rw [HD.out, entR_ok (by rw [hseq, Nat.sub_self]; rfl)]
   have hLk := hL.kept
   have hgz := V.out.here
   obtain ⟨B0, hB0⟩ : ∃ B0, wr.heap.size = B0 := ⟨_, rfl⟩
   rw [hB0] at hLk hgz
   obtain ⟨Av, cv, rfl⟩ := hL.form
   have Hacc := Lib.hid hacc
   have hl1 : Hid (EntAt w gr tv path x C1 l1 C2 l2 l As cs gV (.slice Av acc.length cv) (.slice none 0 0) fp1 fn1 wr) :=
    Lib.hid ⟨X.out, Z.out, V.out, R.out, KP, ST.out, by omega⟩
   have HLk := Lib.hid hLk
   have hkn : acc.length ≤ 800000 := by have := hn.out; omega
   clear X Z V R KP ST hL hLk hB0 hseq hacc hj
   go_upto_region 15 with fail
   go_loopw [14] (fun i wr => ∃ k : Nat, i = .int .i64 ((k : Int) + 1) ∧ k ≤ acc.length ∧ ascB acc = ascB (acc.drop k) ∧ ∃ (fp : Value) (fn : Int), EntAt w gr tv path x C1 l1 C2 l2 l As cs gV (.slice Av acc.length cv) (.slice none 0 0) fp fn wr ∧ KeptN (ListN (gV + 1) (.slice Av acc.length cv) acc) wr (gV + 1) B0) (fun i _ => acc.length + 1 - (intOf i).toNat)
   case atStart => exact ⟨0, rfl, by omega, rfl, _, _, hl1.out, HLk.out⟩
   case round =>
    clear hl1 HLk
    obtain ⟨k, rfl, hk1, hix, fp2, fn2, ⟨X, Z, V, R, KP, hST, hgV⟩, hLK⟩ := hrel
    replace R := Lib.hid R
    replace X := Lib.hid X
    replace Z := Lib.hid Z
    replace V := Lib.hid V
    have ST := Lib.hid (hST)
    clear hST
    have LK := Lib.hid (hLK)
    clear hLK
    by_cases hlt : k + 1 < acc.length
    ·
     obtain ⟨S, hO, -⟩ := LK.out.now
     obtain ⟨bk, ok, rfl, hbk, hek⟩ := hO.rds.elem (by omega)
     obtain ⟨xk, xi, xr, hcx, hxa⟩ := hek k (by omega)
     obtain ⟨yk, yi, yr, hcy, hya⟩ := hek (k+1) hlt
     rw [ascB_at _ _ hlt] at hix
     generalize acc[k] = a at *
     generalize acc[k+1] = d at *
     obtain ⟨E1, k1, E2, k2, E3, k3, rfl, rfl, rfl, -, -, -⟩ := hxa.forms
     obtain ⟨F1, m1, F2, m2, F3, m3, rfl, rfl, rfl, -, -, -⟩ := hya.forms
     obtain ⟨a0, a1, a2, a3, a4, a5, a6, a7⟩ := hcx
     obtain ⟨d0, d1, d2, d3, d4, d5, d6, d7⟩ := hcy
     have HA := Lib.hid hxa
     have HE := Lib.hid hya
     have Hix := Lib.hid hix
     have hi1 : (k : Int) + 1 < acc.length := by omega
     have hi2 : (k : Int) < acc.length := by omega
     clear hek hxa hya hix hO
     have cV_5 : wr.cell? ⟨gV, 5, none⟩ = some (.slice (some ⟨bk, ok, none⟩) acc.length cv) := V.out.cell 5
     go_wp2_with fail
     have hw0 : IntKind.i64.wrap (k : Int) = k := IntWalk.i64_in _ (by omega)
     have hw1 : IntKind.i64.wrap ((k : Int) + 1 - 1) = k := by rw [Int.add_sub_cancel]; exact hw0
     have hw2 : ((k : Int) + 1).toNat = k + 1 := by omega
     have hw3 : 0 ≤ (k : Int) + 1 := by omega
     go_still_tail 11, (by kernel_rfl)
     change wpList _ _ _ _ _ wr.drew
     clear hw0 hw1 hw2 hw3
     have HA := Lib.hid (HA.out.on (w' := wr.drew) (Below.refl _ _).drew)
     have HE := Lib.hid (HE.out.on (w' := wr.drew) (Below.refl _ _).drew)
     obtain ⟨cv2, hcv⟩ : ∃ cv, Hid (compareV a d = cv) := ⟨_, rfl⟩
     clear a0 a1 a2 a3 a4 a5 a6 a7 d0 d1 d2 d3 d4 d5 d6 d7
     clear cV_5
     have hb99 : Below wr.heap.size wr (wr.drew) := (Below.refl _ _).drew
     replace X := dB X hb99
     replace Z := dB Z hb99
     replace V := dB V hb99
     replace ST := nB ST hb99
     replace LK := nB LK hb99
     replace R := rB R hb99
     replace KP := kB KP hgr hb99
     clear hb99
     generalize wr.drew = wd100 at *
     go_wp2_with fail
     ((with_reducible refine (vcompare_any a d _ _ _ _ _ _ _ HA.out HE.out).mono ?_); rintro e wd101 ⟨rfl, hb102⟩)
     replace X := dB X hb102
     replace Z := dB Z hb102
     replace V := dB V hb102
     replace ST := nB ST hb102
     replace LK := nB LK hb102
     replace R := rB R hb102
     replace KP := kB KP hgr hb102
     clear hb102
     rw [hcv.out] at Hix ⊢
     clear hcv HA HE
     by_cases hneg : cv2 < 0
     ·
      have hd : decide (0 ≤ cv2) = false := decide_eq_false (by omega)
      rw [decide_eq_true hneg, Bool.true_and] at Hix
      go_wp2_with fail
      go_roundw
      case rel => exact ⟨k + 1, by go_num, by omega, Hix.out, _, _, ⟨X.out, Z.out, V.out, R.out, KP, ST.out, hgV⟩, LK.out⟩
      case measure => simp [intOf]; omega
     have hd : decide (0 ≤ cv2) = true := decide_eq_true (by omega)
     rw [decide_eq_false hneg, Bool.false_and] at Hix
     have HR : Hid (decB rec x p path = .error (path, 1)) := by show _ = _; rw [HD.out, if_pos Hix.out]
     go_upto_region 18 with fail
     have hz := Z.out.here
     go_wp2_with fail
     ((with_reducible refine (fail_post gr _ _ _ path 1 _ (by omega) R.out.at_).mono ?_); rintro e wd103 hp)
     obtain ⟨c0, c1, c2, c3, c4, c5, c6, c7, bb, h1', rfl⟩ := hp.form
     have Z2 := dKT Z hp.keep (by omega) (by decide)
     go_wp2_with (refine wpList_store_row rfl 45 _ _ rfl (w.heap.size + 1) _ rfl rfl 45 _ Z2.out (by kernel_rfl) rfl (by simpa using h1') ?_)
     obtain ⟨z0, z1, z2, z3, z4, z5, z6, z7⟩ := (row_has Z2.out #[c0, c1, c2, c3, c4, c5, c6, c7]).c8
     exact bodyPost_ret (v := .tuple #[.agg #[c0, c1, c2, c3, c4, c5, c6, c7], .bool bb]) (by simp [results, Tryd.results45, go_sem, z0, z1, z2, z3, z4, z5, z6, z7]) rfl (by rw [HR.out]; exact hp.tail KP hgr (by omega) hz Z2.out (by decide))
    rw [ascB_end _ _ (by omega)] at hix
    have HD : Hid (decB rec x p path = listR (fun is => .mk 8 false 0 [] 0 acc is []) (seqN (fun i => rec x.elem (l.getD (2 * i + 1) []) (path ++ [(i : Int)])) n 0 [])) := by show _ = _; rw [HD.out, if_neg (by rw [hix]; simp)]
    have hl1 : Hid (EntAt w gr tv path x C1 l1 C2 l2 l As cs gV (.slice Av acc.length cv) (.slice none 0 0) fp2 fn2 wr) :=
     Lib.hid ⟨X.out, Z.out, V.out, R.out, KP, ST.out, hgV⟩
    clear hix
    have cV_5 : wr.cell? ⟨gV, 5, none⟩ = some (.slice Av acc.length cv) := V.out.cell 5
    go_upto_region 20 with fail
    clear X Z V R KP ST cV_5
    go_loopw [15] (fun i wr => ∃ k j : Nat, k ≤ n ∧ j = 2 * k + 1 ∧ i = .int .i64 (j : Int) ∧ ∃ (fp : Value) (fn : Int) (va : Value) (acc2 : List Val), EntAt w gr tv path x C1 l1 C2 l2 l As cs gV (.slice Av acc.length cv) va fp fn wr ∧ ListN B0 va acc2 wr ∧ acc2.length = k ∧ seqN (fun i => rec x.elem (l.getD (2 * i + 1) []) (path ++ [(i : Int)])) n 0 [] = seqN (fun i => rec x.elem (l.getD (2 * i + 1) []) (path ++ [(i : Int)])) (n - k) k acc2 ∧ KeptN (ListN (gV + 1) (.slice Av acc.length cv) acc) wr (gV + 1) B0) (fun i _ => l.length + 1 - (intOf i).toNat)
    case atStart => exact ⟨0, 1, by omega, rfl, rfl, _, _, _, [], hl1.out, ListN.nil _ _, rfl, rfl, LK.out⟩
    case round =>
     clear hl1 LK
     generalize Hacc0 : acc = ks at *
     clear Hacc0
     obtain ⟨k, j, hk1, hj, rfl, fp1, fn1, va, acc, ⟨X, Z, V, R, KP, hST, hgV⟩, hL, hacc, hseq, hLK⟩ := hrel
     replace R := Lib.hid R
     replace X := Lib.hid X
     replace Z := Lib.hid Z
     replace V := Lib.hid V
     have ST := Lib.hid (hST)
     clear hST
     have LK := Lib.hid (hLK)
     by_cases hlt : j < l.length
     ·
      skip
      obtain ⟨gs, cs', hvs, -, -, -, -⟩ := own_pos ST.out.now (by omega)
      injection hvs with hv1 hv2 hv3
      subst hv1; subst hv3; clear hv2
      have hvl : Hid (∀ j, va.ownBlock = some j → B0 ≤ j ∧ j < wr.heap.size) := Lib.hid (fun j hj => ⟨(hL.lt j hj).1, (hL.lt j hj).2.1⟩)
      have hLk := hL.kept
      have hgz := And.intro V.out.here hLK.le; clear hLK
      obtain ⟨hz, hzE⟩ : ∃ hz, wr.heap.size = hz := ⟨_, rfl⟩
      rw [hzE] at hLk hvl hgz
      clear hzE hL
      have LI := Lib.hid (hLk)
      clear hLk
      have hST1 := Lib.hid (fun (W : World) h => sb_of (W := W) (gs := gs) (n := l.length) (n' := l.length) (c := cs) h hlt)
      have hn1 : n - k = (n - (k + 1)) + 1 := by omega
      have hfk : (fun i => rec x.elem (l.getD (2 * k + 1) []) (path ++ [(i : Int)])) k = rec x.elem l[j] (path ++ [(k : Int)]) := by simp [List.getD, ← hj, hlt]
      rw [hn1] at hseq
      have hseqO := fun v h => hseq.trans (seqN_ok (v := v) (hfk.trans h))
      have hseqE := fun e h => hseq.trans (seqN_err (e := e) (hfk.trans h))
      clear hseq hn1 hfk
      have hlk := HL.out l[j] (List.getElem_mem hlt)
      have HPQ := Lib.hid (fun (W : World) (fp' : Value) (fn' : Int) h1 h2 => HPo.out W fp' fn' k x.elem l[j] h1 h2 HM.out.2 (by omega))
      generalize rec x.elem l[j] (path ++ [(k : Int)]) = q at *
      generalize l[j] = lk at *
      have HSO := Lib.hid hseqO
      have HSE := Lib.hid hseqE
      have Hacc := Lib.hid hacc
      have hlti : (j : Int) < l.length := by omega
      have hd0 : decide ((j : Int) < 0) = false := by simp
      have hd1 : decide (l.length ≤ j) = false := by simpa using hlt
      have hd2 : decide ((j : Int) < l.length) = true := by simpa using hlt
      have hq1 : (j : Int).tdiv 2 = (k : Int) := by rw [Int.tdiv_eq_ediv]; omega
      have hq2 : IntKind.i64.wrap (k : Int) = k := IntWalk.i64_in _ (by omega)
      have Hj := Lib.hid hj
      clear hseqO hseqE hacc hj
      go_upto_region 22 with fail
      go_cut [16, 17] from 100 to 127 (fun sa sb wx => ItemAt wx gr tv path q (hz - 1) sa sb ∧ KeepT w gr wx ∧ Has wx w.heap.size 33 #[.int .i64 8, .string ⟨x.name.toArray⟩, .int .i64 x.low, .int .i64 x.high, .int .i64 x.max, .slice C1 x.syms.length l1, .slice C2 x.mems.length l2, .int .i64 x.key, .int .i64 x.elem, .bool x.opn] ∧ Has wx (w.heap.size + 1) 45 #[.int .i64 0, .bool false, .int .i64 0, .string ⟨#[]⟩, .int .i64 0, .slice none 0 0, .slice none 0 0, .slice none 0 0] ∧ Has wx gV 45 #[.int .i64 8, .bool false, .int .i64 0, .string ⟨#[]⟩, .int .i64 0, .slice Av ks.length cv, va, .slice none 0 0] ∧
       KeptN (fun w => w.ownsRow 0 9 1 (.slice (some ⟨gs, 0, none⟩) l.length cs) l.length (l.map SB)) wx (w.heap.size + 2) gV ∧ KeptN (ListN (B0) va acc) wx (B0) hz ∧ KeptN (ListN (gV + 1) (.slice Av ks.length cv) ks) wx (gV + 1) B0)
      case first =>
       have cX_8 : wr.cell? ⟨w.heap.size, 8, none⟩ = some (.int .i64 x.elem) := X.out.cell 8
       refine wp_region_held_drew (S := (fun w' => w'.cell? ⟨w.heap.size, 8, none⟩ = some (.int .i64 x.elem) ∧ (w'.cell? ⟨gs, j, none⟩ = some (.string ⟨lk.toArray⟩)))) (by kernel_rfl) ⟨cX_8, (hST1.out _ ST.out.now)⟩ (fun hHeld => ?_)
       clear cX_8
       have hb105 : Below wr.heap.size wr (wr.drew) := (Below.refl _ _).drew
       replace X := dB X hb105
       replace Z := dB Z hb105
       replace V := dB V hb105
       replace ST := nB ST hb105
       replace LK := nB LK hb105
       replace LI := nB LI hb105
       replace R := rB R hb105
       replace KP := kB KP hgr hb105
       clear hb105
       generalize wr.drew = wd106 at *
       refine tk (i := 0) (v := ?k107) ?_
       simp only [put_laws2]
       refine tk (i := 1) (v := ?k108) ?_
       simp only [put_laws2]
       refine tk (i := 2) (v := ?k109) ?_
       simp only [put_laws2]
       refine tk (i := 3) (v := ?k110) ?_
       simp only [put_laws2]
       refine tk (i := 4) (v := ?k111) ?_
       simp only [put_laws2]
       refine tk (i := 5) (v := ?k112) ?_
       simp only [put_laws2]
       refine tk (i := 6) (v := ?k113) ?_
       simp only [put_laws2]
       refine tk (i := 7) (v := ?k114) ?_
       simp only [put_laws2]
       refine tk (i := 8) (v := ?k115) ?_
       simp only [put_laws2]
       refine wpAnyH_ready (rs := [9, 13]) (by kernel_rfl) (by simp) ?_
       refine AllReadyH.cons rfl (fun K hK => ?_) (AllReadyH.cons rfl (fun K hK => ?_) (AllReadyH.nil))
       ·
        skip
        go_simp
        have hl123 := X.out.here
        have hl124 := Z.out.here
        have hl125 := V.out.here
        have hl126 := ST.out.le
        have hl127 := LK.out.le
        have hl128 := LI.out.le
        have hl129 := KP.size
        ((with_reducible refine (HPQ.out _ _ _ R.out.at_ (HT.out.keep (fun _ hp => KP.low.cell hp) (Nat.le_refl _))).mono ?_); rintro e wd116 hp118)
        obtain ⟨fp121, fn122, c0N, c1N, c2N, c3N, c4N, c5N, c6N, c7N, bbN, h1N, rfl, hR120, hK119, N⟩ := hp118.take
        replace X := dKT X hK119 (by omega) (by decide)
        replace Z := dKT Z hK119 (by omega) (by decide)
        replace V := dKT V hK119 (by omega) (by decide)
        replace ST := nT ST hK119 (by omega)
        replace LK := nT LK hK119 (by omega)
        replace LI := nT LI hK119 (by omega)
        replace R := Lib.hid hR120
        replace KP := KP.trans hK119
        replace N := Lib.hid N
        clear hK119
        have h1aN : (#[c0N, c1N, c2N, c3N, c4N, c5N, c6N, c7N] : Array Value).all (·.oneCell') = true := by simpa using h1N
        generalize wd106.heap.size = L117 at *
        try clear hHeld
        refine hK.out _ _ (⟨X.out.cell 8, (hST1.out _ ST.out.now)⟩) (fun hHeld => ?_)
        clear hK K
        refine tk (i := 10) (v := ?k130) ?_
        simp only [put_laws2]
        refine tk (i := 11) (v := ?k131) ?_
        simp only [put_laws2]
        refine tk (i := 12) (v := ?k132) ?_
        simp only [put_laws2]
        refine rd1 (i := 13) (fun K hK => ?_)
        go_simp
        obtain ⟨wd134, hE135⟩ : ∃ ww, ww = wd116.alloc (.cells #[.int .i64 0, .bool false, .int .i64 0, .string ⟨#[]⟩, .int .i64 0, .slice none 0 0, .slice none 0 0, .slice none 0 0] 45) := ⟨_, rfl⟩
        rw [← hE135]
        have hb133 := aB hE135
        have I := aN hE135
        clear hE135
        have hl137 := X.out.here
        have hl138 := Z.out.here
        have hl139 := V.out.here
        have hl140 := ST.out.le
        have hl141 := LK.out.le
        have hl142 := LI.out.le
        have hl143 := N.out.le
        have hl144 := KP.size
        replace X := dB X hb133
        replace Z := dB Z hb133
        replace V := dB V hb133
        replace ST := nB ST hb133
        replace LK := nB LK hb133
        replace LI := nB LI hb133
        replace N := nB N hb133
        replace R := rB R hb133
        replace KP := kB KP hgr hb133
        clear hb133
        generalize wd116.heap.size = g136 at *
        try clear hHeld
        refine hK.out _ _ (⟨X.out.cell 8, (hST1.out _ ST.out.now)⟩) (fun hHeld => ?_)
        clear hK K
        refine rd1 (i := 14) (fun K hK => ?_)
        refine step_store_row (by rfl) 45 _ _ (by rfl) (g136) #[c0N, c1N, c2N, c3N, c4N, c5N, c6N, c7N] (by rfl) (by rfl) 45 _ I.out (by kernel_rfl) rfl (by first | assumption | simp [Value.oneCell']) ?_
        obtain ⟨wd145, hE146⟩ : ∃ ww, ww = wd134.setRow (g136) #[c0N, c1N, c2N, c3N, c4N, c5N, c6N, c7N] := ⟨_, rfl⟩
        rw [← hE146]
        replace X := dR X hE146 (by omega)
        replace Z := dR Z hE146 (by omega)
        replace V := dR V hE146 (by omega)
        replace R := rR R I hE146 (by decide) (by omega)
        replace KP := kRw KP hgr hE146 (by omega)
        replace I := dO I hE146
        replace ST := nR ST hE146 (by omega)
        replace LK := nR LK hE146 (by omega)
        replace LI := nR LI hE146 (by omega)
        replace N := nR N hE146 (by omega)
        clear hE146
        try clear hHeld
        refine hK.out _ _ (⟨X.out.cell 8, (hST1.out _ ST.out.now)⟩) (fun hHeld => ?_)
        clear hK K
        refine tk (i := 15) (v := ?k147) ?_
        simp only [put_laws2]
        refine wpAnyH_done (by kernel_rfl) ?_ _
        try clear hHeld
        go_wp2_with fail
        go_meet
        have hBl := N.out.le
        exact ⟨⟨_, _, _, _, _, _, _, _, _, _, _, _, _, _, rfl, rfl, h1N, I.out, R.out, N.out, by omega, by omega, by omega⟩, KP, X.out, Z.out, V.out, ST.out, LI.out, LK.out⟩
       skip
       go_simp
       obtain ⟨wd149, hE150⟩ : ∃ ww, ww = wd106.alloc (.cells #[.int .i64 0, .bool false, .int .i64 0, .string ⟨#[]⟩, .int .i64 0, .slice none 0 0, .slice none 0 0, .slice none 0 0] 45) := ⟨_, rfl⟩
       rw [← hE150]
       have hb148 := aB hE150
       have I := aN hE150
       clear hE150
       have hl152 := X.out.here
       have hl153 := Z.out.here
       have hl154 := V.out.here
       have hl155 := ST.out.le
       have hl156 := LK.out.le
       have hl157 := LI.out.le
       have hl158 := KP.size
       replace X := dB X hb148
       replace Z := dB Z hb148
       replace V := dB V hb148
       replace ST := nB ST hb148
       replace LK := nB LK hb148
       replace LI := nB LI hb148
       replace R := rB R hb148
       replace KP := kB KP hgr hb148
       clear hb148
       generalize wd106.heap.size = g151 at *
       try clear hHeld
       refine hK.out _ _ (⟨X.out.cell 8, (hST1.out _ ST.out.now)⟩) (fun hHeld => ?_)
       clear hK K
       refine rd1 (i := 9) (fun K hK => ?_)
       go_simp
       have hl166 := X.out.here
       have hl167 := Z.out.here
       have hl168 := V.out.here
       have hl169 := I.out.here
       have hl170 := ST.out.le
       have hl171 := LK.out.le
       have hl172 := LI.out.le
       have hl173 := KP.size
       ((with_reducible refine (HPQ.out _ _ _ R.out.at_ (HT.out.keep (fun _ hp => KP.low.cell hp) (Nat.le_refl _))).mono ?_); rintro e wd159 hp161)
       obtain ⟨fp164, fn165, c0N, c1N, c2N, c3N, c4N, c5N, c6N, c7N, bbN, h1N, rfl, hR163, hK162, N⟩ := hp161.take
       replace X := dKT X hK162 (by omega) (by decide)
       replace Z := dKT Z hK162 (by omega) (by decide)
       replace V := dKT V hK162 (by omega) (by decide)
       replace I := dKT I hK162 (by omega) (by decide)
       replace ST := nT ST hK162 (by omega)
       replace LK := nT LK hK162 (by omega)
       replace LI := nT LI hK162 (by omega)
       replace R := Lib.hid hR163
       replace KP := KP.trans hK162
       replace N := Lib.hid N
       clear hK162
       have h1aN : (#[c0N, c1N, c2N, c3N, c4N, c5N, c6N, c7N] : Array Value).all (·.oneCell') = true := by simpa using h1N
       generalize wd149.heap.size = L160 at *
       try clear hHeld
       refine hK.out _ _ (⟨X.out.cell 8, (hST1.out _ ST.out.now)⟩) (fun hHeld => ?_)
       clear hK K
       refine tk (i := 10) (v := ?k174) ?_
       simp only [put_laws2]
       refine tk (i := 11) (v := ?k175) ?_
       simp only [put_laws2]
       refine tk (i := 12) (v := ?k176) ?_
       simp only [put_laws2]
       refine rd1 (i := 14) (fun K hK => ?_)
       refine step_store_row (by rfl) 45 _ _ (by rfl) (g151) #[c0N, c1N, c2N, c3N, c4N, c5N, c6N, c7N] (by rfl) (by rfl) 45 _ I.out (by kernel_rfl) rfl (by first | assumption | simp [Value.oneCell']) ?_
       obtain ⟨wd177, hE178⟩ : ∃ ww, ww = wd159.setRow (g151) #[c0N, c1N, c2N, c3N, c4N, c5N, c6N, c7N] := ⟨_, rfl⟩
       rw [← hE178]
       replace X := dR X hE178 (by omega)
       replace Z := dR Z hE178 (by omega)
       replace V := dR V hE178 (by omega)
       replace R := rR R I hE178 (by decide) (by omega)
       replace KP := kRw KP hgr hE178 (by omega)
       replace I := dO I hE178
       replace ST := nR ST hE178 (by omega)
       replace LK := nR LK hE178 (by omega)
       replace LI := nR LI hE178 (by omega)
       replace N := nR N hE178 (by omega)
       clear hE178
       try clear hHeld
       refine hK.out _ _ (⟨X.out.cell 8, (hST1.out _ ST.out.now)⟩) (fun hHeld => ?_)
       clear hK K
       refine tk (i := 15) (v := ?k179) ?_
       simp only [put_laws2]
       refine wpAnyH_done (by kernel_rfl) ?_ _
       try clear hHeld
       go_wp2_with fail
       go_meet
       have hBl := N.out.le
       exact ⟨⟨_, _, _, _, _, _, _, _, _, _, _, _, _, _, rfl, rfl, h1N, I.out, R.out, N.out, by omega, by omega, by omega⟩, KP, X.out, Z.out, V.out, ST.out, LI.out, LK.out⟩
      case rest =>
       clear ST LI X Z V R KP hST1 hd0 hd1 hd2 hq1 hq2 LK
       obtain ⟨⟨gI, fp', fn', c0N, c1N, c2N, c3N, c4N, c5N, c6N, c7N, bbN, LN, BN, rfl, rfl, h1N, I, R, hN, hLN, hgI, hLB⟩, KP, X, Z, V, hST, hLI, hLK⟩ := hcut
       have h1aN : (#[c0N, c1N, c2N, c3N, c4N, c5N, c6N, c7N] : Array Value).all (·.oneCell') = true := by simpa using h1N
       replace R := Lib.hid R
       replace X := Lib.hid X
       replace Z := Lib.hid Z
       replace V := Lib.hid V
       replace I := Lib.hid I
       have ST := Lib.hid (hST)
       have LI := Lib.hid (hLI)
       have N := Lib.hid (hN)
       have LK := Lib.hid (hLK)
       clear hST hLI hN
       obtain ⟨cI_0, cI_1, cI_2, cI_3, cI_4, cI_5, cI_6, cI_7⟩ := I.out.c8
       have hN := N.out.now
       have hNl := N.out.le
       cases q with
       | error pn =>
        obtain ⟨p', n'⟩ := pn
        obtain ⟨rfl, hf⟩ := hN
        have HR : Hid (decB rec x p path = .error (p', n')) := by show _ = _; rw [HD.out, HSE.out _ rfl]; rfl
        have hf := Lib.hid hf
        go_upto_region 24 with fail
        go_wp2_with (refine wpList_store_row rfl 45 _ _ rfl (w.heap.size + 1) _ rfl rfl 45 _ Z.out (by kernel_rfl) rfl (by first | assumption | simp [Value.oneCell']) ?_)
        clear cI_0 cI_1 cI_2 cI_3 cI_4 cI_5 cI_6 cI_7
        obtain ⟨wd180, hE181⟩ : ∃ ww, ww = wc.setRow (w.heap.size + 1) #[c0N, c1N, c2N, c3N, c4N, c5N, c6N, c7N] := ⟨_, rfl⟩
        rw [← hE181]
        replace X := dR X hE181 (by omega)
        replace V := dR V hE181 (by omega)
        replace I := dR I hE181 (by omega)
        replace R := rR R Z hE181 (by decide) (by omega)
        replace KP := kRw KP hgr hE181 (by omega)
        replace Z := dO Z hE181
        replace ST := nR ST hE181 (by omega)
        replace LI := nR LI hE181 (by omega)
        replace N := nR N hE181 (by omega)
        replace LK := nR LK hE181 (by omega)
        clear hE181
        obtain ⟨cZ_0, cZ_1, cZ_2, cZ_3, cZ_4, cZ_5, cZ_6, cZ_7⟩ := Z.out.c8
        exact bodyPost_ret (v := .tuple #[.agg #[c0N, c1N, c2N, c3N, c4N, c5N, c6N, c7N], .bool false]) (by simp [results, Tryd.results45, go_sem, cZ_0, cZ_1, cZ_2, cZ_3, cZ_4, cZ_5, cZ_6, cZ_7]) rfl (PayPost.bad HR.out R KP hf.out h1N)
       | ok v =>
        obtain ⟨rfl, vk1, vi1, vr1, hc, hv⟩ := hN
        have HCs : Hid ((#[c0N, c1N, c2N, c3N, c4N, c5N, c6N, c7N] : Array Value) = (valV v vk1 vi1 vr1).toArray) := by show _ = _; rw [← hc]
        have HV := Lib.hid hv
        clear hc hv
        have cV_6 : wc.cell? ⟨gV, 6, none⟩ = some (va) := V.out.cell 6
        have hli := LI.out.now
        have hIw := I.out.here
        have hlv := fun j hj => hli.lt j hj
        go_upto_region 21 with (at_builtin; refine wpList_append_item rfl _ _ rfl rfl HCs.out hli rfl rfl HV.out (fun j hj => by have := (hvl.out j hj).2; omega) hNl (by omega) (by have := Hacc.out; omega) (by omega) ?_; intro v' w3 hL3 hb3 hg3; obtain ⟨An, cn, hvv⟩ := hL3.form; obtain rfl : v' = .slice An (acc.length + 1) cn := (by rw [hvv, List.length_append]; rfl); clear hvv; have V3 := dG V hg3 (fun hh => by have := (hvl.out _ hh).1; omega); have v36 : w3.cell? ⟨gV, 6, none⟩ = some va := V3.out.cell 6; have f36 := V3.out.free 6)
        clear hli v36 f36 V3
        clear N
        clear LI
        clear cI_0 cI_1 cI_2 cI_3 cI_4 cI_5 cI_6 cI_7 cV_6
        replace X := dG X hg3 (fun hh => by have := hvl.out _ hh; omega)
        replace Z := dG Z hg3 (fun hh => by have := hvl.out _ hh; omega)
        replace V := dG V hg3 (fun hh => by have := hvl.out _ hh; omega)
        replace I := dG I hg3 (fun hh => by have := hvl.out _ hh; omega)
        replace ST := nG ST hg3 (fun k hh => by have := hvl.out k hh; omega) hb3.size
        replace LK := nG LK hg3 (fun k hh => by have := hvl.out k hh; omega) hb3.size
        replace R := rG R hg3 (fun j hj => ⟨by have := (hlv j hj).1; omega, (hlv j hj).2.2⟩)
        replace KP := KP.above hb3 (by omega) (by omega)
        clear hlv
        have LJ := Lib.hid (hL3.kept)
        clear hL3
        obtain ⟨wd182, hE183⟩ : ∃ ww, ww = w3.setCell ⟨gV, 6, none⟩ ((.slice An (acc.length + 1) cn)) := ⟨_, rfl⟩
        rw [← hE183]
        replace X := dF X hE183 (by omega)
        replace Z := dF Z hE183 (by omega)
        replace I := dF I hE183 (by omega)
        replace R := rF R V hE183 (by decide) (by omega)
        replace KP := kS KP hgr hE183 (by omega)
        replace V : Hid (Has wd182 (gV) 45 #[.int .i64 8, .bool false, .int .i64 0, .string ⟨#[]⟩, .int .i64 0, .slice Av ks.length cv, (.slice An (acc.length + 1) cn), .slice none 0 0]) := Lib.hid (by simpa using dS V hE183)
        replace ST := nF ST hE183 (by omega)
        replace LK := nF LK hE183 (by omega)
        replace LJ := nF LJ hE183 (by omega)
        clear hE183
        go_wp2_with fail
        go_roundw
        case rel => exact ⟨k + 1, j + 2, by have := Hj.out; have := hn.out; omega, by have := Hj.out; omega, by go_num, _, _, _, acc ++ [v], ⟨X.out, Z.out, V.out, R.out, KP, ST.out, hgV⟩, LJ.out.now, by rw [List.length_append, Hacc.out]; rfl, HSO.out v rfl, LK.out⟩
        case measure => simp [intOf]; omega
     obtain rfl : n = k := by have := hn.out; omega
     have LI := Lib.hid (hL.kept)
     have HR : Hid (decB rec x p path = .ok (.mk 8 false 0 [] 0 ks acc [])) := by show _ = _; rw [HD.out, hseq, Nat.sub_self]; rfl
     have hlB := hLK.le
     clear hL hLK
     obtain ⟨Ai, ci, rfl⟩ := LI.out.now.form
     have Hac2 := Lib.hid hacc
     clear hacc hseq hj
     obtain ⟨cV_0, cV_1, cV_2, cV_3, cV_4, cV_5, cV_6, cV_7⟩ := V.out.c8
     go_upto_region 26 with fail
     go_wp2_with (refine wpList_store_row rfl 45 _ _ rfl (w.heap.size + 1) _ rfl rfl 45 _ Z.out (by kernel_rfl) rfl (by first | assumption | simp [Value.oneCell']) ?_)
     clear cV_0 cV_1 cV_2 cV_3 cV_4 cV_5 cV_6 cV_7
     obtain ⟨wd184, hE185⟩ : ∃ ww, ww = wr.setRow (w.heap.size + 1) #[.int .i64 8, .bool false, .int .i64 0, .string ⟨#[]⟩, .int .i64 0, .slice Av ks.length cv, .slice Ai acc.length ci, .slice none 0 0] := ⟨_, rfl⟩
     rw [← hE185]
     replace X := dR X hE185 (by omega)
     replace V := dR V hE185 (by omega)
     replace R := rR R Z hE185 (by decide) (by omega)
     replace KP := kRw KP hgr hE185 (by omega)
     replace Z := dO Z hE185
     replace ST := nR ST hE185 (by omega)
     replace LK := nR LK hE185 (by omega)
     replace LI := nR LI hE185 (by omega)
     clear hE185
     obtain ⟨cZ_0, cZ_1, cZ_2, cZ_3, cZ_4, cZ_5, cZ_6, cZ_7⟩ := Z.out.c8
     exact bodyPost_ret (v := .tuple #[.agg #[.int .i64 8, .bool false, .int .i64 0, .string ⟨#[]⟩, .int .i64 0, .slice Av ks.length cv, .slice Ai acc.length ci, .slice none 0 0], .bool true]) (by simp [results, Tryd.results45, go_sem, cZ_0, cZ_1, cZ_2, cZ_3, cZ_4, cZ_5, cZ_6, cZ_7]) rfl (PayPost.good (v := .mk 8 false 0 [] 0 ks acc []) HR.out R KP (valP_list (L1 := 1000000) (L2 := 1000000) (LK.out.now.row (by omega)) (LI.out.now.row (by omega)) (by unfold I64; omega) (by unfold I64; omega) (by omega) (by have := Hac2.out; have := hn.out; omega) (by omega) (by omega)))
end Go.Proofs.YtccmmibkihbobaaDoor

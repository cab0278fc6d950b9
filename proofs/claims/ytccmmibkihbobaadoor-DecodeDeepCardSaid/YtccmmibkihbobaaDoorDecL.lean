/- list. No condition. -/
import Derived.Test.YtccmmibkihbobaaDoorDecU
set_option maxHeartbeats 1600000
namespace Go.Proofs.YtccmmibkihbobaaDoor
open Go.ChangeShapes Go.WideShapes Go.ChangeAt Go.RowKit
theorem itemsF_len : ∀ (f : Nat) (l : List UInt8) (acc I : List (List UInt8)) (N : Nat), (∀ q ∈ acc, q.length ≤ N) → l.length ≤ N → itemsF f l acc = some I → ∀ q ∈ I, q.length ≤ N := by
 intro f
 induction f with
 | zero =>
  intro l acc I N h1 h2 h
  unfold itemsF at h
  split at h
  ·
   injection h with h; subst h; exact h1
  cases h
 | succ f ih =>
  intro l acc I N h1 h2 h
  unfold itemsF at h
  split at h
  ·
   injection h with h; subst h; exact h1
  split at h
  ·
   cases h
  rename_i p r hp
  have := partP_some hp
  exact ih r _ I N (fun q hq => by
   rcases List.mem_append.1 hq with hq | hq
   ·
    exact h1 q hq
   simp at hq; subst hq; omega) (by omega) h
theorem items_len {p : List UInt8} {I : List (List UInt8)} (h : itemsP p = some I) : ∀ q ∈ I, q.length ≤ p.length := itemsF_len _ _ _ _ _ (by simp) (Nat.le_refl _) h
theorem seqN_ok {f : Nat → Res} {n k : Nat} {acc : List Val} {v : Val} (h : f k = .ok v) : seqN f (n + 1) k acc = seqN f n (k + 1) (acc ++ [v]) := by rw [seqN, h]
theorem seqN_err {f : Nat → Res} {n k : Nat} {acc : List Val} {e : List Int × Int} (h : f k = .error e) : seqN f (n + 1) k acc = .error e := by rw [seqN, h]
def listR (mk : List Val → Val) : Except (List Int × Int) (List Val) → Res
 | .error e => .error e
 | .ok is => .ok (mk is)
theorem sb_at {W : World} {l : List (List UInt8)} {gs k : Nat} (h : ∀ (j : Nat) (u : Value), (l.map SB)[j]? = some u → W.cell? ⟨gs, j, none⟩ = some u) (hk : k < l.length) : W.cell? ⟨gs, k, none⟩ = some (.string ⟨l[k].toArray⟩) := h k _ (by simp [hk, SB])
def ListRel (w : World) (gr : Nat) (tv : Value) (path : List Int) (x : Typ) (C1 : Option Addr) (l1 : Nat) (C2 : Option Addr) (l2 : Nat) (l : List (List UInt8)) (f : Nat → Res) (As : Option Addr) (cs gV k : Nat) (wr : World) : Prop :=
 ∃ (fp : Value) (fn : Int) (vi : Value) (acc : List Val), Has wr w.heap.size 33 #[.int .i64 7, .string ⟨x.name.toArray⟩, .int .i64 x.low, .int .i64 x.high, .int .i64 x.max, .slice C1 x.syms.length l1, .slice C2 x.mems.length l2, .int .i64 x.key, .int .i64 x.elem, .bool x.opn] ∧
  Has wr (w.heap.size + 1) 45 #[.int .i64 0, .bool false, .int .i64 0, .string ⟨#[]⟩, .int .i64 0, .slice none 0 0, .slice none 0 0, .slice none 0 0] ∧
  Has wr gV 45 #[.int .i64 7, .bool false, .int .i64 0, .string ⟨#[]⟩, .int .i64 0, .slice none 0 0, vi, .slice none 0 0] ∧
  RdrX wr gr tv fp fn path none ∧ KeepT w gr wr ∧ KeptN (fun w => w.ownsRow 0 9 1 (.slice As l.length cs) l.length (l.map SB)) wr (w.heap.size + 2) gV ∧ ListN (gV + 1) vi acc wr ∧ acc.length = k ∧ seqN f l.length 0 [] = seqN f (l.length - k) k acc ∧ w.heap.size + 1 < gV ∧ gV < wr.heap.size
set_option maxRecDepth 100000 in
theorem list_any
 (ts : List Typ) (tv : Value) (gr : Nat) (fp : Value) (fn : Int) (path : List Int) (p : List UInt8) (rec : Int → List UInt8 → List Int → Res) (x : Typ) (vs vm : Value) (w : World) (hk : x.kind = 7) (hp : path.length < 200) (hpl : p.length ≤ 800000)
 (R : RdrAt w gr tv fp fn path) (ht : RdTyps w gr tv ts) (hx : TypAt w gr x vs vm) (HP : PartOn ts gr tv rec path) (hm : (typAt ts x.elem).isSome = true) :
 Calls Tryd.prog 44 #[.pointer (some ⟨gr, 0, none⟩), typA x vs vm, .string ⟨p.toArray⟩] w (PayPost gr tv path w (decB rec x p path)) := by
 have HI := Lib.hid (fun W => items_any p (by omega) W)
 have HIL := Lib.hid (fun I h => items_len (p := p) (I := I) h)
 obtain ⟨C1, l1, C2, l2, rfl, rfl, -, -⟩ := hx.forms
 have HX := Lib.hid hx
 have HT := Lib.hid ht
 have HPo := Lib.hid HP
 have HM := Lib.hid hm
 have HKx := Lib.hid hk
 have hxs := hx.lens
 clear hx ht HP hm
 have hgr := R.here
 replace R := Lib.hid (RdrX.of R)
 have KP := KeepT.refl w gr
 go_enter Tryd.func44, Tryd.ntmps44
 go_upto_region 1 with fail
 obtain ⟨wd2, hE3⟩ : ∃ ww, ww = w.alloc (.cells #[.int .i64 7, .string ⟨x.name.toArray⟩, .int .i64 x.low, .int .i64 x.high, .int .i64 x.max, .slice C1 x.syms.length l1, .slice C2 x.mems.length l2, .int .i64 x.key, .int .i64 x.elem, .bool x.opn] 33) := ⟨_, rfl⟩
 rw [← hE3]
 have hb1 := aB hE3
 have X := aN hE3
 obtain ⟨wd4, hE5⟩ : ∃ ww, ww = wd2.alloc (.cells #[.int .i64 0, .bool false, .int .i64 0, .string ⟨#[]⟩, .int .i64 0, .slice none 0 0, .slice none 0 0, .slice none 0 0] 45) := ⟨_, rfl⟩
 rw [← hE5]
 replace X := dB X (aB hE5)
 replace hb1 := dT hb1 (aB hE5)
 have Z := aM hE5 (aZ hE3 rfl)
 clear hE3 hE5
 replace R := rB R hb1
 replace KP := kB KP hgr hb1
 clear hb1
 cases ha : itemsP p with
 | none =>
  have HR : Hid (decB rec x p path = .error (path, 1)) := by show _ = _; simp [decB, HKx.out, ha]
  simp only [ha] at HI
  clear ha
  go_wp2_with fail
  ((with_reducible refine (HI.out _).mono ?_); rintro e wd6 ⟨rfl, hb7⟩)
  replace X := dB X hb7
  replace Z := dB Z hb7
  replace R := rB R hb7
  replace KP := kB KP hgr hb7
  clear hb7
  go_upto_region 3 with fail
  have hz := Z.out.here
  go_wp2_with fail
  ((with_reducible refine (fail_post gr _ _ _ path 1 _ (by omega) R.out.at_).mono ?_); rintro e wd8 hp)
  obtain ⟨c0, c1, c2, c3, c4, c5, c6, c7, bb, h1', rfl⟩ := hp.form
  have Z2 := dKT Z hp.keep (by omega) (by decide)
  go_wp2_with (refine wpList_store_row rfl 45 _ _ rfl (w.heap.size + 1) _ rfl rfl 45 _ Z2.out (by kernel_rfl) rfl (by simpa using h1') ?_)
  obtain ⟨z0, z1, z2, z3, z4, z5, z6, z7⟩ := (row_has Z2.out #[c0, c1, c2, c3, c4, c5, c6, c7]).c8
  exact bodyPost_ret (v := .tuple #[.agg #[c0, c1, c2, c3, c4, c5, c6, c7], .bool bb]) (by simp [results, Tryd.results44, go_sem, z0, z1, z2, z3, z4, z5, z6, z7]) rfl (by rw [HR.out]; exact hp.tail KP hgr (by omega) hz Z2.out (by decide))
 | some l =>
  have HL : Hid (∀ q ∈ l, q.length ≤ p.length) := Lib.hid (HIL.out l ha)
  simp only [ha] at HI
  have HD : Hid (decB rec x p path = if x.max < l.length then .error (path, 3) else listR (fun is => .mk 7 false 0 [] 0 [] is []) (seqN (fun i => rec x.elem (l.getD i []) (path ++ [(i : Int)])) l.length 0 [])) := by
   show _ = _
   simp only [decB, HKx.out, ha]
   rw [if_neg (by decide), if_neg (by decide), if_neg (by decide), if_neg (by decide), if_neg (by decide), if_neg (by decide), if_pos trivial]
   cases seqN (fun i => rec x.elem (l.getD i []) (path ++ [(i : Int)])) l.length 0 [] <;> rfl
  clear ha HIL
  have hS0 := Z.out.here
  go_wp2_with fail
  ((with_reducible refine (HI.out _).mono ?_); rintro e wd10 ⟨vl, rfl, hll, hown, hb11⟩)
  replace X := dB X hb11
  replace Z := dB Z hb11
  replace R := rB R hb11
  replace KP := kB KP hgr hb11
  clear hb11
  clear HI
  obtain ⟨As, cs, rfl⟩ := own_form hown
  have ST := Lib.hid ((KeptN.own (own_baseD hown (show w.heap.size + 2 ≤ _ from hS0)) (by decide)).imp fun _ h => own_baseD h (Nat.zero_le _))
  clear hown hS0
  obtain ⟨cX_0, cX_1, cX_2, cX_3, cX_4, cX_5, cX_6, cX_7, cX_8, cX_9⟩ := X.out.c10
  by_cases h1 : x.max < l.length
  ·
   have HR : Hid (decB rec x p path = .error (path, 3)) := by show _ = _; rw [HD.out, if_pos h1]
   clear HD
   go_upto_region 5 with fail
   have hz := Z.out.here
   go_wp2_with fail
   clear cX_0 cX_1 cX_2 cX_3 cX_4 cX_5 cX_6 cX_7 cX_8 cX_9
   ((with_reducible refine (fail_post gr _ _ _ path 3 _ (by omega) R.out.at_).mono ?_); rintro e wd12 hp)
   obtain ⟨c0, c1, c2, c3, c4, c5, c6, c7, bb, h1', rfl⟩ := hp.form
   have Z2 := dKT Z hp.keep (by omega) (by decide)
   go_wp2_with (refine wpList_store_row rfl 45 _ _ rfl (w.heap.size + 1) _ rfl rfl 45 _ Z2.out (by kernel_rfl) rfl (by simpa using h1') ?_)
   obtain ⟨z0, z1, z2, z3, z4, z5, z6, z7⟩ := (row_has Z2.out #[c0, c1, c2, c3, c4, c5, c6, c7]).c8
   exact bodyPost_ret (v := .tuple #[.agg #[c0, c1, c2, c3, c4, c5, c6, c7], .bool bb]) (by simp [results, Tryd.results44, go_sem, z0, z1, z2, z3, z4, z5, z6, z7]) rfl (by rw [HR.out]; exact hp.tail KP hgr (by omega) hz Z2.out (by decide))
  have HD : Hid (decB rec x p path = listR (fun is => .mk 7 false 0 [] 0 [] is []) (seqN (fun i => rec x.elem (l.getD i []) (path ++ [(i : Int)])) l.length 0 [])) := by show _ = _; rw [HD.out, if_neg h1]
  go_upto_region 7 with fail
  clear h1
  clear cX_0 cX_1 cX_2 cX_3 cX_4 cX_5 cX_6 cX_7 cX_8 cX_9
  obtain ⟨wd15, hE16⟩ : ∃ ww, ww = wd10.alloc (.cells #[.int .i64 7, .bool false, .int .i64 0, .string ⟨#[]⟩, .int .i64 0, .slice none 0 0, .slice none 0 0, .slice none 0 0] 45) := ⟨_, rfl⟩
  rw [← hE16]
  have hb14 := aB hE16
  have V := aN hE16
  clear hE16
  have hl18 := X.out.here
  have hl19 := Z.out.here
  have hl20 := ST.out.le
  have hl21 := KP.size
  replace X := dB X hb14
  replace Z := dB Z hb14
  replace ST := nB ST hb14
  replace R := rB R hb14
  replace KP := kB KP hgr hb14
  clear hb14
  generalize wd10.heap.size = g17 at *
  obtain ⟨gV, rfl⟩ : ∃ g, g = g17 := ⟨_, rfl⟩
  have hl0 : Hid (ListRel w gr tv path x C1 l1 C2 l2 l (fun i => rec x.elem (l.getD i []) (path ++ [(i : Int)])) As cs gV 0 wd15) :=
   Lib.hid ⟨_, _, _, [], X.out, Z.out, V.out, R.out, KP, ST.out, ListN.nil _ _, rfl, rfl, by omega, V.out.here⟩
  clear X Z V R KP ST
  go_wp2_with fail
  go_loopw [40] (fun i wr => ∃ k : Nat, k ≤ l.length ∧ i = .int .i64 k ∧ ListRel w gr tv path x C1 l1 C2 l2 l (fun i => rec x.elem (l.getD i []) (path ++ [(i : Int)])) As cs gV k wr) (fun i _ => l.length - (intOf i).toNat)
  case atStart => exact ⟨0, by omega, rfl, hl0.out⟩
  case round =>
   clear hl0
   obtain ⟨k, hk1, rfl, fp1, fn1, vi, acc, X, Z, V, R, KP, hST, hL, hacc, hseq, hgV, hgW⟩ := hrel
   replace R := Lib.hid R
   replace X := Lib.hid X
   replace Z := Lib.hid Z
   replace V := Lib.hid V
   by_cases hlt : k < l.length
   ·
    have hvl : Hid (∀ j, vi.ownBlock = some j → gV + 1 ≤ j ∧ j < wr.heap.size ∧ NotInt wr j) := Lib.hid hL.lt
    have ST := Lib.hid (hST)
    have LI := Lib.hid (hL.kept)
    clear hST hL
    obtain ⟨gs, cs', hvs, -, -, -, hcell⟩ := own_pos ST.out.now (by omega)
    injection hvs with hv1 hv2 hv3
    subst hv1; subst hv3; clear hv2
    have hsk := sb_at hcell hlt
    clear hcell
    have hn1 : l.length - k = (l.length - (k + 1)) + 1 := by omega
    have hfk : (fun i => rec x.elem (l.getD i []) (path ++ [(i : Int)])) k = rec x.elem l[k] (path ++ [(k : Int)]) := by simp [List.getD, hlt]
    rw [hn1] at hseq
    have hseqO := fun v h => hseq.trans (seqN_ok (v := v) (hfk.trans h))
    have hseqE := fun e h => hseq.trans (seqN_err (e := e) (hfk.trans h))
    clear hseq hn1 hfk
    have hlk := HL.out l[k] (List.getElem_mem hlt)
    have HPQ := Lib.hid (fun (W : World) (fp' : Value) (fn' : Int) h1 h2 => HPo.out W fp' fn' k x.elem l[k] h1 h2 HM.out (by omega))
    generalize rec x.elem l[k] (path ++ [(k : Int)]) = q at *
    generalize l[k] = lk at *
    have HSO := Lib.hid hseqO
    have HSE := Lib.hid hseqE
    have Hacc := Lib.hid hacc
    have hlti : (k : Int) < l.length := by omega
    have hd0 : decide ((k : Int) < 0) = false := by simp
    have hd1 : decide (l.length ≤ k) = false := by simpa using hlt
    have hd2 : decide ((k : Int) < l.length) = true := by simpa using hlt
    clear hseqO hseqE hacc
    have cX_8 : wr.cell? ⟨w.heap.size, 8, none⟩ = some (.int .i64 x.elem) := X.out.cell 8
    go_wp2_with fail
    clear cX_8
    have hl29 := X.out.here
    have hl30 := Z.out.here
    have hl31 := V.out.here
    have hl32 := ST.out.le
    have hl33 := LI.out.le
    have hl34 := KP.size
    ((with_reducible refine (HPQ.out _ _ _ R.out.at_ (HT.out.keep (fun _ hp => KP.low.cell hp) (Nat.le_refl _))).mono ?_); rintro e wd22 hp24)
    obtain ⟨fp27, fn28, c0N, c1N, c2N, c3N, c4N, c5N, c6N, c7N, bbN, h1N, rfl, hR26, hK25, N⟩ := hp24.take
    replace X := dKT X hK25 (by omega) (by decide)
    replace Z := dKT Z hK25 (by omega) (by decide)
    replace V := dKT V hK25 (by omega) (by decide)
    replace ST := nT ST hK25 (by omega)
    replace LI := nT LI hK25 (by omega)
    replace R := Lib.hid hR26
    replace KP := KP.trans hK25
    replace N := Lib.hid N
    clear hK25
    have h1aN : (#[c0N, c1N, c2N, c3N, c4N, c5N, c6N, c7N] : Array Value).all (·.oneCell') = true := by simpa using h1N
    generalize wr.heap.size = L23 at *
    clear hsk
    have M5 := Has.made wd22 45 #[.int .i64 0, .bool false, .int .i64 0, .string ⟨#[]⟩, .int .i64 0, .slice none 0 0, .slice none 0 0, .slice none 0 0]
    go_upto_region 11 with (refine wpList_store_row rfl 45 _ _ rfl wd22.heap.size _ rfl rfl 45 _ M5 (by kernel_rfl) rfl h1aN ?_)
    clear M5
    obtain ⟨wd36, hE37⟩ : ∃ ww, ww = wd22.alloc (.cells #[.int .i64 0, .bool false, .int .i64 0, .string ⟨#[]⟩, .int .i64 0, .slice none 0 0, .slice none 0 0, .slice none 0 0] 45) := ⟨_, rfl⟩
    rw [← hE37]
    have hb35 := aB hE37
    have I := aN hE37
    clear hE37
    have hl39 := X.out.here
    have hl40 := Z.out.here
    have hl41 := V.out.here
    have hl42 := ST.out.le
    have hl43 := LI.out.le
    have hl44 := N.out.le
    have hl45 := KP.size
    replace X := dB X hb35
    replace Z := dB Z hb35
    replace V := dB V hb35
    replace ST := nB ST hb35
    replace LI := nB LI hb35
    replace N := nB N hb35
    replace R := rB R hb35
    replace KP := kB KP hgr hb35
    clear hb35
    generalize wd22.heap.size = g38 at *
    obtain ⟨wd46, hE47⟩ : ∃ ww, ww = wd36.setRow (g38) #[c0N, c1N, c2N, c3N, c4N, c5N, c6N, c7N] := ⟨_, rfl⟩
    rw [← hE47]
    replace X := dR X hE47 (by omega)
    replace Z := dR Z hE47 (by omega)
    replace V := dR V hE47 (by omega)
    replace R := rR R I hE47 (by decide) (by omega)
    replace KP := kRw KP hgr hE47 (by omega)
    replace I := dO I hE47
    replace ST := nR ST hE47 (by omega)
    replace LI := nR LI hE47 (by omega)
    replace N := nR N hE47 (by omega)
    clear hE47
    obtain ⟨cI_0, cI_1, cI_2, cI_3, cI_4, cI_5, cI_6, cI_7⟩ := I.out.c8
    have hN := N.out.now
    have hNl := N.out.le
    cases q with
    | error pn =>
     obtain ⟨p', n'⟩ := pn
     obtain ⟨rfl, hf⟩ := hN
     have HR : Hid (decB rec x p path = .error (p', n')) := by show _ = _; rw [HD.out, HSE.out _ rfl]; rfl
     have hf := Lib.hid hf
     go_upto_region 12 with fail
     go_wp2_with (refine wpList_store_row rfl 45 _ _ rfl (w.heap.size + 1) _ rfl rfl 45 _ Z.out (by kernel_rfl) rfl (by first | assumption | simp [Value.oneCell']) ?_)
     clear cI_0 cI_1 cI_2 cI_3 cI_4 cI_5 cI_6 cI_7
     obtain ⟨wd48, hE49⟩ : ∃ ww, ww = wd46.setRow (w.heap.size + 1) #[c0N, c1N, c2N, c3N, c4N, c5N, c6N, c7N] := ⟨_, rfl⟩
     rw [← hE49]
     replace X := dR X hE49 (by omega)
     replace V := dR V hE49 (by omega)
     replace I := dR I hE49 (by omega)
     replace R := rR R Z hE49 (by decide) (by omega)
     replace KP := kRw KP hgr hE49 (by omega)
     replace Z := dO Z hE49
     replace ST := nR ST hE49 (by omega)
     replace LI := nR LI hE49 (by omega)
     replace N := nR N hE49 (by omega)
     clear hE49
     obtain ⟨cZ_0, cZ_1, cZ_2, cZ_3, cZ_4, cZ_5, cZ_6, cZ_7⟩ := Z.out.c8
     exact bodyPost_ret (v := .tuple #[.agg #[c0N, c1N, c2N, c3N, c4N, c5N, c6N, c7N], .bool false]) (by simp [results, Tryd.results44, go_sem, cZ_0, cZ_1, cZ_2, cZ_3, cZ_4, cZ_5, cZ_6, cZ_7]) rfl (PayPost.bad HR.out R KP hf.out h1N)
    | ok v =>
     obtain ⟨rfl, vk, vi', vr, hc, hv⟩ := hN
     have HCs : Hid ((#[c0N, c1N, c2N, c3N, c4N, c5N, c6N, c7N] : Array Value) = (valV v vk vi' vr).toArray) := by show _ = _; rw [← hc]
     have HV := Lib.hid hv
     clear hc hv
     have cV_6 : wd46.cell? ⟨gV, 6, none⟩ = some (vi) := V.out.cell 6
     have hli := LI.out.now
     have hbg := LI.out.le
     have hlv := fun j hj => hli.lt j hj
     go_upto_region 14 with (at_builtin; refine wpList_append_item rfl _ _ rfl rfl HCs.out hli rfl rfl HV.out (fun j hj => (hvl.out j hj).2.1) hNl (by omega) (by have := Hacc.out; omega) (by omega) ?_; intro v' w3 hL3 hb3 hg3; obtain ⟨Av, cv, hvv⟩ := hL3.form; obtain rfl : v' = .slice Av (acc.length + 1) cv := (by rw [hvv, List.length_append]; rfl); clear hvv; have V3 := dG V hg3 (fun hh => by have := (hvl.out _ hh).1; omega); have v36 : w3.cell? ⟨gV, 6, none⟩ = some vi := V3.out.cell 6; have f36 := V3.out.free 6)
     clear hli v36 f36 V3
     clear N
     clear LI
     clear cI_0 cI_1 cI_2 cI_3 cI_4 cI_5 cI_6 cI_7 cV_6
     replace X := dG X hg3 (fun hh => by have := hvl.out _ hh; omega)
     replace Z := dG Z hg3 (fun hh => by have := hvl.out _ hh; omega)
     replace V := dG V hg3 (fun hh => by have := hvl.out _ hh; omega)
     replace I := dG I hg3 (fun hh => by have := hvl.out _ hh; omega)
     replace ST := nG ST hg3 (fun k hh => by have := hvl.out k hh; omega) hb3.size
     replace R := rG R hg3 (fun j hj => ⟨by have := (hlv j hj).1; omega, (hlv j hj).2.2⟩)
     replace KP := KP.above hb3 (by omega) (by omega)
     clear hlv
     have LJ := Lib.hid (hL3.kept)
     clear hL3
     obtain ⟨wd50, hE51⟩ : ∃ ww, ww = w3.setCell ⟨gV, 6, none⟩ ((.slice Av (acc.length + 1) cv)) := ⟨_, rfl⟩
     rw [← hE51]
     replace X := dF X hE51 (by omega)
     replace Z := dF Z hE51 (by omega)
     replace I := dF I hE51 (by omega)
     replace R := rF R V hE51 (by decide) (by omega)
     replace KP := kS KP hgr hE51 (by omega)
     replace V : Hid (Has wd50 (gV) 45 #[.int .i64 7, .bool false, .int .i64 0, .string ⟨#[]⟩, .int .i64 0, .slice none 0 0, (.slice Av (acc.length + 1) cv), .slice none 0 0]) := Lib.hid (by simpa using dS V hE51)
     replace ST := nF ST hE51 (by omega)
     replace LJ := nF LJ hE51 (by omega)
     clear hE51
     go_wp2_with fail
     go_roundw
     case rel => exact ⟨k + 1, by omega, by go_num, _, _, _, acc ++ [v], X.out, Z.out, V.out, R.out, KP, ST.out, LJ.out.now, by rw [List.length_append, Hacc.out]; rfl, HSO.out v rfl, hgV, V.out.here⟩
     case measure => simp [intOf]; omega
   obtain rfl : k = l.length := by omega
   have LI := Lib.hid (hL.kept)
   clear hL hST
   have HR : Hid (decB rec x p path = .ok (.mk 7 false 0 [] 0 [] acc [])) := by show _ = _; rw [HD.out, hseq, Nat.sub_self]; rfl
   obtain ⟨Av, cv, rfl⟩ := LI.out.now.form
   clear hseq
   have Hacc := Lib.hid hacc
   clear hacc
   obtain ⟨cV_0, cV_1, cV_2, cV_3, cV_4, cV_5, cV_6, cV_7⟩ := V.out.c8
   go_upto_region 15 with fail
   go_wp2_with (refine wpList_store_row rfl 45 _ _ rfl (w.heap.size + 1) _ rfl rfl 45 _ Z.out (by kernel_rfl) rfl (by first | assumption | simp [Value.oneCell']) ?_)
   clear cV_0 cV_1 cV_2 cV_3 cV_4 cV_5 cV_6 cV_7
   obtain ⟨wd52, hE53⟩ : ∃ ww, ww = wr.setRow (w.heap.size + 1) #[.int .i64 7, .bool false, .int .i64 0, .string ⟨#[]⟩, .int .i64 0, .slice none 0 0, .slice Av acc.length cv, .slice none 0 0] := ⟨_, rfl⟩
   rw [← hE53]
   replace X := dR X hE53 (by omega)
   replace V := dR V hE53 (by omega)
   replace R := rR R Z hE53 (by decide) (by omega)
   replace KP := kRw KP hgr hE53 (by omega)
   replace Z := dO Z hE53
   replace LI := nR LI hE53 (by omega)
   clear hE53
   obtain ⟨cZ_0, cZ_1, cZ_2, cZ_3, cZ_4, cZ_5, cZ_6, cZ_7⟩ := Z.out.c8
   exact bodyPost_ret (v := .tuple #[.agg #[.int .i64 7, .bool false, .int .i64 0, .string ⟨#[]⟩, .int .i64 0, .slice none 0 0, .slice Av acc.length cv, .slice none 0 0], .bool true]) (by simp [results, Tryd.results44, go_sem, cZ_0, cZ_1, cZ_2, cZ_3, cZ_4, cZ_5, cZ_6, cZ_7]) rfl (PayPost.good (v := .mk 7 false 0 [] 0 [] acc []) HR.out R KP (valP_list (L1 := 0) (L2 := 1000000) (rdVals_nil _ _) (LI.out.now.row (by omega)) (by unfold I64; omega) (by unfold I64; omega) (by simp) (by have := Hacc.out; omega) (by omega) (by omega)))
end Go.Proofs.YtccmmibkihbobaaDoor

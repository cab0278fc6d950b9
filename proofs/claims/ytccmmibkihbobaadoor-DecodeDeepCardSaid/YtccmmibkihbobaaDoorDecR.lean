/- record. No condition. -/
import Derived.Test.YtccmmibkihbobaaDoorDecM
import Derived.Test.YtccmmibkihbobaaDoorDecO
import Derived.Test.YtccmmibkihbobaaDoorDecQ
set_option maxHeartbeats 3200000
namespace Go.Proofs.YtccmmibkihbobaaDoor
open Go.ChangeShapes Go.WideShapes Go.ChangeAt Go.RowKit
theorem fieldsF_in : ∀ (f : Nat) (l : List UInt8) (last : Nat) (acc I : List Fld) (N : Nat), (∀ q ∈ acc, q.id ≤ 1000 ∧ q.data.length ≤ N) → l.length ≤ N → fieldsF f l last acc = some I → ∀ q ∈ I, q.id ≤ 1000 ∧ q.data.length ≤ N := by
 intro f
 induction f with
 | zero =>
  intro l last acc I N h1 h2 h
  unfold fieldsF at h
  split at h
  ·
   injection h with h; subst h; exact h1
  cases h
 | succ f ih =>
  intro l last acc I N h1 h2 h
  unfold fieldsF at h
  split at h
  ·
   injection h with h; subst h; exact h1
  split at h
  ·
   cases h
  rename_i hh r hn
  have h3 := (nextP_u64 hn).2
  split at h
  ·
   cases h
  rename_i hb
  split at h
  ·
   cases h
  rename_i p r' hp
  have h4 := partP_some hp
  exact ih r' _ _ I N (fun q hq => by
   rcases List.mem_append.1 hq with hq | hq
   ·
    exact h1 q hq
   simp at hq; subst hq; exact ⟨by simp only; omega, by simp only; omega⟩) (by omega) h
theorem fields_in {p : List UInt8} {I : List Fld} (h : fieldsP p = some I) : ∀ q ∈ I, q.id ≤ 1000 ∧ q.data.length ≤ p.length := fieldsF_in _ _ _ _ _ _ (by simp) (Nat.le_refl _) h
def recR (n : Nat) (fM : Nat → Res) (rest : Except (List Int × Int) (List Raw)) : Res := match seqN fM n 0 [] with
 | .error e => .error e
 | .ok is => match rest with
  | .error e => .error e
  | .ok rs => .ok (.mk 5 false 0 [] 0 [] is rs)
theorem recR_err {n : Nat} {fM : Nat → Res} {rest : Except (List Int × Int) (List Raw)} {e : List Int × Int} (h : seqN fM n 0 [] = .error e) : recR n fM rest = .error e := by unfold recR; rw [h]
theorem recR_err2 {n : Nat} {fM : Nat → Res} {rest : Except (List Int × Int) (List Raw)} {is : List Val} {e : List Int × Int} (h : seqN fM n 0 [] = .ok is) (h2 : rest = .error e) : recR n fM rest = .error e := by unfold recR; rw [h, h2]
theorem recR_ok {n : Nat} {fM : Nat → Res} {rest : Except (List Int × Int) (List Raw)} {is : List Val} {rs : List Raw} (h : seqN fM n 0 [] = .ok is) (h2 : rest = .ok rs) : recR n fM rest = .ok (.mk 5 false 0 [] 0 [] is rs) := by unfold recR; rw [h, h2]
def memM (rec : Int → List UInt8 → List Int → Res) (fs : List Fld) (path : List Int) (m : Mem) : Res := match fldAt fs m.id with
 | some f => rec m.ty f.data (path ++ [m.id])
 | none => if m.hasDef then .ok m.dflt else .error (path ++ [m.id], 7)
theorem memF_at {rec : Int → List UInt8 → List Int → Res} {x : Typ} {fs : List Fld} {path : List Int} {k : Nat} (h : k < x.mems.length) : memF rec x fs path k = memM rec fs path x.mems[k] := by
 unfold memF memM; rw [List.getElem?_eq_getElem h]; rfl
theorem Cells13.lowD {w w' : World} {B b o : Nat} {m : Mem} {vk vi vr : Value} (h : Cells13 w b o m vk vi vr) (hb : Below B w w') (hlt : b < B) : Cells13 w' b o m vk vi vr := by
 obtain ⟨h0, h1, h2, h3, h4, h5, h6, h7, h8, h9, h10, h11, h12⟩ := h
 exact ⟨(hb.cell hlt).trans h0, (hb.cell hlt).trans h1, (hb.cell hlt).trans h2, (hb.cell hlt).trans h3, (hb.cell hlt).trans h4, (hb.cell hlt).trans h5, (hb.cell hlt).trans h6, (hb.cell hlt).trans h7, (hb.cell hlt).trans h8, (hb.cell hlt).trans h9, (hb.cell hlt).trans h10, (hb.cell hlt).trans h11, (hb.cell hlt).trans h12⟩
theorem own_pos3 {W : World} {base : Nat} {e : TypeId} {n size : Nat} {v : Value} {xs : List Value} (h : W.ownsRow base e size v n xs) (hn : 0 < n) : ∃ g c, v = .slice (some ⟨g, 0, none⟩) n c := by
 rcases h.2 with ⟨_, h2⟩ | ⟨g, cap, cur, h2, _⟩
 ·
  omega
 exact ⟨g, cap, h2⟩
theorem fld_of {W : World} {g n n' c j : Nat} {fs : List Fld} (h : W.ownsRow 0 129 3 (.slice (some ⟨g, 0, none⟩) n c) n' (fldsV fs)) (hj : j < fs.length) :
  W.cell? ⟨g, j * 3, none⟩ = some (.int .i64 fs[j].id) ∧ W.cell? ⟨g, j * 3 + 1, none⟩ = some (.bool fs[j].crit) ∧ W.cell? ⟨g, j * 3 + 2, none⟩ = some (.string ⟨fs[j].data.toArray⟩) := by
 have hc : ∀ (q : Nat) (u : Value), (fldsV fs)[q]? = some u → W.cell? ⟨g, 0 + q, none⟩ = some u := fun q u hu => by
  have := h.cells (g := g) rfl q u hu
  rwa [addr_add] at this
 have := fldC_at hc j hj
 simpa only [Nat.zero_add] using this
theorem valP_rec {w W : World} {is : List Val} {rs : List Raw} {vi vr : Value} {L : Nat} (h1 : RdValsP W (NewT w W) vi is) (h2 : W.ownsRow L 120 2 vr rs.length (rawsV rs)) (hL : w.heap.size ≤ L) (hr : ∀ r ∈ rs, RawIn r) (hl1 : is.length ≤ 1000000) (hl2 : rs.length ≤ 1000000) :
  ValP W (NewT w W) (.mk 5 false 0 [] 0 [] is rs) (.slice none 0 0) vi vr :=
 ⟨⟨by show I64 5; unfold I64; omega, by show I64 0; unfold I64; omega, by show I64 0; unfold I64; omega⟩, by simp [Val.str], ⟨by simp [Val.keys], by simp only [Val.items]; omega, by simp only [Val.rest]; omega⟩, hr, rdVals_nil _ _, h1, newT_own h2 (by decide) hL⟩
theorem restF_at {x : Typ} {path : List Int} {fs : List Fld} {acc : List Raw} {k : Nat} (h : k < fs.length) : restF x path (fs.drop k) acc = if (memIdx x fs[k].id).isSome then restF x path (fs.drop (k + 1)) acc else if fs[k].crit then .error (path ++ [(fs[k].id : Int)], 6) else restF x path (fs.drop (k + 1)) (acc ++ [((fs[k].id : Int), fs[k].data)]) := by
 rw [List.drop_eq_getElem_cons h, restF]
theorem ValN.atN {y : Val} {vk vi vr : Value} {W1 W : World} {L B : Nat} (h : ValP W (NewT W1 W) y vk vi vr) (hL : L = W1.heap.size) (hB : B = W.heap.size) : KeptN (ValN L B y vk vi vr) W L B := by
 subst hL; subst hB
 have hN : ValN W1.heap.size W.heap.size y vk vi vr W := ⟨NewT W1 W, h, fun k h => h⟩
 exact hN.kept (Nat.le_refl _)
theorem step_append_listN {ops : Array Oper} {op : Oper} {a : Act} {w : World} {K : Act → World → Prop} {Q : Exit → Act → World → Prop} {E : Prop} (hgd : op.guard = none) (s x : Operand)
  (ho : op.op = .call { callee := .builtin .append, args := #[s, x], argTypes := #[42, 42] }) {L Lp Bp G : Nat} {v : Value} {xs : List Val} {y : Val} {vk vi vr : Value} {T : TypeId} {cs : Array Value} (hT : T = 45) (hcs : cs = (valV y vk vi vr).toArray)
  (ht : ListN L v xs w) (hs : a.eval s = v) (hG : Has w G T cs) (hx : a.eval x = .slice (some ⟨G, 0, none⟩) 1 1) (hy : ValN Lp Bp y vk vi vr w) (hyo : ∀ k, v.ownBlock = some k → k < Lp) (hBp : Bp ≤ w.heap.size) (hLp : L ≤ Lp)
  (hn : xs.length < 900000) (hB : L ≤ w.heap.size)
  (h : ∀ v' w1, ListN L v' (xs ++ [y]) w1 → Below L w w1 → (∀ k, k < w.heap.size → v.ownBlock ≠ some k → w1.heap[k]? = w.heap[k]?) → K (a.put op.dst v') w1) : if Region.wanted op (yielded ops a.tmps) = true then Oper.wp Tryd.prog op a w K Q else E := by
 subst hT; subst hcs
 obtain ⟨S, hO, hS⟩ := ht
 obtain ⟨Sy, hY, hSy⟩ := hy
 refine step_append_vals (ops := ops) hgd s x ho hO hs hG hx hY.rd (fun k hk => ⟨by have := (hSy k hk).2.1; omega, fun e => by have := hyo k e; have := (hSy k hk).1; omega⟩) hn hB ?_
 intro v' w1 h1 _ h3 h4
 refine h v' w1 ⟨_, h1, fun k hk => ?_⟩ h3 (fun k hk hne => h4 k hk hne)
 have hkw : k < w.heap.size ∧ v.ownBlock ≠ some k ∧ L ≤ k ∧ NotInt w k := hk.elim (fun hs => ⟨(hO.sep k hs).1, (hO.sep k hs).2, (hS k hs).1, (hS k hs).2⟩) (fun hs => ⟨by have := (hSy k hs).2.1; omega, fun e => by have := hyo k e; have := (hSy k hs).1; omega, by have := (hSy k hs).1; omega, (hSy k hs).2.2⟩)
 exact ⟨hkw.2.2.1, NotInt.to (h4 k hkw.1 hkw.2.1) hkw.2.2.2⟩
structure RecAt (w : World) (gr : Nat) (tv : Value) (path : List Int) (x : Typ) (C1 : Option Addr) (l1 : Nat) (C2 : Option Addr) (l2 : Nat) (fs : List Fld) (Af : Option Addr) (cf gV : Nat) (vi vr : Value) (fp : Value) (fn : Int) (wr : World) : Prop where
 X : Has wr w.heap.size 33 #[.int .i64 5, .string ⟨x.name.toArray⟩, .int .i64 x.low, .int .i64 x.high, .int .i64 x.max, .slice C1 x.syms.length l1, .slice C2 x.mems.length l2, .int .i64 x.key, .int .i64 x.elem, .bool x.opn]
 Z : Has wr (w.heap.size + 1) 45 #[.int .i64 0, .bool false, .int .i64 0, .string ⟨#[]⟩, .int .i64 0, .slice none 0 0, .slice none 0 0, .slice none 0 0]
 V : Has wr gV 45 #[.int .i64 5, .bool false, .int .i64 0, .string ⟨#[]⟩, .int .i64 0, .slice none 0 0, vi, vr]
 R : RdrX wr gr tv fp fn path none
 KP : KeepT w gr wr
 FS : KeptN (fun w => w.ownsRow 0 129 3 (.slice Af fs.length cf) fs.length (fldsV fs)) wr (w.heap.size + 2) gV
 lo : w.heap.size + 1 < gV
/- the part of a member, and what is left of it -/
/- the path with one step more; fail; the path as it was; the end -/
set_option maxRecDepth 100000 in
theorem record_any
 (ts : List Typ) (tv : Value) (gr : Nat) (fp : Value) (fn : Int) (path : List Int) (p : List UInt8) (rec : Int → List UInt8 → List Int → Res) (x : Typ) (vs vm : Value) (w : World) (hk : x.kind = 5) (hp : path.length < 200) (hpl : p.length ≤ 800000)
 (R : RdrAt w gr tv fp fn path) (ht : RdTyps w gr tv ts) (hx : TypAt w gr x vs vm) (HP : PartOn ts gr tv rec path) (hm : x.mems.length ≤ 1000 ∧ ∀ m ∈ x.mems, (typAt ts m.ty).isSome = true) :
 Calls Tryd.prog 46 #[.pointer (some ⟨gr, 0, none⟩), typA x vs vm, .string ⟨p.toArray⟩] w (PayPost gr tv path w (decB rec x p path)) := by
 have HI := Lib.hid (fun W => fields_any p (by omega) W)
 have HIL := Lib.hid (fun I h => fields_in (p := p) (I := I) h)
 have hml := hm.1
 obtain ⟨C1, l1, C2, l2, rfl, rfl, -, -⟩ := hx.forms
 have HX := Lib.hid hx
 have HT := Lib.hid ht
 have HPo := Lib.hid HP
 have HM := Lib.hid hm
 have HKx := Lib.hid hk
 have hxs := hx.lens
 clear hx ht HP hm
 have hgr := R.here
 replace R := Lib.hid (RdrX.of R)
 have KP := KeepT.refl w gr
 go_enter Tryd.func46, Tryd.ntmps46
 go_upto_region 1 with fail
 obtain ⟨wd2, hE3⟩ : ∃ ww, ww = w.alloc (.cells #[.int .i64 5, .string ⟨x.name.toArray⟩, .int .i64 x.low, .int .i64 x.high, .int .i64 x.max, .slice C1 x.syms.length l1, .slice C2 x.mems.length l2, .int .i64 x.key, .int .i64 x.elem, .bool x.opn] 33) := ⟨_, rfl⟩
 rw [← hE3]
 have hb1 := aB hE3
 have X := aN hE3
 obtain ⟨wd4, hE5⟩ : ∃ ww, ww = wd2.alloc (.cells #[.int .i64 0, .bool false, .int .i64 0, .string ⟨#[]⟩, .int .i64 0, .slice none 0 0, .slice none 0 0, .slice none 0 0] 45) := ⟨_, rfl⟩
 rw [← hE5]
 replace X := dB X (aB hE5)
 replace hb1 := dT hb1 (aB hE5)
 have Z := aM hE5 (aZ hE3 rfl)
 clear hE3 hE5
 replace R := rB R hb1
 replace KP := kB KP hgr hb1
 clear hb1
 cases ha : fieldsP p with
 | none =>
  have HR : Hid (decB rec x p path = .error (path, 1)) := by show _ = _; simp [decB, HKx.out, ha]
  simp only [ha] at HI
  clear ha
  go_wp2_with fail
  ((with_reducible refine (HI.out _).mono ?_); rintro e wd6 ⟨rfl, hb7⟩)
  replace X := dB X hb7
  replace Z := dB Z hb7
  replace R := rB R hb7
  replace KP := kB KP hgr hb7
  clear hb7
  go_upto_region 3 with fail
  have hz := Z.out.here
  go_wp2_with fail
  ((with_reducible refine (fail_post gr _ _ _ path 1 _ (by omega) R.out.at_).mono ?_); rintro e wd8 hp)
  obtain ⟨c0, c1, c2, c3, c4, c5, c6, c7, bb, h1', rfl⟩ := hp.form
  have Z2 := dKT Z hp.keep (by omega) (by decide)
  go_wp2_with (refine wpList_store_row rfl 45 _ _ rfl (w.heap.size + 1) _ rfl rfl 45 _ Z2.out (by kernel_rfl) rfl (by simpa using h1') ?_)
  obtain ⟨z0, z1, z2, z3, z4, z5, z6, z7⟩ := (row_has Z2.out #[c0, c1, c2, c3, c4, c5, c6, c7]).c8
  exact bodyPost_ret (v := .tuple #[.agg #[c0, c1, c2, c3, c4, c5, c6, c7], .bool bb]) (by simp [results, Tryd.results46, go_sem, z0, z1, z2, z3, z4, z5, z6, z7]) rfl (by rw [HR.out]; exact hp.tail KP hgr (by omega) hz Z2.out (by decide))
 | some fs =>
  have HL : Hid (∀ q ∈ fs, q.id ≤ 1000 ∧ q.data.length ≤ p.length) := Lib.hid (HIL.out fs ha)
  simp only [ha] at HI
  have HD : Hid (decB rec x p path = recR x.mems.length (memF rec x fs path) (restF x path fs [])) := by
   show _ = _
   simp only [decB, HKx.out, ha]
   rw [if_neg (by decide), if_neg (by decide), if_neg (by decide), if_neg (by decide), if_pos trivial]
   unfold recR
   cases seqN (memF rec x fs path) x.mems.length 0 [] with
   | error e => rfl
   | ok is =>
    simp only []
    cases restF x path fs [] <;> rfl
  clear ha HIL
  have hS0 := Z.out.here
  go_wp2_with fail
  ((with_reducible refine (HI.out _).mono ?_); rintro e wd10 ⟨vl, rfl, hll, hown, hb11⟩)
  replace X := dB X hb11
  replace Z := dB Z hb11
  replace R := rB R hb11
  replace KP := kB KP hgr hb11
  clear hb11
  clear HI
  obtain ⟨Af, cf, rfl⟩ := own_form hown
  have FS := Lib.hid ((KeptN.own (own_baseD hown (show w.heap.size + 2 ≤ _ from hS0)) (by decide)).imp fun _ h => own_baseD h (Nat.zero_le _))
  clear hown hS0
  obtain ⟨cX_0, cX_1, cX_2, cX_3, cX_4, cX_5, cX_6, cX_7, cX_8, cX_9⟩ := X.out.c10
  go_upto_region 5 with fail
  clear cX_0 cX_1 cX_2 cX_3 cX_4 cX_5 cX_6 cX_7 cX_8 cX_9
  obtain ⟨wd13, hE14⟩ : ∃ ww, ww = wd10.alloc (.cells #[.int .i64 5, .bool false, .int .i64 0, .string ⟨#[]⟩, .int .i64 0, .slice none 0 0, .slice none 0 0, .slice none 0 0] 45) := ⟨_, rfl⟩
  rw [← hE14]
  have hb12 := aB hE14
  have V := aN hE14
  clear hE14
  have hl16 := X.out.here
  have hl17 := Z.out.here
  have hl18 := FS.out.le
  have hl19 := KP.size
  replace X := dB X hb12
  replace Z := dB Z hb12
  replace FS := nB FS hb12
  replace R := rB R hb12
  replace KP := kB KP hgr hb12
  clear hb12
  generalize wd10.heap.size = g15 at *
  obtain ⟨gV, rfl⟩ : ∃ g, g = g15 := ⟨_, rfl⟩
  have hl0 : Hid (RecAt w gr tv path x C1 l1 C2 l2 fs Af cf gV (.slice none 0 0) (.slice none 0 0) fp fn wd13) :=
   Lib.hid ⟨X.out, Z.out, V.out, R.out, KP, FS.out, by omega⟩
  have cX_6 : wd13.cell? ⟨w.heap.size, 6, none⟩ = some (.slice C2 x.mems.length l2) := X.out.cell 6
  go_upto_region 6 with fail
  clear X Z V R KP FS cX_6
  go_loopw [41] (fun i wr => ∃ k : Nat, k ≤ x.mems.length ∧ i = .int .i64 (k : Int) ∧ ∃ (fp : Value) (fn : Int) (va : Value) (acc : List Val), RecAt w gr tv path x C1 l1 C2 l2 fs Af cf gV va (.slice none 0 0) fp fn wr ∧ ListN (gV + 1) va acc wr ∧ acc.length = k ∧ seqN (memF rec x fs path) x.mems.length 0 [] = seqN (memF rec x fs path) (x.mems.length - k) k acc) (fun i _ => x.mems.length - (intOf i).toNat)
  case atStart => exact ⟨0, by omega, rfl, _, _, _, [], hl0.out, ListN.nil _ _, rfl, rfl⟩
  case round =>
   clear hl0
   obtain ⟨k, hk1, rfl, fp1, fn1, va, acc, ⟨X, Z, V, R, KP, hFS, hgV⟩, hL, hacc, hseq⟩ := hrel
   replace R := Lib.hid R
   replace X := Lib.hid X
   replace Z := Lib.hid Z
   replace V := Lib.hid V
   have FS := Lib.hid (hFS)
   clear hFS
   by_cases hlt : k < x.mems.length
   ·
    have hvl : Hid (∀ j, va.ownBlock = some j → gV + 1 ≤ j ∧ j < wr.heap.size) := Lib.hid (fun j hj => ⟨(hL.lt j hj).1, (hL.lt j hj).2.1⟩)
    have hLk := hL.kept
    have hgz := V.out.here
    obtain ⟨hz, hzE⟩ : ∃ hz, wr.heap.size = hz := ⟨_, rfl⟩
    rw [hzE] at hLk hvl hgz
    clear hzE hL
    have LI := Lib.hid (hLk)
    clear hLk
    obtain ⟨b2, o2, rfl, hbb2, hel⟩ := HX.out.mems.elem (by omega)
    obtain ⟨dk, di, dr, hcells, hma⟩ := hel k hlt
    have hcr := hcells.lowD KP.low hbb2
    have HMk := Lib.hid (HM.out.2 x.mems[k] (List.getElem_mem hlt))
    have hn1 : x.mems.length - k = (x.mems.length - (k + 1)) + 1 := by omega
    rw [hn1] at hseq
    have hseqO := fun v h => hseq.trans (seqN_ok (v := v) ((memF_at hlt).trans h))
    have hseqE := fun e h => hseq.trans (seqN_err (e := e) ((memF_at hlt).trans h))
    have hlti : (k : Int) < x.mems.length := by omega
    have hd0 : decide ((k : Int) < 0) = false := by simp
    have hd1 : decide (x.mems.length ≤ k) = false := by simpa using hlt
    generalize x.mems[k] = m at *
    obtain ⟨D1, f1, D2, f2, D3, f3, rfl, rfl, rfl, -, -, -⟩ := hma.dflt.forms
    obtain ⟨c0, c1, c2, c3, c4, c5, c6, c7, c8, c9, c10, c11, c12⟩ := hcr
    have HMA := Lib.hid hma
    have HSO := Lib.hid hseqO
    have HSE := Lib.hid hseqE
    have Hacc := Lib.hid hacc
    clear hcells hel hma hseq hseqO hseqE hacc hn1
    go_upto_region 8 with fail
    clear c0 c1 c2 c3 c4 c5 c6 c7 c8 c9 c10 c11 c12 hd0 hd1
    obtain ⟨wd21, hE22⟩ : ∃ ww, ww = wr.alloc (.cells #[.int .i64 m.id, .string ⟨m.name.toArray⟩, .int .i64 m.ty, .bool m.crit, .bool m.hasDef, .int .i64 m.dflt.kind, .bool m.dflt.bool, .int .i64 m.dflt.num, .string ⟨m.dflt.str.toArray⟩, .int .i64 m.dflt.id, .slice D1 m.dflt.keys.length f1, .slice D2 m.dflt.items.length f2, .slice D3 m.dflt.rest.length f3] 73) := ⟨_, rfl⟩
    rw [← hE22]
    have hb20 := aB hE22
    have M := aN hE22
    clear hE22
    have hl24 := X.out.here
    have hl25 := Z.out.here
    have hl26 := V.out.here
    have hl27 := FS.out.le
    have hl28 := LI.out.le
    have hl29 := KP.size
    replace X := dB X hb20
    replace Z := dB Z hb20
    replace V := dB V hb20
    replace FS := nB FS hb20
    replace LI := nB LI hb20
    replace R := rB R hb20
    replace KP := kB KP hgr hb20
    clear hb20
    generalize wr.heap.size = g23 at *
    obtain ⟨gM, rfl⟩ : ∃ g, g = g23 := ⟨_, rfl⟩
    have HF := Lib.hid (fun W h1 h2 h3 => fldidx_any fs (.slice Af fs.length cf) gM m.id W (by omega) h1 h2 h3)
    cases hfi : fidx fs m.id with
    | some j =>
     obtain ⟨hjl, hfa⟩ := fidx_some hfi
     obtain ⟨gf, cf', hvf⟩ := own_pos3 FS.out.now (by omega)
     injection hvf with hv1 hv2 hv3
     subst hv1; subst hv3; clear hv2
     simp only [hfi, idxI] at HF
     clear hfi
     go_wp2_with fail
     have hm0 : wd21.cell? ⟨gM, 0, none⟩ = some (.int .i64 m.id) := M.out.cell 0
     ((with_reducible refine (HF.out _ (Rd.of_own FS.out.now) hm0 M.out.here).mono ?_); rintro e wd30 ⟨rfl, hb31⟩)
     replace X := dB X hb31
     replace Z := dB Z hb31
     replace V := dB V hb31
     replace M := dB M hb31
     replace FS := nB FS hb31
     replace LI := nB LI hb31
     replace R := rB R hb31
     replace KP := kB KP hgr hb31
     clear hb31
     clear HF hm0
     have hmm : memM rec fs path m = rec m.ty fs[j].data (path ++ [m.id]) := by unfold memM; rw [hfa]
     rw [hmm] at HSO HSE
     have hfl := (HL.out fs[j] (List.getElem_mem hjl)).2
     have HPQ := Lib.hid (fun (W : World) (fp' : Value) (fn' : Int) h1 h2 => HPo.out W fp' fn' m.id m.ty fs[j].data h1 h2 HMk.out (by omega))
     have hFC := Lib.hid (fun (W : World) h => (fld_of (W := W) (g := gf) (n := fs.length) (n' := fs.length) (c := cf) h hjl).2.2)
     generalize rec m.ty fs[j].data (path ++ [m.id]) = q at *
     generalize fs[j].data = dt at *
     have hjli : (j : Int) < fs.length := by omega
     have hd0 : decide ((j : Int) < 0) = false := by simp
     have hd1 : decide (fs.length ≤ j) = false := by simpa using hjl
     clear hmm hfa
     go_upto_region 14 with fail
     go_cut [14, 15, 41] from 41 to 116 (fun sa sb sc wx => sc = .int .i64 (k : Int) ∧ ItemAt wx gr tv path q (hz - 1) sa sb ∧ KeepT w gr wx ∧ Has wx w.heap.size 33 #[.int .i64 5, .string ⟨x.name.toArray⟩, .int .i64 x.low, .int .i64 x.high, .int .i64 x.max, .slice C1 x.syms.length l1, .slice (some ⟨b2, o2, none⟩) x.mems.length l2, .int .i64 x.key, .int .i64 x.elem, .bool x.opn] ∧ Has wx (w.heap.size + 1) 45 #[.int .i64 0, .bool false, .int .i64 0, .string ⟨#[]⟩, .int .i64 0, .slice none 0 0, .slice none 0 0, .slice none 0 0] ∧ Has wx gV 45 #[.int .i64 5, .bool false, .int .i64 0, .string ⟨#[]⟩, .int .i64 0, .slice none 0 0, va, .slice none 0 0] ∧
      KeptN (fun w => w.ownsRow 0 129 3 (.slice (some ⟨gf, 0, none⟩) fs.length cf) fs.length (fldsV fs)) wx (w.heap.size + 2) gV ∧ KeptN (ListN (gV + 1) va acc) wx (gV + 1) hz)
     case first =>
      have cM_0 : wd30.cell? ⟨gM, 0, none⟩ = some (.int .i64 m.id) := M.out.cell 0
      have cM_2 : wd30.cell? ⟨gM, 2, none⟩ = some (.int .i64 m.ty) := M.out.cell 2
      refine wp_region_held_drew (S := (fun w' => w'.cell? ⟨gM, 0, none⟩ = some (.int .i64 m.id) ∧ w'.cell? ⟨gM, 2, none⟩ = some (.int .i64 m.ty) ∧ (w'.cell? ⟨gf, j * 3 + 2, none⟩ = some (.string ⟨dt.toArray⟩)))) (by kernel_rfl) ⟨cM_0, cM_2, (hFC.out _ FS.out.now)⟩ (fun hHeld => ?_)
      clear cM_0 cM_2
      have hb32 : Below wd30.heap.size wd30 (wd30.drew) := (Below.refl _ _).drew
      replace X := dB X hb32
      replace Z := dB Z hb32
      replace V := dB V hb32
      replace M := dB M hb32
      replace FS := nB FS hb32
      replace LI := nB LI hb32
      replace R := rB R hb32
      replace KP := kB KP hgr hb32
      clear hb32
      generalize wd30.drew = wd33 at *
      refine tk (i := 0) (v := ?k34) ?_
      simp only [put_laws2]
      refine tk (i := 1) (v := ?k35) ?_
      simp only [put_laws2]
      refine tk (i := 2) (v := ?k36) ?_
      simp only [put_laws2]
      refine tk (i := 3) (v := ?k37) ?_
      simp only [put_laws2]
      refine tk (i := 4) (v := ?k38) ?_
      simp only [put_laws2]
      refine tk (i := 5) (v := ?k39) ?_
      simp only [put_laws2]
      refine tk (i := 6) (v := ?k40) ?_
      simp only [put_laws2]
      refine tk (i := 7) (v := ?k41) ?_
      simp only [put_laws2]
      refine tk (i := 8) (v := ?k42) ?_
      simp only [put_laws2]
      refine tk (i := 9) (v := ?k43) ?_
      simp only [put_laws2]
      refine wpAnyH_ready (rs := [10, 14]) (by kernel_rfl) (by simp) ?_
      refine AllReadyH.cons rfl (fun K hK => ?_) (AllReadyH.cons rfl (fun K hK => ?_) (AllReadyH.nil))
      ·
       skip
       go_simp
       have hl51 := X.out.here
       have hl52 := Z.out.here
       have hl53 := V.out.here
       have hl54 := M.out.here
       have hl55 := FS.out.le
       have hl56 := LI.out.le
       have hl57 := KP.size
       ((with_reducible refine (HPQ.out _ _ _ R.out.at_ (HT.out.keep (fun _ hp => KP.low.cell hp) (Nat.le_refl _))).mono ?_); rintro e wd44 hp46)
       obtain ⟨fp49, fn50, c0N, c1N, c2N, c3N, c4N, c5N, c6N, c7N, bbN, h1N, rfl, hR48, hK47, N⟩ := hp46.take
       replace X := dKT X hK47 (by omega) (by decide)
       replace Z := dKT Z hK47 (by omega) (by decide)
       replace V := dKT V hK47 (by omega) (by decide)
       replace M := dKT M hK47 (by omega) (by decide)
       replace FS := nT FS hK47 (by omega)
       replace LI := nT LI hK47 (by omega)
       replace R := Lib.hid hR48
       replace KP := KP.trans hK47
       replace N := Lib.hid N
       clear hK47
       have h1aN : (#[c0N, c1N, c2N, c3N, c4N, c5N, c6N, c7N] : Array Value).all (·.oneCell') = true := by simpa using h1N
       generalize wd33.heap.size = L45 at *
       try clear hHeld
       refine hK.out _ _ (⟨M.out.cell 0, ⟨M.out.cell 2, (hFC.out _ FS.out.now)⟩⟩) (fun hHeld => ?_)
       clear hK K
       refine tk (i := 11) (v := ?k58) ?_
       simp only [put_laws2]
       refine tk (i := 12) (v := ?k59) ?_
       simp only [put_laws2]
       refine tk (i := 13) (v := ?k60) ?_
       simp only [put_laws2]
       refine rd1 (i := 14) (fun K hK => ?_)
       go_simp
       obtain ⟨wd62, hE63⟩ : ∃ ww, ww = wd44.alloc (.cells #[.int .i64 0, .bool false, .int .i64 0, .string ⟨#[]⟩, .int .i64 0, .slice none 0 0, .slice none 0 0, .slice none 0 0] 45) := ⟨_, rfl⟩
       rw [← hE63]
       have hb61 := aB hE63
       have I := aN hE63
       clear hE63
       have hl65 := X.out.here
       have hl66 := Z.out.here
       have hl67 := V.out.here
       have hl68 := M.out.here
       have hl69 := FS.out.le
       have hl70 := LI.out.le
       have hl71 := N.out.le
       have hl72 := KP.size
       replace X := dB X hb61
       replace Z := dB Z hb61
       replace V := dB V hb61
       replace M := dB M hb61
       replace FS := nB FS hb61
       replace LI := nB LI hb61
       replace N := nB N hb61
       replace R := rB R hb61
       replace KP := kB KP hgr hb61
       clear hb61
       generalize wd44.heap.size = g64 at *
       try clear hHeld
       refine hK.out _ _ (⟨M.out.cell 0, ⟨M.out.cell 2, (hFC.out _ FS.out.now)⟩⟩) (fun hHeld => ?_)
       clear hK K
       refine rd1 (i := 15) (fun K hK => ?_)
       refine step_store_row (by rfl) 45 _ _ (by rfl) (g64) #[c0N, c1N, c2N, c3N, c4N, c5N, c6N, c7N] (by rfl) (by rfl) 45 _ I.out (by kernel_rfl) rfl (by first | assumption | simp [Value.oneCell']) ?_
       obtain ⟨wd73, hE74⟩ : ∃ ww, ww = wd62.setRow (g64) #[c0N, c1N, c2N, c3N, c4N, c5N, c6N, c7N] := ⟨_, rfl⟩
       rw [← hE74]
       replace X := dR X hE74 (by omega)
       replace Z := dR Z hE74 (by omega)
       replace V := dR V hE74 (by omega)
       replace M := dR M hE74 (by omega)
       replace R := rR R I hE74 (by decide) (by omega)
       replace KP := kRw KP hgr hE74 (by omega)
       replace I := dO I hE74
       replace FS := nR FS hE74 (by omega)
       replace LI := nR LI hE74 (by omega)
       replace N := nR N hE74 (by omega)
       clear hE74
       try clear hHeld
       refine hK.out _ _ (⟨M.out.cell 0, ⟨M.out.cell 2, (hFC.out _ FS.out.now)⟩⟩) (fun hHeld => ?_)
       clear hK K
       refine tk (i := 16) (v := ?k75) ?_
       simp only [put_laws2]
       refine wpAnyH_done (by kernel_rfl) ?_ _
       try clear hHeld
       go_wp2_with fail
       go_meet
       have hBl := N.out.le
       exact ⟨rfl, ⟨_, _, _, _, _, _, _, _, _, _, _, _, _, _, rfl, rfl, h1N, I.out, R.out, N.out, by omega, by omega, by omega⟩, KP, X.out, Z.out, V.out, FS.out, LI.out⟩
      skip
      go_simp
      obtain ⟨wd77, hE78⟩ : ∃ ww, ww = wd33.alloc (.cells #[.int .i64 0, .bool false, .int .i64 0, .string ⟨#[]⟩, .int .i64 0, .slice none 0 0, .slice none 0 0, .slice none 0 0] 45) := ⟨_, rfl⟩
      rw [← hE78]
      have hb76 := aB hE78
      have I := aN hE78
      clear hE78
      have hl80 := X.out.here
      have hl81 := Z.out.here
      have hl82 := V.out.here
      have hl83 := M.out.here
      have hl84 := FS.out.le
      have hl85 := LI.out.le
      have hl86 := KP.size
      replace X := dB X hb76
      replace Z := dB Z hb76
      replace V := dB V hb76
      replace M := dB M hb76
      replace FS := nB FS hb76
      replace LI := nB LI hb76
      replace R := rB R hb76
      replace KP := kB KP hgr hb76
      clear hb76
      generalize wd33.heap.size = g79 at *
      try clear hHeld
      refine hK.out _ _ (⟨M.out.cell 0, ⟨M.out.cell 2, (hFC.out _ FS.out.now)⟩⟩) (fun hHeld => ?_)
      clear hK K
      refine rd1 (i := 10) (fun K hK => ?_)
      go_simp
      have hl94 := X.out.here
      have hl95 := Z.out.here
      have hl96 := V.out.here
      have hl97 := M.out.here
      have hl98 := I.out.here
      have hl99 := FS.out.le
      have hl100 := LI.out.le
      have hl101 := KP.size
      ((with_reducible refine (HPQ.out _ _ _ R.out.at_ (HT.out.keep (fun _ hp => KP.low.cell hp) (Nat.le_refl _))).mono ?_); rintro e wd87 hp89)
      obtain ⟨fp92, fn93, c0N, c1N, c2N, c3N, c4N, c5N, c6N, c7N, bbN, h1N, rfl, hR91, hK90, N⟩ := hp89.take
      replace X := dKT X hK90 (by omega) (by decide)
      replace Z := dKT Z hK90 (by omega) (by decide)
      replace V := dKT V hK90 (by omega) (by decide)
      replace M := dKT M hK90 (by omega) (by decide)
      replace I := dKT I hK90 (by omega) (by decide)
      replace FS := nT FS hK90 (by omega)
      replace LI := nT LI hK90 (by omega)
      replace R := Lib.hid hR91
      replace KP := KP.trans hK90
      replace N := Lib.hid N
      clear hK90
      have h1aN : (#[c0N, c1N, c2N, c3N, c4N, c5N, c6N, c7N] : Array Value).all (·.oneCell') = true := by simpa using h1N
      generalize wd77.heap.size = L88 at *
      try clear hHeld
      refine hK.out _ _ (⟨M.out.cell 0, ⟨M.out.cell 2, (hFC.out _ FS.out.now)⟩⟩) (fun hHeld => ?_)
      clear hK K
      refine tk (i := 11) (v := ?k102) ?_
      simp only [put_laws2]
      refine tk (i := 12) (v := ?k103) ?_
      simp only [put_laws2]
      refine tk (i := 13) (v := ?k104) ?_
      simp only [put_laws2]
      refine rd1 (i := 15) (fun K hK => ?_)
      refine step_store_row (by rfl) 45 _ _ (by rfl) (g79) #[c0N, c1N, c2N, c3N, c4N, c5N, c6N, c7N] (by rfl) (by rfl) 45 _ I.out (by kernel_rfl) rfl (by first | assumption | simp [Value.oneCell']) ?_
      obtain ⟨wd105, hE106⟩ : ∃ ww, ww = wd87.setRow (g79) #[c0N, c1N, c2N, c3N, c4N, c5N, c6N, c7N] := ⟨_, rfl⟩
      rw [← hE106]
      replace X := dR X hE106 (by omega)
      replace Z := dR Z hE106 (by omega)
      replace V := dR V hE106 (by omega)
      replace M := dR M hE106 (by omega)
      replace R := rR R I hE106 (by decide) (by omega)
      replace KP := kRw KP hgr hE106 (by omega)
      replace I := dO I hE106
      replace FS := nR FS hE106 (by omega)
      replace LI := nR LI hE106 (by omega)
      replace N := nR N hE106 (by omega)
      clear hE106
      try clear hHeld
      refine hK.out _ _ (⟨M.out.cell 0, ⟨M.out.cell 2, (hFC.out _ FS.out.now)⟩⟩) (fun hHeld => ?_)
      clear hK K
      refine tk (i := 16) (v := ?k107) ?_
      simp only [put_laws2]
      refine wpAnyH_done (by kernel_rfl) ?_ _
      try clear hHeld
      go_wp2_with fail
      go_meet
      have hBl := N.out.le
      exact ⟨rfl, ⟨_, _, _, _, _, _, _, _, _, _, _, _, _, _, rfl, rfl, h1N, I.out, R.out, N.out, by omega, by omega, by omega⟩, KP, X.out, Z.out, V.out, FS.out, LI.out⟩
     case rest =>
      clear FS LI X Z V R KP M hFC hd0 hd1
      obtain ⟨rfl, ⟨gI, fp', fn', c0N, c1N, c2N, c3N, c4N, c5N, c6N, c7N, bbN, LN, BN, rfl, rfl, h1N, I, R, hN, hLN, hgI, hLB⟩, KP, X, Z, V, hFS, hLI⟩ := hcut
      have h1aN : (#[c0N, c1N, c2N, c3N, c4N, c5N, c6N, c7N] : Array Value).all (·.oneCell') = true := by simpa using h1N
      replace R := Lib.hid R
      replace X := Lib.hid X
      replace Z := Lib.hid Z
      replace V := Lib.hid V
      replace I := Lib.hid I
      have FS := Lib.hid (hFS)
      have LI := Lib.hid (hLI)
      have N := Lib.hid (hN)
      clear hFS hLI hN
      obtain ⟨cI_0, cI_1, cI_2, cI_3, cI_4, cI_5, cI_6, cI_7⟩ := I.out.c8
      have hN := N.out.now
      have hNl := N.out.le
      cases q with
      | error pn =>
       obtain ⟨p', n'⟩ := pn
       obtain ⟨rfl, hf⟩ := hN
       have HR : Hid (decB rec x p path = .error (p', n')) := by show _ = _; rw [HD.out, recR_err (HSE.out _ rfl)]
       have hf := Lib.hid hf
       go_upto_region 16 with fail
       go_wp2_with (refine wpList_store_row rfl 45 _ _ rfl (w.heap.size + 1) _ rfl rfl 45 _ Z.out (by kernel_rfl) rfl (by first | assumption | simp [Value.oneCell']) ?_)
       clear cI_0 cI_1 cI_2 cI_3 cI_4 cI_5 cI_6 cI_7
       obtain ⟨wd108, hE109⟩ : ∃ ww, ww = wc.setRow (w.heap.size + 1) #[c0N, c1N, c2N, c3N, c4N, c5N, c6N, c7N] := ⟨_, rfl⟩
       rw [← hE109]
       replace X := dR X hE109 (by omega)
       replace V := dR V hE109 (by omega)
       replace I := dR I hE109 (by omega)
       replace R := rR R Z hE109 (by decide) (by omega)
       replace KP := kRw KP hgr hE109 (by omega)
       replace Z := dO Z hE109
       replace FS := nR FS hE109 (by omega)
       replace LI := nR LI hE109 (by omega)
       replace N := nR N hE109 (by omega)
       clear hE109
       obtain ⟨cZ_0, cZ_1, cZ_2, cZ_3, cZ_4, cZ_5, cZ_6, cZ_7⟩ := Z.out.c8
       exact bodyPost_ret (v := .tuple #[.agg #[c0N, c1N, c2N, c3N, c4N, c5N, c6N, c7N], .bool false]) (by simp [results, Tryd.results46, go_sem, cZ_0, cZ_1, cZ_2, cZ_3, cZ_4, cZ_5, cZ_6, cZ_7]) rfl (PayPost.bad HR.out R KP hf.out h1N)
      | ok v =>
       obtain ⟨rfl, vk1, vi1, vr1, hc, hv⟩ := hN
       have HCs : Hid ((#[c0N, c1N, c2N, c3N, c4N, c5N, c6N, c7N] : Array Value) = (valV v vk1 vi1 vr1).toArray) := by show _ = _; rw [← hc]
       have HV := Lib.hid hv
       clear hc hv
       have cV_6 : wc.cell? ⟨gV, 6, none⟩ = some (va) := V.out.cell 6
       have hli := LI.out.now
       have hIw := I.out.here
       have hlv := fun j hj => hli.lt j hj
       go_upto_region 20 with (at_builtin; refine wpList_append_item rfl _ _ rfl rfl HCs.out hli rfl rfl HV.out (fun j hj => by have := (hvl.out j hj).2; omega) hNl (by omega) (by have := Hacc.out; omega) (by omega) ?_; intro v' w3 hL3 hb3 hg3; obtain ⟨An, cn, hvv⟩ := hL3.form; obtain rfl : v' = .slice An (acc.length + 1) cn := (by rw [hvv, List.length_append]; rfl); clear hvv; have V3 := dG V hg3 (fun hh => by have := (hvl.out _ hh).1; omega); have v36 : w3.cell? ⟨gV, 6, none⟩ = some va := V3.out.cell 6; have f36 := V3.out.free 6)
       clear hli v36 f36 V3
       clear N
       clear LI
       clear cI_0 cI_1 cI_2 cI_3 cI_4 cI_5 cI_6 cI_7 cV_6
       replace X := dG X hg3 (fun hh => by have := hvl.out _ hh; omega)
       replace Z := dG Z hg3 (fun hh => by have := hvl.out _ hh; omega)
       replace V := dG V hg3 (fun hh => by have := hvl.out _ hh; omega)
       replace I := dG I hg3 (fun hh => by have := hvl.out _ hh; omega)
       replace FS := nG FS hg3 (fun k hh => by have := hvl.out k hh; omega) hb3.size
       replace R := rG R hg3 (fun j hj => ⟨by have := (hlv j hj).1; omega, (hlv j hj).2.2⟩)
       replace KP := KP.above hb3 (by omega) (by omega)
       clear hlv
       have LJ := Lib.hid (hL3.kept)
       clear hL3
       obtain ⟨wd110, hE111⟩ : ∃ ww, ww = w3.setCell ⟨gV, 6, none⟩ ((.slice An (acc.length + 1) cn)) := ⟨_, rfl⟩
       rw [← hE111]
       replace X := dF X hE111 (by omega)
       replace Z := dF Z hE111 (by omega)
       replace I := dF I hE111 (by omega)
       replace R := rF R V hE111 (by decide) (by omega)
       replace KP := kS KP hgr hE111 (by omega)
       replace V : Hid (Has wd110 (gV) 45 #[.int .i64 5, .bool false, .int .i64 0, .string ⟨#[]⟩, .int .i64 0, .slice none 0 0, (.slice An (acc.length + 1) cn), .slice none 0 0]) := Lib.hid (by simpa using dS V hE111)
       replace FS := nF FS hE111 (by omega)
       replace LJ := nF LJ hE111 (by omega)
       clear hE111
       go_wp2_with fail
       go_roundw
       case rel => exact ⟨k + 1, by omega, by go_num, _, _, _, acc ++ [v], ⟨X.out, Z.out, V.out, R.out, KP, FS.out, hgV⟩, LJ.out.now, by rw [List.length_append, Hacc.out]; rfl, HSO.out v rfl⟩
       case measure => simp [intOf]; omega
    | none =>
     simp only [hfi, idxI] at HF
     have hfn := fidx_none hfi
     clear hfi
     go_wp2_with fail
     have hm0 : wd21.cell? ⟨gM, 0, none⟩ = some (.int .i64 m.id) := M.out.cell 0
     ((with_reducible refine (HF.out _ (Rd.of_own FS.out.now) hm0 M.out.here).mono ?_); rintro e wd112 ⟨rfl, hb113⟩)
     replace X := dB X hb113
     replace Z := dB Z hb113
     replace V := dB V hb113
     replace M := dB M hb113
     replace FS := nB FS hb113
     replace LI := nB LI hb113
     replace R := rB R hb113
     replace KP := kB KP hgr hb113
     clear hb113
     clear HF hm0
     cases hdf : m.hasDef with
     | true =>
      have hmm : memM rec fs path m = .ok m.dflt := by unfold memM; rw [hfn, hdf]; rfl
      have HS1 := Lib.hid (HSO.out _ hmm)
      have cM_4 : wd112.cell? ⟨gM, 4, none⟩ = some (.bool m.hasDef) := M.out.cell 4
      rw [hdf] at cM_4
      clear hmm hfn HSO HSE hdf
      go_upto_region 19 with fail
      have cV_6 : wd112.cell? ⟨gV, 6, none⟩ = some (va) := V.out.cell 6
      obtain ⟨-, -, -, -, -, cM_5, cM_6, cM_7, cM_8, cM_9, cM_10, cM_11, cM_12⟩ := M.out.c13
      refine wp_region_T (S := (fun w' => w'.cell? ⟨gV, 6, none⟩ = some (va) ∧ w'.cell? ⟨gM, 5, none⟩ = some (.int .i64 m.dflt.kind) ∧ w'.cell? ⟨gM, 6, none⟩ = some (.bool m.dflt.bool) ∧ w'.cell? ⟨gM, 7, none⟩ = some (.int .i64 m.dflt.num) ∧ w'.cell? ⟨gM, 8, none⟩ = some (.string ⟨m.dflt.str.toArray⟩) ∧ w'.cell? ⟨gM, 9, none⟩ = some (.int .i64 m.dflt.id) ∧ w'.cell? ⟨gM, 10, none⟩ = some (.slice D1 m.dflt.keys.length f1) ∧ w'.cell? ⟨gM, 11, none⟩ = some (.slice D2 m.dflt.items.length f2) ∧ w'.cell? ⟨gM, 12, none⟩ = some (.slice D3 m.dflt.rest.length f3))) (fun j => j == 8) (by kernel_rfl) ⟨cV_6, cM_5, cM_6, cM_7, cM_8, cM_9, cM_10, cM_11, cM_12⟩ (fun hHeld => ?_)
      clear cM_4 cV_6 cM_5 cM_6 cM_7 cM_8 cM_9 cM_10 cM_11 cM_12
      have hb114 : Below wd112.heap.size wd112 (wd112.drew) := (Below.refl _ _).drew
      replace X := dB X hb114
      replace Z := dB Z hb114
      replace V := dB V hb114
      replace M := dB M hb114
      replace FS := nB FS hb114
      replace LI := nB LI hb114
      replace R := rB R hb114
      replace KP := kB KP hgr hb114
      clear hb114
      generalize wd112.drew = wd115 at *
      refine tkT (i := 0) (v := ?k116) ?_
      simp only [put_laws2]
      refine tkT (i := 1) (v := ?k117) ?_
      simp only [put_laws2]
      refine tkT (i := 2) (v := ?k118) ?_
      simp only [put_laws2]
      refine tkT (i := 3) (v := ?k119) ?_
      simp only [put_laws2]
      refine rdT1 (i := 4) (fun K hK => ?_)
      go_simp
      obtain ⟨z6, h6e⟩ : ∃ z, z = (wd115).heap.size := ⟨_, rfl⟩
      have hzl := LI.out.le
      rw [← h6e] at hzl
      ((with_reducible refine (dcopied_any _ m.dflt _ _ _ _ (Nat.le_refl _) (HMA.out.dflt.keep (fun p hp => KP.low.cell hp) (Nat.le_of_lt (Nat.lt_of_lt_of_le hgr KP.size)))).mono ?_); rintro e wd120 ⟨zk, zi, zr, rfl, hcv, hb121⟩)
      replace X := dB X hb121
      replace Z := dB Z hb121
      replace V := dB V hb121
      replace M := dB M hb121
      replace FS := nB FS hb121
      replace LI := nB LI hb121
      replace R := rB R hb121
      replace KP := kB KP hgr hb121
      clear hb121
      obtain ⟨_, ⟨Z1, z1, rfl, _⟩, _⟩ := id hcv.keys
      obtain ⟨_, ⟨Z2, z2, rfl, _⟩, _⟩ := id hcv.items
      obtain ⟨_, Z3, z3, rfl, _⟩ := id hcv.rest
      obtain ⟨z7, h7e⟩ : ∃ z, z = (wd120).heap.size := ⟨_, rfl⟩
      have HY := Lib.hid (ValN.atN hcv h6e h7e)
      clear hcv h6e h7e
      try clear hHeld
      refine hK.out _ _ (⟨V.out.cell 6, ⟨M.out.cell 5, ⟨M.out.cell 6, ⟨M.out.cell 7, ⟨M.out.cell 8, ⟨M.out.cell 9, ⟨M.out.cell 10, ⟨M.out.cell 11, M.out.cell 12⟩⟩⟩⟩⟩⟩⟩⟩) (fun hHeld => ?_)
      clear hK K
      refine rdT1 (i := 5) (fun K hK => ?_)
      go_simp
      obtain ⟨wd123, hE124⟩ : ∃ ww, ww = wd120.alloc (.cells #[.int .i64 m.dflt.kind, .bool m.dflt.bool, .int .i64 m.dflt.num, .string ⟨m.dflt.str.toArray⟩, .int .i64 m.dflt.id, .slice Z1 m.dflt.keys.length z1, .slice Z2 m.dflt.items.length z2, .slice Z3 m.dflt.rest.length z3] 45) := ⟨_, rfl⟩
      rw [← hE124]
      have hb122 := aB hE124
      have N := aN hE124
      clear hE124
      have hl126 := X.out.here
      have hl127 := Z.out.here
      have hl128 := V.out.here
      have hl129 := M.out.here
      have hl130 := FS.out.le
      have hl131 := LI.out.le
      have hl132 := HY.out.le
      have hl133 := KP.size
      replace X := dB X hb122
      replace Z := dB Z hb122
      replace V := dB V hb122
      replace M := dB M hb122
      replace FS := nB FS hb122
      replace LI := nB LI hb122
      replace HY := nB HY hb122
      replace R := rB R hb122
      replace KP := kB KP hgr hb122
      clear hb122
      generalize wd120.heap.size = g125 at *
      try clear hHeld
      refine hK.out _ _ (⟨V.out.cell 6, ⟨M.out.cell 5, ⟨M.out.cell 6, ⟨M.out.cell 7, ⟨M.out.cell 8, ⟨M.out.cell 9, ⟨M.out.cell 10, ⟨M.out.cell 11, M.out.cell 12⟩⟩⟩⟩⟩⟩⟩⟩) (fun hHeld => ?_)
      clear hK K
      refine rdT1 (i := 6) (fun K hK => ?_)
      have hli := LI.out.now
      have hlv := fun j hj => hli.lt j hj
      have hyl := HY.out.le
      have hnl := N.out.here
      refine step_append_listN (by rfl) _ _ (by rfl) rfl rfl hli (by rfl) N.out (by rfl) HY.out.now (fun j hj => by have := (hvl.out j hj).2; omega) hyl (by omega) (by have := Hacc.out; omega) (by omega) ?_
      intro v' w3 hL3 hb3 hg3
      obtain ⟨An, cn, hvv⟩ := hL3.form
      obtain rfl : v' = .slice An (acc.length + 1) cn := (by rw [hvv, List.length_append]; rfl)
      clear hvv hli
      clear N
      clear LI
      clear HY
      replace X := dG X hg3 (fun hh => by have := hvl.out _ hh; omega)
      replace Z := dG Z hg3 (fun hh => by have := hvl.out _ hh; omega)
      replace V := dG V hg3 (fun hh => by have := hvl.out _ hh; omega)
      replace M := dG M hg3 (fun hh => by have := hvl.out _ hh; omega)
      replace FS := nG FS hg3 (fun k hh => by have := hvl.out k hh; omega) hb3.size
      replace R := rG R hg3 (fun j hj => ⟨by have := (hlv j hj).1; omega, (hlv j hj).2.2⟩)
      replace KP := KP.above hb3 (by omega) (by omega)
      clear hlv
      have LJ := Lib.hid (hL3.kept)
      clear hL3
      try clear hHeld
      refine hK.out _ _ (⟨V.out.cell 6, ⟨M.out.cell 5, ⟨M.out.cell 6, ⟨M.out.cell 7, ⟨M.out.cell 8, ⟨M.out.cell 9, ⟨M.out.cell 10, ⟨M.out.cell 11, M.out.cell 12⟩⟩⟩⟩⟩⟩⟩⟩) (fun hHeld => ?_)
      clear hK K
      refine tkT (i := 7) (v := ?k134) ?_
      simp only [put_laws2]
      refine rdTL (i := 8) (fun K hK => ?_)
      have cV_6 : w3.cell? ⟨gV, 6, none⟩ = some (va) := V.out.cell 6
      have fV_6 := V.out.free 6
      go_simp
      clear cV_6 fV_6
      obtain ⟨wd135, hE136⟩ : ∃ ww, ww = w3.setCell ⟨gV, 6, none⟩ ((.slice An (acc.length + 1) cn)) := ⟨_, rfl⟩
      rw [← hE136]
      replace X := dF X hE136 (by omega)
      replace Z := dF Z hE136 (by omega)
      replace M := dF M hE136 (by omega)
      replace R := rF R V hE136 (by decide) (by omega)
      replace KP := kS KP hgr hE136 (by omega)
      replace V : Hid (Has wd135 (gV) 45 #[.int .i64 5, .bool false, .int .i64 0, .string ⟨#[]⟩, .int .i64 0, .slice none 0 0, (.slice An (acc.length + 1) cn), .slice none 0 0]) := Lib.hid (by simpa using dS V hE136)
      replace FS := nF FS hE136 (by omega)
      replace LJ := nF LJ hE136 (by omega)
      clear hE136
      try clear hHeld
      refine hK.out _ _ ?_
      clear hK K
      refine wpAnyT_done (by kernel_rfl) ?_ _
      try clear hHeld
      go_wp2_with fail
      go_roundw
      case rel => exact ⟨k + 1, by omega, by go_num, _, _, _, acc ++ [m.dflt], ⟨X.out, Z.out, V.out, R.out, KP, FS.out, hgV⟩, LJ.out.now, by rw [List.length_append, Hacc.out]; rfl, HS1.out⟩
      case measure => simp [intOf]; omega
     | false =>
      have hmm : memM rec fs path m = .error (path ++ [m.id], 7) := by unfold memM; rw [hfn, hdf]; rfl
      have HR : Hid (decB rec x p path = .error (path ++ [m.id], 7)) := by show _ = _; rw [HD.out, recR_err (HSE.out _ hmm)]
      have cM_4 : wd112.cell? ⟨gM, 4, none⟩ = some (.bool m.hasDef) := M.out.cell 4
      rw [hdf] at cM_4
      clear hmm hfn HSO HSE hdf
      go_upto_region 9 with fail
      obtain ⟨⟨pv, hrow, hown⟩, -⟩ := R.out
      obtain ⟨Ap, cp, rfl⟩ := own_form hown
      have HO := Lib.hid hown
      obtain ⟨wp, rfl⟩ : ∃ wp, wp = wd112 := ⟨_, rfl⟩
      have HKP := Lib.hid KP
      have hgp : gr < wp.heap.size := hrow.here
      have hzp : w.heap.size + 1 < wp.heap.size := Z.out.here
      replace Z := Z.out
      replace M := M.out
      clear R KP hown
      replace Z := Lib.hid Z
      replace M := Lib.hid M
      replace hrow := Lib.hid hrow
      go_upto_region 9 with fail
      obtain ⟨i0, hi, hz0, hz1, hz2⟩ := info_parts info_intC
      have chrow_1 : wp.cell? ⟨gr, 1, none⟩ = some (.slice Ap path.length cp) := hrow.out.cell 1
      have cM_0 : wp.cell? ⟨gM, 0, none⟩ = some (.int .i64 m.id) := M.out.cell 0
      refine wp_region_T (S := (fun w' => w'.cell? ⟨gr, 1, none⟩ = some (.slice Ap path.length cp) ∧ w'.cell? ⟨gM, 0, none⟩ = some (.int .i64 m.id))) (fun j => j == 9 || j == 10 || j == 11) (by kernel_rfl) ⟨chrow_1, cM_0⟩ (fun hHeld => ?_)
      clear chrow_1 cM_0
      have hb137 : Below wp.heap.size wp (wp.drew) := (Below.refl _ _).drew
      replace Z := dB Z hb137
      replace M := dB M hb137
      replace hrow := dB hrow hb137
      have hw139 := hb137
      clear hb137
      generalize wp.drew = wd138 at *
      refine tkT (i := 0) (v := ?k140) ?_
      simp only [put_laws2]
      refine tkT (i := 1) (v := ?k141) ?_
      simp only [put_laws2]
      refine tkT (i := 2) (v := ?k142) ?_
      simp only [put_laws2]
      refine tkT (i := 3) (v := ?k143) ?_
      simp only [put_laws2]
      refine tkT (i := 4) (v := ?k144) ?_
      simp only [put_laws2]
      refine tkT (i := 5) (v := ?k145) ?_
      simp only [put_laws2]
      refine tkT (i := 6) (v := ?k146) ?_
      simp only [put_laws2]
      refine rdT1 (i := 7) (fun K hK => ?_)
      go_simp
      obtain ⟨wd148, hE149⟩ : ∃ ww, ww = wd138.alloc (.cells #[.int .i64 m.id] 3) := ⟨_, rfl⟩
      rw [← hE149]
      have hb147 := aB hE149
      have NB := aN hE149
      clear hE149
      have hl151 := Z.out.here
      have hl152 := M.out.here
      have hl153 := hrow.out.here
      have hl154 := hw139.size
      replace Z := dB Z hb147
      replace M := dB M hb147
      replace hrow := dB hrow hb147
      replace hw139 := dT hw139 hb147
      clear hb147
      generalize wd138.heap.size = g150 at *
      try clear hHeld
      refine hK.out _ _ (⟨hrow.out.cell 1, M.out.cell 0⟩) (fun hHeld => ?_)
      clear hK K
      refine rdT1 (i := 8) (fun K hK => ?_)
      have hOW := own_below HO.out hw139
      have hKa : KeepT wp gr wd148 := KeepT.of_below hw139 (Nat.le_of_lt hgp)
      have hsp := (hw139).size
      refine step_append_lies (P := Tryd.prog) _ (by rfl) _ _ _ (by rfl) (gr + 1) 3 i0 _ 1 8 Tryd.underlying22 hi hz0 hz1 hz2 rfl (by decide) (.slice Ap path.length cp) path.length _ (by rfl) hOW ⟨g150, 0, none⟩ 1 1 [.int .i64 m.id] (by rfl) (by rfl) (World.news_of_block NB.out) (by simp [Value.oneCell']) (by omega) (by simp only [maxLen]; omega) (by omega) (by omega) _ rfl ?_
      intro g2 cap2 w3 hown3 hg3 hg3b hg3l
      have K3 := hKa.trans (KeepT.grown hg3 hOW (Nat.lt_succ_self gr) (by omega))
      clear NB
      replace Z := dG Z (fun k h1 h2 => hg3.block k h1 (fun e => h2 e.symm)) (own_not hOW Z.out (by decide))
      replace M := dG M (fun k h1 h2 => hg3.block k h1 (fun e => h2 e.symm)) (own_not hOW M.out (by decide))
      replace hrow := dG hrow (fun k h1 h2 => hg3.block k h1 (fun e => h2 e.symm)) (own_not hOW hrow.out (by decide))
      clear hg3 hg3b hg3l hKa hOW hsp
      try clear hHeld
      refine hK.out _ _ (⟨hrow.out.cell 1, M.out.cell 0⟩) (fun hHeld => ?_)
      clear hK K
      refine rdTL (i := 9) (fun K hK => ?_)
      go_simp
      try clear hHeld
      refine hK.out _ _ ?_
      clear hK K
      refine rdTL (i := 10) (fun K hK => ?_)
      go_simp
      try clear hHeld
      refine hK.out _ _ ?_
      clear hK K
      refine rdTL (i := 11) (fun K hK => ?_)
      have chrow_1 : w3.cell? ⟨gr, 1, none⟩ = some (.slice Ap path.length cp) := hrow.out.cell 1
      have fhrow_1 := hrow.out.free 1
      go_simp
      obtain ⟨w4, hE⟩ : ∃ ww, ww = w3.setCell ⟨gr, 1, none⟩ (.slice (some ⟨g2, 0, none⟩) (path.length + 1) cap2) := ⟨_, rfl⟩
      rw [← hE]
      have K4 : KeepT w gr w4 := HKP.out.trans (hE ▸ K3.trans (KeepT.setCell _ _ _ _))
      have O4 := own_rdr hown3 (Nat.lt_succ_self gr) 1 (.slice (some ⟨g2, 0, none⟩) (path.length + 1) cap2)
      rw [← hE] at O4
      have Z4 := dF Z hE (show w.heap.size + 1 ≠ gr by omega)
      have R4 : Has w4 gr 78 #[tv, .slice (some ⟨g2, 0, none⟩) (path.length + 1) cap2, fp1, .int .i64 fn1] := by simpa using dS hrow hE
      clear chrow_1 fhrow_1
      try clear hHeld
      refine hK.out _ _ ?_
      clear hK K
      refine wpAnyT_done (by kernel_rfl) ?_ _
      try clear hHeld
      have R4a : RdrAt w4 gr tv fp1 fn1 (path ++ [m.id]) := ⟨_, R4, by simpa [V64i] using O4⟩
      clear hE K3 hown3 hrow Z R4 O4
      go_wp2_with fail
      refine (fail_post gr _ _ _ (path ++ [m.id]) 7 _ (by simp; omega) R4a).mono ?_
      intro e w5 h5
      obtain ⟨c0, c1, c2, c3, c4, c5, c6, c7, bb, h1, rfl⟩ := h5.form
      obtain ⟨fp', fn', ⟨pv5, hR5, hO5⟩, K5, h5'⟩ := h5
      have H5 := Lib.hid h5'
      clear h5'
      have M5 := Has.made w5 45 #[.int .i64 0, .bool false, .int .i64 0, .string ⟨#[]⟩, .int .i64 0, .slice none 0 0, .slice none 0 0, .slice none 0 0]
      have h1' : (#[c0, c1, c2, c3, c4, c5, c6, c7] : Array Value).all (·.oneCell') = true := by simpa using h1
      go_upto_region 11 with (refine wpList_store_row rfl 45 _ _ rfl w5.heap.size _ rfl rfl 45 _ M5 (by kernel_rfl) rfl h1' ?_)
      obtain ⟨w6, hE6⟩ : ∃ ww, ww = (w5.alloc (.cells #[.int .i64 0, .bool false, .int .i64 0, .string ⟨#[]⟩, .int .i64 0, .slice none 0 0, .slice none 0 0, .slice none 0 0] 45)).setRow w5.heap.size #[c0, c1, c2, c3, c4, c5, c6, c7] := ⟨_, rfl⟩
      rw [← hE6]
      have hs5 := K5.size
      have hs4 := K4.size
      have B6 : Below w5.heap.size w5 w6 := hE6 ▸ below_setRow ((Below.refl w5.heap.size w5).alloc (Nat.le_refl _) _) (Nat.le_refl _) _
      have M6 := dO (Lib.hid M5) hE6
      have R6 : Has w6 gr _ _ := (B6.block gr (by omega)).trans hR5
      have O6 := own_below hO5 B6
      rw [List.length_append, List.map_append] at O6
      obtain ⟨g6, cap6, rfl, hcap, O6'⟩ := own_cut O6 (by simp)
      have r1 : w6.cell? ⟨gr, 1, none⟩ = some (.slice (some ⟨g6, 0, none⟩) (path.length + 1) cap6) := R6.cell 1
      have r2 := R6.free 1
      clear hE6 M5
      have i1 : wrap64 (((path.length + 1 : Nat) : Int) - 1) = (path.length : Int) := by unfold wrap64; omega
      have i2 : ((path.length : Int)).toNat = path.length := by omega
      have i3 : ¬ ((path.length : Int) < 0) := by omega
      have i4 : path.length ≤ cap6 := by omega
      have i5 : IntKind.i64.wrap (((path.length + 1 : Nat) : Int) - 1) = (path.length : Int) := by rw [IntKind.wrap_i64]; omega
      clear O6 hcap
      go_region
      obtain ⟨w7, hE7⟩ : ∃ ww, ww = (w6.setCell ⟨gr, 1, none⟩ (.slice (some ⟨g6, 0, none⟩) path.length cap6)).drew := ⟨_, rfl⟩
      rw [← hE7]
      have hz4 := Z4.out.here
      have Z6 : Hid (Has w6 (w.heap.size + 1) _ _) := Lib.hid ((B6.block (w.heap.size + 1) (by omega)).trans ((K5.block (w.heap.size + 1) (by omega) (by omega) (fun c f e => by rw [Z4.out] at e; injection e with e1; injection e1 with _ e2; exact absurd e2 (by decide))).trans Z4.out))
      have M7 : Has w7 w5.heap.size 45 #[c0, c1, c2, c3, c4, c5, c6, c7] := by rw [hE7]; exact (dF M6 rfl (show w5.heap.size ≠ gr by omega)).out
      have Z7 : Has w7 (w.heap.size + 1) 45 #[.int .i64 0, .bool false, .int .i64 0, .string ⟨#[]⟩, .int .i64 0, .slice none 0 0, .slice none 0 0, .slice none 0 0] := by rw [hE7]; exact (dF Z6 rfl (show w.heap.size + 1 ≠ gr by omega)).out
      have gB6 : gr < w5.heap.size := by omega
      have K6 : KeepT w gr w6 := K4.trans (K5.trans (KeepT.of_below B6 (by omega)))
      have K7 : KeepT w gr w7 := by rw [hE7]; exact (K6.trans (KeepT.setCell _ _ _ _)).drew
      have R7 : Has w7 gr 78 #[tv, .slice (some ⟨g6, 0, none⟩) path.length cap6, fp', .int .i64 fn'] := by rw [hE7]; exact (dS (Lib.hid R6) (i := 1) (v := .slice (some ⟨g6, 0, none⟩) path.length cap6) rfl).drew
      have O7 : w7.ownsRow (gr + 1) 3 1 (.slice (some ⟨g6, 0, none⟩) path.length cap6) path.length (path.map V64i) := by rw [hE7]; exact own_rdr O6' (Nat.lt_succ_self gr) 1 _
      have F7 : ∀ n ys, w5.ownsRow (gr + 1) 3 1 fp' n ys → w7.ownsRow (gr + 1) 3 1 fp' n ys := fun n ys hy => by rw [hE7]; exact own_rdr (own_below hy B6) (Nat.lt_succ_self gr) 1 _
      obtain ⟨m0, m1, m2, m3, m4, m5, m6, m7⟩ := M7.c8
      have HR8 : Hid (∀ cs', RdrAt (w7.setRow (w.heap.size + 1) cs') gr tv fp' fn' path) := Lib.hid fun cs' => (rdr_to (RdrX.of ⟨_, R7, O7⟩) Z7 (by decide) (by omega) fun k hk => setRow_other _ _ _ _ hk).at_
      have HF8 : Hid (∀ n ys cs', w5.ownsRow (gr + 1) 3 1 fp' n ys → (w7.setRow (w.heap.size + 1) cs').ownsRow (gr + 1) 3 1 fp' n ys) := Lib.hid fun n ys cs' hy => own_keep (F7 n ys hy) fun k hb => setRow_other _ _ _ _ (fun e => own_not (F7 n ys hy) Z7 (by decide) (e ▸ hb))
      have HZ8 := Lib.hid Z7
      have HK7 := Lib.hid K7
      clear hE7 R7 O7 F7 r1 r2 i1 i2 i3 i4 i5 M6 Z6 R6 B6 Z4 hR5 hO5 O6' K6 Z7 M7 K7 K4 K5
      go_upto_region 12 with fail
      go_wp2_with (refine wpList_store_row rfl 45 _ _ rfl (w.heap.size + 1) _ rfl rfl 45 _ HZ8.out (by kernel_rfl) rfl h1' ?_)
      obtain ⟨z0, z1, z2, z3, z4, z5, z6, z7⟩ := (row_has HZ8.out #[c0, c1, c2, c3, c4, c5, c6, c7]).c8
      refine bodyPost_ret (v := .tuple #[.agg #[c0, c1, c2, c3, c4, c5, c6, c7], .bool false]) (by simp [results, Tryd.results46, go_sem, z0, z1, z2, z3, z4, z5, z6, z7]) rfl ?_
      rw [HR.out]
      obtain ⟨h51, h52, _⟩ := H5.out
      exact ⟨fp', fn', HR8.out _, kRw HK7.out hgr rfl (by omega), h51, HF8.out _ _ _ h52, _, _, _, _, _, _, _, _, h1, rfl⟩
   obtain rfl : k = x.mems.length := by omega
   have hsq : Hid (seqN (memF rec x fs path) x.mems.length 0 [] = .ok acc) := by show _ = _; rw [hseq, Nat.sub_self]; rfl
   have hLk := hL.kept
   have hgz := V.out.here
   obtain ⟨B0, hB0⟩ : ∃ B0, wr.heap.size = B0 := ⟨_, rfl⟩
   have hB0w : B0 ≤ wr.heap.size := by omega
   rw [hB0] at hLk hgz
   obtain ⟨Av, cv, rfl⟩ := hL.form
   have Hacc := Lib.hid hacc
   have hl1 : Hid (RecAt w gr tv path x C1 l1 C2 l2 fs Af cf gV (.slice Av acc.length cv) (.slice none 0 0) fp1 fn1 wr) :=
    Lib.hid ⟨X.out, Z.out, V.out, R.out, KP, FS.out, by omega⟩
   have HLk := Lib.hid hLk
   clear X Z V R KP FS hL hLk hB0 hseq hacc
   go_upto_region 22 with fail
   go_loopw [119] (fun i wr => ∃ k : Nat, k ≤ fs.length ∧ i = .int .i64 (k : Int) ∧ ∃ (fp : Value) (fn : Int) (vr : Value) (rs : List Raw), RecAt w gr tv path x C1 l1 C2 l2 fs Af cf gV (.slice Av acc.length cv) vr fp fn wr ∧ wr.ownsRow B0 120 2 vr rs.length (rawsV rs) ∧ rs.length ≤ k ∧ (∀ r ∈ rs, RawIn r) ∧ restF x path fs [] = restF x path (fs.drop k) rs ∧ KeptN (ListN (gV + 1) (.slice Av acc.length cv) acc) wr (gV + 1) B0) (fun i _ => fs.length - (intOf i).toNat)
   case atStart => exact ⟨0, by omega, rfl, _, _, _, [], hl1.out, World.ownsRow_nil _ _ _ _, Nat.le_refl _, by simp, rfl, HLk.out⟩
   case round =>
    clear hl1 HLk
    obtain ⟨k, hk1, rfl, fp1, fn1, vr, rs, ⟨X, Z, V, R, KP, hFS, hgV⟩, hO, hrl, hri, hre, hLK⟩ := hrel
    replace R := Lib.hid R
    replace X := Lib.hid X
    replace Z := Lib.hid Z
    replace V := Lib.hid V
    have FS := Lib.hid (hFS)
    clear hFS
    have LK := Lib.hid (hLK)
    clear hLK
    by_cases hlt : k < fs.length
    ·
     have hvr : Hid (∀ j, vr.ownBlock = some j → B0 ≤ j ∧ j < wr.heap.size) := Lib.hid (fun j hj => hO.lt j hj)
     have hOk := KeptN.own hO (by decide)
     have hgz := And.intro V.out.here LK.out.le
     obtain ⟨hz, hzE⟩ : ∃ hz, wr.heap.size = hz := ⟨_, rfl⟩
     rw [hzE] at hOk hvr hgz
     clear hzE hO
     have RW := Lib.hid (hOk)
     clear hOk
     obtain ⟨gf, cf', hvf⟩ := own_pos3 FS.out.now (by omega)
     injection hvf with hv1 hv2 hv3
     subst hv1; subst hv3; clear hv2
     obtain ⟨c0, c1, c2⟩ := fld_of FS.out.now hlt
     rw [restF_at hlt] at hre
     have hfl := HL.out fs[k] (List.getElem_mem hlt)
     have hlti : (k : Int) < fs.length := by omega
     have hd0 : decide ((k : Int) < 0) = false := by simp
     have hd1 : decide (fs.length ≤ k) = false := by simpa using hlt
     generalize fs[k] = f at *
     have HRe := Lib.hid hre
     have HRi := Lib.hid hri
     clear hre hri
     go_upto_region 24 with fail
     clear c0 c1 c2 hd0 hd1
     obtain ⟨wd156, hE157⟩ : ∃ ww, ww = wr.alloc (.cells #[.int .i64 f.id, .bool f.crit, .string ⟨f.data.toArray⟩] 129) := ⟨_, rfl⟩
     rw [← hE157]
     have hb155 := aB hE157
     have F := aN hE157
     clear hE157
     have hl159 := X.out.here
     have hl160 := Z.out.here
     have hl161 := V.out.here
     have hl162 := FS.out.le
     have hl163 := LK.out.le
     have hl164 := RW.out.le
     have hl165 := KP.size
     replace X := dB X hb155
     replace Z := dB Z hb155
     replace V := dB V hb155
     replace FS := nB FS hb155
     replace LK := nB LK hb155
     replace RW := nB RW hb155
     replace R := rB R hb155
     replace KP := kB KP hgr hb155
     clear hb155
     generalize wr.heap.size = g158 at *
     obtain ⟨gF, rfl⟩ : ∃ g, g = g158 := ⟨_, rfl⟩
     have HS := Lib.hid (fun W h => member_any x (.slice C1 x.syms.length l1) (.slice C2 x.mems.length l2) f.id W h)
     simp only [typA, hk] at HS
     obtain ⟨cX_0, cX_1, cX_2, cX_3, cX_4, cX_5, cX_6, cX_7, cX_8, cX_9⟩ := X.out.c10
     have cF_0 : wd156.cell? ⟨gF, 0, none⟩ = some (.int .i64 f.id) := F.out.cell 0
     go_wp2_with fail
     clear cX_0 cX_1 cX_2 cX_3 cX_4 cX_5 cX_6 cX_7 cX_8 cX_9 cF_0
     ((with_reducible refine (HS.out _ (HX.out.keep (fun _ hp => KP.low.cell hp) (Nat.le_of_lt (Nat.lt_of_lt_of_le hgr KP.size)))).mono ?_); rintro e wd166 ⟨rfl, hb167⟩)
     replace X := dB X hb167
     replace Z := dB Z hb167
     replace V := dB V hb167
     replace F := dB F hb167
     replace FS := nB FS hb167
     replace LK := nB LK hb167
     replace RW := nB RW hb167
     replace R := rB R hb167
     replace KP := kB KP hgr hb167
     clear hb167
     clear HS
     cases hmi : memIdx x f.id with
     | some i =>
      have HR1 : Hid (restF x path fs [] = restF x path (fs.drop (k + 1)) rs) := by show _ = _; rw [HRe.out, hmi]; rfl
      simp only [pairV, Option.isSome_some]
      clear hmi
      go_wp2_with fail
      go_roundw
      case rel => exact ⟨k + 1, by omega, by go_num, _, _, _, rs, ⟨X.out, Z.out, V.out, R.out, KP, FS.out, hgV⟩, RW.out.now, by omega, HRi.out, HR1.out, LK.out⟩
      case measure => simp [intOf]; omega
     | none =>
      simp only [pairV, Option.isSome_none]
      cases hcr : f.crit with
      | true =>
       have hre : restF x path fs [] = .error (path ++ [(f.id : Int)], 6) := by rw [HRe.out, hmi, hcr]; rfl
       have HR : Hid (decB rec x p path = .error (path ++ [(f.id : Int)], 6)) := by show _ = _; rw [HD.out, recR_err2 hsq.out hre]
       have cF_1 : wd166.cell? ⟨gF, 1, none⟩ = some (.bool f.crit) := F.out.cell 1
       rw [hcr] at cF_1
       clear hmi hre hcr
       go_upto_region 27 with fail
       obtain ⟨⟨pv, hrow, hown⟩, -⟩ := R.out
       obtain ⟨Ap, cp, rfl⟩ := own_form hown
       have HO := Lib.hid hown
       obtain ⟨wp, rfl⟩ : ∃ wp, wp = wd166 := ⟨_, rfl⟩
       have HKP := Lib.hid KP
       have hgp : gr < wp.heap.size := hrow.here
       have hzp : w.heap.size + 1 < wp.heap.size := Z.out.here
       replace Z := Z.out
       replace F := F.out
       clear R KP hown
       replace Z := Lib.hid Z
       replace F := Lib.hid F
       replace hrow := Lib.hid hrow
       go_upto_region 27 with fail
       obtain ⟨i0, hi, hz0, hz1, hz2⟩ := info_parts info_intC
       have chrow_1 : wp.cell? ⟨gr, 1, none⟩ = some (.slice Ap path.length cp) := hrow.out.cell 1
       have cF_0 : wp.cell? ⟨gF, 0, none⟩ = some (.int .i64 f.id) := F.out.cell 0
       refine wp_region_T (S := (fun w' => w'.cell? ⟨gr, 1, none⟩ = some (.slice Ap path.length cp) ∧ w'.cell? ⟨gF, 0, none⟩ = some (.int .i64 f.id))) (fun j => j == 9 || j == 10 || j == 11) (by kernel_rfl) ⟨chrow_1, cF_0⟩ (fun hHeld => ?_)
       clear chrow_1 cF_0
       have hb168 : Below wp.heap.size wp (wp.drew) := (Below.refl _ _).drew
       replace Z := dB Z hb168
       replace F := dB F hb168
       replace hrow := dB hrow hb168
       have hw170 := hb168
       clear hb168
       generalize wp.drew = wd169 at *
       refine tkT (i := 0) (v := ?k171) ?_
       simp only [put_laws2]
       refine tkT (i := 1) (v := ?k172) ?_
       simp only [put_laws2]
       refine tkT (i := 2) (v := ?k173) ?_
       simp only [put_laws2]
       refine tkT (i := 3) (v := ?k174) ?_
       simp only [put_laws2]
       refine tkT (i := 4) (v := ?k175) ?_
       simp only [put_laws2]
       refine tkT (i := 5) (v := ?k176) ?_
       simp only [put_laws2]
       refine tkT (i := 6) (v := ?k177) ?_
       simp only [put_laws2]
       refine rdT1 (i := 7) (fun K hK => ?_)
       go_simp
       obtain ⟨wd179, hE180⟩ : ∃ ww, ww = wd169.alloc (.cells #[.int .i64 (f.id : Int)] 3) := ⟨_, rfl⟩
       rw [← hE180]
       have hb178 := aB hE180
       have NB := aN hE180
       clear hE180
       have hl182 := Z.out.here
       have hl183 := F.out.here
       have hl184 := hrow.out.here
       have hl185 := hw170.size
       replace Z := dB Z hb178
       replace F := dB F hb178
       replace hrow := dB hrow hb178
       replace hw170 := dT hw170 hb178
       clear hb178
       generalize wd169.heap.size = g181 at *
       try clear hHeld
       refine hK.out _ _ (⟨hrow.out.cell 1, F.out.cell 0⟩) (fun hHeld => ?_)
       clear hK K
       refine rdT1 (i := 8) (fun K hK => ?_)
       have hOW := own_below HO.out hw170
       have hKa : KeepT wp gr wd179 := KeepT.of_below hw170 (Nat.le_of_lt hgp)
       have hsp := (hw170).size
       refine step_append_lies (P := Tryd.prog) _ (by rfl) _ _ _ (by rfl) (gr + 1) 3 i0 _ 1 8 Tryd.underlying22 hi hz0 hz1 hz2 rfl (by decide) (.slice Ap path.length cp) path.length _ (by rfl) hOW ⟨g181, 0, none⟩ 1 1 [.int .i64 (f.id : Int)] (by rfl) (by rfl) (World.news_of_block NB.out) (by simp [Value.oneCell']) (by omega) (by simp only [maxLen]; omega) (by omega) (by omega) _ rfl ?_
       intro g2 cap2 w3 hown3 hg3 hg3b hg3l
       have K3 := hKa.trans (KeepT.grown hg3 hOW (Nat.lt_succ_self gr) (by omega))
       clear NB
       replace Z := dG Z (fun k h1 h2 => hg3.block k h1 (fun e => h2 e.symm)) (own_not hOW Z.out (by decide))
       replace F := dG F (fun k h1 h2 => hg3.block k h1 (fun e => h2 e.symm)) (own_not hOW F.out (by decide))
       replace hrow := dG hrow (fun k h1 h2 => hg3.block k h1 (fun e => h2 e.symm)) (own_not hOW hrow.out (by decide))
       clear hg3 hg3b hg3l hKa hOW hsp
       try clear hHeld
       refine hK.out _ _ (⟨hrow.out.cell 1, F.out.cell 0⟩) (fun hHeld => ?_)
       clear hK K
       refine rdTL (i := 9) (fun K hK => ?_)
       go_simp
       try clear hHeld
       refine hK.out _ _ ?_
       clear hK K
       refine rdTL (i := 10) (fun K hK => ?_)
       go_simp
       try clear hHeld
       refine hK.out _ _ ?_
       clear hK K
       refine rdTL (i := 11) (fun K hK => ?_)
       have chrow_1 : w3.cell? ⟨gr, 1, none⟩ = some (.slice Ap path.length cp) := hrow.out.cell 1
       have fhrow_1 := hrow.out.free 1
       go_simp
       obtain ⟨w4, hE⟩ : ∃ ww, ww = w3.setCell ⟨gr, 1, none⟩ (.slice (some ⟨g2, 0, none⟩) (path.length + 1) cap2) := ⟨_, rfl⟩
       rw [← hE]
       have K4 : KeepT w gr w4 := HKP.out.trans (hE ▸ K3.trans (KeepT.setCell _ _ _ _))
       have O4 := own_rdr hown3 (Nat.lt_succ_self gr) 1 (.slice (some ⟨g2, 0, none⟩) (path.length + 1) cap2)
       rw [← hE] at O4
       have Z4 := dF Z hE (show w.heap.size + 1 ≠ gr by omega)
       have R4 : Has w4 gr 78 #[tv, .slice (some ⟨g2, 0, none⟩) (path.length + 1) cap2, fp1, .int .i64 fn1] := by simpa using dS hrow hE
       clear chrow_1 fhrow_1
       try clear hHeld
       refine hK.out _ _ ?_
       clear hK K
       refine wpAnyT_done (by kernel_rfl) ?_ _
       try clear hHeld
       have R4a : RdrAt w4 gr tv fp1 fn1 (path ++ [(f.id : Int)]) := ⟨_, R4, by simpa [V64i] using O4⟩
       clear hE K3 hown3 hrow Z R4 O4
       go_wp2_with fail
       refine (fail_post gr _ _ _ (path ++ [(f.id : Int)]) 6 _ (by simp; omega) R4a).mono ?_
       intro e w5 h5
       obtain ⟨c0, c1, c2, c3, c4, c5, c6, c7, bb, h1, rfl⟩ := h5.form
       obtain ⟨fp', fn', ⟨pv5, hR5, hO5⟩, K5, h5'⟩ := h5
       have H5 := Lib.hid h5'
       clear h5'
       have M5 := Has.made w5 45 #[.int .i64 0, .bool false, .int .i64 0, .string ⟨#[]⟩, .int .i64 0, .slice none 0 0, .slice none 0 0, .slice none 0 0]
       have h1' : (#[c0, c1, c2, c3, c4, c5, c6, c7] : Array Value).all (·.oneCell') = true := by simpa using h1
       go_upto_region 29 with (refine wpList_store_row rfl 45 _ _ rfl w5.heap.size _ rfl rfl 45 _ M5 (by kernel_rfl) rfl h1' ?_)
       obtain ⟨w6, hE6⟩ : ∃ ww, ww = (w5.alloc (.cells #[.int .i64 0, .bool false, .int .i64 0, .string ⟨#[]⟩, .int .i64 0, .slice none 0 0, .slice none 0 0, .slice none 0 0] 45)).setRow w5.heap.size #[c0, c1, c2, c3, c4, c5, c6, c7] := ⟨_, rfl⟩
       rw [← hE6]
       have hs5 := K5.size
       have hs4 := K4.size
       have B6 : Below w5.heap.size w5 w6 := hE6 ▸ below_setRow ((Below.refl w5.heap.size w5).alloc (Nat.le_refl _) _) (Nat.le_refl _) _
       have M6 := dO (Lib.hid M5) hE6
       have R6 : Has w6 gr _ _ := (B6.block gr (by omega)).trans hR5
       have O6 := own_below hO5 B6
       rw [List.length_append, List.map_append] at O6
       obtain ⟨g6, cap6, rfl, hcap, O6'⟩ := own_cut O6 (by simp)
       have r1 : w6.cell? ⟨gr, 1, none⟩ = some (.slice (some ⟨g6, 0, none⟩) (path.length + 1) cap6) := R6.cell 1
       have r2 := R6.free 1
       clear hE6 M5
       have i1 : wrap64 (((path.length + 1 : Nat) : Int) - 1) = (path.length : Int) := by unfold wrap64; omega
       have i2 : ((path.length : Int)).toNat = path.length := by omega
       have i3 : ¬ ((path.length : Int) < 0) := by omega
       have i4 : path.length ≤ cap6 := by omega
       have i5 : IntKind.i64.wrap (((path.length + 1 : Nat) : Int) - 1) = (path.length : Int) := by rw [IntKind.wrap_i64]; omega
       clear O6 hcap
       go_region
       obtain ⟨w7, hE7⟩ : ∃ ww, ww = (w6.setCell ⟨gr, 1, none⟩ (.slice (some ⟨g6, 0, none⟩) path.length cap6)).drew := ⟨_, rfl⟩
       rw [← hE7]
       have hz4 := Z4.out.here
       have Z6 : Hid (Has w6 (w.heap.size + 1) _ _) := Lib.hid ((B6.block (w.heap.size + 1) (by omega)).trans ((K5.block (w.heap.size + 1) (by omega) (by omega) (fun c f e => by rw [Z4.out] at e; injection e with e1; injection e1 with _ e2; exact absurd e2 (by decide))).trans Z4.out))
       have M7 : Has w7 w5.heap.size 45 #[c0, c1, c2, c3, c4, c5, c6, c7] := by rw [hE7]; exact (dF M6 rfl (show w5.heap.size ≠ gr by omega)).out
       have Z7 : Has w7 (w.heap.size + 1) 45 #[.int .i64 0, .bool false, .int .i64 0, .string ⟨#[]⟩, .int .i64 0, .slice none 0 0, .slice none 0 0, .slice none 0 0] := by rw [hE7]; exact (dF Z6 rfl (show w.heap.size + 1 ≠ gr by omega)).out
       have gB6 : gr < w5.heap.size := by omega
       have K6 : KeepT w gr w6 := K4.trans (K5.trans (KeepT.of_below B6 (by omega)))
       have K7 : KeepT w gr w7 := by rw [hE7]; exact (K6.trans (KeepT.setCell _ _ _ _)).drew
       have R7 : Has w7 gr 78 #[tv, .slice (some ⟨g6, 0, none⟩) path.length cap6, fp', .int .i64 fn'] := by rw [hE7]; exact (dS (Lib.hid R6) (i := 1) (v := .slice (some ⟨g6, 0, none⟩) path.length cap6) rfl).drew
       have O7 : w7.ownsRow (gr + 1) 3 1 (.slice (some ⟨g6, 0, none⟩) path.length cap6) path.length (path.map V64i) := by rw [hE7]; exact own_rdr O6' (Nat.lt_succ_self gr) 1 _
       have F7 : ∀ n ys, w5.ownsRow (gr + 1) 3 1 fp' n ys → w7.ownsRow (gr + 1) 3 1 fp' n ys := fun n ys hy => by rw [hE7]; exact own_rdr (own_below hy B6) (Nat.lt_succ_self gr) 1 _
       obtain ⟨m0, m1, m2, m3, m4, m5, m6, m7⟩ := M7.c8
       have HR8 : Hid (∀ cs', RdrAt (w7.setRow (w.heap.size + 1) cs') gr tv fp' fn' path) := Lib.hid fun cs' => (rdr_to (RdrX.of ⟨_, R7, O7⟩) Z7 (by decide) (by omega) fun k hk => setRow_other _ _ _ _ hk).at_
       have HF8 : Hid (∀ n ys cs', w5.ownsRow (gr + 1) 3 1 fp' n ys → (w7.setRow (w.heap.size + 1) cs').ownsRow (gr + 1) 3 1 fp' n ys) := Lib.hid fun n ys cs' hy => own_keep (F7 n ys hy) fun k hb => setRow_other _ _ _ _ (fun e => own_not (F7 n ys hy) Z7 (by decide) (e ▸ hb))
       have HZ8 := Lib.hid Z7
       have HK7 := Lib.hid K7
       clear hE7 R7 O7 F7 r1 r2 i1 i2 i3 i4 i5 M6 Z6 R6 B6 Z4 hR5 hO5 O6' K6 Z7 M7 K7 K4 K5
       go_upto_region 30 with fail
       go_wp2_with (refine wpList_store_row rfl 45 _ _ rfl (w.heap.size + 1) _ rfl rfl 45 _ HZ8.out (by kernel_rfl) rfl h1' ?_)
       obtain ⟨z0, z1, z2, z3, z4, z5, z6, z7⟩ := (row_has HZ8.out #[c0, c1, c2, c3, c4, c5, c6, c7]).c8
       refine bodyPost_ret (v := .tuple #[.agg #[c0, c1, c2, c3, c4, c5, c6, c7], .bool false]) (by simp [results, Tryd.results46, go_sem, z0, z1, z2, z3, z4, z5, z6, z7]) rfl ?_
       rw [HR.out]
       obtain ⟨h51, h52, _⟩ := H5.out
       exact ⟨fp', fn', HR8.out _, kRw HK7.out hgr rfl (by omega), h51, HF8.out _ _ _ h52, _, _, _, _, _, _, _, _, h1, rfl⟩
      | false =>
       have HR1 : Hid (restF x path fs [] = restF x path (fs.drop (k + 1)) (rs ++ [((f.id : Int), f.data)])) := by show _ = _; rw [HRe.out, hmi, hcr]; rfl
       have cF_1 : wd166.cell? ⟨gF, 1, none⟩ = some (.bool f.crit) := F.out.cell 1
       rw [hcr] at cF_1
       clear hmi hcr
       go_upto_region 31 with fail
       have hO := RW.out.now
       have hsR := RW.out.le
       have cV_7 : wd166.cell? ⟨gV, 7, none⟩ = some (vr) := V.out.cell 7
       have cF_0 : wd166.cell? ⟨gF, 0, none⟩ = some (.int .i64 f.id) := F.out.cell 0
       have cF_2 : wd166.cell? ⟨gF, 2, none⟩ = some (.string ⟨f.data.toArray⟩) := F.out.cell 2
       go_upto_region 32 with (at_builtin; refine wpList_append_lie rfl _ _ _ rfl B0 120 _ 2 24 Tryd.underlying43 info_raw rfl (by decide) vr rs.length (rawsV rs) rfl hO [_, _] _ 1 _ rfl rfl rfl (by simp [Value.oneCell']) (by omega) (by omega) (by omega) ?_; intro g2 cap2 w3 hown3 hg3 hg3b hb3; have V3 := dG V (fun k h1 h2 => (hg3.block k (by simp; omega) (fun e => h2 e.symm)).trans (Below.heap_alloc _ _ k h1)) (fun hh => by have := (hvr.out _ hh).1; omega); have v36 : w3.cell? ⟨gV, 7, none⟩ = some vr := V3.out.cell 7; have f36 := V3.out.free 7)
       have hg4 : ∀ k, k < wd166.heap.size → vr.ownBlock ≠ some k → w3.heap[k]? = wd166.heap[k]? := fun k h1 h2 => (hg3.block k (by simp; omega) (fun e => h2 e.symm)).trans (Below.heap_alloc _ _ k h1)
       have hvn := fun j hj => own_type hO (by decide) (k := j) hj
       clear hg3 hg3b v36 f36 V3
       clear RW
       clear cF_1 cV_7 cF_0 cF_2
       replace X := dG X hg4 (fun hh => by have := hvr.out _ hh; omega)
       replace Z := dG Z hg4 (fun hh => by have := hvr.out _ hh; omega)
       replace V := dG V hg4 (fun hh => by have := hvr.out _ hh; omega)
       replace F := dG F hg4 (fun hh => by have := hvr.out _ hh; omega)
       replace FS := nG FS hg4 (fun k hh => by have := hvr.out k hh; omega) hb3.size
       replace LK := nG LK hg4 (fun k hh => by have := hvr.out k hh; omega) hb3.size
       replace R := rG R hg4 (fun j hj => ⟨by have := (hvr.out j hj).1; omega, hvn j hj⟩)
       replace KP := KP.above hb3 (by omega) (by omega)
       have hO3 : w3.ownsRow B0 120 2 (.slice (some ⟨g2, 0, none⟩) (rs.length + 1) cap2) (rs ++ [((f.id : Int), f.data)]).length (rawsV (rs ++ [((f.id : Int), f.data)])) := by
        have e : rawsV (rs ++ [((f.id : Int), f.data)]) = rawsV rs ++ [.int .i64 (f.id : Int), .string ⟨f.data.toArray⟩] := by simp [rawsV, rawV]
        rw [e, List.length_append]; exact hown3
       have RX := Lib.hid (KeptN.own hO3 (by decide))
       have hri : ∀ r ∈ rs ++ [((f.id : Int), f.data)], RawIn r := fun r hr => by
        rcases List.mem_append.1 hr with h | h
        ·
         exact HRi.out r h
        simp at h; subst h; exact ⟨by show I64 (f.id : Int); unfold I64; omega, by show f.data.length ≤ _; omega⟩
       have Hri := Lib.hid hri
       clear hO3 hown3 hO hg4 hvn hri
       obtain ⟨wd186, hE187⟩ : ∃ ww, ww = w3.setCell ⟨gV, 7, none⟩ ((.slice (some ⟨g2, 0, none⟩) (rs.length + 1) cap2)) := ⟨_, rfl⟩
       rw [← hE187]
       replace X := dF X hE187 (by omega)
       replace Z := dF Z hE187 (by omega)
       replace F := dF F hE187 (by omega)
       replace R := rF R V hE187 (by decide) (by omega)
       replace KP := kS KP hgr hE187 (by omega)
       replace V : Hid (Has wd186 (gV) 45 #[.int .i64 5, .bool false, .int .i64 0, .string ⟨#[]⟩, .int .i64 0, .slice none 0 0, .slice Av acc.length cv, (.slice (some ⟨g2, 0, none⟩) (rs.length + 1) cap2)]) := Lib.hid (by simpa using dS V hE187)
       replace FS := nF FS hE187 (by omega)
       replace LK := nF LK hE187 (by omega)
       replace RX := nF RX hE187 (by omega)
       clear hE187
       go_wp2_with fail
       go_roundw
       case rel => exact ⟨k + 1, by omega, by go_num, _, _, _, rs ++ [((f.id : Int), f.data)], ⟨X.out, Z.out, V.out, R.out, KP, FS.out, hgV⟩, RX.out.now, by rw [List.length_append]; simp; omega, Hri.out, HR1.out, LK.out⟩
       case measure => simp [intOf]; omega
    obtain rfl : k = fs.length := by omega
    have hre2 : restF x path fs [] = .ok rs := by rw [hre, List.drop_length]; rfl
    have HR : Hid (decB rec x p path = .ok (.mk 5 false 0 [] 0 [] acc rs)) := by show _ = _; rw [HD.out, recR_ok hsq.out hre2]
    have RW := Lib.hid (KeptN.own hO (by decide))
    have Hri := Lib.hid hri
    obtain ⟨Ar, cr, rfl⟩ := own_form hO
    clear hre hre2 hri hO
    obtain ⟨cV_0, cV_1, cV_2, cV_3, cV_4, cV_5, cV_6, cV_7⟩ := V.out.c8
    go_upto_region 33 with fail
    go_wp2_with (refine wpList_store_row rfl 45 _ _ rfl (w.heap.size + 1) _ rfl rfl 45 _ Z.out (by kernel_rfl) rfl (by first | assumption | simp [Value.oneCell']) ?_)
    clear cV_0 cV_1 cV_2 cV_3 cV_4 cV_5 cV_6 cV_7
    obtain ⟨wd188, hE189⟩ : ∃ ww, ww = wr.setRow (w.heap.size + 1) #[.int .i64 5, .bool false, .int .i64 0, .string ⟨#[]⟩, .int .i64 0, .slice none 0 0, .slice Av acc.length cv, .slice Ar rs.length cr] := ⟨_, rfl⟩
    rw [← hE189]
    replace X := dR X hE189 (by omega)
    replace V := dR V hE189 (by omega)
    replace R := rR R Z hE189 (by decide) (by omega)
    replace KP := kRw KP hgr hE189 (by omega)
    replace Z := dO Z hE189
    replace FS := nR FS hE189 (by omega)
    replace LK := nR LK hE189 (by omega)
    replace RW := nR RW hE189 (by omega)
    clear hE189
    obtain ⟨cZ_0, cZ_1, cZ_2, cZ_3, cZ_4, cZ_5, cZ_6, cZ_7⟩ := Z.out.c8
    exact bodyPost_ret (v := .tuple #[.agg #[.int .i64 5, .bool false, .int .i64 0, .string ⟨#[]⟩, .int .i64 0, .slice none 0 0, .slice Av acc.length cv, .slice Ar rs.length cr], .bool true]) (by simp [results, Tryd.results46, go_sem, cZ_0, cZ_1, cZ_2, cZ_3, cZ_4, cZ_5, cZ_6, cZ_7]) rfl (PayPost.good (v := .mk 5 false 0 [] 0 [] acc rs) HR.out R KP (valP_rec (LK.out.now.row (by omega)) RW.out.now (by omega) Hri.out (by have := Hacc.out; omega) (by omega)))
end Go.Proofs.YtccmmibkihbobaaDoor

/- What next, odd, unknown, raw and text of sheaveref08's maker leave. No condition. -/
import Derived.Test.YtgeapglanckjpaaOwnV
import Derived.Test.YtgeapglanckjpaaGG
set_option maxHeartbeats 800000
namespace Go.Proofs.Ytgeapglanckjpaa
open Go.ChangeShapes Go.WideShapes Go.ChangeAt Go.RowKit
structure MkAt (w : World) (B gm : Nat) (vt : Value) (odd : Bool) (l : List UInt8) : Prop where
 blk : ∃ A c, Has w gm 85 #[vt, .slice A l.length c, .bool odd] ∧ Rd w B 1 (.slice A l.length c) l.length (l.map B8)
 le : B ≤ gm
 len : l.length ≤ 60
theorem MkAt.keep {w w' : World} {B gm : Nat} {vt : Value} {odd : Bool} {l : List UInt8} (h : MkAt w B gm vt odd l) (hk : ∀ k, k ≤ gm → w'.heap[k]? = w.heap[k]?) : MkAt w' B gm vt odd l := by
 obtain ⟨⟨A, c, h1, h2⟩, h3, h4⟩ := h
 exact ⟨⟨A, c, (hk gm (Nat.le_refl _)).trans h1, h2.keep fun p hp => World.cell?_of_block (hk p.block (by omega))⟩, h3, h4⟩
theorem MkAt.here {w : World} {B gm : Nat} {vt : Value} {odd : Bool} {l : List UInt8} (h : MkAt w B gm vt odd l) : gm < w.heap.size := by
 obtain ⟨⟨A, c, h1, _⟩, _⟩ := h
 exact h1.here
structure Took (w : World) (B gm : Nat) (vt : Value) (odd : Bool) (l l' : List UInt8) (w' : World) : Prop where
 at_ : MkAt w' B gm vt odd l'
 gr : w.grownBy w' (some gm)
 len : l'.length ≤ l.length
theorem gr_refl (w : World) (r : Option Nat) : w.grownBy w r := ⟨rfl, rfl, rfl, Nat.le_refl _, fun _ _ _ => rfl⟩
theorem gr_trans {a b c : World} {r : Option Nat} (h : a.grownBy b r) (k : b.grownBy c r) : a.grownBy c r :=
 ⟨k.os.trans h.os, k.tape.trans h.tape, k.output.trans h.output, Nat.le_trans h.size k.size, fun i hi hr => (k.block i (Nat.lt_of_lt_of_le hi h.size) hr).trans (h.block i hi hr)⟩
theorem gr_below {a b : World} {r : Option Nat} (h : Below a.heap.size a b) : a.grownBy b r := ⟨h.os, h.tape, h.output, h.size, fun k hk _ => h.block k hk⟩
theorem below_gr {a b : World} {g : Nat} (h : a.grownBy b (some g)) (hg : g ≤ a.heap.size) : Below g a b := ⟨h.os, h.tape, h.output, h.size, fun k hk => h.block k (by omega) (fun e => by injection e; omega)⟩
theorem Took.refl {w : World} {B gm : Nat} {vt : Value} {odd : Bool} {l : List UInt8} (h : MkAt w B gm vt odd l) : Took w B gm vt odd l l w := ⟨h, gr_refl _ _, Nat.le_refl _⟩
theorem Took.trans {w w1 w2 : World} {B gm : Nat} {vt : Value} {odd : Bool} {l l1 l2 : List UInt8} (h : Took w B gm vt odd l l1 w1) (k : Took w1 B gm vt odd l1 l2 w2) : Took w B gm vt odd l l2 w2 :=
 ⟨k.at_, gr_trans h.gr k.gr, Nat.le_trans k.len h.len⟩
theorem Took.below {w w1 w2 : World} {B gm : Nat} {vt : Value} {odd : Bool} {l l1 : List UInt8} (h : Took w B gm vt odd l l1 w1) (k : Below w1.heap.size w1 w2) : Took w B gm vt odd l l1 w2 :=
 ⟨h.at_.keep fun i hi => k.block i (Nat.lt_of_le_of_lt hi h.at_.here), gr_trans h.gr (gr_below k), h.len⟩
theorem gr_set (w : World) (g i : Nat) (u : Value) : w.grownBy (w.setCell ⟨g, i, none⟩ u) (some g) :=
 ⟨rfl, rfl, rfl, by simp [World.setCell], fun k _ hne => Below.heap_setCell w ⟨g, i, none⟩ u k (fun e => hne (by rw [e]))⟩
theorem gr_setc (w : World) (g i : Nat) (u : Value) (B : Nat) (hB : B ≤ g) : ∀ p : Addr, p.block < B → (w.setCell ⟨g, i, none⟩ u).cell? p = w.cell? p := fun p hp => cell_far w g i u p (by omega)
theorem Took.belowL {w w1 w2 : World} {B gm L : Nat} {vt : Value} {odd : Bool} {l l1 : List UInt8} (h : Took w B gm vt odd l l1 w1) (k : Below L w1 w2) (hL : w.heap.size ≤ L) (hg : gm < w.heap.size := by assumption) : Took w B gm vt odd l l1 w2 :=
 ⟨h.at_.keep fun i hi => k.block i (by omega), ⟨k.os.trans h.gr.os, k.tape.trans h.gr.tape, k.output.trans h.gr.output, Nat.le_trans h.gr.size k.size, fun i hi hr => (k.block i (by omega)).trans (h.gr.block i hi hr)⟩, h.len⟩
theorem below_rowL (g : Nat) (w : World) (cs : Array Value) : Below g w (w.setRow g cs) := below_setRow (Below.refl g w) (Nat.le_refl _) cs
theorem Has.gr {w w' : World} {g k : Nat} {T : TypeId} {cs : Array Value} (h : Has w k T cs) (hg : w.grownBy w' (some g)) (hne : k ≠ g) : Has w' k T cs := (hg.block k h.here (fun e => hne (by injection e))).trans h
theorem Kept.gr {P : World → Prop} {w w' : World} {L B g : Nat} (h : Kept P w L B) (hg : w.grownBy w' (some g)) (hd : B ≤ g ∨ g < L) : Kept P w' L B :=
 h.move (fun k hl hk => hg.block k (Nat.lt_of_lt_of_le hk h.le) (fun e => by injection e; omega)) hg.size
def NextPost (w : World) (B gm : Nat) (vt : Value) (odd : Bool) (l : List UInt8) (n : Nat) (e : Ending) (w' : World) : Prop :=
 ∃ (k : Nat) (l' : List UInt8), k < n ∧ (l = [] → k = 0) ∧ (l ≠ [] → l'.length < l.length) ∧ e = .returned (.int .i64 k) ∧ Took w B gm vt odd l l' w'
set_option maxRecDepth 100000 in
theorem next_any (B gm : Nat) (vt : Value) (odd : Bool) (l : List UInt8) (n : Nat) (ni : Int) (w : World) (hni : ni = n) (h0 : 0 < n) (hn : n ≤ 256) (hM : MkAt w B gm vt odd l) :
  Calls Try.prog 63 #[.pointer (some ⟨gm, 0, none⟩), .int .i64 ni] w (NextPost w B gm vt odd l n) := by
 subst hni
 have HM := Lib.hid hM
 obtain ⟨⟨A, c, M, hr⟩, hB, hl60⟩ := hM
 cases l with
 | nil =>
  clear hr hl60
  replace M := Lib.hid M
  have cM_1 : w.cell? ⟨gm, 1, none⟩ = some (.slice A 0 c) := M.out.cell 1
  go_enter Try.func63, Try.ntmps63
  go_wp2_with fail
  go_ret
  exact ⟨0, [], h0, fun _ => rfl, fun h => absurd rfl h, rfl, Took.refl HM.out⟩
 | cons b r =>
  obtain ⟨bb, o, rfl, hbb, hcell⟩ := hr.at_ (by simp)
  obtain ⟨_, A', c', hv, hcap, _⟩ := hr
  have hc : r.length + 1 ≤ c := by injection hv with h1 h2 h3; subst h3; simpa using hcap
  have hc60 : r.length ≤ 60 := by simp at hl60; omega
  clear hv hcap hl60
  have x0 : w.cell? ⟨bb, o, none⟩ = some (.int .u8 (b.toNat : Int)) := hcell 0 _ rfl
  have hbl : b.toNat < 256 := b.toNat_lt
  have hnz : ¬ (n : Int) = 0 := by omega
  have hnp : (0 : Int) < (n : Int) := by omega
  have hrm : (b.toNat : Int) % (n : Int) = ((b.toNat % n : Nat) : Int) := by simp
  have hlt : b.toNat % n < n := Nat.mod_lt _ h0
  generalize b.toNat % n = k at *
  generalize b.toNat = bn at *
  have HR : Hid (∀ (w' : World) (A2 : Option Addr) (c2 : Nat), (∀ p : Addr, p.block < B → w'.cell? p = w.cell? p) → (r.length ≤ c2) → (r = [] ∨ A2 = some ⟨bb, o + 1, none⟩) → Rd w' B 1 (.slice A2 r.length c2) r.length (r.map B8)) := fun w' A2 c2 h1 h2 h3 =>
   ⟨by simp, A2, c2, rfl, h2, by
    rcases h3 with h3 | h3
    ·
     exact .inl (by simp [h3])
    refine .inr ⟨bb, o + 1, h3, hbb, fun j u hu => (h1 _ hbb).trans ?_⟩
    have := hcell (j + 1) u (by simpa using hu)
    rwa [Nat.add_comm j 1, ← Nat.add_assoc] at this⟩
  clear hcell HM
  simp only [List.length_cons] at M
  replace M := Lib.hid M
  have cM_1 : w.cell? ⟨gm, 1, none⟩ = some (.slice (some ⟨bb, o, none⟩) (r.length + 1) c) := M.out.cell 1
  have fM_1 := M.out.free 1
  by_cases hc1 : c = 1
  ·
   subst hc1
   have hr0 : r.length = 0 := by omega
   go_enter Try.func63, Try.ntmps63
   go_wp2_with fail
   go_ret
   exact ⟨k, r, hlt, (fun h => by cases h), (fun _ => by simp), ret_int hrm, ⟨⟨some ⟨bb, o, none⟩, 0, by have := M.out.set 1 (.slice (some ⟨bb, o, none⟩) 0 0); simpa [hr0] using this, HR.out _ _ _ (gr_setc w gm 1 _ B hB) (by omega) (.inl (List.eq_nil_of_length_eq_zero hr0))⟩, hB, hc60⟩, gr_set w gm 1 _, by simp⟩
  go_enter Try.func63, Try.ntmps63
  go_wp2_with fail
  go_ret
  exact ⟨k, r, hlt, (fun h => by cases h), (fun _ => by simp), ret_int hrm, ⟨⟨some ⟨bb, o + 1, none⟩, c - 1, by have := M.out.set 1 (.slice (some ⟨bb, o + 1, none⟩) r.length (c - 1)); simpa using this, HR.out _ _ _ (gr_setc w gm 1 _ B hB) (by omega) (.inr rfl)⟩, hB, hc60⟩, gr_set w gm 1 _, by simp⟩
def OddPost (w : World) (B gm : Nat) (vt : Value) (odd : Bool) (l : List UInt8) (e : Ending) (w' : World) : Prop :=
 ∃ (b : Bool) (l' : List UInt8), (odd = false → b = false) ∧ e = .returned (.bool b) ∧ Took w B gm vt odd l l' w'
set_option maxRecDepth 100000 in
theorem odd_any (B gm : Nat) (vt : Value) (odd : Bool) (l : List UInt8) (w : World) (hM : MkAt w B gm vt odd l) :
  Calls Try.prog 65 #[.pointer (some ⟨gm, 0, none⟩)] w (OddPost w B gm vt odd l) := by
 have HM := Lib.hid hM
 obtain ⟨⟨A, c, M, _⟩, hB, _⟩ := hM
 cases odd with
 | false =>
  replace M := Lib.hid M
  have cM_2 : w.cell? ⟨gm, 2, none⟩ = some (.bool false) := M.out.cell 2
  go_enter Try.func65, Try.ntmps65
  go_wp2_with fail
  go_ret
  exact ⟨false, l, fun _ => rfl, rfl, Took.refl HM.out⟩
 | true =>
  replace M := Lib.hid M
  have cM_2 : w.cell? ⟨gm, 2, none⟩ = some (.bool true) := M.out.cell 2
  go_enter Try.func65, Try.ntmps65
  go_wp2_with fail
  clear cM_2
  ((with_reducible refine (next_any B gm vt true l 4 4 _ rfl (by omega) (by omega) HM.out).mono ?_); rintro e wd1 ⟨k, l', hk, hk0, hkl, rfl, ht⟩)
  clear hk0 hkl
  go_wp2_with fail
  all_goals
   go_ret
   exact ⟨_, l', (fun h => by cases h), rfl, ht⟩
theorem pair_ex (o : Option Nat) : ∃ p : Int, pairV o = .tuple #[.int .i64 p, .bool o.isSome] := ⟨_, rfl⟩
def usedB (t : Typ) (n : Int) : Bool := (memIdx t n).isSome || (symIdx t n).isSome
set_option maxRecDepth 100000 in
theorem used_any (t : Typ) (vs vm : Value) (n : Int) (w : World) (ht : TypAt w w.heap.size t vs vm) :
  Calls Try.prog 80 #[typA t vs vm, .int .i64 n] w fun e w' => e = .returned (.bool (usedB t n)) ∧ Below w.heap.size w w' := by
 obtain ⟨C1, m1, C2, m2, rfl, rfl, -, -⟩ := ht.forms
 have HT := Lib.hid ht
 clear ht
 go_enter Try.func80, Try.ntmps80
 go_upto_region 1 with fail
 obtain ⟨wd4, hE5⟩ : ∃ ww, ww = w.alloc (.cells #[.int .i64 t.kind, .string ⟨t.name.toArray⟩, .int .i64 t.low, .int .i64 t.high, .int .i64 t.max, .slice C1 t.syms.length m1, .slice C2 t.mems.length m2, .int .i64 t.key, .int .i64 t.elem, .bool t.opn] 64) := ⟨_, rfl⟩
 rw [← hE5]
 have hb3 := aB hE5
 have T := aN hE5
 clear hE5
 have hw6 := hb3
 clear hb3
 obtain ⟨cT_0, cT_1, cT_2, cT_3, cT_4, cT_5, cT_6, cT_7, cT_8, cT_9⟩ := T.out.c10
 go_wp2_with fail
 obtain ⟨p1, hp1⟩ := pair_ex (memIdx t n)
 obtain ⟨p2, hp2⟩ := pair_ex (symIdx t n)
 have h1 := fun W h => rmember_any t (.slice C1 t.syms.length m1) (.slice C2 t.mems.length m2) n W h
 have h2 := fun W h => rsymbol_any t (.slice C1 t.syms.length m1) (.slice C2 t.mems.length m2) n W h
 simp only [hp1] at h1
 simp only [hp2] at h2
 have H1 := Lib.hid h1
 have H2 := Lib.hid h2
 have HU : Hid (usedB t n = ((memIdx t n).isSome || (symIdx t n).isSome)) := rfl
 clear h1 h2 hp1 hp2
 generalize (memIdx t n).isSome = a1 at *
 generalize (symIdx t n).isSome = b1 at *
 clear cT_0 cT_1 cT_2 cT_3 cT_4 cT_5 cT_6 cT_7 cT_8 cT_9
 ((with_reducible refine (H1.out _ (HT.out.on hw6)).mono ?_); rintro e wd7 ⟨rfl, hb8⟩)
 replace T := dB T hb8
 replace hw6 := dT hw6 hb8
 clear hb8
 obtain ⟨cT_0, cT_1, cT_2, cT_3, cT_4, cT_5, cT_6, cT_7, cT_8, cT_9⟩ := T.out.c10
 go_wp2_with fail
 clear cT_0 cT_1 cT_2 cT_3 cT_4 cT_5 cT_6 cT_7 cT_8 cT_9
 ((with_reducible refine (H2.out _ (HT.out.on hw6)).mono ?_); rintro e wd9 ⟨rfl, hb10⟩)
 replace T := dB T hb10
 replace hw6 := dT hw6 hb10
 clear hb10
 cases a1 <;> cases b1
 all_goals
  go_wp2_with fail
  go_ret
  exact ⟨ret_bool HU.out.symm, hw6⟩
def UnkPost (w : World) (B gm : Nat) (vt : Value) (odd : Bool) (l : List UInt8) (t : Typ) (e : Ending) (w' : World) : Prop :=
 ∃ (n : Nat) (l' : List UInt8), 1 ≤ n ∧ n ≤ 15 ∧ usedB t n = false ∧ e = .returned (.int .i64 n) ∧ Took w B gm vt odd l l' w'
set_option maxRecDepth 100000 in
theorem unknown_any (B gm : Nat) (vt : Value) (odd : Bool) (l : List UInt8) (t : Typ) (vs vm : Value) (w : World) (hu : ∀ n : Nat, 15 ≤ n → usedB t n = false) (hM : MkAt w B gm vt odd l) (ht : TypAt w gm t vs vm) :
  Calls Try.prog 66 #[.pointer (some ⟨gm, 0, none⟩), typA t vs vm] w (UnkPost w B gm vt odd l t) := by
 have hgw := hM.here
 obtain ⟨C1, m1, C2, m2, rfl, rfl, -, -⟩ := ht.forms
 have HT : Hid (∀ W l1, Took w B gm vt odd l l1 W → TypAt W W.heap.size t (.slice C1 t.syms.length m1) (.slice C2 t.mems.length m2)) := fun W l1 h => ht.keep (fun p hp => World.cell?_of_block (h.gr.block p.block (by omega) (fun e => by injection e; omega))) (by have := h.at_.here; omega)
 have HU := Lib.hid hu
 clear ht hu
 have K := Lib.hid (Took.refl hM)
 clear hM
 go_enter Try.func66, Try.ntmps66
 go_upto_region 1 with fail
 obtain ⟨wd12, hE13⟩ : ∃ ww, ww = w.alloc (.cells #[.int .i64 t.kind, .string ⟨t.name.toArray⟩, .int .i64 t.low, .int .i64 t.high, .int .i64 t.max, .slice C1 t.syms.length m1, .slice C2 t.mems.length m2, .int .i64 t.key, .int .i64 t.elem, .bool t.opn] 64) := ⟨_, rfl⟩
 rw [← hE13]
 have hb11 := aB hE13
 have T := aN hE13
 clear hE13
 replace K := Lib.hid (K.out.below hb11)
 clear hb11
 go_wp2_with fail
 ((with_reducible refine (next_any B gm vt odd l 14 14 _ rfl (by omega) (by omega) K.out.at_).mono ?_); rintro e wd14 ⟨k, l', hk, hk0, hkl, rfl, hT⟩)
 clear hk0 hkl
 replace T := Lib.hid (T.out.gr hT.gr (show w.heap.size ≠ gm by omega))
 replace K := Lib.hid (K.out.trans hT)
 clear hT
 obtain ⟨n0, hn0⟩ : ∃ n : Nat, n = k + 1 := ⟨_, rfl⟩
 have hsum : (1 : Int) + (k : Int) = (n0 : Int) := by omega
 have hn1 : 1 ≤ n0 ∧ n0 ≤ 14 := by omega
 clear hn0 hk
 have HK0 := Lib.hid K.out
 have HT0 := Lib.hid T.out
 have hgw2 := hgw
 clear K T
 go_upto_region 2 with fail
 go_loopw [5] (fun i wr => ∃ n : Nat, 1 ≤ n ∧ n ≤ 15 ∧ i = .int .i64 n ∧ Has wr w.heap.size 64 #[.int .i64 t.kind, .string ⟨t.name.toArray⟩, .int .i64 t.low, .int .i64 t.high, .int .i64 t.max, .slice C1 t.syms.length m1, .slice C2 t.mems.length m2, .int .i64 t.key, .int .i64 t.elem, .bool t.opn] ∧ Took w B gm vt odd l l' wr) (fun i _ => 15 - (intOf i).toNat)
 case atStart => exact ⟨n0, hn1.1, by omega, by simp, HT0.out, HK0.out⟩
 case round =>
  clear HK0 HT0
  obtain ⟨n, hn1, hn2, rfl, T, hK⟩ := hrel
  replace T := Lib.hid T
  have K := Lib.hid (hK)
  clear hK
  obtain ⟨cT_0, cT_1, cT_2, cT_3, cT_4, cT_5, cT_6, cT_7, cT_8, cT_9⟩ := T.out.c10
  cases hub : usedB t n with
  | true =>
   have hn3 : n < 15 := by
    rcases Nat.lt_or_ge n 15 with h | h
    ·
     exact h
    rw [HU.out n h] at hub; cases hub
   have HX := Lib.hid (used_any t (.slice C1 t.syms.length m1) (.slice C2 t.mems.length m2) n wr (HT.out _ _ K.out))
   rw [hub] at HX
   clear hub
   go_wp2_with fail
   clear cT_0 cT_1 cT_2 cT_3 cT_4 cT_5 cT_6 cT_7 cT_8 cT_9
   ((with_reducible refine (HX.out).mono ?_); rintro e wd16 ⟨rfl, hb17⟩)
   replace T := dB T hb17
   replace K := Lib.hid (K.out.below hb17)
   clear hb17
   go_wp2_with fail
   go_roundw
   case rel => exact ⟨n + 1, by omega, by omega, by go_num, T.out, K.out⟩
   case measure => simp [intOf]; omega
  | false =>
   have HX := Lib.hid (used_any t (.slice C1 t.syms.length m1) (.slice C2 t.mems.length m2) n wr (HT.out _ _ K.out))
   rw [hub] at HX
   go_wp2_with fail
   clear cT_0 cT_1 cT_2 cT_3 cT_4 cT_5 cT_6 cT_7 cT_8 cT_9
   ((with_reducible refine (HX.out).mono ?_); rintro e wd18 ⟨rfl, hb19⟩)
   replace T := dB T hb19
   replace K := Lib.hid (K.out.below hb19)
   clear hb19
   go_wp2_with fail
   go_ret
   exact ⟨n, l', hn1, hn2, hub, rfl, K.out⟩
def RawPost (w : World) (B gm : Nat) (vt : Value) (odd : Bool) (l : List UInt8) (n : Int) (e : Ending) (w' : World) : Prop :=
 ∃ (s l' : List UInt8), s.length ≤ 3 ∧ e = .returned (rawA (n, s)) ∧ Took w B gm vt odd l l' w'
set_option maxRecDepth 100000 in
theorem raw_any (B gm : Nat) (vt : Value) (odd : Bool) (l : List UInt8) (n : Int) (w : World) (hM : MkAt w B gm vt odd l) :
  Calls Try.prog 67 #[.pointer (some ⟨gm, 0, none⟩), .int .i64 n] w (RawPost w B gm vt odd l n) := by
 have hgw := hM.here
 have K := Lib.hid (Took.refl hM)
 clear hM
 go_enter Try.func67, Try.ntmps67
 go_upto_region 1 with fail
 obtain ⟨wd21, hE22⟩ : ∃ ww, ww = w.alloc (.cells #[.int .i64 0, .string ⟨#[]⟩] 56) := ⟨_, rfl⟩
 rw [← hE22]
 have hb20 := aB hE22
 have R := aN hE22
 clear hE22
 replace K := Lib.hid (K.out.below hb20)
 clear hb20
 go_wp2_with fail
 obtain ⟨wd24, hE25⟩ : ∃ ww, ww = wd21.alloc (.cells #[.string ⟨#[]⟩, .string ⟨#[1]⟩, .string ⟨#[97]⟩, .string ⟨#[3, 1, 2]⟩] 9) := ⟨_, rfl⟩
 rw [← hE25]
 have hb23 := aB hE25
 have S := aN hE25
 clear hE25
 have hl27 := R.out.here
 have hl28 := K.out.gr.size
 replace R := dB R hb23
 replace K := Lib.hid (K.out.below hb23)
 clear hb23
 generalize wd21.heap.size = g26 at *
 ((with_reducible refine (next_any B gm vt odd l 4 4 _ rfl (by omega) (by omega) K.out.at_).mono ?_); rintro e wd29 ⟨k, l', hk, hk0, hkl, rfl, hT⟩)
 clear hk0 hkl
 replace R := Lib.hid (R.out.gr hT.gr (show w.heap.size ≠ gm by omega))
 replace S := Lib.hid (S.out.gr hT.gr (show g26 ≠ gm by omega))
 replace K := Lib.hid (K.out.trans hT)
 clear hT
 have cS_0 : wd29.cell? ⟨g26, 0, none⟩ = some (.string ⟨#[]⟩) := S.out.cell 0
 have cS_1 : wd29.cell? ⟨g26, 1, none⟩ = some (.string ⟨#[1]⟩) := S.out.cell 1
 have cS_2 : wd29.cell? ⟨g26, 2, none⟩ = some (.string ⟨#[97]⟩) := S.out.cell 2
 have cS_3 : wd29.cell? ⟨g26, 3, none⟩ = some (.string ⟨#[3, 1, 2]⟩) := S.out.cell 3
 have hk4 : k = 0 ∨ k = 1 ∨ k = 2 ∨ k = 3 := by omega
 clear hk
 rcases hk4 with rfl | rfl | rfl | rfl
 ·
  skip
  go_wp2_with (refine wpList_store_row rfl 56 _ _ rfl (w.heap.size) _ rfl rfl 56 _ R.out (by kernel_rfl) rfl (by simp [Value.oneCell']) ?_)
  clear cS_0 cS_1 cS_2 cS_3
  obtain ⟨wd31, hE32⟩ : ∃ ww, ww = wd29.setRow (w.heap.size) #[.int .i64 n, .string ⟨#[]⟩] := ⟨_, rfl⟩
  rw [← hE32]
  replace S := dR S hE32 (by omega)
  replace R := dO R hE32
  replace K := Lib.hid (K.out.belowL (hE32 ▸ below_rowL (w.heap.size) wd29 #[.int .i64 n, .string ⟨#[]⟩]) (show w.heap.size ≤ w.heap.size by omega))
  clear hE32
  have cR_0 : wd31.cell? ⟨w.heap.size, 0, none⟩ = some (.int .i64 n) := R.out.cell 0
  have cR_1 : wd31.cell? ⟨w.heap.size, 1, none⟩ = some (.string ⟨#[]⟩) := R.out.cell 1
  exact bodyPost_ret (v := .agg #[.int .i64 n, .string ⟨#[]⟩]) (by simp [results, Try.results67, go_sem, cR_0, cR_1]) rfl (⟨#[].toList, l', by decide, rfl, K.out⟩)
 ·
  skip
  go_wp2_with (refine wpList_store_row rfl 56 _ _ rfl (w.heap.size) _ rfl rfl 56 _ R.out (by kernel_rfl) rfl (by simp [Value.oneCell']) ?_)
  clear cS_0 cS_1 cS_2 cS_3
  obtain ⟨wd33, hE34⟩ : ∃ ww, ww = wd29.setRow (w.heap.size) #[.int .i64 n, .string ⟨#[1]⟩] := ⟨_, rfl⟩
  rw [← hE34]
  replace S := dR S hE34 (by omega)
  replace R := dO R hE34
  replace K := Lib.hid (K.out.belowL (hE34 ▸ below_rowL (w.heap.size) wd29 #[.int .i64 n, .string ⟨#[1]⟩]) (show w.heap.size ≤ w.heap.size by omega))
  clear hE34
  have cR_0 : wd33.cell? ⟨w.heap.size, 0, none⟩ = some (.int .i64 n) := R.out.cell 0
  have cR_1 : wd33.cell? ⟨w.heap.size, 1, none⟩ = some (.string ⟨#[1]⟩) := R.out.cell 1
  exact bodyPost_ret (v := .agg #[.int .i64 n, .string ⟨#[1]⟩]) (by simp [results, Try.results67, go_sem, cR_0, cR_1]) rfl (⟨#[1].toList, l', by decide, rfl, K.out⟩)
 ·
  skip
  go_wp2_with (refine wpList_store_row rfl 56 _ _ rfl (w.heap.size) _ rfl rfl 56 _ R.out (by kernel_rfl) rfl (by simp [Value.oneCell']) ?_)
  clear cS_0 cS_1 cS_2 cS_3
  obtain ⟨wd35, hE36⟩ : ∃ ww, ww = wd29.setRow (w.heap.size) #[.int .i64 n, .string ⟨#[97]⟩] := ⟨_, rfl⟩
  rw [← hE36]
  replace S := dR S hE36 (by omega)
  replace R := dO R hE36
  replace K := Lib.hid (K.out.belowL (hE36 ▸ below_rowL (w.heap.size) wd29 #[.int .i64 n, .string ⟨#[97]⟩]) (show w.heap.size ≤ w.heap.size by omega))
  clear hE36
  have cR_0 : wd35.cell? ⟨w.heap.size, 0, none⟩ = some (.int .i64 n) := R.out.cell 0
  have cR_1 : wd35.cell? ⟨w.heap.size, 1, none⟩ = some (.string ⟨#[97]⟩) := R.out.cell 1
  exact bodyPost_ret (v := .agg #[.int .i64 n, .string ⟨#[97]⟩]) (by simp [results, Try.results67, go_sem, cR_0, cR_1]) rfl (⟨#[97].toList, l', by decide, rfl, K.out⟩)
 skip
 go_wp2_with (refine wpList_store_row rfl 56 _ _ rfl (w.heap.size) _ rfl rfl 56 _ R.out (by kernel_rfl) rfl (by simp [Value.oneCell']) ?_)
 clear cS_0 cS_1 cS_2 cS_3
 obtain ⟨wd37, hE38⟩ : ∃ ww, ww = wd29.setRow (w.heap.size) #[.int .i64 n, .string ⟨#[3, 1, 2]⟩] := ⟨_, rfl⟩
 rw [← hE38]
 replace S := dR S hE38 (by omega)
 replace R := dO R hE38
 replace K := Lib.hid (K.out.belowL (hE38 ▸ below_rowL (w.heap.size) wd29 #[.int .i64 n, .string ⟨#[3, 1, 2]⟩]) (show w.heap.size ≤ w.heap.size by omega))
 clear hE38
 have cR_0 : wd37.cell? ⟨w.heap.size, 0, none⟩ = some (.int .i64 n) := R.out.cell 0
 have cR_1 : wd37.cell? ⟨w.heap.size, 1, none⟩ = some (.string ⟨#[3, 1, 2]⟩) := R.out.cell 1
 exact bodyPost_ret (v := .agg #[.int .i64 n, .string ⟨#[3, 1, 2]⟩]) (by simp [results, Try.results67, go_sem, cR_0, cR_1]) rfl (⟨#[3, 1, 2].toList, l', by decide, rfl, K.out⟩)
def TextPost (w : World) (B gm : Nat) (vt : Value) (odd : Bool) (l : List UInt8) (most : Int) (e : Ending) (w' : World) : Prop :=
 ∃ (s l' : List UInt8), s.length ≤ 3 ∧ (s.length : Int) ≤ most ∧ e = .returned (.string ⟨s.toArray⟩) ∧ Took w B gm vt odd l l' w'
theorem runeM (c : Nat) (h : c < 128) : Utf8.encode (c : Int) = { data := [UInt8.ofNat c].toArray } := by
 have : ∀ i : Fin 128, Utf8.encode ((i.val : Nat) : Int) = { data := [UInt8.ofNat i.val].toArray } := by decide +kernel
 exact this ⟨c, h⟩
set_option maxRecDepth 100000 in
theorem text_any (B gm : Nat) (vt : Value) (odd : Bool) (l : List UInt8) (m : Nat) (w : World) (hm : m ≤ 3) (hM : MkAt w B gm vt odd l) :
  Calls Try.prog 64 #[.pointer (some ⟨gm, 0, none⟩), .int .i64 m] w (TextPost w B gm vt odd l m) := by
 have hgw := hM.here
 have hmi : (m : Int) ≤ 3 := by omega
 have K := Lib.hid (Took.refl hM)
 clear hM
 go_enter Try.func64, Try.ntmps64
 go_wp2_with fail
 ((with_reducible refine (next_any B gm vt odd l (m + 1) _ _ (by omega) (by omega) (by omega) K.out.at_).mono ?_); rintro e wd39 ⟨k, l', hk, hk0, hkl, rfl, hT⟩)
 clear hk0 hkl
 replace K := Lib.hid (K.out.trans hT)
 clear hT
 have HK0 := Lib.hid K.out
 clear K
 go_wp2_with fail
 go_loopw [5, 6] (fun s j wr => ∃ (q : List UInt8) (i : Nat) (lc : List UInt8), q.length + i = k ∧ s = .string ⟨q.toArray⟩ ∧ j = .int .i64 i ∧ Took w B gm vt odd l lc wr) (fun _ j _ => (intOf j).toNat)
 case atStart => exact ⟨[], k, l', by simp, rfl, rfl, HK0.out⟩
 case round =>
  clear HK0
  obtain ⟨q, i, lc, hqi, rfl, rfl, hK⟩ := hrel
  have hql : q.length ≤ 3 := by omega
  have K := Lib.hid (hK)
  clear hK
  by_cases hi : 0 < i
  ·
   have hi1 : (0 : Int) < (i : Int) := by omega
   have hi2 : (i : Int) ≤ 3 := by omega
   go_wp2_with fail
   ((with_reducible refine (next_any B gm vt odd lc 3 3 _ rfl (by omega) (by omega) K.out.at_).mono ?_); rintro e wd41 ⟨k2, l2, hk2, hk0, hkl, rfl, hT⟩)
   clear hk0 hkl
   replace K := Lib.hid (K.out.trans hT)
   clear hT
   obtain ⟨c, hc, Hc⟩ : ∃ c : Nat, 97 + (k2 : Int) = (c : Int) ∧ Hid (c = 97 + k2) := ⟨97 + k2, by omega, rfl⟩
   have hcb : (c : Int) < 128 := by have := Hc.out; omega
   have hs : (Utf8.encode (c : Int)).size = 1 := by rw [runeM c (by omega)]; rfl
   have hk2i : (k2 : Int) < 3 := by omega
   go_wp2_with fail
   have hstr : ({ data := q.toArray } : ByteArray) ++ Utf8.encode (c : Int) = { data := (q ++ [UInt8.ofNat c]).toArray } := by
    rw [runeM c (by omega)]; exact str_app q [UInt8.ofNat c]
   rw [hstr]
   clear hstr hs hcb Hc hc hk2i
   go_roundw
   case rel => exact ⟨q ++ [UInt8.ofNat c], i - 1, l2, by simp; omega, rfl, by go_num, K.out⟩
   case measure => simp [intOf]; omega
  obtain rfl : i = 0 := by omega
  go_wp2_with fail
  go_ret
  exact ⟨q, lc, by omega, by omega, rfl, K.out⟩
end Go.Proofs.Ytgeapglanckjpaa

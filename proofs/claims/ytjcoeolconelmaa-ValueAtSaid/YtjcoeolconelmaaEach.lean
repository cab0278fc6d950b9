/- What each and its closure compute, given what fits computes for the elements. No condition. -/
import Derived.Test.YtjcoeolconelmaaTypI
namespace Go.Proofs.Ytjcoeolconelmaa
open Go.ChangeShapes Go.WideShapes Go.ChangeAt Go.RowKit

/-- the first element of which g says no -/
def idxG (g : Val → Bool) : List Val → Nat → Option Nat
  | [], _ => none
  | x :: r, k => if g x then idxG g r (k + 1) else some k
theorem idxG_all (g : Val → Bool) : ∀ (l : List Val) (k : Nat), (idxG g l k).isSome = !l.all g := by
  intro l
  induction l with
  | nil => intro k; simp [idxG]
  | cons x r ih =>
    intro k
    rw [idxG]
    cases h : g x with
    | true => simp [ih, h]
    | false => simp [h]

/-- what fits does for a value of a list -/
def FitsOn (F : FuncId) (ts : List Typ) (vs : Value) (t : Int) (pl : Bool) (g : Val → Bool) (l : List Val) : Prop :=
  ∀ (y : Val) (vk vi vr : Value) (W : World), y ∈ l → ValAt W W.heap.size y vk vi vr → RdTyps W W.heap.size vs ts → Calls Try.prog F #[.agg #[vs], .int .i64 t, valA y vk vi vr, .bool pl] W fun e w' => e = .returned (.bool (g y)) ∧ Below W.heap.size W w'

set_option maxRecDepth 100000 in
set_option maxHeartbeats 400000 in
theorem eachc_any (ts : List Typ) (A : Option Addr) (c : Nat) (t : Int) (pl : Bool) (g : Val → Bool) (l : List Val) (y : Val) (vk vi vr : Value) (p4 p5 p7 : Nat) (w : World) (hf : FitsOn 45 ts (.slice A ts.length c) t pl g l)
    (hy : y ∈ l) (hv : ValAt w w.heap.size y vk vi vr) (ht : RdTyps w w.heap.size (.slice A ts.length c) ts) (h4 : w.cell? ⟨p4, 0, none⟩ = some (.slice A ts.length c)) (h5 : w.cell? ⟨p5, 0, none⟩ = some (.int .i64 t)) (h7 : w.cell? ⟨p7, 0, none⟩ = some (.bool pl))
    (l4 : p4 < w.heap.size) (l5 : p5 < w.heap.size) (l7 : p7 < w.heap.size) :
    Calls Try.prog 95 #[valA y vk vi vr, .pointer (some ⟨p4, 0, none⟩), .pointer (some ⟨p5, 0, none⟩), .pointer (some ⟨p7, 0, none⟩)] w fun e w' => e = .returned (.bool (!g y)) ∧ Below w.heap.size w w' := by
  obtain ⟨A1, n1, A2, n2, A3, n3, rfl, rfl, rfl, -, -, -⟩ := hv.forms
  have h0b := fun (o1 : Obj) => (Below.refl w.heap.size w).alloc (Nat.le_refl _) o1
  have HF := Lib.hid hf
  have HV := Lib.hid hv
  have HT := Lib.hid ht
  have HY := Lib.hid hy
  clear hf hv ht hy
  go_enter Try.func95, Try.ntmps95
  go_wp2_with fail
  refine (HF.out y _ _ _ _ HY.out (HV.out.on (h0b _)) (HT.out.on (h0b _))).mono ?_
  rintro e w2 ⟨rfl, hb2⟩
  go_wp2_with fail
  go_ret
  exact ⟨rfl, (h0b _).trans (hb2.mono (h0b _).size)⟩

set_option maxRecDepth 100000 in
set_option maxHeartbeats 400000 in
theorem idxval_any (ts : List Typ) (A : Option Addr) (c : Nat) (t : Int) (pl : Bool) (g : Val → Bool) (l : List Val) (va : Value) (p4 p5 p7 : Nat) (w : World) (hf : FitsOn 45 ts (.slice A ts.length c) t pl g l) (hl : l.length ≤ 140737488351232)
    (hv : RdVals w w.heap.size va l) (ht : RdTyps w w.heap.size (.slice A ts.length c) ts) (h4 : w.cell? ⟨p4, 0, none⟩ = some (.slice A ts.length c)) (h5 : w.cell? ⟨p5, 0, none⟩ = some (.int .i64 t)) (h7 : w.cell? ⟨p7, 0, none⟩ = some (.bool pl))
    (l4 : p4 < w.heap.size) (l5 : p5 < w.heap.size) (l7 : p7 < w.heap.size) :
    Calls Try.prog 111 #[va, .func (.func 95) #[] #[.pointer (some ⟨p4, 0, none⟩), .pointer (some ⟨p5, 0, none⟩), .pointer (some ⟨p7, 0, none⟩)]] w fun e w' => e = .returned (.int .i64 (idxI (idxG g l 0))) ∧ Below w.heap.size w w' := by
  obtain ⟨Al, cl, rfl, hcl⟩ := hv.form
  have HF := Lib.hid hf
  have HV := Lib.hid hv
  have HT := Lib.hid ht
  have H4 := Lib.hid h4
  have H5 := Lib.hid h5
  have H7 := Lib.hid h7
  clear hf hv ht h4 h5 h7
  go_enter Try.func111, Try.ntmps111
  go_wp2
  go_loopw [8] (fun i wr => ∃ k : Nat, i = .int .i64 k ∧ k ≤ l.length ∧ idxG g l 0 = idxG g (l.drop k) k ∧ Below w.heap.size w wr) (fun i _ => l.length - (intOf i).toNat)
  case atStart => exact ⟨0, rfl, by omega, rfl, Below.refl _ _⟩
  case round =>
    obtain ⟨k, rfl, hk, hix, hb⟩ := hrel
    by_cases hlk : k < l.length
    · obtain ⟨b, o, rfl, hbb, hel⟩ := (HV.out.on hb).elem (by omega)
      obtain ⟨vk, vi, vr, hcells, hm⟩ := hel k hlk
      rw [List.drop_eq_getElem_cons hlk, idxG] at hix
      have hmem : l[k] ∈ l := List.getElem_mem hlk
      generalize l[k] = y at *
      obtain ⟨B1, k1, B2, k2, B3, k3, rfl, rfl, rfl, -, -, -⟩ := hm.forms
      obtain ⟨c0, c1, c2, c3, c4, c5, c6, c7⟩ := hcells
      have hsz := hb.size
      have HC := Lib.hid (fun (W : World) => eachc_any ts A c t pl g l y (.slice B1 y.keys.length k1) (.slice B2 y.items.length k2) (.slice B3 y.rest.length k3) p4 p5 p7 W HF.out hmem)
      have HM := Lib.hid hm
      have hi1 : (k : Int) < l.length := by omega
      clear hel hm hmem
      cases hg : g y with
      | true =>
        rw [hg, if_pos rfl] at hix
        have Hix := Lib.hid hix
        rw [hg] at HC
        clear hix hg
        go_wp2_with fail
        refine (HC.out _ HM.out (HT.out.on hb) ((hb.cell l4).trans H4.out) ((hb.cell l5).trans H5.out) ((hb.cell l7).trans H7.out) (by omega) (by omega) (by omega)).mono ?_
        rintro e w2 ⟨rfl, hb2⟩
        have hb02 := hb.trans (hb2.mono hb.size)
        clear hb2 hb
        go_wp2_with fail
        go_roundw
        case rel => exact ⟨k + 1, by go_num, by omega, Hix.out, hb02⟩
        case measure => simp [intOf]; omega
      | false =>
        rw [hg, if_neg (by simp)] at hix
        have Hix := Lib.hid hix
        rw [hg] at HC
        clear hix hg
        go_wp2_with fail
        refine (HC.out _ HM.out (HT.out.on hb) ((hb.cell l4).trans H4.out) ((hb.cell l5).trans H5.out) ((hb.cell l7).trans H7.out) (by omega) (by omega) (by omega)).mono ?_
        rintro e w2 ⟨rfl, hb2⟩
        go_wp2_with fail
        go_ret
        exact ⟨ret_int (by rw [Hix.out]; rfl), hb.trans (hb2.mono hb.size)⟩
    · rw [List.drop_eq_nil_of_le (by omega), idxG] at hix
      have Hix := Lib.hid hix
      clear hix
      go_wp2
      go_ret
      exact ⟨ret_int (by rw [Hix.out]; rfl), hb⟩

theorem idxI_some (o : Option Nat) : decide (0 ≤ idxI o) = o.isSome := by
  cases o with
  | none => rfl
  | some k => simp [idxI]
set_option maxRecDepth 100000 in
set_option maxHeartbeats 400000 in
theorem contval_any (ts : List Typ) (A : Option Addr) (c : Nat) (t : Int) (pl : Bool) (g : Val → Bool) (l : List Val) (va : Value) (p4 p5 p7 : Nat) (w : World) (hf : FitsOn 45 ts (.slice A ts.length c) t pl g l) (hl : l.length ≤ 140737488351232)
    (hv : RdVals w w.heap.size va l) (ht : RdTyps w w.heap.size (.slice A ts.length c) ts) (h4 : w.cell? ⟨p4, 0, none⟩ = some (.slice A ts.length c)) (h5 : w.cell? ⟨p5, 0, none⟩ = some (.int .i64 t)) (h7 : w.cell? ⟨p7, 0, none⟩ = some (.bool pl))
    (l4 : p4 < w.heap.size) (l5 : p5 < w.heap.size) (l7 : p7 < w.heap.size) :
    Calls Try.prog 94 #[va, .func (.func 95) #[] #[.pointer (some ⟨p4, 0, none⟩), .pointer (some ⟨p5, 0, none⟩), .pointer (some ⟨p7, 0, none⟩)]] w fun e w' => e = .returned (.bool (!l.all g)) ∧ Below w.heap.size w w' := by
  obtain ⟨Al, cl, rfl, hcl⟩ := hv.form
  have hsome := idxI_some (idxG g l 0)
  rw [idxG_all g l 0] at hsome
  have HI := Lib.hid (idxval_any ts A c t pl g l _ p4 p5 p7 w hf hl hv ht h4 h5 h7 l4 l5 l7)
  generalize idxI (idxG g l 0) = r at *
  clear hf hv ht h4 h5 h7
  cases hr : decide (0 ≤ r) with
  | true =>
    rw [hr] at hsome
    have Hs := Lib.hid hsome
    clear hsome
    have hr2 : 0 ≤ r := of_decide_eq_true hr
    clear hr
    go_enter Try.func94, Try.ntmps94
    go_wp2_with fail
    refine HI.out.mono ?_
    rintro e w2 ⟨rfl, hb2⟩
    go_wp2_with fail
    go_ret
    exact ⟨ret_bool Hs.out, hb2⟩
  | false =>
    rw [hr] at hsome
    have Hs := Lib.hid hsome
    clear hsome
    have hr2 : r < 0 := by have := of_decide_eq_false hr; omega
    clear hr
    go_enter Try.func94, Try.ntmps94
    go_wp2_with fail
    refine HI.out.mono ?_
    rintro e w2 ⟨rfl, hb2⟩
    go_wp2_with fail
    go_ret
    exact ⟨ret_bool (by rw [decide_eq_false (by omega)]; exact Hs.out), hb2⟩

set_option maxRecDepth 100000 in
set_option maxHeartbeats 400000 in
theorem each_any (ts : List Typ) (A : Option Addr) (c : Nat) (t : Int) (pl : Bool) (g : Val → Bool) (l : List Val) (va : Value) (w : World) (hf : FitsOn 45 ts (.slice A ts.length c) t pl g l) (hl : l.length ≤ 140737488351232)
    (hv : RdVals w w.heap.size va l) (ht : RdTyps w w.heap.size (.slice A ts.length c) ts) :
    Calls Try.prog 71 #[.agg #[.slice A ts.length c], .int .i64 t, va, .bool pl] w fun e w' => e = .returned (.bool (l.all g)) ∧ Below w.heap.size w w' := by
  obtain ⟨Al, cl, rfl, hcl⟩ := hv.form
  have h3b := fun (o1 o2 o3 : Obj) => (((Below.refl w.heap.size w).alloc (Nat.le_refl _) o1).alloc (show w.heap.size ≤ (w.alloc o1).heap.size by simp) o2).alloc (show w.heap.size ≤ ((w.alloc o1).alloc o2).heap.size by simp; omega) o3
  have HI := (fun va W h1 h2 p4 p5 p7 h4 h5 h7 l4 l5 l7 => contval_any ts A c t pl g l va p4 p5 p7 W hf hl h1 h2 h4 h5 h7 l4 l5 l7)
  have HV := Lib.hid hv
  have HT := Lib.hid ht
  obtain ⟨q, hq⟩ : ∃ q, l.all g = q := ⟨_, rfl⟩
  rw [hq] at HI
  rw [hq]
  have HI := Lib.hid HI
  clear hf hv ht hq
  go_enter Try.func71, Try.ntmps71
  go_wp2_with fail
  refine (HI.out _ _ (HV.out.on (h3b _ _ _)) (HT.out.on (h3b _ _ _)) w.heap.size (w.heap.size + 1) (w.heap.size + 1 + 1) (by go_simp) (by go_simp) (by go_simp) (by simp <;> omega) (by simp <;> omega) (by simp <;> omega)).mono ?_
  rintro e w2 ⟨rfl, hb2⟩
  have h02 := (h3b _ _ _).trans (hb2.mono (h3b _ _ _).size)
  clear hb2 h3b
  cases q
  all_goals
    go_wp2_with fail
    go_ret
    exact ⟨rfl, h02⟩

set_option maxRecDepth 100000 in
set_option maxHeartbeats 400000 in
theorem rall_any (ts : List Typ) (A : Option Addr) (c : Nat) (t : Int) (pl : Bool) (g : Val → Bool) (l : List Val) (va : Value) (w : World) (hf : FitsOn 46 ts (.slice A ts.length c) t pl g l) (hl : l.length ≤ 140737488351232)
    (hv : RdVals w w.heap.size va l) (ht : RdTyps w w.heap.size (.slice A ts.length c) ts) :
    Calls Try.prog 76 #[.agg #[.slice A ts.length c], .int .i64 t, va, .bool pl] w fun e w' => e = .returned (.bool (l.all g)) ∧ Below w.heap.size w w' := by
  obtain ⟨Al, cl, rfl, hcl⟩ := hv.form
  have HF := Lib.hid hf
  have h01 := (Below.refl w.heap.size w).alloc (Nat.le_refl _) (.cells #[.slice A ts.length c] 31)
  have HP := Has.made w 31 #[.slice A ts.length c]
  clear hf
  go_enter Try.func76, Try.ntmps76
  go_wp2
  generalize w.alloc (.cells #[.slice A ts.length c] 31) = w1 at *
  have HV := Lib.hid (hv.on h01)
  have HT := Lib.hid (ht.on h01)
  have hz := HP.here
  have hc0 : w1.cell? ⟨w.heap.size, 0, none⟩ = some (.slice A ts.length c) := HP.cell 0
  have HP := Lib.hid HP
  clear hv ht
  have H0 := Lib.hid hc0
  clear hc0
  go_loopw [9] (fun i wr => ∃ k : Nat, i = .int .i64 k ∧ k ≤ l.length ∧ l.all g = (l.drop k).all g ∧ Below w1.heap.size w1 wr) (fun i _ => l.length - (intOf i).toNat)
  case atStart => exact ⟨0, rfl, by omega, rfl, Below.refl _ _⟩
  case round =>
    obtain ⟨k, rfl, hk, hix, hb⟩ := hrel
    by_cases hlk : k < l.length
    · obtain ⟨b, o, rfl, hbb, hel⟩ := (HV.out.on hb).elem (by omega)
      obtain ⟨vk, vi, vr, hcells, hm⟩ := hel k hlk
      rw [List.drop_eq_getElem_cons hlk, List.all_cons] at hix
      have hmem : l[k] ∈ l := List.getElem_mem hlk
      generalize l[k] = y at *
      obtain ⟨B1, k1, B2, k2, B3, k3, rfl, rfl, rfl, -, -, -⟩ := hm.forms
      obtain ⟨c0, c1, c2, c3, c4, c5, c6, c7⟩ := hcells
      have hq : wr.cell? ⟨w.heap.size, 0, none⟩ = some (.slice A ts.length c) := (hb.cell (p := ⟨w.heap.size, 0, none⟩) hz).trans H0.out
      have hi1 : (k : Int) < l.length := by omega
      have HM := Lib.hid hm
      have HTr := Lib.hid (HT.out.on hb)
      have Hmem := Lib.hid hmem
      have Hix := Lib.hid hix
      have h0r := h01.trans (hb.mono h01.size)
      clear hel hm hmem hix
      go_wp2_with fail
      go_still_tail 7, (by kernel_rfl)
      change wpList _ _ _ _ _ wr.drew
      have HD := Lib.hid (HM.out.on (w' := wr.drew) (Below.refl _ _).drew)
      have HTD := Lib.hid (HTr.out.on (w' := wr.drew) (Below.refl _ _).drew)
      have hbd := hb.drew
      have h0d := h0r.drew
      clear hb h0r c0 c1 c2 c3 c4 c5 c6 c7 HM HTr hq
      generalize wr.drew = w2 at *
      go_wp2_with fail
      refine (HF.out y _ _ _ _ Hmem.out HD.out HTD.out).mono ?_
      rintro e w3 ⟨rfl, hb3⟩
      have hb03 := hbd.trans (hb3.mono hbd.size)
      have h03 := h0d.trans (hb3.mono h0d.size)
      clear hb3 hbd h0d
      cases hg : g y with
      | true =>
        rw [hg] at Hix
        clear hg
        go_wp2_with fail
        go_roundw
        case rel => exact ⟨k + 1, by go_num, by omega, Hix.out, hb03⟩
        case measure => simp [intOf]; omega
      | false =>
        rw [hg] at Hix
        clear hg
        go_wp2_with fail
        go_ret
        exact ⟨ret_bool (by rw [Hix.out]; rfl), h03⟩
    · rw [List.drop_eq_nil_of_le (by omega)] at hix
      have Hix := Lib.hid hix
      clear hix
      go_wp2_with fail
      go_ret
      exact ⟨ret_bool (by rw [Hix.out]; rfl), h01.trans (hb.mono h01.size)⟩
end Go.Proofs.Ytjcoeolconelmaa

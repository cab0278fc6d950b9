/- Small functions on drafts: kind, Named, low, high. No condition. -/
import Derived.Test.YtjcoeolconelmaaOpenD
import Derived.Deep.RegionHeld3
import Derived.IntWalk
namespace Go.Proofs.Ytjcoeolconelmaa
open Go.ChangeShapes Go.WideShapes Go.ChangeAt Go.RowKit

def kindN (x : Nod) : Nat := 1 + x.kind % 9
theorem kindN_in (x : Nod) : 1 ≤ (kindN x : Int) ∧ (kindN x : Int) ≤ 9 := by unfold kindN; omega
theorem RdNods.keep {w w' : World} {B B' : Nat} {v : Value} {xs : List Nod} (h : RdNods w B v xs) (hk : ∀ p : Addr, p.block < B → w'.cell? p = w.cell? p) (hB : B ≤ B') : RdNods w' B' v xs := by
  obtain ⟨c, h1, h2⟩ := h
  refine ⟨c, (h1.keep hk).mono hB, fun i hi => ?_⟩
  obtain ⟨vp, e, hn⟩ := h2 i hi
  exact ⟨vp, e, hn.ints, hn.len, hn.ins, (hn.parts.keep hk).mono hB⟩
theorem RdNods.on {w w' : World} {v : Value} {xs : List Nod} (h : RdNods w w.heap.size v xs) (hb : Below w.heap.size w w') : RdNods w' w'.heap.size v xs := h.keep (fun _ hp => hb.cell hp) hb.size
theorem RdNods.form {w : World} {B : Nat} {v : Value} {xs : List Nod} (h : RdNods w B v xs) : ∃ A c, v = .slice A xs.length c ∧ xs.length ≤ c := by
  obtain ⟨_, ⟨A, c, h1, h2, _⟩, _⟩ := h
  exact ⟨A, c, h1, h2⟩
def Cells5 (w : World) (b o : Nat) (x : Nod) (vp : Value) : Prop :=
  w.cell? ⟨b, o, none⟩ = some (.int .u8 x.kind) ∧ w.cell? ⟨b, o + 1, none⟩ = some (.int .u8 x.a) ∧ w.cell? ⟨b, o + 2, none⟩ = some (.int .u8 x.b) ∧ w.cell? ⟨b, o + 3, none⟩ = some (.int .u8 x.c) ∧ w.cell? ⟨b, o + 4, none⟩ = some vp
theorem RdNods.elem {w : World} {B n cap : Nat} {A : Option Addr} {xs : List Nod} (h : RdNods w B (.slice A n cap) xs) (hpos : 0 < xs.length) : ∃ b o, A = some ⟨b, o, none⟩ ∧ b < B ∧ ∀ k (hk : k < xs.length), ∃ vp, Cells5 w b (o + k * 5) xs[k] vp ∧ NodAt w B xs[k] vp := by
  obtain ⟨c, ⟨A', c', hv, hc, h2⟩, h3⟩ := h
  injection hv with h4 h5 h6
  subst h4
  rcases h2 with h2 | ⟨b, o, hA, hb, hcell⟩
  · omega
  · refine ⟨b, o, hA, hb, fun k hk => ?_⟩
    obtain ⟨vp, hcs, hm⟩ := h3 k hk
    have hc := hcell k hk
    rw [hcs] at hc
    exact ⟨vp, ⟨hc 0 _ rfl, hc 1 _ rfl, hc 2 _ rfl, hc 3 _ rfl, hc 4 _ rfl⟩, hm⟩

set_option maxRecDepth 100000 in
set_option maxHeartbeats 400000 in
theorem kind_any (xs : List Nod) (vn : Value) (i : Nat) (w : World) (hi : i < xs.length) (hr : RdNods w w.heap.size vn xs) :
    Calls Try.prog 34 #[.agg #[vn], .int .i64 i] w fun e w' => e = .returned (.int .i64 (kindN xs[i] : Nat)) ∧ Below w.heap.size w w' := by
  obtain ⟨A, c, rfl, hc⟩ := hr.form
  have h01 := (Below.refl w.heap.size w).alloc (Nat.le_refl _) (.cells #[.slice A xs.length c] 24)
  obtain ⟨b, o, rfl, hb, hel⟩ := hr.elem (by omega)
  obtain ⟨vp, hcs, hn⟩ := hel i hi
  have c0 := hcs.1
  have hk := hn.ints.1
  have hl := hn.len
  have hi1 : (i : Int) < xs.length := by omega
  have Hk : Hid (kindN xs[i] = 1 + xs[i].kind % 9) := rfl
  clear hcs hn hel hr hl
  generalize xs[i] = x at *
  generalize x.kind = q at *
  generalize kindN x = r at *
  have hq : (q : Int) < 256 := by omega
  have hm : 0 ≤ (q : Int) % 9 ∧ (q : Int) % 9 ≤ 8 := by omega
  go_enter Try.func34, Try.ntmps34
  go_wp2_with fail
  go_ret
  exact ⟨ret_int (by rw [Hk.out]; push_cast; rfl), h01⟩

def namedB (k : Int) : Bool := decide (k = 4 ∨ k = 5 ∨ k = 6)
set_option maxRecDepth 100000 in
set_option maxHeartbeats 400000 in
theorem named_any (k : Int) (w : World) : Calls Try.prog 35 #[.int .i64 k] w fun e w' => e = .returned (.bool (namedB k)) ∧ w = w' := by
  have Hn : Hid (namedB k = decide (k = 4 ∨ k = 5 ∨ k = 6)) := rfl
  generalize namedB k = r at *
  by_cases h4 : k = 4
  · have t4 : (k == 4) = true := by simp [h4]
    have Hr : Hid (r = true) := by show _ = _; rw [Hn.out]; simp [h4]
    clear h4
    go_enter Try.func35, Try.ntmps35
    go_wp2_with fail
    go_ret
    exact ⟨ret_bool Hr.out.symm, rfl⟩
  · have t4 : (k == 4) = false := beq_eq_false_iff_ne.2 h4
    by_cases h5 : k = 5
    · have t5 : (k == 5) = true := by simp [h5]
      have Hr : Hid (r = true) := by show _ = _; rw [Hn.out]; simp [h5]
      clear h4 h5
      go_enter Try.func35, Try.ntmps35
      go_wp2_with fail
      go_ret
      exact ⟨ret_bool Hr.out.symm, rfl⟩
    · have t5 : (k == 5) = false := beq_eq_false_iff_ne.2 h5
      by_cases h6 : k = 6
      · have t6 : (k == 6) = true := by simp [h6]
        have Hr : Hid (r = true) := by show _ = _; rw [Hn.out]; simp [h6]
        clear h4 h5 h6
        go_enter Try.func35, Try.ntmps35
        go_wp2_with fail
        go_ret
        exact ⟨ret_bool Hr.out.symm, rfl⟩
      · have t6 : (k == 6) = false := beq_eq_false_iff_ne.2 h6
        have Hr : Hid (r = false) := by show _ = _; rw [Hn.out]; simp [h4, h5, h6]
        clear h4 h5 h6
        go_enter Try.func35, Try.ntmps35
        go_wp2_with fail
        go_ret
        exact ⟨ret_bool Hr.out.symm, rfl⟩

abbrev nodA (x : Nod) (vp : Value) : Value := .agg #[.int .u8 x.kind, .int .u8 x.a, .int .u8 x.b, .int .u8 x.c, vp]
def lowN (x : Nod) : Int := (x.a : Int) % 7 - 3
def highN (x : Nod) : Int := lowN x + (x.b : Int) % 6
theorem low_rng (x : Nod) : -3 ≤ lowN x ∧ lowN x ≤ 3 := by unfold lowN; omega
set_option maxRecDepth 100000 in
set_option maxHeartbeats 400000 in
theorem low_any (x : Nod) (vp : Value) (w : World) (hn : x.a < 256) : Calls Try.prog 36 #[nodA x vp] w fun e w' => e = .returned (.int .i64 (lowN x)) ∧ Below w.heap.size w w' := by
  have h01 := fun o => (Below.refl w.heap.size w).alloc (Nat.le_refl _) o
  have Hl : Hid (lowN x = (x.a : Int) % 7 - 3) := rfl
  have hq : (x.a : Int) < 256 := by omega
  have hm : 0 ≤ (x.a : Int) % 7 ∧ (x.a : Int) % 7 ≤ 6 := by omega
  go_enter Try.func36, Try.ntmps36
  go_wp2_with fail
  go_ret
  exact ⟨ret_int (by rw [Hl.out]), h01 _⟩
set_option maxRecDepth 100000 in
set_option maxHeartbeats 400000 in
theorem high_any (x : Nod) (vp : Value) (w : World) (hn : x.a < 256) (hb : x.b < 256) : Calls Try.prog 37 #[nodA x vp] w fun e w' => e = .returned (.int .i64 (highN x)) ∧ Below w.heap.size w w' := by
  have h01 := fun o => (Below.refl w.heap.size w).alloc (Nat.le_refl _) o
  have Hl : Hid (highN x = lowN x + (x.b : Int) % 6) := rfl
  have hr := low_rng x
  have hq : (x.b : Int) < 256 := by omega
  have hm : 0 ≤ (x.b : Int) % 6 ∧ (x.b : Int) % 6 ≤ 5 := by omega
  have HL := Lib.hid (fun W => low_any x vp W hn)
  have hX := Has.made w 62 #[.int .u8 x.kind, .int .u8 x.a, .int .u8 x.b, .int .u8 x.c, vp]
  generalize lowN x = lo at *
  have hX1 := hX
  go_enter Try.func37, Try.ntmps37
  go_wp2_with fail
  have hbw := h01 (.cells #[.int .u8 x.kind, .int .u8 x.a, .int .u8 x.b, .int .u8 x.c, vp] 62)
  generalize w.alloc (.cells #[.int .u8 x.kind, .int .u8 x.a, .int .u8 x.b, .int .u8 x.c, vp] 62) = w1 at *
  have c0 := hX1.cell 0
  have c1 := hX1.cell 1
  have c2 := hX1.cell 2
  have c3 := hX1.cell 3
  have c4 := hX1.cell 4
  have hz := hX1.here
  simp only [List.getElem?_toArray, List.getElem?_cons_succ, List.getElem?_cons_zero] at c0 c1 c2 c3 c4
  clear hX hX1
  go_region_held3 (fun w' => w'.cell? ⟨w.heap.size, 0, none⟩ = some (.int .u8 x.kind) ∧ w'.cell? ⟨w.heap.size, 1, none⟩ = some (.int .u8 x.a) ∧ w'.cell? ⟨w.heap.size, 2, none⟩ = some (.int .u8 x.b) ∧ w'.cell? ⟨w.heap.size, 3, none⟩ = some (.int .u8 x.c) ∧ w'.cell? ⟨w.heap.size, 4, none⟩ = some vp) (first | (go_keep; done) | exact ⟨p0, p1, p2, p3, p4⟩)
    (first
      | (go_at_call 36; (with_reducible refine (HL.out _).mono ?_); rintro e wn ⟨rfl, hbn⟩; have hbn' : Below w1.heap.size w1 wn := ((Below.refl w1.heap.size w1).drew).trans hbn; have p0 := (hbn'.cell (p := ⟨w.heap.size, 0, none⟩) hz).trans c0; have p1 := (hbn'.cell (p := ⟨w.heap.size, 1, none⟩) hz).trans c1; have p2 := (hbn'.cell (p := ⟨w.heap.size, 2, none⟩) hz).trans c2; have p3 := (hbn'.cell (p := ⟨w.heap.size, 3, none⟩) hz).trans c3; have p4 := (hbn'.cell (p := ⟨w.heap.size, 4, none⟩) hz).trans c4))
  all_goals
    go_wp2_with fail
    go_ret
    exact ⟨ret_int (by rw [Hl.out, Int.tmod_eq_emod_of_nonneg (by omega), IntWalk.i64_in ((x.b : Int) % 6) (by omega), IntWalk.i64_in _ (by omega)]), hbw.trans (hbn'.mono hbw.size)⟩

set_option maxRecDepth 100000 in
set_option maxHeartbeats 400000 in
theorem hollow_any (k : Int) (w : World) : Calls Try.prog 90 #[.int .i64 k] w fun e w' => e = .returned (.bool (decide (7 ≤ k))) ∧ w = w' := by
  go_enter Try.func90, Try.ntmps90
  go_wp2_with fail
  go_ret
  exact ⟨rfl, rfl⟩
set_option maxRecDepth 100000 in
set_option maxHeartbeats 400000 in
theorem keykind_any (k : Int) (w : World) : Calls Try.prog 67 #[.int .i64 k] w fun e w' => e = .returned (.bool (decide (1 ≤ k) && decide (k ≤ 4))) ∧ w = w' := by
  by_cases h1 : 1 ≤ k
  · have d1 : decide (1 ≤ k) = true := decide_eq_true h1
    by_cases h2 : k ≤ 4
    · have d2 : decide (k ≤ 4) = true := decide_eq_true h2
      go_enter Try.func67, Try.ntmps67
      go_wp2_with fail
      go_ret
      exact ⟨ret_bool (by simp [h1, h2]), rfl⟩
    · have d2 : decide (k ≤ 4) = false := decide_eq_false h2
      go_enter Try.func67, Try.ntmps67
      go_wp2_with fail
      go_ret
      exact ⟨ret_bool (by first | (simp; done) | (simp; omega)), rfl⟩
  · have d1 : decide (1 ≤ k) = false := decide_eq_false h1
    go_enter Try.func67, Try.ntmps67
    go_wp2_with fail
    go_ret
    exact ⟨ret_bool (by first | (simp; done) | (simp; omega)), rfl⟩
end Go.Proofs.Ytjcoeolconelmaa

/- Drafts of schemas that come in. Small functions on drafts: kind, Named, low, high. Plain: what a draft of a schema describes. No condition. -/
import Derived.Test.YtgeapglanckjpaaGD
import Derived.Deep.RegionHeld3
import Derived.IntWalk
import Derived.Test.YtgeapglanckjpaaGC
set_option maxHeartbeats 400000
namespace Go.Proofs.Ytgeapglanckjpaa
open Go.ChangeShapes Go.WideShapes Go.ChangeAt Go.RowKit Go.Joins
abbrev Prt := Nat × Nat × Nat
structure Nod where
 kind : Nat
 a : Nat
 b : Nat
 c : Nat
 parts : List Prt
def partV (p : Prt) : List Value := [.int .u8 p.1, .int .u8 p.2.1, .int .u8 p.2.2]
theorem partV_len (p : Prt) : (partV p).length = 3 := rfl
def PartIn (p : Prt) : Prop := p.1 < 256 ∧ p.2.1 < 256 ∧ p.2.2 < 256
def nodV (x : Nod) (vp : Value) : List Value := [.int .u8 x.kind, .int .u8 x.a, .int .u8 x.b, .int .u8 x.c, vp]
structure NodAt (w : World) (B : Nat) (x : Nod) (vp : Value) : Prop where
 ints : x.kind < 256 ∧ x.a < 256 ∧ x.b < 256 ∧ x.c < 256
 len : x.parts.length ≤ 140737488351232
 ins : ∀ p ∈ x.parts, PartIn p
 parts : Rd w B 3 vp x.parts.length (x.parts.flatMap partV)
def RdNods (w : World) (B : Nat) (v : Value) (xs : List Nod) : Prop := ∃ c : Nat → List Value, Row w B 5 v xs.length c ∧ ∀ (i : Nat) (h : i < xs.length), ∃ vp, c i = nodV xs[i] vp ∧ NodAt w B xs[i] vp
theorem wf_u8n {a : Int} (h : (Lit.int .u8 a).wf = true) : ∃ n : Nat, a = (n : Int) ∧ n < 256 := by
 simp [Lit.wf, IntKind.min, IntKind.max, IntKind.bits, IntKind.signed] at h
 exact ⟨a.toNat, by omega, by omega⟩
section
variable {H : Type} {enc : TypeId × Value → H} {w : World} {base : Nat} {spare : Nat → Bool} {held : Bool}
set_option maxRecDepth 100000 in
theorem part_of (N : Nat) (cs : List Value) (D : DataW H) (Q : List MemPlace) (hl : cs.length = 3)
  (h : DataW.trod enc Try.prog w base spare held N 104 cs = some (D, Q)) : ∃ x : Prt, cs = partV x ∧ PartIn x := by
 obtain ⟨xs, n, rfl, hx, _, hxl, hg⟩ := DataW.trod_struct Try.underlying104 h
 obtain ⟨c0, c1, c2, rfl⟩ : ∃ a b c, cs = [a, b, c] := by
  match cs, hl with
  | [a, b, c], _ => exact ⟨a, b, c, rfl⟩
 match xs, hxl with
 | [y0, y1, y2], _ =>
  have k0 : Try.prog.cellsOf 5 = 1 := by kernel_rfl
  have h0 : DataW.trod enc Try.prog w base spare held n 5 (([c0, c1, c2].drop 0).take (Try.prog.cellsOf 5)) = some y0 := hg 0 _ rfl
  have h1 : DataW.trod enc Try.prog w base spare held n 5 (([c0, c1, c2].drop 1).take (Try.prog.cellsOf 5)) = some y1 := hg 1 _ rfl
  have h2 : DataW.trod enc Try.prog w base spare held n 5 (([c0, c1, c2].drop 2).take (Try.prog.cellsOf 5)) = some y2 := hg 2 _ rfl
  rw [k0] at h0 h1 h2
  obtain ⟨n0, e0, _, w0⟩ := DataW.trod_int Try.underlying5 h0
  obtain ⟨n1, e1, _, w1⟩ := DataW.trod_int Try.underlying5 h1
  obtain ⟨n2, e2, _, w2⟩ := DataW.trod_int Try.underlying5 h2
  obtain ⟨m0, rfl, b0⟩ := wf_u8n w0
  obtain ⟨m1, rfl, b1⟩ := wf_u8n w1
  obtain ⟨m2, rfl, b2⟩ := wf_u8n w2
  simp only [List.drop, List.take, List.cons.injEq, and_true] at e0 e1 e2
  subst e0 e1 e2
  exact ⟨(m0, m1, m2), rfl, b0, b1, b2⟩
set_option maxRecDepth 100000 in
theorem nod_of (N : Nat) (cs : List Value) (D : DataW H) (Q : List MemPlace) (hl : cs.length = 5)
  (h : DataW.trod enc Try.prog w base spare held N 74 cs = some (D, Q)) (hs : Sz 74 D) : ∃ (x : Nod) (vp : Value), cs = nodV x vp ∧ NodAt w w.heap.size x vp := by
 obtain ⟨xs, n, rfl, hx, _, hxl, hg⟩ := DataW.trod_struct Try.underlying74 h
 obtain ⟨c0, c1, c2, c3, c4, rfl⟩ : ∃ a b c d e, cs = [a, b, c, d, e] := by
  match cs, hl with
  | [a, b, c, d, e], _ => exact ⟨a, b, c, d, e, rfl⟩
 match xs, hxl with
 | [y0, y1, y2, y3, y4], _ =>
  injection hx with hx1 hx2
  have k0 : Try.prog.cellsOf 5 = 1 := by kernel_rfl
  have k4 : Try.prog.cellsOf 72 = 1 := by kernel_rfl
  have h0 : DataW.trod enc Try.prog w base spare held n 5 (([c0, c1, c2, c3, c4].drop 0).take (Try.prog.cellsOf 5)) = some y0 := hg 0 _ rfl
  have h1 : DataW.trod enc Try.prog w base spare held n 5 (([c0, c1, c2, c3, c4].drop 1).take (Try.prog.cellsOf 5)) = some y1 := hg 1 _ rfl
  have h2 : DataW.trod enc Try.prog w base spare held n 5 (([c0, c1, c2, c3, c4].drop 2).take (Try.prog.cellsOf 5)) = some y2 := hg 2 _ rfl
  have h3 : DataW.trod enc Try.prog w base spare held n 5 (([c0, c1, c2, c3, c4].drop 3).take (Try.prog.cellsOf 5)) = some y3 := hg 3 _ rfl
  have h4 : DataW.trod enc Try.prog w base spare held n 72 (([c0, c1, c2, c3, c4].drop 4).take (Try.prog.cellsOf 72)) = some y4 := hg 4 _ rfl
  rw [k0] at h0 h1 h2 h3
  rw [k4] at h4
  obtain ⟨n0, e0, _, w0⟩ := DataW.trod_int Try.underlying5 h0
  obtain ⟨n1, e1, _, w1⟩ := DataW.trod_int Try.underlying5 h1
  obtain ⟨n2, e2, _, w2⟩ := DataW.trod_int Try.underlying5 h2
  obtain ⟨n3, e3, _, w3⟩ := DataW.trod_int Try.underlying5 h3
  obtain ⟨m0, rfl, b0⟩ := wf_u8n w0
  obtain ⟨m1, rfl, b1⟩ := wf_u8n w1
  obtain ⟨m2, rfl, b2⟩ := wf_u8n w2
  obtain ⟨m3, rfl, b3⟩ := wf_u8n w3
  subst hx1
  have sz4 := Sz.field hs Try.underlying74 (i := 4) rfl rfl
  obtain ⟨vp, ps, ep, lp, gp, rp⟩ := open_list Try.underlying72 (size := 3) (by kernel_rfl) (by decide) partV_len h4 sz4 (good := PartIn) (fun N cs' D Q hl ht _ => part_of N cs' D Q hl ht)
  have hbb : Try.prog.bytesOf 104 = 3 := by kernel_rfl
  rw [hbb] at lp
  simp only [List.drop, List.take, List.cons.injEq, and_true] at e0 e1 e2 e3 ep
  subst e0 e1 e2 e3 ep
  exact ⟨⟨m0, m1, m2, m3, ps⟩, _, rfl, ⟨b0, b1, b2, b3⟩, by show ps.length ≤ _; omega, gp, rp⟩
set_option maxRecDepth 100000 in
theorem nods_of {fuel : Nat} {cs : List Value} {x : DataW H × List MemPlace} (h : DataW.trod enc Try.prog w base spare held fuel 22 cs = some x) (hs : Sz 22 x.1) :
  ∃ (v : Value) (xs : List Nod), cs = [v] ∧ xs.length ≤ 140737488351232 ∧ RdNods w w.heap.size v xs := by
 obtain ⟨A, len, cap, rfl, hl, hb, hrow⟩ := open_rowsV Try.underlying22 (size := 5) (by kernel_rfl) (by decide) h hs
 have hbb : 0 < Try.prog.bytesOf 74 := by
  rw [show Try.prog.bytesOf 74 = 32 by kernel_rfl]; omega
 have hlen : len ≤ 140737488351232 := Nat.le_trans (Nat.le_mul_of_pos_right _ hbb) hb
 rcases hrow with rfl | ⟨b, o, rfl, hlt, N, D, Pl, hi⟩
 ·
  exact ⟨_, [], rfl, by simp, fun _ => [], ⟨A, cap, rfl, hl, .inl rfl⟩, fun i h => by simp at h⟩
 have hex : ∀ i : Nat, ∃ p : Nod × List Value, i < len → (∀ j u, p.2[j]? = some u → w.cell? ⟨b, o + i * 5 + j, none⟩ = some u) ∧ ∃ vp, p.2 = nodV p.1 vp ∧ NodAt w w.heap.size p.1 vp := by
  intro i
  by_cases h0 : i < len
  ·
   obtain ⟨cs', h1, h2, h3, h4, _⟩ := hi i h0
   obtain ⟨y, vp, hy, hn⟩ := nod_of N cs' (D i) (Pl i) h1 h3 h4
   exact ⟨(y, cs'), fun _ => ⟨h2, vp, hy, hn⟩⟩
  exact ⟨(⟨0, 0, 0, 0, []⟩, []), fun h => absurd h h0⟩
 obtain ⟨F, hF⟩ := Classical.axiomOfChoice hex
 refine ⟨_, (List.range len).map (fun i => (F i).1), rfl, by simpa using hlen, fun i => (F i).2, ⟨_, cap, by simp, by simpa using hl, .inr ⟨b, o, rfl, hlt, fun i h0 => (hF i (by simpa using h0)).1⟩⟩, fun i h0 => ?_⟩
 have h1 : i < len := by simpa using h0
 simpa using (hF i h1).2
end
end Go.Proofs.Ytgeapglanckjpaa
namespace Go.Proofs.Ytgeapglanckjpaa
open Go.ChangeShapes Go.WideShapes Go.ChangeAt Go.RowKit
def kindN (x : Nod) : Nat := 1 + x.kind % 9
theorem kindN_in (x : Nod) : 1 ≤ (kindN x : Int) ∧ (kindN x : Int) ≤ 9 := by unfold kindN; omega
theorem RdNods.keep {w w' : World} {B B' : Nat} {v : Value} {xs : List Nod} (h : RdNods w B v xs) (hk : ∀ p : Addr, p.block < B → w'.cell? p = w.cell? p) (hB : B ≤ B') : RdNods w' B' v xs := by
 obtain ⟨c, h1, h2⟩ := h
 refine ⟨c, (h1.keep hk).mono hB, fun i hi => ?_⟩
 obtain ⟨vp, e, hn⟩ := h2 i hi
 exact ⟨vp, e, hn.ints, hn.len, hn.ins, (hn.parts.keep hk).mono hB⟩
theorem RdNods.on {w w' : World} {v : Value} {xs : List Nod} (h : RdNods w w.heap.size v xs) (hb : Below w.heap.size w w') : RdNods w' w'.heap.size v xs := h.keep (fun _ hp => hb.cell hp) hb.size
theorem RdNods.form {w : World} {B : Nat} {v : Value} {xs : List Nod} (h : RdNods w B v xs) : ∃ A c, v = .slice A xs.length c ∧ xs.length ≤ c := by
 obtain ⟨_, ⟨A, c, h1, h2, _⟩, _⟩ := h
 exact ⟨A, c, h1, h2⟩
def Cells5 (w : World) (b o : Nat) (x : Nod) (vp : Value) : Prop :=
 w.cell? ⟨b, o, none⟩ = some (.int .u8 x.kind) ∧ w.cell? ⟨b, o + 1, none⟩ = some (.int .u8 x.a) ∧ w.cell? ⟨b, o + 2, none⟩ = some (.int .u8 x.b) ∧ w.cell? ⟨b, o + 3, none⟩ = some (.int .u8 x.c) ∧ w.cell? ⟨b, o + 4, none⟩ = some vp
theorem RdNods.elem {w : World} {B n cap : Nat} {A : Option Addr} {xs : List Nod} (h : RdNods w B (.slice A n cap) xs) (hpos : 0 < xs.length) : ∃ b o, A = some ⟨b, o, none⟩ ∧ b < B ∧ ∀ k (hk : k < xs.length), ∃ vp, Cells5 w b (o + k * 5) xs[k] vp ∧ NodAt w B xs[k] vp := by
 obtain ⟨c, ⟨A', c', hv, hc, h2⟩, h3⟩ := h
 injection hv with h4 h5 h6
 subst h4
 rcases h2 with h2 | ⟨b, o, hA, hb, hcell⟩
 ·
  omega
 refine ⟨b, o, hA, hb, fun k hk => ?_⟩
 obtain ⟨vp, hcs, hm⟩ := h3 k hk
 have hc := hcell k hk
 rw [hcs] at hc
 exact ⟨vp, ⟨hc 0 _ rfl, hc 1 _ rfl, hc 2 _ rfl, hc 3 _ rfl, hc 4 _ rfl⟩, hm⟩
set_option maxRecDepth 100000 in
theorem kind_any (xs : List Nod) (vn : Value) (i : Nat) (w : World) (hi : i < xs.length) (hr : RdNods w w.heap.size vn xs) :
  Calls Try.prog 33 #[.agg #[vn], .int .i64 i] w fun e w' => e = .returned (.int .i64 (kindN xs[i] : Nat)) ∧ Below w.heap.size w w' := by
 obtain ⟨A, c, rfl, hc⟩ := hr.form
 have h01 := (Below.refl w.heap.size w).alloc (Nat.le_refl _) (.cells #[.slice A xs.length c] 24)
 obtain ⟨b, o, rfl, hb, hel⟩ := hr.elem (by omega)
 obtain ⟨vp, hcs, hn⟩ := hel i hi
 have c0 := hcs.1
 have hk := hn.ints.1
 have hl := hn.len
 have hi1 : (i : Int) < xs.length := by omega
 have Hk : Hid (kindN xs[i] = 1 + xs[i].kind % 9) := rfl
 clear hcs hn hel hr hl
 generalize xs[i] = x at *
 generalize x.kind = q at *
 generalize kindN x = r at *
 have hq : (q : Int) < 256 := by omega
 have hm : 0 ≤ (q : Int) % 9 ∧ (q : Int) % 9 ≤ 8 := by omega
 go_enter Try.func33, Try.ntmps33
 go_wp2_with fail
 go_ret
 exact ⟨ret_int (by rw [Hk.out]; push_cast; rfl), h01⟩
def namedB (k : Int) : Bool := decide (k = 4 ∨ k = 5 ∨ k = 6)
set_option maxRecDepth 100000 in
theorem named_any (k : Int) (w : World) : Calls Try.prog 34 #[.int .i64 k] w fun e w' => e = .returned (.bool (namedB k)) ∧ w = w' := by
 have Hn : Hid (namedB k = decide (k = 4 ∨ k = 5 ∨ k = 6)) := rfl
 generalize namedB k = r at *
 by_cases h4 : k = 4
 ·
  have t4 : (k == 4) = true := by simp [h4]
  have Hr : Hid (r = true) := by show _ = _; rw [Hn.out]; simp [h4]
  clear h4
  go_enter Try.func34, Try.ntmps34
  go_wp2_with fail
  go_ret
  exact ⟨ret_bool Hr.out.symm, rfl⟩
 have t4 : (k == 4) = false := beq_eq_false_iff_ne.2 h4
 by_cases h5 : k = 5
 ·
  have t5 : (k == 5) = true := by simp [h5]
  have Hr : Hid (r = true) := by show _ = _; rw [Hn.out]; simp [h5]
  clear h4 h5
  go_enter Try.func34, Try.ntmps34
  go_wp2_with fail
  go_ret
  exact ⟨ret_bool Hr.out.symm, rfl⟩
 have t5 : (k == 5) = false := beq_eq_false_iff_ne.2 h5
 by_cases h6 : k = 6
 ·
  have t6 : (k == 6) = true := by simp [h6]
  have Hr : Hid (r = true) := by show _ = _; rw [Hn.out]; simp [h6]
  clear h4 h5 h6
  go_enter Try.func34, Try.ntmps34
  go_wp2_with fail
  go_ret
  exact ⟨ret_bool Hr.out.symm, rfl⟩
 have t6 : (k == 6) = false := beq_eq_false_iff_ne.2 h6
 have Hr : Hid (r = false) := by show _ = _; rw [Hn.out]; simp [h4, h5, h6]
 clear h4 h5 h6
 go_enter Try.func34, Try.ntmps34
 go_wp2_with fail
 go_ret
 exact ⟨ret_bool Hr.out.symm, rfl⟩
abbrev nodA (x : Nod) (vp : Value) : Value := .agg #[.int .u8 x.kind, .int .u8 x.a, .int .u8 x.b, .int .u8 x.c, vp]
def lowN (x : Nod) : Int := (x.a : Int) % 7 - 3
def highN (x : Nod) : Int := lowN x + (x.b : Int) % 6
theorem low_rng (x : Nod) : -3 ≤ lowN x ∧ lowN x ≤ 3 := by unfold lowN; omega
set_option maxRecDepth 100000 in
theorem low_any (x : Nod) (vp : Value) (w : World) (hn : x.a < 256) : Calls Try.prog 35 #[nodA x vp] w fun e w' => e = .returned (.int .i64 (lowN x)) ∧ Below w.heap.size w w' := by
 have h01 := fun o => (Below.refl w.heap.size w).alloc (Nat.le_refl _) o
 have Hl : Hid (lowN x = (x.a : Int) % 7 - 3) := rfl
 have hq : (x.a : Int) < 256 := by omega
 have hm : 0 ≤ (x.a : Int) % 7 ∧ (x.a : Int) % 7 ≤ 6 := by omega
 go_enter Try.func35, Try.ntmps35
 go_wp2_with fail
 go_ret
 exact ⟨ret_int (by rw [Hl.out]), h01 _⟩
set_option maxRecDepth 100000 in
theorem high_any (x : Nod) (vp : Value) (w : World) (hn : x.a < 256) (hb : x.b < 256) : Calls Try.prog 36 #[nodA x vp] w fun e w' => e = .returned (.int .i64 (highN x)) ∧ Below w.heap.size w w' := by
 have h01 := fun o => (Below.refl w.heap.size w).alloc (Nat.le_refl _) o
 have Hl : Hid (highN x = lowN x + (x.b : Int) % 6) := rfl
 have hr := low_rng x
 have hq : (x.b : Int) < 256 := by omega
 have hm : 0 ≤ (x.b : Int) % 6 ∧ (x.b : Int) % 6 ≤ 5 := by omega
 have HL := Lib.hid (fun W => low_any x vp W hn)
 have hX := Has.made w 74 #[.int .u8 x.kind, .int .u8 x.a, .int .u8 x.b, .int .u8 x.c, vp]
 generalize lowN x = lo at *
 have hX1 := hX
 go_enter Try.func36, Try.ntmps36
 go_wp2_with fail
 have hbw := h01 (.cells #[.int .u8 x.kind, .int .u8 x.a, .int .u8 x.b, .int .u8 x.c, vp] 74)
 generalize w.alloc (.cells #[.int .u8 x.kind, .int .u8 x.a, .int .u8 x.b, .int .u8 x.c, vp] 74) = w1 at *
 have c0 := hX1.cell 0
 have c1 := hX1.cell 1
 have c2 := hX1.cell 2
 have c3 := hX1.cell 3
 have c4 := hX1.cell 4
 have hz := hX1.here
 simp only [gl3] at c0 c1 c2 c3 c4
 clear hX hX1
 go_region_held3 (fun w' => w'.cell? ⟨w.heap.size, 0, none⟩ = some (.int .u8 x.kind) ∧ w'.cell? ⟨w.heap.size, 1, none⟩ = some (.int .u8 x.a) ∧ w'.cell? ⟨w.heap.size, 2, none⟩ = some (.int .u8 x.b) ∧ w'.cell? ⟨w.heap.size, 3, none⟩ = some (.int .u8 x.c) ∧ w'.cell? ⟨w.heap.size, 4, none⟩ = some vp) (first | (go_keep; done) | exact ⟨p0, p1, p2, p3, p4⟩)
  (first
   | (go_at_call 35; (with_reducible refine (HL.out _).mono ?_); rintro e wn ⟨rfl, hbn⟩; have hbn' : Below w1.heap.size w1 wn := ((Below.refl w1.heap.size w1).drew).trans hbn; have p0 := (hbn'.cell (p := ⟨w.heap.size, 0, none⟩) hz).trans c0; have p1 := (hbn'.cell (p := ⟨w.heap.size, 1, none⟩) hz).trans c1; have p2 := (hbn'.cell (p := ⟨w.heap.size, 2, none⟩) hz).trans c2; have p3 := (hbn'.cell (p := ⟨w.heap.size, 3, none⟩) hz).trans c3; have p4 := (hbn'.cell (p := ⟨w.heap.size, 4, none⟩) hz).trans c4))
 all_goals
  go_wp2_with fail
  go_ret
  exact ⟨ret_int (by rw [Hl.out, Int.tmod_eq_emod_of_nonneg (by omega), IntWalk.i64_in ((x.b : Int) % 6) (by omega), IntWalk.i64_in _ (by omega)]), hbw.trans (hbn'.mono hbw.size)⟩
set_option maxRecDepth 100000 in
theorem hollow_any (k : Int) (w : World) : Calls Try.prog 79 #[.int .i64 k] w fun e w' => e = .returned (.bool (decide (7 ≤ k))) ∧ w = w' := by
 go_enter Try.func79, Try.ntmps79
 go_wp2_with fail
 go_ret
 exact ⟨rfl, rfl⟩
set_option maxRecDepth 100000 in
theorem keykind_any (k : Int) (w : World) : Calls Try.prog 62 #[.int .i64 k] w fun e w' => e = .returned (.bool (decide (1 ≤ k) && decide (k ≤ 4))) ∧ w = w' := by
 by_cases h1 : 1 ≤ k
 ·
  have d1 : decide (1 ≤ k) = true := decide_eq_true h1
  by_cases h2 : k ≤ 4
  ·
   have d2 : decide (k ≤ 4) = true := decide_eq_true h2
   go_enter Try.func62, Try.ntmps62
   go_wp2_with fail
   go_ret
   exact ⟨ret_bool (by simp [h1, h2]), rfl⟩
  have d2 : decide (k ≤ 4) = false := decide_eq_false h2
  go_enter Try.func62, Try.ntmps62
  go_wp2_with fail
  go_ret
  exact ⟨ret_bool (by first | (simp; done) | (simp; omega)), rfl⟩
 have d1 : decide (1 ≤ k) = false := decide_eq_false h1
 go_enter Try.func62, Try.ntmps62
 go_wp2_with fail
 go_ret
 exact ⟨ret_bool (by first | (simp; done) | (simp; omega)), rfl⟩
end Go.Proofs.Ytgeapglanckjpaa
namespace Go.Proofs.Ytgeapglanckjpaa
open Go.ChangeShapes Go.WideShapes Go.ChangeAt Go.RowKit
def firstF (p : Nat → Bool) : Nat → Nat → Option Nat
 | 0, _ => none
 | f + 1, k => if p k then some k else firstF p f (k + 1)
theorem firstF_some {p : Nat → Bool} : ∀ (f k j : Nat), firstF p f k = some j → k ≤ j ∧ j < k + f ∧ p j = true := by
 intro f
 induction f with
 | zero => intro k j h; simp [firstF] at h
 | succ f ih =>
  intro k j h
  rw [firstF] at h
  split at h
  ·
   next hp => injection h with h; subst h; exact ⟨Nat.le_refl _, by omega, hp⟩
  obtain ⟨h1, h2, h3⟩ := ih _ _ h
  exact ⟨by omega, by omega, h3⟩
def kindAt (xs : List Nod) (i : Nat) : Nat := match xs[i]? with | some x => kindN x | none => 0
theorem kindAt_get (xs : List Nod) (i : Nat) (h : i < xs.length) : kindAt xs i = kindN xs[i] := by
 unfold kindAt; rw [List.getElem?_eq_getElem h]
def hollowN (k : Nat) : Bool := decide (7 ≤ k)
def keyKindN (k : Nat) : Bool := decide (1 ≤ k) && decide (k ≤ 4)
def natI (o : Option Nat) : Int := match o with | some k => k | none => -1
def targetN (xs : List Nod) (i code : Nat) : Option Nat :=
 if hollowN (kindAt xs (code % xs.length)) || decide (code % xs.length < i) then some (code % xs.length)
 else if 0 < i then some (code % xs.length % i)
 else firstF (fun k => hollowN (kindAt xs k)) xs.length 0
def keyPlace (xs : List Nod) (code k : Nat) : Nat := (code + k) % xs.length
def keyN (xs : List Nod) (code : Nat) : Option Nat := (firstF (fun k => keyKindN (kindAt xs (keyPlace xs code k))) xs.length 0).map (keyPlace xs code)
theorem keyN_lt (xs : List Nod) (code k : Nat) (h : keyN xs code = some k) : k < xs.length ∧ keyKindN (kindAt xs k) = true := by
 unfold keyN at h
 cases h2 : firstF (fun k => keyKindN (kindAt xs (keyPlace xs code k))) xs.length 0 with
 | none => rw [h2] at h; simp at h
 | some j =>
  rw [h2] at h
  obtain ⟨h3, h4, h5⟩ := firstF_some _ _ _ h2
  simp at h
  subst h
  exact ⟨Nat.mod_lt _ (by omega), h5⟩
def idB (x : Nod) (i : Nat) : Bool := decide (x.a / 2 ^ i % 2 = 1)
def idsK (x : Nod) : Nat → List Int
 | 0 => []
 | k + 1 => idsK x k ++ (if idB x k then [((k + 1 : Nat) : Int)] else [])
def idsN (x : Nod) : List Int := if (idsK x 6).isEmpty then [1] else idsK x 6
theorem idsK_len (x : Nod) (k : Nat) : (idsK x k).length ≤ k := by
 induction k with
 | zero => simp [idsK]
 | succ k ih => rw [idsK, List.length_append]; split <;> simp <;> omega
theorem idsK_mem (x : Nod) (k : Nat) : ∀ a ∈ idsK x k, 1 ≤ a ∧ a ≤ k := by
 induction k with
 | zero => simp [idsK]
 | succ k ih =>
  intro a ha
  rw [idsK] at ha
  rcases List.mem_append.1 ha with h | h
  ·
   have := ih a h; omega
  split at h
  ·
   simp at h; omega
  simp at h
theorem idsN_pos (x : Nod) : 1 ≤ (idsN x).length ∧ (idsN x).length ≤ 6 := by
 unfold idsN
 split
 ·
  simp
 next h =>
 have := idsK_len x 6
 refine ⟨?_, this⟩
 cases h2 : idsK x 6 with
 | nil => rw [h2] at h; simp at h
 | cons a r => simp
theorem idsN_mem (x : Nod) : ∀ a ∈ idsN x, 1 ≤ a ∧ a ≤ 6 := by
 unfold idsN
 split
 ·
  simp
 exact idsK_mem x 6
/-! names -/
def nm1 (c : Nat) (k : Int) : List UInt8 := [UInt8.ofNat c, UInt8.ofNat (97 + k).toNat]
def typName (i : Nat) : List UInt8 := [UInt8.ofNat (65 + i)]
def initialN (xs : List Nod) (t code : Nat) : Val × Bool :=
 match xs[t]? with
 | none => (val0, false)
 | some x =>
  let k : Nat := if kindN x = 8 ∧ keyN xs 0 = none then 7 else kindN x
  if k = 5 ∨ k = 6 then (val0, false)
  else (.mk k (decide (k = 1 ∧ code % 2 = 1)) (if k = 2 then lowN x + (code : Int) % (highN x - lowN x + 1) else 0) (if k = 3 ∧ 0 < x.a % 4 ∧ code % 2 = 1 then [97] else []) (if k = 4 then (idsN x).getD (code % (idsN x).length) 0 else 0) [] [] [], true)
def partOf (xs : List Nod) (i : Nat) (record : Bool) (id : Nat) (p : Prt) : Option Mem :=
 match targetN xs i p.2.1 with
 | none => none
 | some t =>
  if 1 + p.1 % 12 = id then
   let d := if record && decide (2 ≤ p.2.2 % 4) then initialN xs t (p.2.2 / 4) else (val0, false)
   some { id := id, name := nm1 109 id, ty := t, crit := record && decide (p.2.2 % 4 = 1), hasDef := d.2, dflt := d.1 }
  else none
def partFor (xs : List Nod) (i : Nat) (record : Bool) (ps : List Prt) (id : Nat) : List Mem := (ps.findSome? (partOf xs i record id)).toList
def partsK (xs : List Nod) (i : Nat) (record : Bool) (ps : List Prt) : Nat → List Mem
 | 0 => []
 | k + 1 => partsK xs i record ps k ++ partFor xs i record ps (k + 1)
def partsN (xs : List Nod) (i : Nat) (record : Bool) (ps : List Prt) : List Mem := partsK xs i record ps 12
def typ0 : Typ := { kind := 0, name := [], low := 0, high := 0, max := 0, syms := [], mems := [], key := 0, elem := 0, opn := false }
def typN (xs : List Nod) (i : Nat) (x : Nod) : Typ :=
 let k := kindN x
 let nm := if namedB k then typName i else []
 if k = 2 then { typ0 with kind := 2, low := lowN x, high := highN x }
 else if k = 3 then { typ0 with kind := 3, max := ((x.a % 4 : Nat) : Int) }
 else if k = 4 then { typ0 with kind := 4, name := nm, opn := decide (x.b % 2 = 1), syms := (idsN x).map fun a => (a, nm1 115 a) }
 else if k = 5 then { typ0 with kind := 5, name := nm, mems := partsN xs i true x.parts }
 else if k = 6 then (if (partsN xs i false x.parts).isEmpty then { typ0 with kind := 5, name := nm } else { typ0 with kind := 6, name := nm, opn := decide (x.b % 2 = 1), mems := partsN xs i false x.parts })
 else if k = 7 then { typ0 with kind := 7, max := ((x.a % 4 : Nat) : Int), elem := ((x.c % xs.length : Nat) : Int) }
 else if k = 8 then (match keyN xs x.b with
  | some j => { typ0 with kind := 8, max := ((x.a % 4 : Nat) : Int), key := j, elem := ((x.c % xs.length : Nat) : Int) }
  | none => { typ0 with kind := 7, max := ((x.a % 4 : Nat) : Int), elem := ((x.c % xs.length : Nat) : Int) })
 else if k = 9 then { typ0 with kind := 9, elem := ((x.c % xs.length : Nat) : Int) }
 else { typ0 with kind := 1 }
def ofN (xs : List Nod) : List Typ := xs.mapIdx (typN xs)
def ofOk (xs : List Nod) : Bool := decide (1 ≤ xs.length) && decide (xs.length ≤ 5)
end Go.Proofs.Ytgeapglanckjpaa

/- What Equal, SameValue and their parts compute. What SameValue, SameValues and ref Equal compute. Members, types and schemas, and how memory reads as them; what Member and Symbol compute. What Member and Symbol of both packages compute. No condition. -/
import Derived.Test.YtgeapglanckjpaaGB
import Derived.Laws.StructEq
import Derived.StillTailTactics
set_option maxHeartbeats 1600000
namespace Go.Proofs.Ytgeapglanckjpaa
open Go.ChangeShapes Go.WideShapes Go.ChangeAt Go.RowKit
mutual
def sameV : Val → Val → Bool
 | .mk k b n s i ks is rs, .mk k' b' n' s' i' ks' is' rs' => decide (k = k' ∧ b = b' ∧ n = n' ∧ s = s' ∧ i = i' ∧ rs = rs') && (sameL ks ks' && sameL is is')
def sameL : List Val → List Val → Bool
 | [], [] => true
 | x :: r, y :: s => sameV x y && sameL r s
 | [], _ :: _ => false
 | _ :: _, [] => false
end
mutual
theorem sameV_iff : ∀ x y : Val, sameV x y = true ↔ x = y
 | .mk k b n s i ks is rs, .mk k' b' n' s' i' ks' is' rs' => by
  rw [sameV]
  simp only [Bool.and_eq_true, decide_eq_true_eq, sameL_iff ks ks', sameL_iff is is', Val.mk.injEq]
  constructor
  ·
   rintro ⟨⟨rfl, rfl, rfl, rfl, rfl, rfl⟩, rfl, rfl⟩; simp
  rintro ⟨rfl, rfl, rfl, rfl, rfl, rfl, rfl, rfl⟩; simp
theorem sameL_iff : ∀ x y : List Val, sameL x y = true ↔ x = y
 | [], [] => by simp [sameL]
 | x :: r, y :: s => by
  rw [sameL]
  simp only [Bool.and_eq_true, sameV_iff x y, sameL_iff r s, List.cons.injEq]
 | [], _ :: _ => by simp [sameL]
 | _ :: _, [] => by simp [sameL]
end
theorem sameV_eq (x y : Val) : sameV x y = (decide (x.kind = y.kind ∧ x.bool = y.bool ∧ x.num = y.num ∧ x.str = y.str ∧ x.id = y.id ∧ x.rest = y.rest) && (sameL x.keys y.keys && sameL x.items y.items)) := by
 cases x; cases y; rw [sameV]; rfl
theorem sameL_len (x y : List Val) (h : x.length ≠ y.length) : sameL x y = false := by
 cases hs : sameL x y with
 | false => rfl
 | true => exact absurd (congrArg List.length ((sameL_iff x y).1 hs)) h
theorem sameL_ne (x y : List Val) (k : Nat) (h1 : k < x.length) (h2 : k < y.length) (h : sameV x[k] y[k] = false) : sameL x y = false := by
 cases hs : sameL x y with
 | false => rfl
 | true =>
  obtain rfl := (sameL_iff x y).1 hs
  rw [(sameV_iff _ _).2 rfl] at h
  cases h
def rawA (r : Raw) : Value := .agg #[.int .i64 r.1, .string ⟨r.2.toArray⟩]
theorem bytes_beq (a b : List UInt8) : (({ data := a.toArray } : ByteArray).toList == ({ data := b.toArray } : ByteArray).toList) = decide (a = b) := by
 rw [ByteArray.toList_eq, ByteArray.toList_eq]
 by_cases h : a = b <;> simp [h]
theorem eq_raw (x y : Raw) (w : World) : (Op.equalIn 10000 56 (rawA x) (rawA y)).run Try.prog w = .ok (decide (x = y)) w := by
 obtain ⟨x0, x3⟩ := x
 obtain ⟨y0, y3⟩ := y
 have u0 := Try.underlying3
 have u2 := Try.underlying9
 have hS : Try.prog.underlying 56 = some (.struct (Try.prog.fieldsOf 56)) := by kernel_rfl
 have hp : Try.prog.stoodInHeld 56 = false := by kernel_rfl
 rw [show (10000 : Nat) = 9999 + 1 from rfl, rawA, rawA, run_equalIn_agg w 9999 56 _ _ hS hp]
 simp only [Program.fieldsOf, Try.underlying56]
 have hb := bytes_beq x3 y3
 go_simp
 by_cases h1 : x0 = y0 <;> by_cases h4 : x3 = y3 <;> simp [h1, h4]
theorem neq_raw (x y : Raw) : ∀ W, (binOp .neq 56 (rawA x) (rawA y)).run Try.prog W = .ok (.bool (!decide (x = y))) W := fun W => by
 rw [rawA, rawA, run_neq_struct, ← rawA, ← rawA, eq_raw]; rfl
set_option maxRecDepth 100000 in
theorem eqraws_any (xs ys : List Raw) (va vb : Value) (w : World) (hlx : xs.length ≤ 140737488351232) (hly : ys.length ≤ 140737488351232) (hx : Rd w w.heap.size 2 va xs.length (rawsV xs)) (hy : Rd w w.heap.size 2 vb ys.length (rawsV ys)) :
  Calls Try.prog 31 #[va, vb] w fun e w' => e = .returned (.bool (decide (xs = ys))) ∧ Below w.heap.size w w' := by
 obtain ⟨A, c, rfl, hc⟩ := hx.form
 obtain ⟨B, d, rfl, hd⟩ := hy.form
 by_cases hl : xs.length = ys.length
 ·
  have HL := Lib.hid hl
  have h1 : ((xs.length : Int) != (ys.length : Int)) = false := by simp [hl]
  have hl' : (xs.length : Int) ≤ ys.length := by omega
  clear hl
  go_enter Try.func31, Try.ntmps31
  go_wp2
  go_loopw [13] (fun i wr => ∃ k : Nat, k ≤ xs.length ∧ i = .int .i64 k ∧ xs.take k = ys.take k ∧ Below w.heap.size w wr) (fun i _ => xs.length - (intOf i).toNat)
  case atStart => exact ⟨0, by omega, rfl, rfl, Below.refl _ _⟩
  case round =>
   obtain ⟨k, hk, rfl, hp, hb⟩ := hrel
   have Hp := Lib.hid hp
   clear hp
   by_cases hlt : k < xs.length
   ·
    obtain ⟨b, o, rfl, hbb, hcell⟩ := (hx.below hb).at_ (by omega)
    obtain ⟨b', o', rfl, hbb', hcell'⟩ := (hy.below hb).at_ (by omega)
    have hlt' : k < ys.length := by omega
    obtain ⟨hc0, hc1⟩ := rawV_at hcell k hlt
    obtain ⟨hd0, hd1⟩ := rawV_at hcell' k hlt'
    clear hcell hcell'
    have hi1 : (k : Int) < xs.length := by omega
    have hi2 : (k : Int) < ys.length := by omega
    have Hx : Hid (xs.take (k+1) = xs.take k ++ [xs[k]]) := List.take_succ_eq_append_getElem hlt
    have Hy : Hid (ys.take (k+1) = ys.take k ++ [ys[k]]) := List.take_succ_eq_append_getElem hlt'
    have Hne : Hid (xs[k] ≠ ys[k] → xs ≠ ys) := fun h e => h (by subst e; rfl)
    generalize xs[k] = x at *
    generalize ys[k] = y at *
    have hq := neq_raw x y
    have hg : Try.prog.eqGuardType Try.prog.depth 56 = false := by kernel_rfl
    by_cases he : x = y
    ·
     rw [decide_eq_true he] at hq
     have He := Lib.hid he
     clear he
     simp only [rawA, Bool.not_true] at hq
     go_wp2
     go_quiet (fail)
     go_wp2
     go_roundw
     case rel => exact ⟨k + 1, by omega, by go_num, by rw [Hx.out, Hy.out, Hp.out, He.out], below_drewN hb _⟩
     case measure => simp [intOf]; omega
    rw [decide_eq_false he] at hq
    have He := Lib.hid he
    clear he
    simp only [rawA, Bool.not_false] at hq
    go_wp2
    go_quiet (fail)
    go_wp2
    go_ret
    exact ⟨ret_bool (decide_eq_false (Hne.out He.out)).symm, below_drewN hb _⟩
   go_wp2
   go_ret
   refine ⟨ret_bool ?_, hb⟩
   have e1 := Hp.out
   rw [List.take_of_length_le (by omega), List.take_of_length_le (by have := HL.out; omega)] at e1
   exact (decide_eq_true e1).symm
 have h1 : ((xs.length : Int) != (ys.length : Int)) = true := by rw [bne_iff_ne]; omega
 have HL := Lib.hid hl
 clear hl
 go_enter Try.func31, Try.ntmps31
 go_wp2
 go_ret
 refine ⟨ret_bool ?_, Below.refl _ _⟩
 exact (decide_eq_false fun e => HL.out (by rw [e])).symm
theorem sameL_take (xs ys : List Val) (k : Nat) (h1 : k < xs.length) (h2 : k < ys.length) (hp : xs.take k = ys.take k) (h : sameV xs[k] ys[k] = true) : xs.take (k+1) = ys.take (k+1) := by
 rw [List.take_succ_eq_append_getElem h1, List.take_succ_eq_append_getElem h2, hp, (sameV_iff _ _).1 h]
set_option maxRecDepth 100000 in
theorem eqfunc_any (xs ys : List Val) (va vb : Value) (w : World) (hlx : xs.length ≤ 140737488351232) (hly : ys.length ≤ 140737488351232) (hx : RdVals w w.heap.size va xs) (hy : RdVals w w.heap.size vb ys)
  (ih : ∀ (x y : Val) (vk vi vr vk' vi' vr' : Value) (W : World), x ∈ xs → ValAt W W.heap.size x vk vi vr → ValAt W W.heap.size y vk' vi' vr' → Calls Try.prog 15 #[valA x vk vi vr, valA y vk' vi' vr'] W fun e w' => e = .returned (.bool (sameV x y)) ∧ Below W.heap.size W w') :
  Calls Try.prog 32 #[va, vb, .func (.func 15) #[] #[]] w fun e w' => e = .returned (.bool (sameL xs ys)) ∧ Below w.heap.size w w' := by
 have IH := Lib.hid ih
 obtain ⟨A, c, rfl, hc⟩ := hx.form
 obtain ⟨B, d, rfl, hd⟩ := hy.form
 have HX := Lib.hid hx
 have HY := Lib.hid hy
 clear hx hy ih
 by_cases hl : xs.length = ys.length
 ·
  have HL := Lib.hid hl
  have h1 : ((xs.length : Int) != (ys.length : Int)) = false := by simp [hl]
  have hl' : (xs.length : Int) ≤ ys.length := by omega
  clear hl
  go_enter Try.func32, Try.ntmps32
  go_wp2
  go_loopw [17] (fun i wr => ∃ k : Nat, k ≤ xs.length ∧ i = .int .i64 k ∧ xs.take k = ys.take k ∧ Below w.heap.size w wr) (fun i _ => xs.length - (intOf i).toNat)
  case atStart => exact ⟨0, by omega, rfl, rfl, Below.refl _ _⟩
  case round =>
   obtain ⟨k, hk, rfl, hp, hb⟩ := hrel
   have Hp := Lib.hid hp
   clear hp
   by_cases hlt : k < xs.length
   ·
    have hlt' : k < ys.length := by omega
    obtain ⟨b, o, rfl, hbb, hel⟩ := (HX.out.on hb).elem (by omega)
    obtain ⟨b', o', rfl, hbb', hel'⟩ := (HY.out.on hb).elem (by omega)
    obtain ⟨yk, yi, yr, hcells, hva⟩ := hel k hlt
    obtain ⟨yk', yi', yr', hcells', hva'⟩ := hel' k hlt'
    have Htk := Lib.hid (sameL_take xs ys k hlt hlt' Hp.out)
    have Hne := Lib.hid (sameL_ne xs ys k hlt hlt')
    have hmem : xs[k] ∈ xs := List.getElem_mem hlt
    have hi1 : (k : Int) < xs.length := by omega
    have hi2 : (k : Int) < ys.length := by omega
    generalize xs[k] = x at *
    generalize ys[k] = y at *
    obtain ⟨A1, n1, A2, n2, A3, n3, rfl, rfl, rfl, -, -, -⟩ := hva.forms
    obtain ⟨B1, k1, B2, k2, B3, k3, rfl, rfl, rfl, -, -, -⟩ := hva'.forms
    obtain ⟨c0, c1, c2, c3, c4, c5, c6, c7⟩ := hcells
    have h2b := al2 wr
    have HC' := Cells8.below hcells' ((Below.refl wr.heap.size wr).alloc (Nat.le_refl _) (.cells #[.int .i64 x.kind, .bool x.bool, .int .i64 x.num, .string ⟨x.str.toArray⟩, .int .i64 x.id, .slice A1 x.keys.length n1, .slice A2 x.items.length n2, .slice A3 x.rest.length n3] 34)) hbb'
    obtain ⟨d0, d1, d2, d3, d4, d5, d6, d7⟩ := hcells'
    have HA := Lib.hid hva
    have HA' := Lib.hid hva'
    have Hmem := Lib.hid hmem
    clear hel hel' hva hva' hmem
    go_wp2_with fail
    refine (IH.out x y _ _ _ _ _ _ _ Hmem.out (HA.out.on (h2b _ _)) (HA'.out.on (h2b _ _))).mono ?_
    rintro e w2 ⟨rfl, hb2⟩
    have hb02 := (hb.trans ((h2b _ _).mono hb.size)).trans (hb2.mono (hb.trans ((h2b _ _).mono hb.size)).size)
    clear hb2 h2b HC' hb
    cases hsv : sameV x y with
    | true =>
     have Hsv := Lib.hid (Htk.out hsv)
     clear hsv
     go_wp2_with fail
     go_roundw
     case rel => exact ⟨k + 1, by omega, by go_num, Hsv.out, hb02⟩
     case measure => simp [intOf]; omega
    | false =>
     have Hsv := Lib.hid (Hne.out hsv)
     clear hsv
     go_wp2_with fail
     go_ret
     exact ⟨ret_bool Hsv.out.symm, hb02⟩
   go_wp2
   go_ret
   refine ⟨ret_bool ?_, hb⟩
   have e1 := Hp.out
   rw [List.take_of_length_le (by omega), List.take_of_length_le (by have := HL.out; omega)] at e1
   exact ((sameL_iff _ _).2 e1).symm
 have h1 : ((xs.length : Int) != (ys.length : Int)) = true := by rw [bne_iff_ne]; omega
 have HL := Lib.hid hl
 clear hl
 go_enter Try.func32, Try.ntmps32
 go_wp2
 go_ret
 exact ⟨ret_bool (sameL_len _ _ HL.out).symm, Below.refl _ _⟩
set_option maxRecDepth 100000 in
theorem vequal_any : ∀ (N : Nat) (x y : Val) (vk vi vr vk' vi' vr' : Value) (w : World), nodes x < N → ValAt w w.heap.size x vk vi vr → ValAt w w.heap.size y vk' vi' vr' →
  Calls Try.prog 15 #[valA x vk vi vr, valA y vk' vi' vr'] w fun e w' => e = .returned (.bool (sameV x y)) ∧ Below w.heap.size w w' := by
 intro N
 induction N with
 | zero => intro x y vk vi vr vk' vi' vr' w h; omega
 | succ N ih =>
  intro x y vk vi vr vk' vi' vr' w hN hv hv'
  have hne := nodes_eq x
  have IH := Lib.hid ih
  have hkeys := hv.keys
  have hitems := hv.items
  have hrest := hv.rest
  have hkeys' := hv'.keys
  have hitems' := hv'.items
  have hrest' := hv'.rest
  obtain ⟨hkl, hil, hrl⟩ := hv.lens
  obtain ⟨hkl', hil', hrl'⟩ := hv'.lens
  have hsl := hv.strl
  have hsl' := hv'.strl
  obtain ⟨A1, n1, A2, n2, A3, n3, rfl, rfl, rfl, -, -, -⟩ := hv.forms
  obtain ⟨B1, k1, B2, k2, B3, k3, rfl, rfl, rfl, -, -, -⟩ := hv'.forms
  have hNk : nodesL x.keys + nodesL x.items < N := by omega
  clear hv hv' ih hne
  have Hall : True := trivial
  have h0b := al2 w
  by_cases e0 : x.kind = y.kind
  ·
   have t0 : (x.kind == y.kind) = true := by simp [e0]
   by_cases e1 : x.bool = y.bool
   ·
    have t1 : (x.bool == y.bool) = true := by simp [e1]
    by_cases e2 : x.num = y.num
    ·
     have t2 : (x.num == y.num) = true := by simp [e2]
     by_cases e3 : x.str = y.str
     ·
      have t3 : (x.str == y.str) = true := by simp [e3]
      by_cases e4 : x.id = y.id
      ·
       have t4 : (x.id == y.id) = true := by simp [e4]
       have hse : sameV x y = (decide (x.rest = y.rest) && (sameL x.keys y.keys && sameL x.items y.items)) := by rw [sameV_eq]; simp [e0, e1, e2, e3, e4]
       have Hse := Lib.hid hse
       clear hse e0 e1 e2 e3 e4
       go_enter Try.func15, Try.ntmps15
       go_wp2_with fail
       generalize hw0 : (w.alloc _).alloc _ = w0 at *
       have h00 : Below w.heap.size w w0 := by rw [← hw0]; exact h0b _ _
       have HX0 : Has w0 w.heap.size 34 #[.int .i64 x.kind, .bool x.bool, .int .i64 x.num, .string ⟨x.str.toArray⟩, .int .i64 x.id, .slice A1 x.keys.length n1, .slice A2 x.items.length n2, .slice A3 x.rest.length n3] := by rw [← hw0]; exact (Has.made _ _ _).alloc _
       have HY0 : Has w0 (w.heap.size + 1) 34 #[.int .i64 y.kind, .bool y.bool, .int .i64 y.num, .string ⟨y.str.toArray⟩, .int .i64 y.id, .slice B1 y.keys.length k1, .slice B2 y.items.length k2, .slice B3 y.rest.length k3] := by rw [← hw0]; simpa using Has.made (w.alloc _) _ _
       clear hw0 h0b
       have hz0 := HY0.here
       have hz0' : w.heap.size < w0.heap.size := by omega
       have HK := Lib.hid (hkeys.on h00)
       have HK' := Lib.hid (hkeys'.on h00)
       have HI := Lib.hid (hitems.on h00)
       have HI' := Lib.hid (hitems'.on h00)
       refine (eqraws_any x.rest y.rest _ _ _ hrl hrl' ((hrest.below h00).mono h00.size) ((hrest'.below h00).mono h00.size)).mono ?_
       rintro e w1 ⟨rfl, hb1⟩
       have h01 := h00.trans (hb1.mono h00.size)
       have HX1 := HX0.below hb1 hz0'
       have HY1 := HY0.below hb1 hz0
       have hz1 : w.heap.size + 1 < w1.heap.size := Nat.lt_of_lt_of_le hz0 hb1.size
       have hz1' : w.heap.size < w1.heap.size := by omega
       have HK := Lib.hid (HK.out.on hb1)
       have HK' := Lib.hid (HK'.out.on hb1)
       have HI := Lib.hid (HI.out.on hb1)
       have HI' := Lib.hid (HI'.out.on hb1)
       have cx := HX1.cell 5
       have cy := HY1.cell 5
       simp only [gl3] at cx cy
       have HX1 := Lib.hid HX1
       have HY1 := Lib.hid HY1
       clear hb1 HX0 HY0 hkeys hkeys' hitems hitems' hrest hrest'
       cases hdr : decide (x.rest = y.rest) with
       | false =>
        rw [hdr] at Hse
        clear hdr
        go_wp2_with fail
        go_ret
        exact ⟨ret_bool Hse.out.symm, h01⟩
       | true =>
        rw [hdr] at Hse
        clear hdr
        go_wp2_with fail
        refine (eqfunc_any x.keys y.keys _ _ _ hkl hkl' HK.out HK'.out (fun p q _ _ _ _ _ _ W hp h1 h2 => IH.out p q _ _ _ _ _ _ W (by have := nodesL_mem x.keys p hp; omega) h1 h2)).mono ?_
        rintro e w2 ⟨rfl, hb2⟩
        have h02 := h01.trans (hb2.mono h01.size)
        have HX2 := HX1.out.below hb2 hz1'
        have HY2 := HY1.out.below hb2 hz1
        have HI := Lib.hid (HI.out.on hb2)
        have HI' := Lib.hid (HI'.out.on hb2)
        clear cx cy
        have cx := HX2.cell 6
        have cy := HY2.cell 6
        simp only [gl3] at cx cy
        have HX2 := Lib.hid HX2
        have HY2 := Lib.hid HY2
        clear hb2
        cases hdk : sameL x.keys y.keys with
        | false =>
         rw [hdk] at Hse
         clear hdk
         go_wp2_with fail
         go_ret
         exact ⟨ret_bool Hse.out.symm, h02⟩
        | true =>
         rw [hdk] at Hse
         clear hdk
         go_wp2_with fail
         refine (eqfunc_any x.items y.items _ _ _ hil hil' HI.out HI'.out (fun p q _ _ _ _ _ _ W hp h1 h2 => IH.out p q _ _ _ _ _ _ W (by have := nodesL_mem x.items p hp; omega) h1 h2)).mono ?_
         rintro e w3 ⟨rfl, hb3⟩
         go_wp2_with fail
         go_ret
         exact ⟨ret_bool (by rw [Hse.out]; rfl), h02.trans (hb3.mono h02.size)⟩
      have t4 : (x.id == y.id) = false := by simpa using e4
      have hs : Hid (sameV x y = false) := by show _ = _; rw [sameV_eq, decide_eq_false (fun h => e4 h.2.2.2.2.1)]; rfl
      clear e0 e1 e2 e3 e4 Hall hkeys hkeys' hitems hitems' hrest hrest'
      go_enter Try.func15, Try.ntmps15
      go_wp2
      go_ret
      exact ⟨ret_bool hs.out.symm, h0b _ _⟩
     have t3 : (x.str == y.str) = false := by simpa using e3
     have hs : Hid (sameV x y = false) := by show _ = _; rw [sameV_eq, decide_eq_false (fun h => e3 h.2.2.2.1)]; rfl
     clear e0 e1 e2 e3 Hall hkeys hkeys' hitems hitems' hrest hrest'
     go_enter Try.func15, Try.ntmps15
     go_wp2
     go_ret
     exact ⟨ret_bool hs.out.symm, h0b _ _⟩
    have t2 : (x.num == y.num) = false := by simpa using e2
    have hs : Hid (sameV x y = false) := by show _ = _; rw [sameV_eq, decide_eq_false (fun h => e2 h.2.2.1)]; rfl
    clear e0 e1 e2 Hall hkeys hkeys' hitems hitems' hrest hrest'
    go_enter Try.func15, Try.ntmps15
    go_wp2
    go_ret
    exact ⟨ret_bool hs.out.symm, h0b _ _⟩
   have t1 : (x.bool == y.bool) = false := by simpa using e1
   have hs : Hid (sameV x y = false) := by show _ = _; rw [sameV_eq, decide_eq_false (fun h => e1 h.2.1)]; rfl
   clear e0 e1 Hall hkeys hkeys' hitems hitems' hrest hrest'
   go_enter Try.func15, Try.ntmps15
   go_wp2
   go_ret
   exact ⟨ret_bool hs.out.symm, h0b _ _⟩
  have t0 : (x.kind == y.kind) = false := by simpa using e0
  have hs : Hid (sameV x y = false) := by show _ = _; rw [sameV_eq, decide_eq_false (fun h => e0 h.1)]; rfl
  clear e0 Hall hkeys hkeys' hitems hitems' hrest hrest'
  go_enter Try.func15, Try.ntmps15
  go_wp2
  go_ret
  exact ⟨ret_bool hs.out.symm, h0b _ _⟩
end Go.Proofs.Ytgeapglanckjpaa
namespace Go.Proofs.Ytgeapglanckjpaa
open Go.ChangeShapes Go.WideShapes Go.ChangeAt Go.RowKit
end Go.Proofs.Ytgeapglanckjpaa
namespace Go.Proofs.Ytgeapglanckjpaa
open Go.ChangeShapes Go.WideShapes Go.ChangeAt Go.RowKit
structure Mem where
 id : Int
 name : List UInt8
 ty : Int
 crit : Bool
 hasDef : Bool
 dflt : Val
structure Typ where
 kind : Int
 name : List UInt8
 low : Int
 high : Int
 max : Int
 syms : List Raw
 mems : List Mem
 key : Int
 elem : Int
 opn : Bool
structure MemAt (w : World) (B : Nat) (m : Mem) (vk vi vr : Value) : Prop where
 ints : I64 m.id ∧ I64 m.ty
 namel : m.name.length ≤ 140737488351232
 dflt : ValAt w B m.dflt vk vi vr
def memV (m : Mem) (vk vi vr : Value) : List Value := [.int .i64 m.id, .string ⟨m.name.toArray⟩, .int .i64 m.ty, .bool m.crit, .bool m.hasDef] ++ valV m.dflt vk vi vr
def RdMem (w : World) (B : Nat) (m : Mem) (cs : List Value) : Prop := ∃ vk vi vr, cs = memV m vk vi vr ∧ MemAt w B m vk vi vr
def RdMems (w : World) (B : Nat) (v : Value) (ms : List Mem) : Prop := ∃ c : Nat → List Value, Row w B 13 v ms.length c ∧ ∀ (i : Nat) (h : i < ms.length), RdMem w B ms[i] (c i)
theorem ValAt.keep {w w' : World} {B B' : Nat} {x : Val} {vk vi vr : Value} (h : ValAt w B x vk vi vr) (hk : ∀ p : Addr, p.block < B → w'.cell? p = w.cell? p) (hB : B ≤ B') : ValAt w' B' x vk vi vr :=
 ⟨h.ints, h.strl, h.lens, h.raws, h.keys.keep hk hB, h.items.keep hk hB, (h.rest.keep hk).mono hB⟩
theorem MemAt.keep {w w' : World} {B B' : Nat} {x : Mem} {vk vi vr : Value} (h : MemAt w B x vk vi vr) (hk : ∀ p : Addr, p.block < B → w'.cell? p = w.cell? p) (hB : B ≤ B') : MemAt w' B' x vk vi vr :=
 ⟨h.ints, h.namel, h.dflt.keep hk hB⟩
theorem MemAt.on {w w' : World} {x : Mem} {vk vi vr : Value} (h : MemAt w w.heap.size x vk vi vr) (hb : Below w.heap.size w w') : MemAt w' w'.heap.size x vk vi vr := h.keep (fun _ hp => hb.cell hp) hb.size
theorem RdMem.keep {w w' : World} {B B' : Nat} {x : Mem} {cs : List Value} (h : RdMem w B x cs) (hk : ∀ p : Addr, p.block < B → w'.cell? p = w.cell? p) (hB : B ≤ B') : RdMem w' B' x cs := by
 obtain ⟨a, b, c, h1, h2⟩ := h
 exact ⟨a, b, c, h1, h2.keep hk hB⟩
theorem RdMems.keep {w w' : World} {B B' : Nat} {v : Value} {xs : List Mem} (h : RdMems w B v xs) (hk : ∀ p : Addr, p.block < B → w'.cell? p = w.cell? p) (hB : B ≤ B') : RdMems w' B' v xs := by
 obtain ⟨c, h1, h2⟩ := h
 exact ⟨c, (h1.keep hk).mono hB, fun i hi => (h2 i hi).keep hk hB⟩
theorem RdMems.on {w w' : World} {v : Value} {xs : List Mem} (h : RdMems w w.heap.size v xs) (hb : Below w.heap.size w w') : RdMems w' w'.heap.size v xs := h.keep (fun _ hp => hb.cell hp) hb.size
theorem RdMems.form {w : World} {B : Nat} {v : Value} {xs : List Mem} (h : RdMems w B v xs) : ∃ A c, v = .slice A xs.length c ∧ xs.length ≤ c := by
 obtain ⟨_, ⟨A, c, h1, h2, _⟩, _⟩ := h
 exact ⟨A, c, h1, h2⟩
def Cells13 (w : World) (b o : Nat) (m : Mem) (vk vi vr : Value) : Prop :=
 w.cell? ⟨b, o, none⟩ = some (.int .i64 m.id) ∧ w.cell? ⟨b, o + 1, none⟩ = some (.string ⟨m.name.toArray⟩) ∧ w.cell? ⟨b, o + 2, none⟩ = some (.int .i64 m.ty) ∧ w.cell? ⟨b, o + 3, none⟩ = some (.bool m.crit) ∧ w.cell? ⟨b, o + 4, none⟩ = some (.bool m.hasDef) ∧
 w.cell? ⟨b, o + 5, none⟩ = some (.int .i64 m.dflt.kind) ∧ w.cell? ⟨b, o + 6, none⟩ = some (.bool m.dflt.bool) ∧ w.cell? ⟨b, o + 7, none⟩ = some (.int .i64 m.dflt.num) ∧ w.cell? ⟨b, o + 8, none⟩ = some (.string ⟨m.dflt.str.toArray⟩) ∧ w.cell? ⟨b, o + 9, none⟩ = some (.int .i64 m.dflt.id) ∧
 w.cell? ⟨b, o + 10, none⟩ = some vk ∧ w.cell? ⟨b, o + 11, none⟩ = some vi ∧ w.cell? ⟨b, o + 12, none⟩ = some vr
theorem RdMems.elem {w : World} {B n cap : Nat} {A : Option Addr} {xs : List Mem} (h : RdMems w B (.slice A n cap) xs) (hpos : 0 < xs.length) : ∃ b o, A = some ⟨b, o, none⟩ ∧ b < B ∧ ∀ k (hk : k < xs.length), ∃ vk vi vr, Cells13 w b (o + k * 13) xs[k] vk vi vr ∧ MemAt w B xs[k] vk vi vr := by
 obtain ⟨c, ⟨A', c', hv, hc, h2⟩, h3⟩ := h
 injection hv with h4 h5 h6
 subst h4
 rcases h2 with h2 | ⟨b, o, hA, hb, hcell⟩
 ·
  omega
 refine ⟨b, o, hA, hb, fun k hk => ?_⟩
 obtain ⟨vk, vi, vr, hcs, hm⟩ := h3 k hk
 have hc := hcell k hk
 rw [hcs] at hc
 exact ⟨vk, vi, vr, ⟨hc 0 _ rfl, hc 1 _ rfl, hc 2 _ rfl, hc 3 _ rfl, hc 4 _ rfl, hc 5 _ rfl, hc 6 _ rfl, hc 7 _ rfl, hc 8 _ rfl, hc 9 _ rfl, hc 10 _ rfl, hc 11 _ rfl, hc 12 _ rfl⟩, hm⟩
structure TypAt (w : World) (B : Nat) (t : Typ) (vs vm : Value) : Prop where
 ints : I64 t.kind ∧ I64 t.low ∧ I64 t.high ∧ I64 t.max ∧ I64 t.key ∧ I64 t.elem
 namel : t.name.length ≤ 140737488351232
 lens : t.syms.length ≤ 140737488351232 ∧ t.mems.length ≤ 140737488351232
 symsin : ∀ r ∈ t.syms, RawIn r
 syms : Rd w B 2 vs t.syms.length (rawsV t.syms)
 mems : RdMems w B vm t.mems
theorem TypAt.keep {w w' : World} {B B' : Nat} {x : Typ} {vs vm : Value} (h : TypAt w B x vs vm) (hk : ∀ p : Addr, p.block < B → w'.cell? p = w.cell? p) (hB : B ≤ B') : TypAt w' B' x vs vm :=
 ⟨h.ints, h.namel, h.lens, h.symsin, (h.syms.keep hk).mono hB, h.mems.keep hk hB⟩
theorem TypAt.on {w w' : World} {x : Typ} {vs vm : Value} (h : TypAt w w.heap.size x vs vm) (hb : Below w.heap.size w w') : TypAt w' w'.heap.size x vs vm := h.keep (fun _ hp => hb.cell hp) hb.size
theorem TypAt.forms {w : World} {B : Nat} {x : Typ} {vs vm : Value} (h : TypAt w B x vs vm) : ∃ A1 c1 A2 c2, vs = .slice A1 x.syms.length c1 ∧ vm = .slice A2 x.mems.length c2 ∧ x.syms.length ≤ c1 ∧ x.mems.length ≤ c2 := by
 obtain ⟨A1, c1, e1, h1⟩ := h.syms.form
 obtain ⟨A2, c2, e2, h2⟩ := h.mems.form
 exact ⟨A1, c1, A2, c2, e1, e2, h1, h2⟩
def typV (t : Typ) (vs vm : Value) : List Value := [.int .i64 t.kind, .string ⟨t.name.toArray⟩, .int .i64 t.low, .int .i64 t.high, .int .i64 t.max, vs, vm, .int .i64 t.key, .int .i64 t.elem, .bool t.opn]
abbrev typA (t : Typ) (vs vm : Value) : Value := .agg #[.int .i64 t.kind, .string ⟨t.name.toArray⟩, .int .i64 t.low, .int .i64 t.high, .int .i64 t.max, vs, vm, .int .i64 t.key, .int .i64 t.elem, .bool t.opn]
def RdTyps (w : World) (B : Nat) (v : Value) (ts : List Typ) : Prop := ∃ c : Nat → List Value, Row w B 10 v ts.length c ∧ ∀ (i : Nat) (h : i < ts.length), ∃ vs vm, c i = typV ts[i] vs vm ∧ TypAt w B ts[i] vs vm
theorem RdTyps.keep {w w' : World} {B B' : Nat} {v : Value} {xs : List Typ} (h : RdTyps w B v xs) (hk : ∀ p : Addr, p.block < B → w'.cell? p = w.cell? p) (hB : B ≤ B') : RdTyps w' B' v xs := by
 obtain ⟨c, h1, h2⟩ := h
 refine ⟨c, (h1.keep hk).mono hB, fun i hi => ?_⟩
 obtain ⟨a, b, h3, h4⟩ := h2 i hi
 exact ⟨a, b, h3, h4.keep hk hB⟩
theorem RdTyps.on {w w' : World} {v : Value} {xs : List Typ} (h : RdTyps w w.heap.size v xs) (hb : Below w.heap.size w w') : RdTyps w' w'.heap.size v xs := h.keep (fun _ hp => hb.cell hp) hb.size
theorem RdTyps.form {w : World} {B : Nat} {v : Value} {xs : List Typ} (h : RdTyps w B v xs) : ∃ A c, v = .slice A xs.length c ∧ xs.length ≤ c := by
 obtain ⟨_, ⟨A, c, h1, h2, _⟩, _⟩ := h
 exact ⟨A, c, h1, h2⟩
def Cells10 (w : World) (b o : Nat) (t : Typ) (vs vm : Value) : Prop :=
 w.cell? ⟨b, o, none⟩ = some (.int .i64 t.kind) ∧ w.cell? ⟨b, o + 1, none⟩ = some (.string ⟨t.name.toArray⟩) ∧ w.cell? ⟨b, o + 2, none⟩ = some (.int .i64 t.low) ∧ w.cell? ⟨b, o + 3, none⟩ = some (.int .i64 t.high) ∧ w.cell? ⟨b, o + 4, none⟩ = some (.int .i64 t.max) ∧
 w.cell? ⟨b, o + 5, none⟩ = some vs ∧ w.cell? ⟨b, o + 6, none⟩ = some vm ∧ w.cell? ⟨b, o + 7, none⟩ = some (.int .i64 t.key) ∧ w.cell? ⟨b, o + 8, none⟩ = some (.int .i64 t.elem) ∧ w.cell? ⟨b, o + 9, none⟩ = some (.bool t.opn)
theorem RdTyps.elem {w : World} {B n cap : Nat} {A : Option Addr} {xs : List Typ} (h : RdTyps w B (.slice A n cap) xs) (hpos : 0 < xs.length) : ∃ b o, A = some ⟨b, o, none⟩ ∧ b < B ∧ ∀ k (hk : k < xs.length), ∃ vs vm, Cells10 w b (o + k * 10) xs[k] vs vm ∧ TypAt w B xs[k] vs vm := by
 obtain ⟨c, ⟨A', c', hv, hc, h2⟩, h3⟩ := h
 injection hv with h4 h5 h6
 subst h4
 rcases h2 with h2 | ⟨b, o, hA, hb, hcell⟩
 ·
  omega
 refine ⟨b, o, hA, hb, fun k hk => ?_⟩
 obtain ⟨vs, vm, hcs, hm⟩ := h3 k hk
 have hc := hcell k hk
 rw [hcs] at hc
 exact ⟨vs, vm, ⟨hc 0 _ rfl, hc 1 _ rfl, hc 2 _ rfl, hc 3 _ rfl, hc 4 _ rfl, hc 5 _ rfl, hc 6 _ rfl, hc 7 _ rfl, hc 8 _ rfl, hc 9 _ rfl⟩, hm⟩
theorem Cells10.below {w w' : World} {B b o : Nat} {x : Typ} {vs vm : Value} (h : Cells10 w b o x vs vm) (hb : Below B w w') (hlt : b < B) : Cells10 w' b o x vs vm := by
 obtain ⟨h0, h1, h2, h3, h4, h5, h6, h7, h8, h9⟩ := h
 exact ⟨(hb.cell hlt).trans h0, (hb.cell hlt).trans h1, (hb.cell hlt).trans h2, (hb.cell hlt).trans h3, (hb.cell hlt).trans h4, (hb.cell hlt).trans h5, (hb.cell hlt).trans h6, (hb.cell hlt).trans h7, (hb.cell hlt).trans h8, (hb.cell hlt).trans h9⟩
/-! the place of an ID -/
def idxF : List Int → Int → Nat → Option Nat
 | [], _, _ => none
 | a :: r, id, k => if a = id then some k else idxF r id (k + 1)
def idxI (o : Option Nat) : Int := match o with | some k => k | none => -1
def memIdx (t : Typ) (id : Int) : Option Nat := idxF (t.mems.map Mem.id) id 0
def symIdx (t : Typ) (id : Int) : Option Nat := idxF (t.syms.map Prod.fst) id 0
def pairV (o : Option Nat) : Value := .tuple #[.int .i64 (match o with | some k => (k : Int) | none => 0), .bool o.isSome]
set_option maxRecDepth 100000 in
theorem memc_any (m : Mem) (vk vi vr : Value) (p : Nat) (id : Int) (w : World) (hp : w.cell? ⟨p, 0, none⟩ = some (.int .i64 id)) (hlt : p < w.heap.size) :
  Calls Try.prog 57 #[.agg #[.int .i64 m.id, .string ⟨m.name.toArray⟩, .int .i64 m.ty, .bool m.crit, .bool m.hasDef, .int .i64 m.dflt.kind, .bool m.dflt.bool, .int .i64 m.dflt.num, .string ⟨m.dflt.str.toArray⟩, .int .i64 m.dflt.id, vk, vi, vr], .pointer (some ⟨p, 0, none⟩)] w fun e w' => e = .returned (.bool (m.id == id)) ∧ Below w.heap.size w w' := by
 go_enter Try.func57, Try.ntmps57
 go_wp2
 go_ret
 exact ⟨rfl, (Below.refl _ _).alloc (Nat.le_refl _) _⟩
set_option maxRecDepth 100000 in
theorem symc_any (r : Raw) (p : Nat) (id : Int) (w : World) (hp : w.cell? ⟨p, 0, none⟩ = some (.int .i64 id)) (hlt : p < w.heap.size) :
  Calls Try.prog 74 #[.agg #[.int .i64 r.1, .string ⟨r.2.toArray⟩], .pointer (some ⟨p, 0, none⟩)] w fun e w' => e = .returned (.bool (r.1 == id)) ∧ Below w.heap.size w w' := by
 go_enter Try.func74, Try.ntmps74
 go_wp2
 go_ret
 exact ⟨rfl, (Below.refl _ _).alloc (Nat.le_refl _) _⟩
end Go.Proofs.Ytgeapglanckjpaa
namespace Go.Proofs.Ytgeapglanckjpaa
open Go.ChangeShapes Go.WideShapes Go.ChangeAt Go.RowKit
theorem idxF_cons (a : Int) (r : List Int) (id : Int) (k : Nat) : idxF (a :: r) id k = if a = id then some k else idxF r id (k + 1) := rfl
theorem idxF_lt : ∀ (l : List Int) (id : Int) (k j : Nat), idxF l id k = some j → k ≤ j ∧ j < k + l.length := by
 intro l
 induction l with
 | nil => intro id k j h; simp [idxF] at h
 | cons a r ih =>
  intro id k j h
  rw [idxF] at h
  split at h
  ·
   injection h with h; subst h; simp
  have := ih id (k + 1) j h
  simp only [List.length_cons]; omega
theorem memIdx_lt (t : Typ) (id : Int) (j : Nat) (h : memIdx t id = some j) : j < t.mems.length := by
 have := idxF_lt _ _ _ _ h
 simpa using this.2
set_option maxRecDepth 100000 in
theorem memidx_any (ms : List Mem) (va : Value) (p : Nat) (id : Int) (w : World) (hl : ms.length ≤ 140737488351232) (hr : RdMems w w.heap.size va ms) (hp : w.cell? ⟨p, 0, none⟩ = some (.int .i64 id)) (hlt : p < w.heap.size) :
  Calls Try.prog 56 #[va, .func (.func 57) #[] #[.pointer (some ⟨p, 0, none⟩)]] w fun e w' => e = .returned (.int .i64 (idxI (idxF (ms.map Mem.id) id 0))) ∧ Below w.heap.size w w' := by
 obtain ⟨A, c, rfl, hc⟩ := hr.form
 have HR := Lib.hid hr
 have Hp := Lib.hid hp
 clear hr hp
 go_enter Try.func56, Try.ntmps56
 go_wp2
 go_loopw [8] (fun i wr => ∃ k : Nat, i = .int .i64 k ∧ k ≤ ms.length ∧ idxF (ms.map Mem.id) id 0 = idxF ((ms.drop k).map Mem.id) id k ∧ Below w.heap.size w wr) (fun i _ => ms.length - (intOf i).toNat)
 case atStart => exact ⟨0, rfl, by omega, rfl, Below.refl _ _⟩
 case round =>
  obtain ⟨k, rfl, hk, hix, hb⟩ := hrel
  by_cases hlk : k < ms.length
  ·
   obtain ⟨b, o, rfl, hbb, hel⟩ := (HR.out.on hb).elem (by omega)
   obtain ⟨vk, vi, vr, hcells, hm⟩ := hel k hlk
   rw [List.drop_eq_getElem_cons hlk, List.map_cons, idxF_cons] at hix
   generalize ms[k] = m at *
   obtain ⟨B1, k1, B2, k2, B3, k3, rfl, rfl, rfl, -, -, -⟩ := hm.dflt.forms
   obtain ⟨c0, c1, c2, c3, c4, c5, c6, c7, c8, c9, c10, c11, c12⟩ := hcells
   have hpw : wr.cell? ⟨p, 0, none⟩ = some (.int .i64 id) := (hb.cell hlt).trans Hp.out
   have hlw : p < wr.heap.size := Nat.lt_of_lt_of_le hlt hb.size
   have hi1 : (k : Int) < ms.length := by omega
   clear hel hm
   by_cases he : m.id = id
   ·
    rw [if_pos he] at hix
    have Hix := Lib.hid hix
    have ht : (m.id == id) = true := by simp [he]
    clear hix he
    go_wp2_with fail
    refine (memc_any m _ _ _ p id _ hpw hlw).mono ?_
    rintro e w2 ⟨rfl, hb2⟩
    go_wp2_with fail
    go_ret
    exact ⟨ret_int (by rw [Hix.out]; rfl), hb.trans (hb2.mono hb.size)⟩
   rw [if_neg he] at hix
   have Hix := Lib.hid hix
   have ht : (m.id == id) = false := by simpa using he
   clear hix he
   go_wp2_with fail
   refine (memc_any m _ _ _ p id _ hpw hlw).mono ?_
   rintro e w2 ⟨rfl, hb2⟩
   have hb02 := hb.trans (hb2.mono hb.size)
   clear hb2 hb hpw
   go_wp2_with fail
   go_roundw
   case rel => exact ⟨k + 1, by go_num, by omega, Hix.out, hb02⟩
   case measure => simp [intOf]; omega
  rw [List.drop_eq_nil_of_le (by omega)] at hix
  have Hix := Lib.hid hix
  clear hix
  go_wp2
  go_ret
  exact ⟨ret_int (by rw [Hix.out]; rfl), hb⟩
set_option maxRecDepth 100000 in
theorem symidx_any (ms : List Raw) (va : Value) (p : Nat) (id : Int) (w : World) (hl : ms.length ≤ 140737488351232) (hr : Rd w w.heap.size 2 va ms.length (rawsV ms)) (hp : w.cell? ⟨p, 0, none⟩ = some (.int .i64 id)) (hlt : p < w.heap.size) :
  Calls Try.prog 73 #[va, .func (.func 74) #[] #[.pointer (some ⟨p, 0, none⟩)]] w fun e w' => e = .returned (.int .i64 (idxI (idxF (ms.map Prod.fst) id 0))) ∧ Below w.heap.size w w' := by
 obtain ⟨A, c, rfl, hc⟩ := hr.form
 have HR := Lib.hid hr
 have Hp := Lib.hid hp
 clear hr hp
 go_enter Try.func73, Try.ntmps73
 go_wp2
 go_loopw [8] (fun i wr => ∃ k : Nat, i = .int .i64 k ∧ k ≤ ms.length ∧ idxF (ms.map Prod.fst) id 0 = idxF ((ms.drop k).map Prod.fst) id k ∧ Below w.heap.size w wr) (fun i _ => ms.length - (intOf i).toNat)
 case atStart => exact ⟨0, rfl, by omega, rfl, Below.refl _ _⟩
 case round =>
  obtain ⟨k, rfl, hk, hix, hb⟩ := hrel
  by_cases hlk : k < ms.length
  ·
   obtain ⟨b, o, rfl, hbb, hcell⟩ := (HR.out.below hb).at_ (by omega)
   obtain ⟨c0, c1⟩ := rawV_at hcell k hlk
   rw [List.drop_eq_getElem_cons hlk, List.map_cons, idxF_cons] at hix
   generalize ms[k] = m at *
   have hpw : wr.cell? ⟨p, 0, none⟩ = some (.int .i64 id) := (hb.cell hlt).trans Hp.out
   have hlw : p < wr.heap.size := Nat.lt_of_lt_of_le hlt hb.size
   have hi1 : (k : Int) < ms.length := by omega
   clear hcell
   by_cases he : m.1 = id
   ·
    rw [if_pos he] at hix
    have Hix := Lib.hid hix
    have ht : (m.1 == id) = true := by simp [he]
    clear hix he
    go_wp2_with fail
    refine (symc_any m p id _ hpw hlw).mono ?_
    rintro e w2 ⟨rfl, hb2⟩
    go_wp2_with fail
    go_ret
    exact ⟨ret_int (by rw [Hix.out]; rfl), hb.trans (hb2.mono hb.size)⟩
   rw [if_neg he] at hix
   have Hix := Lib.hid hix
   have ht : (m.1 == id) = false := by simpa using he
   clear hix he
   go_wp2_with fail
   refine (symc_any m p id _ hpw hlw).mono ?_
   rintro e w2 ⟨rfl, hb2⟩
   have hb02 := hb.trans (hb2.mono hb.size)
   clear hb2 hb hpw
   go_wp2_with fail
   go_roundw
   case rel => exact ⟨k + 1, by go_num, by omega, Hix.out, hb02⟩
   case measure => simp [intOf]; omega
  rw [List.drop_eq_nil_of_le (by omega)] at hix
  have Hix := Lib.hid hix
  clear hix
  go_wp2
  go_ret
  exact ⟨ret_int (by rw [Hix.out]; rfl), hb⟩
set_option maxRecDepth 100000 in
theorem member_any (t : Typ) (vs vm : Value) (id : Int) (w : World) (ht : TypAt w w.heap.size t vs vm) :
  Calls Try.prog 29 #[typA t vs vm, .int .i64 id] w fun e w' => e = .returned (pairV (memIdx t id)) ∧ Below w.heap.size w w' := by
 obtain ⟨A1, c1, A2, c2, rfl, rfl, -, -⟩ := ht.forms
 have h2b := al2 w
 have HT := Lib.hid ht
 have hl := ht.lens.2
 have hlt := idxF_lt (t.mems.map Mem.id) id 0
 rw [List.length_map] at hlt
 have hg := fun va p W h1 h2 h3 => memidx_any t.mems va p id W hl h1 h2 h3
 obtain ⟨o, ho⟩ : ∃ o, idxF (t.mems.map Mem.id) id 0 = o := ⟨_, rfl⟩
 have ho2 : memIdx t id = o := ho
 rw [ho2]
 rw [ho] at hg hlt
 clear ht ho ho2
 cases o with
 | none =>
  simp only [idxI] at hg
  have HG := Lib.hid hg
  clear hlt hg
  go_enter Try.func29, Try.ntmps29
  go_wp2_with fail
  refine (HG.out _ (w.heap.size + 1) _ ((HT.out.on (h2b _ _)).mems) (by go_simp) (by simp)).mono ?_
  rintro e w2 ⟨rfl, hb2⟩
  have h02 := (h2b _ _).trans (hb2.mono (h2b _ _).size)
  clear hb2 h2b
  go_wp2_with fail
  go_ret2
  exact ⟨rfl, h02⟩
 | some k =>
  have hk := (hlt k rfl).2
  simp only [idxI] at hg
  have HG := Lib.hid hg
  have hmx : max (k : Int) 0 = k := by omega
  clear hlt hg
  go_enter Try.func29, Try.ntmps29
  go_wp2_with fail
  refine (HG.out _ (w.heap.size + 1) _ ((HT.out.on (h2b _ _)).mems) (by go_simp) (by simp)).mono ?_
  rintro e w2 ⟨rfl, hb2⟩
  have h02 := (h2b _ _).trans (hb2.mono (h2b _ _).size)
  clear hb2 h2b
  go_wp2_with fail
  go_ret2
  exact ⟨rfl, h02⟩
set_option maxRecDepth 100000 in
theorem symbol_any (t : Typ) (vs vm : Value) (id : Int) (w : World) (ht : TypAt w w.heap.size t vs vm) :
  Calls Try.prog 47 #[typA t vs vm, .int .i64 id] w fun e w' => e = .returned (pairV (symIdx t id)) ∧ Below w.heap.size w w' := by
 obtain ⟨A1, c1, A2, c2, rfl, rfl, -, -⟩ := ht.forms
 have h2b := al2 w
 have HT := Lib.hid ht
 have hl := ht.lens.1
 have hlt := idxF_lt (t.syms.map Prod.fst) id 0
 rw [List.length_map] at hlt
 have hg := fun va p W h1 h2 h3 => symidx_any t.syms va p id W hl h1 h2 h3
 obtain ⟨o, ho⟩ : ∃ o, idxF (t.syms.map Prod.fst) id 0 = o := ⟨_, rfl⟩
 have ho2 : symIdx t id = o := ho
 rw [ho2]
 rw [ho] at hg hlt
 clear ht ho ho2
 cases o with
 | none =>
  simp only [idxI] at hg
  have HG := Lib.hid hg
  clear hlt hg
  go_enter Try.func47, Try.ntmps47
  go_wp2_with fail
  refine (HG.out _ (w.heap.size + 1) _ ((HT.out.on (h2b _ _)).syms) (by go_simp) (by simp)).mono ?_
  rintro e w2 ⟨rfl, hb2⟩
  have h02 := (h2b _ _).trans (hb2.mono (h2b _ _).size)
  clear hb2 h2b
  go_wp2_with fail
  go_ret2
  exact ⟨rfl, h02⟩
 | some k =>
  have hk := (hlt k rfl).2
  simp only [idxI] at hg
  have HG := Lib.hid hg
  have hmx : max (k : Int) 0 = k := by omega
  clear hlt hg
  go_enter Try.func47, Try.ntmps47
  go_wp2_with fail
  refine (HG.out _ (w.heap.size + 1) _ ((HT.out.on (h2b _ _)).syms) (by go_simp) (by simp)).mono ?_
  rintro e w2 ⟨rfl, hb2⟩
  have h02 := (h2b _ _).trans (hb2.mono (h2b _ _).size)
  clear hb2 h2b
  go_wp2_with fail
  go_ret2
  exact ⟨rfl, h02⟩
set_option maxRecDepth 100000 in
theorem rmember_any (t : Typ) (vs vm : Value) (id : Int) (w : World) (ht : TypAt w w.heap.size t vs vm) :
  Calls Try.prog 28 #[typA t vs vm, .int .i64 id] w fun e w' => e = .returned (pairV (memIdx t id)) ∧ Below w.heap.size w w' := by
 obtain ⟨A1, c1, A2, c2, rfl, rfl, -, -⟩ := ht.forms
 have HT := Lib.hid ht
 have hl := ht.lens.2
 clear ht
 go_enter Try.func28, Try.ntmps28
 go_wp2_with fail
 have HP := Has.made w 64 #[.int .i64 t.kind, .string ⟨t.name.toArray⟩, .int .i64 t.low, .int .i64 t.high, .int .i64 t.max, .slice A1 t.syms.length c1, .slice A2 t.mems.length c2, .int .i64 t.key, .int .i64 t.elem, .bool t.opn]
 have h01 := (Below.refl w.heap.size w).alloc (Nat.le_refl _) (.cells #[.int .i64 t.kind, .string ⟨t.name.toArray⟩, .int .i64 t.low, .int .i64 t.high, .int .i64 t.max, .slice A1 t.syms.length c1, .slice A2 t.mems.length c2, .int .i64 t.key, .int .i64 t.elem, .bool t.opn] 64)
 generalize w.alloc (.cells #[.int .i64 t.kind, .string ⟨t.name.toArray⟩, .int .i64 t.low, .int .i64 t.high, .int .i64 t.max, .slice A1 t.syms.length c1, .slice A2 t.mems.length c2, .int .i64 t.key, .int .i64 t.elem, .bool t.opn] 64) = w1 at *
 have HT := Lib.hid (HT.out.on h01)
 have cs := HP.cell 5
 have cm := HP.cell 6
 simp only [gl3] at cs cm
 clear HP
 go_loop [6] (fun i => ∃ k : Nat, i = .int .i64 k ∧ k ≤ t.mems.length ∧ memIdx t id = idxF ((t.mems.drop k).map Mem.id) id k) (fun i => t.mems.length - (intOf i).toNat)
 case atStart => exact ⟨0, rfl, by omega, rfl⟩
 case round =>
  obtain ⟨k, rfl, hk, hix⟩ := hrel
  by_cases hlk : k < t.mems.length
  ·
   rw [List.drop_eq_getElem_cons hlk, List.map_cons, idxF_cons] at hix
   obtain ⟨b, o, rfl, hcell⟩ : ∃ b o, A2 = some ⟨b, o, none⟩ ∧ w1.cell? ⟨b, o + k * 13, none⟩ = some (.int .i64 (Mem.id t.mems[k])) := by
    obtain ⟨b, o, h1, _, hel⟩ := HT.out.mems.elem (by omega); obtain ⟨_, _, _, hc13, _⟩ := hel k hlk; exact ⟨b, o, h1, hc13.1⟩
   have hi1 : (k : Int) < t.mems.length := by omega
   generalize hq : Mem.id t.mems[k] = q at *
   clear hq
   by_cases he : q = id
   ·
    rw [if_pos he] at hix
    have Hix := Lib.hid hix
    have hte : (q == id) = true := by simp [he]
    clear hix he
    go_wp2_with fail
    go_ret2
    exact ⟨by rw [Hix.out]; rfl, h01⟩
   rw [if_neg he] at hix
   have Hix := Lib.hid hix
   have hte : (q == id) = false := by simpa using he
   clear hix he
   go_wp2_with fail
   go_round
   case rel => exact ⟨k + 1, by go_num, by omega, Hix.out⟩
   case measure => simp [intOf]; omega
  rw [List.drop_eq_nil_of_le (by omega)] at hix
  have Hix := Lib.hid hix
  clear hix
  go_wp2_with fail
  go_ret2
  exact ⟨by rw [Hix.out]; rfl, h01⟩
set_option maxRecDepth 100000 in
theorem rsymbol_any (t : Typ) (vs vm : Value) (id : Int) (w : World) (ht : TypAt w w.heap.size t vs vm) :
  Calls Try.prog 51 #[typA t vs vm, .int .i64 id] w fun e w' => e = .returned (pairV (symIdx t id)) ∧ Below w.heap.size w w' := by
 obtain ⟨A1, c1, A2, c2, rfl, rfl, -, -⟩ := ht.forms
 have HT := Lib.hid ht
 have hl := ht.lens.1
 clear ht
 go_enter Try.func51, Try.ntmps51
 go_wp2_with fail
 have HP := Has.made w 64 #[.int .i64 t.kind, .string ⟨t.name.toArray⟩, .int .i64 t.low, .int .i64 t.high, .int .i64 t.max, .slice A1 t.syms.length c1, .slice A2 t.mems.length c2, .int .i64 t.key, .int .i64 t.elem, .bool t.opn]
 have h01 := (Below.refl w.heap.size w).alloc (Nat.le_refl _) (.cells #[.int .i64 t.kind, .string ⟨t.name.toArray⟩, .int .i64 t.low, .int .i64 t.high, .int .i64 t.max, .slice A1 t.syms.length c1, .slice A2 t.mems.length c2, .int .i64 t.key, .int .i64 t.elem, .bool t.opn] 64)
 generalize w.alloc (.cells #[.int .i64 t.kind, .string ⟨t.name.toArray⟩, .int .i64 t.low, .int .i64 t.high, .int .i64 t.max, .slice A1 t.syms.length c1, .slice A2 t.mems.length c2, .int .i64 t.key, .int .i64 t.elem, .bool t.opn] 64) = w1 at *
 have HT := Lib.hid (HT.out.on h01)
 have cs := HP.cell 5
 have cm := HP.cell 6
 simp only [gl3] at cs cm
 clear HP
 go_loop [6] (fun i => ∃ k : Nat, i = .int .i64 k ∧ k ≤ t.syms.length ∧ symIdx t id = idxF ((t.syms.drop k).map Prod.fst) id k) (fun i => t.syms.length - (intOf i).toNat)
 case atStart => exact ⟨0, rfl, by omega, rfl⟩
 case round =>
  obtain ⟨k, rfl, hk, hix⟩ := hrel
  by_cases hlk : k < t.syms.length
  ·
   rw [List.drop_eq_getElem_cons hlk, List.map_cons, idxF_cons] at hix
   obtain ⟨b, o, rfl, hcell⟩ : ∃ b o, A1 = some ⟨b, o, none⟩ ∧ w1.cell? ⟨b, o + k * 2, none⟩ = some (.int .i64 (Prod.fst t.syms[k])) := by
    obtain ⟨b, o, h1, _, hel⟩ := HT.out.syms.at_ (by omega); exact ⟨b, o, h1, (rawV_at hel k hlk).1⟩
   have hi1 : (k : Int) < t.syms.length := by omega
   generalize hq : Prod.fst t.syms[k] = q at *
   clear hq
   by_cases he : q = id
   ·
    rw [if_pos he] at hix
    have Hix := Lib.hid hix
    have hte : (q == id) = true := by simp [he]
    clear hix he
    go_wp2_with fail
    go_ret2
    exact ⟨by rw [Hix.out]; rfl, h01⟩
   rw [if_neg he] at hix
   have Hix := Lib.hid hix
   have hte : (q == id) = false := by simpa using he
   clear hix he
   go_wp2_with fail
   go_round
   case rel => exact ⟨k + 1, by go_num, by omega, Hix.out⟩
   case measure => simp [intOf]; omega
  rw [List.drop_eq_nil_of_le (by omega)] at hix
  have Hix := Lib.hid hix
  clear hix
  go_wp2_with fail
  go_ret2
  exact ⟨by rw [Hix.out]; rfl, h01⟩
end Go.Proofs.Ytgeapglanckjpaa

/- What Depth, Nodes and their references compute. What size and Small compute. What Equal, SameValue and their parts compute. What SameValue, SameValues and ref Equal compute. No condition. -/
import Derived.Test.YtlamhkffnlgofaaGreatDoorHAA
import Derived.Laws.StructEq
import Derived.StillTailTactics
set_option maxHeartbeats 1600000
namespace Go.Proofs.YtlamhkffnlgofaaGreatDoor
open Go.ChangeShapes Go.WideShapes Go.ChangeAt Go.RowKit
abbrev valA (x : Val) (vk vi vr : Value) : Value := .agg #[.int .i64 x.kind, .bool x.bool, .int .i64 x.num, .string ⟨x.str.toArray⟩, .int .i64 x.id, vk, vi, vr]
theorem nodes_eq (x : Val) : nodes x = nodesL x.keys + nodesL x.items + 1 := by cases x; rw [nodes]; rfl
end Go.Proofs.YtlamhkffnlgofaaGreatDoor
namespace Go.Proofs.YtlamhkffnlgofaaGreatDoor
open Go.ChangeShapes Go.WideShapes Go.ChangeAt Go.RowKit
def sizeR : List Raw → Int → Int
 | [], n => n
 | r :: rs, n => if n < 0 then n else sizeR rs (n - r.2.length)
mutual
def sizeV : Val → Int → Int
 | .mk _ _ _ s _ ks is rs, n => sizeL is (sizeL ks (sizeR rs (n - (10 + s.length + rs.length))))
def sizeL : List Val → Int → Int
 | [], n => n
 | x :: r, n => if n < 0 then n else sizeL r (sizeV x n)
end
theorem sizeR_le (rs : List Raw) : ∀ n, sizeR rs n ≤ n := by
 induction rs with
 | nil => intro n; exact Int.le_refl _
 | cons r rs ih =>
  intro n
  rw [sizeR]
  split
  ·
   omega
  have := ih (n - r.2.length); omega
mutual
theorem sizeV_nodes : ∀ (x : Val) (n : Int), sizeV x n ≤ n - 10 ∧ (0 ≤ sizeV x n → 10 * (nodes x : Int) ≤ n - sizeV x n)
 | .mk _ _ _ s _ ks is rs, n => by
  rw [sizeV, nodes]
  have h1 := sizeR_le rs (n - (10 + s.length + rs.length))
  have h2 := sizeL_nodes ks (sizeR rs (n - (10 + s.length + rs.length)))
  have h3 := sizeL_nodes is (sizeL ks (sizeR rs (n - (10 + s.length + rs.length))))
  refine ⟨by omega, fun h => ?_⟩
  have h4 := h3.2 h
  have h5 := h2.2 (by omega)
  omega
theorem sizeL_nodes : ∀ (l : List Val) (n : Int), sizeL l n ≤ n ∧ (0 ≤ sizeL l n → 10 * (nodesL l : Int) ≤ n - sizeL l n)
 | [], n => by rw [sizeL, nodesL]; omega
 | x :: r, n => by
  rw [sizeL, nodesL]
  split
  ·
   omega
  have h1 := sizeV_nodes x n
  have h2 := sizeL_nodes r (sizeV x n)
  refine ⟨by omega, fun h => ?_⟩
  have h3 := h2.2 h
  have h4 := h1.2 (by omega)
  omega
end
theorem rawV_at {w : World} {b o : Nat} {rs : List Raw} (hcell : ∀ j u, (rawsV rs)[j]? = some u → w.cell? ⟨b, o + j, none⟩ = some u) (k : Nat) (h : k < rs.length) :
  w.cell? ⟨b, o + k * 2, none⟩ = some (.int .i64 rs[k].1) ∧ w.cell? ⟨b, o + k * 2 + 1, none⟩ = some (.string ⟨rs[k].2.toArray⟩) :=
 ⟨hcell (k * 2) _ (flat_get rawV_len rs k 0 h (by omega)), hcell (k * 2 + 1) _ (flat_get rawV_len rs k 1 h (by omega))⟩
end Go.Proofs.YtlamhkffnlgofaaGreatDoor
namespace Go.Proofs.YtlamhkffnlgofaaGreatDoor
open Go.ChangeShapes Go.WideShapes Go.ChangeAt Go.RowKit
mutual
def sameV : Val → Val → Bool
 | .mk k b n s i ks is rs, .mk k' b' n' s' i' ks' is' rs' => decide (k = k' ∧ b = b' ∧ n = n' ∧ s = s' ∧ i = i' ∧ rs = rs') && (sameL ks ks' && sameL is is')
def sameL : List Val → List Val → Bool
 | [], [] => true
 | x :: r, y :: s => sameV x y && sameL r s
 | [], _ :: _ => false
 | _ :: _, [] => false
end
mutual
theorem sameV_iff : ∀ x y : Val, sameV x y = true ↔ x = y
 | .mk k b n s i ks is rs, .mk k' b' n' s' i' ks' is' rs' => by
  rw [sameV]
  simp only [Bool.and_eq_true, decide_eq_true_eq, sameL_iff ks ks', sameL_iff is is', Val.mk.injEq]
  constructor
  ·
   rintro ⟨⟨rfl, rfl, rfl, rfl, rfl, rfl⟩, rfl, rfl⟩; simp
  rintro ⟨rfl, rfl, rfl, rfl, rfl, rfl, rfl, rfl⟩; simp
theorem sameL_iff : ∀ x y : List Val, sameL x y = true ↔ x = y
 | [], [] => by simp [sameL]
 | x :: r, y :: s => by
  rw [sameL]
  simp only [Bool.and_eq_true, sameV_iff x y, sameL_iff r s, List.cons.injEq]
 | [], _ :: _ => by simp [sameL]
 | _ :: _, [] => by simp [sameL]
end
theorem sameV_eq (x y : Val) : sameV x y = (decide (x.kind = y.kind ∧ x.bool = y.bool ∧ x.num = y.num ∧ x.str = y.str ∧ x.id = y.id ∧ x.rest = y.rest) && (sameL x.keys y.keys && sameL x.items y.items)) := by
 cases x; cases y; rw [sameV]; rfl
theorem sameL_len (x y : List Val) (h : x.length ≠ y.length) : sameL x y = false := by
 cases hs : sameL x y with
 | false => rfl
 | true => exact absurd (congrArg List.length ((sameL_iff x y).1 hs)) h
theorem sameL_ne (x y : List Val) (k : Nat) (h1 : k < x.length) (h2 : k < y.length) (h : sameV x[k] y[k] = false) : sameL x y = false := by
 cases hs : sameL x y with
 | false => rfl
 | true =>
  obtain rfl := (sameL_iff x y).1 hs
  rw [(sameV_iff _ _).2 rfl] at h
  cases h
def rawA (r : Raw) : Value := .agg #[.int .i64 r.1, .string ⟨r.2.toArray⟩]
theorem bytes_beq (a b : List UInt8) : (({ data := a.toArray } : ByteArray).toList == ({ data := b.toArray } : ByteArray).toList) = decide (a = b) := by
 rw [ByteArray.toList_eq, ByteArray.toList_eq]
 by_cases h : a = b <;> simp [h]
theorem eq_raw (x y : Raw) (w : World) : (Op.equalIn 10000 129 (rawA x) (rawA y)).run Tryz.prog w = .ok (decide (x = y)) w := by
 obtain ⟨x0, x3⟩ := x
 obtain ⟨y0, y3⟩ := y
 have u0 := Tryz.underlying3
 have u2 := Tryz.underlying9
 have hS : Tryz.prog.underlying 129 = some (.struct (Tryz.prog.fieldsOf 129)) := by kernel_rfl
 have hp : Tryz.prog.stoodInHeld 129 = false := by kernel_rfl
 rw [show (10000 : Nat) = 9999 + 1 from rfl, rawA, rawA, run_equalIn_agg w 9999 129 _ _ hS hp]
 simp only [Program.fieldsOf, Tryz.underlying129]
 have hb := bytes_beq x3 y3
 go_simp
 by_cases h1 : x0 = y0 <;> by_cases h4 : x3 = y3 <;> simp [h1, h4]
theorem neq_raw (x y : Raw) : ∀ W, (binOp .neq 129 (rawA x) (rawA y)).run Tryz.prog W = .ok (.bool (!decide (x = y))) W := fun W => by
 rw [rawA, rawA, run_neq_struct, ← rawA, ← rawA, eq_raw]; rfl
set_option maxRecDepth 100000 in
theorem eqraws_any (xs ys : List Raw) (va vb : Value) (w : World) (hlx : xs.length ≤ 140737488351232) (hly : ys.length ≤ 140737488351232) (hx : Rd w w.heap.size 2 va xs.length (rawsV xs)) (hy : Rd w w.heap.size 2 vb ys.length (rawsV ys)) :
  Calls Tryz.prog 175 #[va, vb] w fun e w' => e = .returned (.bool (decide (xs = ys))) ∧ Below w.heap.size w w' := by
 obtain ⟨A, c, rfl, hc⟩ := hx.form
 obtain ⟨B, d, rfl, hd⟩ := hy.form
 by_cases hl : xs.length = ys.length
 ·
  have HL := Lib.hid hl
  have h1 : ((xs.length : Int) != (ys.length : Int)) = false := by simp [hl]
  have hl' : (xs.length : Int) ≤ ys.length := by omega
  clear hl
  go_enter Tryz.func175, Tryz.ntmps175
  go_wp2
  go_loopw [13] (fun i wr => ∃ k : Nat, k ≤ xs.length ∧ i = .int .i64 k ∧ xs.take k = ys.take k ∧ Below w.heap.size w wr) (fun i _ => xs.length - (intOf i).toNat)
  case atStart => exact ⟨0, by omega, rfl, rfl, Below.refl _ _⟩
  case round =>
   obtain ⟨k, hk, rfl, hp, hb⟩ := hrel
   have Hp := Lib.hid hp
   clear hp
   by_cases hlt : k < xs.length
   ·
    obtain ⟨b, o, rfl, hbb, hcell⟩ := (hx.below hb).at_ (by omega)
    obtain ⟨b', o', rfl, hbb', hcell'⟩ := (hy.below hb).at_ (by omega)
    have hlt' : k < ys.length := by omega
    obtain ⟨hc0, hc1⟩ := rawV_at hcell k hlt
    obtain ⟨hd0, hd1⟩ := rawV_at hcell' k hlt'
    clear hcell hcell'
    have hi1 : (k : Int) < xs.length := by omega
    have hi2 : (k : Int) < ys.length := by omega
    have Hx : Hid (xs.take (k+1) = xs.take k ++ [xs[k]]) := List.take_succ_eq_append_getElem hlt
    have Hy : Hid (ys.take (k+1) = ys.take k ++ [ys[k]]) := List.take_succ_eq_append_getElem hlt'
    have Hne : Hid (xs[k] ≠ ys[k] → xs ≠ ys) := fun h e => h (by subst e; rfl)
    generalize xs[k] = x at *
    generalize ys[k] = y at *
    have hq := neq_raw x y
    have hg : Tryz.prog.eqGuardType Tryz.prog.depth 129 = false := by kernel_rfl
    by_cases he : x = y
    ·
     rw [decide_eq_true he] at hq
     have He := Lib.hid he
     clear he
     simp only [rawA, Bool.not_true] at hq
     go_wp2
     go_quiet (fail)
     go_wp2
     go_roundw
     case rel => exact ⟨k + 1, by omega, by go_num, by rw [Hx.out, Hy.out, Hp.out, He.out], below_drewN hb _⟩
     case measure => simp [intOf]; omega
    rw [decide_eq_false he] at hq
    have He := Lib.hid he
    clear he
    simp only [rawA, Bool.not_false] at hq
    go_wp2
    go_quiet (fail)
    go_wp2
    go_ret
    exact ⟨ret_bool (decide_eq_false (Hne.out He.out)).symm, below_drewN hb _⟩
   go_wp2
   go_ret
   refine ⟨ret_bool ?_, hb⟩
   have e1 := Hp.out
   rw [List.take_of_length_le (by omega), List.take_of_length_le (by have := HL.out; omega)] at e1
   exact (decide_eq_true e1).symm
 have h1 : ((xs.length : Int) != (ys.length : Int)) = true := by rw [bne_iff_ne]; omega
 have HL := Lib.hid hl
 clear hl
 go_enter Tryz.func175, Tryz.ntmps175
 go_wp2
 go_ret
 refine ⟨ret_bool ?_, Below.refl _ _⟩
 exact (decide_eq_false fun e => HL.out (by rw [e])).symm
theorem sameL_take (xs ys : List Val) (k : Nat) (h1 : k < xs.length) (h2 : k < ys.length) (hp : xs.take k = ys.take k) (h : sameV xs[k] ys[k] = true) : xs.take (k+1) = ys.take (k+1) := by
 rw [List.take_succ_eq_append_getElem h1, List.take_succ_eq_append_getElem h2, hp, (sameV_iff _ _).1 h]
set_option maxRecDepth 100000 in
theorem eqfunc_any (xs ys : List Val) (va vb : Value) (w : World) (hlx : xs.length ≤ 140737488351232) (hly : ys.length ≤ 140737488351232) (hx : RdVals w w.heap.size va xs) (hy : RdVals w w.heap.size vb ys)
  (ih : ∀ (x y : Val) (vk vi vr vk' vi' vr' : Value) (W : World), x ∈ xs → ValAt W W.heap.size x vk vi vr → ValAt W W.heap.size y vk' vi' vr' → Calls Tryz.prog 160 #[valA x vk vi vr, valA y vk' vi' vr'] W fun e w' => e = .returned (.bool (sameV x y)) ∧ Below W.heap.size W w') :
  Calls Tryz.prog 176 #[va, vb, .func (.func 160) #[] #[]] w fun e w' => e = .returned (.bool (sameL xs ys)) ∧ Below w.heap.size w w' := by
 have IH := Lib.hid ih
 obtain ⟨A, c, rfl, hc⟩ := hx.form
 obtain ⟨B, d, rfl, hd⟩ := hy.form
 have HX := Lib.hid hx
 have HY := Lib.hid hy
 clear hx hy ih
 by_cases hl : xs.length = ys.length
 ·
  have HL := Lib.hid hl
  have h1 : ((xs.length : Int) != (ys.length : Int)) = false := by simp [hl]
  have hl' : (xs.length : Int) ≤ ys.length := by omega
  clear hl
  go_enter Tryz.func176, Tryz.ntmps176
  go_wp2
  go_loopw [17] (fun i wr => ∃ k : Nat, k ≤ xs.length ∧ i = .int .i64 k ∧ xs.take k = ys.take k ∧ Below w.heap.size w wr) (fun i _ => xs.length - (intOf i).toNat)
  case atStart => exact ⟨0, by omega, rfl, rfl, Below.refl _ _⟩
  case round =>
   obtain ⟨k, hk, rfl, hp, hb⟩ := hrel
   have Hp := Lib.hid hp
   clear hp
   by_cases hlt : k < xs.length
   ·
    have hlt' : k < ys.length := by omega
    obtain ⟨b, o, rfl, hbb, hel⟩ := (HX.out.on hb).elem (by omega)
    obtain ⟨b', o', rfl, hbb', hel'⟩ := (HY.out.on hb).elem (by omega)
    obtain ⟨yk, yi, yr, hcells, hva⟩ := hel k hlt
    obtain ⟨yk', yi', yr', hcells', hva'⟩ := hel' k hlt'
    have Htk := Lib.hid (sameL_take xs ys k hlt hlt' Hp.out)
    have Hne := Lib.hid (sameL_ne xs ys k hlt hlt')
    have hmem : xs[k] ∈ xs := List.getElem_mem hlt
    have hi1 : (k : Int) < xs.length := by omega
    have hi2 : (k : Int) < ys.length := by omega
    generalize xs[k] = x at *
    generalize ys[k] = y at *
    obtain ⟨A1, n1, A2, n2, A3, n3, rfl, rfl, rfl, -, -, -⟩ := hva.forms
    obtain ⟨B1, k1, B2, k2, B3, k3, rfl, rfl, rfl, -, -, -⟩ := hva'.forms
    obtain ⟨c0, c1, c2, c3, c4, c5, c6, c7⟩ := hcells
    have h2b := al2 wr
    have HC' := Cells8.below hcells' ((Below.refl wr.heap.size wr).alloc (Nat.le_refl _) (.cells #[.int .i64 x.kind, .bool x.bool, .int .i64 x.num, .string ⟨x.str.toArray⟩, .int .i64 x.id, .slice A1 x.keys.length n1, .slice A2 x.items.length n2, .slice A3 x.rest.length n3] 81)) hbb'
    obtain ⟨d0, d1, d2, d3, d4, d5, d6, d7⟩ := hcells'
    have HA := Lib.hid hva
    have HA' := Lib.hid hva'
    have Hmem := Lib.hid hmem
    clear hel hel' hva hva' hmem
    go_wp2_with fail
    refine (IH.out x y _ _ _ _ _ _ _ Hmem.out (HA.out.on (h2b _ _)) (HA'.out.on (h2b _ _))).mono ?_
    rintro e w2 ⟨rfl, hb2⟩
    have hb02 := (hb.trans ((h2b _ _).mono hb.size)).trans (hb2.mono (hb.trans ((h2b _ _).mono hb.size)).size)
    clear hb2 h2b HC' hb
    cases hsv : sameV x y with
    | true =>
     have Hsv := Lib.hid (Htk.out hsv)
     clear hsv
     go_wp2_with fail
     go_roundw
     case rel => exact ⟨k + 1, by omega, by go_num, Hsv.out, hb02⟩
     case measure => simp [intOf]; omega
    | false =>
     have Hsv := Lib.hid (Hne.out hsv)
     clear hsv
     go_wp2_with fail
     go_ret
     exact ⟨ret_bool Hsv.out.symm, hb02⟩
   go_wp2
   go_ret
   refine ⟨ret_bool ?_, hb⟩
   have e1 := Hp.out
   rw [List.take_of_length_le (by omega), List.take_of_length_le (by have := HL.out; omega)] at e1
   exact ((sameL_iff _ _).2 e1).symm
 have h1 : ((xs.length : Int) != (ys.length : Int)) = true := by rw [bne_iff_ne]; omega
 have HL := Lib.hid hl
 clear hl
 go_enter Tryz.func176, Tryz.ntmps176
 go_wp2
 go_ret
 exact ⟨ret_bool (sameL_len _ _ HL.out).symm, Below.refl _ _⟩
set_option maxRecDepth 100000 in
theorem eqfuncs_any (xs ys : List Val) (va vb : Value) (w : World) (hlx : xs.length ≤ 140737488351232) (hly : ys.length ≤ 140737488351232) (hx : RdVals w w.heap.size va xs) (hy : RdVals w w.heap.size vb ys)
  (ih : ∀ (x y : Val) (vk vi vr vk' vi' vr' : Value) (W : World), x ∈ xs → ValAt W W.heap.size x vk vi vr → ValAt W W.heap.size y vk' vi' vr' → Calls Tryz.prog 151 #[valA x vk vi vr, valA y vk' vi' vr'] W fun e w' => e = .returned (.bool (sameV x y)) ∧ Below W.heap.size W w') :
  Calls Tryz.prog 176 #[va, vb, .func (.func 151) #[] #[]] w fun e w' => e = .returned (.bool (sameL xs ys)) ∧ Below w.heap.size w w' := by
 have IH := Lib.hid ih
 obtain ⟨A, c, rfl, hc⟩ := hx.form
 obtain ⟨B, d, rfl, hd⟩ := hy.form
 have HX := Lib.hid hx
 have HY := Lib.hid hy
 clear hx hy ih
 by_cases hl : xs.length = ys.length
 ·
  have HL := Lib.hid hl
  have h1 : ((xs.length : Int) != (ys.length : Int)) = false := by simp [hl]
  have hl' : (xs.length : Int) ≤ ys.length := by omega
  clear hl
  go_enter Tryz.func176, Tryz.ntmps176
  go_wp2
  go_loopw [17] (fun i wr => ∃ k : Nat, k ≤ xs.length ∧ i = .int .i64 k ∧ xs.take k = ys.take k ∧ Below w.heap.size w wr) (fun i _ => xs.length - (intOf i).toNat)
  case atStart => exact ⟨0, by omega, rfl, rfl, Below.refl _ _⟩
  case round =>
   obtain ⟨k, hk, rfl, hp, hb⟩ := hrel
   have Hp := Lib.hid hp
   clear hp
   by_cases hlt : k < xs.length
   ·
    have hlt' : k < ys.length := by omega
    obtain ⟨b, o, rfl, hbb, hel⟩ := (HX.out.on hb).elem (by omega)
    obtain ⟨b', o', rfl, hbb', hel'⟩ := (HY.out.on hb).elem (by omega)
    obtain ⟨yk, yi, yr, hcells, hva⟩ := hel k hlt
    obtain ⟨yk', yi', yr', hcells', hva'⟩ := hel' k hlt'
    have Htk := Lib.hid (sameL_take xs ys k hlt hlt' Hp.out)
    have Hne := Lib.hid (sameL_ne xs ys k hlt hlt')
    have hmem : xs[k] ∈ xs := List.getElem_mem hlt
    have hi1 : (k : Int) < xs.length := by omega
    have hi2 : (k : Int) < ys.length := by omega
    generalize xs[k] = x at *
    generalize ys[k] = y at *
    obtain ⟨A1, n1, A2, n2, A3, n3, rfl, rfl, rfl, -, -, -⟩ := hva.forms
    obtain ⟨B1, k1, B2, k2, B3, k3, rfl, rfl, rfl, -, -, -⟩ := hva'.forms
    obtain ⟨c0, c1, c2, c3, c4, c5, c6, c7⟩ := hcells
    have h2b := al2 wr
    have HC' := Cells8.below hcells' ((Below.refl wr.heap.size wr).alloc (Nat.le_refl _) (.cells #[.int .i64 x.kind, .bool x.bool, .int .i64 x.num, .string ⟨x.str.toArray⟩, .int .i64 x.id, .slice A1 x.keys.length n1, .slice A2 x.items.length n2, .slice A3 x.rest.length n3] 81)) hbb'
    obtain ⟨d0, d1, d2, d3, d4, d5, d6, d7⟩ := hcells'
    have HA := Lib.hid hva
    have HA' := Lib.hid hva'
    have Hmem := Lib.hid hmem
    clear hel hel' hva hva' hmem
    go_wp2_with fail
    refine (IH.out x y _ _ _ _ _ _ _ Hmem.out (HA.out.on (h2b _ _)) (HA'.out.on (h2b _ _))).mono ?_
    rintro e w2 ⟨rfl, hb2⟩
    have hb02 := (hb.trans ((h2b _ _).mono hb.size)).trans (hb2.mono (hb.trans ((h2b _ _).mono hb.size)).size)
    clear hb2 h2b HC' hb
    cases hsv : sameV x y with
    | true =>
     have Hsv := Lib.hid (Htk.out hsv)
     clear hsv
     go_wp2_with fail
     go_roundw
     case rel => exact ⟨k + 1, by omega, by go_num, Hsv.out, hb02⟩
     case measure => simp [intOf]; omega
    | false =>
     have Hsv := Lib.hid (Hne.out hsv)
     clear hsv
     go_wp2_with fail
     go_ret
     exact ⟨ret_bool Hsv.out.symm, hb02⟩
   go_wp2
   go_ret
   refine ⟨ret_bool ?_, hb⟩
   have e1 := Hp.out
   rw [List.take_of_length_le (by omega), List.take_of_length_le (by have := HL.out; omega)] at e1
   exact ((sameL_iff _ _).2 e1).symm
 have h1 : ((xs.length : Int) != (ys.length : Int)) = true := by rw [bne_iff_ne]; omega
 have HL := Lib.hid hl
 clear hl
 go_enter Tryz.func176, Tryz.ntmps176
 go_wp2
 go_ret
 exact ⟨ret_bool (sameL_len _ _ HL.out).symm, Below.refl _ _⟩
set_option maxRecDepth 100000 in
theorem vequal_any : ∀ (N : Nat) (x y : Val) (vk vi vr vk' vi' vr' : Value) (w : World), nodes x < N → ValAt w w.heap.size x vk vi vr → ValAt w w.heap.size y vk' vi' vr' →
  Calls Tryz.prog 160 #[valA x vk vi vr, valA y vk' vi' vr'] w fun e w' => e = .returned (.bool (sameV x y)) ∧ Below w.heap.size w w' := by
 intro N
 induction N with
 | zero => intro x y vk vi vr vk' vi' vr' w h; omega
 | succ N ih =>
  intro x y vk vi vr vk' vi' vr' w hN hv hv'
  have hne := nodes_eq x
  have IH := Lib.hid ih
  have hkeys := hv.keys
  have hitems := hv.items
  have hrest := hv.rest
  have hkeys' := hv'.keys
  have hitems' := hv'.items
  have hrest' := hv'.rest
  obtain ⟨hkl, hil, hrl⟩ := hv.lens
  obtain ⟨hkl', hil', hrl'⟩ := hv'.lens
  have hsl := hv.strl
  have hsl' := hv'.strl
  obtain ⟨A1, n1, A2, n2, A3, n3, rfl, rfl, rfl, -, -, -⟩ := hv.forms
  obtain ⟨B1, k1, B2, k2, B3, k3, rfl, rfl, rfl, -, -, -⟩ := hv'.forms
  have hNk : nodesL x.keys + nodesL x.items < N := by omega
  clear hv hv' ih hne
  have Hall : True := trivial
  have h0b := al2 w
  by_cases e0 : x.kind = y.kind
  ·
   have t0 : (x.kind == y.kind) = true := by simp [e0]
   by_cases e1 : x.bool = y.bool
   ·
    have t1 : (x.bool == y.bool) = true := by simp [e1]
    by_cases e2 : x.num = y.num
    ·
     have t2 : (x.num == y.num) = true := by simp [e2]
     by_cases e3 : x.str = y.str
     ·
      have t3 : (x.str == y.str) = true := by simp [e3]
      by_cases e4 : x.id = y.id
      ·
       have t4 : (x.id == y.id) = true := by simp [e4]
       have hse : sameV x y = (decide (x.rest = y.rest) && (sameL x.keys y.keys && sameL x.items y.items)) := by rw [sameV_eq]; simp [e0, e1, e2, e3, e4]
       have Hse := Lib.hid hse
       clear hse e0 e1 e2 e3 e4
       go_enter Tryz.func160, Tryz.ntmps160
       go_wp2_with fail
       generalize hw0 : (w.alloc _).alloc _ = w0 at *
       have h00 : Below w.heap.size w w0 := by rw [← hw0]; exact h0b _ _
       have HX0 : Has w0 w.heap.size 81 #[.int .i64 x.kind, .bool x.bool, .int .i64 x.num, .string ⟨x.str.toArray⟩, .int .i64 x.id, .slice A1 x.keys.length n1, .slice A2 x.items.length n2, .slice A3 x.rest.length n3] := by rw [← hw0]; exact (Has.made _ _ _).alloc _
       have HY0 : Has w0 (w.heap.size + 1) 81 #[.int .i64 y.kind, .bool y.bool, .int .i64 y.num, .string ⟨y.str.toArray⟩, .int .i64 y.id, .slice B1 y.keys.length k1, .slice B2 y.items.length k2, .slice B3 y.rest.length k3] := by rw [← hw0]; simpa using Has.made (w.alloc _) _ _
       clear hw0 h0b
       have hz0 := HY0.here
       have hz0' : w.heap.size < w0.heap.size := by omega
       have HK := Lib.hid (hkeys.on h00)
       have HK' := Lib.hid (hkeys'.on h00)
       have HI := Lib.hid (hitems.on h00)
       have HI' := Lib.hid (hitems'.on h00)
       refine (eqraws_any x.rest y.rest _ _ _ hrl hrl' ((hrest.below h00).mono h00.size) ((hrest'.below h00).mono h00.size)).mono ?_
       rintro e w1 ⟨rfl, hb1⟩
       have h01 := h00.trans (hb1.mono h00.size)
       have HX1 := HX0.below hb1 hz0'
       have HY1 := HY0.below hb1 hz0
       have hz1 : w.heap.size + 1 < w1.heap.size := Nat.lt_of_lt_of_le hz0 hb1.size
       have hz1' : w.heap.size < w1.heap.size := by omega
       have HK := Lib.hid (HK.out.on hb1)
       have HK' := Lib.hid (HK'.out.on hb1)
       have HI := Lib.hid (HI.out.on hb1)
       have HI' := Lib.hid (HI'.out.on hb1)
       have cx := HX1.cell 5
       have cy := HY1.cell 5
       simp only [gl3] at cx cy
       have HX1 := Lib.hid HX1
       have HY1 := Lib.hid HY1
       clear hb1 HX0 HY0 hkeys hkeys' hitems hitems' hrest hrest'
       cases hdr : decide (x.rest = y.rest) with
       | false =>
        rw [hdr] at Hse
        clear hdr
        go_wp2_with fail
        go_ret
        exact ⟨ret_bool Hse.out.symm, h01⟩
       | true =>
        rw [hdr] at Hse
        clear hdr
        go_wp2_with fail
        refine (eqfunc_any x.keys y.keys _ _ _ hkl hkl' HK.out HK'.out (fun p q _ _ _ _ _ _ W hp h1 h2 => IH.out p q _ _ _ _ _ _ W (by have := nodesL_mem x.keys p hp; omega) h1 h2)).mono ?_
        rintro e w2 ⟨rfl, hb2⟩
        have h02 := h01.trans (hb2.mono h01.size)
        have HX2 := HX1.out.below hb2 hz1'
        have HY2 := HY1.out.below hb2 hz1
        have HI := Lib.hid (HI.out.on hb2)
        have HI' := Lib.hid (HI'.out.on hb2)
        clear cx cy
        have cx := HX2.cell 6
        have cy := HY2.cell 6
        simp only [gl3] at cx cy
        have HX2 := Lib.hid HX2
        have HY2 := Lib.hid HY2
        clear hb2
        cases hdk : sameL x.keys y.keys with
        | false =>
         rw [hdk] at Hse
         clear hdk
         go_wp2_with fail
         go_ret
         exact ⟨ret_bool Hse.out.symm, h02⟩
        | true =>
         rw [hdk] at Hse
         clear hdk
         go_wp2_with fail
         refine (eqfunc_any x.items y.items _ _ _ hil hil' HI.out HI'.out (fun p q _ _ _ _ _ _ W hp h1 h2 => IH.out p q _ _ _ _ _ _ W (by have := nodesL_mem x.items p hp; omega) h1 h2)).mono ?_
         rintro e w3 ⟨rfl, hb3⟩
         go_wp2_with fail
         go_ret
         exact ⟨ret_bool (by rw [Hse.out]; rfl), h02.trans (hb3.mono h02.size)⟩
      have t4 : (x.id == y.id) = false := by simpa using e4
      have hs : Hid (sameV x y = false) := by show _ = _; rw [sameV_eq, decide_eq_false (fun h => e4 h.2.2.2.2.1)]; rfl
      clear e0 e1 e2 e3 e4 Hall hkeys hkeys' hitems hitems' hrest hrest'
      go_enter Tryz.func160, Tryz.ntmps160
      go_wp2
      go_ret
      exact ⟨ret_bool hs.out.symm, h0b _ _⟩
     have t3 : (x.str == y.str) = false := by simpa using e3
     have hs : Hid (sameV x y = false) := by show _ = _; rw [sameV_eq, decide_eq_false (fun h => e3 h.2.2.2.1)]; rfl
     clear e0 e1 e2 e3 Hall hkeys hkeys' hitems hitems' hrest hrest'
     go_enter Tryz.func160, Tryz.ntmps160
     go_wp2
     go_ret
     exact ⟨ret_bool hs.out.symm, h0b _ _⟩
    have t2 : (x.num == y.num) = false := by simpa using e2
    have hs : Hid (sameV x y = false) := by show _ = _; rw [sameV_eq, decide_eq_false (fun h => e2 h.2.2.1)]; rfl
    clear e0 e1 e2 Hall hkeys hkeys' hitems hitems' hrest hrest'
    go_enter Tryz.func160, Tryz.ntmps160
    go_wp2
    go_ret
    exact ⟨ret_bool hs.out.symm, h0b _ _⟩
   have t1 : (x.bool == y.bool) = false := by simpa using e1
   have hs : Hid (sameV x y = false) := by show _ = _; rw [sameV_eq, decide_eq_false (fun h => e1 h.2.1)]; rfl
   clear e0 e1 Hall hkeys hkeys' hitems hitems' hrest hrest'
   go_enter Tryz.func160, Tryz.ntmps160
   go_wp2
   go_ret
   exact ⟨ret_bool hs.out.symm, h0b _ _⟩
  have t0 : (x.kind == y.kind) = false := by simpa using e0
  have hs : Hid (sameV x y = false) := by show _ = _; rw [sameV_eq, decide_eq_false (fun h => e0 h.1)]; rfl
  clear e0 Hall hkeys hkeys' hitems hitems' hrest hrest'
  go_enter Tryz.func160, Tryz.ntmps160
  go_wp2
  go_ret
  exact ⟨ret_bool hs.out.symm, h0b _ _⟩
set_option maxRecDepth 100000 in
theorem ssame_any : ∀ (N : Nat) (x y : Val) (vk vi vr vk' vi' vr' : Value) (w : World), nodes x < N → ValAt w w.heap.size x vk vi vr → ValAt w w.heap.size y vk' vi' vr' →
  Calls Tryz.prog 151 #[valA x vk vi vr, valA y vk' vi' vr'] w fun e w' => e = .returned (.bool (sameV x y)) ∧ Below w.heap.size w w' := by
 intro N
 induction N with
 | zero => intro x y vk vi vr vk' vi' vr' w h; omega
 | succ N ih =>
  intro x y vk vi vr vk' vi' vr' w hN hv hv'
  have hne := nodes_eq x
  have IH := Lib.hid ih
  have hkeys := hv.keys
  have hitems := hv.items
  have hrest := hv.rest
  have hkeys' := hv'.keys
  have hitems' := hv'.items
  have hrest' := hv'.rest
  obtain ⟨hkl, hil, hrl⟩ := hv.lens
  obtain ⟨hkl', hil', hrl'⟩ := hv'.lens
  have hsl := hv.strl
  have hsl' := hv'.strl
  obtain ⟨A1, n1, A2, n2, A3, n3, rfl, rfl, rfl, -, -, -⟩ := hv.forms
  obtain ⟨B1, k1, B2, k2, B3, k3, rfl, rfl, rfl, -, -, -⟩ := hv'.forms
  have hNk : nodesL x.keys + nodesL x.items < N := by omega
  clear hv hv' ih hne
  have Hall : True := trivial
  have h0b := al2 w
  by_cases e0 : x.kind = y.kind
  ·
   have t0 : (x.kind == y.kind) = true := by simp [e0]
   by_cases e1 : x.bool = y.bool
   ·
    have t1 : (x.bool == y.bool) = true := by simp [e1]
    by_cases e2 : x.num = y.num
    ·
     have t2 : (x.num == y.num) = true := by simp [e2]
     by_cases e3 : x.str = y.str
     ·
      have t3 : (x.str == y.str) = true := by simp [e3]
      by_cases e4 : x.id = y.id
      ·
       have t4 : (x.id == y.id) = true := by simp [e4]
       have hse : sameV x y = (decide (x.rest = y.rest) && (sameL x.keys y.keys && sameL x.items y.items)) := by rw [sameV_eq]; simp [e0, e1, e2, e3, e4]
       have Hse := Lib.hid hse
       clear hse e0 e1 e2 e3 e4
       go_enter Tryz.func151, Tryz.ntmps151
       go_wp2_with fail
       generalize hw0 : (w.alloc _).alloc _ = w0 at *
       have h00 : Below w.heap.size w w0 := by rw [← hw0]; exact h0b _ _
       have HX0 : Has w0 w.heap.size 81 #[.int .i64 x.kind, .bool x.bool, .int .i64 x.num, .string ⟨x.str.toArray⟩, .int .i64 x.id, .slice A1 x.keys.length n1, .slice A2 x.items.length n2, .slice A3 x.rest.length n3] := by rw [← hw0]; exact (Has.made _ _ _).alloc _
       have HY0 : Has w0 (w.heap.size + 1) 81 #[.int .i64 y.kind, .bool y.bool, .int .i64 y.num, .string ⟨y.str.toArray⟩, .int .i64 y.id, .slice B1 y.keys.length k1, .slice B2 y.items.length k2, .slice B3 y.rest.length k3] := by rw [← hw0]; simpa using Has.made (w.alloc _) _ _
       clear hw0 h0b
       have hz0 := HY0.here
       have hz0' : w.heap.size < w0.heap.size := by omega
       have HK := Lib.hid (hkeys.on h00)
       have HK' := Lib.hid (hkeys'.on h00)
       have HI := Lib.hid (hitems.on h00)
       have HI' := Lib.hid (hitems'.on h00)
       refine (eqraws_any x.rest y.rest _ _ _ hrl hrl' ((hrest.below h00).mono h00.size) ((hrest'.below h00).mono h00.size)).mono ?_
       rintro e w1 ⟨rfl, hb1⟩
       have h01 := h00.trans (hb1.mono h00.size)
       have HX1 := HX0.below hb1 hz0'
       have HY1 := HY0.below hb1 hz0
       have hz1 : w.heap.size + 1 < w1.heap.size := Nat.lt_of_lt_of_le hz0 hb1.size
       have hz1' : w.heap.size < w1.heap.size := by omega
       have HK := Lib.hid (HK.out.on hb1)
       have HK' := Lib.hid (HK'.out.on hb1)
       have HI := Lib.hid (HI.out.on hb1)
       have HI' := Lib.hid (HI'.out.on hb1)
       have cx := HX1.cell 5
       have cy := HY1.cell 5
       simp only [gl3] at cx cy
       have HX1 := Lib.hid HX1
       have HY1 := Lib.hid HY1
       clear hb1 HX0 HY0 hkeys hkeys' hitems hitems' hrest hrest'
       cases hdr : decide (x.rest = y.rest) with
       | false =>
        rw [hdr] at Hse
        clear hdr
        go_wp2_with fail
        go_ret
        exact ⟨ret_bool Hse.out.symm, h01⟩
       | true =>
        rw [hdr] at Hse
        clear hdr
        go_wp2_with fail
        refine (eqfuncs_any x.keys y.keys _ _ _ hkl hkl' HK.out HK'.out (fun p q _ _ _ _ _ _ W hp h1 h2 => IH.out p q _ _ _ _ _ _ W (by have := nodesL_mem x.keys p hp; omega) h1 h2)).mono ?_
        rintro e w2 ⟨rfl, hb2⟩
        have h02 := h01.trans (hb2.mono h01.size)
        have HX2 := HX1.out.below hb2 hz1'
        have HY2 := HY1.out.below hb2 hz1
        have HI := Lib.hid (HI.out.on hb2)
        have HI' := Lib.hid (HI'.out.on hb2)
        clear cx cy
        have cx := HX2.cell 6
        have cy := HY2.cell 6
        simp only [gl3] at cx cy
        have HX2 := Lib.hid HX2
        have HY2 := Lib.hid HY2
        clear hb2
        cases hdk : sameL x.keys y.keys with
        | false =>
         rw [hdk] at Hse
         clear hdk
         go_wp2_with fail
         go_ret
         exact ⟨ret_bool Hse.out.symm, h02⟩
        | true =>
         rw [hdk] at Hse
         clear hdk
         go_wp2_with fail
         refine (eqfuncs_any x.items y.items _ _ _ hil hil' HI.out HI'.out (fun p q _ _ _ _ _ _ W hp h1 h2 => IH.out p q _ _ _ _ _ _ W (by have := nodesL_mem x.items p hp; omega) h1 h2)).mono ?_
         rintro e w3 ⟨rfl, hb3⟩
         go_wp2_with fail
         go_ret
         exact ⟨ret_bool (by rw [Hse.out]; rfl), h02.trans (hb3.mono h02.size)⟩
      have t4 : (x.id == y.id) = false := by simpa using e4
      have hs : Hid (sameV x y = false) := by show _ = _; rw [sameV_eq, decide_eq_false (fun h => e4 h.2.2.2.2.1)]; rfl
      clear e0 e1 e2 e3 e4 Hall hkeys hkeys' hitems hitems' hrest hrest'
      go_enter Tryz.func151, Tryz.ntmps151
      go_wp2
      go_ret
      exact ⟨ret_bool hs.out.symm, h0b _ _⟩
     have t3 : (x.str == y.str) = false := by simpa using e3
     have hs : Hid (sameV x y = false) := by show _ = _; rw [sameV_eq, decide_eq_false (fun h => e3 h.2.2.2.1)]; rfl
     clear e0 e1 e2 e3 Hall hkeys hkeys' hitems hitems' hrest hrest'
     go_enter Tryz.func151, Tryz.ntmps151
     go_wp2
     go_ret
     exact ⟨ret_bool hs.out.symm, h0b _ _⟩
    have t2 : (x.num == y.num) = false := by simpa using e2
    have hs : Hid (sameV x y = false) := by show _ = _; rw [sameV_eq, decide_eq_false (fun h => e2 h.2.2.1)]; rfl
    clear e0 e1 e2 Hall hkeys hkeys' hitems hitems' hrest hrest'
    go_enter Tryz.func151, Tryz.ntmps151
    go_wp2
    go_ret
    exact ⟨ret_bool hs.out.symm, h0b _ _⟩
   have t1 : (x.bool == y.bool) = false := by simpa using e1
   have hs : Hid (sameV x y = false) := by show _ = _; rw [sameV_eq, decide_eq_false (fun h => e1 h.2.1)]; rfl
   clear e0 e1 Hall hkeys hkeys' hitems hitems' hrest hrest'
   go_enter Tryz.func151, Tryz.ntmps151
   go_wp2
   go_ret
   exact ⟨ret_bool hs.out.symm, h0b _ _⟩
  have t0 : (x.kind == y.kind) = false := by simpa using e0
  have hs : Hid (sameV x y = false) := by show _ = _; rw [sameV_eq, decide_eq_false (fun h => e0 h.1)]; rfl
  clear e0 Hall hkeys hkeys' hitems hitems' hrest hrest'
  go_enter Tryz.func151, Tryz.ntmps151
  go_wp2
  go_ret
  exact ⟨ret_bool hs.out.symm, h0b _ _⟩
end Go.Proofs.YtlamhkffnlgofaaGreatDoor
namespace Go.Proofs.YtlamhkffnlgofaaGreatDoor
open Go.ChangeShapes Go.WideShapes Go.ChangeAt Go.RowKit
end Go.Proofs.YtlamhkffnlgofaaGreatDoor

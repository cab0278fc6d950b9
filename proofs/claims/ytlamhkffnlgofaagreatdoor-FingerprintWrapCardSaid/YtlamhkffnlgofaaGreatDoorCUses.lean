/- What canon.uses and Uses of sheaveref18 compute. No condition. -/
import Derived.Test.YtlamhkffnlgofaaGreatDoorHAL
import Derived.Test.YtlamhkffnlgofaaGreatDoorHAC
import Derived.Test.YtlamhkffnlgofaaGreatDoorHAE
import Derived.Test.YtlamhkffnlgofaaGreatDoorHAF
set_option maxHeartbeats 3200000
namespace Go.Proofs.YtlamhkffnlgofaaGreatDoor
open Go.ChangeShapes Go.WideShapes Go.ChangeAt Go.RowKit
def useV (u : Int × Int) : List Value := [.int .i64 u.1, .int .i64 u.2]
def usesV (l : List (Int × Int)) : List Value := l.flatMap useV
theorem useV_len (u : Int × Int) : (useV u).length = 2 := rfl
def UsesCPost (T : TypeId) (l : List (Int × Int)) (w : World) (e : Ending) (w' : World) : Prop := ∃ v, e = .returned v ∧ w'.ownsRow w.heap.size T 2 v l.length (usesV l) ∧ Below w.heap.size w w'
def memU (m : Mem) : Int × Int := (m.id, m.ty)
theorem usesC_8 {x : Typ} (h : x.kind = 8) : usesC x = x.mems.map memU ++ [(0, x.key), (-1, x.elem)] := by unfold usesC; rw [if_pos h, if_pos (.inr (.inl h))]; rfl
theorem usesC_79 {x : Typ} (h : x.kind = 7 ∨ x.kind = 9) : usesC x = x.mems.map memU ++ [(-1, x.elem)] := by unfold usesC; rw [if_neg (by omega), if_pos (by omega)]; rfl
theorem usesC_0 {x : Typ} (h : ¬ (x.kind = 7 ∨ x.kind = 8 ∨ x.kind = 9)) : usesC x = x.mems.map memU := by unfold usesC; rw [if_neg (by omega), if_neg h]; simp; exact fun _ _ => rfl
theorem usesV_app (a b : List (Int × Int)) : usesV (a ++ b) = usesV a ++ usesV b := List.flatMap_append
theorem uses_take (l : List Mem) (k : Nat) (h : k < l.length) : usesV ((l.take (k + 1)).map memU) = usesV ((l.take k).map memU) ++ [.int .i64 l[k].id, .int .i64 l[k].ty] := by
 rw [List.take_add_one, List.map_append, usesV_app, List.getElem?_eq_getElem h]; rfl
theorem wpList_append_lieN {P : Program} {ops : Array Oper} {rest : List Oper} {o : Oper} {a : Act} {Q : Exit → Act → World → Prop} (hgd : o.guard = none) (s x : Operand) (t : TypeId)
  (ho : o.op = .call { callee := .builtin .append, args := #[s, x], argTypes := #[t, t] })
  (base : Nat) (e : TypeId) (z : Value) (size bytes : Nat) (ht : P.underlying t = some (.slice e)) (hinfo : (P.info? e).map (fun i => (i.zero, i.size, i.bytes)) = some (some z, size, bytes)) (hzs : z.cells.size = size) (hsz : 0 < size)
  (v : Value) (n : Nat) (xs : List Value) (hs : a.eval s = v) {W : World} (hown : W.ownsRow base e size v n xs) (news : List Value) (m : Nat) (te : TypeId) (c g0 : Nat)
  (hx : a.eval x = .slice (some ⟨g0, 0, none⟩) m c) (hg : g0 = W.heap.size) (hm : 0 < m) (hl : news.length = m * size) (h1 : ∀ u ∈ news, u.oneCell' = true) (hsmall : n + m ≤ 8000000000000) (hby : (n + m) * bytes ≤ 140737488355328) (hbase : base ≤ W.heap.size)
  (h : ∀ g cap w', w'.ownsRow base e size (.slice (some ⟨g, 0, none⟩) (n + m) cap) (n + m) (xs ++ news) → (W.alloc (.cells news.toArray te)).grownBy w' v.ownBlock → (v.ownBlock = some g ∨ g = W.heap.size + 1) → Below base W w' → wpList P ops Q rest (a.put o.dst (.slice (some ⟨g, 0, none⟩) (n + m) cap)) w') : wpList P ops Q (o :: rest) a (W.alloc (.cells news.toArray te)) := by
 subst hg
 obtain ⟨i0, hi, hz0, hz1, hz2⟩ := info_parts hinfo
 refine wpList_append_lies _ hgd s x t ho base e i0 z size bytes ht hi hz0 hz1 hz2 hzs hsz v n xs hs (hown.alloc _) ⟨W.heap.size, 0, none⟩ m c news hx (by omega) ?_ h1 (by omega) (by simp only [maxLen]; omega) ?_ (by simp; omega) (W.heap.size + 1) (by simp) ?_
 ·
  intro j u hu
  have hj : (⟨W.heap.size, 0, none⟩ : Addr).add j = ⟨W.heap.size, j, none⟩ := by unfold Addr.add; split <;> simp_all
  rw [hj]
  simp only [World.cell?, new_block]
  simpa using hu
 ·
  omega
 intro g cap w' h2 h3 h4 _
 exact h g cap w' h2 h3 h4 (grown_below hown hbase h3)
theorem info_useC : (Tryz.prog.info? 134).map (fun i => (i.zero, i.size, i.bytes)) = some (some (.agg #[.int .i64 0, .int .i64 0]), 2, 16) := by kernel_rfl
set_option maxRecDepth 100000 in
theorem cuses_any (x : Typ) (vs vm : Value) (w : World) (hl : x.mems.length ≤ 6000000000000) (ht : TypAt w w.heap.size x vs vm) :
  Calls Tryz.prog 75 #[typA x vs vm] w (UsesCPost 134 (usesC x) w) := by
 obtain ⟨C1, m1, C2, m2, rfl, rfl, -, -⟩ := ht.forms
 have HT := Lib.hid ht
 clear ht
 go_enter Tryz.func75, Tryz.ntmps75
 go_upto_region 1 with fail
 refine am1 (fun wd2 hb1 T => ?_)
 have hw3 := hb1
 clear hb1
 have cT_6 := T.out.e6
 have HT0 := Lib.hid T.out
 have hB0 := hw3
 go_wp2_with fail
 go_loopw [3, 9] (fun s3 i wr => ∃ k : Nat, k ≤ x.mems.length ∧ i = .int .i64 k ∧ wr.ownsRow (w.heap.size + 1) 134 2 s3 k (usesV ((x.mems.take k).map memU)) ∧ Has wr w.heap.size 71 #[.int .i64 x.kind, .string ⟨x.name.toArray⟩, .int .i64 x.low, .int .i64 x.high, .int .i64 x.max, .slice C1 x.syms.length m1, .slice C2 x.mems.length m2, .int .i64 x.key, .int .i64 x.elem, .bool x.opn] ∧ Below w.heap.size w wr) (fun _ i _ => x.mems.length - (intOf i).toNat)
 case atStart => exact ⟨0, by omega, rfl, World.ownsRow_nil _ _ _ _, HT0.out, hB0⟩
 case round =>
  clear T hB0 HT0
  obtain ⟨k, hk, rfl, hown, T, hb⟩ := hrel
  obtain ⟨A0, c0, rfl⟩ := own_form hown
  replace T := Lib.hid T
  have O := Lib.hid (Kept.own hown)
  clear hown
  by_cases hlt : k < x.mems.length
  ·
   skip
   obtain ⟨b, o, hC2, hb1, hel⟩ := HT.out.mems.elem (by omega)
   obtain ⟨dk, di, dr, hcells, hma⟩ := hel k hlt
   have HTK := Lib.hid (uses_take x.mems k hlt)
   generalize x.mems[k] = m at *
   obtain ⟨D1, d1, D2, d2, D3, d3, rfl, rfl, rfl, -, -, -⟩ := hma.dflt.forms
   obtain ⟨y0, y1, y2, y3, y4, y5, y6, y7, y8, y9, y10, y11, y12⟩ := hcells
   have x0 := (hb.cell (p := ⟨b, _, none⟩) hb1).trans y0
   have x1 := (hb.cell (p := ⟨b, _, none⟩) hb1).trans y1
   have x2 := (hb.cell (p := ⟨b, _, none⟩) hb1).trans y2
   have x3 := (hb.cell (p := ⟨b, _, none⟩) hb1).trans y3
   have x4 := (hb.cell (p := ⟨b, _, none⟩) hb1).trans y4
   have x5 := (hb.cell (p := ⟨b, _, none⟩) hb1).trans y5
   have x6 := (hb.cell (p := ⟨b, _, none⟩) hb1).trans y6
   have x7 := (hb.cell (p := ⟨b, _, none⟩) hb1).trans y7
   have x8 := (hb.cell (p := ⟨b, _, none⟩) hb1).trans y8
   have x9 := (hb.cell (p := ⟨b, _, none⟩) hb1).trans y9
   have x10 := (hb.cell (p := ⟨b, _, none⟩) hb1).trans y10
   have x11 := (hb.cell (p := ⟨b, _, none⟩) hb1).trans y11
   have x12 := (hb.cell (p := ⟨b, _, none⟩) hb1).trans y12
   clear y0 y1 y2 y3 y4 y5 y6 y7 y8 y9 y10 y11 y12
   have hi1 : (k : Int) < x.mems.length := by omega
   clear hel hma
   go_upto_region 5 with fail
   refine am1 (fun wd5 hb4 M => ?_)
   have hl7 := T.out.here
   have hl8 := O.out.le
   have hl9 := hb.size
   obtain ⟨T, O⟩ := b2 T O hb4
   replace hb := dT hb hb4
   clear hb4
   generalize wr.heap.size = g6 at *
   clear x0 x1 x2 x3 x4 x5 x6 x7 x8 x9 x10 x11 x12 hC2
   have cM_0 := M.out.e0
   have cM_2 := M.out.e2
   have hbase : w.heap.size + 1 ≤ wd5.heap.size := T.out.here
   go_upto_region 6 with (at_builtin; refine wpList_append_lieN rfl _ _ _ rfl (w.heap.size + 1) 134 _ 2 16 Tryz.underlying131 info_useC rfl (by decide) _ (k) _ rfl O.out.now [.int .i64 m.id, .int .i64 m.ty] 1 _ 1 _ rfl rfl (by decide) rfl (by simp [Value.oneCell']) (by omega) (by omega) hbase ?_; intro g cap w3 hown3 hg3 hgat hb3)
   clear hg3 hgat hbase
   clear cM_0 cM_2
   clear O
   clear M
   replace T := Lib.hid (T.out.below hb3 (show w.heap.size < w.heap.size + 1 by omega))
   replace hb := hb.trans (hb3.mono (show w.heap.size ≤ w.heap.size + 1 by omega))
   have O := Lib.hid (Kept.own hown3)
   clear hown3
   go_wp2_with fail
   go_roundw
   case rel => exact ⟨k + 1, by omega, by go_num, by rw [HTK.out]; exact O.out.now, T.out, hb⟩
   case measure => simp [intOf]; omega
  obtain rfl : k = x.mems.length := by omega
  rw [List.take_of_length_le (Nat.le_refl _)] at O
  by_cases h8 : x.kind = 8
  ·
   have Hul := Lib.hid (usesC_8 h8)
   have t8 : (x.kind == 8) = true := by simp [h8]
   clear h8
   obtain ⟨cT_0, -, -, -, -, -, -, cT_7, cT_8, -⟩ := T.out.c10
   have hbase : w.heap.size + 1 ≤ wr.heap.size := T.out.here
   go_upto_region 13 with (at_builtin; refine wpList_append_lieN rfl _ _ _ rfl (w.heap.size + 1) 134 _ 2 16 Tryz.underlying131 info_useC rfl (by decide) _ (x.mems.length) _ rfl O.out.now [.int .i64 0, .int .i64 x.key, .int .i64 (-1), .int .i64 x.elem] 2 _ 2 _ rfl rfl (by decide) rfl (by simp [Value.oneCell']) (by omega) (by omega) hbase ?_; intro g cap w3 hown3 hg3 hgat hb3)
   clear hg3 hgat hbase
   clear cT_0 cT_7 cT_8
   clear O
   replace T := Lib.hid (T.out.below hb3 (show w.heap.size < w.heap.size + 1 by omega))
   replace hb := hb.trans (hb3.mono (show w.heap.size ≤ w.heap.size + 1 by omega))
   have O := Lib.hid (Kept.own hown3)
   clear hown3
   go_wp2_with fail
   go_ret
   exact ⟨_, rfl, by rw [Hul.out, usesV_app]; exact own_base (by simpa [usesV, useV, List.append_assoc] using O.out.now) (by omega), hb⟩
  by_cases h79 : x.kind = 7 ∨ x.kind = 9
  ·
   have Hul := Lib.hid (usesC_79 h79)
   have t8 : (x.kind == 8) = false := by simpa using h8
   rcases h79 with h7 | h7
   ·
    have t7 : (x.kind == 7) = true := by simp [h7]
    clear h8 h7
    have cT_0 := T.out.e0
    have cT_8 := T.out.e8
    have hbase : w.heap.size + 1 ≤ wr.heap.size := T.out.here
    go_upto_region 13 with (at_builtin; refine wpList_append_lieN rfl _ _ _ rfl (w.heap.size + 1) 134 _ 2 16 Tryz.underlying131 info_useC rfl (by decide) _ (x.mems.length) _ rfl O.out.now [.int .i64 (-1), .int .i64 x.elem] 1 _ 1 _ rfl rfl (by decide) rfl (by simp [Value.oneCell']) (by omega) (by omega) hbase ?_; intro g cap w3 hown3 hg3 hgat hb3)
    clear hg3 hgat hbase
    clear cT_0 cT_8
    clear O
    replace T := Lib.hid (T.out.below hb3 (show w.heap.size < w.heap.size + 1 by omega))
    replace hb := hb.trans (hb3.mono (show w.heap.size ≤ w.heap.size + 1 by omega))
    have O := Lib.hid (Kept.own hown3)
    clear hown3
    go_wp2_with fail
    go_ret
    exact ⟨_, rfl, by rw [Hul.out, usesV_app]; exact own_base (by simpa [usesV, useV, List.append_assoc] using O.out.now) (by omega), hb⟩
   have t7 : (x.kind == 7) = false := by simp [h7]
   have t9 : (x.kind == 9) = true := by simp [h7]
   clear h8 h7
   have cT_0 := T.out.e0
   have cT_8 := T.out.e8
   have hbase : w.heap.size + 1 ≤ wr.heap.size := T.out.here
   go_upto_region 13 with (at_builtin; refine wpList_append_lieN rfl _ _ _ rfl (w.heap.size + 1) 134 _ 2 16 Tryz.underlying131 info_useC rfl (by decide) _ (x.mems.length) _ rfl O.out.now [.int .i64 (-1), .int .i64 x.elem] 1 _ 1 _ rfl rfl (by decide) rfl (by simp [Value.oneCell']) (by omega) (by omega) hbase ?_; intro g cap w3 hown3 hg3 hgat hb3)
   clear hg3 hgat hbase
   clear cT_0 cT_8
   clear O
   replace T := Lib.hid (T.out.below hb3 (show w.heap.size < w.heap.size + 1 by omega))
   replace hb := hb.trans (hb3.mono (show w.heap.size ≤ w.heap.size + 1 by omega))
   have O := Lib.hid (Kept.own hown3)
   clear hown3
   go_wp2_with fail
   go_ret
   exact ⟨_, rfl, by rw [Hul.out, usesV_app]; exact own_base (by simpa [usesV, useV, List.append_assoc] using O.out.now) (by omega), hb⟩
  have Hul := Lib.hid (usesC_0 (by omega : ¬ (x.kind = 7 ∨ x.kind = 8 ∨ x.kind = 9)))
  have t8 : (x.kind == 8) = false := by simpa using h8
  have t7 : (x.kind == 7) = false := by simpa using fun h => h79 (.inl h)
  have t9 : (x.kind == 9) = false := by simpa using fun h => h79 (.inr h)
  clear h8 h79
  have cT_0 := T.out.e0
  go_wp2_with fail
  go_ret
  exact ⟨_, rfl, by rw [Hul.out]; exact own_base (by simpa using O.out.now) (by omega), hb⟩
end Go.Proofs.YtlamhkffnlgofaaGreatDoor

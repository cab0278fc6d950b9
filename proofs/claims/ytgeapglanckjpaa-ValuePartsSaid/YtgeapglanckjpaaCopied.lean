/- What copied computes: a value that reads the same, all of whose parts are new. No condition. -/
import Derived.Test.YtgeapglanckjpaaGD
import Derived.Test.YtgeapglanckjpaaGC
import Derived.Laws.CopyOwn
import Derived.Deep.RegionLaw
set_option maxHeartbeats 1600000
namespace Go.Proofs.Ytgeapglanckjpaa
open Go.ChangeShapes Go.WideShapes Go.ChangeAt Go.RowKit
def CopyOf (x : Val) (w : World) (e : Ending) (w' : World) : Prop :=
 ∃ vk vi vr, e = .returned (valA x vk vi vr) ∧ ValP w' (fun b => w.heap.size ≤ b ∧ b < w'.heap.size) x vk vi vr ∧ Below w.heap.size w w'
structure CopyRel (w : World) (x : Val) (vk vi vr : Value) (L : Nat) (T TL : TypeId) (j : Nat) (vk' vi' : Value) (wr : World) : Prop where
 blk : Has wr w.heap.size T #[.int .i64 x.kind, .bool x.bool, .int .i64 x.num, .string ⟨x.str.toArray⟩, .int .i64 x.id, vk', vi', vr]
 res : Has wr (w.heap.size + 1) T #[.int .i64 0, .bool false, .int .i64 0, .string ⟨#[]⟩, .int .i64 0, .slice none 0 0, .slice none 0 0, .slice none 0 0]
 lst : Has wr L TL #[.pointer (some ⟨w.heap.size, 5, none⟩), .pointer (some ⟨w.heap.size, 6, none⟩)]
 le : j ≤ 2
 k0 : j = 0 → vk' = vk
 i0 : j ≤ 1 → vi' = vi
 k1 : 1 ≤ j → RdValsP wr (fun b => w.heap.size + 2 ≤ b ∧ b < wr.heap.size) vk' x.keys
 i1 : 2 ≤ j → RdValsP wr (fun b => w.heap.size + 2 ≤ b ∧ b < wr.heap.size) vi' x.items
 rest : RdP wr (fun b => w.heap.size + 2 ≤ b ∧ b < wr.heap.size) 2 vr x.rest.length (rawsV x.rest)
 bel : Below w.heap.size w wr
theorem Rd.flat {w : World} {B size n cap : Nat} {A : Option Addr} {xs : List Value} (h : Rd w B size (.slice A n cap) n xs) (hB : B ≤ w.heap.size) :
  (A = none → n = 0) ∧ (∀ a, A = some a → ∀ j u, xs[j]? = some u → w.cell? (a.add j) = some u) ∧ (∀ a, A = some a → 0 < n → a.block < w.heap.size) := by
 obtain ⟨hl, A', c', hv, _, h2⟩ := h
 injection hv with h3 h4 h5
 subst h3
 rcases h2 with rfl | ⟨b, o, rfl, hb, hc⟩
 ·
  refine ⟨fun _ => rfl, fun a _ j u hu => ?_, fun _ _ h => by omega⟩
  have : xs = [] := by simpa using hl
  subst this; simp at hu
 refine ⟨fun h => (by cases h), fun a ha j u hu => ?_, fun a ha _ => ?_⟩
 ·
  injection ha with ha; subst ha
  rw [Addr.add_mid]; exact hc j u hu
 injection ha with ha; subst ha
 show b < w.heap.size
 omega
theorem Row.flat' {w : World} {B size n cap : Nat} {A : Option Addr} {c : Nat → List Value} (h : Row w B size (.slice A n cap) n c) (hB : B ≤ w.heap.size) (hs : 0 < size) (hc : ∀ i, i < n → (c i).length = size) :
  (A = none → n = 0) ∧ (∀ a, A = some a → ∀ j u, (rowsV c n)[j]? = some u → w.cell? (a.add j) = some u) ∧ (∀ a, A = some a → 0 < n → a.block < w.heap.size) := by
 have h0 := h
 obtain ⟨A', c', hv, _, h2⟩ := h
 injection hv with h3 h4 h5
 subst h3
 refine ⟨fun e => ?_, fun a ha => h0.flat hs hc a ha, fun a ha hp => ?_⟩
 ·
  rcases h2 with h | ⟨b, o, h, _⟩
  ·
   exact h
  rw [e] at h; cases h
 rcases h2 with h | ⟨b, o, h, hb, _⟩
 ·
  omega
 rw [ha] at h; injection h with h; subst h
 show b < w.heap.size
 omega
theorem raws_one (rs : List Raw) : ∀ u ∈ rawsV rs, u.oneCell' = true := by
 intro u hu
 simp only [rawsV, List.mem_flatMap, rawV, List.mem_cons, List.not_mem_nil, or_false] at hu
 obtain ⟨r, _, rfl | rfl⟩ := hu <;> rfl
theorem raws_len (rs : List Raw) : (rawsV rs).length = rs.length * 2 := by
 induction rs with
 | nil => rfl
 | cons r rs ih => rw [rawsV, List.flatMap_cons, List.length_append, ← rawsV, ih]; simp [rawV]; omega
theorem step_store_mid {P : Program} {ops : Array Oper} {op : Oper} {a : Act} {w : World} {K : Act → World → Prop} {Q : Exit → Act → World → Prop} {E : Prop} (hgd : op.guard = none) (ty : TypeId) (x y : Operand) (ho : op.op = .store ty x y)
  (b o : Nat) (cells : Array Value) (hx : a.eval x = .pointer (some ⟨b, o, none⟩)) (hy : a.eval y = .agg cells)
  (ht : w.there b o cells.size) (hi : (P.info? ty).map (·.size) = some cells.size) (h1 : cells.all (·.oneCell') = true)
  (h : K (a.put op.dst undef) (w.setCells b o cells.toList)) : if Region.wanted op (yielded ops a.tmps) = true then Oper.wp P op a w K Q else E := by
 have hw : Region.wanted op (yielded ops a.tmps) = true := by simp [Region.wanted, hgd]
 rw [if_pos hw]
 exact wp_store_mid ty x y ho b o cells hx hy ht hi h1 h
set_option maxRecDepth 100000 in
theorem copied_any : ∀ (N : Nat) (x : Val) (vk vi vr : Value) (w : World), wt x ≤ N → N ≤ 5000 → ValAt w w.heap.size x vk vi vr →
  Calls Try.prog 30 #[valA x vk vi vr] w (CopyOf x w) := by
 intro N
 induction N with
 | zero => intro x vk vi vr w h; have := wt_pos x; omega
 | succ N ih =>
  intro x vk vi vr w hN hN5 hv
  have hwe := wt_eq x
  have hkl := wtL_len x.keys
  have hil := wtL_len x.items
  have hkm := wtL_mem x.keys
  have him := wtL_mem x.items
  have hkeys := hv.keys
  have hitems := hv.items
  have hrest := hv.rest
  obtain ⟨A1, n1, A2, n2, A3, n3, rfl, rfl, rfl, -, -, -⟩ := hv.forms
  have IH := Lib.hid ih
  have HV := Lib.hid hv
  have HKM := Lib.hid hkm
  have HIM := Lib.hid him
  have HK := Lib.hid hkeys
  have HI := Lib.hid hitems
  have h2b := al2 w
  have HR := Lib.hid hrest
  have hb1 : wtL x.keys ≤ N := by omega
  have hb2 : wtL x.items ≤ N := by omega
  have hb3 : x.rest.length ≤ 5000 := by omega
  clear ih hv hkm him hkeys hitems hrest hwe
  go_enter Try.func30, Try.ntmps30
  go_wp2_with fail
  have HB0 := (Has.made w 34 #[.int .i64 x.kind, .bool x.bool, .int .i64 x.num, .string ⟨x.str.toArray⟩, .int .i64 x.id, .slice A1 x.keys.length n1, .slice A2 x.items.length n2, .slice A3 x.rest.length n3]).alloc (.cells #[.int .i64 0, .bool false, .int .i64 0, .string ⟨#[]⟩, .int .i64 0, .slice none 0 0, .slice none 0 0, .slice none 0 0] 34)
  have HB1 := Has.made (w.alloc (.cells #[.int .i64 x.kind, .bool x.bool, .int .i64 x.num, .string ⟨x.str.toArray⟩, .int .i64 x.id, .slice A1 x.keys.length n1, .slice A2 x.items.length n2, .slice A3 x.rest.length n3] 34)) 34 #[.int .i64 0, .bool false, .int .i64 0, .string ⟨#[]⟩, .int .i64 0, .slice none 0 0, .slice none 0 0, .slice none 0 0]
  rw [show (w.alloc (.cells #[.int .i64 x.kind, .bool x.bool, .int .i64 x.num, .string ⟨x.str.toArray⟩, .int .i64 x.id, .slice A1 x.keys.length n1, .slice A2 x.items.length n2, .slice A3 x.rest.length n3] 34)).heap.size = w.heap.size + 1 by simp] at HB1
  have h01 := h2b (.cells #[.int .i64 x.kind, .bool x.bool, .int .i64 x.num, .string ⟨x.str.toArray⟩, .int .i64 x.id, .slice A1 x.keys.length n1, .slice A2 x.items.length n2, .slice A3 x.rest.length n3] 34) (.cells #[.int .i64 0, .bool false, .int .i64 0, .string ⟨#[]⟩, .int .i64 0, .slice none 0 0, .slice none 0 0, .slice none 0 0] 34)
  generalize (w.alloc (.cells #[.int .i64 x.kind, .bool x.bool, .int .i64 x.num, .string ⟨x.str.toArray⟩, .int .i64 x.id, .slice A1 x.keys.length n1, .slice A2 x.items.length n2, .slice A3 x.rest.length n3] 34)).alloc (.cells #[.int .i64 0, .bool false, .int .i64 0, .string ⟨#[]⟩, .int .i64 0, .slice none 0 0, .slice none 0 0, .slice none 0 0] 34) = w1 at *
  have hz1 := HB1.here
  obtain ⟨hr1, hr2, hr3⟩ := ((HR.out.below h01).mono h01.size).flat (Nat.le_refl _)
  refine (cloner_any x.rest.length A3 n3 (rawsV x.rest) w1 (by omega) hr1 (raws_len _) hr2 hr3 (raws_one _)).mono ?_
  rintro e w2 ⟨vr', rfl, hown2, hb2'⟩
  clear hr1 hr2 hr3 h2b
  have h02 := h01.trans (hb2'.mono h01.size)
  have HB0 := HB0.below hb2' (by omega)
  have HB1 := HB1.below hb2' hz1
  have hz2 := HB1.here
  have hs12 := hb2'.size
  have HP2 : RdP w2 (fun b => w.heap.size + 2 ≤ b ∧ b < w2.heap.size) 2 vr' x.rest.length (rawsV x.rest) := by
   obtain ⟨hl, A, c, hv, hc, h2⟩ := Rd.of_own hown2
   refine ⟨hl, A, c, hv, hc, ?_⟩
   rcases h2 with h2 | ⟨b, o, hA, hb, hcell⟩
   ·
    exact .inl h2
   refine .inr ⟨b, o, hA, ⟨?_, hb⟩, hcell⟩
   have := (hown2.lt b (by rw [hv, hA]; rfl)).1
   omega
  obtain ⟨A3', n3', rfl, -⟩ := (Rd.of_own hown2).form
  have c7 := HB0.cell 7
  have f7 := HB0.free 7
  simp only [gl3] at c7
  have HB0 := Lib.hid HB0
  have HB1 := Lib.hid HB1
  have HP2 := Lib.hid HP2
  clear hown2 hb2' HR
  go_wp2_with fail
  clear c7 f7
  have hL := Has.made (w2.setCell ⟨w.heap.size, 7, none⟩ (.slice A3' x.rest.length n3')) 100 #[.pointer (some ⟨w.heap.size, 5, none⟩), .pointer (some ⟨w.heap.size, 6, none⟩)]
  rw [show (w2.setCell ⟨w.heap.size, 7, none⟩ (.slice A3' x.rest.length n3')).heap.size = w2.heap.size by simp] at hL
  have hrel0 : CopyRel w x (.slice A1 x.keys.length n1) (.slice A2 x.items.length n2) (.slice A3' x.rest.length n3') w2.heap.size 34 100 0 (.slice A1 x.keys.length n1) (.slice A2 x.items.length n2)
    ((w2.setCell ⟨w.heap.size, 7, none⟩ (.slice A3' x.rest.length n3')).alloc (.cells #[.pointer (some ⟨w.heap.size, 5, none⟩), .pointer (some ⟨w.heap.size, 6, none⟩)] 100)) :=
   {
    blk := (HB0.out.set 7 _).alloc _
    res := (HB1.out.far (p := ⟨w.heap.size, 7, none⟩) (by show w.heap.size + 1 ≠ w.heap.size; omega) _).alloc _
    lst := hL
    le := by omega
    k0 := fun _ => rfl
    i0 := fun _ => rfl
    k1 := fun h => by omega
    i1 := fun h => by omega
    rest := HP2.out.keep (fun p hp => by
     rw [World.cell?_of_block (Below.heap_alloc _ _ p.block (by simp; exact hp.2))]
     exact World.cell?_setCell_other _ _ _ _ (fun e => by have := congrArg Addr.block e; simp at this; omega)) (fun b hb => ⟨hb.1, by have := hb.2; simp; omega⟩)
    bel := (h02.setCell (by simp) _).alloc (by simp; omega) _ }
  generalize (w2.setCell ⟨w.heap.size, 7, none⟩ (.slice A3' x.rest.length n3')).alloc (.cells #[.pointer (some ⟨w.heap.size, 5, none⟩), .pointer (some ⟨w.heap.size, 6, none⟩)] 100) = w3 at *
  have hL2 : w.heap.size + 2 ≤ w2.heap.size := by omega
  generalize w2.heap.size = L at *
  have HR0 := Lib.hid hrel0
  clear hL hrel0 HP2 HB0 HB1 h02 hz2 hs12 h01 hz1
  go_loopw [15] (fun i wr => ∃ (j : Nat) (vk' vi' : Value), i = .int .i64 j ∧ CopyRel w x (.slice A1 x.keys.length n1) (.slice A2 x.items.length n2) (.slice A3' x.rest.length n3') L 34 100 j vk' vi' wr) (fun i _ => 2 - (intOf i).toNat)
  case atStart => exact ⟨0, _, _, rfl, HR0.out⟩
  case round =>
   obtain ⟨j, vk', vi', rfl, hrel⟩ := hrel
   have HRel := Lib.hid hrel
   have hj2 := hrel.le
   have hbel := hrel.bel
   clear hrel
   by_cases hj : j < 2
   ·
    obtain rfl | rfl : j = 0 ∨ j = 1 := by omega
    ·
     obtain rfl := HRel.out.k0 rfl
     have hc0 := HRel.out.blk.cell 5
     have hf0 := HRel.out.blk.free 5
     have hl0 := HRel.out.lst.cell 0
     simp only [gl3] at hc0 hl0
     have hko := HK.out.keep (w' := wr) (fun p hp => hbel.cell hp) (Nat.le_refl _)
     obtain ⟨ck, hrow, hel⟩ : RdVals wr w.heap.size (.slice A1 x.keys.length n1) x.keys := HK.out.keep (w' := wr) (fun p hp => hbel.cell hp) (Nat.le_refl _)
     have hlen8 : ∀ i, i < x.keys.length → (ck i).length = 8 := fun i hi => by
      obtain ⟨_, _, _, h, _⟩ := (hel i hi).inv
      rw [h]; rfl
     have hone : ∀ u ∈ rowsV ck x.keys.length, u.oneCell' = true := by
      intro u hu
      obtain ⟨q, hq⟩ := List.mem_iff_getElem?.1 hu
      obtain ⟨h1, h2⟩ := rowsV_inv ck 8 _ (by omega) hlen8 q u hq
      obtain ⟨a1, a2, a3, h, hva⟩ := (hel _ h1).inv
      obtain ⟨_, _, _, _, _, _, rfl, rfl, rfl, -, -, -⟩ := hva.forms
      rw [h] at h2
      exact valV_one _ _ _ _ rfl rfl rfl u (List.mem_of_getElem? h2)
     obtain ⟨hr1, hr2, hr3⟩ := hrow.flat' hbel.size (by omega) hlen8
     have HC := Lib.hid (clonev_any x.keys.length A1 n1 (rowsV ck x.keys.length) wr (by omega) hr1 (rowsV_len _ _ _ hlen8) hr2 hr3 hone)
     have Hel := Lib.hid hel
     have Hlen8 := Lib.hid hlen8
     clear hr1 hr2 hr3 hone hel hlen8 hrow hko
     go_wp2_with fail
     refine HC.out.mono ?_
     rintro e w4 ⟨v4, rfl, hown4, hb4⟩
     clear HC
     have hzB : w.heap.size + 1 < wr.heap.size := HRel.out.res.here
     have hzB0 : w.heap.size < wr.heap.size := by omega
     obtain ⟨A4, n4, rfl, -⟩ := (Rd.of_own hown4).form
     have hc4 := (hb4.cell (p := ⟨w.heap.size, 5, none⟩) hzB0).trans hc0
     have hf4 := (hb4.frozen (p := ⟨w.heap.size, 5, none⟩) hzB0).trans hf0
     have HO4 := Lib.hid hown4
     clear hown4 hc0 hf0
     go_wp2_with fail
     have hres5 := (HRel.out.res.below hb4 hzB).far (p := ⟨w.heap.size, 5, none⟩) (by show w.heap.size + 1 ≠ w.heap.size; omega) (.slice A4 x.keys.length n4)
     have hlst5 := (HRel.out.lst.below hb4 HRel.out.lst.here).far (p := ⟨w.heap.size, 5, none⟩) (by show L ≠ w.heap.size; omega) (.slice A4 x.keys.length n4)
     have hblk5 := (HRel.out.blk.below hb4 hzB0).set 5 (.slice A4 x.keys.length n4)
     have hown5 := ownsRow_setCell_below (a := ⟨w.heap.size, 5, none⟩) HO4.out hzB0 (.slice A4 x.keys.length n4)
     have hbel5 := (hbel.trans (hb4.mono hbel.size)).setCell (show w.heap.size ≤ (⟨w.heap.size, 5, none⟩ : Addr).block from Nat.le_refl _) (.slice A4 x.keys.length n4)
     have hfar5 : ∀ p : Addr, p.block < wr.heap.size → p.block ≠ w.heap.size → (w4.setCell ⟨w.heap.size, 5, none⟩ (.slice A4 x.keys.length n4)).cell? p = wr.cell? p := fun p h1 h2 =>
      (World.cell?_setCell_other _ _ _ _ (fun e => h2 (congrArg Addr.block e).symm)).trans (hb4.cell h1)
     have hs5 : wr.heap.size ≤ (w4.setCell ⟨w.heap.size, 5, none⟩ (.slice A4 x.keys.length n4)).heap.size := by have := hb4.size; simp; omega
     generalize w4.setCell ⟨w.heap.size, 5, none⟩ (.slice A4 x.keys.length n4) = w5 at *
     have hLw : L < wr.heap.size := HRel.out.lst.here
     have Hfar5 := Lib.hid hfar5
     have Hres5 := Lib.hid hres5
     have Hlst5 := Lib.hid hlst5
     have Hblk5 := Lib.hid hblk5
     have Hown5 := Lib.hid hown5
     have hel5 : ∀ (i : Nat) (h : i < x.keys.length), RdValP w5 (· < w.heap.size) x.keys[i] (ck i) := fun i h => (Hel.out i h).toP.keep (fun p hp => hfar5 p (by omega) (by omega)) (fun _ h => h)
     have Hel5 := Lib.hid hel5
     clear hres5 hlst5 hblk5 hown5 hel5 hfar5 hc4 hf4 hl0 hb4 HO4
     obtain ⟨wo, rfl⟩ : ∃ wo : World, wo = wr := ⟨_, rfl⟩
     go_loopw [29] (fun i ws => ∃ (k : Nat) (c : Nat → List Value) (xs : List Value), i = .int .i64 k ∧ k ≤ x.keys.length ∧ ws.ownsRow wo.heap.size 34 8 (.slice A4 x.keys.length n4) x.keys.length xs ∧ Tiled 8 x.keys.length xs c ∧ (∀ (i : Nat) (h : i < x.keys.length), i < k → RdValP ws (fun b => wo.heap.size ≤ b ∧ b < ws.heap.size ∧ A4.map Addr.block ≠ some b) x.keys[i] (c i)) ∧ (∀ (i : Nat) (h : i < x.keys.length), k ≤ i → RdValP ws (· < w.heap.size) x.keys[i] (c i)) ∧ Below wo.heap.size w5 ws) (fun i _ => x.keys.length - (intOf i).toNat)
     case atStart => exact ⟨0, ck, rowsV ck x.keys.length, rfl, by omega, Hown5.out, Tiled.of_rows _ _ _ Hlen8.out, fun i h1 h2 => by omega, fun i h1 _ => Hel5.out i h1, Below.refl _ _⟩
     case round =>
      obtain ⟨k, c, xs, rfl, hk, hown, htil, hdone, htodo, hb⟩ := hrel
      have hcell := (hb.cell (p := ⟨w.heap.size, 5, none⟩) hzB0).trans (Hblk5.out.cell 5)
      simp at hcell
      have h0s := hbel5.trans (hb.mono hbel.size)
      by_cases hlt : k < x.keys.length
      ·
       obtain ⟨g, rfl⟩ : ∃ g, A4 = some ⟨g, 0, none⟩ := by
        rcases hown.2 with ⟨h, h2⟩ | ⟨g, cap, cur, h, _⟩
        ·
         omega
        injection h with h; exact ⟨g, h⟩
       obtain ⟨ak, ai, ar, hck, hva⟩ := ((htodo k hlt (Nat.le_refl _)).rd (B := w.heap.size) (fun _ h => h)).inv
       have hy : ∀ j u, (valV x.keys[k] ak ai ar)[j]? = some u → wr.cell? ⟨g, k * 8 + j, none⟩ = some u := fun j u hu => by
        have h8 : k * 8 + j < x.keys.length * 8 := by
         have hj := (List.getElem?_eq_some_iff.1 hu).1
         simp only [valV, List.length_cons, List.length_nil] at hj
         omega
        rw [hown.cellAt _ h8]
        exact htil.2.2 k hlt j u (by rw [hck]; exact hu)
       have hmem : wt x.keys[k] ≤ N := by have := wtL_mem x.keys _ (List.getElem_mem hlt); omega
       have hi1 : (k : Int) < x.keys.length := by omega
       obtain ⟨Y1, m1, Y2, m2, Y3, m3, rfl, rfl, rfl, -, -, -⟩ := hva.forms
       have y0 := hy 0 _ rfl
       have y1 := hy 1 _ rfl
       have y2 := hy 2 _ rfl
       have y3 := hy 3 _ rfl
       have y4 := hy 4 _ rfl
       have y5 := hy 5 _ rfl
       have y6 := hy 6 _ rfl
       have y7 := hy 7 _ rfl
       simp only [Nat.add_zero] at y0
       have HVA := Lib.hid hva
       have Hown := Lib.hid hown
       have Htil := Lib.hid htil
       have Hdone := Lib.hid hdone
       have Htodo := Lib.hid htodo
       have Hmem := Lib.hid hmem
       have hgb : wo.heap.size ≤ g ∧ g < wr.heap.size := hown.lt g rfl
       clear hy hva hown htil hdone htodo hmem hck
       generalize hyy : x.keys[k] = y at *
       have Hyy := Lib.hid hyy
       clear hyy
       go_wp2_with fail
       have hw1 := (Below.refl wr.heap.size wr).alloc (Nat.le_refl _) (.cells #[.int .i64 y.kind, .bool y.bool, .int .i64 y.num, .string ⟨y.str.toArray⟩, .int .i64 y.id, .slice Y1 y.keys.length m1, .slice Y2 y.items.length m2, .slice Y3 y.rest.length m3] 34)
       have HX := Has.made wr 34 #[.int .i64 y.kind, .bool y.bool, .int .i64 y.num, .string ⟨y.str.toArray⟩, .int .i64 y.id, .slice Y1 y.keys.length m1, .slice Y2 y.items.length m2, .slice Y3 y.rest.length m3]
       have hb6 := hb.alloc (show wo.heap.size ≤ wr.heap.size by omega) (.cells #[.int .i64 y.kind, .bool y.bool, .int .i64 y.num, .string ⟨y.str.toArray⟩, .int .i64 y.id, .slice Y1 y.keys.length m1, .slice Y2 y.items.length m2, .slice Y3 y.rest.length m3] 34)
       have h06 := h0s.alloc h0s.size (.cells #[.int .i64 y.kind, .bool y.bool, .int .i64 y.num, .string ⟨y.str.toArray⟩, .int .i64 y.id, .slice Y1 y.keys.length m1, .slice Y2 y.items.length m2, .slice Y3 y.rest.length m3] 34)
       have Hown6 := Lib.hid (Hown.out.alloc (.cells #[.int .i64 y.kind, .bool y.bool, .int .i64 y.num, .string ⟨y.str.toArray⟩, .int .i64 y.id, .slice Y1 y.keys.length m1, .slice Y2 y.items.length m2, .slice Y3 y.rest.length m3] 34))
       generalize wr.alloc (.cells #[.int .i64 y.kind, .bool y.bool, .int .i64 y.num, .string ⟨y.str.toArray⟩, .int .i64 y.id, .slice Y1 y.keys.length m1, .slice Y2 y.items.length m2, .slice Y3 y.rest.length m3] 34) = w6 at *
       have hzX := HX.here
       obtain ⟨x0, x1, x2, x3, x4, x5, x6, x7⟩ := HX.c8
       have hwB : w.heap.size < wr.heap.size := by have := h0s.size; omega
       have HVA6 := Lib.hid (HVA.out.keep (w' := w6) (B' := w6.heap.size) (fun p hp => hw1.cell (by omega)) (by omega))
       have hcell := (hw1.cell (p := ⟨w.heap.size, 5, none⟩) hwB).trans hcell
       clear HVA HX
       refine wp_region_held_drew (S := (fun w' => w'.cell? ⟨w.heap.size, 5, none⟩ = some (.slice (some ⟨g, 0, none⟩) x.keys.length n4) ∧ w'.cell? ⟨wr.heap.size, 0, none⟩ = some (.int .i64 y.kind) ∧ w'.cell? ⟨wr.heap.size, 1, none⟩ = some (.bool y.bool) ∧ w'.cell? ⟨wr.heap.size, 2, none⟩ = some (.int .i64 y.num) ∧ w'.cell? ⟨wr.heap.size, 3, none⟩ = some (.string ⟨y.str.toArray⟩) ∧ w'.cell? ⟨wr.heap.size, 4, none⟩ = some (.int .i64 y.id) ∧ w'.cell? ⟨wr.heap.size, 5, none⟩ = some (.slice Y1 y.keys.length m1) ∧ w'.cell? ⟨wr.heap.size, 6, none⟩ = some (.slice Y2 y.items.length m2) ∧ w'.cell? ⟨wr.heap.size, 7, none⟩ = some (.slice Y3 y.rest.length m3))) (by kernel_rfl) ⟨hcell, x0, x1, x2, x3, x4, x5, x6, x7⟩ (fun hHeld => ?_)
       refine wpAnyH_take (i := 0) (v := ?v00) rfl (by kernel_rfl) (by kernel_rfl) (by kernel_rfl) (fun _ _ _ h => h) (Or.inl ⟨by rfl, ?h00⟩) (by assumption) ?r00
       case h00 => (intro w hSw; (try dsimp only at hSw); go_simp; (first | done | with_reducible rfl))
       try simp only [Act.put, List.setIfInBounds_toArray]
       refine wpAnyH_take (i := 1) (v := ?v10) rfl (by kernel_rfl) (by kernel_rfl) (by kernel_rfl) (fun _ _ _ h => h) (Or.inl ⟨by rfl, ?h10⟩) (by assumption) ?r10
       case h10 => (intro w hSw; (try dsimp only at hSw); go_simp; (first | done | with_reducible rfl))
       try simp only [Act.put]
       refine wpAnyH_take (i := 2) (v := ?v20) rfl (by kernel_rfl) (by kernel_rfl) (by kernel_rfl) (fun _ _ _ h => h) (Or.inl ⟨by rfl, ?h20⟩) (by assumption) ?r20
       case h20 => (intro w hSw; (try dsimp only at hSw); go_simp; (first | done | with_reducible rfl))
       try simp only [Act.put]
       refine wpAnyH_take (i := 3) (v := ?v30) rfl (by kernel_rfl) (by kernel_rfl) (by kernel_rfl) (fun _ _ _ h => h) (Or.inl ⟨by rfl, ?h30⟩) (by assumption) ?r30
       case h30 => (intro w hSw; (try dsimp only at hSw); go_simp; (first | done | with_reducible rfl))
       try simp only [Act.put]
       refine wpAnyH_take (i := 4) (v := ?v40) rfl (by kernel_rfl) (by kernel_rfl) (by kernel_rfl) (fun _ _ _ h => h) (Or.inl ⟨by rfl, ?h40⟩) (by assumption) ?r40
       case h40 => (intro w hSw; (try dsimp only at hSw); go_simp; (first | done | with_reducible rfl))
       try simp only [Act.put]
       refine wpAnyH_ready (rs := [5]) (by kernel_rfl) (by simp) ?_
       refine AllReadyH.cons rfl (fun K hK => ?_) AllReadyH.nil
       clear hHeld
       go_simp
       refine (IH.out y _ _ _ _ Hmem.out (by omega) (HVA6.out.on (Below.refl _ _).drew)).mono ?_
       rintro e w7 ⟨zk, zi, zr, rfl, hz, hb7⟩
       obtain ⟨_, ⟨Z1, z1, rfl, _⟩, _⟩ := id hz.keys
       obtain ⟨_, ⟨Z2, z2, rfl, _⟩, _⟩ := id hz.items
       obtain ⟨_, Z3, z3, rfl, _⟩ := id hz.rest
       have hb7' : Below w6.heap.size w6 w7 := ((Below.refl w6.heap.size w6).drew).trans hb7
       have p8 := (hb7'.cell (p := ⟨w.heap.size, 5, none⟩) (show w.heap.size < w6.heap.size by omega)).trans hcell
       have p0 := (hb7'.cell (p := ⟨wr.heap.size, 0, none⟩) hzX).trans x0
       have p1 := (hb7'.cell (p := ⟨wr.heap.size, 1, none⟩) hzX).trans x1
       have p2 := (hb7'.cell (p := ⟨wr.heap.size, 2, none⟩) hzX).trans x2
       have p3 := (hb7'.cell (p := ⟨wr.heap.size, 3, none⟩) hzX).trans x3
       have p4 := (hb7'.cell (p := ⟨wr.heap.size, 4, none⟩) hzX).trans x4
       have p5 := (hb7'.cell (p := ⟨wr.heap.size, 5, none⟩) hzX).trans x5
       have p6 := (hb7'.cell (p := ⟨wr.heap.size, 6, none⟩) hzX).trans x6
       have p7 := (hb7'.cell (p := ⟨wr.heap.size, 7, none⟩) hzX).trans x7
       refine hK.out _ _ ⟨p8, p0, p1, p2, p3, p4, p5, p6, p7⟩ (fun hHeld => ?_)
       clear hK K
       try simp only [Act.put]
       refine wpAnyH_take (i := 6) (v := ?v60) rfl (by kernel_rfl) (by kernel_rfl) (by kernel_rfl) (fun _ _ _ h => h) (Or.inl ⟨by rfl, ?h60⟩) (by assumption) ?r60
       case h60 => (intro w hSw; (try dsimp only at hSw); go_simp; (first | done | with_reducible rfl))
       try simp only [Act.put]
       refine wpAnyH_ready (rs := [7]) (by kernel_rfl) (by simp) ?_
       refine AllReadyH.cons rfl (fun K hK => ?_) AllReadyH.nil
       have ho7 := own_below Hown6.out hb7'
       refine step_store_mid rfl 34 _ _ rfl g (k * 8) _ rfl rfl (own_there ho7 (k * 8) 8 (tile_lt hlt)) (by kernel_rfl) (by simp [Value.oneCell']) ?_
       have hg1 : g ≠ w.heap.size := by have := hbel.size; omega
       have hg2 : g ≠ wr.heap.size := by omega
       refine hK.out _ _ ⟨(cell_setCells g (k * 8) _ w7 _ (Ne.symm hg1)).trans p8, (cell_setCells g (k * 8) _ w7 _ (Ne.symm hg2)).trans p0, (cell_setCells g (k * 8) _ w7 _ (Ne.symm hg2)).trans p1, (cell_setCells g (k * 8) _ w7 _ (Ne.symm hg2)).trans p2, (cell_setCells g (k * 8) _ w7 _ (Ne.symm hg2)).trans p3, (cell_setCells g (k * 8) _ w7 _ (Ne.symm hg2)).trans p4, (cell_setCells g (k * 8) _ w7 _ (Ne.symm hg2)).trans p5, (cell_setCells g (k * 8) _ w7 _ (Ne.symm hg2)).trans p6, (cell_setCells g (k * 8) _ w7 _ (Ne.symm hg2)).trans p7⟩ (fun hHeld2 => ?_)
       clear hK K
       refine wpAnyH_done (by kernel_rfl) ?_ _
       clear hHeld hHeld2
       have ho8 := own_setCells (valV y (.slice Z1 y.keys.length z1) (.slice Z2 y.items.length z2) (.slice Z3 y.rest.length z3)) xs (k * 8) w7 ho7
       have hb8 := below_setCells (B := wo.heap.size) hgb.1 (valV y (.slice Z1 y.keys.length z1) (.slice Z2 y.items.length z2) (.slice Z3 y.rest.length z3)) (k * 8) w7 (hb6.trans (hb7'.mono (show wo.heap.size ≤ w6.heap.size by omega)))
       have hfar := fun (p : Addr) (hp : p.block ≠ g) => cell_setCells g (k * 8) (valV y (.slice Z1 y.keys.length z1) (.slice Z2 y.items.length z2) (.slice Z3 y.rest.length z3)) w7 p hp
       have hsz8 := size_setCellsX g (valV y (.slice Z1 y.keys.length z1) (.slice Z2 y.items.length z2) (.slice Z3 y.rest.length z3)) (k * 8) w7
       have htil8 := Htil.out.set k (valV y (.slice Z1 y.keys.length z1) (.slice Z2 y.items.length z2) (.slice Z3 y.rest.length z3)) hlt rfl
       try simp only [Act.put]
       change Exit.inBlock _ _ _ _ (w7.setCells g (k * 8) (valV y (.slice Z1 y.keys.length z1) (.slice Z2 y.items.length z2) (.slice Z3 y.rest.length z3)))
       generalize w7.setCells g (k * 8) (valV y (.slice Z1 y.keys.length z1) (.slice Z2 y.items.length z2) (.slice Z3 y.rest.length z3)) = w8 at *
       have hs67 := hb7'.size
       have hs6 : wr.heap.size < w6.heap.size := hzX
       have hfar2 : ∀ p : Addr, p.block ≠ g → p.block < wr.heap.size → w8.cell? p = wr.cell? p := fun p h1 h2 => (hfar p h1).trans ((hb7'.cell (by omega)).trans (hw1.cell h2))
       have hdone8 : ∀ (i : Nat) (h : i < x.keys.length), i < k + 1 → RdValP w8 (fun b => wo.heap.size ≤ b ∧ b < w8.heap.size ∧ (some ⟨g, 0, none⟩ : Option Addr).map Addr.block ≠ some b) x.keys[i] (if i = k then (valV y (.slice Z1 y.keys.length z1) (.slice Z2 y.items.length z2) (.slice Z3 y.rest.length z3)) else c i) := by
        intro i h1 h2
        by_cases e : i = k
        ·
         subst e
         rw [if_pos rfl, Hyy.out]
         refine hz.rd.keep (fun p hp => hfar p ?_) (fun b hb => ⟨?_, ?_, ?_⟩)
         ·
          have h3 : w6.heap.size ≤ p.block := hp.1
          omega
         ·
          have h3 : w6.heap.size ≤ b := hb.1
          omega
         ·
          have h3 : b < w7.heap.size := hb.2
          omega
         have h3 : w6.heap.size ≤ b := hb.1
         show some g ≠ some b
         intro h4; injection h4 with h4; omega
        rw [if_neg e]
        refine (Hdone.out i h1 (by omega)).keep (fun p hp => hfar2 p ?_ hp.2.1) (fun b hb => ⟨hb.1, by have := hb.2.1; omega, hb.2.2⟩)
        intro h4
        exact hp.2.2 (by rw [← h4]; rfl)
       have htodo8 : ∀ (i : Nat) (h : i < x.keys.length), k + 1 ≤ i → RdValP w8 (· < w.heap.size) x.keys[i] (if i = k then (valV y (.slice Z1 y.keys.length z1) (.slice Z2 y.items.length z2) (.slice Z3 y.rest.length z3)) else c i) := by
        intro i h1 h2
        rw [if_neg (by omega)]
        exact (Htodo.out i h1 (by omega)).keep (fun p hp => hfar2 p (by have := hbel.size; omega) (by omega)) (fun _ h => h)
       have Hdone8 := Lib.hid hdone8
       have Htodo8 := Lib.hid htodo8
       have Htil8 := Lib.hid htil8
       have Ho8 := Lib.hid ho8
       clear hdone8 htodo8 htil8 ho8 hfar hfar2 p0 p1 p2 p3 p4 p5 p6 p7 p8 x0 x1 x2 x3 x4 x5 x6 x7 y0 y1 y2 y3 y4 y5 y6 y7 ho7 hcell
       go_wp2_with fail
       go_roundw
       case rel => exact ⟨k + 1, _, _, by go_num, by omega, Ho8.out, Htil8.out, Hdone8.out, Htodo8.out, hb8⟩
       case measure => simp [intOf]; omega
      have hS : ∀ b, (Value.slice A4 x.keys.length n4).ownBlock = some b → w.heap.size + 2 ≤ b ∧ b < wr.heap.size := fun b hb => ⟨by have := (hown.lt b hb).1; omega, (hown.lt b hb).2⟩
      have hnew : RdValsP wr (fun b => w.heap.size + 2 ≤ b ∧ b < wr.heap.size) (.slice A4 x.keys.length n4) x.keys :=
       ⟨c, (RowP.of_tiled hown htil).keep (fun _ _ => rfl) hS, fun i h => (hdone i h (by omega)).keep (fun _ _ => rfl) (fun b hb => ⟨by have := hb.1; omega, hb.2.1⟩)⟩
      have hkeep : ∀ p : Addr, (w.heap.size + 2 ≤ p.block ∧ p.block < wo.heap.size) → wr.cell? p = wo.cell? p := fun p hp => (hb.cell hp.2).trans (Hfar5.out p hp.2 (by omega))
      have hsub : ∀ b, (w.heap.size + 2 ≤ b ∧ b < wo.heap.size) → w.heap.size + 2 ≤ b ∧ b < wr.heap.size := fun b h => ⟨h.1, by have := hb.size; omega⟩
      have hfin : CopyRel w x (.slice A1 x.keys.length n1) (.slice A2 x.items.length n2) (.slice A3' x.rest.length n3') L 34 100 (0 + 1) (.slice A4 x.keys.length n4) vi' wr :=
       {
        blk := Hblk5.out.below hb hzB0
        res := Hres5.out.below hb hzB
        lst := Hlst5.out.below hb hLw
        le := by omega
        k0 := fun h => by omega
        i0 := fun _ => HRel.out.i0 (by omega)
        k1 := fun _ => hnew
        i1 := fun h => by omega
        rest := HRel.out.rest.keep hkeep hsub
        bel := h0s }
      have Hfin := Lib.hid hfin
      clear hS hnew hkeep hsub hfin hown htil hdone htodo hcell
      go_wp2_with fail
      go_roundw
      case rel => exact ⟨0 + 1, _, _, by go_num, Hfin.out⟩
      case measure => simp [intOf]; try omega
    obtain rfl := HRel.out.i0 (by omega)
    have hc0 := HRel.out.blk.cell 6
    have hf0 := HRel.out.blk.free 6
    have hl0 := HRel.out.lst.cell 1
    simp only [gl3] at hc0 hl0
    have hko := HK.out.keep (w' := wr) (fun p hp => hbel.cell hp) (Nat.le_refl _)
    obtain ⟨ck, hrow, hel⟩ : RdVals wr w.heap.size (.slice A2 x.items.length n2) x.items := HI.out.keep (w' := wr) (fun p hp => hbel.cell hp) (Nat.le_refl _)
    have hlen8 : ∀ i, i < x.items.length → (ck i).length = 8 := fun i hi => by
     obtain ⟨_, _, _, h, _⟩ := (hel i hi).inv
     rw [h]; rfl
    have hone : ∀ u ∈ rowsV ck x.items.length, u.oneCell' = true := by
     intro u hu
     obtain ⟨q, hq⟩ := List.mem_iff_getElem?.1 hu
     obtain ⟨h1, h2⟩ := rowsV_inv ck 8 _ (by omega) hlen8 q u hq
     obtain ⟨a1, a2, a3, h, hva⟩ := (hel _ h1).inv
     obtain ⟨_, _, _, _, _, _, rfl, rfl, rfl, -, -, -⟩ := hva.forms
     rw [h] at h2
     exact valV_one _ _ _ _ rfl rfl rfl u (List.mem_of_getElem? h2)
    obtain ⟨hr1, hr2, hr3⟩ := hrow.flat' hbel.size (by omega) hlen8
    have HC := Lib.hid (clonev_any x.items.length A2 n2 (rowsV ck x.items.length) wr (by omega) hr1 (rowsV_len _ _ _ hlen8) hr2 hr3 hone)
    have Hel := Lib.hid hel
    have Hlen8 := Lib.hid hlen8
    clear hr1 hr2 hr3 hone hel hlen8 hrow hko
    go_wp2_with fail
    refine HC.out.mono ?_
    rintro e w4 ⟨v4, rfl, hown4, hb4⟩
    clear HC
    have hzB : w.heap.size + 1 < wr.heap.size := HRel.out.res.here
    have hzB0 : w.heap.size < wr.heap.size := by omega
    obtain ⟨A4, n4, rfl, -⟩ := (Rd.of_own hown4).form
    have hc4 := (hb4.cell (p := ⟨w.heap.size, 6, none⟩) hzB0).trans hc0
    have hf4 := (hb4.frozen (p := ⟨w.heap.size, 6, none⟩) hzB0).trans hf0
    have HO4 := Lib.hid hown4
    clear hown4 hc0 hf0
    go_wp2_with fail
    have hres5 := (HRel.out.res.below hb4 hzB).far (p := ⟨w.heap.size, 6, none⟩) (by show w.heap.size + 1 ≠ w.heap.size; omega) (.slice A4 x.items.length n4)
    have hlst5 := (HRel.out.lst.below hb4 HRel.out.lst.here).far (p := ⟨w.heap.size, 6, none⟩) (by show L ≠ w.heap.size; omega) (.slice A4 x.items.length n4)
    have hblk5 := (HRel.out.blk.below hb4 hzB0).set 6 (.slice A4 x.items.length n4)
    have hown5 := ownsRow_setCell_below (a := ⟨w.heap.size, 6, none⟩) HO4.out hzB0 (.slice A4 x.items.length n4)
    have hbel5 := (hbel.trans (hb4.mono hbel.size)).setCell (show w.heap.size ≤ (⟨w.heap.size, 6, none⟩ : Addr).block from Nat.le_refl _) (.slice A4 x.items.length n4)
    have hfar5 : ∀ p : Addr, p.block < wr.heap.size → p.block ≠ w.heap.size → (w4.setCell ⟨w.heap.size, 6, none⟩ (.slice A4 x.items.length n4)).cell? p = wr.cell? p := fun p h1 h2 =>
     (World.cell?_setCell_other _ _ _ _ (fun e => h2 (congrArg Addr.block e).symm)).trans (hb4.cell h1)
    have hs5 : wr.heap.size ≤ (w4.setCell ⟨w.heap.size, 6, none⟩ (.slice A4 x.items.length n4)).heap.size := by have := hb4.size; simp; omega
    generalize w4.setCell ⟨w.heap.size, 6, none⟩ (.slice A4 x.items.length n4) = w5 at *
    have hLw : L < wr.heap.size := HRel.out.lst.here
    have Hfar5 := Lib.hid hfar5
    have Hres5 := Lib.hid hres5
    have Hlst5 := Lib.hid hlst5
    have Hblk5 := Lib.hid hblk5
    have Hown5 := Lib.hid hown5
    have hel5 : ∀ (i : Nat) (h : i < x.items.length), RdValP w5 (· < w.heap.size) x.items[i] (ck i) := fun i h => (Hel.out i h).toP.keep (fun p hp => hfar5 p (by omega) (by omega)) (fun _ h => h)
    have Hel5 := Lib.hid hel5
    clear hres5 hlst5 hblk5 hown5 hel5 hfar5 hc4 hf4 hl0 hb4 HO4
    obtain ⟨wo, rfl⟩ : ∃ wo : World, wo = wr := ⟨_, rfl⟩
    go_loopw [29] (fun i ws => ∃ (k : Nat) (c : Nat → List Value) (xs : List Value), i = .int .i64 k ∧ k ≤ x.items.length ∧ ws.ownsRow wo.heap.size 34 8 (.slice A4 x.items.length n4) x.items.length xs ∧ Tiled 8 x.items.length xs c ∧ (∀ (i : Nat) (h : i < x.items.length), i < k → RdValP ws (fun b => wo.heap.size ≤ b ∧ b < ws.heap.size ∧ A4.map Addr.block ≠ some b) x.items[i] (c i)) ∧ (∀ (i : Nat) (h : i < x.items.length), k ≤ i → RdValP ws (· < w.heap.size) x.items[i] (c i)) ∧ Below wo.heap.size w5 ws) (fun i _ => x.items.length - (intOf i).toNat)
    case atStart => exact ⟨0, ck, rowsV ck x.items.length, rfl, by omega, Hown5.out, Tiled.of_rows _ _ _ Hlen8.out, fun i h1 h2 => by omega, fun i h1 _ => Hel5.out i h1, Below.refl _ _⟩
    case round =>
     obtain ⟨k, c, xs, rfl, hk, hown, htil, hdone, htodo, hb⟩ := hrel
     have hcell := (hb.cell (p := ⟨w.heap.size, 6, none⟩) hzB0).trans (Hblk5.out.cell 6)
     simp at hcell
     have h0s := hbel5.trans (hb.mono hbel.size)
     by_cases hlt : k < x.items.length
     ·
      obtain ⟨g, rfl⟩ : ∃ g, A4 = some ⟨g, 0, none⟩ := by
       rcases hown.2 with ⟨h, h2⟩ | ⟨g, cap, cur, h, _⟩
       ·
        omega
       injection h with h; exact ⟨g, h⟩
      obtain ⟨ak, ai, ar, hck, hva⟩ := ((htodo k hlt (Nat.le_refl _)).rd (B := w.heap.size) (fun _ h => h)).inv
      have hy : ∀ j u, (valV x.items[k] ak ai ar)[j]? = some u → wr.cell? ⟨g, k * 8 + j, none⟩ = some u := fun j u hu => by
       have h8 : k * 8 + j < x.items.length * 8 := by
        have hj := (List.getElem?_eq_some_iff.1 hu).1
        simp only [valV, List.length_cons, List.length_nil] at hj
        omega
       rw [hown.cellAt _ h8]
       exact htil.2.2 k hlt j u (by rw [hck]; exact hu)
      have hmem : wt x.items[k] ≤ N := by have := wtL_mem x.items _ (List.getElem_mem hlt); omega
      have hi1 : (k : Int) < x.items.length := by omega
      obtain ⟨Y1, m1, Y2, m2, Y3, m3, rfl, rfl, rfl, -, -, -⟩ := hva.forms
      have y0 := hy 0 _ rfl
      have y1 := hy 1 _ rfl
      have y2 := hy 2 _ rfl
      have y3 := hy 3 _ rfl
      have y4 := hy 4 _ rfl
      have y5 := hy 5 _ rfl
      have y6 := hy 6 _ rfl
      have y7 := hy 7 _ rfl
      simp only [Nat.add_zero] at y0
      have HVA := Lib.hid hva
      have Hown := Lib.hid hown
      have Htil := Lib.hid htil
      have Hdone := Lib.hid hdone
      have Htodo := Lib.hid htodo
      have Hmem := Lib.hid hmem
      have hgb : wo.heap.size ≤ g ∧ g < wr.heap.size := hown.lt g rfl
      clear hy hva hown htil hdone htodo hmem hck
      generalize hyy : x.items[k] = y at *
      have Hyy := Lib.hid hyy
      clear hyy
      go_wp2_with fail
      have hw1 := (Below.refl wr.heap.size wr).alloc (Nat.le_refl _) (.cells #[.int .i64 y.kind, .bool y.bool, .int .i64 y.num, .string ⟨y.str.toArray⟩, .int .i64 y.id, .slice Y1 y.keys.length m1, .slice Y2 y.items.length m2, .slice Y3 y.rest.length m3] 34)
      have HX := Has.made wr 34 #[.int .i64 y.kind, .bool y.bool, .int .i64 y.num, .string ⟨y.str.toArray⟩, .int .i64 y.id, .slice Y1 y.keys.length m1, .slice Y2 y.items.length m2, .slice Y3 y.rest.length m3]
      have hb6 := hb.alloc (show wo.heap.size ≤ wr.heap.size by omega) (.cells #[.int .i64 y.kind, .bool y.bool, .int .i64 y.num, .string ⟨y.str.toArray⟩, .int .i64 y.id, .slice Y1 y.keys.length m1, .slice Y2 y.items.length m2, .slice Y3 y.rest.length m3] 34)
      have h06 := h0s.alloc h0s.size (.cells #[.int .i64 y.kind, .bool y.bool, .int .i64 y.num, .string ⟨y.str.toArray⟩, .int .i64 y.id, .slice Y1 y.keys.length m1, .slice Y2 y.items.length m2, .slice Y3 y.rest.length m3] 34)
      have Hown6 := Lib.hid (Hown.out.alloc (.cells #[.int .i64 y.kind, .bool y.bool, .int .i64 y.num, .string ⟨y.str.toArray⟩, .int .i64 y.id, .slice Y1 y.keys.length m1, .slice Y2 y.items.length m2, .slice Y3 y.rest.length m3] 34))
      generalize wr.alloc (.cells #[.int .i64 y.kind, .bool y.bool, .int .i64 y.num, .string ⟨y.str.toArray⟩, .int .i64 y.id, .slice Y1 y.keys.length m1, .slice Y2 y.items.length m2, .slice Y3 y.rest.length m3] 34) = w6 at *
      have hzX := HX.here
      obtain ⟨x0, x1, x2, x3, x4, x5, x6, x7⟩ := HX.c8
      have hwB : w.heap.size < wr.heap.size := by have := h0s.size; omega
      have HVA6 := Lib.hid (HVA.out.keep (w' := w6) (B' := w6.heap.size) (fun p hp => hw1.cell (by omega)) (by omega))
      have hcell := (hw1.cell (p := ⟨w.heap.size, 6, none⟩) hwB).trans hcell
      clear HVA HX
      refine wp_region_held_drew (S := (fun w' => w'.cell? ⟨w.heap.size, 6, none⟩ = some (.slice (some ⟨g, 0, none⟩) x.items.length n4) ∧ w'.cell? ⟨wr.heap.size, 0, none⟩ = some (.int .i64 y.kind) ∧ w'.cell? ⟨wr.heap.size, 1, none⟩ = some (.bool y.bool) ∧ w'.cell? ⟨wr.heap.size, 2, none⟩ = some (.int .i64 y.num) ∧ w'.cell? ⟨wr.heap.size, 3, none⟩ = some (.string ⟨y.str.toArray⟩) ∧ w'.cell? ⟨wr.heap.size, 4, none⟩ = some (.int .i64 y.id) ∧ w'.cell? ⟨wr.heap.size, 5, none⟩ = some (.slice Y1 y.keys.length m1) ∧ w'.cell? ⟨wr.heap.size, 6, none⟩ = some (.slice Y2 y.items.length m2) ∧ w'.cell? ⟨wr.heap.size, 7, none⟩ = some (.slice Y3 y.rest.length m3))) (by kernel_rfl) ⟨hcell, x0, x1, x2, x3, x4, x5, x6, x7⟩ (fun hHeld => ?_)
      refine wpAnyH_take (i := 0) (v := ?v01) rfl (by kernel_rfl) (by kernel_rfl) (by kernel_rfl) (fun _ _ _ h => h) (Or.inl ⟨by rfl, ?h01⟩) (by assumption) ?r01
      case h01 => (intro w hSw; (try dsimp only at hSw); go_simp; (first | done | with_reducible rfl))
      try simp only [Act.put, List.setIfInBounds_toArray]
      refine wpAnyH_take (i := 1) (v := ?v11) rfl (by kernel_rfl) (by kernel_rfl) (by kernel_rfl) (fun _ _ _ h => h) (Or.inl ⟨by rfl, ?h11⟩) (by assumption) ?r11
      case h11 => (intro w hSw; (try dsimp only at hSw); go_simp; (first | done | with_reducible rfl))
      try simp only [Act.put]
      refine wpAnyH_take (i := 2) (v := ?v21) rfl (by kernel_rfl) (by kernel_rfl) (by kernel_rfl) (fun _ _ _ h => h) (Or.inl ⟨by rfl, ?h21⟩) (by assumption) ?r21
      case h21 => (intro w hSw; (try dsimp only at hSw); go_simp; (first | done | with_reducible rfl))
      try simp only [Act.put]
      refine wpAnyH_take (i := 3) (v := ?v31) rfl (by kernel_rfl) (by kernel_rfl) (by kernel_rfl) (fun _ _ _ h => h) (Or.inl ⟨by rfl, ?h31⟩) (by assumption) ?r31
      case h31 => (intro w hSw; (try dsimp only at hSw); go_simp; (first | done | with_reducible rfl))
      try simp only [Act.put]
      refine wpAnyH_take (i := 4) (v := ?v41) rfl (by kernel_rfl) (by kernel_rfl) (by kernel_rfl) (fun _ _ _ h => h) (Or.inl ⟨by rfl, ?h41⟩) (by assumption) ?r41
      case h41 => (intro w hSw; (try dsimp only at hSw); go_simp; (first | done | with_reducible rfl))
      try simp only [Act.put]
      refine wpAnyH_ready (rs := [5]) (by kernel_rfl) (by simp) ?_
      refine AllReadyH.cons rfl (fun K hK => ?_) AllReadyH.nil
      clear hHeld
      go_simp
      refine (IH.out y _ _ _ _ Hmem.out (by omega) (HVA6.out.on (Below.refl _ _).drew)).mono ?_
      rintro e w7 ⟨zk, zi, zr, rfl, hz, hb7⟩
      obtain ⟨_, ⟨Z1, z1, rfl, _⟩, _⟩ := id hz.keys
      obtain ⟨_, ⟨Z2, z2, rfl, _⟩, _⟩ := id hz.items
      obtain ⟨_, Z3, z3, rfl, _⟩ := id hz.rest
      have hb7' : Below w6.heap.size w6 w7 := ((Below.refl w6.heap.size w6).drew).trans hb7
      have p8 := (hb7'.cell (p := ⟨w.heap.size, 6, none⟩) (show w.heap.size < w6.heap.size by omega)).trans hcell
      have p0 := (hb7'.cell (p := ⟨wr.heap.size, 0, none⟩) hzX).trans x0
      have p1 := (hb7'.cell (p := ⟨wr.heap.size, 1, none⟩) hzX).trans x1
      have p2 := (hb7'.cell (p := ⟨wr.heap.size, 2, none⟩) hzX).trans x2
      have p3 := (hb7'.cell (p := ⟨wr.heap.size, 3, none⟩) hzX).trans x3
      have p4 := (hb7'.cell (p := ⟨wr.heap.size, 4, none⟩) hzX).trans x4
      have p5 := (hb7'.cell (p := ⟨wr.heap.size, 5, none⟩) hzX).trans x5
      have p6 := (hb7'.cell (p := ⟨wr.heap.size, 6, none⟩) hzX).trans x6
      have p7 := (hb7'.cell (p := ⟨wr.heap.size, 7, none⟩) hzX).trans x7
      refine hK.out _ _ ⟨p8, p0, p1, p2, p3, p4, p5, p6, p7⟩ (fun hHeld => ?_)
      clear hK K
      try simp only [Act.put]
      refine wpAnyH_take (i := 6) (v := ?v61) rfl (by kernel_rfl) (by kernel_rfl) (by kernel_rfl) (fun _ _ _ h => h) (Or.inl ⟨by rfl, ?h61⟩) (by assumption) ?r61
      case h61 => (intro w hSw; (try dsimp only at hSw); go_simp; (first | done | with_reducible rfl))
      try simp only [Act.put]
      refine wpAnyH_ready (rs := [7]) (by kernel_rfl) (by simp) ?_
      refine AllReadyH.cons rfl (fun K hK => ?_) AllReadyH.nil
      have ho7 := own_below Hown6.out hb7'
      refine step_store_mid rfl 34 _ _ rfl g (k * 8) _ rfl rfl (own_there ho7 (k * 8) 8 (tile_lt hlt)) (by kernel_rfl) (by simp [Value.oneCell']) ?_
      have hg1 : g ≠ w.heap.size := by have := hbel.size; omega
      have hg2 : g ≠ wr.heap.size := by omega
      refine hK.out _ _ ⟨(cell_setCells g (k * 8) _ w7 _ (Ne.symm hg1)).trans p8, (cell_setCells g (k * 8) _ w7 _ (Ne.symm hg2)).trans p0, (cell_setCells g (k * 8) _ w7 _ (Ne.symm hg2)).trans p1, (cell_setCells g (k * 8) _ w7 _ (Ne.symm hg2)).trans p2, (cell_setCells g (k * 8) _ w7 _ (Ne.symm hg2)).trans p3, (cell_setCells g (k * 8) _ w7 _ (Ne.symm hg2)).trans p4, (cell_setCells g (k * 8) _ w7 _ (Ne.symm hg2)).trans p5, (cell_setCells g (k * 8) _ w7 _ (Ne.symm hg2)).trans p6, (cell_setCells g (k * 8) _ w7 _ (Ne.symm hg2)).trans p7⟩ (fun hHeld2 => ?_)
      clear hK K
      refine wpAnyH_done (by kernel_rfl) ?_ _
      clear hHeld hHeld2
      have ho8 := own_setCells (valV y (.slice Z1 y.keys.length z1) (.slice Z2 y.items.length z2) (.slice Z3 y.rest.length z3)) xs (k * 8) w7 ho7
      have hb8 := below_setCells (B := wo.heap.size) hgb.1 (valV y (.slice Z1 y.keys.length z1) (.slice Z2 y.items.length z2) (.slice Z3 y.rest.length z3)) (k * 8) w7 (hb6.trans (hb7'.mono (show wo.heap.size ≤ w6.heap.size by omega)))
      have hfar := fun (p : Addr) (hp : p.block ≠ g) => cell_setCells g (k * 8) (valV y (.slice Z1 y.keys.length z1) (.slice Z2 y.items.length z2) (.slice Z3 y.rest.length z3)) w7 p hp
      have hsz8 := size_setCellsX g (valV y (.slice Z1 y.keys.length z1) (.slice Z2 y.items.length z2) (.slice Z3 y.rest.length z3)) (k * 8) w7
      have htil8 := Htil.out.set k (valV y (.slice Z1 y.keys.length z1) (.slice Z2 y.items.length z2) (.slice Z3 y.rest.length z3)) hlt rfl
      try simp only [Act.put]
      change Exit.inBlock _ _ _ _ (w7.setCells g (k * 8) (valV y (.slice Z1 y.keys.length z1) (.slice Z2 y.items.length z2) (.slice Z3 y.rest.length z3)))
      generalize w7.setCells g (k * 8) (valV y (.slice Z1 y.keys.length z1) (.slice Z2 y.items.length z2) (.slice Z3 y.rest.length z3)) = w8 at *
      have hs67 := hb7'.size
      have hs6 : wr.heap.size < w6.heap.size := hzX
      have hfar2 : ∀ p : Addr, p.block ≠ g → p.block < wr.heap.size → w8.cell? p = wr.cell? p := fun p h1 h2 => (hfar p h1).trans ((hb7'.cell (by omega)).trans (hw1.cell h2))
      have hdone8 : ∀ (i : Nat) (h : i < x.items.length), i < k + 1 → RdValP w8 (fun b => wo.heap.size ≤ b ∧ b < w8.heap.size ∧ (some ⟨g, 0, none⟩ : Option Addr).map Addr.block ≠ some b) x.items[i] (if i = k then (valV y (.slice Z1 y.keys.length z1) (.slice Z2 y.items.length z2) (.slice Z3 y.rest.length z3)) else c i) := by
       intro i h1 h2
       by_cases e : i = k
       ·
        subst e
        rw [if_pos rfl, Hyy.out]
        refine hz.rd.keep (fun p hp => hfar p ?_) (fun b hb => ⟨?_, ?_, ?_⟩)
        ·
         have h3 : w6.heap.size ≤ p.block := hp.1
         omega
        ·
         have h3 : w6.heap.size ≤ b := hb.1
         omega
        ·
         have h3 : b < w7.heap.size := hb.2
         omega
        have h3 : w6.heap.size ≤ b := hb.1
        show some g ≠ some b
        intro h4; injection h4 with h4; omega
       rw [if_neg e]
       refine (Hdone.out i h1 (by omega)).keep (fun p hp => hfar2 p ?_ hp.2.1) (fun b hb => ⟨hb.1, by have := hb.2.1; omega, hb.2.2⟩)
       intro h4
       exact hp.2.2 (by rw [← h4]; rfl)
      have htodo8 : ∀ (i : Nat) (h : i < x.items.length), k + 1 ≤ i → RdValP w8 (· < w.heap.size) x.items[i] (if i = k then (valV y (.slice Z1 y.keys.length z1) (.slice Z2 y.items.length z2) (.slice Z3 y.rest.length z3)) else c i) := by
       intro i h1 h2
       rw [if_neg (by omega)]
       exact (Htodo.out i h1 (by omega)).keep (fun p hp => hfar2 p (by have := hbel.size; omega) (by omega)) (fun _ h => h)
      have Hdone8 := Lib.hid hdone8
      have Htodo8 := Lib.hid htodo8
      have Htil8 := Lib.hid htil8
      have Ho8 := Lib.hid ho8
      clear hdone8 htodo8 htil8 ho8 hfar hfar2 p0 p1 p2 p3 p4 p5 p6 p7 p8 x0 x1 x2 x3 x4 x5 x6 x7 y0 y1 y2 y3 y4 y5 y6 y7 ho7 hcell
      go_wp2_with fail
      go_roundw
      case rel => exact ⟨k + 1, _, _, by go_num, by omega, Ho8.out, Htil8.out, Hdone8.out, Htodo8.out, hb8⟩
      case measure => simp [intOf]; omega
     have hS : ∀ b, (Value.slice A4 x.items.length n4).ownBlock = some b → w.heap.size + 2 ≤ b ∧ b < wr.heap.size := fun b hb => ⟨by have := (hown.lt b hb).1; omega, (hown.lt b hb).2⟩
     have hnew : RdValsP wr (fun b => w.heap.size + 2 ≤ b ∧ b < wr.heap.size) (.slice A4 x.items.length n4) x.items :=
      ⟨c, (RowP.of_tiled hown htil).keep (fun _ _ => rfl) hS, fun i h => (hdone i h (by omega)).keep (fun _ _ => rfl) (fun b hb => ⟨by have := hb.1; omega, hb.2.1⟩)⟩
     have hkeep : ∀ p : Addr, (w.heap.size + 2 ≤ p.block ∧ p.block < wo.heap.size) → wr.cell? p = wo.cell? p := fun p hp => (hb.cell hp.2).trans (Hfar5.out p hp.2 (by omega))
     have hsub : ∀ b, (w.heap.size + 2 ≤ b ∧ b < wo.heap.size) → w.heap.size + 2 ≤ b ∧ b < wr.heap.size := fun b h => ⟨h.1, by have := hb.size; omega⟩
     have hfin : CopyRel w x (.slice A1 x.keys.length n1) (.slice A2 x.items.length n2) (.slice A3' x.rest.length n3') L 34 100 (1 + 1) vk' (.slice A4 x.items.length n4) wr :=
      {
       blk := Hblk5.out.below hb hzB0
       res := Hres5.out.below hb hzB
       lst := Hlst5.out.below hb hLw
       le := by omega
       k0 := fun h => by omega
       i0 := fun h => by omega
       k1 := fun _ => (HRel.out.k1 (by omega)).keep hkeep hsub
       i1 := fun _ => hnew
       rest := HRel.out.rest.keep hkeep hsub
       bel := h0s }
     have Hfin := Lib.hid hfin
     clear hS hnew hkeep hsub hfin hown htil hdone htodo hcell
     go_wp2_with fail
     go_roundw
     case rel => exact ⟨1 + 1, _, _, by go_num, Hfin.out⟩
     case measure => simp [intOf]; try omega
   obtain rfl : j = 2 := by omega
   obtain ⟨_, ⟨Ak, ck, rfl, _⟩, _⟩ := HRel.out.k1 (by omega)
   obtain ⟨_, ⟨Ai, ci, rfl, _⟩, _⟩ := HRel.out.i1 (by omega)
   have c0 := HRel.out.blk.cell 0
   have c1 := HRel.out.blk.cell 1
   have c2 := HRel.out.blk.cell 2
   have c3 := HRel.out.blk.cell 3
   have c4 := HRel.out.blk.cell 4
   have c5 := HRel.out.blk.cell 5
   have c6 := HRel.out.blk.cell 6
   have c7 := HRel.out.blk.cell 7
   simp only [gl3] at c0 c1 c2 c3 c4 c5 c6 c7
   go_wp2_with (refine wpList_store_row rfl 34 _ _ rfl (w.heap.size + 1) _ rfl rfl 34 _ HRel.out.res (by kernel_rfl) rfl (by simp [Value.oneCell']) ?_)
   have hQ : Has (wr.setRow (w.heap.size + 1) #[.int .i64 x.kind, .bool x.bool, .int .i64 x.num, .string ⟨x.str.toArray⟩, .int .i64 x.id, .slice Ak x.keys.length ck, .slice Ai x.items.length ci, .slice A3' x.rest.length n3']) (w.heap.size + 1) 34 #[.int .i64 x.kind, .bool x.bool, .int .i64 x.num, .string ⟨x.str.toArray⟩, .int .i64 x.id, .slice Ak x.keys.length ck, .slice Ai x.items.length ci, .slice A3' x.rest.length n3'] :=
    setRow_heap _ _ _ _ _ _ HRel.out.res
   have hB := below_setRow hbel (show w.heap.size ≤ w.heap.size + 1 by omega) #[.int .i64 x.kind, .bool x.bool, .int .i64 x.num, .string ⟨x.str.toArray⟩, .int .i64 x.id, .slice Ak x.keys.length ck, .slice Ai x.items.length ci, .slice A3' x.rest.length n3']
   have hoth := fun (p : Addr) (hp : w.heap.size + 2 ≤ p.block ∧ p.block < wr.heap.size) => cell_setRow_other wr (w.heap.size + 1) #[.int .i64 x.kind, .bool x.bool, .int .i64 x.num, .string ⟨x.str.toArray⟩, .int .i64 x.id, .slice Ak x.keys.length ck, .slice Ai x.items.length ci, .slice A3' x.rest.length n3'] p (by omega)
   have hsz := setRow_size wr (w.heap.size + 1) #[.int .i64 x.kind, .bool x.bool, .int .i64 x.num, .string ⟨x.str.toArray⟩, .int .i64 x.id, .slice Ak x.keys.length ck, .slice Ai x.items.length ci, .slice A3' x.rest.length n3']
   generalize wr.setRow (w.heap.size + 1) #[.int .i64 x.kind, .bool x.bool, .int .i64 x.num, .string ⟨x.str.toArray⟩, .int .i64 x.id, .slice Ak x.keys.length ck, .slice Ai x.items.length ci, .slice A3' x.rest.length n3'] = w9 at *
   have hS : ∀ b, (w.heap.size + 2 ≤ b ∧ b < wr.heap.size) → (w.heap.size ≤ b ∧ b < w9.heap.size) := fun b hb => ⟨by omega, by omega⟩
   obtain ⟨q0, q1, q2, q3, q4, q5, q6, q7⟩ := hQ.c8
   refine bodyPost_ret (v := valA x (.slice Ak x.keys.length ck) (.slice Ai x.items.length ci) (.slice A3' x.rest.length n3')) (by simp [results, Try.results30, go_sem, q0, q1, q2, q3, q4, q5, q6, q7]) rfl ⟨_, _, _, rfl, ?_, hB⟩
   exact ⟨HV.out.ints, HV.out.strl, HV.out.lens, HV.out.raws, (HRel.out.k1 (by omega)).keep hoth hS, (HRel.out.i1 (by omega)).keep hoth hS, HRel.out.rest.keep hoth hS⟩
end Go.Proofs.Ytgeapglanckjpaa

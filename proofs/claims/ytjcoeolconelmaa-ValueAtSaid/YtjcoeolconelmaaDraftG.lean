/- What Of computes for a draft. No condition. -/
import Derived.Test.YtjcoeolconelmaaDraftQ
import Derived.Deep.RegionLaw
namespace Go.Proofs.Ytjcoeolconelmaa
open Go.ChangeShapes Go.WideShapes Go.ChangeAt Go.RowKit

theorem cell_drew (w : World) (p : Addr) : w.drew.cell? p = w.cell? p := rfl
theorem own_heap2 {w w' : World} {base B g cap0 n0 : Nat} {e : TypeId} {size n : Nat} {xs : List Value} (h : w.ownsRow base e size (.slice (some ⟨g, 0, none⟩) n0 cap0) n xs) (hg : g < B) (hk : ∀ k : Nat, base ≤ k → k < B → w'.heap[k]? = w.heap[k]?) : w'.ownsRow base e size (.slice (some ⟨g, 0, none⟩) n0 cap0) n xs := by
  obtain ⟨h1, h2⟩ := h
  refine ⟨h1, ?_⟩
  rcases h2 with ⟨hv, _⟩ | ⟨g', cap, cur, hv, hb, hh, h3⟩
  · cases hv
  · injection hv with hv1 hv2 hv3
    injection hv1 with hv1
    injection hv1 with hv1
    subst hv1
    exact .inr ⟨g, cap, cur, by rw [hv2, hv3], hb, by rw [hk g hb hg, hh], h3⟩
theorem Kept.own2 {w : World} {base B g cap0 n0 : Nat} {e : TypeId} {size n : Nat} {xs : List Value} (h : w.ownsRow base e size (.slice (some ⟨g, 0, none⟩) n0 cap0) n xs) (hg : g < B) (hB : B ≤ w.heap.size) : Kept (fun w => w.ownsRow base e size (.slice (some ⟨g, 0, none⟩) n0 cap0) n xs) w base B :=
  ⟨h, fun _ hk => own_heap2 h hg hk, hB⟩
theorem own_cell0 {w : World} {base g n0 cap0 : Nat} {e : TypeId} {n : Nat} {xs : List Value} (h : w.ownsRow base e 1 (.slice (some ⟨g, 0, none⟩) n0 cap0) n xs) : ∀ (j : Nat) (u : Value), xs[j]? = some u → w.cell? ⟨g, j, none⟩ = some u := fun j u hu => by
  have := h.cells (g := g) rfl j u hu
  have e : (⟨g, 0, none⟩ : Addr).add j = ⟨g, j, none⟩ := by unfold Addr.add; split <;> simp_all
  rwa [e] at this
theorem sep_of {w : World} {base : Nat} {e : TypeId} {size n : Nat} {v : Value} {xs : List Value} (h : w.ownsRow base e size v n xs) {r : Option Nat} (hr : ∀ k, r = some k → k < base) : sepR v r := by
  cases hv : v.ownBlock with
  | none => exact .inl hv
  | some k =>
    right
    rw [hv]
    intro he
    have h1 := (h.lt k hv).1
    have h2 := hr k he.symm
    omega
theorem nm1_of (c : Nat) (y : Int) : nm1 c y = [UInt8.ofNat c, UInt8.ofNat (97 + y).toNat] := rfl
def OfPost (xs : List Nod) (w : World) (e : Ending) (w' : World) : Prop := ∃ v, e = .returned (.tuple #[.agg #[v], .bool true]) ∧ RdTyps w' w'.heap.size v (ofN xs) ∧ Below w.heap.size w w'
def OfInv (w wr : World) (gS : Nat) (vn : Value) (xs : List Nod) (k : Nat) : Prop :=
  ∃ v cs, Has wr w.heap.size 24 #[vn] ∧ Has wr (w.heap.size + 1) 31 #[.slice none 0 0] ∧ Has wr gS 31 #[v] ∧
    wr.ownsRow (gS + 1) 67 10 v k cs ∧ TypsOwn wr (gS + 1) v.ownBlock ((ofN xs).take k) cs ∧ Below w.heap.size w wr
theorem info_sym : (Try.prog.info? 72).map (fun i => (i.zero, i.size, i.bytes)) = some (some (.agg #[.int .i64 0, .string ByteArray.empty]), 2, 24) := by kernel_rfl
theorem info_typ : (Try.prog.info? 67).map (fun i => (i.zero, i.size, i.bytes)) = some (some (.agg #[.int .i64 0, .string ByteArray.empty, .int .i64 0, .int .i64 0, .int .i64 0, .slice none 0 0, .slice none 0 0, .int .i64 0, .int .i64 0, .bool false]), 10, 120) := by kernel_rfl
set_option maxRecDepth 100000 in
set_option maxHeartbeats 400000 in
theorem of_no (xs : List Nod) (vn : Value) (w : World) (hno : ofOk xs = false) (hr : RdNods w w.heap.size vn xs) :
    Calls Try.prog 11 #[.agg #[vn]] w fun e w' => e = .returned (.tuple #[.agg #[.slice none 0 0], .bool false]) ∧ Below w.heap.size w w' := by
  obtain ⟨A, c, rfl, hcap⟩ := hr.form
  by_cases h1 : xs.length < 1
  · have t1 : decide ((xs.length : Int) < 1) = true := decide_eq_true (by omega)
    have t0 : (xs.length : Int) < 1 := by omega
    clear hno h1 hr
    go_enter Try.func11, Try.ntmps11
    go_upto_region 1 with fail
    have hb216 := below_al (below_al (Below.refl w.heap.size w) (Nat.le_refl _) (.cells #[.slice A xs.length c] 24)) (Nat.le_refl _) (.cells #[.slice none 0 0] 31)
    have D := (Has.made w 24 #[.slice A xs.length c]).alloc (.cells #[.slice none 0 0] 31)
    have R := Has.made (w.alloc (.cells #[.slice A xs.length c] 24)) 31 #[.slice none 0 0]
    simp only [alloc_hz] at R
    have hw217 := hb216
    replace D := Lib.hid D
    replace R := Lib.hid R
    clear hb216
    generalize ((w.alloc (.cells #[.slice A xs.length c] 24)).alloc (.cells #[.slice none 0 0] 31)) = wd218 at *
    have cD_0 : wd218.cell? ⟨w.heap.size, 0, none⟩ = some (.slice A xs.length c) := D.out.cell 0
    go_upto_region 3 with fail
    clear cD_0
    have cR_0 : wd218.cell? ⟨w.heap.size + 1, 0, none⟩ = some (.slice none 0 0) := R.out.cell 0
    have fR_0 := R.out.free 0
    go_wp2_with fail
    clear cR_0 fR_0
    replace D := Lib.hid (D.out.far (p := ⟨w.heap.size + 1, 0, none⟩) (show w.heap.size ≠ w.heap.size + 1 by omega) (.slice none 0 0))
    replace R : Hid (Has (wd218.setCell ⟨w.heap.size + 1, 0, none⟩ (.slice none 0 0)) (w.heap.size + 1) 31 #[.slice none 0 0]) := Lib.hid (by have h := R.out.set 0 (.slice none 0 0); simpa using h)
    replace hw217 := below_set hw217 (show w.heap.size ≤ w.heap.size + 1 by omega) 0 (.slice none 0 0)
    generalize wd218.setCell ⟨w.heap.size + 1, 0, none⟩ (.slice none 0 0) = wd219 at *
    have cR_0 : wd219.cell? ⟨w.heap.size + 1, 0, none⟩ = some (.slice none 0 0) := R.out.cell 0
    exact bodyPost_ret (v := .tuple #[.agg #[.slice none 0 0], .bool false]) (by simp [results, Try.results11, go_sem, cR_0]) rfl (⟨rfl, hw217⟩)
  · have t1 : decide ((xs.length : Int) < 1) = false := decide_eq_false (by omega)
    have t2 : decide (5 < (xs.length : Int)) = true := by
      refine decide_eq_true ?_
      unfold ofOk at hno
      simp at hno
      omega
    have t0 : (1 : Int) ≤ xs.length := by omega
    clear hno h1 hr
    go_enter Try.func11, Try.ntmps11
    go_upto_region 1 with fail
    have hb220 := below_al (below_al (Below.refl w.heap.size w) (Nat.le_refl _) (.cells #[.slice A xs.length c] 24)) (Nat.le_refl _) (.cells #[.slice none 0 0] 31)
    have D := (Has.made w 24 #[.slice A xs.length c]).alloc (.cells #[.slice none 0 0] 31)
    have R := Has.made (w.alloc (.cells #[.slice A xs.length c] 24)) 31 #[.slice none 0 0]
    simp only [alloc_hz] at R
    have hw221 := hb220
    replace D := Lib.hid D
    replace R := Lib.hid R
    clear hb220
    generalize ((w.alloc (.cells #[.slice A xs.length c] 24)).alloc (.cells #[.slice none 0 0] 31)) = wd222 at *
    have cD_0 : wd222.cell? ⟨w.heap.size, 0, none⟩ = some (.slice A xs.length c) := D.out.cell 0
    go_upto_region 3 with fail
    clear cD_0
    have cR_0 : wd222.cell? ⟨w.heap.size + 1, 0, none⟩ = some (.slice none 0 0) := R.out.cell 0
    have fR_0 := R.out.free 0
    go_wp2_with fail
    clear cR_0 fR_0
    replace D := Lib.hid (D.out.far (p := ⟨w.heap.size + 1, 0, none⟩) (show w.heap.size ≠ w.heap.size + 1 by omega) (.slice none 0 0))
    replace R : Hid (Has (wd222.setCell ⟨w.heap.size + 1, 0, none⟩ (.slice none 0 0)) (w.heap.size + 1) 31 #[.slice none 0 0]) := Lib.hid (by have h := R.out.set 0 (.slice none 0 0); simpa using h)
    replace hw221 := below_set hw221 (show w.heap.size ≤ w.heap.size + 1 by omega) 0 (.slice none 0 0)
    generalize wd222.setCell ⟨w.heap.size + 1, 0, none⟩ (.slice none 0 0) = wd223 at *
    have cR_0 : wd223.cell? ⟨w.heap.size + 1, 0, none⟩ = some (.slice none 0 0) := R.out.cell 0
    exact bodyPost_ret (v := .tuple #[.agg #[.slice none 0 0], .bool false]) (by simp [results, Try.results11, go_sem, cR_0]) rfl (⟨rfl, hw221⟩)
set_option maxRecDepth 100000 in
set_option maxHeartbeats 4000000 in
theorem of_yes (xs : List Nod) (vn : Value) (w : World) (h5 : 0 < xs.length ∧ xs.length ≤ 5) (hr : RdNods w w.heap.size vn xs) :
    Calls Try.prog 11 #[.agg #[vn]] w (OfPost xs w) := by
  obtain ⟨A, c, rfl, hcap⟩ := hr.form
  have t1 : decide ((xs.length : Int) < 1) = false := decide_eq_false (by omega)
  have t2 : decide (5 < (xs.length : Int)) = false := decide_eq_false (by omega)
  have t0 : (1 : Int) ≤ xs.length ∧ (xs.length : Int) ≤ 5 := by omega
  obtain ⟨b, o, rfl, hb, hel⟩ := hr.elem h5.1
  have HR := Lib.hid hr
  have HE := Lib.hid hel
  clear hr hel
  go_enter Try.func11, Try.ntmps11
  go_upto_region 1 with fail
  have hb224 := below_al (below_al (Below.refl w.heap.size w) (Nat.le_refl _) (.cells #[.slice (some ⟨b, o, none⟩) xs.length c] 24)) (Nat.le_refl _) (.cells #[.slice none 0 0] 31)
  have D := (Has.made w 24 #[.slice (some ⟨b, o, none⟩) xs.length c]).alloc (.cells #[.slice none 0 0] 31)
  have R := Has.made (w.alloc (.cells #[.slice (some ⟨b, o, none⟩) xs.length c] 24)) 31 #[.slice none 0 0]
  simp only [alloc_hz] at R
  have hw225 := hb224
  replace D := Lib.hid D
  replace R := Lib.hid R
  clear hb224
  generalize ((w.alloc (.cells #[.slice (some ⟨b, o, none⟩) xs.length c] 24)).alloc (.cells #[.slice none 0 0] 31)) = wd226 at *
  have cD_0 : wd226.cell? ⟨w.heap.size, 0, none⟩ = some (.slice (some ⟨b, o, none⟩) xs.length c) := D.out.cell 0
  go_upto_region 5 with fail
  clear cD_0
  have hb227 := below_al (Below.refl wd226.heap.size wd226) (Nat.le_refl _) (.cells #[.slice none 0 0] 31)
  have S := Has.made wd226 31 #[.slice none 0 0]
  have hl229 := D.out.here
  have hl230 := R.out.here
  have hl231 := hw225.size
  replace D := Lib.hid (D.out.below hb227 D.out.here)
  replace R := Lib.hid (R.out.below hb227 R.out.here)
  replace hw225 := hw225.trans (hb227.mono hw225.size)
  replace S := Lib.hid S
  clear hb227
  generalize (wd226.alloc (.cells #[.slice none 0 0] 31)) = wd232 at *
  generalize wd226.heap.size = g228 at *
  go_upto_region 6 with fail
  have hgS : w.heap.size + 1 < g228 := by omega
  obtain ⟨gS, hgSe⟩ : ∃ g, g = g228 := ⟨_, rfl⟩
  rw [← hgSe] at hgS S
  rw [← hgSe]
  clear hgSe
  go_loopw [6] (fun i wr => ∃ k : Nat, k ≤ xs.length ∧ i = .int .i64 k ∧ OfInv w wr gS (.slice (some ⟨b, o, none⟩) xs.length c) xs k)
     (fun i _ => xs.length - (intOf i).toNat)
  case atStart => exact ⟨0, by omega, rfl, _, [], D.out, R.out, S.out, World.ownsRow_nil _ _ _ _, .nil, hw225⟩
  case round =>
    obtain ⟨k, hk, rfl, v, cs, D, R, S, hown, hto, hw⟩ := hrel
    obtain ⟨A0, c0, rfl⟩ := own_form hown
    by_cases hlt : k < xs.length
    · skip
      replace D := Lib.hid D
      replace R := Lib.hid R
      replace S := Lib.hid S
      have O := Lib.hid (Kept.own hown)
      have TO := Lib.hid (Kept.typs hto)
      clear hto hown
      obtain ⟨vp, hcs, hn⟩ := HE.out k hlt
      obtain ⟨P0, cp, rfl, hcp⟩ := hn.parts.form
      obtain ⟨m0, m1, m2, m3, m4⟩ := hcs
      have n0 := (hw.cell (p := ⟨b, _, none⟩) hb).trans m0
      have n1 := (hw.cell (p := ⟨b, _, none⟩) hb).trans m1
      have n2 := (hw.cell (p := ⟨b, _, none⟩) hb).trans m2
      have n3 := (hw.cell (p := ⟨b, _, none⟩) hb).trans m3
      have n4 := (hw.cell (p := ⟨b, _, none⟩) hb).trans m4
      have hlt1 : (k : Int) < xs.length := by omega
      have hki := fun W h => kind_any xs (.slice (some ⟨b, o, none⟩) xs.length c) k W hlt h
      have htk := ofN_take xs k hlt
      have hparts := fun rc W h => parts_any xs (.slice (some ⟨b, o, none⟩) xs.length c) k rc W h5 hlt h
      have hkr := kindN_in xs[k]
      have hint := hn.ints
      clear m0 m1 m2 m3 m4 hn
      generalize xs[k] = x at *
      have HPA := Lib.hid hparts
      clear hparts
      have hkk : kindN x = 1 ∨ kindN x = 2 ∨ kindN x = 3 ∨ kindN x = 4 ∨ kindN x = 5 ∨ kindN x = 6 ∨ kindN x = 7 ∨ kindN x = 8 ∨ kindN x = 9 := by omega
      rcases hkk with hkq | hkq | hkq | hkq | hkq | hkq | hkq | hkq | hkq
      · skip
        rw [hkq] at hki
        have HI := Lib.hid hki
        have hty0 : typN xs k x = { typ0 with kind := 1 } := by unfold typN; simp [hkq]
        rw [hty0] at htk
        have HTK := Lib.hid htk
        have HTP : Hid (TypPlain { typ0 with kind := 1 }) := by have := typN_plain xs k x h5.2 hlt; rw [hty0] at this; exact this
        clear hki htk hty0 hkr hkq
        have cD_0 : wr.cell? ⟨w.heap.size, 0, none⟩ = some (.slice (some ⟨b, o, none⟩) xs.length c) := D.out.cell 0
        go_upto_region 9 with fail
        clear cD_0
        have hb233 := below_al (Below.refl wr.heap.size wr) (Nat.le_refl _) (.cells #[.int .u8 x.kind, .int .u8 x.a, .int .u8 x.b, .int .u8 x.c, .slice P0 x.parts.length cp] 62)
        have X := Has.made wr 62 #[.int .u8 x.kind, .int .u8 x.a, .int .u8 x.b, .int .u8 x.c, .slice P0 x.parts.length cp]
        have hl235 := D.out.here
        have hl236 := R.out.here
        have hl237 := S.out.here
        have hl238 := O.out.le
        have hl239 := TO.out.le
        have hl240 := hw.size
        replace D := Lib.hid (D.out.below hb233 D.out.here)
        replace R := Lib.hid (R.out.below hb233 R.out.here)
        replace S := Lib.hid (S.out.below hb233 S.out.here)
        replace O := Lib.hid (O.out.on hb233)
        replace TO := Lib.hid (TO.out.on hb233)
        replace hw := hw.trans (hb233.mono hw.size)
        replace X := Lib.hid X
        clear hb233
        generalize (wr.alloc (.cells #[.int .u8 x.kind, .int .u8 x.a, .int .u8 x.b, .int .u8 x.c, .slice P0 x.parts.length cp] 62)) = wd241 at *
        generalize wr.heap.size = g234 at *
        clear n0 n1 n2 n3 n4
        have cD_0 : wd241.cell? ⟨w.heap.size, 0, none⟩ = some (.slice (some ⟨b, o, none⟩) xs.length c) := D.out.cell 0
        go_wp2_with fail
        clear cD_0
        ((with_reducible refine (HI.out _ (HR.out.on hw)).mono ?_); rintro e wd242 ⟨rfl, hb243⟩)
        replace D := Lib.hid (D.out.below hb243 D.out.here)
        replace R := Lib.hid (R.out.below hb243 R.out.here)
        replace S := Lib.hid (S.out.below hb243 S.out.here)
        replace X := Lib.hid (X.out.below hb243 X.out.here)
        replace O := Lib.hid (O.out.on hb243)
        replace TO := Lib.hid (TO.out.on hb243)
        replace hw := hw.trans (hb243.mono hw.size)
        clear hb243
        go_upto_region 10 with fail
        have hb244 := below_al (Below.refl wd242.heap.size wd242) (Nat.le_refl _) (.cells #[.int .i64 1, .string ⟨#[]⟩, .int .i64 0, .int .i64 0, .int .i64 0, .slice none 0 0, .slice none 0 0, .int .i64 0, .int .i64 0, .bool false] 67)
        have T := Has.made wd242 67 #[.int .i64 1, .string ⟨#[]⟩, .int .i64 0, .int .i64 0, .int .i64 0, .slice none 0 0, .slice none 0 0, .int .i64 0, .int .i64 0, .bool false]
        have hl246 := D.out.here
        have hl247 := R.out.here
        have hl248 := S.out.here
        have hl249 := X.out.here
        have hl250 := O.out.le
        have hl251 := TO.out.le
        have hl252 := hw.size
        replace D := Lib.hid (D.out.below hb244 D.out.here)
        replace R := Lib.hid (R.out.below hb244 R.out.here)
        replace S := Lib.hid (S.out.below hb244 S.out.here)
        replace X := Lib.hid (X.out.below hb244 X.out.here)
        replace O := Lib.hid (O.out.on hb244)
        replace TO := Lib.hid (TO.out.on hb244)
        replace hw := hw.trans (hb244.mono hw.size)
        replace T := Lib.hid T
        clear hb244
        generalize (wd242.alloc (.cells #[.int .i64 1, .string ⟨#[]⟩, .int .i64 0, .int .i64 0, .int .i64 0, .slice none 0 0, .slice none 0 0, .int .i64 0, .int .i64 0, .bool false] 67)) = wd253 at *
        generalize wd242.heap.size = g245 at *
        have cT_0 : wd253.cell? ⟨g245, 0, none⟩ = some (.int .i64 1) := T.out.cell 0
        go_wp2_with fail
        clear cT_0
        ((with_reducible refine (named_any _ _).mono ?_); rintro e wd254 ⟨rfl, rfl⟩)
        rw [show namedB 1 = false from rfl]
        have cT_0 : wd253.cell? ⟨g245, 0, none⟩ = some (.int .i64 1) := T.out.cell 0
        have cT_1 : wd253.cell? ⟨g245, 1, none⟩ = some (.string ⟨#[]⟩) := T.out.cell 1
        have cT_2 : wd253.cell? ⟨g245, 2, none⟩ = some (.int .i64 0) := T.out.cell 2
        have cT_3 : wd253.cell? ⟨g245, 3, none⟩ = some (.int .i64 0) := T.out.cell 3
        have cT_4 : wd253.cell? ⟨g245, 4, none⟩ = some (.int .i64 0) := T.out.cell 4
        have cT_5 : wd253.cell? ⟨g245, 5, none⟩ = some (.slice none 0 0) := T.out.cell 5
        have cT_6 : wd253.cell? ⟨g245, 6, none⟩ = some (.slice none 0 0) := T.out.cell 6
        have cT_7 : wd253.cell? ⟨g245, 7, none⟩ = some (.int .i64 0) := T.out.cell 7
        have cT_8 : wd253.cell? ⟨g245, 8, none⟩ = some (.int .i64 0) := T.out.cell 8
        have cT_9 : wd253.cell? ⟨g245, 9, none⟩ = some (.bool false) := T.out.cell 9
        have cS_0 : wd253.cell? ⟨gS, 0, none⟩ = some (.slice A0 k c0) := S.out.cell 0
        have fS_0 := S.out.free 0
        go_upto_region 39 with fail
        have hbase : gS + 1 ≤ wd253.heap.size := S.out.here
        go_wp2_with (at_builtin; refine wpList_append_lie rfl _ _ _ rfl (gS + 1) 67 _ 10 120 Try.underlying29 info_typ rfl (by decide) (.slice A0 k c0) k cs rfl O.out.now [.int .i64 1, .string ⟨#[]⟩, .int .i64 0, .int .i64 0, .int .i64 0, .slice none 0 0, .slice none 0 0, .int .i64 0, .int .i64 0, .bool false] _ 1 _ rfl rfl rfl (by simp [Value.oneCell']) (by omega) (by omega) hbase ?_; intro g cap w3 hown3 hg3 hgat hb3; have cS_0 : w3.cell? ⟨gS, 0, none⟩ = some (.slice A0 k c0) := (S.out.below hb3 (by omega)).cell 0; have fS_0 := (S.out.below hb3 (by omega)).free 0)
        have hgsep : (Value.slice (some ⟨g, 0, none⟩) (k + 1) cap).ownBlock = (Value.slice A0 k c0).ownBlock ∨ (Value.slice (some ⟨g, 0, none⟩) (k + 1) cap).ownBlock = some (wd253.heap.size + 1) := by
          rcases hgat with h | h
          · left; rw [h]; rfl
          · right; rw [h]; rfl
        have hty := TypsOwn.snoc _ _ ({ typ0 with kind := 1 }) _ _ TO.out.now ⟨World.ownsRow_nil _ _ _ _, World.ownsRow_nil _ _ _ _⟩ (.inl rfl) (.inl rfl) HTP.out
        have hty2 := hty.grown hg3 (Nat.le_succ _) hgsep
        clear hty hg3 hgat hgsep
        clear cT_0 cT_1 cT_2 cT_3 cT_4 cT_5 cT_6 cT_7 cT_8 cT_9 cS_0 fS_0
        clear T
        clear X
        clear O
        clear TO
        replace D := Lib.hid (D.out.below hb3 (show w.heap.size < gS + 1 by omega))
        replace R := Lib.hid (R.out.below hb3 (show w.heap.size + 1 < gS + 1 by omega))
        replace S := Lib.hid (S.out.below hb3 (show gS < gS + 1 by omega))
        replace hw := hw.trans (hb3.mono (show w.heap.size ≤ gS + 1 by omega))
        have O2 := Lib.hid (Kept.own hown3)
        have TO2 := Lib.hid (Kept.typs hty2)
        clear hown3 hty2
        replace D := Lib.hid (D.out.far (p := ⟨gS, 0, none⟩) (show w.heap.size ≠ gS by omega) (.slice (some ⟨g, 0, none⟩) (k + 1) cap))
        replace R := Lib.hid (R.out.far (p := ⟨gS, 0, none⟩) (show w.heap.size + 1 ≠ gS by omega) (.slice (some ⟨g, 0, none⟩) (k + 1) cap))
        replace S : Hid (Has (w3.setCell ⟨gS, 0, none⟩ (.slice (some ⟨g, 0, none⟩) (k + 1) cap)) (gS) 31 #[.slice (some ⟨g, 0, none⟩) (k + 1) cap]) := Lib.hid (by have h := S.out.set 0 (.slice (some ⟨g, 0, none⟩) (k + 1) cap); simpa using h)
        replace O2 := Lib.hid (O2.out.set (gS) (show w3.heap.size ≤ gS ∨ gS < gS + 1 by omega) 0 (.slice (some ⟨g, 0, none⟩) (k + 1) cap))
        replace TO2 := Lib.hid (TO2.out.set (gS) (show w3.heap.size ≤ gS ∨ gS < gS + 1 by omega) 0 (.slice (some ⟨g, 0, none⟩) (k + 1) cap))
        replace hw := below_set hw (show w.heap.size ≤ gS by omega) 0 (.slice (some ⟨g, 0, none⟩) (k + 1) cap)
        generalize w3.setCell ⟨gS, 0, none⟩ (.slice (some ⟨g, 0, none⟩) (k + 1) cap) = wd256 at *
        go_wp2_with fail
        go_roundw
        case rel => exact ⟨k + 1, by omega, by go_num, _, _, D.out, R.out, S.out, O2.out.now, by rw [HTK.out]; exact TO2.out.now, hw⟩
        case measure => simp [intOf]; omega
      · skip
        rw [hkq] at hki
        have HI := Lib.hid hki
        have hty0 : typN xs k x = { typ0 with kind := 2, low := lowN x, high := highN x } := by unfold typN; simp [hkq]
        rw [hty0] at htk
        have HTK := Lib.hid htk
        have HTP : Hid (TypPlain { typ0 with kind := 2, low := lowN x, high := highN x }) := by have := typN_plain xs k x h5.2 hlt; rw [hty0] at this; exact this
        clear hki htk hty0 hkr hkq
        have hlo := fun W => low_any x (.slice P0 x.parts.length cp) W hint.2.1
        have hhi := fun W => high_any x (.slice P0 x.parts.length cp) W hint.2.1 hint.2.2.1
        have HLO := Lib.hid hlo
        have HHI := Lib.hid hhi
        clear hlo hhi
        have cD_0 : wr.cell? ⟨w.heap.size, 0, none⟩ = some (.slice (some ⟨b, o, none⟩) xs.length c) := D.out.cell 0
        go_upto_region 9 with fail
        clear cD_0
        have hb257 := below_al (Below.refl wr.heap.size wr) (Nat.le_refl _) (.cells #[.int .u8 x.kind, .int .u8 x.a, .int .u8 x.b, .int .u8 x.c, .slice P0 x.parts.length cp] 62)
        have X := Has.made wr 62 #[.int .u8 x.kind, .int .u8 x.a, .int .u8 x.b, .int .u8 x.c, .slice P0 x.parts.length cp]
        have hl259 := D.out.here
        have hl260 := R.out.here
        have hl261 := S.out.here
        have hl262 := O.out.le
        have hl263 := TO.out.le
        have hl264 := hw.size
        replace D := Lib.hid (D.out.below hb257 D.out.here)
        replace R := Lib.hid (R.out.below hb257 R.out.here)
        replace S := Lib.hid (S.out.below hb257 S.out.here)
        replace O := Lib.hid (O.out.on hb257)
        replace TO := Lib.hid (TO.out.on hb257)
        replace hw := hw.trans (hb257.mono hw.size)
        replace X := Lib.hid X
        clear hb257
        generalize (wr.alloc (.cells #[.int .u8 x.kind, .int .u8 x.a, .int .u8 x.b, .int .u8 x.c, .slice P0 x.parts.length cp] 62)) = wd265 at *
        generalize wr.heap.size = g258 at *
        clear n0 n1 n2 n3 n4
        have cD_0 : wd265.cell? ⟨w.heap.size, 0, none⟩ = some (.slice (some ⟨b, o, none⟩) xs.length c) := D.out.cell 0
        go_wp2_with fail
        clear cD_0
        ((with_reducible refine (HI.out _ (HR.out.on hw)).mono ?_); rintro e wd266 ⟨rfl, hb267⟩)
        replace D := Lib.hid (D.out.below hb267 D.out.here)
        replace R := Lib.hid (R.out.below hb267 R.out.here)
        replace S := Lib.hid (S.out.below hb267 S.out.here)
        replace X := Lib.hid (X.out.below hb267 X.out.here)
        replace O := Lib.hid (O.out.on hb267)
        replace TO := Lib.hid (TO.out.on hb267)
        replace hw := hw.trans (hb267.mono hw.size)
        clear hb267
        go_upto_region 10 with fail
        have hb268 := below_al (Below.refl wd266.heap.size wd266) (Nat.le_refl _) (.cells #[.int .i64 2, .string ⟨#[]⟩, .int .i64 0, .int .i64 0, .int .i64 0, .slice none 0 0, .slice none 0 0, .int .i64 0, .int .i64 0, .bool false] 67)
        have T := Has.made wd266 67 #[.int .i64 2, .string ⟨#[]⟩, .int .i64 0, .int .i64 0, .int .i64 0, .slice none 0 0, .slice none 0 0, .int .i64 0, .int .i64 0, .bool false]
        have hl270 := D.out.here
        have hl271 := R.out.here
        have hl272 := S.out.here
        have hl273 := X.out.here
        have hl274 := O.out.le
        have hl275 := TO.out.le
        have hl276 := hw.size
        replace D := Lib.hid (D.out.below hb268 D.out.here)
        replace R := Lib.hid (R.out.below hb268 R.out.here)
        replace S := Lib.hid (S.out.below hb268 S.out.here)
        replace X := Lib.hid (X.out.below hb268 X.out.here)
        replace O := Lib.hid (O.out.on hb268)
        replace TO := Lib.hid (TO.out.on hb268)
        replace hw := hw.trans (hb268.mono hw.size)
        replace T := Lib.hid T
        clear hb268
        generalize (wd266.alloc (.cells #[.int .i64 2, .string ⟨#[]⟩, .int .i64 0, .int .i64 0, .int .i64 0, .slice none 0 0, .slice none 0 0, .int .i64 0, .int .i64 0, .bool false] 67)) = wd277 at *
        generalize wd266.heap.size = g269 at *
        have cT_0 : wd277.cell? ⟨g269, 0, none⟩ = some (.int .i64 2) := T.out.cell 0
        go_wp2_with fail
        clear cT_0
        ((with_reducible refine (named_any _ _).mono ?_); rintro e wd278 ⟨rfl, rfl⟩)
        rw [show namedB 2 = false from rfl]
        have cT_0 : wd277.cell? ⟨g269, 0, none⟩ = some (.int .i64 2) := T.out.cell 0
        go_upto_region 14 with fail
        have cT_2 : wd277.cell? ⟨g269, 2, none⟩ = some (.int .i64 0) := T.out.cell 2
        have cT_3 : wd277.cell? ⟨g269, 3, none⟩ = some (.int .i64 0) := T.out.cell 3
        have fT_2 := T.out.free 2
        have fT_3 := T.out.free 3
        have cX_0 : wd277.cell? ⟨g258, 0, none⟩ = some (.int .u8 x.kind) := X.out.cell 0
        have cX_1 : wd277.cell? ⟨g258, 1, none⟩ = some (.int .u8 x.a) := X.out.cell 1
        have cX_2 : wd277.cell? ⟨g258, 2, none⟩ = some (.int .u8 x.b) := X.out.cell 2
        have cX_3 : wd277.cell? ⟨g258, 3, none⟩ = some (.int .u8 x.c) := X.out.cell 3
        have cX_4 : wd277.cell? ⟨g258, 4, none⟩ = some (.slice P0 x.parts.length cp) := X.out.cell 4
        go_region_held3 (fun w' => w'.cell? ⟨g258, 0, none⟩ = some (.int .u8 x.kind) ∧ w'.cell? ⟨g258, 1, none⟩ = some (.int .u8 x.a) ∧ w'.cell? ⟨g258, 2, none⟩ = some (.int .u8 x.b) ∧ w'.cell? ⟨g258, 3, none⟩ = some (.int .u8 x.c) ∧ w'.cell? ⟨g258, 4, none⟩ = some (.slice P0 x.parts.length cp)) (first | (go_keep; done) | exact ⟨cX_0, cX_1, cX_2, cX_3, cX_4⟩ | (((repeat' apply And.intro) <;> ((repeat (with_reducible (first | refine Eq.trans (cell_drew _ _) ?_ | refine Eq.trans (cell_far _ _ _ _ _ (by dsimp only; omega)) ?_))); assumption)); done))
          (first
            | (go_at_call 36; (first | (with_reducible refine (HLO.out _).mono ?_)); rintro e wn ⟨rfl, hbn⟩; have D : Hid (Has wn (w.heap.size) 24 #[.slice (some ⟨b, o, none⟩) xs.length c]) := Lib.hid (by first | exact D.out.below hbn D.out.here | exact D.out.drew.below hbn D.out.here); have R : Hid (Has wn (w.heap.size + 1) 31 #[.slice none 0 0]) := Lib.hid (by first | exact R.out.below hbn R.out.here | exact R.out.drew.below hbn R.out.here); have S : Hid (Has wn (gS) 31 #[.slice A0 k c0]) := Lib.hid (by first | exact S.out.below hbn S.out.here | exact S.out.drew.below hbn S.out.here); have X : Hid (Has wn (g258) 62 #[.int .u8 x.kind, .int .u8 x.a, .int .u8 x.b, .int .u8 x.c, .slice P0 x.parts.length cp]) := Lib.hid (by first | exact X.out.below hbn X.out.here | exact X.out.drew.below hbn X.out.here); have T : Hid (Has wn (g269) 67 #[.int .i64 2, .string ⟨#[]⟩, .int .i64 0, .int .i64 0, .int .i64 0, .slice none 0 0, .slice none 0 0, .int .i64 0, .int .i64 0, .bool false]) := Lib.hid (by first | exact T.out.below hbn T.out.here | exact T.out.drew.below hbn T.out.here); have O := Lib.hid (Kept.ond O.out hbn); have TO := Lib.hid (Kept.ond TO.out hbn); have hw : Below w.heap.size w wn := (by first | exact hw.trans (hbn.mono hw.size) | exact (hw.drew).trans (hbn.mono hw.size)); have cT_0 : wn.cell? ⟨g269, 0, none⟩ = some (.int .i64 2) := T.out.cell 0; have cT_2 : wn.cell? ⟨g269, 2, none⟩ = some (.int .i64 0) := T.out.cell 2; have cT_3 : wn.cell? ⟨g269, 3, none⟩ = some (.int .i64 0) := T.out.cell 3; have fT_2 : wn.frozen? ⟨g269, 2, none⟩ = false := T.out.free 2; have fT_3 : wn.frozen? ⟨g269, 3, none⟩ = false := T.out.free 3; have cX_0 : wn.cell? ⟨g258, 0, none⟩ = some (.int .u8 x.kind) := X.out.cell 0; have cX_1 : wn.cell? ⟨g258, 1, none⟩ = some (.int .u8 x.a) := X.out.cell 1; have cX_2 : wn.cell? ⟨g258, 2, none⟩ = some (.int .u8 x.b) := X.out.cell 2; have cX_3 : wn.cell? ⟨g258, 3, none⟩ = some (.int .u8 x.c) := X.out.cell 3; have cX_4 : wn.cell? ⟨g258, 4, none⟩ = some (.slice P0 x.parts.length cp) := X.out.cell 4)
            | (go_at_call 37; (first | (with_reducible refine (HHI.out _).mono ?_)); rintro e wn ⟨rfl, hbn⟩; have D : Hid (Has wn (w.heap.size) 24 #[.slice (some ⟨b, o, none⟩) xs.length c]) := Lib.hid (by first | exact D.out.below hbn D.out.here | exact D.out.drew.below hbn D.out.here); have R : Hid (Has wn (w.heap.size + 1) 31 #[.slice none 0 0]) := Lib.hid (by first | exact R.out.below hbn R.out.here | exact R.out.drew.below hbn R.out.here); have S : Hid (Has wn (gS) 31 #[.slice A0 k c0]) := Lib.hid (by first | exact S.out.below hbn S.out.here | exact S.out.drew.below hbn S.out.here); have X : Hid (Has wn (g258) 62 #[.int .u8 x.kind, .int .u8 x.a, .int .u8 x.b, .int .u8 x.c, .slice P0 x.parts.length cp]) := Lib.hid (by first | exact X.out.below hbn X.out.here | exact X.out.drew.below hbn X.out.here); have T : Hid (Has wn (g269) 67 #[.int .i64 2, .string ⟨#[]⟩, .int .i64 0, .int .i64 0, .int .i64 0, .slice none 0 0, .slice none 0 0, .int .i64 0, .int .i64 0, .bool false]) := Lib.hid (by first | exact T.out.below hbn T.out.here | exact T.out.drew.below hbn T.out.here); have O := Lib.hid (Kept.ond O.out hbn); have TO := Lib.hid (Kept.ond TO.out hbn); have hw : Below w.heap.size w wn := (by first | exact hw.trans (hbn.mono hw.size) | exact (hw.drew).trans (hbn.mono hw.size)); have cT_0 : wn.cell? ⟨g269, 0, none⟩ = some (.int .i64 2) := T.out.cell 0; have cT_2 : wn.cell? ⟨g269, 2, none⟩ = some (.int .i64 0) := T.out.cell 2; have cT_3 : wn.cell? ⟨g269, 3, none⟩ = some (.int .i64 0) := T.out.cell 3; have fT_2 : wn.frozen? ⟨g269, 2, none⟩ = false := T.out.free 2; have fT_3 : wn.frozen? ⟨g269, 3, none⟩ = false := T.out.free 3; have cX_0 : wn.cell? ⟨g258, 0, none⟩ = some (.int .u8 x.kind) := X.out.cell 0; have cX_1 : wn.cell? ⟨g258, 1, none⟩ = some (.int .u8 x.a) := X.out.cell 1; have cX_2 : wn.cell? ⟨g258, 2, none⟩ = some (.int .u8 x.b) := X.out.cell 2; have cX_3 : wn.cell? ⟨g258, 3, none⟩ = some (.int .u8 x.c) := X.out.cell 3; have cX_4 : wn.cell? ⟨g258, 4, none⟩ = some (.slice P0 x.parts.length cp) := X.out.cell 4))
        all_goals
          clear cT_0 cT_2 cT_3 fT_2 fT_3 cX_0 cX_1 cX_2 cX_3 cX_4
          replace D := Lib.hid (D.out.far (p := ⟨g269, 2, none⟩) (show w.heap.size ≠ g269 by omega) (.int .i64 (lowN x)))
          replace R := Lib.hid (R.out.far (p := ⟨g269, 2, none⟩) (show w.heap.size + 1 ≠ g269 by omega) (.int .i64 (lowN x)))
          replace S := Lib.hid (S.out.far (p := ⟨g269, 2, none⟩) (show gS ≠ g269 by omega) (.int .i64 (lowN x)))
          replace X := Lib.hid (X.out.far (p := ⟨g269, 2, none⟩) (show g258 ≠ g269 by omega) (.int .i64 (lowN x)))
          replace T : Hid (Has (wn.setCell ⟨g269, 2, none⟩ (.int .i64 (lowN x))) (g269) 67 #[.int .i64 2, .string ⟨#[]⟩, .int .i64 (lowN x), .int .i64 0, .int .i64 0, .slice none 0 0, .slice none 0 0, .int .i64 0, .int .i64 0, .bool false]) := Lib.hid (by have h := T.out.set 2 (.int .i64 (lowN x)); simpa using h)
          replace O := Lib.hid (O.out.set (g269) (show g258 ≤ g269 ∨ g269 < gS + 1 by omega) 2 (.int .i64 (lowN x)))
          replace TO := Lib.hid (TO.out.set (g269) (show g258 ≤ g269 ∨ g269 < gS + 1 by omega) 2 (.int .i64 (lowN x)))
          replace hw := below_set hw (show w.heap.size ≤ g269 by omega) 2 (.int .i64 (lowN x))
          generalize wn.setCell ⟨g269, 2, none⟩ (.int .i64 (lowN x)) = wd280 at *
          replace D := Lib.hid (D.out.far (p := ⟨g269, 3, none⟩) (show w.heap.size ≠ g269 by omega) (.int .i64 (highN x)))
          replace R := Lib.hid (R.out.far (p := ⟨g269, 3, none⟩) (show w.heap.size + 1 ≠ g269 by omega) (.int .i64 (highN x)))
          replace S := Lib.hid (S.out.far (p := ⟨g269, 3, none⟩) (show gS ≠ g269 by omega) (.int .i64 (highN x)))
          replace X := Lib.hid (X.out.far (p := ⟨g269, 3, none⟩) (show g258 ≠ g269 by omega) (.int .i64 (highN x)))
          replace T : Hid (Has (wd280.setCell ⟨g269, 3, none⟩ (.int .i64 (highN x))) (g269) 67 #[.int .i64 2, .string ⟨#[]⟩, .int .i64 (lowN x), .int .i64 (highN x), .int .i64 0, .slice none 0 0, .slice none 0 0, .int .i64 0, .int .i64 0, .bool false]) := Lib.hid (by have h := T.out.set 3 (.int .i64 (highN x)); simpa using h)
          replace O := Lib.hid (O.out.set (g269) (show g258 ≤ g269 ∨ g269 < gS + 1 by omega) 3 (.int .i64 (highN x)))
          replace TO := Lib.hid (TO.out.set (g269) (show g258 ≤ g269 ∨ g269 < gS + 1 by omega) 3 (.int .i64 (highN x)))
          replace hw := below_set hw (show w.heap.size ≤ g269 by omega) 3 (.int .i64 (highN x))
          generalize wd280.setCell ⟨g269, 3, none⟩ (.int .i64 (highN x)) = wd281 at *
          have cT_0 : wd281.cell? ⟨g269, 0, none⟩ = some (.int .i64 2) := T.out.cell 0
          have cT_1 : wd281.cell? ⟨g269, 1, none⟩ = some (.string ⟨#[]⟩) := T.out.cell 1
          have cT_2 : wd281.cell? ⟨g269, 2, none⟩ = some (.int .i64 (lowN x)) := T.out.cell 2
          have cT_3 : wd281.cell? ⟨g269, 3, none⟩ = some (.int .i64 (highN x)) := T.out.cell 3
          have cT_4 : wd281.cell? ⟨g269, 4, none⟩ = some (.int .i64 0) := T.out.cell 4
          have cT_5 : wd281.cell? ⟨g269, 5, none⟩ = some (.slice none 0 0) := T.out.cell 5
          have cT_6 : wd281.cell? ⟨g269, 6, none⟩ = some (.slice none 0 0) := T.out.cell 6
          have cT_7 : wd281.cell? ⟨g269, 7, none⟩ = some (.int .i64 0) := T.out.cell 7
          have cT_8 : wd281.cell? ⟨g269, 8, none⟩ = some (.int .i64 0) := T.out.cell 8
          have cT_9 : wd281.cell? ⟨g269, 9, none⟩ = some (.bool false) := T.out.cell 9
          have cS_0 : wd281.cell? ⟨gS, 0, none⟩ = some (.slice A0 k c0) := S.out.cell 0
          have fS_0 := S.out.free 0
          go_upto_region 39 with fail
          have hbase : gS + 1 ≤ wd281.heap.size := S.out.here
          go_wp2_with (at_builtin; refine wpList_append_lie rfl _ _ _ rfl (gS + 1) 67 _ 10 120 Try.underlying29 info_typ rfl (by decide) (.slice A0 k c0) k cs rfl O.out.now [.int .i64 2, .string ⟨#[]⟩, .int .i64 (lowN x), .int .i64 (highN x), .int .i64 0, .slice none 0 0, .slice none 0 0, .int .i64 0, .int .i64 0, .bool false] _ 1 _ rfl rfl rfl (by simp [Value.oneCell']) (by omega) (by omega) hbase ?_; intro g cap w3 hown3 hg3 hgat hb3; have cS_0 : w3.cell? ⟨gS, 0, none⟩ = some (.slice A0 k c0) := (S.out.below hb3 (by omega)).cell 0; have fS_0 := (S.out.below hb3 (by omega)).free 0)
          have hgsep : (Value.slice (some ⟨g, 0, none⟩) (k + 1) cap).ownBlock = (Value.slice A0 k c0).ownBlock ∨ (Value.slice (some ⟨g, 0, none⟩) (k + 1) cap).ownBlock = some (wd281.heap.size + 1) := by
            rcases hgat with h | h
            · left; rw [h]; rfl
            · right; rw [h]; rfl
          have hty := TypsOwn.snoc _ _ ({ typ0 with kind := 2, low := lowN x, high := highN x }) _ _ TO.out.now ⟨World.ownsRow_nil _ _ _ _, World.ownsRow_nil _ _ _ _⟩ (.inl rfl) (.inl rfl) HTP.out
          have hty2 := hty.grown hg3 (Nat.le_succ _) hgsep
          clear hty hg3 hgat hgsep
          clear cT_0 cT_1 cT_2 cT_3 cT_4 cT_5 cT_6 cT_7 cT_8 cT_9 cS_0 fS_0
          clear T
          clear X
          clear O
          clear TO
          replace D := Lib.hid (D.out.below hb3 (show w.heap.size < gS + 1 by omega))
          replace R := Lib.hid (R.out.below hb3 (show w.heap.size + 1 < gS + 1 by omega))
          replace S := Lib.hid (S.out.below hb3 (show gS < gS + 1 by omega))
          replace hw := hw.trans (hb3.mono (show w.heap.size ≤ gS + 1 by omega))
          have O2 := Lib.hid (Kept.own hown3)
          have TO2 := Lib.hid (Kept.typs hty2)
          clear hown3 hty2
          replace D := Lib.hid (D.out.far (p := ⟨gS, 0, none⟩) (show w.heap.size ≠ gS by omega) (.slice (some ⟨g, 0, none⟩) (k + 1) cap))
          replace R := Lib.hid (R.out.far (p := ⟨gS, 0, none⟩) (show w.heap.size + 1 ≠ gS by omega) (.slice (some ⟨g, 0, none⟩) (k + 1) cap))
          replace S : Hid (Has (w3.setCell ⟨gS, 0, none⟩ (.slice (some ⟨g, 0, none⟩) (k + 1) cap)) (gS) 31 #[.slice (some ⟨g, 0, none⟩) (k + 1) cap]) := Lib.hid (by have h := S.out.set 0 (.slice (some ⟨g, 0, none⟩) (k + 1) cap); simpa using h)
          replace O2 := Lib.hid (O2.out.set (gS) (show w3.heap.size ≤ gS ∨ gS < gS + 1 by omega) 0 (.slice (some ⟨g, 0, none⟩) (k + 1) cap))
          replace TO2 := Lib.hid (TO2.out.set (gS) (show w3.heap.size ≤ gS ∨ gS < gS + 1 by omega) 0 (.slice (some ⟨g, 0, none⟩) (k + 1) cap))
          replace hw := below_set hw (show w.heap.size ≤ gS by omega) 0 (.slice (some ⟨g, 0, none⟩) (k + 1) cap)
          generalize w3.setCell ⟨gS, 0, none⟩ (.slice (some ⟨g, 0, none⟩) (k + 1) cap) = wd282 at *
          go_wp2_with fail
          go_roundw
          case rel => exact ⟨k + 1, by omega, by go_num, _, _, D.out, R.out, S.out, O2.out.now, by rw [HTK.out]; exact TO2.out.now, hw⟩
          case measure => simp [intOf]; omega
      · skip
        rw [hkq] at hki
        have HI := Lib.hid hki
        have hty0 : typN xs k x = { typ0 with kind := 3, max := ((x.a % 4 : Nat) : Int) } := by unfold typN; simp [hkq]
        rw [hty0] at htk
        have HTK := Lib.hid htk
        have HTP : Hid (TypPlain { typ0 with kind := 3, max := ((x.a % 4 : Nat) : Int) }) := by have := typN_plain xs k x h5.2 hlt; rw [hty0] at this; exact this
        clear hki htk hty0 hkr hkq
        have ha4 : (x.a : Int) % 4 = ((x.a % 4 : Nat) : Int) := by push_cast; rfl
        have hab : (x.a : Int) < 256 := by omega
        generalize x.a % 4 = a4 at *
        have cD_0 : wr.cell? ⟨w.heap.size, 0, none⟩ = some (.slice (some ⟨b, o, none⟩) xs.length c) := D.out.cell 0
        go_upto_region 9 with fail
        clear cD_0
        have hb283 := below_al (Below.refl wr.heap.size wr) (Nat.le_refl _) (.cells #[.int .u8 x.kind, .int .u8 x.a, .int .u8 x.b, .int .u8 x.c, .slice P0 x.parts.length cp] 62)
        have X := Has.made wr 62 #[.int .u8 x.kind, .int .u8 x.a, .int .u8 x.b, .int .u8 x.c, .slice P0 x.parts.length cp]
        have hl285 := D.out.here
        have hl286 := R.out.here
        have hl287 := S.out.here
        have hl288 := O.out.le
        have hl289 := TO.out.le
        have hl290 := hw.size
        replace D := Lib.hid (D.out.below hb283 D.out.here)
        replace R := Lib.hid (R.out.below hb283 R.out.here)
        replace S := Lib.hid (S.out.below hb283 S.out.here)
        replace O := Lib.hid (O.out.on hb283)
        replace TO := Lib.hid (TO.out.on hb283)
        replace hw := hw.trans (hb283.mono hw.size)
        replace X := Lib.hid X
        clear hb283
        generalize (wr.alloc (.cells #[.int .u8 x.kind, .int .u8 x.a, .int .u8 x.b, .int .u8 x.c, .slice P0 x.parts.length cp] 62)) = wd291 at *
        generalize wr.heap.size = g284 at *
        clear n0 n1 n2 n3 n4
        have cD_0 : wd291.cell? ⟨w.heap.size, 0, none⟩ = some (.slice (some ⟨b, o, none⟩) xs.length c) := D.out.cell 0
        go_wp2_with fail
        clear cD_0
        ((with_reducible refine (HI.out _ (HR.out.on hw)).mono ?_); rintro e wd292 ⟨rfl, hb293⟩)
        replace D := Lib.hid (D.out.below hb293 D.out.here)
        replace R := Lib.hid (R.out.below hb293 R.out.here)
        replace S := Lib.hid (S.out.below hb293 S.out.here)
        replace X := Lib.hid (X.out.below hb293 X.out.here)
        replace O := Lib.hid (O.out.on hb293)
        replace TO := Lib.hid (TO.out.on hb293)
        replace hw := hw.trans (hb293.mono hw.size)
        clear hb293
        go_upto_region 10 with fail
        have hb294 := below_al (Below.refl wd292.heap.size wd292) (Nat.le_refl _) (.cells #[.int .i64 3, .string ⟨#[]⟩, .int .i64 0, .int .i64 0, .int .i64 0, .slice none 0 0, .slice none 0 0, .int .i64 0, .int .i64 0, .bool false] 67)
        have T := Has.made wd292 67 #[.int .i64 3, .string ⟨#[]⟩, .int .i64 0, .int .i64 0, .int .i64 0, .slice none 0 0, .slice none 0 0, .int .i64 0, .int .i64 0, .bool false]
        have hl296 := D.out.here
        have hl297 := R.out.here
        have hl298 := S.out.here
        have hl299 := X.out.here
        have hl300 := O.out.le
        have hl301 := TO.out.le
        have hl302 := hw.size
        replace D := Lib.hid (D.out.below hb294 D.out.here)
        replace R := Lib.hid (R.out.below hb294 R.out.here)
        replace S := Lib.hid (S.out.below hb294 S.out.here)
        replace X := Lib.hid (X.out.below hb294 X.out.here)
        replace O := Lib.hid (O.out.on hb294)
        replace TO := Lib.hid (TO.out.on hb294)
        replace hw := hw.trans (hb294.mono hw.size)
        replace T := Lib.hid T
        clear hb294
        generalize (wd292.alloc (.cells #[.int .i64 3, .string ⟨#[]⟩, .int .i64 0, .int .i64 0, .int .i64 0, .slice none 0 0, .slice none 0 0, .int .i64 0, .int .i64 0, .bool false] 67)) = wd303 at *
        generalize wd292.heap.size = g295 at *
        have cT_0 : wd303.cell? ⟨g295, 0, none⟩ = some (.int .i64 3) := T.out.cell 0
        go_wp2_with fail
        clear cT_0
        ((with_reducible refine (named_any _ _).mono ?_); rintro e wd304 ⟨rfl, rfl⟩)
        rw [show namedB 3 = false from rfl]
        have cT_0 : wd303.cell? ⟨g295, 0, none⟩ = some (.int .i64 3) := T.out.cell 0
        have cT_4 : wd303.cell? ⟨g295, 4, none⟩ = some (.int .i64 0) := T.out.cell 4
        have cX_1 : wd303.cell? ⟨g284, 1, none⟩ = some (.int .u8 x.a) := X.out.cell 1
        have fT_4 := T.out.free 4
        go_upto_region 39 with fail
        clear cT_0 cT_4 cX_1 fT_4
        replace D := Lib.hid (D.out.far (p := ⟨g295, 4, none⟩) (show w.heap.size ≠ g295 by omega) (.int .i64 (a4 : Int)))
        replace R := Lib.hid (R.out.far (p := ⟨g295, 4, none⟩) (show w.heap.size + 1 ≠ g295 by omega) (.int .i64 (a4 : Int)))
        replace S := Lib.hid (S.out.far (p := ⟨g295, 4, none⟩) (show gS ≠ g295 by omega) (.int .i64 (a4 : Int)))
        replace X := Lib.hid (X.out.far (p := ⟨g295, 4, none⟩) (show g284 ≠ g295 by omega) (.int .i64 (a4 : Int)))
        replace T : Hid (Has (wd303.setCell ⟨g295, 4, none⟩ (.int .i64 (a4 : Int))) (g295) 67 #[.int .i64 3, .string ⟨#[]⟩, .int .i64 0, .int .i64 0, .int .i64 (a4 : Int), .slice none 0 0, .slice none 0 0, .int .i64 0, .int .i64 0, .bool false]) := Lib.hid (by have h := T.out.set 4 (.int .i64 (a4 : Int)); simpa using h)
        replace O := Lib.hid (O.out.set (g295) (show g284 ≤ g295 ∨ g295 < gS + 1 by omega) 4 (.int .i64 (a4 : Int)))
        replace TO := Lib.hid (TO.out.set (g295) (show g284 ≤ g295 ∨ g295 < gS + 1 by omega) 4 (.int .i64 (a4 : Int)))
        replace hw := below_set hw (show w.heap.size ≤ g295 by omega) 4 (.int .i64 (a4 : Int))
        generalize wd303.setCell ⟨g295, 4, none⟩ (.int .i64 (a4 : Int)) = wd306 at *
        have cT_0 : wd306.cell? ⟨g295, 0, none⟩ = some (.int .i64 3) := T.out.cell 0
        have cT_1 : wd306.cell? ⟨g295, 1, none⟩ = some (.string ⟨#[]⟩) := T.out.cell 1
        have cT_2 : wd306.cell? ⟨g295, 2, none⟩ = some (.int .i64 0) := T.out.cell 2
        have cT_3 : wd306.cell? ⟨g295, 3, none⟩ = some (.int .i64 0) := T.out.cell 3
        have cT_4 : wd306.cell? ⟨g295, 4, none⟩ = some (.int .i64 (a4 : Int)) := T.out.cell 4
        have cT_5 : wd306.cell? ⟨g295, 5, none⟩ = some (.slice none 0 0) := T.out.cell 5
        have cT_6 : wd306.cell? ⟨g295, 6, none⟩ = some (.slice none 0 0) := T.out.cell 6
        have cT_7 : wd306.cell? ⟨g295, 7, none⟩ = some (.int .i64 0) := T.out.cell 7
        have cT_8 : wd306.cell? ⟨g295, 8, none⟩ = some (.int .i64 0) := T.out.cell 8
        have cT_9 : wd306.cell? ⟨g295, 9, none⟩ = some (.bool false) := T.out.cell 9
        have cS_0 : wd306.cell? ⟨gS, 0, none⟩ = some (.slice A0 k c0) := S.out.cell 0
        have fS_0 := S.out.free 0
        go_upto_region 39 with fail
        have hbase : gS + 1 ≤ wd306.heap.size := S.out.here
        go_wp2_with (at_builtin; refine wpList_append_lie rfl _ _ _ rfl (gS + 1) 67 _ 10 120 Try.underlying29 info_typ rfl (by decide) (.slice A0 k c0) k cs rfl O.out.now [.int .i64 3, .string ⟨#[]⟩, .int .i64 0, .int .i64 0, .int .i64 (a4 : Int), .slice none 0 0, .slice none 0 0, .int .i64 0, .int .i64 0, .bool false] _ 1 _ rfl rfl rfl (by simp [Value.oneCell']) (by omega) (by omega) hbase ?_; intro g cap w3 hown3 hg3 hgat hb3; have cS_0 : w3.cell? ⟨gS, 0, none⟩ = some (.slice A0 k c0) := (S.out.below hb3 (by omega)).cell 0; have fS_0 := (S.out.below hb3 (by omega)).free 0)
        have hgsep : (Value.slice (some ⟨g, 0, none⟩) (k + 1) cap).ownBlock = (Value.slice A0 k c0).ownBlock ∨ (Value.slice (some ⟨g, 0, none⟩) (k + 1) cap).ownBlock = some (wd306.heap.size + 1) := by
          rcases hgat with h | h
          · left; rw [h]; rfl
          · right; rw [h]; rfl
        have hty := TypsOwn.snoc _ _ ({ typ0 with kind := 3, max := (a4 : Int) }) _ _ TO.out.now ⟨World.ownsRow_nil _ _ _ _, World.ownsRow_nil _ _ _ _⟩ (.inl rfl) (.inl rfl) HTP.out
        have hty2 := hty.grown hg3 (Nat.le_succ _) hgsep
        clear hty hg3 hgat hgsep
        clear cT_0 cT_1 cT_2 cT_3 cT_4 cT_5 cT_6 cT_7 cT_8 cT_9 cS_0 fS_0
        clear T
        clear X
        clear O
        clear TO
        replace D := Lib.hid (D.out.below hb3 (show w.heap.size < gS + 1 by omega))
        replace R := Lib.hid (R.out.below hb3 (show w.heap.size + 1 < gS + 1 by omega))
        replace S := Lib.hid (S.out.below hb3 (show gS < gS + 1 by omega))
        replace hw := hw.trans (hb3.mono (show w.heap.size ≤ gS + 1 by omega))
        have O2 := Lib.hid (Kept.own hown3)
        have TO2 := Lib.hid (Kept.typs hty2)
        clear hown3 hty2
        replace D := Lib.hid (D.out.far (p := ⟨gS, 0, none⟩) (show w.heap.size ≠ gS by omega) (.slice (some ⟨g, 0, none⟩) (k + 1) cap))
        replace R := Lib.hid (R.out.far (p := ⟨gS, 0, none⟩) (show w.heap.size + 1 ≠ gS by omega) (.slice (some ⟨g, 0, none⟩) (k + 1) cap))
        replace S : Hid (Has (w3.setCell ⟨gS, 0, none⟩ (.slice (some ⟨g, 0, none⟩) (k + 1) cap)) (gS) 31 #[.slice (some ⟨g, 0, none⟩) (k + 1) cap]) := Lib.hid (by have h := S.out.set 0 (.slice (some ⟨g, 0, none⟩) (k + 1) cap); simpa using h)
        replace O2 := Lib.hid (O2.out.set (gS) (show w3.heap.size ≤ gS ∨ gS < gS + 1 by omega) 0 (.slice (some ⟨g, 0, none⟩) (k + 1) cap))
        replace TO2 := Lib.hid (TO2.out.set (gS) (show w3.heap.size ≤ gS ∨ gS < gS + 1 by omega) 0 (.slice (some ⟨g, 0, none⟩) (k + 1) cap))
        replace hw := below_set hw (show w.heap.size ≤ gS by omega) 0 (.slice (some ⟨g, 0, none⟩) (k + 1) cap)
        generalize w3.setCell ⟨gS, 0, none⟩ (.slice (some ⟨g, 0, none⟩) (k + 1) cap) = wd307 at *
        go_wp2_with fail
        go_roundw
        case rel => exact ⟨k + 1, by omega, by go_num, _, _, D.out, R.out, S.out, O2.out.now, by rw [HTK.out]; exact TO2.out.now, hw⟩
        case measure => simp [intOf]; omega
      · skip
        have tb : ((x.b : Int) % 2 == 1) = decide (x.b % 2 = 1) := by rw [Bool.eq_iff_iff]; simp; omega
        have hxb : (x.b : Int) < 256 := by omega
        rw [hkq] at hki
        have HI := Lib.hid hki
        have hty0 : typN xs k x = { typ0 with kind := 4, name := typName k, opn := decide (x.b % 2 = 1), syms := (idsN x).map fun a => (a, nm1 115 a) } := by unfold typN; simp [hkq, namedB]
        rw [hty0] at htk
        have HTK := Lib.hid htk
        have HTP : Hid (TypPlain { typ0 with kind := 4, name := typName k, opn := decide (x.b % 2 = 1), syms := (idsN x).map fun a => (a, nm1 115 a) }) := by have := typN_plain xs k x h5.2 hlt; rw [hty0] at this; exact this
        clear hki htk hty0 hkr hkq
        have hids := fun W => ids_any x (.slice P0 x.parts.length cp) W
        unfold IdsPost at hids
        have hil := idsN_pos x
        have himem := idsN_mem x
        generalize idsN x = l at *
        have HIDS := Lib.hid hids
        have HMEM := Lib.hid himem
        clear hids himem
        have cD_0 : wr.cell? ⟨w.heap.size, 0, none⟩ = some (.slice (some ⟨b, o, none⟩) xs.length c) := D.out.cell 0
        go_upto_region 9 with fail
        clear cD_0
        have hb308 := below_al (Below.refl wr.heap.size wr) (Nat.le_refl _) (.cells #[.int .u8 x.kind, .int .u8 x.a, .int .u8 x.b, .int .u8 x.c, .slice P0 x.parts.length cp] 62)
        have X := Has.made wr 62 #[.int .u8 x.kind, .int .u8 x.a, .int .u8 x.b, .int .u8 x.c, .slice P0 x.parts.length cp]
        have hl310 := D.out.here
        have hl311 := R.out.here
        have hl312 := S.out.here
        have hl313 := O.out.le
        have hl314 := TO.out.le
        have hl315 := hw.size
        replace D := Lib.hid (D.out.below hb308 D.out.here)
        replace R := Lib.hid (R.out.below hb308 R.out.here)
        replace S := Lib.hid (S.out.below hb308 S.out.here)
        replace O := Lib.hid (O.out.on hb308)
        replace TO := Lib.hid (TO.out.on hb308)
        replace hw := hw.trans (hb308.mono hw.size)
        replace X := Lib.hid X
        clear hb308
        generalize (wr.alloc (.cells #[.int .u8 x.kind, .int .u8 x.a, .int .u8 x.b, .int .u8 x.c, .slice P0 x.parts.length cp] 62)) = wd316 at *
        generalize wr.heap.size = g309 at *
        clear n0 n1 n2 n3 n4
        have cD_0 : wd316.cell? ⟨w.heap.size, 0, none⟩ = some (.slice (some ⟨b, o, none⟩) xs.length c) := D.out.cell 0
        go_wp2_with fail
        clear cD_0
        ((with_reducible refine (HI.out _ (HR.out.on hw)).mono ?_); rintro e wd317 ⟨rfl, hb318⟩)
        replace D := Lib.hid (D.out.below hb318 D.out.here)
        replace R := Lib.hid (R.out.below hb318 R.out.here)
        replace S := Lib.hid (S.out.below hb318 S.out.here)
        replace X := Lib.hid (X.out.below hb318 X.out.here)
        replace O := Lib.hid (O.out.on hb318)
        replace TO := Lib.hid (TO.out.on hb318)
        replace hw := hw.trans (hb318.mono hw.size)
        clear hb318
        go_upto_region 10 with fail
        have hb319 := below_al (Below.refl wd317.heap.size wd317) (Nat.le_refl _) (.cells #[.int .i64 4, .string ⟨#[]⟩, .int .i64 0, .int .i64 0, .int .i64 0, .slice none 0 0, .slice none 0 0, .int .i64 0, .int .i64 0, .bool false] 67)
        have T := Has.made wd317 67 #[.int .i64 4, .string ⟨#[]⟩, .int .i64 0, .int .i64 0, .int .i64 0, .slice none 0 0, .slice none 0 0, .int .i64 0, .int .i64 0, .bool false]
        have hl321 := D.out.here
        have hl322 := R.out.here
        have hl323 := S.out.here
        have hl324 := X.out.here
        have hl325 := O.out.le
        have hl326 := TO.out.le
        have hl327 := hw.size
        replace D := Lib.hid (D.out.below hb319 D.out.here)
        replace R := Lib.hid (R.out.below hb319 R.out.here)
        replace S := Lib.hid (S.out.below hb319 S.out.here)
        replace X := Lib.hid (X.out.below hb319 X.out.here)
        replace O := Lib.hid (O.out.on hb319)
        replace TO := Lib.hid (TO.out.on hb319)
        replace hw := hw.trans (hb319.mono hw.size)
        replace T := Lib.hid T
        clear hb319
        generalize (wd317.alloc (.cells #[.int .i64 4, .string ⟨#[]⟩, .int .i64 0, .int .i64 0, .int .i64 0, .slice none 0 0, .slice none 0 0, .int .i64 0, .int .i64 0, .bool false] 67)) = wd328 at *
        generalize wd317.heap.size = g320 at *
        have cT_0 : wd328.cell? ⟨g320, 0, none⟩ = some (.int .i64 4) := T.out.cell 0
        go_wp2_with fail
        clear cT_0
        ((with_reducible refine (named_any _ _).mono ?_); rintro e wd329 ⟨rfl, rfl⟩)
        rw [show namedB 4 = true from rfl]
        obtain ⟨q, hq, Hq⟩ : ∃ q : Nat, 65 + (k : Int) = (q : Int) ∧ Hid (q = 65 + k) := ⟨65 + k, by omega, rfl⟩
        have hqb : (q : Int) < 128 := by have := Hq.out; omega
        have cT_0 : wd328.cell? ⟨g320, 0, none⟩ = some (.int .i64 4) := T.out.cell 0
        have cT_1 : wd328.cell? ⟨g320, 1, none⟩ = some (.string ⟨#[]⟩) := T.out.cell 1
        have fT_1 := T.out.free 1
        go_upto_region 12 with fail
        have hstr : Utf8.encode (q : Int) = { data := (typName k).toArray } := by rw [rune1 q (by omega), Hq.out]; rfl
        rw [hstr]
        clear hstr hqb Hq hq
        clear cT_0 cT_1 fT_1
        replace D := Lib.hid (D.out.far (p := ⟨g320, 1, none⟩) (show w.heap.size ≠ g320 by omega) (.string ⟨(typName k).toArray⟩))
        replace R := Lib.hid (R.out.far (p := ⟨g320, 1, none⟩) (show w.heap.size + 1 ≠ g320 by omega) (.string ⟨(typName k).toArray⟩))
        replace S := Lib.hid (S.out.far (p := ⟨g320, 1, none⟩) (show gS ≠ g320 by omega) (.string ⟨(typName k).toArray⟩))
        replace X := Lib.hid (X.out.far (p := ⟨g320, 1, none⟩) (show g309 ≠ g320 by omega) (.string ⟨(typName k).toArray⟩))
        replace T : Hid (Has (wd328.setCell ⟨g320, 1, none⟩ (.string ⟨(typName k).toArray⟩)) (g320) 67 #[.int .i64 4, .string ⟨(typName k).toArray⟩, .int .i64 0, .int .i64 0, .int .i64 0, .slice none 0 0, .slice none 0 0, .int .i64 0, .int .i64 0, .bool false]) := Lib.hid (by have h := T.out.set 1 (.string ⟨(typName k).toArray⟩); simpa using h)
        replace O := Lib.hid (O.out.set (g320) (show g309 ≤ g320 ∨ g320 < gS + 1 by omega) 1 (.string ⟨(typName k).toArray⟩))
        replace TO := Lib.hid (TO.out.set (g320) (show g309 ≤ g320 ∨ g320 < gS + 1 by omega) 1 (.string ⟨(typName k).toArray⟩))
        replace hw := below_set hw (show w.heap.size ≤ g320 by omega) 1 (.string ⟨(typName k).toArray⟩)
        generalize wd328.setCell ⟨g320, 1, none⟩ (.string ⟨(typName k).toArray⟩) = wd331 at *
        have cT_0 : wd331.cell? ⟨g320, 0, none⟩ = some (.int .i64 4) := T.out.cell 0
        have cT_9 : wd331.cell? ⟨g320, 9, none⟩ = some (.bool false) := T.out.cell 9
        have cX_2 : wd331.cell? ⟨g309, 2, none⟩ = some (.int .u8 x.b) := X.out.cell 2
        have fT_9 := T.out.free 9
        go_upto_region 19 with fail
        clear cT_0 cT_9 cX_2 fT_9
        replace D := Lib.hid (D.out.far (p := ⟨g320, 9, none⟩) (show w.heap.size ≠ g320 by omega) (.bool (decide (x.b % 2 = 1))))
        replace R := Lib.hid (R.out.far (p := ⟨g320, 9, none⟩) (show w.heap.size + 1 ≠ g320 by omega) (.bool (decide (x.b % 2 = 1))))
        replace S := Lib.hid (S.out.far (p := ⟨g320, 9, none⟩) (show gS ≠ g320 by omega) (.bool (decide (x.b % 2 = 1))))
        replace X := Lib.hid (X.out.far (p := ⟨g320, 9, none⟩) (show g309 ≠ g320 by omega) (.bool (decide (x.b % 2 = 1))))
        replace T : Hid (Has (wd331.setCell ⟨g320, 9, none⟩ (.bool (decide (x.b % 2 = 1)))) (g320) 67 #[.int .i64 4, .string ⟨(typName k).toArray⟩, .int .i64 0, .int .i64 0, .int .i64 0, .slice none 0 0, .slice none 0 0, .int .i64 0, .int .i64 0, .bool (decide (x.b % 2 = 1))]) := Lib.hid (by have h := T.out.set 9 (.bool (decide (x.b % 2 = 1))); simpa using h)
        replace O := Lib.hid (O.out.set (g320) (show g309 ≤ g320 ∨ g320 < gS + 1 by omega) 9 (.bool (decide (x.b % 2 = 1))))
        replace TO := Lib.hid (TO.out.set (g320) (show g309 ≤ g320 ∨ g320 < gS + 1 by omega) 9 (.bool (decide (x.b % 2 = 1))))
        replace hw := below_set hw (show w.heap.size ≤ g320 by omega) 9 (.bool (decide (x.b % 2 = 1)))
        generalize wd331.setCell ⟨g320, 9, none⟩ (.bool (decide (x.b % 2 = 1))) = wd332 at *
        have cX_0 : wd332.cell? ⟨g309, 0, none⟩ = some (.int .u8 x.kind) := X.out.cell 0
        have cX_1 : wd332.cell? ⟨g309, 1, none⟩ = some (.int .u8 x.a) := X.out.cell 1
        have cX_2 : wd332.cell? ⟨g309, 2, none⟩ = some (.int .u8 x.b) := X.out.cell 2
        have cX_3 : wd332.cell? ⟨g309, 3, none⟩ = some (.int .u8 x.c) := X.out.cell 3
        have cX_4 : wd332.cell? ⟨g309, 4, none⟩ = some (.slice P0 x.parts.length cp) := X.out.cell 4
        go_wp2_with fail
        have OB := Lib.hid O.out.now
        have hTl := T.out.here
        clear cX_0 cX_1 cX_2 cX_3 cX_4
        ((with_reducible refine (HIDS.out _).mono ?_); rintro e wd333 ⟨vi, rfl, hown, hb334⟩)
        replace D := Lib.hid (D.out.below hb334 D.out.here)
        replace R := Lib.hid (R.out.below hb334 R.out.here)
        replace S := Lib.hid (S.out.below hb334 S.out.here)
        replace X := Lib.hid (X.out.below hb334 X.out.here)
        replace T := Lib.hid (T.out.below hb334 T.out.here)
        replace O := Lib.hid (O.out.on hb334)
        replace TO := Lib.hid (TO.out.on hb334)
        replace hw := hw.trans (hb334.mono hw.size)
        clear hb334
        replace hown := own_base hown (show g320 + 1 ≤ _ from hTl)
        obtain ⟨gi, ci, rfl, hgi1, hgi2, hgi3, hgc⟩ := own_pos hown (by omega)
        clear hgc
        go_upto_region 21 with fail
        obtain ⟨B0, hB0⟩ : ∃ B, B = wd333.heap.size := ⟨_, rfl⟩
        rw [← hB0] at hgi2
        have hTB : g320 < B0 := by rw [hB0]; exact T.out.here
        have hXB : g309 < g320 := by omega
        have hSB : gS < g309 := by omega
        have hOB : ∀ k1, (Value.slice A0 k c0).ownBlock = some k1 → k1 < B0 := fun k1 h => by rw [hB0]; exact (O.out.now.lt k1 h).2
        have HB0 := Lib.hid hB0
        have hDD := D.out
        have hRR := R.out
        have hSS := S.out
        have hXX := X.out
        have hTTT := T.out
        have hWW := hw
        obtain ⟨gT, hgT⟩ : ∃ g, g = g320 := ⟨_, rfl⟩
        obtain ⟨gX, hgX⟩ : ∃ g, g = g309 := ⟨_, rfl⟩
        rw [← hgT] at hTTT hTB hXB hown hgi1
        rw [← hgX] at hXX hXB hSB
        have hOK := O.out
        have hTK := TO.out
        rw [← hgX] at hOK hTK
        rw [← hgT, ← hgX]
        clear hB0 hgT hgX
        go_loopw [10] (fun j wi => ∃ kk : Nat, kk ≤ l.length ∧ j = .int .i64 kk ∧ ∃ A5 c5, Has wi w.heap.size 24 #[.slice (some ⟨b, o, none⟩) xs.length c] ∧ Has wi (w.heap.size + 1) 31 #[.slice none 0 0] ∧ Has wi gS 31 #[.slice A0 k c0] ∧ Has wi gX 62 #[.int .u8 x.kind, .int .u8 x.a, .int .u8 x.b, .int .u8 x.c, .slice P0 x.parts.length cp] ∧
            Has wi gT 67 #[.int .i64 4, .string ⟨(typName k).toArray⟩, .int .i64 0, .int .i64 0, .int .i64 0, .slice A5 kk c5, .slice none 0 0, .int .i64 0, .int .i64 0, .bool (decide (x.b % 2 = 1))] ∧ wi.ownsRow B0 72 2 (.slice A5 kk c5) kk (rawsV ((l.take kk).map fun a => (a, nm1 115 a))) ∧ wi.ownsRow (gT + 1) 3 1 (.slice (some ⟨gi, 0, none⟩) l.length ci) l.length (l.map (Value.int .i64)) ∧
            Kept (fun w => w.ownsRow (gS + 1) 67 10 (.slice A0 k c0) k cs) wi (gS + 1) gX ∧ Kept (fun w => TypsOwn w (gS + 1) (Value.slice A0 k c0).ownBlock ((ofN xs).take k) cs) wi (gS + 1) gX ∧ B0 ≤ wi.heap.size ∧ Below w.heap.size w wi)
           (fun j _ => l.length - (intOf j).toNat)
        case atStart => exact ⟨0, by omega, rfl, none, 0, hDD, hRR, hSS, hXX, hTTT, World.ownsRow_nil _ _ _ _, hown, hOK, hTK, Nat.le_of_eq HB0.out, hWW⟩
        case round =>
          clear hDD hRR hSS hXX hTTT hown hOK hTK hWW hw HB0 D R S X T O TO
          obtain ⟨kk, hkk, rfl, A5, c5, D, R, S, X, T, hsy, hown, hOK, hTK, hBw, hw⟩ := hrel
          by_cases hjl : kk < l.length
          · skip
            replace D := Lib.hid D
            replace R := Lib.hid R
            replace S := Lib.hid S
            replace X := Lib.hid X
            replace T := Lib.hid T
            have O := Lib.hid (hOK)
            have TO := Lib.hid (hTK)
            have SY := Lib.hid (Kept.own hsy)
            have IO := Lib.hid (Kept.own2 hown hgi2 hBw)
            clear hOK hTK
            have hy := HMEM.out _ (List.getElem_mem hjl)
            have htk : l.take (kk + 1) = l.take kk ++ [l[kk]] := List.take_succ_eq_append_getElem hjl
            have hci := (own_cell0 hown) kk (.int .i64 l[kk]) (by rw [List.getElem?_map, List.getElem?_eq_getElem hjl]; rfl)
            generalize l[kk] = y at *
            have HTK2 := Lib.hid htk
            clear htk
            obtain ⟨q, hq, Hq⟩ : ∃ q : Nat, IntKind.i64.wrap (97 + y) = (q : Int) ∧ Hid (q = (97 + y).toNat) := ⟨(97 + y).toNat, by rw [IntWalk.i64_in _ (by omega)]; omega, rfl⟩
            have hqb : (q : Int) < 128 := by have := Hq.out; omega
            have hs : (Utf8.encode (q : Int)).size = 1 := by rw [rune1 q (by omega)]; rfl
            have e2 : IntKind.i32.wrap (q : Int) = q := by rw [IntKind.wrap_i32]; omega
            have hj0 : (0 : Int) ≤ (kk : Int) := by omega
            have hj1 : (kk : Int) < l.length := by omega
            have hjm : (kk : Int) + 1 ≤ 9223372036854775807 := by omega
            go_upto_region 23 with fail
            have cT_5 : wr.cell? ⟨gT, 5, none⟩ = some (.slice A5 kk c5) := T.out.cell 5
            have fT_5 := T.out.free 5
            obtain ⟨isym, hsi0, hsz0, hsz1, hsz2⟩ := info_parts info_sym
            have cA1 : ∀ o, (wr.alloc o).cell? ⟨gT, 5, none⟩ = some (.slice A5 kk c5) := fun o => (((Below.refl wr.heap.size wr).alloc (Nat.le_refl _) o).cell (p := ⟨gT, 5, none⟩) T.out.here).trans cT_5
            have cA2 : ∀ o, (wr.alloc o).cell? ⟨gi, kk, none⟩ = some (.int .i64 y) := fun o => (((Below.refl wr.heap.size wr).alloc (Nat.le_refl _) o).cell (p := ⟨gi, kk, none⟩) (World.block_lt_of_cell? _ _ hci)).trans hci
            refine wp_region_held_drew (S := (fun w' => w'.cell? ⟨gi, kk, none⟩ = some (.int .i64 y))) (by kernel_rfl) hci (fun hHeld => ?_)
            refine wpAnyH_take (i := 0) (v := ?v0a) rfl (by kernel_rfl) (by kernel_rfl) (by kernel_rfl) (fun _ _ _ h => h) (Or.inl ⟨by rfl, ?h0a⟩) (by assumption) ?r0a
            case h0a => (intro w hSw; (try dsimp only at hSw); go_simp; (first | done | with_reducible rfl))
            try simp only [Act.put]
            refine wpAnyH_take (i := 2) (v := ?v2a) rfl (by kernel_rfl) (by kernel_rfl) (by kernel_rfl) (fun _ _ _ h => h) (Or.inl ⟨by rfl, ?h2a⟩) (by assumption) ?r2a
            case h2a => (intro w hSw; (try dsimp only at hSw); go_simp; (first | done | with_reducible rfl))
            try simp only [Act.put]
            refine wpAnyH_take (i := 3) (v := ?v3a) rfl (by kernel_rfl) (by kernel_rfl) (by kernel_rfl) (fun _ _ _ h => h) (Or.inl ⟨by rfl, ?h3a⟩) (by assumption) ?r3a
            case h3a => (intro w hSw; (try dsimp only at hSw); go_simp; (first | done | with_reducible rfl))
            try simp only [Act.put]
            refine wpAnyH_take (i := 4) (v := ?v4a) rfl (by kernel_rfl) (by kernel_rfl) (by kernel_rfl) (fun _ _ _ h => h) (Or.inl ⟨by rfl, ?h4a⟩) (by assumption) ?r4a
            case h4a => (intro w hSw; (try dsimp only at hSw); go_simp; (first | done | with_reducible rfl))
            try simp only [Act.put]
            refine wpAnyH_take (i := 5) (v := ?v5a) rfl (by kernel_rfl) (by kernel_rfl) (by kernel_rfl) (fun _ _ _ h => h) (Or.inl ⟨by rfl, ?h5a⟩) (by assumption) ?r5a
            case h5a => (intro w hSw; (try dsimp only at hSw); go_simp; (first | done | with_reducible rfl))
            try simp only [Act.put]
            refine wpAnyH_take (i := 6) (v := ?v6a) rfl (by kernel_rfl) (by kernel_rfl) (by kernel_rfl) (fun _ _ _ h => h) (Or.inl ⟨by rfl, ?h6a⟩) (by assumption) ?r6a
            case h6a => (intro w hSw; (try dsimp only at hSw); go_simp; (first | done | with_reducible rfl))
            try simp only [Act.put]
            refine wpAnyH_take (i := 7) (v := ?v7a) rfl (by kernel_rfl) (by kernel_rfl) (by kernel_rfl) (fun _ _ _ h => h) (Or.inl ⟨by rfl, ?h7a⟩) (by assumption) ?r7a
            case h7a => (intro w hSw; (try dsimp only at hSw); go_simp; (first | done | with_reducible rfl))
            try simp only [Act.put]
            refine wpAnyH_take (i := 8) (v := ?v8a) rfl (by kernel_rfl) (by kernel_rfl) (by kernel_rfl) (fun _ _ _ h => h) (Or.inl ⟨by rfl, ?h8a⟩) (by assumption) ?r8a
            case h8a => (intro w hSw; (try dsimp only at hSw); go_simp; (first | done | with_reducible rfl))
            try simp only [Act.put]
            refine wpAnyH_take (i := 9) (v := ?v9a) rfl (by kernel_rfl) (by kernel_rfl) (by kernel_rfl) (fun _ _ _ h => h) (Or.inl ⟨by rfl, ?h9a⟩) (by assumption) ?r9a
            case h9a => (intro w hSw; (try dsimp only at hSw); go_simp; (first | done | with_reducible rfl))
            try simp only [Act.put]
            refine wpAnyH_take (i := 10) (v := ?v10a) rfl (by kernel_rfl) (by kernel_rfl) (by kernel_rfl) (fun _ _ _ h => h) (Or.inl ⟨by rfl, ?h10a⟩) (by assumption) ?r10a
            case h10a => (intro w hSw; (try dsimp only at hSw); go_simp; (first | done | with_reducible rfl))
            try simp only [Act.put]
            refine wpAnyH_take (i := 11) (v := ?v11a) rfl (by kernel_rfl) (by kernel_rfl) (by kernel_rfl) (fun _ _ _ h => h) (Or.inl ⟨by rfl, ?h11a⟩) (by assumption) ?r11a
            case h11a => (intro w hSw; (try dsimp only at hSw); go_simp; (first | done | with_reducible rfl))
            try simp only [Act.put]
            refine wpAnyH_take (i := 12) (v := ?v12a) rfl (by kernel_rfl) (by kernel_rfl) (by kernel_rfl) (fun _ _ _ h => h) (Or.inl ⟨by rfl, ?h12a⟩) (by assumption) ?r12a
            case h12a => (intro w hSw; (try dsimp only at hSw); go_simp; (first | done | with_reducible rfl))
            try simp only [Act.put]
            refine wpAnyH_take (i := 13) (v := ?v13a) rfl (by kernel_rfl) (by kernel_rfl) (by kernel_rfl) (fun _ _ _ h => h) (Or.inl ⟨by rfl, ?h13a⟩) (by assumption) ?r13a
            case h13a => (intro w hSw; (try dsimp only at hSw); go_simp; (first | done | with_reducible rfl))
            try simp only [Act.put]
            refine wpAnyH_take (i := 14) (v := ?v14a) rfl (by kernel_rfl) (by kernel_rfl) (by kernel_rfl) (fun _ _ _ h => h) (Or.inl ⟨by rfl, ?h14a⟩) (by assumption) ?r14a
            case h14a => (intro w hSw; (try dsimp only at hSw); go_simp; (first | done | with_reducible rfl))
            try simp only [Act.put]
            refine wpAnyH_ready (rs := [1, 15]) (by kernel_rfl) (by simp) ?_
            refine AllReadyH.cons rfl (fun K hK => ?_) (AllReadyH.cons rfl (fun K hK => ?_) AllReadyH.nil)
            · go_simp
              refine hK.out _ _ hci (fun hHeld => ?_)
              clear hK K
              try simp only [Act.put, List.setIfInBounds_toArray]
              refine wpAnyH_ready (rs := [15]) (by kernel_rfl) (by simp) ?_
              refine AllReadyH.cons rfl (fun K hK => ?_) AllReadyH.nil
              go_simp
              refine hK.out _ _ (cA2 _) (fun hHeld => ?_)
              clear hK K
              try simp only [Act.put, List.setIfInBounds_toArray]
              refine wpAnyH_ready (rs := [16]) (by kernel_rfl) (by simp) ?_
              refine AllReadyH.cons rfl (fun K hK => ?_) AllReadyH.nil
              refine step_append_lies _ (by rfl) _ _ _ (by rfl) B0 72 isym _ 2 24 Try.underlying64 hsi0 hsz0 hsz1 hsz2 rfl (by omega) (.slice A5 kk c5) kk _ (by rfl) ((SY.out.now.alloc _).drew) ⟨wr.heap.size, 0, none⟩ 1 1 [.int .i64 y, .string (({ data := #[115] } : ByteArray) ++ Utf8.encode (q : Int))] (by rfl) (by rfl) (World.news_of_block (cs := #[.int .i64 y, .string (({ data := #[115] } : ByteArray) ++ Utf8.encode (q : Int))]) (t := 72) (fr := (0, 0)) (heap_alloc_new wr _)) (by simp [Value.oneCell']) (by omega) (by simp only [maxLen]; omega) (by omega) (by simp; omega) (wr.heap.size + 1) (by simp) ?_
              intro gg cap w1 hown1 hgrow hat hlt2
              have hgr : (wr.alloc (.cells #[.int .i64 y, .string (({ data := #[115] } : ByteArray) ++ Utf8.encode (q : Int))] 72)).grownBy w1 (Value.slice A5 kk c5).ownBlock := ⟨hgrow.os, hgrow.tape, hgrow.output, hgrow.size, hgrow.block⟩
              have hb3 := grown_below SY.out.now hBw hgr
              have cT5 : w1.cell? ⟨gT, 5, none⟩ = some (.slice A5 kk c5) := (T.out.below hb3 hTB).cell 5
              have fT5 := (T.out.below hb3 hTB).free 5
              have hci1 := (hb3.cell (p := ⟨gi, kk, none⟩) hgi2).trans hci
              clear cA1 cA2
              refine hK.out _ _ hci1 (fun hHeld => ?_)
              clear hK K
              try simp only [Act.put, List.setIfInBounds_toArray]
              refine wpAnyH_take (i := 17) (v := ?v17a) rfl (by kernel_rfl) (by kernel_rfl) (by kernel_rfl) (fun _ _ _ h => h) (Or.inl ⟨by rfl, ?h17a⟩) (by assumption) ?r17a
              case h17a => (intro w hSw; (try dsimp only at hSw); go_simp; (first | done | with_reducible rfl))
              try simp only [Act.put]
              refine wpAnyH_ready (rs := [18]) (by kernel_rfl) (by simp) ?_
              refine AllReadyH.cons rfl (fun K hK => ?_) AllReadyH.nil
              go_simp
              refine hK.out _ _ ((cell_far w1 gT 5 _ ⟨gi, kk, none⟩ (by show gi ≠ gT; omega)).trans hci1) (fun hHeld => ?_)
              clear hK K
              refine wpAnyH_done (by kernel_rfl) ?_ _
              clear hHeld hci1 cT5 fT5
              have hsy2 : w1.ownsRow B0 72 2 (.slice (some ⟨gg, 0, none⟩) (kk + 1) cap) (kk + 1) (rawsV ((l.take (kk + 1)).map fun a => (a, nm1 115 a))) := by
                rw [HTK2.out, List.map_append]
                unfold rawsV at hown1 ⊢
                rw [List.flatMap_append]
                have hstr : ({ data := #[115] } : ByteArray) ++ Utf8.encode (q : Int) = { data := (nm1 115 y).toArray } := by
                  rw [rune1 q (by omega), Hq.out, nm1_of 115 y]
                  exact str_app [115] [UInt8.ofNat (97 + y).toNat]
                rw [hstr] at hown1
                exact hown1
              clear hown1 hgrow hat hlt2 hgr hs e2 hqb Hq hq
              clear SY
              clear cT_5 fT_5
              replace D := Lib.hid (D.out.below hb3 (show w.heap.size < B0 by omega))
              replace R := Lib.hid (R.out.below hb3 (show w.heap.size + 1 < B0 by omega))
              replace S := Lib.hid (S.out.below hb3 (show gS < B0 by omega))
              replace X := Lib.hid (X.out.below hb3 (show gX < B0 by omega))
              replace T := Lib.hid (T.out.below hb3 (show gT < B0 by omega))
              replace O := Lib.hid (O.out.from0 hb3 (show gX ≤ B0 by omega))
              replace TO := Lib.hid (TO.out.from0 hb3 (show gX ≤ B0 by omega))
              replace IO := Lib.hid (IO.out.from0 hb3 (show B0 ≤ B0 by omega))
              replace hw := hw.trans (hb3.mono (show w.heap.size ≤ B0 by omega))
              have SY2 := Lib.hid (Kept.own hsy2)
              clear hsy2
              replace D := Lib.hid (D.out.far (p := ⟨gT, 5, none⟩) (show w.heap.size ≠ gT by omega) (.slice (some ⟨gg, 0, none⟩) (kk + 1) cap))
              replace R := Lib.hid (R.out.far (p := ⟨gT, 5, none⟩) (show w.heap.size + 1 ≠ gT by omega) (.slice (some ⟨gg, 0, none⟩) (kk + 1) cap))
              replace S := Lib.hid (S.out.far (p := ⟨gT, 5, none⟩) (show gS ≠ gT by omega) (.slice (some ⟨gg, 0, none⟩) (kk + 1) cap))
              replace X := Lib.hid (X.out.far (p := ⟨gT, 5, none⟩) (show gX ≠ gT by omega) (.slice (some ⟨gg, 0, none⟩) (kk + 1) cap))
              replace T : Hid (Has (w1.setCell ⟨gT, 5, none⟩ (.slice (some ⟨gg, 0, none⟩) (kk + 1) cap)) (gT) 67 #[.int .i64 4, .string ⟨(typName k).toArray⟩, .int .i64 0, .int .i64 0, .int .i64 0, .slice (some ⟨gg, 0, none⟩) (kk + 1) cap, .slice none 0 0, .int .i64 0, .int .i64 0, .bool (decide (x.b % 2 = 1))]) := Lib.hid (by have h := T.out.set 5 (.slice (some ⟨gg, 0, none⟩) (kk + 1) cap); simpa using h)
              replace O := Lib.hid (O.out.set (gT) (show gX ≤ gT ∨ gT < gS + 1 by omega) 5 (.slice (some ⟨gg, 0, none⟩) (kk + 1) cap))
              replace TO := Lib.hid (TO.out.set (gT) (show gX ≤ gT ∨ gT < gS + 1 by omega) 5 (.slice (some ⟨gg, 0, none⟩) (kk + 1) cap))
              replace IO := Lib.hid (IO.out.set (gT) (show B0 ≤ gT ∨ gT < gT + 1 by omega) 5 (.slice (some ⟨gg, 0, none⟩) (kk + 1) cap))
              replace SY2 := Lib.hid (SY2.out.set (gT) (show w1.heap.size ≤ gT ∨ gT < B0 by omega) 5 (.slice (some ⟨gg, 0, none⟩) (kk + 1) cap))
              replace hw := below_set hw (show w.heap.size ≤ gT by omega) 5 (.slice (some ⟨gg, 0, none⟩) (kk + 1) cap)
              generalize w1.setCell ⟨gT, 5, none⟩ (.slice (some ⟨gg, 0, none⟩) (kk + 1) cap) = wd335 at *
              go_wp2_with fail
              go_roundw
              case rel => exact ⟨kk + 1, by omega, by go_num, _, _, D.out, R.out, S.out, X.out, T.out, SY2.out.now, IO.out.now, O.out, TO.out, IO.out.le, hw⟩
              case measure => simp [intOf]; omega
            · go_simp
              refine hK.out _ _ (cA2 _) (fun hHeld => ?_)
              clear hK K
              try simp only [Act.put, List.setIfInBounds_toArray]
              refine wpAnyH_ready (rs := [1]) (by kernel_rfl) (by simp) ?_
              refine AllReadyH.cons rfl (fun K hK => ?_) AllReadyH.nil
              go_simp
              refine hK.out _ _ (cA2 _) (fun hHeld => ?_)
              clear hK K
              try simp only [Act.put, List.setIfInBounds_toArray]
              refine wpAnyH_ready (rs := [16]) (by kernel_rfl) (by simp) ?_
              refine AllReadyH.cons rfl (fun K hK => ?_) AllReadyH.nil
              refine step_append_lies _ (by rfl) _ _ _ (by rfl) B0 72 isym _ 2 24 Try.underlying64 hsi0 hsz0 hsz1 hsz2 rfl (by omega) (.slice A5 kk c5) kk _ (by rfl) ((SY.out.now.alloc _).drew) ⟨wr.heap.size, 0, none⟩ 1 1 [.int .i64 y, .string (({ data := #[115] } : ByteArray) ++ Utf8.encode (q : Int))] (by rfl) (by rfl) (World.news_of_block (cs := #[.int .i64 y, .string (({ data := #[115] } : ByteArray) ++ Utf8.encode (q : Int))]) (t := 72) (fr := (0, 0)) (heap_alloc_new wr _)) (by simp [Value.oneCell']) (by omega) (by simp only [maxLen]; omega) (by omega) (by simp; omega) (wr.heap.size + 1) (by simp) ?_
              intro gg cap w1 hown1 hgrow hat hlt2
              have hgr : (wr.alloc (.cells #[.int .i64 y, .string (({ data := #[115] } : ByteArray) ++ Utf8.encode (q : Int))] 72)).grownBy w1 (Value.slice A5 kk c5).ownBlock := ⟨hgrow.os, hgrow.tape, hgrow.output, hgrow.size, hgrow.block⟩
              have hb3 := grown_below SY.out.now hBw hgr
              have cT5 : w1.cell? ⟨gT, 5, none⟩ = some (.slice A5 kk c5) := (T.out.below hb3 hTB).cell 5
              have fT5 := (T.out.below hb3 hTB).free 5
              have hci1 := (hb3.cell (p := ⟨gi, kk, none⟩) hgi2).trans hci
              clear cA1 cA2
              refine hK.out _ _ hci1 (fun hHeld => ?_)
              clear hK K
              try simp only [Act.put, List.setIfInBounds_toArray]
              refine wpAnyH_take (i := 17) (v := ?v17b) rfl (by kernel_rfl) (by kernel_rfl) (by kernel_rfl) (fun _ _ _ h => h) (Or.inl ⟨by rfl, ?h17b⟩) (by assumption) ?r17b
              case h17b => (intro w hSw; (try dsimp only at hSw); go_simp; (first | done | with_reducible rfl))
              try simp only [Act.put]
              refine wpAnyH_ready (rs := [18]) (by kernel_rfl) (by simp) ?_
              refine AllReadyH.cons rfl (fun K hK => ?_) AllReadyH.nil
              go_simp
              refine hK.out _ _ ((cell_far w1 gT 5 _ ⟨gi, kk, none⟩ (by show gi ≠ gT; omega)).trans hci1) (fun hHeld => ?_)
              clear hK K
              refine wpAnyH_done (by kernel_rfl) ?_ _
              clear hHeld hci1 cT5 fT5
              have hsy2 : w1.ownsRow B0 72 2 (.slice (some ⟨gg, 0, none⟩) (kk + 1) cap) (kk + 1) (rawsV ((l.take (kk + 1)).map fun a => (a, nm1 115 a))) := by
                rw [HTK2.out, List.map_append]
                unfold rawsV at hown1 ⊢
                rw [List.flatMap_append]
                have hstr : ({ data := #[115] } : ByteArray) ++ Utf8.encode (q : Int) = { data := (nm1 115 y).toArray } := by
                  rw [rune1 q (by omega), Hq.out, nm1_of 115 y]
                  exact str_app [115] [UInt8.ofNat (97 + y).toNat]
                rw [hstr] at hown1
                exact hown1
              clear hown1 hgrow hat hlt2 hgr hs e2 hqb Hq hq
              clear SY
              clear cT_5 fT_5
              replace D := Lib.hid (D.out.below hb3 (show w.heap.size < B0 by omega))
              replace R := Lib.hid (R.out.below hb3 (show w.heap.size + 1 < B0 by omega))
              replace S := Lib.hid (S.out.below hb3 (show gS < B0 by omega))
              replace X := Lib.hid (X.out.below hb3 (show gX < B0 by omega))
              replace T := Lib.hid (T.out.below hb3 (show gT < B0 by omega))
              replace O := Lib.hid (O.out.from0 hb3 (show gX ≤ B0 by omega))
              replace TO := Lib.hid (TO.out.from0 hb3 (show gX ≤ B0 by omega))
              replace IO := Lib.hid (IO.out.from0 hb3 (show B0 ≤ B0 by omega))
              replace hw := hw.trans (hb3.mono (show w.heap.size ≤ B0 by omega))
              have SY2 := Lib.hid (Kept.own hsy2)
              clear hsy2
              replace D := Lib.hid (D.out.far (p := ⟨gT, 5, none⟩) (show w.heap.size ≠ gT by omega) (.slice (some ⟨gg, 0, none⟩) (kk + 1) cap))
              replace R := Lib.hid (R.out.far (p := ⟨gT, 5, none⟩) (show w.heap.size + 1 ≠ gT by omega) (.slice (some ⟨gg, 0, none⟩) (kk + 1) cap))
              replace S := Lib.hid (S.out.far (p := ⟨gT, 5, none⟩) (show gS ≠ gT by omega) (.slice (some ⟨gg, 0, none⟩) (kk + 1) cap))
              replace X := Lib.hid (X.out.far (p := ⟨gT, 5, none⟩) (show gX ≠ gT by omega) (.slice (some ⟨gg, 0, none⟩) (kk + 1) cap))
              replace T : Hid (Has (w1.setCell ⟨gT, 5, none⟩ (.slice (some ⟨gg, 0, none⟩) (kk + 1) cap)) (gT) 67 #[.int .i64 4, .string ⟨(typName k).toArray⟩, .int .i64 0, .int .i64 0, .int .i64 0, .slice (some ⟨gg, 0, none⟩) (kk + 1) cap, .slice none 0 0, .int .i64 0, .int .i64 0, .bool (decide (x.b % 2 = 1))]) := Lib.hid (by have h := T.out.set 5 (.slice (some ⟨gg, 0, none⟩) (kk + 1) cap); simpa using h)
              replace O := Lib.hid (O.out.set (gT) (show gX ≤ gT ∨ gT < gS + 1 by omega) 5 (.slice (some ⟨gg, 0, none⟩) (kk + 1) cap))
              replace TO := Lib.hid (TO.out.set (gT) (show gX ≤ gT ∨ gT < gS + 1 by omega) 5 (.slice (some ⟨gg, 0, none⟩) (kk + 1) cap))
              replace IO := Lib.hid (IO.out.set (gT) (show B0 ≤ gT ∨ gT < gT + 1 by omega) 5 (.slice (some ⟨gg, 0, none⟩) (kk + 1) cap))
              replace SY2 := Lib.hid (SY2.out.set (gT) (show w1.heap.size ≤ gT ∨ gT < B0 by omega) 5 (.slice (some ⟨gg, 0, none⟩) (kk + 1) cap))
              replace hw := below_set hw (show w.heap.size ≤ gT by omega) 5 (.slice (some ⟨gg, 0, none⟩) (kk + 1) cap)
              generalize w1.setCell ⟨gT, 5, none⟩ (.slice (some ⟨gg, 0, none⟩) (kk + 1) cap) = wd336 at *
              go_wp2_with fail
              go_roundw
              case rel => exact ⟨kk + 1, by omega, by go_num, _, _, D.out, R.out, S.out, X.out, T.out, SY2.out.now, IO.out.now, O.out, TO.out, IO.out.le, hw⟩
              case measure => simp [intOf]; omega
          · obtain rfl : kk = l.length := by omega
            replace D := Lib.hid D
            replace R := Lib.hid R
            replace S := Lib.hid S
            replace X := Lib.hid X
            replace T := Lib.hid T
            have O := Lib.hid (hOK)
            have TO := Lib.hid (hTK)
            rw [List.take_of_length_le (Nat.le_refl _)] at hsy
            have hss := sep_of hsy hOB
            have hsy3 : wr.ownsRow (gS + 1) 72 2 (.slice A5 l.length c5) (l.map fun a => (a, nm1 115 a)).length (rawsV (l.map fun a => (a, nm1 115 a))) := by rw [List.length_map]; exact own_base hsy (by omega)
            have HSY := Lib.hid hsy3
            clear hOK hTK hsy hsy3 hown hgi1 hgi2 hgi3 hil
            have cT_0 : wr.cell? ⟨gT, 0, none⟩ = some (.int .i64 4) := T.out.cell 0
            have cT_1 : wr.cell? ⟨gT, 1, none⟩ = some (.string ⟨(typName k).toArray⟩) := T.out.cell 1
            have cT_2 : wr.cell? ⟨gT, 2, none⟩ = some (.int .i64 0) := T.out.cell 2
            have cT_3 : wr.cell? ⟨gT, 3, none⟩ = some (.int .i64 0) := T.out.cell 3
            have cT_4 : wr.cell? ⟨gT, 4, none⟩ = some (.int .i64 0) := T.out.cell 4
            have cT_5 : wr.cell? ⟨gT, 5, none⟩ = some (.slice A5 l.length c5) := T.out.cell 5
            have cT_6 : wr.cell? ⟨gT, 6, none⟩ = some (.slice none 0 0) := T.out.cell 6
            have cT_7 : wr.cell? ⟨gT, 7, none⟩ = some (.int .i64 0) := T.out.cell 7
            have cT_8 : wr.cell? ⟨gT, 8, none⟩ = some (.int .i64 0) := T.out.cell 8
            have cT_9 : wr.cell? ⟨gT, 9, none⟩ = some (.bool (decide (x.b % 2 = 1))) := T.out.cell 9
            have cS_0 : wr.cell? ⟨gS, 0, none⟩ = some (.slice A0 k c0) := S.out.cell 0
            have fS_0 := S.out.free 0
            go_upto_region 39 with fail
            have hbase : gS + 1 ≤ wr.heap.size := S.out.here
            go_wp2_with (at_builtin; refine wpList_append_lie rfl _ _ _ rfl (gS + 1) 67 _ 10 120 Try.underlying29 info_typ rfl (by decide) (.slice A0 k c0) k cs rfl O.out.now [.int .i64 4, .string ⟨(typName k).toArray⟩, .int .i64 0, .int .i64 0, .int .i64 0, .slice A5 l.length c5, .slice none 0 0, .int .i64 0, .int .i64 0, .bool (decide (x.b % 2 = 1))] _ 1 _ rfl rfl rfl (by simp [Value.oneCell']) (by omega) (by omega) hbase ?_; intro g cap w3 hown3 hg3 hgat hb3; have cS_0 : w3.cell? ⟨gS, 0, none⟩ = some (.slice A0 k c0) := (S.out.below hb3 (by omega)).cell 0; have fS_0 := (S.out.below hb3 (by omega)).free 0)
            have hgsep : (Value.slice (some ⟨g, 0, none⟩) (k + 1) cap).ownBlock = (Value.slice A0 k c0).ownBlock ∨ (Value.slice (some ⟨g, 0, none⟩) (k + 1) cap).ownBlock = some (wr.heap.size + 1) := by
              rcases hgat with h | h
              · left; rw [h]; rfl
              · right; rw [h]; rfl
            have hty := TypsOwn.snoc _ _ ({ typ0 with kind := 4, name := typName k, opn := decide (x.b % 2 = 1), syms := l.map fun a => (a, nm1 115 a) }) _ _ TO.out.now ⟨HSY.out, World.ownsRow_nil _ _ _ _⟩ hss (.inl rfl) HTP.out
            have hty2 := hty.grown hg3 (Nat.le_succ _) hgsep
            clear hty hg3 hgat hgsep
            clear cT_0 cT_1 cT_2 cT_3 cT_4 cT_5 cT_6 cT_7 cT_8 cT_9 cS_0 fS_0
            clear T
            clear X
            clear O
            clear TO
            replace D := Lib.hid (D.out.below hb3 (show w.heap.size < gS + 1 by omega))
            replace R := Lib.hid (R.out.below hb3 (show w.heap.size + 1 < gS + 1 by omega))
            replace S := Lib.hid (S.out.below hb3 (show gS < gS + 1 by omega))
            replace hw := hw.trans (hb3.mono (show w.heap.size ≤ gS + 1 by omega))
            have O2 := Lib.hid (Kept.own hown3)
            have TO2 := Lib.hid (Kept.typs hty2)
            clear hown3 hty2
            replace D := Lib.hid (D.out.far (p := ⟨gS, 0, none⟩) (show w.heap.size ≠ gS by omega) (.slice (some ⟨g, 0, none⟩) (k + 1) cap))
            replace R := Lib.hid (R.out.far (p := ⟨gS, 0, none⟩) (show w.heap.size + 1 ≠ gS by omega) (.slice (some ⟨g, 0, none⟩) (k + 1) cap))
            replace S : Hid (Has (w3.setCell ⟨gS, 0, none⟩ (.slice (some ⟨g, 0, none⟩) (k + 1) cap)) (gS) 31 #[.slice (some ⟨g, 0, none⟩) (k + 1) cap]) := Lib.hid (by have h := S.out.set 0 (.slice (some ⟨g, 0, none⟩) (k + 1) cap); simpa using h)
            replace O2 := Lib.hid (O2.out.set (gS) (show w3.heap.size ≤ gS ∨ gS < gS + 1 by omega) 0 (.slice (some ⟨g, 0, none⟩) (k + 1) cap))
            replace TO2 := Lib.hid (TO2.out.set (gS) (show w3.heap.size ≤ gS ∨ gS < gS + 1 by omega) 0 (.slice (some ⟨g, 0, none⟩) (k + 1) cap))
            replace hw := below_set hw (show w.heap.size ≤ gS by omega) 0 (.slice (some ⟨g, 0, none⟩) (k + 1) cap)
            generalize w3.setCell ⟨gS, 0, none⟩ (.slice (some ⟨g, 0, none⟩) (k + 1) cap) = wd337 at *
            go_wp2_with fail
            go_roundw
            case rel => exact ⟨k + 1, by omega, by go_num, _, _, D.out, R.out, S.out, O2.out.now, by rw [HTK.out]; exact TO2.out.now, hw⟩
            case measure => simp [intOf]; omega
      · skip
        rw [hkq] at hki
        have HI := Lib.hid hki
        have hty0 : typN xs k x = { typ0 with kind := 5, name := typName k, mems := partsN xs k true x.parts } := by unfold typN; simp [hkq, namedB]
        rw [hty0] at htk
        have HTK := Lib.hid htk
        have HTP : Hid (TypPlain { typ0 with kind := 5, name := typName k, mems := partsN xs k true x.parts }) := by have := typN_plain xs k x h5.2 hlt; rw [hty0] at this; exact this
        clear hki htk hty0 hkr hkq
        have cD_0 : wr.cell? ⟨w.heap.size, 0, none⟩ = some (.slice (some ⟨b, o, none⟩) xs.length c) := D.out.cell 0
        go_upto_region 9 with fail
        clear cD_0
        have hb338 := below_al (Below.refl wr.heap.size wr) (Nat.le_refl _) (.cells #[.int .u8 x.kind, .int .u8 x.a, .int .u8 x.b, .int .u8 x.c, .slice P0 x.parts.length cp] 62)
        have X := Has.made wr 62 #[.int .u8 x.kind, .int .u8 x.a, .int .u8 x.b, .int .u8 x.c, .slice P0 x.parts.length cp]
        have hl340 := D.out.here
        have hl341 := R.out.here
        have hl342 := S.out.here
        have hl343 := O.out.le
        have hl344 := TO.out.le
        have hl345 := hw.size
        replace D := Lib.hid (D.out.below hb338 D.out.here)
        replace R := Lib.hid (R.out.below hb338 R.out.here)
        replace S := Lib.hid (S.out.below hb338 S.out.here)
        replace O := Lib.hid (O.out.on hb338)
        replace TO := Lib.hid (TO.out.on hb338)
        replace hw := hw.trans (hb338.mono hw.size)
        replace X := Lib.hid X
        clear hb338
        generalize (wr.alloc (.cells #[.int .u8 x.kind, .int .u8 x.a, .int .u8 x.b, .int .u8 x.c, .slice P0 x.parts.length cp] 62)) = wd346 at *
        generalize wr.heap.size = g339 at *
        clear n0 n1 n2 n3 n4
        have cD_0 : wd346.cell? ⟨w.heap.size, 0, none⟩ = some (.slice (some ⟨b, o, none⟩) xs.length c) := D.out.cell 0
        go_wp2_with fail
        clear cD_0
        ((with_reducible refine (HI.out _ (HR.out.on hw)).mono ?_); rintro e wd347 ⟨rfl, hb348⟩)
        replace D := Lib.hid (D.out.below hb348 D.out.here)
        replace R := Lib.hid (R.out.below hb348 R.out.here)
        replace S := Lib.hid (S.out.below hb348 S.out.here)
        replace X := Lib.hid (X.out.below hb348 X.out.here)
        replace O := Lib.hid (O.out.on hb348)
        replace TO := Lib.hid (TO.out.on hb348)
        replace hw := hw.trans (hb348.mono hw.size)
        clear hb348
        go_upto_region 10 with fail
        have hb349 := below_al (Below.refl wd347.heap.size wd347) (Nat.le_refl _) (.cells #[.int .i64 5, .string ⟨#[]⟩, .int .i64 0, .int .i64 0, .int .i64 0, .slice none 0 0, .slice none 0 0, .int .i64 0, .int .i64 0, .bool false] 67)
        have T := Has.made wd347 67 #[.int .i64 5, .string ⟨#[]⟩, .int .i64 0, .int .i64 0, .int .i64 0, .slice none 0 0, .slice none 0 0, .int .i64 0, .int .i64 0, .bool false]
        have hl351 := D.out.here
        have hl352 := R.out.here
        have hl353 := S.out.here
        have hl354 := X.out.here
        have hl355 := O.out.le
        have hl356 := TO.out.le
        have hl357 := hw.size
        replace D := Lib.hid (D.out.below hb349 D.out.here)
        replace R := Lib.hid (R.out.below hb349 R.out.here)
        replace S := Lib.hid (S.out.below hb349 S.out.here)
        replace X := Lib.hid (X.out.below hb349 X.out.here)
        replace O := Lib.hid (O.out.on hb349)
        replace TO := Lib.hid (TO.out.on hb349)
        replace hw := hw.trans (hb349.mono hw.size)
        replace T := Lib.hid T
        clear hb349
        generalize (wd347.alloc (.cells #[.int .i64 5, .string ⟨#[]⟩, .int .i64 0, .int .i64 0, .int .i64 0, .slice none 0 0, .slice none 0 0, .int .i64 0, .int .i64 0, .bool false] 67)) = wd358 at *
        generalize wd347.heap.size = g350 at *
        have cT_0 : wd358.cell? ⟨g350, 0, none⟩ = some (.int .i64 5) := T.out.cell 0
        go_wp2_with fail
        clear cT_0
        ((with_reducible refine (named_any _ _).mono ?_); rintro e wd359 ⟨rfl, rfl⟩)
        rw [show namedB 5 = true from rfl]
        obtain ⟨q, hq, Hq⟩ : ∃ q : Nat, 65 + (k : Int) = (q : Int) ∧ Hid (q = 65 + k) := ⟨65 + k, by omega, rfl⟩
        have hqb : (q : Int) < 128 := by have := Hq.out; omega
        have cT_0 : wd358.cell? ⟨g350, 0, none⟩ = some (.int .i64 5) := T.out.cell 0
        have cT_1 : wd358.cell? ⟨g350, 1, none⟩ = some (.string ⟨#[]⟩) := T.out.cell 1
        have fT_1 := T.out.free 1
        go_upto_region 12 with fail
        have hstr : Utf8.encode (q : Int) = { data := (typName k).toArray } := by rw [rune1 q (by omega), Hq.out]; rfl
        rw [hstr]
        clear hstr hqb Hq hq
        clear cT_0 cT_1 fT_1
        replace D := Lib.hid (D.out.far (p := ⟨g350, 1, none⟩) (show w.heap.size ≠ g350 by omega) (.string ⟨(typName k).toArray⟩))
        replace R := Lib.hid (R.out.far (p := ⟨g350, 1, none⟩) (show w.heap.size + 1 ≠ g350 by omega) (.string ⟨(typName k).toArray⟩))
        replace S := Lib.hid (S.out.far (p := ⟨g350, 1, none⟩) (show gS ≠ g350 by omega) (.string ⟨(typName k).toArray⟩))
        replace X := Lib.hid (X.out.far (p := ⟨g350, 1, none⟩) (show g339 ≠ g350 by omega) (.string ⟨(typName k).toArray⟩))
        replace T : Hid (Has (wd358.setCell ⟨g350, 1, none⟩ (.string ⟨(typName k).toArray⟩)) (g350) 67 #[.int .i64 5, .string ⟨(typName k).toArray⟩, .int .i64 0, .int .i64 0, .int .i64 0, .slice none 0 0, .slice none 0 0, .int .i64 0, .int .i64 0, .bool false]) := Lib.hid (by have h := T.out.set 1 (.string ⟨(typName k).toArray⟩); simpa using h)
        replace O := Lib.hid (O.out.set (g350) (show g339 ≤ g350 ∨ g350 < gS + 1 by omega) 1 (.string ⟨(typName k).toArray⟩))
        replace TO := Lib.hid (TO.out.set (g350) (show g339 ≤ g350 ∨ g350 < gS + 1 by omega) 1 (.string ⟨(typName k).toArray⟩))
        replace hw := below_set hw (show w.heap.size ≤ g350 by omega) 1 (.string ⟨(typName k).toArray⟩)
        generalize wd358.setCell ⟨g350, 1, none⟩ (.string ⟨(typName k).toArray⟩) = wd361 at *
        have cD_0 : wd361.cell? ⟨w.heap.size, 0, none⟩ = some (.slice (some ⟨b, o, none⟩) xs.length c) := D.out.cell 0
        have cT_0 : wd361.cell? ⟨g350, 0, none⟩ = some (.int .i64 5) := T.out.cell 0
        go_wp2_with fail
        have OB := Lib.hid O.out.now
        have hTl := T.out.here
        clear cD_0 cT_0
        ((with_reducible refine (HPA.out true _ (HR.out.on hw)).mono ?_); rintro e wd362 ⟨vm, rfl, hownm, hb363⟩)
        replace D := Lib.hid (D.out.below hb363 D.out.here)
        replace R := Lib.hid (R.out.below hb363 R.out.here)
        replace S := Lib.hid (S.out.below hb363 S.out.here)
        replace X := Lib.hid (X.out.below hb363 X.out.here)
        replace T := Lib.hid (T.out.below hb363 T.out.here)
        replace O := Lib.hid (O.out.on hb363)
        replace TO := Lib.hid (TO.out.on hb363)
        replace hw := hw.trans (hb363.mono hw.size)
        clear hb363
        have hsm : sepR vm (Value.slice A0 k c0).ownBlock := own_later OB.out hownm (Nat.le_refl _)
        replace hownm := own_base hownm (show g350 + 1 ≤ _ from hTl)
        have MO := Lib.hid (Kept.own hownm)
        obtain ⟨Am, cm, rfl⟩ := own_form hownm
        clear hownm OB hTl
        have cT_6 : wd362.cell? ⟨g350, 6, none⟩ = some (.slice none 0 0) := T.out.cell 6
        have fT_6 := T.out.free 6
        go_upto_region 39 with fail
        clear cT_6 fT_6
        replace D := Lib.hid (D.out.far (p := ⟨g350, 6, none⟩) (show w.heap.size ≠ g350 by omega) (.slice Am (partsN xs k true x.parts).length cm))
        replace R := Lib.hid (R.out.far (p := ⟨g350, 6, none⟩) (show w.heap.size + 1 ≠ g350 by omega) (.slice Am (partsN xs k true x.parts).length cm))
        replace S := Lib.hid (S.out.far (p := ⟨g350, 6, none⟩) (show gS ≠ g350 by omega) (.slice Am (partsN xs k true x.parts).length cm))
        replace X := Lib.hid (X.out.far (p := ⟨g350, 6, none⟩) (show g339 ≠ g350 by omega) (.slice Am (partsN xs k true x.parts).length cm))
        replace T : Hid (Has (wd362.setCell ⟨g350, 6, none⟩ (.slice Am (partsN xs k true x.parts).length cm)) (g350) 67 #[.int .i64 5, .string ⟨(typName k).toArray⟩, .int .i64 0, .int .i64 0, .int .i64 0, .slice none 0 0, .slice Am (partsN xs k true x.parts).length cm, .int .i64 0, .int .i64 0, .bool false]) := Lib.hid (by have h := T.out.set 6 (.slice Am (partsN xs k true x.parts).length cm); simpa using h)
        replace O := Lib.hid (O.out.set (g350) (show g339 ≤ g350 ∨ g350 < gS + 1 by omega) 6 (.slice Am (partsN xs k true x.parts).length cm))
        replace TO := Lib.hid (TO.out.set (g350) (show g339 ≤ g350 ∨ g350 < gS + 1 by omega) 6 (.slice Am (partsN xs k true x.parts).length cm))
        replace MO := Lib.hid (MO.out.set (g350) (show wd362.heap.size ≤ g350 ∨ g350 < g350 + 1 by omega) 6 (.slice Am (partsN xs k true x.parts).length cm))
        replace hw := below_set hw (show w.heap.size ≤ g350 by omega) 6 (.slice Am (partsN xs k true x.parts).length cm)
        generalize wd362.setCell ⟨g350, 6, none⟩ (.slice Am (partsN xs k true x.parts).length cm) = wd364 at *
        have HME := Lib.hid (own_base MO.out.now (show gS + 1 ≤ g350 + 1 by omega))
        clear MO
        have cT_0 : wd364.cell? ⟨g350, 0, none⟩ = some (.int .i64 5) := T.out.cell 0
        have cT_1 : wd364.cell? ⟨g350, 1, none⟩ = some (.string ⟨(typName k).toArray⟩) := T.out.cell 1
        have cT_2 : wd364.cell? ⟨g350, 2, none⟩ = some (.int .i64 0) := T.out.cell 2
        have cT_3 : wd364.cell? ⟨g350, 3, none⟩ = some (.int .i64 0) := T.out.cell 3
        have cT_4 : wd364.cell? ⟨g350, 4, none⟩ = some (.int .i64 0) := T.out.cell 4
        have cT_5 : wd364.cell? ⟨g350, 5, none⟩ = some (.slice none 0 0) := T.out.cell 5
        have cT_6 : wd364.cell? ⟨g350, 6, none⟩ = some (.slice Am (partsN xs k true x.parts).length cm) := T.out.cell 6
        have cT_7 : wd364.cell? ⟨g350, 7, none⟩ = some (.int .i64 0) := T.out.cell 7
        have cT_8 : wd364.cell? ⟨g350, 8, none⟩ = some (.int .i64 0) := T.out.cell 8
        have cT_9 : wd364.cell? ⟨g350, 9, none⟩ = some (.bool false) := T.out.cell 9
        have cS_0 : wd364.cell? ⟨gS, 0, none⟩ = some (.slice A0 k c0) := S.out.cell 0
        have fS_0 := S.out.free 0
        go_upto_region 39 with fail
        have hbase : gS + 1 ≤ wd364.heap.size := S.out.here
        go_wp2_with (at_builtin; refine wpList_append_lie rfl _ _ _ rfl (gS + 1) 67 _ 10 120 Try.underlying29 info_typ rfl (by decide) (.slice A0 k c0) k cs rfl O.out.now [.int .i64 5, .string ⟨(typName k).toArray⟩, .int .i64 0, .int .i64 0, .int .i64 0, .slice none 0 0, .slice Am (partsN xs k true x.parts).length cm, .int .i64 0, .int .i64 0, .bool false] _ 1 _ rfl rfl rfl (by simp [Value.oneCell']) (by omega) (by omega) hbase ?_; intro g cap w3 hown3 hg3 hgat hb3; have cS_0 : w3.cell? ⟨gS, 0, none⟩ = some (.slice A0 k c0) := (S.out.below hb3 (by omega)).cell 0; have fS_0 := (S.out.below hb3 (by omega)).free 0)
        have hgsep : (Value.slice (some ⟨g, 0, none⟩) (k + 1) cap).ownBlock = (Value.slice A0 k c0).ownBlock ∨ (Value.slice (some ⟨g, 0, none⟩) (k + 1) cap).ownBlock = some (wd364.heap.size + 1) := by
          rcases hgat with h | h
          · left; rw [h]; rfl
          · right; rw [h]; rfl
        have hty := TypsOwn.snoc _ _ ({ typ0 with kind := 5, name := typName k, mems := partsN xs k true x.parts }) _ _ TO.out.now ⟨World.ownsRow_nil _ _ _ _, HME.out⟩ (.inl rfl) hsm HTP.out
        have hty2 := hty.grown hg3 (Nat.le_succ _) hgsep
        clear hty hg3 hgat hgsep
        clear cT_0 cT_1 cT_2 cT_3 cT_4 cT_5 cT_6 cT_7 cT_8 cT_9 cS_0 fS_0
        clear T
        clear X
        clear O
        clear TO
        replace D := Lib.hid (D.out.below hb3 (show w.heap.size < gS + 1 by omega))
        replace R := Lib.hid (R.out.below hb3 (show w.heap.size + 1 < gS + 1 by omega))
        replace S := Lib.hid (S.out.below hb3 (show gS < gS + 1 by omega))
        replace hw := hw.trans (hb3.mono (show w.heap.size ≤ gS + 1 by omega))
        have O2 := Lib.hid (Kept.own hown3)
        have TO2 := Lib.hid (Kept.typs hty2)
        clear hown3 hty2
        replace D := Lib.hid (D.out.far (p := ⟨gS, 0, none⟩) (show w.heap.size ≠ gS by omega) (.slice (some ⟨g, 0, none⟩) (k + 1) cap))
        replace R := Lib.hid (R.out.far (p := ⟨gS, 0, none⟩) (show w.heap.size + 1 ≠ gS by omega) (.slice (some ⟨g, 0, none⟩) (k + 1) cap))
        replace S : Hid (Has (w3.setCell ⟨gS, 0, none⟩ (.slice (some ⟨g, 0, none⟩) (k + 1) cap)) (gS) 31 #[.slice (some ⟨g, 0, none⟩) (k + 1) cap]) := Lib.hid (by have h := S.out.set 0 (.slice (some ⟨g, 0, none⟩) (k + 1) cap); simpa using h)
        replace O2 := Lib.hid (O2.out.set (gS) (show w3.heap.size ≤ gS ∨ gS < gS + 1 by omega) 0 (.slice (some ⟨g, 0, none⟩) (k + 1) cap))
        replace TO2 := Lib.hid (TO2.out.set (gS) (show w3.heap.size ≤ gS ∨ gS < gS + 1 by omega) 0 (.slice (some ⟨g, 0, none⟩) (k + 1) cap))
        replace hw := below_set hw (show w.heap.size ≤ gS by omega) 0 (.slice (some ⟨g, 0, none⟩) (k + 1) cap)
        generalize w3.setCell ⟨gS, 0, none⟩ (.slice (some ⟨g, 0, none⟩) (k + 1) cap) = wd365 at *
        go_wp2_with fail
        go_roundw
        case rel => exact ⟨k + 1, by omega, by go_num, _, _, D.out, R.out, S.out, O2.out.now, by rw [HTK.out]; exact TO2.out.now, hw⟩
        case measure => simp [intOf]; omega
      · skip
        have tb : ((x.b : Int) % 2 == 1) = decide (x.b % 2 = 1) := by rw [Bool.eq_iff_iff]; simp; omega
        have hxb : (x.b : Int) < 256 := by omega
        by_cases hpe : (partsN xs k false x.parts).isEmpty = true
        · skip
          rw [hkq] at hki
          have HI := Lib.hid hki
          have hty0 : typN xs k x = { typ0 with kind := 5, name := typName k } := by unfold typN; simp [hkq, namedB, hpe]
          rw [hty0] at htk
          have HTK := Lib.hid htk
          have HTP : Hid (TypPlain { typ0 with kind := 5, name := typName k }) := by have := typN_plain xs k x h5.2 hlt; rw [hty0] at this; exact this
          clear hki htk hty0 hkr hkq
          have hpf := fun W h => HPA.out false W h
          rw [List.isEmpty_iff.1 hpe] at hpf
          have HPF := Lib.hid hpf
          clear hpf hpe
          have cD_0 : wr.cell? ⟨w.heap.size, 0, none⟩ = some (.slice (some ⟨b, o, none⟩) xs.length c) := D.out.cell 0
          go_upto_region 9 with fail
          clear cD_0
          have hb366 := below_al (Below.refl wr.heap.size wr) (Nat.le_refl _) (.cells #[.int .u8 x.kind, .int .u8 x.a, .int .u8 x.b, .int .u8 x.c, .slice P0 x.parts.length cp] 62)
          have X := Has.made wr 62 #[.int .u8 x.kind, .int .u8 x.a, .int .u8 x.b, .int .u8 x.c, .slice P0 x.parts.length cp]
          have hl368 := D.out.here
          have hl369 := R.out.here
          have hl370 := S.out.here
          have hl371 := O.out.le
          have hl372 := TO.out.le
          have hl373 := hw.size
          replace D := Lib.hid (D.out.below hb366 D.out.here)
          replace R := Lib.hid (R.out.below hb366 R.out.here)
          replace S := Lib.hid (S.out.below hb366 S.out.here)
          replace O := Lib.hid (O.out.on hb366)
          replace TO := Lib.hid (TO.out.on hb366)
          replace hw := hw.trans (hb366.mono hw.size)
          replace X := Lib.hid X
          clear hb366
          generalize (wr.alloc (.cells #[.int .u8 x.kind, .int .u8 x.a, .int .u8 x.b, .int .u8 x.c, .slice P0 x.parts.length cp] 62)) = wd374 at *
          generalize wr.heap.size = g367 at *
          clear n0 n1 n2 n3 n4
          have cD_0 : wd374.cell? ⟨w.heap.size, 0, none⟩ = some (.slice (some ⟨b, o, none⟩) xs.length c) := D.out.cell 0
          go_wp2_with fail
          clear cD_0
          ((with_reducible refine (HI.out _ (HR.out.on hw)).mono ?_); rintro e wd375 ⟨rfl, hb376⟩)
          replace D := Lib.hid (D.out.below hb376 D.out.here)
          replace R := Lib.hid (R.out.below hb376 R.out.here)
          replace S := Lib.hid (S.out.below hb376 S.out.here)
          replace X := Lib.hid (X.out.below hb376 X.out.here)
          replace O := Lib.hid (O.out.on hb376)
          replace TO := Lib.hid (TO.out.on hb376)
          replace hw := hw.trans (hb376.mono hw.size)
          clear hb376
          go_upto_region 10 with fail
          have hb377 := below_al (Below.refl wd375.heap.size wd375) (Nat.le_refl _) (.cells #[.int .i64 6, .string ⟨#[]⟩, .int .i64 0, .int .i64 0, .int .i64 0, .slice none 0 0, .slice none 0 0, .int .i64 0, .int .i64 0, .bool false] 67)
          have T := Has.made wd375 67 #[.int .i64 6, .string ⟨#[]⟩, .int .i64 0, .int .i64 0, .int .i64 0, .slice none 0 0, .slice none 0 0, .int .i64 0, .int .i64 0, .bool false]
          have hl379 := D.out.here
          have hl380 := R.out.here
          have hl381 := S.out.here
          have hl382 := X.out.here
          have hl383 := O.out.le
          have hl384 := TO.out.le
          have hl385 := hw.size
          replace D := Lib.hid (D.out.below hb377 D.out.here)
          replace R := Lib.hid (R.out.below hb377 R.out.here)
          replace S := Lib.hid (S.out.below hb377 S.out.here)
          replace X := Lib.hid (X.out.below hb377 X.out.here)
          replace O := Lib.hid (O.out.on hb377)
          replace TO := Lib.hid (TO.out.on hb377)
          replace hw := hw.trans (hb377.mono hw.size)
          replace T := Lib.hid T
          clear hb377
          generalize (wd375.alloc (.cells #[.int .i64 6, .string ⟨#[]⟩, .int .i64 0, .int .i64 0, .int .i64 0, .slice none 0 0, .slice none 0 0, .int .i64 0, .int .i64 0, .bool false] 67)) = wd386 at *
          generalize wd375.heap.size = g378 at *
          have cT_0 : wd386.cell? ⟨g378, 0, none⟩ = some (.int .i64 6) := T.out.cell 0
          go_wp2_with fail
          clear cT_0
          ((with_reducible refine (named_any _ _).mono ?_); rintro e wd387 ⟨rfl, rfl⟩)
          rw [show namedB 6 = true from rfl]
          obtain ⟨q, hq, Hq⟩ : ∃ q : Nat, 65 + (k : Int) = (q : Int) ∧ Hid (q = 65 + k) := ⟨65 + k, by omega, rfl⟩
          have hqb : (q : Int) < 128 := by have := Hq.out; omega
          have cT_0 : wd386.cell? ⟨g378, 0, none⟩ = some (.int .i64 6) := T.out.cell 0
          have cT_1 : wd386.cell? ⟨g378, 1, none⟩ = some (.string ⟨#[]⟩) := T.out.cell 1
          have fT_1 := T.out.free 1
          go_upto_region 12 with fail
          have hstr : Utf8.encode (q : Int) = { data := (typName k).toArray } := by rw [rune1 q (by omega), Hq.out]; rfl
          rw [hstr]
          clear hstr hqb Hq hq
          clear cT_0 cT_1 fT_1
          replace D := Lib.hid (D.out.far (p := ⟨g378, 1, none⟩) (show w.heap.size ≠ g378 by omega) (.string ⟨(typName k).toArray⟩))
          replace R := Lib.hid (R.out.far (p := ⟨g378, 1, none⟩) (show w.heap.size + 1 ≠ g378 by omega) (.string ⟨(typName k).toArray⟩))
          replace S := Lib.hid (S.out.far (p := ⟨g378, 1, none⟩) (show gS ≠ g378 by omega) (.string ⟨(typName k).toArray⟩))
          replace X := Lib.hid (X.out.far (p := ⟨g378, 1, none⟩) (show g367 ≠ g378 by omega) (.string ⟨(typName k).toArray⟩))
          replace T : Hid (Has (wd386.setCell ⟨g378, 1, none⟩ (.string ⟨(typName k).toArray⟩)) (g378) 67 #[.int .i64 6, .string ⟨(typName k).toArray⟩, .int .i64 0, .int .i64 0, .int .i64 0, .slice none 0 0, .slice none 0 0, .int .i64 0, .int .i64 0, .bool false]) := Lib.hid (by have h := T.out.set 1 (.string ⟨(typName k).toArray⟩); simpa using h)
          replace O := Lib.hid (O.out.set (g378) (show g367 ≤ g378 ∨ g378 < gS + 1 by omega) 1 (.string ⟨(typName k).toArray⟩))
          replace TO := Lib.hid (TO.out.set (g378) (show g367 ≤ g378 ∨ g378 < gS + 1 by omega) 1 (.string ⟨(typName k).toArray⟩))
          replace hw := below_set hw (show w.heap.size ≤ g378 by omega) 1 (.string ⟨(typName k).toArray⟩)
          generalize wd386.setCell ⟨g378, 1, none⟩ (.string ⟨(typName k).toArray⟩) = wd389 at *
          have cT_0 : wd389.cell? ⟨g378, 0, none⟩ = some (.int .i64 6) := T.out.cell 0
          have cT_9 : wd389.cell? ⟨g378, 9, none⟩ = some (.bool false) := T.out.cell 9
          have cX_2 : wd389.cell? ⟨g367, 2, none⟩ = some (.int .u8 x.b) := X.out.cell 2
          have fT_9 := T.out.free 9
          go_upto_region 28 with fail
          clear cT_0 cT_9 cX_2 fT_9
          replace D := Lib.hid (D.out.far (p := ⟨g378, 9, none⟩) (show w.heap.size ≠ g378 by omega) (.bool (decide (x.b % 2 = 1))))
          replace R := Lib.hid (R.out.far (p := ⟨g378, 9, none⟩) (show w.heap.size + 1 ≠ g378 by omega) (.bool (decide (x.b % 2 = 1))))
          replace S := Lib.hid (S.out.far (p := ⟨g378, 9, none⟩) (show gS ≠ g378 by omega) (.bool (decide (x.b % 2 = 1))))
          replace X := Lib.hid (X.out.far (p := ⟨g378, 9, none⟩) (show g367 ≠ g378 by omega) (.bool (decide (x.b % 2 = 1))))
          replace T : Hid (Has (wd389.setCell ⟨g378, 9, none⟩ (.bool (decide (x.b % 2 = 1)))) (g378) 67 #[.int .i64 6, .string ⟨(typName k).toArray⟩, .int .i64 0, .int .i64 0, .int .i64 0, .slice none 0 0, .slice none 0 0, .int .i64 0, .int .i64 0, .bool (decide (x.b % 2 = 1))]) := Lib.hid (by have h := T.out.set 9 (.bool (decide (x.b % 2 = 1))); simpa using h)
          replace O := Lib.hid (O.out.set (g378) (show g367 ≤ g378 ∨ g378 < gS + 1 by omega) 9 (.bool (decide (x.b % 2 = 1))))
          replace TO := Lib.hid (TO.out.set (g378) (show g367 ≤ g378 ∨ g378 < gS + 1 by omega) 9 (.bool (decide (x.b % 2 = 1))))
          replace hw := below_set hw (show w.heap.size ≤ g378 by omega) 9 (.bool (decide (x.b % 2 = 1)))
          generalize wd389.setCell ⟨g378, 9, none⟩ (.bool (decide (x.b % 2 = 1))) = wd390 at *
          have cD_0 : wd390.cell? ⟨w.heap.size, 0, none⟩ = some (.slice (some ⟨b, o, none⟩) xs.length c) := D.out.cell 0
          have cT_0 : wd390.cell? ⟨g378, 0, none⟩ = some (.int .i64 6) := T.out.cell 0
          go_wp2_with fail
          have OB := Lib.hid O.out.now
          have hTl := T.out.here
          clear cD_0 cT_0
          ((with_reducible refine (HPF.out _ (HR.out.on hw)).mono ?_); rintro e wd391 ⟨vm, rfl, hownm, hb392⟩)
          replace D := Lib.hid (D.out.below hb392 D.out.here)
          replace R := Lib.hid (R.out.below hb392 R.out.here)
          replace S := Lib.hid (S.out.below hb392 S.out.here)
          replace X := Lib.hid (X.out.below hb392 X.out.here)
          replace T := Lib.hid (T.out.below hb392 T.out.here)
          replace O := Lib.hid (O.out.on hb392)
          replace TO := Lib.hid (TO.out.on hb392)
          replace hw := hw.trans (hb392.mono hw.size)
          clear hb392
          have hsm : sepR vm (Value.slice A0 k c0).ownBlock := own_later OB.out hownm (Nat.le_refl _)
          replace hownm := own_base hownm (show g378 + 1 ≤ _ from hTl)
          have MO := Lib.hid (Kept.own hownm)
          obtain ⟨Am, cm, rfl⟩ : ∃ A c, vm = .slice A 0 c := own_form hownm
          clear hownm OB hTl
          have cT_6 : wd391.cell? ⟨g378, 6, none⟩ = some (.slice none 0 0) := T.out.cell 6
          have fT_6 := T.out.free 6
          go_upto_region 29 with fail
          clear cT_6 fT_6
          replace D := Lib.hid (D.out.far (p := ⟨g378, 6, none⟩) (show w.heap.size ≠ g378 by omega) (.slice Am 0 cm))
          replace R := Lib.hid (R.out.far (p := ⟨g378, 6, none⟩) (show w.heap.size + 1 ≠ g378 by omega) (.slice Am 0 cm))
          replace S := Lib.hid (S.out.far (p := ⟨g378, 6, none⟩) (show gS ≠ g378 by omega) (.slice Am 0 cm))
          replace X := Lib.hid (X.out.far (p := ⟨g378, 6, none⟩) (show g367 ≠ g378 by omega) (.slice Am 0 cm))
          replace T : Hid (Has (wd391.setCell ⟨g378, 6, none⟩ (.slice Am 0 cm)) (g378) 67 #[.int .i64 6, .string ⟨(typName k).toArray⟩, .int .i64 0, .int .i64 0, .int .i64 0, .slice none 0 0, .slice Am 0 cm, .int .i64 0, .int .i64 0, .bool (decide (x.b % 2 = 1))]) := Lib.hid (by have h := T.out.set 6 (.slice Am 0 cm); simpa using h)
          replace O := Lib.hid (O.out.set (g378) (show g367 ≤ g378 ∨ g378 < gS + 1 by omega) 6 (.slice Am 0 cm))
          replace TO := Lib.hid (TO.out.set (g378) (show g367 ≤ g378 ∨ g378 < gS + 1 by omega) 6 (.slice Am 0 cm))
          replace MO := Lib.hid (MO.out.set (g378) (show wd391.heap.size ≤ g378 ∨ g378 < g378 + 1 by omega) 6 (.slice Am 0 cm))
          replace hw := below_set hw (show w.heap.size ≤ g378 by omega) 6 (.slice Am 0 cm)
          generalize wd391.setCell ⟨g378, 6, none⟩ (.slice Am 0 cm) = wd393 at *
          clear MO
          clear hsm
          have cT_6 : wd393.cell? ⟨g378, 6, none⟩ = some (.slice Am 0 cm) := T.out.cell 6
          have cT_1 : wd393.cell? ⟨g378, 1, none⟩ = some (.string ⟨(typName k).toArray⟩) := T.out.cell 1
          go_upto_region 30 with fail
          go_upto_region 39 with (refine wpList_store_row rfl 67 _ _ rfl (g378) _ rfl rfl 67 _ T.out (by kernel_rfl) rfl (by simp [Value.oneCell']) ?_)
          clear cT_6 cT_1
          replace D := Lib.hid (has_row (cs' := #[.int .i64 5, .string ⟨(typName k).toArray⟩, .int .i64 0, .int .i64 0, .int .i64 0, .slice none 0 0, .slice none 0 0, .int .i64 0, .int .i64 0, .bool false]) D.out (show w.heap.size ≠ g378 by omega))
          replace R := Lib.hid (has_row (cs' := #[.int .i64 5, .string ⟨(typName k).toArray⟩, .int .i64 0, .int .i64 0, .int .i64 0, .slice none 0 0, .slice none 0 0, .int .i64 0, .int .i64 0, .bool false]) R.out (show w.heap.size + 1 ≠ g378 by omega))
          replace S := Lib.hid (has_row (cs' := #[.int .i64 5, .string ⟨(typName k).toArray⟩, .int .i64 0, .int .i64 0, .int .i64 0, .slice none 0 0, .slice none 0 0, .int .i64 0, .int .i64 0, .bool false]) S.out (show gS ≠ g378 by omega))
          replace X := Lib.hid (has_row (cs' := #[.int .i64 5, .string ⟨(typName k).toArray⟩, .int .i64 0, .int .i64 0, .int .i64 0, .slice none 0 0, .slice none 0 0, .int .i64 0, .int .i64 0, .bool false]) X.out (show g367 ≠ g378 by omega))
          replace T : Hid (Has (wd393.setRow (g378) #[.int .i64 5, .string ⟨(typName k).toArray⟩, .int .i64 0, .int .i64 0, .int .i64 0, .slice none 0 0, .slice none 0 0, .int .i64 0, .int .i64 0, .bool false]) (g378) 67 #[.int .i64 5, .string ⟨(typName k).toArray⟩, .int .i64 0, .int .i64 0, .int .i64 0, .slice none 0 0, .slice none 0 0, .int .i64 0, .int .i64 0, .bool false]) := Lib.hid (row_has T.out _)
          replace O := Lib.hid (O.out.row (g378) (show g367 ≤ g378 ∨ g378 < gS + 1 by omega) #[.int .i64 5, .string ⟨(typName k).toArray⟩, .int .i64 0, .int .i64 0, .int .i64 0, .slice none 0 0, .slice none 0 0, .int .i64 0, .int .i64 0, .bool false])
          replace TO := Lib.hid (TO.out.row (g378) (show g367 ≤ g378 ∨ g378 < gS + 1 by omega) #[.int .i64 5, .string ⟨(typName k).toArray⟩, .int .i64 0, .int .i64 0, .int .i64 0, .slice none 0 0, .slice none 0 0, .int .i64 0, .int .i64 0, .bool false])
          replace hw := below_setRow hw (show w.heap.size ≤ g378 by omega) #[.int .i64 5, .string ⟨(typName k).toArray⟩, .int .i64 0, .int .i64 0, .int .i64 0, .slice none 0 0, .slice none 0 0, .int .i64 0, .int .i64 0, .bool false]
          generalize wd393.setRow (g378) #[.int .i64 5, .string ⟨(typName k).toArray⟩, .int .i64 0, .int .i64 0, .int .i64 0, .slice none 0 0, .slice none 0 0, .int .i64 0, .int .i64 0, .bool false] = wd394 at *
          have cT_0 : wd394.cell? ⟨g378, 0, none⟩ = some (.int .i64 5) := T.out.cell 0
          have cT_1 : wd394.cell? ⟨g378, 1, none⟩ = some (.string ⟨(typName k).toArray⟩) := T.out.cell 1
          have cT_2 : wd394.cell? ⟨g378, 2, none⟩ = some (.int .i64 0) := T.out.cell 2
          have cT_3 : wd394.cell? ⟨g378, 3, none⟩ = some (.int .i64 0) := T.out.cell 3
          have cT_4 : wd394.cell? ⟨g378, 4, none⟩ = some (.int .i64 0) := T.out.cell 4
          have cT_5 : wd394.cell? ⟨g378, 5, none⟩ = some (.slice none 0 0) := T.out.cell 5
          have cT_6 : wd394.cell? ⟨g378, 6, none⟩ = some (.slice none 0 0) := T.out.cell 6
          have cT_7 : wd394.cell? ⟨g378, 7, none⟩ = some (.int .i64 0) := T.out.cell 7
          have cT_8 : wd394.cell? ⟨g378, 8, none⟩ = some (.int .i64 0) := T.out.cell 8
          have cT_9 : wd394.cell? ⟨g378, 9, none⟩ = some (.bool false) := T.out.cell 9
          have cS_0 : wd394.cell? ⟨gS, 0, none⟩ = some (.slice A0 k c0) := S.out.cell 0
          have fS_0 := S.out.free 0
          go_upto_region 39 with fail
          have hbase : gS + 1 ≤ wd394.heap.size := S.out.here
          go_wp2_with (at_builtin; refine wpList_append_lie rfl _ _ _ rfl (gS + 1) 67 _ 10 120 Try.underlying29 info_typ rfl (by decide) (.slice A0 k c0) k cs rfl O.out.now [.int .i64 5, .string ⟨(typName k).toArray⟩, .int .i64 0, .int .i64 0, .int .i64 0, .slice none 0 0, .slice none 0 0, .int .i64 0, .int .i64 0, .bool false] _ 1 _ rfl rfl rfl (by simp [Value.oneCell']) (by omega) (by omega) hbase ?_; intro g cap w3 hown3 hg3 hgat hb3; have cS_0 : w3.cell? ⟨gS, 0, none⟩ = some (.slice A0 k c0) := (S.out.below hb3 (by omega)).cell 0; have fS_0 := (S.out.below hb3 (by omega)).free 0)
          have hgsep : (Value.slice (some ⟨g, 0, none⟩) (k + 1) cap).ownBlock = (Value.slice A0 k c0).ownBlock ∨ (Value.slice (some ⟨g, 0, none⟩) (k + 1) cap).ownBlock = some (wd394.heap.size + 1) := by
            rcases hgat with h | h
            · left; rw [h]; rfl
            · right; rw [h]; rfl
          have hty := TypsOwn.snoc _ _ ({ typ0 with kind := 5, name := typName k }) _ _ TO.out.now ⟨World.ownsRow_nil _ _ _ _, World.ownsRow_nil _ _ _ _⟩ (.inl rfl) (.inl rfl) HTP.out
          have hty2 := hty.grown hg3 (Nat.le_succ _) hgsep
          clear hty hg3 hgat hgsep
          clear cT_0 cT_1 cT_2 cT_3 cT_4 cT_5 cT_6 cT_7 cT_8 cT_9 cS_0 fS_0
          clear T
          clear X
          clear O
          clear TO
          replace D := Lib.hid (D.out.below hb3 (show w.heap.size < gS + 1 by omega))
          replace R := Lib.hid (R.out.below hb3 (show w.heap.size + 1 < gS + 1 by omega))
          replace S := Lib.hid (S.out.below hb3 (show gS < gS + 1 by omega))
          replace hw := hw.trans (hb3.mono (show w.heap.size ≤ gS + 1 by omega))
          have O2 := Lib.hid (Kept.own hown3)
          have TO2 := Lib.hid (Kept.typs hty2)
          clear hown3 hty2
          replace D := Lib.hid (D.out.far (p := ⟨gS, 0, none⟩) (show w.heap.size ≠ gS by omega) (.slice (some ⟨g, 0, none⟩) (k + 1) cap))
          replace R := Lib.hid (R.out.far (p := ⟨gS, 0, none⟩) (show w.heap.size + 1 ≠ gS by omega) (.slice (some ⟨g, 0, none⟩) (k + 1) cap))
          replace S : Hid (Has (w3.setCell ⟨gS, 0, none⟩ (.slice (some ⟨g, 0, none⟩) (k + 1) cap)) (gS) 31 #[.slice (some ⟨g, 0, none⟩) (k + 1) cap]) := Lib.hid (by have h := S.out.set 0 (.slice (some ⟨g, 0, none⟩) (k + 1) cap); simpa using h)
          replace O2 := Lib.hid (O2.out.set (gS) (show w3.heap.size ≤ gS ∨ gS < gS + 1 by omega) 0 (.slice (some ⟨g, 0, none⟩) (k + 1) cap))
          replace TO2 := Lib.hid (TO2.out.set (gS) (show w3.heap.size ≤ gS ∨ gS < gS + 1 by omega) 0 (.slice (some ⟨g, 0, none⟩) (k + 1) cap))
          replace hw := below_set hw (show w.heap.size ≤ gS by omega) 0 (.slice (some ⟨g, 0, none⟩) (k + 1) cap)
          generalize w3.setCell ⟨gS, 0, none⟩ (.slice (some ⟨g, 0, none⟩) (k + 1) cap) = wd395 at *
          go_wp2_with fail
          go_roundw
          case rel => exact ⟨k + 1, by omega, by go_num, _, _, D.out, R.out, S.out, O2.out.now, by rw [HTK.out]; exact TO2.out.now, hw⟩
          case measure => simp [intOf]; omega
        · skip
          rw [hkq] at hki
          have HI := Lib.hid hki
          have hty0 : typN xs k x = { typ0 with kind := 6, name := typName k, opn := decide (x.b % 2 = 1), mems := partsN xs k false x.parts } := by unfold typN; simp [hkq, namedB, hpe]
          rw [hty0] at htk
          have HTK := Lib.hid htk
          have HTP : Hid (TypPlain { typ0 with kind := 6, name := typName k, opn := decide (x.b % 2 = 1), mems := partsN xs k false x.parts }) := by have := typN_plain xs k x h5.2 hlt; rw [hty0] at this; exact this
          clear hki htk hty0 hkr hkq
          have hp0 : (((partsN xs k false x.parts).length : Int) == 0) = false := by
            refine beq_eq_false_iff_ne.2 ?_
            intro h
            apply hpe
            rw [List.isEmpty_iff]
            exact List.eq_nil_of_length_eq_zero (by omega)
          clear hpe
          have cD_0 : wr.cell? ⟨w.heap.size, 0, none⟩ = some (.slice (some ⟨b, o, none⟩) xs.length c) := D.out.cell 0
          go_upto_region 9 with fail
          clear cD_0
          have hb396 := below_al (Below.refl wr.heap.size wr) (Nat.le_refl _) (.cells #[.int .u8 x.kind, .int .u8 x.a, .int .u8 x.b, .int .u8 x.c, .slice P0 x.parts.length cp] 62)
          have X := Has.made wr 62 #[.int .u8 x.kind, .int .u8 x.a, .int .u8 x.b, .int .u8 x.c, .slice P0 x.parts.length cp]
          have hl398 := D.out.here
          have hl399 := R.out.here
          have hl400 := S.out.here
          have hl401 := O.out.le
          have hl402 := TO.out.le
          have hl403 := hw.size
          replace D := Lib.hid (D.out.below hb396 D.out.here)
          replace R := Lib.hid (R.out.below hb396 R.out.here)
          replace S := Lib.hid (S.out.below hb396 S.out.here)
          replace O := Lib.hid (O.out.on hb396)
          replace TO := Lib.hid (TO.out.on hb396)
          replace hw := hw.trans (hb396.mono hw.size)
          replace X := Lib.hid X
          clear hb396
          generalize (wr.alloc (.cells #[.int .u8 x.kind, .int .u8 x.a, .int .u8 x.b, .int .u8 x.c, .slice P0 x.parts.length cp] 62)) = wd404 at *
          generalize wr.heap.size = g397 at *
          clear n0 n1 n2 n3 n4
          have cD_0 : wd404.cell? ⟨w.heap.size, 0, none⟩ = some (.slice (some ⟨b, o, none⟩) xs.length c) := D.out.cell 0
          go_wp2_with fail
          clear cD_0
          ((with_reducible refine (HI.out _ (HR.out.on hw)).mono ?_); rintro e wd405 ⟨rfl, hb406⟩)
          replace D := Lib.hid (D.out.below hb406 D.out.here)
          replace R := Lib.hid (R.out.below hb406 R.out.here)
          replace S := Lib.hid (S.out.below hb406 S.out.here)
          replace X := Lib.hid (X.out.below hb406 X.out.here)
          replace O := Lib.hid (O.out.on hb406)
          replace TO := Lib.hid (TO.out.on hb406)
          replace hw := hw.trans (hb406.mono hw.size)
          clear hb406
          go_upto_region 10 with fail
          have hb407 := below_al (Below.refl wd405.heap.size wd405) (Nat.le_refl _) (.cells #[.int .i64 6, .string ⟨#[]⟩, .int .i64 0, .int .i64 0, .int .i64 0, .slice none 0 0, .slice none 0 0, .int .i64 0, .int .i64 0, .bool false] 67)
          have T := Has.made wd405 67 #[.int .i64 6, .string ⟨#[]⟩, .int .i64 0, .int .i64 0, .int .i64 0, .slice none 0 0, .slice none 0 0, .int .i64 0, .int .i64 0, .bool false]
          have hl409 := D.out.here
          have hl410 := R.out.here
          have hl411 := S.out.here
          have hl412 := X.out.here
          have hl413 := O.out.le
          have hl414 := TO.out.le
          have hl415 := hw.size
          replace D := Lib.hid (D.out.below hb407 D.out.here)
          replace R := Lib.hid (R.out.below hb407 R.out.here)
          replace S := Lib.hid (S.out.below hb407 S.out.here)
          replace X := Lib.hid (X.out.below hb407 X.out.here)
          replace O := Lib.hid (O.out.on hb407)
          replace TO := Lib.hid (TO.out.on hb407)
          replace hw := hw.trans (hb407.mono hw.size)
          replace T := Lib.hid T
          clear hb407
          generalize (wd405.alloc (.cells #[.int .i64 6, .string ⟨#[]⟩, .int .i64 0, .int .i64 0, .int .i64 0, .slice none 0 0, .slice none 0 0, .int .i64 0, .int .i64 0, .bool false] 67)) = wd416 at *
          generalize wd405.heap.size = g408 at *
          have cT_0 : wd416.cell? ⟨g408, 0, none⟩ = some (.int .i64 6) := T.out.cell 0
          go_wp2_with fail
          clear cT_0
          ((with_reducible refine (named_any _ _).mono ?_); rintro e wd417 ⟨rfl, rfl⟩)
          rw [show namedB 6 = true from rfl]
          obtain ⟨q, hq, Hq⟩ : ∃ q : Nat, 65 + (k : Int) = (q : Int) ∧ Hid (q = 65 + k) := ⟨65 + k, by omega, rfl⟩
          have hqb : (q : Int) < 128 := by have := Hq.out; omega
          have cT_0 : wd416.cell? ⟨g408, 0, none⟩ = some (.int .i64 6) := T.out.cell 0
          have cT_1 : wd416.cell? ⟨g408, 1, none⟩ = some (.string ⟨#[]⟩) := T.out.cell 1
          have fT_1 := T.out.free 1
          go_upto_region 12 with fail
          have hstr : Utf8.encode (q : Int) = { data := (typName k).toArray } := by rw [rune1 q (by omega), Hq.out]; rfl
          rw [hstr]
          clear hstr hqb Hq hq
          clear cT_0 cT_1 fT_1
          replace D := Lib.hid (D.out.far (p := ⟨g408, 1, none⟩) (show w.heap.size ≠ g408 by omega) (.string ⟨(typName k).toArray⟩))
          replace R := Lib.hid (R.out.far (p := ⟨g408, 1, none⟩) (show w.heap.size + 1 ≠ g408 by omega) (.string ⟨(typName k).toArray⟩))
          replace S := Lib.hid (S.out.far (p := ⟨g408, 1, none⟩) (show gS ≠ g408 by omega) (.string ⟨(typName k).toArray⟩))
          replace X := Lib.hid (X.out.far (p := ⟨g408, 1, none⟩) (show g397 ≠ g408 by omega) (.string ⟨(typName k).toArray⟩))
          replace T : Hid (Has (wd416.setCell ⟨g408, 1, none⟩ (.string ⟨(typName k).toArray⟩)) (g408) 67 #[.int .i64 6, .string ⟨(typName k).toArray⟩, .int .i64 0, .int .i64 0, .int .i64 0, .slice none 0 0, .slice none 0 0, .int .i64 0, .int .i64 0, .bool false]) := Lib.hid (by have h := T.out.set 1 (.string ⟨(typName k).toArray⟩); simpa using h)
          replace O := Lib.hid (O.out.set (g408) (show g397 ≤ g408 ∨ g408 < gS + 1 by omega) 1 (.string ⟨(typName k).toArray⟩))
          replace TO := Lib.hid (TO.out.set (g408) (show g397 ≤ g408 ∨ g408 < gS + 1 by omega) 1 (.string ⟨(typName k).toArray⟩))
          replace hw := below_set hw (show w.heap.size ≤ g408 by omega) 1 (.string ⟨(typName k).toArray⟩)
          generalize wd416.setCell ⟨g408, 1, none⟩ (.string ⟨(typName k).toArray⟩) = wd419 at *
          have cT_0 : wd419.cell? ⟨g408, 0, none⟩ = some (.int .i64 6) := T.out.cell 0
          have cT_9 : wd419.cell? ⟨g408, 9, none⟩ = some (.bool false) := T.out.cell 9
          have cX_2 : wd419.cell? ⟨g397, 2, none⟩ = some (.int .u8 x.b) := X.out.cell 2
          have fT_9 := T.out.free 9
          go_upto_region 28 with fail
          clear cT_0 cT_9 cX_2 fT_9
          replace D := Lib.hid (D.out.far (p := ⟨g408, 9, none⟩) (show w.heap.size ≠ g408 by omega) (.bool (decide (x.b % 2 = 1))))
          replace R := Lib.hid (R.out.far (p := ⟨g408, 9, none⟩) (show w.heap.size + 1 ≠ g408 by omega) (.bool (decide (x.b % 2 = 1))))
          replace S := Lib.hid (S.out.far (p := ⟨g408, 9, none⟩) (show gS ≠ g408 by omega) (.bool (decide (x.b % 2 = 1))))
          replace X := Lib.hid (X.out.far (p := ⟨g408, 9, none⟩) (show g397 ≠ g408 by omega) (.bool (decide (x.b % 2 = 1))))
          replace T : Hid (Has (wd419.setCell ⟨g408, 9, none⟩ (.bool (decide (x.b % 2 = 1)))) (g408) 67 #[.int .i64 6, .string ⟨(typName k).toArray⟩, .int .i64 0, .int .i64 0, .int .i64 0, .slice none 0 0, .slice none 0 0, .int .i64 0, .int .i64 0, .bool (decide (x.b % 2 = 1))]) := Lib.hid (by have h := T.out.set 9 (.bool (decide (x.b % 2 = 1))); simpa using h)
          replace O := Lib.hid (O.out.set (g408) (show g397 ≤ g408 ∨ g408 < gS + 1 by omega) 9 (.bool (decide (x.b % 2 = 1))))
          replace TO := Lib.hid (TO.out.set (g408) (show g397 ≤ g408 ∨ g408 < gS + 1 by omega) 9 (.bool (decide (x.b % 2 = 1))))
          replace hw := below_set hw (show w.heap.size ≤ g408 by omega) 9 (.bool (decide (x.b % 2 = 1)))
          generalize wd419.setCell ⟨g408, 9, none⟩ (.bool (decide (x.b % 2 = 1))) = wd420 at *
          have cD_0 : wd420.cell? ⟨w.heap.size, 0, none⟩ = some (.slice (some ⟨b, o, none⟩) xs.length c) := D.out.cell 0
          have cT_0 : wd420.cell? ⟨g408, 0, none⟩ = some (.int .i64 6) := T.out.cell 0
          go_wp2_with fail
          have OB := Lib.hid O.out.now
          have hTl := T.out.here
          clear cD_0 cT_0
          ((with_reducible refine (HPA.out false _ (HR.out.on hw)).mono ?_); rintro e wd421 ⟨vm, rfl, hownm, hb422⟩)
          replace D := Lib.hid (D.out.below hb422 D.out.here)
          replace R := Lib.hid (R.out.below hb422 R.out.here)
          replace S := Lib.hid (S.out.below hb422 S.out.here)
          replace X := Lib.hid (X.out.below hb422 X.out.here)
          replace T := Lib.hid (T.out.below hb422 T.out.here)
          replace O := Lib.hid (O.out.on hb422)
          replace TO := Lib.hid (TO.out.on hb422)
          replace hw := hw.trans (hb422.mono hw.size)
          clear hb422
          have hsm : sepR vm (Value.slice A0 k c0).ownBlock := own_later OB.out hownm (Nat.le_refl _)
          replace hownm := own_base hownm (show g408 + 1 ≤ _ from hTl)
          have MO := Lib.hid (Kept.own hownm)
          obtain ⟨Am, cm, rfl⟩ := own_form hownm
          clear hownm OB hTl
          have cT_6 : wd421.cell? ⟨g408, 6, none⟩ = some (.slice none 0 0) := T.out.cell 6
          have fT_6 := T.out.free 6
          go_upto_region 29 with fail
          clear cT_6 fT_6
          replace D := Lib.hid (D.out.far (p := ⟨g408, 6, none⟩) (show w.heap.size ≠ g408 by omega) (.slice Am (partsN xs k false x.parts).length cm))
          replace R := Lib.hid (R.out.far (p := ⟨g408, 6, none⟩) (show w.heap.size + 1 ≠ g408 by omega) (.slice Am (partsN xs k false x.parts).length cm))
          replace S := Lib.hid (S.out.far (p := ⟨g408, 6, none⟩) (show gS ≠ g408 by omega) (.slice Am (partsN xs k false x.parts).length cm))
          replace X := Lib.hid (X.out.far (p := ⟨g408, 6, none⟩) (show g397 ≠ g408 by omega) (.slice Am (partsN xs k false x.parts).length cm))
          replace T : Hid (Has (wd421.setCell ⟨g408, 6, none⟩ (.slice Am (partsN xs k false x.parts).length cm)) (g408) 67 #[.int .i64 6, .string ⟨(typName k).toArray⟩, .int .i64 0, .int .i64 0, .int .i64 0, .slice none 0 0, .slice Am (partsN xs k false x.parts).length cm, .int .i64 0, .int .i64 0, .bool (decide (x.b % 2 = 1))]) := Lib.hid (by have h := T.out.set 6 (.slice Am (partsN xs k false x.parts).length cm); simpa using h)
          replace O := Lib.hid (O.out.set (g408) (show g397 ≤ g408 ∨ g408 < gS + 1 by omega) 6 (.slice Am (partsN xs k false x.parts).length cm))
          replace TO := Lib.hid (TO.out.set (g408) (show g397 ≤ g408 ∨ g408 < gS + 1 by omega) 6 (.slice Am (partsN xs k false x.parts).length cm))
          replace MO := Lib.hid (MO.out.set (g408) (show wd421.heap.size ≤ g408 ∨ g408 < g408 + 1 by omega) 6 (.slice Am (partsN xs k false x.parts).length cm))
          replace hw := below_set hw (show w.heap.size ≤ g408 by omega) 6 (.slice Am (partsN xs k false x.parts).length cm)
          generalize wd421.setCell ⟨g408, 6, none⟩ (.slice Am (partsN xs k false x.parts).length cm) = wd423 at *
          have HME := Lib.hid (own_base MO.out.now (show gS + 1 ≤ g408 + 1 by omega))
          clear MO
          have cT_0 : wd423.cell? ⟨g408, 0, none⟩ = some (.int .i64 6) := T.out.cell 0
          have cT_1 : wd423.cell? ⟨g408, 1, none⟩ = some (.string ⟨(typName k).toArray⟩) := T.out.cell 1
          have cT_2 : wd423.cell? ⟨g408, 2, none⟩ = some (.int .i64 0) := T.out.cell 2
          have cT_3 : wd423.cell? ⟨g408, 3, none⟩ = some (.int .i64 0) := T.out.cell 3
          have cT_4 : wd423.cell? ⟨g408, 4, none⟩ = some (.int .i64 0) := T.out.cell 4
          have cT_5 : wd423.cell? ⟨g408, 5, none⟩ = some (.slice none 0 0) := T.out.cell 5
          have cT_6 : wd423.cell? ⟨g408, 6, none⟩ = some (.slice Am (partsN xs k false x.parts).length cm) := T.out.cell 6
          have cT_7 : wd423.cell? ⟨g408, 7, none⟩ = some (.int .i64 0) := T.out.cell 7
          have cT_8 : wd423.cell? ⟨g408, 8, none⟩ = some (.int .i64 0) := T.out.cell 8
          have cT_9 : wd423.cell? ⟨g408, 9, none⟩ = some (.bool (decide (x.b % 2 = 1))) := T.out.cell 9
          have cS_0 : wd423.cell? ⟨gS, 0, none⟩ = some (.slice A0 k c0) := S.out.cell 0
          have fS_0 := S.out.free 0
          go_upto_region 39 with fail
          have hbase : gS + 1 ≤ wd423.heap.size := S.out.here
          go_wp2_with (at_builtin; refine wpList_append_lie rfl _ _ _ rfl (gS + 1) 67 _ 10 120 Try.underlying29 info_typ rfl (by decide) (.slice A0 k c0) k cs rfl O.out.now [.int .i64 6, .string ⟨(typName k).toArray⟩, .int .i64 0, .int .i64 0, .int .i64 0, .slice none 0 0, .slice Am (partsN xs k false x.parts).length cm, .int .i64 0, .int .i64 0, .bool (decide (x.b % 2 = 1))] _ 1 _ rfl rfl rfl (by simp [Value.oneCell']) (by omega) (by omega) hbase ?_; intro g cap w3 hown3 hg3 hgat hb3; have cS_0 : w3.cell? ⟨gS, 0, none⟩ = some (.slice A0 k c0) := (S.out.below hb3 (by omega)).cell 0; have fS_0 := (S.out.below hb3 (by omega)).free 0)
          have hgsep : (Value.slice (some ⟨g, 0, none⟩) (k + 1) cap).ownBlock = (Value.slice A0 k c0).ownBlock ∨ (Value.slice (some ⟨g, 0, none⟩) (k + 1) cap).ownBlock = some (wd423.heap.size + 1) := by
            rcases hgat with h | h
            · left; rw [h]; rfl
            · right; rw [h]; rfl
          have hty := TypsOwn.snoc _ _ ({ typ0 with kind := 6, name := typName k, opn := decide (x.b % 2 = 1), mems := partsN xs k false x.parts }) _ _ TO.out.now ⟨World.ownsRow_nil _ _ _ _, HME.out⟩ (.inl rfl) hsm HTP.out
          have hty2 := hty.grown hg3 (Nat.le_succ _) hgsep
          clear hty hg3 hgat hgsep
          clear cT_0 cT_1 cT_2 cT_3 cT_4 cT_5 cT_6 cT_7 cT_8 cT_9 cS_0 fS_0
          clear T
          clear X
          clear O
          clear TO
          replace D := Lib.hid (D.out.below hb3 (show w.heap.size < gS + 1 by omega))
          replace R := Lib.hid (R.out.below hb3 (show w.heap.size + 1 < gS + 1 by omega))
          replace S := Lib.hid (S.out.below hb3 (show gS < gS + 1 by omega))
          replace hw := hw.trans (hb3.mono (show w.heap.size ≤ gS + 1 by omega))
          have O2 := Lib.hid (Kept.own hown3)
          have TO2 := Lib.hid (Kept.typs hty2)
          clear hown3 hty2
          replace D := Lib.hid (D.out.far (p := ⟨gS, 0, none⟩) (show w.heap.size ≠ gS by omega) (.slice (some ⟨g, 0, none⟩) (k + 1) cap))
          replace R := Lib.hid (R.out.far (p := ⟨gS, 0, none⟩) (show w.heap.size + 1 ≠ gS by omega) (.slice (some ⟨g, 0, none⟩) (k + 1) cap))
          replace S : Hid (Has (w3.setCell ⟨gS, 0, none⟩ (.slice (some ⟨g, 0, none⟩) (k + 1) cap)) (gS) 31 #[.slice (some ⟨g, 0, none⟩) (k + 1) cap]) := Lib.hid (by have h := S.out.set 0 (.slice (some ⟨g, 0, none⟩) (k + 1) cap); simpa using h)
          replace O2 := Lib.hid (O2.out.set (gS) (show w3.heap.size ≤ gS ∨ gS < gS + 1 by omega) 0 (.slice (some ⟨g, 0, none⟩) (k + 1) cap))
          replace TO2 := Lib.hid (TO2.out.set (gS) (show w3.heap.size ≤ gS ∨ gS < gS + 1 by omega) 0 (.slice (some ⟨g, 0, none⟩) (k + 1) cap))
          replace hw := below_set hw (show w.heap.size ≤ gS by omega) 0 (.slice (some ⟨g, 0, none⟩) (k + 1) cap)
          generalize w3.setCell ⟨gS, 0, none⟩ (.slice (some ⟨g, 0, none⟩) (k + 1) cap) = wd424 at *
          go_wp2_with fail
          go_roundw
          case rel => exact ⟨k + 1, by omega, by go_num, _, _, D.out, R.out, S.out, O2.out.now, by rw [HTK.out]; exact TO2.out.now, hw⟩
          case measure => simp [intOf]; omega
      · skip
        rw [hkq] at hki
        have HI := Lib.hid hki
        have hty0 : typN xs k x = { typ0 with kind := 7, max := ((x.a % 4 : Nat) : Int), elem := ((x.c % xs.length : Nat) : Int) } := by unfold typN; simp [hkq]
        rw [hty0] at htk
        have HTK := Lib.hid htk
        have HTP : Hid (TypPlain { typ0 with kind := 7, max := ((x.a % 4 : Nat) : Int), elem := ((x.c % xs.length : Nat) : Int) }) := by have := typN_plain xs k x h5.2 hlt; rw [hty0] at this; exact this
        clear hki htk hty0 hkr hkq
        have ha4 : (x.a : Int).tmod 4 = ((x.a % 4 : Nat) : Int) := by rw [Int.tmod_eq_emod_of_nonneg (by omega)]; push_cast; rfl
        have hc4 : (x.c : Int).tmod xs.length = ((x.c % xs.length : Nat) : Int) := by rw [Int.tmod_eq_emod_of_nonneg (by omega)]; push_cast; rfl
        have ha5 : x.a % 4 < 4 := by omega
        have hc5 : x.c % xs.length < xs.length := Nat.mod_lt _ h5.1
        generalize x.a % 4 = a4 at *
        generalize x.c % xs.length = cn at *
        have cD_0 : wr.cell? ⟨w.heap.size, 0, none⟩ = some (.slice (some ⟨b, o, none⟩) xs.length c) := D.out.cell 0
        go_upto_region 9 with fail
        clear cD_0
        have hb425 := below_al (Below.refl wr.heap.size wr) (Nat.le_refl _) (.cells #[.int .u8 x.kind, .int .u8 x.a, .int .u8 x.b, .int .u8 x.c, .slice P0 x.parts.length cp] 62)
        have X := Has.made wr 62 #[.int .u8 x.kind, .int .u8 x.a, .int .u8 x.b, .int .u8 x.c, .slice P0 x.parts.length cp]
        have hl427 := D.out.here
        have hl428 := R.out.here
        have hl429 := S.out.here
        have hl430 := O.out.le
        have hl431 := TO.out.le
        have hl432 := hw.size
        replace D := Lib.hid (D.out.below hb425 D.out.here)
        replace R := Lib.hid (R.out.below hb425 R.out.here)
        replace S := Lib.hid (S.out.below hb425 S.out.here)
        replace O := Lib.hid (O.out.on hb425)
        replace TO := Lib.hid (TO.out.on hb425)
        replace hw := hw.trans (hb425.mono hw.size)
        replace X := Lib.hid X
        clear hb425
        generalize (wr.alloc (.cells #[.int .u8 x.kind, .int .u8 x.a, .int .u8 x.b, .int .u8 x.c, .slice P0 x.parts.length cp] 62)) = wd433 at *
        generalize wr.heap.size = g426 at *
        clear n0 n1 n2 n3 n4
        have cD_0 : wd433.cell? ⟨w.heap.size, 0, none⟩ = some (.slice (some ⟨b, o, none⟩) xs.length c) := D.out.cell 0
        go_wp2_with fail
        clear cD_0
        ((with_reducible refine (HI.out _ (HR.out.on hw)).mono ?_); rintro e wd434 ⟨rfl, hb435⟩)
        replace D := Lib.hid (D.out.below hb435 D.out.here)
        replace R := Lib.hid (R.out.below hb435 R.out.here)
        replace S := Lib.hid (S.out.below hb435 S.out.here)
        replace X := Lib.hid (X.out.below hb435 X.out.here)
        replace O := Lib.hid (O.out.on hb435)
        replace TO := Lib.hid (TO.out.on hb435)
        replace hw := hw.trans (hb435.mono hw.size)
        clear hb435
        go_upto_region 10 with fail
        have hb436 := below_al (Below.refl wd434.heap.size wd434) (Nat.le_refl _) (.cells #[.int .i64 7, .string ⟨#[]⟩, .int .i64 0, .int .i64 0, .int .i64 0, .slice none 0 0, .slice none 0 0, .int .i64 0, .int .i64 0, .bool false] 67)
        have T := Has.made wd434 67 #[.int .i64 7, .string ⟨#[]⟩, .int .i64 0, .int .i64 0, .int .i64 0, .slice none 0 0, .slice none 0 0, .int .i64 0, .int .i64 0, .bool false]
        have hl438 := D.out.here
        have hl439 := R.out.here
        have hl440 := S.out.here
        have hl441 := X.out.here
        have hl442 := O.out.le
        have hl443 := TO.out.le
        have hl444 := hw.size
        replace D := Lib.hid (D.out.below hb436 D.out.here)
        replace R := Lib.hid (R.out.below hb436 R.out.here)
        replace S := Lib.hid (S.out.below hb436 S.out.here)
        replace X := Lib.hid (X.out.below hb436 X.out.here)
        replace O := Lib.hid (O.out.on hb436)
        replace TO := Lib.hid (TO.out.on hb436)
        replace hw := hw.trans (hb436.mono hw.size)
        replace T := Lib.hid T
        clear hb436
        generalize (wd434.alloc (.cells #[.int .i64 7, .string ⟨#[]⟩, .int .i64 0, .int .i64 0, .int .i64 0, .slice none 0 0, .slice none 0 0, .int .i64 0, .int .i64 0, .bool false] 67)) = wd445 at *
        generalize wd434.heap.size = g437 at *
        have cT_0 : wd445.cell? ⟨g437, 0, none⟩ = some (.int .i64 7) := T.out.cell 0
        go_wp2_with fail
        clear cT_0
        ((with_reducible refine (named_any _ _).mono ?_); rintro e wd446 ⟨rfl, rfl⟩)
        rw [show namedB 7 = false from rfl]
        have cT_0 : wd445.cell? ⟨g437, 0, none⟩ = some (.int .i64 7) := T.out.cell 0
        go_upto_region 32 with fail
        have e0 : IntKind.i64.wrap (a4 : Int) = a4 := IntWalk.i64_in _ (by omega)
        have e1 : IntKind.i64.wrap (x.c : Int) = x.c := IntWalk.i64_in _ (by omega)
        have e2 : ¬ ((xs.length : Int) = 0) := by omega
        have e3 : ¬ (xs = []) := by intro h; rw [h] at h5; simp at h5
        have cT_4 : wd445.cell? ⟨g437, 4, none⟩ = some (.int .i64 0) := T.out.cell 4
        have cT_8 : wd445.cell? ⟨g437, 8, none⟩ = some (.int .i64 0) := T.out.cell 8
        have fT_4 := T.out.free 4
        have fT_8 := T.out.free 8
        have cX_1 : wd445.cell? ⟨g426, 1, none⟩ = some (.int .u8 x.a) := X.out.cell 1
        have cX_3 : wd445.cell? ⟨g426, 3, none⟩ = some (.int .u8 x.c) := X.out.cell 3
        go_region_held3 (fun w' => w'.cell? ⟨g426, 1, none⟩ = some (.int .u8 x.a) ∧ w'.cell? ⟨g426, 3, none⟩ = some (.int .u8 x.c)) (first | (go_keep; done) | exact ⟨cX_1, cX_3⟩ | (((repeat' apply And.intro) <;> ((repeat (with_reducible (first | refine Eq.trans (cell_drew _ _) ?_ | refine Eq.trans (cell_far _ _ _ _ _ (by dsimp only; omega)) ?_))); assumption)); done))
          (fail)
        clear e0 e1 e2 e3
        all_goals
          clear cT_0 cT_4 cT_8 fT_4 fT_8 cX_1 cX_3
          replace D := Lib.hid (D.out.far (p := ⟨g437, 4, none⟩) (show w.heap.size ≠ g437 by omega) (.int .i64 (a4 : Int)))
          replace R := Lib.hid (R.out.far (p := ⟨g437, 4, none⟩) (show w.heap.size + 1 ≠ g437 by omega) (.int .i64 (a4 : Int)))
          replace S := Lib.hid (S.out.far (p := ⟨g437, 4, none⟩) (show gS ≠ g437 by omega) (.int .i64 (a4 : Int)))
          replace X := Lib.hid (X.out.far (p := ⟨g437, 4, none⟩) (show g426 ≠ g437 by omega) (.int .i64 (a4 : Int)))
          replace T : Hid (Has (wd445.setCell ⟨g437, 4, none⟩ (.int .i64 (a4 : Int))) (g437) 67 #[.int .i64 7, .string ⟨#[]⟩, .int .i64 0, .int .i64 0, .int .i64 (a4 : Int), .slice none 0 0, .slice none 0 0, .int .i64 0, .int .i64 0, .bool false]) := Lib.hid (by have h := T.out.set 4 (.int .i64 (a4 : Int)); simpa using h)
          replace O := Lib.hid (O.out.set (g437) (show g426 ≤ g437 ∨ g437 < gS + 1 by omega) 4 (.int .i64 (a4 : Int)))
          replace TO := Lib.hid (TO.out.set (g437) (show g426 ≤ g437 ∨ g437 < gS + 1 by omega) 4 (.int .i64 (a4 : Int)))
          replace hw := below_set hw (show w.heap.size ≤ g437 by omega) 4 (.int .i64 (a4 : Int))
          generalize wd445.setCell ⟨g437, 4, none⟩ (.int .i64 (a4 : Int)) = wd448 at *
          replace D := Lib.hid (D.out.far (p := ⟨g437, 8, none⟩) (show w.heap.size ≠ g437 by omega) (.int .i64 (cn : Int)))
          replace R := Lib.hid (R.out.far (p := ⟨g437, 8, none⟩) (show w.heap.size + 1 ≠ g437 by omega) (.int .i64 (cn : Int)))
          replace S := Lib.hid (S.out.far (p := ⟨g437, 8, none⟩) (show gS ≠ g437 by omega) (.int .i64 (cn : Int)))
          replace X := Lib.hid (X.out.far (p := ⟨g437, 8, none⟩) (show g426 ≠ g437 by omega) (.int .i64 (cn : Int)))
          replace T : Hid (Has (wd448.setCell ⟨g437, 8, none⟩ (.int .i64 (cn : Int))) (g437) 67 #[.int .i64 7, .string ⟨#[]⟩, .int .i64 0, .int .i64 0, .int .i64 (a4 : Int), .slice none 0 0, .slice none 0 0, .int .i64 0, .int .i64 (cn : Int), .bool false]) := Lib.hid (by have h := T.out.set 8 (.int .i64 (cn : Int)); simpa using h)
          replace O := Lib.hid (O.out.set (g437) (show g426 ≤ g437 ∨ g437 < gS + 1 by omega) 8 (.int .i64 (cn : Int)))
          replace TO := Lib.hid (TO.out.set (g437) (show g426 ≤ g437 ∨ g437 < gS + 1 by omega) 8 (.int .i64 (cn : Int)))
          replace hw := below_set hw (show w.heap.size ≤ g437 by omega) 8 (.int .i64 (cn : Int))
          generalize wd448.setCell ⟨g437, 8, none⟩ (.int .i64 (cn : Int)) = wd449 at *
          have hb450 : Below wd449.heap.size wd449 (wd449.drew) := (Below.refl _ _).drew
          replace D := Lib.hid (D.out.below hb450 D.out.here)
          replace R := Lib.hid (R.out.below hb450 R.out.here)
          replace S := Lib.hid (S.out.below hb450 S.out.here)
          replace X := Lib.hid (X.out.below hb450 X.out.here)
          replace T := Lib.hid (T.out.below hb450 T.out.here)
          replace O := Lib.hid (O.out.on hb450)
          replace TO := Lib.hid (TO.out.on hb450)
          replace hw := hw.trans (hb450.mono hw.size)
          clear hb450
          generalize wd449.drew = wd451 at *
          have cT_0 : wd451.cell? ⟨g437, 0, none⟩ = some (.int .i64 7) := T.out.cell 0
          have cT_1 : wd451.cell? ⟨g437, 1, none⟩ = some (.string ⟨#[]⟩) := T.out.cell 1
          have cT_2 : wd451.cell? ⟨g437, 2, none⟩ = some (.int .i64 0) := T.out.cell 2
          have cT_3 : wd451.cell? ⟨g437, 3, none⟩ = some (.int .i64 0) := T.out.cell 3
          have cT_4 : wd451.cell? ⟨g437, 4, none⟩ = some (.int .i64 (a4 : Int)) := T.out.cell 4
          have cT_5 : wd451.cell? ⟨g437, 5, none⟩ = some (.slice none 0 0) := T.out.cell 5
          have cT_6 : wd451.cell? ⟨g437, 6, none⟩ = some (.slice none 0 0) := T.out.cell 6
          have cT_7 : wd451.cell? ⟨g437, 7, none⟩ = some (.int .i64 0) := T.out.cell 7
          have cT_8 : wd451.cell? ⟨g437, 8, none⟩ = some (.int .i64 (cn : Int)) := T.out.cell 8
          have cT_9 : wd451.cell? ⟨g437, 9, none⟩ = some (.bool false) := T.out.cell 9
          have cS_0 : wd451.cell? ⟨gS, 0, none⟩ = some (.slice A0 k c0) := S.out.cell 0
          have fS_0 := S.out.free 0
          go_upto_region 39 with fail
          have hbase : gS + 1 ≤ wd451.heap.size := S.out.here
          go_wp2_with (at_builtin; refine wpList_append_lie rfl _ _ _ rfl (gS + 1) 67 _ 10 120 Try.underlying29 info_typ rfl (by decide) (.slice A0 k c0) k cs rfl O.out.now [.int .i64 7, .string ⟨#[]⟩, .int .i64 0, .int .i64 0, .int .i64 (a4 : Int), .slice none 0 0, .slice none 0 0, .int .i64 0, .int .i64 (cn : Int), .bool false] _ 1 _ rfl rfl rfl (by simp [Value.oneCell']) (by omega) (by omega) hbase ?_; intro g cap w3 hown3 hg3 hgat hb3; have cS_0 : w3.cell? ⟨gS, 0, none⟩ = some (.slice A0 k c0) := (S.out.below hb3 (by omega)).cell 0; have fS_0 := (S.out.below hb3 (by omega)).free 0)
          have hgsep : (Value.slice (some ⟨g, 0, none⟩) (k + 1) cap).ownBlock = (Value.slice A0 k c0).ownBlock ∨ (Value.slice (some ⟨g, 0, none⟩) (k + 1) cap).ownBlock = some (wd451.heap.size + 1) := by
            rcases hgat with h | h
            · left; rw [h]; rfl
            · right; rw [h]; rfl
          have hty := TypsOwn.snoc _ _ ({ typ0 with kind := 7, max := (a4 : Int), elem := (cn : Int) }) _ _ TO.out.now ⟨World.ownsRow_nil _ _ _ _, World.ownsRow_nil _ _ _ _⟩ (.inl rfl) (.inl rfl) HTP.out
          have hty2 := hty.grown hg3 (Nat.le_succ _) hgsep
          clear hty hg3 hgat hgsep
          clear cT_0 cT_1 cT_2 cT_3 cT_4 cT_5 cT_6 cT_7 cT_8 cT_9 cS_0 fS_0
          clear T
          clear X
          clear O
          clear TO
          replace D := Lib.hid (D.out.below hb3 (show w.heap.size < gS + 1 by omega))
          replace R := Lib.hid (R.out.below hb3 (show w.heap.size + 1 < gS + 1 by omega))
          replace S := Lib.hid (S.out.below hb3 (show gS < gS + 1 by omega))
          replace hw := hw.trans (hb3.mono (show w.heap.size ≤ gS + 1 by omega))
          have O2 := Lib.hid (Kept.own hown3)
          have TO2 := Lib.hid (Kept.typs hty2)
          clear hown3 hty2
          replace D := Lib.hid (D.out.far (p := ⟨gS, 0, none⟩) (show w.heap.size ≠ gS by omega) (.slice (some ⟨g, 0, none⟩) (k + 1) cap))
          replace R := Lib.hid (R.out.far (p := ⟨gS, 0, none⟩) (show w.heap.size + 1 ≠ gS by omega) (.slice (some ⟨g, 0, none⟩) (k + 1) cap))
          replace S : Hid (Has (w3.setCell ⟨gS, 0, none⟩ (.slice (some ⟨g, 0, none⟩) (k + 1) cap)) (gS) 31 #[.slice (some ⟨g, 0, none⟩) (k + 1) cap]) := Lib.hid (by have h := S.out.set 0 (.slice (some ⟨g, 0, none⟩) (k + 1) cap); simpa using h)
          replace O2 := Lib.hid (O2.out.set (gS) (show w3.heap.size ≤ gS ∨ gS < gS + 1 by omega) 0 (.slice (some ⟨g, 0, none⟩) (k + 1) cap))
          replace TO2 := Lib.hid (TO2.out.set (gS) (show w3.heap.size ≤ gS ∨ gS < gS + 1 by omega) 0 (.slice (some ⟨g, 0, none⟩) (k + 1) cap))
          replace hw := below_set hw (show w.heap.size ≤ gS by omega) 0 (.slice (some ⟨g, 0, none⟩) (k + 1) cap)
          generalize w3.setCell ⟨gS, 0, none⟩ (.slice (some ⟨g, 0, none⟩) (k + 1) cap) = wd452 at *
          go_wp2_with fail
          go_roundw
          case rel => exact ⟨k + 1, by omega, by go_num, _, _, D.out, R.out, S.out, O2.out.now, by rw [HTK.out]; exact TO2.out.now, hw⟩
          case measure => simp [intOf]; omega
      · skip
        have ha4 : (x.a : Int).tmod 4 = ((x.a % 4 : Nat) : Int) := by rw [Int.tmod_eq_emod_of_nonneg (by omega)]; push_cast; rfl
        have hc4 : (x.c : Int).tmod xs.length = ((x.c % xs.length : Nat) : Int) := by rw [Int.tmod_eq_emod_of_nonneg (by omega)]; push_cast; rfl
        have ha5 : x.a % 4 < 4 := by omega
        have hc5 : x.c % xs.length < xs.length := Nat.mod_lt _ h5.1
        have hkey := fun W h => key_any xs (.slice (some ⟨b, o, none⟩) xs.length c) x.b W hint.2.2.1 h5 h
        cases hkn : keyN xs x.b with
        | some j =>
          rw [hkq] at hki
          have HI := Lib.hid hki
          have hty0 : typN xs k x = { typ0 with kind := 8, max := ((x.a % 4 : Nat) : Int), key := j, elem := ((x.c % xs.length : Nat) : Int) } := by unfold typN; simp [hkq, hkn]
          rw [hty0] at htk
          have HTK := Lib.hid htk
          have HTP : Hid (TypPlain { typ0 with kind := 8, max := ((x.a % 4 : Nat) : Int), key := j, elem := ((x.c % xs.length : Nat) : Int) }) := by have := typN_plain xs k x h5.2 hlt; rw [hty0] at this; exact this
          clear hki htk hty0 hkr hkq
          rw [hkn] at hkey
          have hkey2 : ∀ W, _ → Calls _ _ _ W (fun e w' => e = .returned (.int .i64 (j : Int)) ∧ Below W.heap.size W w') := hkey
          have HK := Lib.hid hkey2
          have tj : decide ((j : Int) < 0) = false := decide_eq_false (by omega)
          clear hkey hkey2 hkn
          generalize x.a % 4 = a4 at *
          generalize x.c % xs.length = cn at *
          have cD_0 : wr.cell? ⟨w.heap.size, 0, none⟩ = some (.slice (some ⟨b, o, none⟩) xs.length c) := D.out.cell 0
          go_upto_region 9 with fail
          clear cD_0
          have hb453 := below_al (Below.refl wr.heap.size wr) (Nat.le_refl _) (.cells #[.int .u8 x.kind, .int .u8 x.a, .int .u8 x.b, .int .u8 x.c, .slice P0 x.parts.length cp] 62)
          have X := Has.made wr 62 #[.int .u8 x.kind, .int .u8 x.a, .int .u8 x.b, .int .u8 x.c, .slice P0 x.parts.length cp]
          have hl455 := D.out.here
          have hl456 := R.out.here
          have hl457 := S.out.here
          have hl458 := O.out.le
          have hl459 := TO.out.le
          have hl460 := hw.size
          replace D := Lib.hid (D.out.below hb453 D.out.here)
          replace R := Lib.hid (R.out.below hb453 R.out.here)
          replace S := Lib.hid (S.out.below hb453 S.out.here)
          replace O := Lib.hid (O.out.on hb453)
          replace TO := Lib.hid (TO.out.on hb453)
          replace hw := hw.trans (hb453.mono hw.size)
          replace X := Lib.hid X
          clear hb453
          generalize (wr.alloc (.cells #[.int .u8 x.kind, .int .u8 x.a, .int .u8 x.b, .int .u8 x.c, .slice P0 x.parts.length cp] 62)) = wd461 at *
          generalize wr.heap.size = g454 at *
          clear n0 n1 n2 n3 n4
          have cD_0 : wd461.cell? ⟨w.heap.size, 0, none⟩ = some (.slice (some ⟨b, o, none⟩) xs.length c) := D.out.cell 0
          go_wp2_with fail
          clear cD_0
          ((with_reducible refine (HI.out _ (HR.out.on hw)).mono ?_); rintro e wd462 ⟨rfl, hb463⟩)
          replace D := Lib.hid (D.out.below hb463 D.out.here)
          replace R := Lib.hid (R.out.below hb463 R.out.here)
          replace S := Lib.hid (S.out.below hb463 S.out.here)
          replace X := Lib.hid (X.out.below hb463 X.out.here)
          replace O := Lib.hid (O.out.on hb463)
          replace TO := Lib.hid (TO.out.on hb463)
          replace hw := hw.trans (hb463.mono hw.size)
          clear hb463
          go_upto_region 10 with fail
          have hb464 := below_al (Below.refl wd462.heap.size wd462) (Nat.le_refl _) (.cells #[.int .i64 8, .string ⟨#[]⟩, .int .i64 0, .int .i64 0, .int .i64 0, .slice none 0 0, .slice none 0 0, .int .i64 0, .int .i64 0, .bool false] 67)
          have T := Has.made wd462 67 #[.int .i64 8, .string ⟨#[]⟩, .int .i64 0, .int .i64 0, .int .i64 0, .slice none 0 0, .slice none 0 0, .int .i64 0, .int .i64 0, .bool false]
          have hl466 := D.out.here
          have hl467 := R.out.here
          have hl468 := S.out.here
          have hl469 := X.out.here
          have hl470 := O.out.le
          have hl471 := TO.out.le
          have hl472 := hw.size
          replace D := Lib.hid (D.out.below hb464 D.out.here)
          replace R := Lib.hid (R.out.below hb464 R.out.here)
          replace S := Lib.hid (S.out.below hb464 S.out.here)
          replace X := Lib.hid (X.out.below hb464 X.out.here)
          replace O := Lib.hid (O.out.on hb464)
          replace TO := Lib.hid (TO.out.on hb464)
          replace hw := hw.trans (hb464.mono hw.size)
          replace T := Lib.hid T
          clear hb464
          generalize (wd462.alloc (.cells #[.int .i64 8, .string ⟨#[]⟩, .int .i64 0, .int .i64 0, .int .i64 0, .slice none 0 0, .slice none 0 0, .int .i64 0, .int .i64 0, .bool false] 67)) = wd473 at *
          generalize wd462.heap.size = g465 at *
          have cT_0 : wd473.cell? ⟨g465, 0, none⟩ = some (.int .i64 8) := T.out.cell 0
          go_wp2_with fail
          clear cT_0
          ((with_reducible refine (named_any _ _).mono ?_); rintro e wd474 ⟨rfl, rfl⟩)
          rw [show namedB 8 = false from rfl]
          have cT_0 : wd473.cell? ⟨g465, 0, none⟩ = some (.int .i64 8) := T.out.cell 0
          go_upto_region 34 with fail
          have e0 : IntKind.i64.wrap (a4 : Int) = a4 := IntWalk.i64_in _ (by omega)
          have e1 : IntKind.i64.wrap (x.c : Int) = x.c := IntWalk.i64_in _ (by omega)
          have e2 : ¬ ((xs.length : Int) = 0) := by omega
          have e3 : ¬ (xs = []) := by intro h; rw [h] at h5; simp at h5
          have cT_4 : wd473.cell? ⟨g465, 4, none⟩ = some (.int .i64 0) := T.out.cell 4
          have cT_7 : wd473.cell? ⟨g465, 7, none⟩ = some (.int .i64 0) := T.out.cell 7
          have cT_8 : wd473.cell? ⟨g465, 8, none⟩ = some (.int .i64 0) := T.out.cell 8
          have fT_4 := T.out.free 4
          have fT_7 := T.out.free 7
          have fT_8 := T.out.free 8
          have cX_1 : wd473.cell? ⟨g454, 1, none⟩ = some (.int .u8 x.a) := X.out.cell 1
          have cX_2 : wd473.cell? ⟨g454, 2, none⟩ = some (.int .u8 x.b) := X.out.cell 2
          have cX_3 : wd473.cell? ⟨g454, 3, none⟩ = some (.int .u8 x.c) := X.out.cell 3
          have cD_0 : wd473.cell? ⟨w.heap.size, 0, none⟩ = some (.slice (some ⟨b, o, none⟩) xs.length c) := D.out.cell 0
          go_region_held3 (fun w' => w'.cell? ⟨g454, 1, none⟩ = some (.int .u8 x.a) ∧ w'.cell? ⟨g454, 2, none⟩ = some (.int .u8 x.b) ∧ w'.cell? ⟨g454, 3, none⟩ = some (.int .u8 x.c) ∧ w'.cell? ⟨w.heap.size, 0, none⟩ = some (.slice (some ⟨b, o, none⟩) xs.length c)) (first | (go_keep; done) | exact ⟨cX_1, cX_2, cX_3, cD_0⟩ | (((repeat' apply And.intro) <;> ((repeat (with_reducible (first | refine Eq.trans (cell_drew _ _) ?_ | refine Eq.trans (cell_far _ _ _ _ _ (by dsimp only; omega)) ?_))); assumption)); done))
            (first
              | (go_at_call 40; (first | (with_reducible refine (HK.out _ (HR.out.on hw)).mono ?_) | (with_reducible refine (HK.out _ (HR.out.on hw.drew)).mono ?_)); rintro e wn ⟨rfl, hbn⟩; have D : Hid (Has wn (w.heap.size) 24 #[.slice (some ⟨b, o, none⟩) xs.length c]) := Lib.hid (by first | exact D.out.below hbn D.out.here | exact D.out.drew.below hbn D.out.here); have R : Hid (Has wn (w.heap.size + 1) 31 #[.slice none 0 0]) := Lib.hid (by first | exact R.out.below hbn R.out.here | exact R.out.drew.below hbn R.out.here); have S : Hid (Has wn (gS) 31 #[.slice A0 k c0]) := Lib.hid (by first | exact S.out.below hbn S.out.here | exact S.out.drew.below hbn S.out.here); have X : Hid (Has wn (g454) 62 #[.int .u8 x.kind, .int .u8 x.a, .int .u8 x.b, .int .u8 x.c, .slice P0 x.parts.length cp]) := Lib.hid (by first | exact X.out.below hbn X.out.here | exact X.out.drew.below hbn X.out.here); have T : Hid (Has wn (g465) 67 #[.int .i64 8, .string ⟨#[]⟩, .int .i64 0, .int .i64 0, .int .i64 0, .slice none 0 0, .slice none 0 0, .int .i64 0, .int .i64 0, .bool false]) := Lib.hid (by first | exact T.out.below hbn T.out.here | exact T.out.drew.below hbn T.out.here); have O := Lib.hid (Kept.ond O.out hbn); have TO := Lib.hid (Kept.ond TO.out hbn); have hw : Below w.heap.size w wn := (by first | exact hw.trans (hbn.mono hw.size) | exact (hw.drew).trans (hbn.mono hw.size)); have cT_0 : wn.cell? ⟨g465, 0, none⟩ = some (.int .i64 8) := T.out.cell 0; have cT_4 : wn.cell? ⟨g465, 4, none⟩ = some (.int .i64 0) := T.out.cell 4; have cT_7 : wn.cell? ⟨g465, 7, none⟩ = some (.int .i64 0) := T.out.cell 7; have cT_8 : wn.cell? ⟨g465, 8, none⟩ = some (.int .i64 0) := T.out.cell 8; have fT_4 : wn.frozen? ⟨g465, 4, none⟩ = false := T.out.free 4; have fT_7 : wn.frozen? ⟨g465, 7, none⟩ = false := T.out.free 7; have fT_8 : wn.frozen? ⟨g465, 8, none⟩ = false := T.out.free 8; have cX_1 : wn.cell? ⟨g454, 1, none⟩ = some (.int .u8 x.a) := X.out.cell 1; have cX_2 : wn.cell? ⟨g454, 2, none⟩ = some (.int .u8 x.b) := X.out.cell 2; have cX_3 : wn.cell? ⟨g454, 3, none⟩ = some (.int .u8 x.c) := X.out.cell 3; have cD_0 : wn.cell? ⟨w.heap.size, 0, none⟩ = some (.slice (some ⟨b, o, none⟩) xs.length c) := D.out.cell 0))
          clear e0 e1 e2 e3
          all_goals
            clear cT_0 cT_4 cT_7 cT_8 fT_4 fT_7 fT_8 cX_1 cX_2 cX_3 cD_0
            replace D := Lib.hid (D.out.far (p := ⟨g465, 4, none⟩) (show w.heap.size ≠ g465 by omega) (.int .i64 (a4 : Int)))
            replace R := Lib.hid (R.out.far (p := ⟨g465, 4, none⟩) (show w.heap.size + 1 ≠ g465 by omega) (.int .i64 (a4 : Int)))
            replace S := Lib.hid (S.out.far (p := ⟨g465, 4, none⟩) (show gS ≠ g465 by omega) (.int .i64 (a4 : Int)))
            replace X := Lib.hid (X.out.far (p := ⟨g465, 4, none⟩) (show g454 ≠ g465 by omega) (.int .i64 (a4 : Int)))
            replace T : Hid (Has (wn.setCell ⟨g465, 4, none⟩ (.int .i64 (a4 : Int))) (g465) 67 #[.int .i64 8, .string ⟨#[]⟩, .int .i64 0, .int .i64 0, .int .i64 (a4 : Int), .slice none 0 0, .slice none 0 0, .int .i64 0, .int .i64 0, .bool false]) := Lib.hid (by have h := T.out.set 4 (.int .i64 (a4 : Int)); simpa using h)
            replace O := Lib.hid (O.out.set (g465) (show g454 ≤ g465 ∨ g465 < gS + 1 by omega) 4 (.int .i64 (a4 : Int)))
            replace TO := Lib.hid (TO.out.set (g465) (show g454 ≤ g465 ∨ g465 < gS + 1 by omega) 4 (.int .i64 (a4 : Int)))
            replace hw := below_set hw (show w.heap.size ≤ g465 by omega) 4 (.int .i64 (a4 : Int))
            generalize wn.setCell ⟨g465, 4, none⟩ (.int .i64 (a4 : Int)) = wd476 at *
            replace D := Lib.hid (D.out.far (p := ⟨g465, 7, none⟩) (show w.heap.size ≠ g465 by omega) (.int .i64 (j : Int)))
            replace R := Lib.hid (R.out.far (p := ⟨g465, 7, none⟩) (show w.heap.size + 1 ≠ g465 by omega) (.int .i64 (j : Int)))
            replace S := Lib.hid (S.out.far (p := ⟨g465, 7, none⟩) (show gS ≠ g465 by omega) (.int .i64 (j : Int)))
            replace X := Lib.hid (X.out.far (p := ⟨g465, 7, none⟩) (show g454 ≠ g465 by omega) (.int .i64 (j : Int)))
            replace T : Hid (Has (wd476.setCell ⟨g465, 7, none⟩ (.int .i64 (j : Int))) (g465) 67 #[.int .i64 8, .string ⟨#[]⟩, .int .i64 0, .int .i64 0, .int .i64 (a4 : Int), .slice none 0 0, .slice none 0 0, .int .i64 (j : Int), .int .i64 0, .bool false]) := Lib.hid (by have h := T.out.set 7 (.int .i64 (j : Int)); simpa using h)
            replace O := Lib.hid (O.out.set (g465) (show g454 ≤ g465 ∨ g465 < gS + 1 by omega) 7 (.int .i64 (j : Int)))
            replace TO := Lib.hid (TO.out.set (g465) (show g454 ≤ g465 ∨ g465 < gS + 1 by omega) 7 (.int .i64 (j : Int)))
            replace hw := below_set hw (show w.heap.size ≤ g465 by omega) 7 (.int .i64 (j : Int))
            generalize wd476.setCell ⟨g465, 7, none⟩ (.int .i64 (j : Int)) = wd477 at *
            replace D := Lib.hid (D.out.far (p := ⟨g465, 8, none⟩) (show w.heap.size ≠ g465 by omega) (.int .i64 (cn : Int)))
            replace R := Lib.hid (R.out.far (p := ⟨g465, 8, none⟩) (show w.heap.size + 1 ≠ g465 by omega) (.int .i64 (cn : Int)))
            replace S := Lib.hid (S.out.far (p := ⟨g465, 8, none⟩) (show gS ≠ g465 by omega) (.int .i64 (cn : Int)))
            replace X := Lib.hid (X.out.far (p := ⟨g465, 8, none⟩) (show g454 ≠ g465 by omega) (.int .i64 (cn : Int)))
            replace T : Hid (Has (wd477.setCell ⟨g465, 8, none⟩ (.int .i64 (cn : Int))) (g465) 67 #[.int .i64 8, .string ⟨#[]⟩, .int .i64 0, .int .i64 0, .int .i64 (a4 : Int), .slice none 0 0, .slice none 0 0, .int .i64 (j : Int), .int .i64 (cn : Int), .bool false]) := Lib.hid (by have h := T.out.set 8 (.int .i64 (cn : Int)); simpa using h)
            replace O := Lib.hid (O.out.set (g465) (show g454 ≤ g465 ∨ g465 < gS + 1 by omega) 8 (.int .i64 (cn : Int)))
            replace TO := Lib.hid (TO.out.set (g465) (show g454 ≤ g465 ∨ g465 < gS + 1 by omega) 8 (.int .i64 (cn : Int)))
            replace hw := below_set hw (show w.heap.size ≤ g465 by omega) 8 (.int .i64 (cn : Int))
            generalize wd477.setCell ⟨g465, 8, none⟩ (.int .i64 (cn : Int)) = wd478 at *
            have cT_7 : wd478.cell? ⟨g465, 7, none⟩ = some (.int .i64 (j : Int)) := T.out.cell 7
            have cT_0 : wd478.cell? ⟨g465, 0, none⟩ = some (.int .i64 8) := T.out.cell 0
            have cT_1 : wd478.cell? ⟨g465, 1, none⟩ = some (.string ⟨#[]⟩) := T.out.cell 1
            have cT_2 : wd478.cell? ⟨g465, 2, none⟩ = some (.int .i64 0) := T.out.cell 2
            have cT_3 : wd478.cell? ⟨g465, 3, none⟩ = some (.int .i64 0) := T.out.cell 3
            have cT_4 : wd478.cell? ⟨g465, 4, none⟩ = some (.int .i64 (a4 : Int)) := T.out.cell 4
            have cT_5 : wd478.cell? ⟨g465, 5, none⟩ = some (.slice none 0 0) := T.out.cell 5
            have cT_6 : wd478.cell? ⟨g465, 6, none⟩ = some (.slice none 0 0) := T.out.cell 6
            have cT_8 : wd478.cell? ⟨g465, 8, none⟩ = some (.int .i64 (cn : Int)) := T.out.cell 8
            have cT_9 : wd478.cell? ⟨g465, 9, none⟩ = some (.bool false) := T.out.cell 9
            have cS_0 : wd478.cell? ⟨gS, 0, none⟩ = some (.slice A0 k c0) := S.out.cell 0
            have fS_0 := S.out.free 0
            go_upto_region 39 with fail
            have hbase : gS + 1 ≤ wd478.heap.size := S.out.here
            go_wp2_with (at_builtin; refine wpList_append_lie rfl _ _ _ rfl (gS + 1) 67 _ 10 120 Try.underlying29 info_typ rfl (by decide) (.slice A0 k c0) k cs rfl O.out.now [.int .i64 8, .string ⟨#[]⟩, .int .i64 0, .int .i64 0, .int .i64 (a4 : Int), .slice none 0 0, .slice none 0 0, .int .i64 (j : Int), .int .i64 (cn : Int), .bool false] _ 1 _ rfl rfl rfl (by simp [Value.oneCell']) (by omega) (by omega) hbase ?_; intro g cap w3 hown3 hg3 hgat hb3; have cS_0 : w3.cell? ⟨gS, 0, none⟩ = some (.slice A0 k c0) := (S.out.below hb3 (by omega)).cell 0; have fS_0 := (S.out.below hb3 (by omega)).free 0)
            have hgsep : (Value.slice (some ⟨g, 0, none⟩) (k + 1) cap).ownBlock = (Value.slice A0 k c0).ownBlock ∨ (Value.slice (some ⟨g, 0, none⟩) (k + 1) cap).ownBlock = some (wd478.heap.size + 1) := by
              rcases hgat with h | h
              · left; rw [h]; rfl
              · right; rw [h]; rfl
            have hty := TypsOwn.snoc _ _ ({ typ0 with kind := 8, max := (a4 : Int), key := j, elem := (cn : Int) }) _ _ TO.out.now ⟨World.ownsRow_nil _ _ _ _, World.ownsRow_nil _ _ _ _⟩ (.inl rfl) (.inl rfl) HTP.out
            have hty2 := hty.grown hg3 (Nat.le_succ _) hgsep
            clear hty hg3 hgat hgsep
            clear cT_7 cT_0 cT_1 cT_2 cT_3 cT_4 cT_5 cT_6 cT_8 cT_9 cS_0 fS_0
            clear T
            clear X
            clear O
            clear TO
            replace D := Lib.hid (D.out.below hb3 (show w.heap.size < gS + 1 by omega))
            replace R := Lib.hid (R.out.below hb3 (show w.heap.size + 1 < gS + 1 by omega))
            replace S := Lib.hid (S.out.below hb3 (show gS < gS + 1 by omega))
            replace hw := hw.trans (hb3.mono (show w.heap.size ≤ gS + 1 by omega))
            have O2 := Lib.hid (Kept.own hown3)
            have TO2 := Lib.hid (Kept.typs hty2)
            clear hown3 hty2
            replace D := Lib.hid (D.out.far (p := ⟨gS, 0, none⟩) (show w.heap.size ≠ gS by omega) (.slice (some ⟨g, 0, none⟩) (k + 1) cap))
            replace R := Lib.hid (R.out.far (p := ⟨gS, 0, none⟩) (show w.heap.size + 1 ≠ gS by omega) (.slice (some ⟨g, 0, none⟩) (k + 1) cap))
            replace S : Hid (Has (w3.setCell ⟨gS, 0, none⟩ (.slice (some ⟨g, 0, none⟩) (k + 1) cap)) (gS) 31 #[.slice (some ⟨g, 0, none⟩) (k + 1) cap]) := Lib.hid (by have h := S.out.set 0 (.slice (some ⟨g, 0, none⟩) (k + 1) cap); simpa using h)
            replace O2 := Lib.hid (O2.out.set (gS) (show w3.heap.size ≤ gS ∨ gS < gS + 1 by omega) 0 (.slice (some ⟨g, 0, none⟩) (k + 1) cap))
            replace TO2 := Lib.hid (TO2.out.set (gS) (show w3.heap.size ≤ gS ∨ gS < gS + 1 by omega) 0 (.slice (some ⟨g, 0, none⟩) (k + 1) cap))
            replace hw := below_set hw (show w.heap.size ≤ gS by omega) 0 (.slice (some ⟨g, 0, none⟩) (k + 1) cap)
            generalize w3.setCell ⟨gS, 0, none⟩ (.slice (some ⟨g, 0, none⟩) (k + 1) cap) = wd479 at *
            go_wp2_with fail
            go_roundw
            case rel => exact ⟨k + 1, by omega, by go_num, _, _, D.out, R.out, S.out, O2.out.now, by rw [HTK.out]; exact TO2.out.now, hw⟩
            case measure => simp [intOf]; omega
        | none =>
          rw [hkq] at hki
          have HI := Lib.hid hki
          have hty0 : typN xs k x = { typ0 with kind := 7, max := ((x.a % 4 : Nat) : Int), elem := ((x.c % xs.length : Nat) : Int) } := by unfold typN; simp [hkq, hkn]
          rw [hty0] at htk
          have HTK := Lib.hid htk
          have HTP : Hid (TypPlain { typ0 with kind := 7, max := ((x.a % 4 : Nat) : Int), elem := ((x.c % xs.length : Nat) : Int) }) := by have := typN_plain xs k x h5.2 hlt; rw [hty0] at this; exact this
          clear hki htk hty0 hkr hkq
          rw [hkn] at hkey
          have hkey2 : ∀ W, _ → Calls _ _ _ W (fun e w' => e = .returned (.int .i64 (-1)) ∧ Below W.heap.size W w') := hkey
          have HK := Lib.hid hkey2
          clear hkey hkey2 hkn
          generalize x.a % 4 = a4 at *
          generalize x.c % xs.length = cn at *
          have cD_0 : wr.cell? ⟨w.heap.size, 0, none⟩ = some (.slice (some ⟨b, o, none⟩) xs.length c) := D.out.cell 0
          go_upto_region 9 with fail
          clear cD_0
          have hb480 := below_al (Below.refl wr.heap.size wr) (Nat.le_refl _) (.cells #[.int .u8 x.kind, .int .u8 x.a, .int .u8 x.b, .int .u8 x.c, .slice P0 x.parts.length cp] 62)
          have X := Has.made wr 62 #[.int .u8 x.kind, .int .u8 x.a, .int .u8 x.b, .int .u8 x.c, .slice P0 x.parts.length cp]
          have hl482 := D.out.here
          have hl483 := R.out.here
          have hl484 := S.out.here
          have hl485 := O.out.le
          have hl486 := TO.out.le
          have hl487 := hw.size
          replace D := Lib.hid (D.out.below hb480 D.out.here)
          replace R := Lib.hid (R.out.below hb480 R.out.here)
          replace S := Lib.hid (S.out.below hb480 S.out.here)
          replace O := Lib.hid (O.out.on hb480)
          replace TO := Lib.hid (TO.out.on hb480)
          replace hw := hw.trans (hb480.mono hw.size)
          replace X := Lib.hid X
          clear hb480
          generalize (wr.alloc (.cells #[.int .u8 x.kind, .int .u8 x.a, .int .u8 x.b, .int .u8 x.c, .slice P0 x.parts.length cp] 62)) = wd488 at *
          generalize wr.heap.size = g481 at *
          clear n0 n1 n2 n3 n4
          have cD_0 : wd488.cell? ⟨w.heap.size, 0, none⟩ = some (.slice (some ⟨b, o, none⟩) xs.length c) := D.out.cell 0
          go_wp2_with fail
          clear cD_0
          ((with_reducible refine (HI.out _ (HR.out.on hw)).mono ?_); rintro e wd489 ⟨rfl, hb490⟩)
          replace D := Lib.hid (D.out.below hb490 D.out.here)
          replace R := Lib.hid (R.out.below hb490 R.out.here)
          replace S := Lib.hid (S.out.below hb490 S.out.here)
          replace X := Lib.hid (X.out.below hb490 X.out.here)
          replace O := Lib.hid (O.out.on hb490)
          replace TO := Lib.hid (TO.out.on hb490)
          replace hw := hw.trans (hb490.mono hw.size)
          clear hb490
          go_upto_region 10 with fail
          have hb491 := below_al (Below.refl wd489.heap.size wd489) (Nat.le_refl _) (.cells #[.int .i64 8, .string ⟨#[]⟩, .int .i64 0, .int .i64 0, .int .i64 0, .slice none 0 0, .slice none 0 0, .int .i64 0, .int .i64 0, .bool false] 67)
          have T := Has.made wd489 67 #[.int .i64 8, .string ⟨#[]⟩, .int .i64 0, .int .i64 0, .int .i64 0, .slice none 0 0, .slice none 0 0, .int .i64 0, .int .i64 0, .bool false]
          have hl493 := D.out.here
          have hl494 := R.out.here
          have hl495 := S.out.here
          have hl496 := X.out.here
          have hl497 := O.out.le
          have hl498 := TO.out.le
          have hl499 := hw.size
          replace D := Lib.hid (D.out.below hb491 D.out.here)
          replace R := Lib.hid (R.out.below hb491 R.out.here)
          replace S := Lib.hid (S.out.below hb491 S.out.here)
          replace X := Lib.hid (X.out.below hb491 X.out.here)
          replace O := Lib.hid (O.out.on hb491)
          replace TO := Lib.hid (TO.out.on hb491)
          replace hw := hw.trans (hb491.mono hw.size)
          replace T := Lib.hid T
          clear hb491
          generalize (wd489.alloc (.cells #[.int .i64 8, .string ⟨#[]⟩, .int .i64 0, .int .i64 0, .int .i64 0, .slice none 0 0, .slice none 0 0, .int .i64 0, .int .i64 0, .bool false] 67)) = wd500 at *
          generalize wd489.heap.size = g492 at *
          have cT_0 : wd500.cell? ⟨g492, 0, none⟩ = some (.int .i64 8) := T.out.cell 0
          go_wp2_with fail
          clear cT_0
          ((with_reducible refine (named_any _ _).mono ?_); rintro e wd501 ⟨rfl, rfl⟩)
          rw [show namedB 8 = false from rfl]
          have cT_0 : wd500.cell? ⟨g492, 0, none⟩ = some (.int .i64 8) := T.out.cell 0
          go_upto_region 34 with fail
          have e0 : IntKind.i64.wrap (a4 : Int) = a4 := IntWalk.i64_in _ (by omega)
          have e1 : IntKind.i64.wrap (x.c : Int) = x.c := IntWalk.i64_in _ (by omega)
          have e2 : ¬ ((xs.length : Int) = 0) := by omega
          have e3 : ¬ (xs = []) := by intro h; rw [h] at h5; simp at h5
          have cT_4 : wd500.cell? ⟨g492, 4, none⟩ = some (.int .i64 0) := T.out.cell 4
          have cT_7 : wd500.cell? ⟨g492, 7, none⟩ = some (.int .i64 0) := T.out.cell 7
          have cT_8 : wd500.cell? ⟨g492, 8, none⟩ = some (.int .i64 0) := T.out.cell 8
          have fT_4 := T.out.free 4
          have fT_7 := T.out.free 7
          have fT_8 := T.out.free 8
          have cX_1 : wd500.cell? ⟨g481, 1, none⟩ = some (.int .u8 x.a) := X.out.cell 1
          have cX_2 : wd500.cell? ⟨g481, 2, none⟩ = some (.int .u8 x.b) := X.out.cell 2
          have cX_3 : wd500.cell? ⟨g481, 3, none⟩ = some (.int .u8 x.c) := X.out.cell 3
          have cD_0 : wd500.cell? ⟨w.heap.size, 0, none⟩ = some (.slice (some ⟨b, o, none⟩) xs.length c) := D.out.cell 0
          go_region_held3 (fun w' => w'.cell? ⟨g481, 1, none⟩ = some (.int .u8 x.a) ∧ w'.cell? ⟨g481, 2, none⟩ = some (.int .u8 x.b) ∧ w'.cell? ⟨g481, 3, none⟩ = some (.int .u8 x.c) ∧ w'.cell? ⟨w.heap.size, 0, none⟩ = some (.slice (some ⟨b, o, none⟩) xs.length c)) (first | (go_keep; done) | exact ⟨cX_1, cX_2, cX_3, cD_0⟩ | (((repeat' apply And.intro) <;> ((repeat (with_reducible (first | refine Eq.trans (cell_drew _ _) ?_ | refine Eq.trans (cell_far _ _ _ _ _ (by dsimp only; omega)) ?_))); assumption)); done))
            (first
              | (go_at_call 40; (first | (with_reducible refine (HK.out _ (HR.out.on hw)).mono ?_) | (with_reducible refine (HK.out _ (HR.out.on hw.drew)).mono ?_)); rintro e wn ⟨rfl, hbn⟩; have D : Hid (Has wn (w.heap.size) 24 #[.slice (some ⟨b, o, none⟩) xs.length c]) := Lib.hid (by first | exact D.out.below hbn D.out.here | exact D.out.drew.below hbn D.out.here); have R : Hid (Has wn (w.heap.size + 1) 31 #[.slice none 0 0]) := Lib.hid (by first | exact R.out.below hbn R.out.here | exact R.out.drew.below hbn R.out.here); have S : Hid (Has wn (gS) 31 #[.slice A0 k c0]) := Lib.hid (by first | exact S.out.below hbn S.out.here | exact S.out.drew.below hbn S.out.here); have X : Hid (Has wn (g481) 62 #[.int .u8 x.kind, .int .u8 x.a, .int .u8 x.b, .int .u8 x.c, .slice P0 x.parts.length cp]) := Lib.hid (by first | exact X.out.below hbn X.out.here | exact X.out.drew.below hbn X.out.here); have T : Hid (Has wn (g492) 67 #[.int .i64 8, .string ⟨#[]⟩, .int .i64 0, .int .i64 0, .int .i64 0, .slice none 0 0, .slice none 0 0, .int .i64 0, .int .i64 0, .bool false]) := Lib.hid (by first | exact T.out.below hbn T.out.here | exact T.out.drew.below hbn T.out.here); have O := Lib.hid (Kept.ond O.out hbn); have TO := Lib.hid (Kept.ond TO.out hbn); have hw : Below w.heap.size w wn := (by first | exact hw.trans (hbn.mono hw.size) | exact (hw.drew).trans (hbn.mono hw.size)); have cT_0 : wn.cell? ⟨g492, 0, none⟩ = some (.int .i64 8) := T.out.cell 0; have cT_4 : wn.cell? ⟨g492, 4, none⟩ = some (.int .i64 0) := T.out.cell 4; have cT_7 : wn.cell? ⟨g492, 7, none⟩ = some (.int .i64 0) := T.out.cell 7; have cT_8 : wn.cell? ⟨g492, 8, none⟩ = some (.int .i64 0) := T.out.cell 8; have fT_4 : wn.frozen? ⟨g492, 4, none⟩ = false := T.out.free 4; have fT_7 : wn.frozen? ⟨g492, 7, none⟩ = false := T.out.free 7; have fT_8 : wn.frozen? ⟨g492, 8, none⟩ = false := T.out.free 8; have cX_1 : wn.cell? ⟨g481, 1, none⟩ = some (.int .u8 x.a) := X.out.cell 1; have cX_2 : wn.cell? ⟨g481, 2, none⟩ = some (.int .u8 x.b) := X.out.cell 2; have cX_3 : wn.cell? ⟨g481, 3, none⟩ = some (.int .u8 x.c) := X.out.cell 3; have cD_0 : wn.cell? ⟨w.heap.size, 0, none⟩ = some (.slice (some ⟨b, o, none⟩) xs.length c) := D.out.cell 0))
          clear e0 e1 e2 e3
          all_goals
            clear cT_0 cT_4 cT_7 cT_8 fT_4 fT_7 fT_8 cX_1 cX_2 cX_3 cD_0
            replace D := Lib.hid (D.out.far (p := ⟨g492, 4, none⟩) (show w.heap.size ≠ g492 by omega) (.int .i64 (a4 : Int)))
            replace R := Lib.hid (R.out.far (p := ⟨g492, 4, none⟩) (show w.heap.size + 1 ≠ g492 by omega) (.int .i64 (a4 : Int)))
            replace S := Lib.hid (S.out.far (p := ⟨g492, 4, none⟩) (show gS ≠ g492 by omega) (.int .i64 (a4 : Int)))
            replace X := Lib.hid (X.out.far (p := ⟨g492, 4, none⟩) (show g481 ≠ g492 by omega) (.int .i64 (a4 : Int)))
            replace T : Hid (Has (wn.setCell ⟨g492, 4, none⟩ (.int .i64 (a4 : Int))) (g492) 67 #[.int .i64 8, .string ⟨#[]⟩, .int .i64 0, .int .i64 0, .int .i64 (a4 : Int), .slice none 0 0, .slice none 0 0, .int .i64 0, .int .i64 0, .bool false]) := Lib.hid (by have h := T.out.set 4 (.int .i64 (a4 : Int)); simpa using h)
            replace O := Lib.hid (O.out.set (g492) (show g481 ≤ g492 ∨ g492 < gS + 1 by omega) 4 (.int .i64 (a4 : Int)))
            replace TO := Lib.hid (TO.out.set (g492) (show g481 ≤ g492 ∨ g492 < gS + 1 by omega) 4 (.int .i64 (a4 : Int)))
            replace hw := below_set hw (show w.heap.size ≤ g492 by omega) 4 (.int .i64 (a4 : Int))
            generalize wn.setCell ⟨g492, 4, none⟩ (.int .i64 (a4 : Int)) = wd503 at *
            replace D := Lib.hid (D.out.far (p := ⟨g492, 7, none⟩) (show w.heap.size ≠ g492 by omega) (.int .i64 (-1)))
            replace R := Lib.hid (R.out.far (p := ⟨g492, 7, none⟩) (show w.heap.size + 1 ≠ g492 by omega) (.int .i64 (-1)))
            replace S := Lib.hid (S.out.far (p := ⟨g492, 7, none⟩) (show gS ≠ g492 by omega) (.int .i64 (-1)))
            replace X := Lib.hid (X.out.far (p := ⟨g492, 7, none⟩) (show g481 ≠ g492 by omega) (.int .i64 (-1)))
            replace T : Hid (Has (wd503.setCell ⟨g492, 7, none⟩ (.int .i64 (-1))) (g492) 67 #[.int .i64 8, .string ⟨#[]⟩, .int .i64 0, .int .i64 0, .int .i64 (a4 : Int), .slice none 0 0, .slice none 0 0, .int .i64 (-1), .int .i64 0, .bool false]) := Lib.hid (by have h := T.out.set 7 (.int .i64 (-1)); simpa using h)
            replace O := Lib.hid (O.out.set (g492) (show g481 ≤ g492 ∨ g492 < gS + 1 by omega) 7 (.int .i64 (-1)))
            replace TO := Lib.hid (TO.out.set (g492) (show g481 ≤ g492 ∨ g492 < gS + 1 by omega) 7 (.int .i64 (-1)))
            replace hw := below_set hw (show w.heap.size ≤ g492 by omega) 7 (.int .i64 (-1))
            generalize wd503.setCell ⟨g492, 7, none⟩ (.int .i64 (-1)) = wd504 at *
            replace D := Lib.hid (D.out.far (p := ⟨g492, 8, none⟩) (show w.heap.size ≠ g492 by omega) (.int .i64 (cn : Int)))
            replace R := Lib.hid (R.out.far (p := ⟨g492, 8, none⟩) (show w.heap.size + 1 ≠ g492 by omega) (.int .i64 (cn : Int)))
            replace S := Lib.hid (S.out.far (p := ⟨g492, 8, none⟩) (show gS ≠ g492 by omega) (.int .i64 (cn : Int)))
            replace X := Lib.hid (X.out.far (p := ⟨g492, 8, none⟩) (show g481 ≠ g492 by omega) (.int .i64 (cn : Int)))
            replace T : Hid (Has (wd504.setCell ⟨g492, 8, none⟩ (.int .i64 (cn : Int))) (g492) 67 #[.int .i64 8, .string ⟨#[]⟩, .int .i64 0, .int .i64 0, .int .i64 (a4 : Int), .slice none 0 0, .slice none 0 0, .int .i64 (-1), .int .i64 (cn : Int), .bool false]) := Lib.hid (by have h := T.out.set 8 (.int .i64 (cn : Int)); simpa using h)
            replace O := Lib.hid (O.out.set (g492) (show g481 ≤ g492 ∨ g492 < gS + 1 by omega) 8 (.int .i64 (cn : Int)))
            replace TO := Lib.hid (TO.out.set (g492) (show g481 ≤ g492 ∨ g492 < gS + 1 by omega) 8 (.int .i64 (cn : Int)))
            replace hw := below_set hw (show w.heap.size ≤ g492 by omega) 8 (.int .i64 (cn : Int))
            generalize wd504.setCell ⟨g492, 8, none⟩ (.int .i64 (cn : Int)) = wd505 at *
            have cT_4 : wd505.cell? ⟨g492, 4, none⟩ = some (.int .i64 (a4 : Int)) := T.out.cell 4
            have cT_7 : wd505.cell? ⟨g492, 7, none⟩ = some (.int .i64 (-1)) := T.out.cell 7
            have cT_8 : wd505.cell? ⟨g492, 8, none⟩ = some (.int .i64 (cn : Int)) := T.out.cell 8
            go_upto_region 36 with fail
            go_upto_region 39 with (refine wpList_store_row rfl 67 _ _ rfl (g492) _ rfl rfl 67 _ T.out (by kernel_rfl) rfl (by simp [Value.oneCell']) ?_)
            clear cT_4 cT_7 cT_8
            replace D := Lib.hid (has_row (cs' := #[.int .i64 7, .string ⟨#[]⟩, .int .i64 0, .int .i64 0, .int .i64 (a4 : Int), .slice none 0 0, .slice none 0 0, .int .i64 0, .int .i64 (cn : Int), .bool false]) D.out (show w.heap.size ≠ g492 by omega))
            replace R := Lib.hid (has_row (cs' := #[.int .i64 7, .string ⟨#[]⟩, .int .i64 0, .int .i64 0, .int .i64 (a4 : Int), .slice none 0 0, .slice none 0 0, .int .i64 0, .int .i64 (cn : Int), .bool false]) R.out (show w.heap.size + 1 ≠ g492 by omega))
            replace S := Lib.hid (has_row (cs' := #[.int .i64 7, .string ⟨#[]⟩, .int .i64 0, .int .i64 0, .int .i64 (a4 : Int), .slice none 0 0, .slice none 0 0, .int .i64 0, .int .i64 (cn : Int), .bool false]) S.out (show gS ≠ g492 by omega))
            replace X := Lib.hid (has_row (cs' := #[.int .i64 7, .string ⟨#[]⟩, .int .i64 0, .int .i64 0, .int .i64 (a4 : Int), .slice none 0 0, .slice none 0 0, .int .i64 0, .int .i64 (cn : Int), .bool false]) X.out (show g481 ≠ g492 by omega))
            replace T : Hid (Has (wd505.setRow (g492) #[.int .i64 7, .string ⟨#[]⟩, .int .i64 0, .int .i64 0, .int .i64 (a4 : Int), .slice none 0 0, .slice none 0 0, .int .i64 0, .int .i64 (cn : Int), .bool false]) (g492) 67 #[.int .i64 7, .string ⟨#[]⟩, .int .i64 0, .int .i64 0, .int .i64 (a4 : Int), .slice none 0 0, .slice none 0 0, .int .i64 0, .int .i64 (cn : Int), .bool false]) := Lib.hid (row_has T.out _)
            replace O := Lib.hid (O.out.row (g492) (show g481 ≤ g492 ∨ g492 < gS + 1 by omega) #[.int .i64 7, .string ⟨#[]⟩, .int .i64 0, .int .i64 0, .int .i64 (a4 : Int), .slice none 0 0, .slice none 0 0, .int .i64 0, .int .i64 (cn : Int), .bool false])
            replace TO := Lib.hid (TO.out.row (g492) (show g481 ≤ g492 ∨ g492 < gS + 1 by omega) #[.int .i64 7, .string ⟨#[]⟩, .int .i64 0, .int .i64 0, .int .i64 (a4 : Int), .slice none 0 0, .slice none 0 0, .int .i64 0, .int .i64 (cn : Int), .bool false])
            replace hw := below_setRow hw (show w.heap.size ≤ g492 by omega) #[.int .i64 7, .string ⟨#[]⟩, .int .i64 0, .int .i64 0, .int .i64 (a4 : Int), .slice none 0 0, .slice none 0 0, .int .i64 0, .int .i64 (cn : Int), .bool false]
            generalize wd505.setRow (g492) #[.int .i64 7, .string ⟨#[]⟩, .int .i64 0, .int .i64 0, .int .i64 (a4 : Int), .slice none 0 0, .slice none 0 0, .int .i64 0, .int .i64 (cn : Int), .bool false] = wd506 at *
            have cT_0 : wd506.cell? ⟨g492, 0, none⟩ = some (.int .i64 7) := T.out.cell 0
            have cT_1 : wd506.cell? ⟨g492, 1, none⟩ = some (.string ⟨#[]⟩) := T.out.cell 1
            have cT_2 : wd506.cell? ⟨g492, 2, none⟩ = some (.int .i64 0) := T.out.cell 2
            have cT_3 : wd506.cell? ⟨g492, 3, none⟩ = some (.int .i64 0) := T.out.cell 3
            have cT_4 : wd506.cell? ⟨g492, 4, none⟩ = some (.int .i64 (a4 : Int)) := T.out.cell 4
            have cT_5 : wd506.cell? ⟨g492, 5, none⟩ = some (.slice none 0 0) := T.out.cell 5
            have cT_6 : wd506.cell? ⟨g492, 6, none⟩ = some (.slice none 0 0) := T.out.cell 6
            have cT_7 : wd506.cell? ⟨g492, 7, none⟩ = some (.int .i64 0) := T.out.cell 7
            have cT_8 : wd506.cell? ⟨g492, 8, none⟩ = some (.int .i64 (cn : Int)) := T.out.cell 8
            have cT_9 : wd506.cell? ⟨g492, 9, none⟩ = some (.bool false) := T.out.cell 9
            have cS_0 : wd506.cell? ⟨gS, 0, none⟩ = some (.slice A0 k c0) := S.out.cell 0
            have fS_0 := S.out.free 0
            go_upto_region 39 with fail
            have hbase : gS + 1 ≤ wd506.heap.size := S.out.here
            go_wp2_with (at_builtin; refine wpList_append_lie rfl _ _ _ rfl (gS + 1) 67 _ 10 120 Try.underlying29 info_typ rfl (by decide) (.slice A0 k c0) k cs rfl O.out.now [.int .i64 7, .string ⟨#[]⟩, .int .i64 0, .int .i64 0, .int .i64 (a4 : Int), .slice none 0 0, .slice none 0 0, .int .i64 0, .int .i64 (cn : Int), .bool false] _ 1 _ rfl rfl rfl (by simp [Value.oneCell']) (by omega) (by omega) hbase ?_; intro g cap w3 hown3 hg3 hgat hb3; have cS_0 : w3.cell? ⟨gS, 0, none⟩ = some (.slice A0 k c0) := (S.out.below hb3 (by omega)).cell 0; have fS_0 := (S.out.below hb3 (by omega)).free 0)
            have hgsep : (Value.slice (some ⟨g, 0, none⟩) (k + 1) cap).ownBlock = (Value.slice A0 k c0).ownBlock ∨ (Value.slice (some ⟨g, 0, none⟩) (k + 1) cap).ownBlock = some (wd506.heap.size + 1) := by
              rcases hgat with h | h
              · left; rw [h]; rfl
              · right; rw [h]; rfl
            have hty := TypsOwn.snoc _ _ ({ typ0 with kind := 7, max := (a4 : Int), elem := (cn : Int) }) _ _ TO.out.now ⟨World.ownsRow_nil _ _ _ _, World.ownsRow_nil _ _ _ _⟩ (.inl rfl) (.inl rfl) HTP.out
            have hty2 := hty.grown hg3 (Nat.le_succ _) hgsep
            clear hty hg3 hgat hgsep
            clear cT_0 cT_1 cT_2 cT_3 cT_4 cT_5 cT_6 cT_7 cT_8 cT_9 cS_0 fS_0
            clear T
            clear X
            clear O
            clear TO
            replace D := Lib.hid (D.out.below hb3 (show w.heap.size < gS + 1 by omega))
            replace R := Lib.hid (R.out.below hb3 (show w.heap.size + 1 < gS + 1 by omega))
            replace S := Lib.hid (S.out.below hb3 (show gS < gS + 1 by omega))
            replace hw := hw.trans (hb3.mono (show w.heap.size ≤ gS + 1 by omega))
            have O2 := Lib.hid (Kept.own hown3)
            have TO2 := Lib.hid (Kept.typs hty2)
            clear hown3 hty2
            replace D := Lib.hid (D.out.far (p := ⟨gS, 0, none⟩) (show w.heap.size ≠ gS by omega) (.slice (some ⟨g, 0, none⟩) (k + 1) cap))
            replace R := Lib.hid (R.out.far (p := ⟨gS, 0, none⟩) (show w.heap.size + 1 ≠ gS by omega) (.slice (some ⟨g, 0, none⟩) (k + 1) cap))
            replace S : Hid (Has (w3.setCell ⟨gS, 0, none⟩ (.slice (some ⟨g, 0, none⟩) (k + 1) cap)) (gS) 31 #[.slice (some ⟨g, 0, none⟩) (k + 1) cap]) := Lib.hid (by have h := S.out.set 0 (.slice (some ⟨g, 0, none⟩) (k + 1) cap); simpa using h)
            replace O2 := Lib.hid (O2.out.set (gS) (show w3.heap.size ≤ gS ∨ gS < gS + 1 by omega) 0 (.slice (some ⟨g, 0, none⟩) (k + 1) cap))
            replace TO2 := Lib.hid (TO2.out.set (gS) (show w3.heap.size ≤ gS ∨ gS < gS + 1 by omega) 0 (.slice (some ⟨g, 0, none⟩) (k + 1) cap))
            replace hw := below_set hw (show w.heap.size ≤ gS by omega) 0 (.slice (some ⟨g, 0, none⟩) (k + 1) cap)
            generalize w3.setCell ⟨gS, 0, none⟩ (.slice (some ⟨g, 0, none⟩) (k + 1) cap) = wd507 at *
            go_wp2_with fail
            go_roundw
            case rel => exact ⟨k + 1, by omega, by go_num, _, _, D.out, R.out, S.out, O2.out.now, by rw [HTK.out]; exact TO2.out.now, hw⟩
            case measure => simp [intOf]; omega
      · skip
        rw [hkq] at hki
        have HI := Lib.hid hki
        have hty0 : typN xs k x = { typ0 with kind := 9, elem := ((x.c % xs.length : Nat) : Int) } := by unfold typN; simp [hkq]
        rw [hty0] at htk
        have HTK := Lib.hid htk
        have HTP : Hid (TypPlain { typ0 with kind := 9, elem := ((x.c % xs.length : Nat) : Int) }) := by have := typN_plain xs k x h5.2 hlt; rw [hty0] at this; exact this
        clear hki htk hty0 hkr hkq
        have hc4 : (x.c : Int) % xs.length = ((x.c % xs.length : Nat) : Int) := by push_cast; rfl
        have hc5 : x.c % xs.length < xs.length := Nat.mod_lt _ h5.1
        have hxc : (x.c : Int) < 256 := by omega
        have hz : ((xs.length : Int) == 0) = false := beq_eq_false_iff_ne.2 (by omega)
        generalize x.c % xs.length = cn at *
        have cD_0 : wr.cell? ⟨w.heap.size, 0, none⟩ = some (.slice (some ⟨b, o, none⟩) xs.length c) := D.out.cell 0
        go_upto_region 9 with fail
        clear cD_0
        have hb508 := below_al (Below.refl wr.heap.size wr) (Nat.le_refl _) (.cells #[.int .u8 x.kind, .int .u8 x.a, .int .u8 x.b, .int .u8 x.c, .slice P0 x.parts.length cp] 62)
        have X := Has.made wr 62 #[.int .u8 x.kind, .int .u8 x.a, .int .u8 x.b, .int .u8 x.c, .slice P0 x.parts.length cp]
        have hl510 := D.out.here
        have hl511 := R.out.here
        have hl512 := S.out.here
        have hl513 := O.out.le
        have hl514 := TO.out.le
        have hl515 := hw.size
        replace D := Lib.hid (D.out.below hb508 D.out.here)
        replace R := Lib.hid (R.out.below hb508 R.out.here)
        replace S := Lib.hid (S.out.below hb508 S.out.here)
        replace O := Lib.hid (O.out.on hb508)
        replace TO := Lib.hid (TO.out.on hb508)
        replace hw := hw.trans (hb508.mono hw.size)
        replace X := Lib.hid X
        clear hb508
        generalize (wr.alloc (.cells #[.int .u8 x.kind, .int .u8 x.a, .int .u8 x.b, .int .u8 x.c, .slice P0 x.parts.length cp] 62)) = wd516 at *
        generalize wr.heap.size = g509 at *
        clear n0 n1 n2 n3 n4
        have cD_0 : wd516.cell? ⟨w.heap.size, 0, none⟩ = some (.slice (some ⟨b, o, none⟩) xs.length c) := D.out.cell 0
        go_wp2_with fail
        clear cD_0
        ((with_reducible refine (HI.out _ (HR.out.on hw)).mono ?_); rintro e wd517 ⟨rfl, hb518⟩)
        replace D := Lib.hid (D.out.below hb518 D.out.here)
        replace R := Lib.hid (R.out.below hb518 R.out.here)
        replace S := Lib.hid (S.out.below hb518 S.out.here)
        replace X := Lib.hid (X.out.below hb518 X.out.here)
        replace O := Lib.hid (O.out.on hb518)
        replace TO := Lib.hid (TO.out.on hb518)
        replace hw := hw.trans (hb518.mono hw.size)
        clear hb518
        go_upto_region 10 with fail
        have hb519 := below_al (Below.refl wd517.heap.size wd517) (Nat.le_refl _) (.cells #[.int .i64 9, .string ⟨#[]⟩, .int .i64 0, .int .i64 0, .int .i64 0, .slice none 0 0, .slice none 0 0, .int .i64 0, .int .i64 0, .bool false] 67)
        have T := Has.made wd517 67 #[.int .i64 9, .string ⟨#[]⟩, .int .i64 0, .int .i64 0, .int .i64 0, .slice none 0 0, .slice none 0 0, .int .i64 0, .int .i64 0, .bool false]
        have hl521 := D.out.here
        have hl522 := R.out.here
        have hl523 := S.out.here
        have hl524 := X.out.here
        have hl525 := O.out.le
        have hl526 := TO.out.le
        have hl527 := hw.size
        replace D := Lib.hid (D.out.below hb519 D.out.here)
        replace R := Lib.hid (R.out.below hb519 R.out.here)
        replace S := Lib.hid (S.out.below hb519 S.out.here)
        replace X := Lib.hid (X.out.below hb519 X.out.here)
        replace O := Lib.hid (O.out.on hb519)
        replace TO := Lib.hid (TO.out.on hb519)
        replace hw := hw.trans (hb519.mono hw.size)
        replace T := Lib.hid T
        clear hb519
        generalize (wd517.alloc (.cells #[.int .i64 9, .string ⟨#[]⟩, .int .i64 0, .int .i64 0, .int .i64 0, .slice none 0 0, .slice none 0 0, .int .i64 0, .int .i64 0, .bool false] 67)) = wd528 at *
        generalize wd517.heap.size = g520 at *
        have cT_0 : wd528.cell? ⟨g520, 0, none⟩ = some (.int .i64 9) := T.out.cell 0
        go_wp2_with fail
        clear cT_0
        ((with_reducible refine (named_any _ _).mono ?_); rintro e wd529 ⟨rfl, rfl⟩)
        rw [show namedB 9 = false from rfl]
        have cT_0 : wd528.cell? ⟨g520, 0, none⟩ = some (.int .i64 9) := T.out.cell 0
        have cT_8 : wd528.cell? ⟨g520, 8, none⟩ = some (.int .i64 0) := T.out.cell 8
        have cX_3 : wd528.cell? ⟨g509, 3, none⟩ = some (.int .u8 x.c) := X.out.cell 3
        have fT_8 := T.out.free 8
        go_upto_region 39 with fail
        clear cT_0 cT_8 cX_3 fT_8
        replace D := Lib.hid (D.out.far (p := ⟨g520, 8, none⟩) (show w.heap.size ≠ g520 by omega) (.int .i64 (cn : Int)))
        replace R := Lib.hid (R.out.far (p := ⟨g520, 8, none⟩) (show w.heap.size + 1 ≠ g520 by omega) (.int .i64 (cn : Int)))
        replace S := Lib.hid (S.out.far (p := ⟨g520, 8, none⟩) (show gS ≠ g520 by omega) (.int .i64 (cn : Int)))
        replace X := Lib.hid (X.out.far (p := ⟨g520, 8, none⟩) (show g509 ≠ g520 by omega) (.int .i64 (cn : Int)))
        replace T : Hid (Has (wd528.setCell ⟨g520, 8, none⟩ (.int .i64 (cn : Int))) (g520) 67 #[.int .i64 9, .string ⟨#[]⟩, .int .i64 0, .int .i64 0, .int .i64 0, .slice none 0 0, .slice none 0 0, .int .i64 0, .int .i64 (cn : Int), .bool false]) := Lib.hid (by have h := T.out.set 8 (.int .i64 (cn : Int)); simpa using h)
        replace O := Lib.hid (O.out.set (g520) (show g509 ≤ g520 ∨ g520 < gS + 1 by omega) 8 (.int .i64 (cn : Int)))
        replace TO := Lib.hid (TO.out.set (g520) (show g509 ≤ g520 ∨ g520 < gS + 1 by omega) 8 (.int .i64 (cn : Int)))
        replace hw := below_set hw (show w.heap.size ≤ g520 by omega) 8 (.int .i64 (cn : Int))
        generalize wd528.setCell ⟨g520, 8, none⟩ (.int .i64 (cn : Int)) = wd531 at *
        have cT_0 : wd531.cell? ⟨g520, 0, none⟩ = some (.int .i64 9) := T.out.cell 0
        have cT_1 : wd531.cell? ⟨g520, 1, none⟩ = some (.string ⟨#[]⟩) := T.out.cell 1
        have cT_2 : wd531.cell? ⟨g520, 2, none⟩ = some (.int .i64 0) := T.out.cell 2
        have cT_3 : wd531.cell? ⟨g520, 3, none⟩ = some (.int .i64 0) := T.out.cell 3
        have cT_4 : wd531.cell? ⟨g520, 4, none⟩ = some (.int .i64 0) := T.out.cell 4
        have cT_5 : wd531.cell? ⟨g520, 5, none⟩ = some (.slice none 0 0) := T.out.cell 5
        have cT_6 : wd531.cell? ⟨g520, 6, none⟩ = some (.slice none 0 0) := T.out.cell 6
        have cT_7 : wd531.cell? ⟨g520, 7, none⟩ = some (.int .i64 0) := T.out.cell 7
        have cT_8 : wd531.cell? ⟨g520, 8, none⟩ = some (.int .i64 (cn : Int)) := T.out.cell 8
        have cT_9 : wd531.cell? ⟨g520, 9, none⟩ = some (.bool false) := T.out.cell 9
        have cS_0 : wd531.cell? ⟨gS, 0, none⟩ = some (.slice A0 k c0) := S.out.cell 0
        have fS_0 := S.out.free 0
        go_upto_region 39 with fail
        have hbase : gS + 1 ≤ wd531.heap.size := S.out.here
        go_wp2_with (at_builtin; refine wpList_append_lie rfl _ _ _ rfl (gS + 1) 67 _ 10 120 Try.underlying29 info_typ rfl (by decide) (.slice A0 k c0) k cs rfl O.out.now [.int .i64 9, .string ⟨#[]⟩, .int .i64 0, .int .i64 0, .int .i64 0, .slice none 0 0, .slice none 0 0, .int .i64 0, .int .i64 (cn : Int), .bool false] _ 1 _ rfl rfl rfl (by simp [Value.oneCell']) (by omega) (by omega) hbase ?_; intro g cap w3 hown3 hg3 hgat hb3; have cS_0 : w3.cell? ⟨gS, 0, none⟩ = some (.slice A0 k c0) := (S.out.below hb3 (by omega)).cell 0; have fS_0 := (S.out.below hb3 (by omega)).free 0)
        have hgsep : (Value.slice (some ⟨g, 0, none⟩) (k + 1) cap).ownBlock = (Value.slice A0 k c0).ownBlock ∨ (Value.slice (some ⟨g, 0, none⟩) (k + 1) cap).ownBlock = some (wd531.heap.size + 1) := by
          rcases hgat with h | h
          · left; rw [h]; rfl
          · right; rw [h]; rfl
        have hty := TypsOwn.snoc _ _ ({ typ0 with kind := 9, elem := (cn : Int) }) _ _ TO.out.now ⟨World.ownsRow_nil _ _ _ _, World.ownsRow_nil _ _ _ _⟩ (.inl rfl) (.inl rfl) HTP.out
        have hty2 := hty.grown hg3 (Nat.le_succ _) hgsep
        clear hty hg3 hgat hgsep
        clear cT_0 cT_1 cT_2 cT_3 cT_4 cT_5 cT_6 cT_7 cT_8 cT_9 cS_0 fS_0
        clear T
        clear X
        clear O
        clear TO
        replace D := Lib.hid (D.out.below hb3 (show w.heap.size < gS + 1 by omega))
        replace R := Lib.hid (R.out.below hb3 (show w.heap.size + 1 < gS + 1 by omega))
        replace S := Lib.hid (S.out.below hb3 (show gS < gS + 1 by omega))
        replace hw := hw.trans (hb3.mono (show w.heap.size ≤ gS + 1 by omega))
        have O2 := Lib.hid (Kept.own hown3)
        have TO2 := Lib.hid (Kept.typs hty2)
        clear hown3 hty2
        replace D := Lib.hid (D.out.far (p := ⟨gS, 0, none⟩) (show w.heap.size ≠ gS by omega) (.slice (some ⟨g, 0, none⟩) (k + 1) cap))
        replace R := Lib.hid (R.out.far (p := ⟨gS, 0, none⟩) (show w.heap.size + 1 ≠ gS by omega) (.slice (some ⟨g, 0, none⟩) (k + 1) cap))
        replace S : Hid (Has (w3.setCell ⟨gS, 0, none⟩ (.slice (some ⟨g, 0, none⟩) (k + 1) cap)) (gS) 31 #[.slice (some ⟨g, 0, none⟩) (k + 1) cap]) := Lib.hid (by have h := S.out.set 0 (.slice (some ⟨g, 0, none⟩) (k + 1) cap); simpa using h)
        replace O2 := Lib.hid (O2.out.set (gS) (show w3.heap.size ≤ gS ∨ gS < gS + 1 by omega) 0 (.slice (some ⟨g, 0, none⟩) (k + 1) cap))
        replace TO2 := Lib.hid (TO2.out.set (gS) (show w3.heap.size ≤ gS ∨ gS < gS + 1 by omega) 0 (.slice (some ⟨g, 0, none⟩) (k + 1) cap))
        replace hw := below_set hw (show w.heap.size ≤ gS by omega) 0 (.slice (some ⟨g, 0, none⟩) (k + 1) cap)
        generalize w3.setCell ⟨gS, 0, none⟩ (.slice (some ⟨g, 0, none⟩) (k + 1) cap) = wd532 at *
        go_wp2_with fail
        go_roundw
        case rel => exact ⟨k + 1, by omega, by go_num, _, _, D.out, R.out, S.out, O2.out.now, by rw [HTK.out]; exact TO2.out.now, hw⟩
        case measure => simp [intOf]; omega
    · obtain rfl : k = xs.length := by omega
      replace D := Lib.hid D
      replace R := Lib.hid R
      replace S := Lib.hid S
      have O := Lib.hid (Kept.own hown)
      have TO := Lib.hid (Kept.typs hto)
      clear hto hown
      have cS_0 : wr.cell? ⟨gS, 0, none⟩ = some (.slice A0 xs.length c0) := S.out.cell 0
      go_upto_region 40 with fail
      clear cS_0
      have cR_0 : wr.cell? ⟨w.heap.size + 1, 0, none⟩ = some (.slice none 0 0) := R.out.cell 0
      have cS_0 : wr.cell? ⟨gS, 0, none⟩ = some (.slice A0 xs.length c0) := S.out.cell 0
      have fR_0 := R.out.free 0
      go_wp2_with fail
      clear cR_0 cS_0 fR_0
      replace D := Lib.hid (D.out.far (p := ⟨w.heap.size + 1, 0, none⟩) (show w.heap.size ≠ w.heap.size + 1 by omega) (.slice A0 xs.length c0))
      replace S := Lib.hid (S.out.far (p := ⟨w.heap.size + 1, 0, none⟩) (show gS ≠ w.heap.size + 1 by omega) (.slice A0 xs.length c0))
      replace R : Hid (Has (wr.setCell ⟨w.heap.size + 1, 0, none⟩ (.slice A0 xs.length c0)) (w.heap.size + 1) 31 #[.slice A0 xs.length c0]) := Lib.hid (by have h := R.out.set 0 (.slice A0 xs.length c0); simpa using h)
      replace O := Lib.hid (O.out.set (w.heap.size + 1) (show wr.heap.size ≤ w.heap.size + 1 ∨ w.heap.size + 1 < gS + 1 by omega) 0 (.slice A0 xs.length c0))
      replace TO := Lib.hid (TO.out.set (w.heap.size + 1) (show wr.heap.size ≤ w.heap.size + 1 ∨ w.heap.size + 1 < gS + 1 by omega) 0 (.slice A0 xs.length c0))
      replace hw := below_set hw (show w.heap.size ≤ w.heap.size + 1 by omega) 0 (.slice A0 xs.length c0)
      generalize wr.setCell ⟨w.heap.size + 1, 0, none⟩ (.slice A0 xs.length c0) = wd533 at *
      have hrd := typs_rd (ts := ofN xs) (by rw [ofN_len]; exact O.out.now) (by have := TO.out.now; rwa [List.take_of_length_le (by rw [ofN_len]; omega)] at this)
      have HRD := Lib.hid hrd
      clear hrd
      have cR_0 : wd533.cell? ⟨w.heap.size + 1, 0, none⟩ = some (.slice A0 xs.length c0) := R.out.cell 0
      exact bodyPost_ret (v := .tuple #[.agg #[.slice A0 xs.length c0], .bool true]) (by simp [results, Try.results11, go_sem, cR_0]) rfl (⟨_, rfl, HRD.out, hw⟩)
end Go.Proofs.Ytjcoeolconelmaa

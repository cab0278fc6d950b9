/- What Of computes for a draft. No condition. -/
import Derived.Test.YtgeapglanckjpaaGU
import Derived.Deep.RegionLaw
namespace Go.Proofs.Ytgeapglanckjpaa
open Go.ChangeShapes Go.WideShapes Go.ChangeAt Go.RowKit
theorem cell_drew (w : World) (p : Addr) : w.drew.cell? p = w.cell? p := rfl
theorem own_heap2 {w w' : World} {base B g cap0 n0 : Nat} {e : TypeId} {size n : Nat} {xs : List Value} (h : w.ownsRow base e size (.slice (some ⟨g, 0, none⟩) n0 cap0) n xs) (hg : g < B) (hk : ∀ k : Nat, base ≤ k → k < B → w'.heap[k]? = w.heap[k]?) : w'.ownsRow base e size (.slice (some ⟨g, 0, none⟩) n0 cap0) n xs := by
 obtain ⟨h1, h2⟩ := h
 refine ⟨h1, ?_⟩
 rcases h2 with ⟨hv, _⟩ | ⟨g', cap, cur, hv, hb, hh, h3⟩
 ·
  cases hv
 injection hv with hv1 hv2 hv3
 injection hv1 with hv1
 injection hv1 with hv1
 subst hv1
 exact .inr ⟨g, cap, cur, by rw [hv2, hv3], hb, by rw [hk g hb hg, hh], h3⟩
theorem Kept.own2 {w : World} {base B g cap0 n0 : Nat} {e : TypeId} {size n : Nat} {xs : List Value} (h : w.ownsRow base e size (.slice (some ⟨g, 0, none⟩) n0 cap0) n xs) (hg : g < B) (hB : B ≤ w.heap.size) : Kept (fun w => w.ownsRow base e size (.slice (some ⟨g, 0, none⟩) n0 cap0) n xs) w base B :=
 ⟨h, fun _ hk => own_heap2 h hg hk, hB⟩
theorem own_cell0 {w : World} {base g n0 cap0 : Nat} {e : TypeId} {n : Nat} {xs : List Value} (h : w.ownsRow base e 1 (.slice (some ⟨g, 0, none⟩) n0 cap0) n xs) : ∀ (j : Nat) (u : Value), xs[j]? = some u → w.cell? ⟨g, j, none⟩ = some u := fun j u hu => by
 have := h.cells (g := g) rfl j u hu
 have e : (⟨g, 0, none⟩ : Addr).add j = ⟨g, j, none⟩ := by unfold Addr.add; split <;> simp_all
 rwa [e] at this
theorem sep_of {w : World} {base : Nat} {e : TypeId} {size n : Nat} {v : Value} {xs : List Value} (h : w.ownsRow base e size v n xs) {r : Option Nat} (hr : ∀ k, r = some k → k < base) : sepR v r := by
 cases hv : v.ownBlock with
 | none => exact .inl hv
 | some k =>
  right
  rw [hv]
  intro he
  have h1 := (h.lt k hv).1
  have h2 := hr k he.symm
  omega
theorem nm1_of (c : Nat) (y : Int) : nm1 c y = [UInt8.ofNat c, UInt8.ofNat (97 + y).toNat] := rfl
theorem typs_kept {w : World} {L base B : Nat} {r : Option Nat} {v : Value} {ts : List Typ} {cs : List Value} (hO : Kept (fun w => w.ownsRow base 64 10 v ts.length cs) w base B) (hT : Kept (fun w => TypsOwn w base r ts cs) w base B) (hL : L ≤ base) : Kept (fun w => RdTyps w w.heap.size v ts) w L w.heap.size :=
 ⟨typs_rd hO.now hT.now, fun w' hk => typs_rd (hO.st w' (fun k h1 h2 => hk k (Nat.le_trans hL h1) (Nat.lt_of_lt_of_le h2 hO.le))) (hT.st w' (fun k h1 h2 => hk k (Nat.le_trans hL h1) (Nat.lt_of_lt_of_le h2 hO.le))), Nat.le_refl _⟩
def OfPost (xs : List Nod) (w : World) (e : Ending) (w' : World) : Prop := ∃ v, e = .returned (.tuple #[.agg #[v], .bool true]) ∧ Kept (fun w => RdTyps w w.heap.size v (ofN xs)) w' w.heap.size w'.heap.size ∧ Below w.heap.size w w'
def OfInv (w wr : World) (gS : Nat) (vn : Value) (xs : List Nod) (k : Nat) : Prop :=
 ∃ v cs, Has wr w.heap.size 24 #[vn] ∧ Has wr (w.heap.size + 1) 30 #[.slice none 0 0] ∧ Has wr gS 30 #[v] ∧
  wr.ownsRow (gS + 1) 64 10 v k cs ∧ TypsOwn wr (gS + 1) v.ownBlock ((ofN xs).take k) cs ∧ Below w.heap.size w wr
theorem info_sym : (Try.prog.info? 80).map (fun i => (i.zero, i.size, i.bytes)) = some (some (.agg #[.int .i64 0, .string ByteArray.empty]), 2, 24) := by kernel_rfl
theorem info_typ : (Try.prog.info? 64).map (fun i => (i.zero, i.size, i.bytes)) = some (some (.agg #[.int .i64 0, .string ByteArray.empty, .int .i64 0, .int .i64 0, .int .i64 0, .slice none 0 0, .slice none 0 0, .int .i64 0, .int .i64 0, .bool false]), 10, 120) := by kernel_rfl
set_option maxRecDepth 100000 in
set_option maxHeartbeats 400000 in
theorem of_no (xs : List Nod) (vn : Value) (w : World) (hno : ofOk xs = false) (hr : RdNods w w.heap.size vn xs) :
  Calls Try.prog 16 #[.agg #[vn]] w fun e w' => e = .returned (.tuple #[.agg #[.slice none 0 0], .bool false]) ∧ Below w.heap.size w w' := by
 obtain ⟨A, c, rfl, hcap⟩ := hr.form
 by_cases h1 : xs.length < 1
 ·
  have t1 : decide ((xs.length : Int) < 1) = true := decide_eq_true (by omega)
  have t0 : (xs.length : Int) < 1 := by omega
  clear hno h1 hr
  go_enter Try.func16, Try.ntmps16
  go_upto_region 1 with fail
  obtain ⟨wd1437, hE1438⟩ : ∃ ww, ww = w.alloc (.cells #[.slice A xs.length c] 24) := ⟨_, rfl⟩
  rw [← hE1438]
  have hb1436 := aB hE1438
  have D := aN hE1438
  obtain ⟨wd1439, hE1440⟩ : ∃ ww, ww = wd1437.alloc (.cells #[.slice none 0 0] 30) := ⟨_, rfl⟩
  rw [← hE1440]
  replace D := dB D (aB hE1440)
  replace hb1436 := dT hb1436 (aB hE1440)
  have R := aM hE1440 (aZ hE1438 rfl)
  clear hE1438 hE1440
  have hw1441 := hb1436
  clear hb1436
  have cD_0 : wd1439.cell? ⟨w.heap.size, 0, none⟩ = some (.slice A xs.length c) := D.out.cell 0
  go_upto_region 3 with fail
  clear cD_0
  have cR_0 : wd1439.cell? ⟨w.heap.size + 1, 0, none⟩ = some (.slice none 0 0) := R.out.cell 0
  have fR_0 := R.out.free 0
  go_wp2_with fail
  clear cR_0 fR_0
  obtain ⟨wd1442, hE1443⟩ : ∃ ww, ww = wd1439.setCell ⟨w.heap.size + 1, 0, none⟩ (.slice none 0 0) := ⟨_, rfl⟩
  rw [← hE1443]
  replace D := dF D hE1443 (by omega)
  replace R : Hid (Has wd1442 (w.heap.size + 1) 30 #[.slice none 0 0]) := Lib.hid (by simpa using dS R hE1443)
  replace hw1441 := tF hw1441 hE1443 (by omega)
  clear hE1443
  have cR_0 : wd1442.cell? ⟨w.heap.size + 1, 0, none⟩ = some (.slice none 0 0) := R.out.cell 0
  exact bodyPost_ret (v := .tuple #[.agg #[.slice none 0 0], .bool false]) (by simp [results, Try.results16, go_sem, cR_0]) rfl (⟨rfl, hw1441⟩)
 have t1 : decide ((xs.length : Int) < 1) = false := decide_eq_false (by omega)
 have t2 : decide (5 < (xs.length : Int)) = true := by
  refine decide_eq_true ?_
  unfold ofOk at hno
  simp at hno
  omega
 have t0 : (1 : Int) ≤ xs.length := by omega
 clear hno h1 hr
 go_enter Try.func16, Try.ntmps16
 go_upto_region 1 with fail
 obtain ⟨wd1445, hE1446⟩ : ∃ ww, ww = w.alloc (.cells #[.slice A xs.length c] 24) := ⟨_, rfl⟩
 rw [← hE1446]
 have hb1444 := aB hE1446
 have D := aN hE1446
 obtain ⟨wd1447, hE1448⟩ : ∃ ww, ww = wd1445.alloc (.cells #[.slice none 0 0] 30) := ⟨_, rfl⟩
 rw [← hE1448]
 replace D := dB D (aB hE1448)
 replace hb1444 := dT hb1444 (aB hE1448)
 have R := aM hE1448 (aZ hE1446 rfl)
 clear hE1446 hE1448
 have hw1449 := hb1444
 clear hb1444
 have cD_0 : wd1447.cell? ⟨w.heap.size, 0, none⟩ = some (.slice A xs.length c) := D.out.cell 0
 go_upto_region 3 with fail
 clear cD_0
 have cR_0 : wd1447.cell? ⟨w.heap.size + 1, 0, none⟩ = some (.slice none 0 0) := R.out.cell 0
 have fR_0 := R.out.free 0
 go_wp2_with fail
 clear cR_0 fR_0
 obtain ⟨wd1450, hE1451⟩ : ∃ ww, ww = wd1447.setCell ⟨w.heap.size + 1, 0, none⟩ (.slice none 0 0) := ⟨_, rfl⟩
 rw [← hE1451]
 replace D := dF D hE1451 (by omega)
 replace R : Hid (Has wd1450 (w.heap.size + 1) 30 #[.slice none 0 0]) := Lib.hid (by simpa using dS R hE1451)
 replace hw1449 := tF hw1449 hE1451 (by omega)
 clear hE1451
 have cR_0 : wd1450.cell? ⟨w.heap.size + 1, 0, none⟩ = some (.slice none 0 0) := R.out.cell 0
 exact bodyPost_ret (v := .tuple #[.agg #[.slice none 0 0], .bool false]) (by simp [results, Try.results16, go_sem, cR_0]) rfl (⟨rfl, hw1449⟩)
set_option maxRecDepth 100000 in
set_option maxHeartbeats 4000000 in
theorem of_yes (xs : List Nod) (vn : Value) (w : World) (h5 : 0 < xs.length ∧ xs.length ≤ 5) (hr : RdNods w w.heap.size vn xs) :
  Calls Try.prog 16 #[.agg #[vn]] w (OfPost xs w) := by
 obtain ⟨A, c, rfl, hcap⟩ := hr.form
 have t1 : decide ((xs.length : Int) < 1) = false := decide_eq_false (by omega)
 have t2 : decide (5 < (xs.length : Int)) = false := decide_eq_false (by omega)
 have t0 : (1 : Int) ≤ xs.length ∧ (xs.length : Int) ≤ 5 := by omega
 obtain ⟨b, o, rfl, hb, hel⟩ := hr.elem h5.1
 have HR := Lib.hid hr
 have HE := Lib.hid hel
 clear hr hel
 go_enter Try.func16, Try.ntmps16
 go_upto_region 1 with fail
 obtain ⟨wd1453, hE1454⟩ : ∃ ww, ww = w.alloc (.cells #[.slice (some ⟨b, o, none⟩) xs.length c] 24) := ⟨_, rfl⟩
 rw [← hE1454]
 have hb1452 := aB hE1454
 have D := aN hE1454
 obtain ⟨wd1455, hE1456⟩ : ∃ ww, ww = wd1453.alloc (.cells #[.slice none 0 0] 30) := ⟨_, rfl⟩
 rw [← hE1456]
 replace D := dB D (aB hE1456)
 replace hb1452 := dT hb1452 (aB hE1456)
 have R := aM hE1456 (aZ hE1454 rfl)
 clear hE1454 hE1456
 have hw1457 := hb1452
 clear hb1452
 have cD_0 : wd1455.cell? ⟨w.heap.size, 0, none⟩ = some (.slice (some ⟨b, o, none⟩) xs.length c) := D.out.cell 0
 go_upto_region 5 with fail
 clear cD_0
 obtain ⟨wd1459, hE1460⟩ : ∃ ww, ww = wd1455.alloc (.cells #[.slice none 0 0] 30) := ⟨_, rfl⟩
 rw [← hE1460]
 have hb1458 := aB hE1460
 have S := aN hE1460
 clear hE1460
 have hl1462 := D.out.here
 have hl1463 := R.out.here
 have hl1464 := hw1457.size
 replace D := dB D hb1458
 replace R := dB R hb1458
 replace hw1457 := dT hw1457 hb1458
 clear hb1458
 generalize wd1455.heap.size = g1461 at *
 go_upto_region 6 with fail
 have hgS : w.heap.size + 1 < g1461 := by omega
 obtain ⟨gS, hgSe⟩ : ∃ g, g = g1461 := ⟨_, rfl⟩
 rw [← hgSe] at hgS S
 rw [← hgSe]
 clear hgSe
 go_loopw [6] (fun i wr => ∃ k : Nat, k ≤ xs.length ∧ i = .int .i64 k ∧ OfInv w wr gS (.slice (some ⟨b, o, none⟩) xs.length c) xs k)
  (fun i _ => xs.length - (intOf i).toNat)
 case atStart => exact ⟨0, by omega, rfl, _, [], D.out, R.out, S.out, World.ownsRow_nil _ _ _ _, .nil, hw1457⟩
 case round =>
  obtain ⟨k, hk, rfl, v, cs, D, R, S, hown, hto, hw⟩ := hrel
  obtain ⟨A0, c0, rfl⟩ := own_form hown
  by_cases hlt : k < xs.length
  ·
   skip
   replace D := Lib.hid D
   replace R := Lib.hid R
   replace S := Lib.hid S
   have O := Lib.hid (Kept.own hown)
   have TO := Lib.hid (Kept.typs hto)
   clear hto hown
   obtain ⟨vp, hcs, hn⟩ := HE.out k hlt
   obtain ⟨P0, cp, rfl, hcp⟩ := hn.parts.form
   obtain ⟨m0, m1, m2, m3, m4⟩ := hcs
   have n0 := (hw.cell (p := ⟨b, _, none⟩) hb).trans m0
   have n1 := (hw.cell (p := ⟨b, _, none⟩) hb).trans m1
   have n2 := (hw.cell (p := ⟨b, _, none⟩) hb).trans m2
   have n3 := (hw.cell (p := ⟨b, _, none⟩) hb).trans m3
   have n4 := (hw.cell (p := ⟨b, _, none⟩) hb).trans m4
   have hlt1 : (k : Int) < xs.length := by omega
   have hki := fun W h => kind_any xs (.slice (some ⟨b, o, none⟩) xs.length c) k W hlt h
   have htk := ofN_take xs k hlt
   have hparts := fun rc W h => parts_any xs (.slice (some ⟨b, o, none⟩) xs.length c) k rc W h5 hlt h
   have hkr := kindN_in xs[k]
   have hint := hn.ints
   clear m0 m1 m2 m3 m4 hn
   generalize xs[k] = x at *
   have HPA := Lib.hid hparts
   clear hparts
   have hkk : kindN x = 1 ∨ kindN x = 2 ∨ kindN x = 3 ∨ kindN x = 4 ∨ kindN x = 5 ∨ kindN x = 6 ∨ kindN x = 7 ∨ kindN x = 8 ∨ kindN x = 9 := by omega
   rcases hkk with hkq | hkq | hkq | hkq | hkq | hkq | hkq | hkq | hkq
   ·
    skip
    rw [hkq] at hki
    have HI := Lib.hid hki
    have hty0 : typN xs k x = { typ0 with kind := 1 } := by unfold typN; simp [hkq]
    rw [hty0] at htk
    have HTK := Lib.hid htk
    have HTP : Hid (TypPlain { typ0 with kind := 1 }) := by have := typN_plain xs k x h5.2 hlt; rw [hty0] at this; exact this
    clear hki htk hty0 hkr hkq
    have cD_0 : wr.cell? ⟨w.heap.size, 0, none⟩ = some (.slice (some ⟨b, o, none⟩) xs.length c) := D.out.cell 0
    go_upto_region 9 with fail
    clear cD_0
    obtain ⟨wd1466, hE1467⟩ : ∃ ww, ww = wr.alloc (.cells #[.int .u8 x.kind, .int .u8 x.a, .int .u8 x.b, .int .u8 x.c, .slice P0 x.parts.length cp] 74) := ⟨_, rfl⟩
    rw [← hE1467]
    have hb1465 := aB hE1467
    have X := aN hE1467
    clear hE1467
    have hl1469 := D.out.here
    have hl1470 := R.out.here
    have hl1471 := S.out.here
    have hl1472 := O.out.le
    have hl1473 := TO.out.le
    have hl1474 := hw.size
    replace D := dB D hb1465
    replace R := dB R hb1465
    replace S := dB S hb1465
    replace O := dK O hb1465
    replace TO := dK TO hb1465
    replace hw := dT hw hb1465
    clear hb1465
    generalize wr.heap.size = g1468 at *
    clear n0 n1 n2 n3 n4
    have cD_0 : wd1466.cell? ⟨w.heap.size, 0, none⟩ = some (.slice (some ⟨b, o, none⟩) xs.length c) := D.out.cell 0
    go_wp2_with fail
    clear cD_0
    ((with_reducible refine (HI.out _ (HR.out.on hw)).mono ?_); rintro e wd1475 ⟨rfl, hb1476⟩)
    replace D := dB D hb1476
    replace R := dB R hb1476
    replace S := dB S hb1476
    replace X := dB X hb1476
    replace O := dK O hb1476
    replace TO := dK TO hb1476
    replace hw := dT hw hb1476
    clear hb1476
    go_upto_region 10 with fail
    obtain ⟨wd1478, hE1479⟩ : ∃ ww, ww = wd1475.alloc (.cells #[.int .i64 1, .string ⟨#[]⟩, .int .i64 0, .int .i64 0, .int .i64 0, .slice none 0 0, .slice none 0 0, .int .i64 0, .int .i64 0, .bool false] 64) := ⟨_, rfl⟩
    rw [← hE1479]
    have hb1477 := aB hE1479
    have T := aN hE1479
    clear hE1479
    have hl1481 := D.out.here
    have hl1482 := R.out.here
    have hl1483 := S.out.here
    have hl1484 := X.out.here
    have hl1485 := O.out.le
    have hl1486 := TO.out.le
    have hl1487 := hw.size
    replace D := dB D hb1477
    replace R := dB R hb1477
    replace S := dB S hb1477
    replace X := dB X hb1477
    replace O := dK O hb1477
    replace TO := dK TO hb1477
    replace hw := dT hw hb1477
    clear hb1477
    generalize wd1475.heap.size = g1480 at *
    have cT_0 : wd1478.cell? ⟨g1480, 0, none⟩ = some (.int .i64 1) := T.out.cell 0
    go_wp2_with fail
    clear cT_0
    ((with_reducible refine (named_any _ _).mono ?_); rintro e wd1488 ⟨rfl, rfl⟩)
    rw [show namedB 1 = false from rfl]
    obtain ⟨cT_0, cT_1, cT_2, cT_3, cT_4, cT_5, cT_6, cT_7, cT_8, cT_9⟩ := T.out.c10
    have cS_0 : wd1478.cell? ⟨gS, 0, none⟩ = some (.slice A0 k c0) := S.out.cell 0
    have fS_0 := S.out.free 0
    go_upto_region 39 with fail
    have hbase : gS + 1 ≤ wd1478.heap.size := S.out.here
    go_wp2_with (at_builtin; refine wpList_append_lie rfl _ _ _ rfl (gS + 1) 64 _ 10 120 Try.underlying28 info_typ rfl (by decide) (.slice A0 k c0) k cs rfl O.out.now [.int .i64 1, .string ⟨#[]⟩, .int .i64 0, .int .i64 0, .int .i64 0, .slice none 0 0, .slice none 0 0, .int .i64 0, .int .i64 0, .bool false] _ 1 _ rfl rfl rfl (by simp [Value.oneCell']) (by omega) (by omega) hbase ?_; intro g cap w3 hown3 hg3 hgat hb3; have cS_0 : w3.cell? ⟨gS, 0, none⟩ = some (.slice A0 k c0) := (S.out.below hb3 (by omega)).cell 0; have fS_0 := (S.out.below hb3 (by omega)).free 0)
    have hgsep : (Value.slice (some ⟨g, 0, none⟩) (k + 1) cap).ownBlock = (Value.slice A0 k c0).ownBlock ∨ (Value.slice (some ⟨g, 0, none⟩) (k + 1) cap).ownBlock = some (wd1478.heap.size + 1) := by
     rcases hgat with h | h
     ·
      left; rw [h]; rfl
     right; rw [h]; rfl
    have hty := TypsOwn.snoc _ _ ({ typ0 with kind := 1 }) _ _ TO.out.now ⟨World.ownsRow_nil _ _ _ _, World.ownsRow_nil _ _ _ _⟩ (.inl rfl) (.inl rfl) HTP.out
    have hty2 := hty.grown hg3 (Nat.le_succ _) hgsep
    clear hty hg3 hgat hgsep
    clear cT_0 cT_1 cT_2 cT_3 cT_4 cT_5 cT_6 cT_7 cT_8 cT_9 cS_0 fS_0
    clear T
    clear X
    clear O
    clear TO
    replace D := Lib.hid (D.out.below hb3 (show w.heap.size < gS + 1 by omega))
    replace R := Lib.hid (R.out.below hb3 (show w.heap.size + 1 < gS + 1 by omega))
    replace S := Lib.hid (S.out.below hb3 (show gS < gS + 1 by omega))
    replace hw := hw.trans (hb3.mono (show w.heap.size ≤ gS + 1 by omega))
    have O2 := Lib.hid (Kept.own hown3)
    have TO2 := Lib.hid (Kept.typs hty2)
    clear hown3 hty2
    obtain ⟨wd1490, hE1491⟩ : ∃ ww, ww = w3.setCell ⟨gS, 0, none⟩ (.slice (some ⟨g, 0, none⟩) (k + 1) cap) := ⟨_, rfl⟩
    rw [← hE1491]
    replace D := dF D hE1491 (by omega)
    replace R := dF R hE1491 (by omega)
    replace S : Hid (Has wd1490 (gS) 30 #[.slice (some ⟨g, 0, none⟩) (k + 1) cap]) := Lib.hid (by simpa using dS S hE1491)
    replace O2 := kF O2 hE1491 (by omega)
    replace TO2 := kF TO2 hE1491 (by omega)
    replace hw := tF hw hE1491 (by omega)
    clear hE1491
    go_wp2_with fail
    go_roundw
    case rel => exact ⟨k + 1, by omega, by go_num, _, _, D.out, R.out, S.out, O2.out.now, by rw [HTK.out]; exact TO2.out.now, hw⟩
    case measure => simp [intOf]; omega
   ·
    skip
    rw [hkq] at hki
    have HI := Lib.hid hki
    have hty0 : typN xs k x = { typ0 with kind := 2, low := lowN x, high := highN x } := by unfold typN; simp [hkq]
    rw [hty0] at htk
    have HTK := Lib.hid htk
    have HTP : Hid (TypPlain { typ0 with kind := 2, low := lowN x, high := highN x }) := by have := typN_plain xs k x h5.2 hlt; rw [hty0] at this; exact this
    clear hki htk hty0 hkr hkq
    have hlo := fun W => low_any x (.slice P0 x.parts.length cp) W hint.2.1
    have hhi := fun W => high_any x (.slice P0 x.parts.length cp) W hint.2.1 hint.2.2.1
    have HLO := Lib.hid hlo
    have HHI := Lib.hid hhi
    clear hlo hhi
    have cD_0 : wr.cell? ⟨w.heap.size, 0, none⟩ = some (.slice (some ⟨b, o, none⟩) xs.length c) := D.out.cell 0
    go_upto_region 9 with fail
    clear cD_0
    obtain ⟨wd1493, hE1494⟩ : ∃ ww, ww = wr.alloc (.cells #[.int .u8 x.kind, .int .u8 x.a, .int .u8 x.b, .int .u8 x.c, .slice P0 x.parts.length cp] 74) := ⟨_, rfl⟩
    rw [← hE1494]
    have hb1492 := aB hE1494
    have X := aN hE1494
    clear hE1494
    have hl1496 := D.out.here
    have hl1497 := R.out.here
    have hl1498 := S.out.here
    have hl1499 := O.out.le
    have hl1500 := TO.out.le
    have hl1501 := hw.size
    replace D := dB D hb1492
    replace R := dB R hb1492
    replace S := dB S hb1492
    replace O := dK O hb1492
    replace TO := dK TO hb1492
    replace hw := dT hw hb1492
    clear hb1492
    generalize wr.heap.size = g1495 at *
    clear n0 n1 n2 n3 n4
    have cD_0 : wd1493.cell? ⟨w.heap.size, 0, none⟩ = some (.slice (some ⟨b, o, none⟩) xs.length c) := D.out.cell 0
    go_wp2_with fail
    clear cD_0
    ((with_reducible refine (HI.out _ (HR.out.on hw)).mono ?_); rintro e wd1502 ⟨rfl, hb1503⟩)
    replace D := dB D hb1503
    replace R := dB R hb1503
    replace S := dB S hb1503
    replace X := dB X hb1503
    replace O := dK O hb1503
    replace TO := dK TO hb1503
    replace hw := dT hw hb1503
    clear hb1503
    go_upto_region 10 with fail
    obtain ⟨wd1505, hE1506⟩ : ∃ ww, ww = wd1502.alloc (.cells #[.int .i64 2, .string ⟨#[]⟩, .int .i64 0, .int .i64 0, .int .i64 0, .slice none 0 0, .slice none 0 0, .int .i64 0, .int .i64 0, .bool false] 64) := ⟨_, rfl⟩
    rw [← hE1506]
    have hb1504 := aB hE1506
    have T := aN hE1506
    clear hE1506
    have hl1508 := D.out.here
    have hl1509 := R.out.here
    have hl1510 := S.out.here
    have hl1511 := X.out.here
    have hl1512 := O.out.le
    have hl1513 := TO.out.le
    have hl1514 := hw.size
    replace D := dB D hb1504
    replace R := dB R hb1504
    replace S := dB S hb1504
    replace X := dB X hb1504
    replace O := dK O hb1504
    replace TO := dK TO hb1504
    replace hw := dT hw hb1504
    clear hb1504
    generalize wd1502.heap.size = g1507 at *
    have cT_0 : wd1505.cell? ⟨g1507, 0, none⟩ = some (.int .i64 2) := T.out.cell 0
    go_wp2_with fail
    clear cT_0
    ((with_reducible refine (named_any _ _).mono ?_); rintro e wd1515 ⟨rfl, rfl⟩)
    rw [show namedB 2 = false from rfl]
    have cT_0 : wd1505.cell? ⟨g1507, 0, none⟩ = some (.int .i64 2) := T.out.cell 0
    go_upto_region 14 with fail
    have cT_2 : wd1505.cell? ⟨g1507, 2, none⟩ = some (.int .i64 0) := T.out.cell 2
    have cT_3 : wd1505.cell? ⟨g1507, 3, none⟩ = some (.int .i64 0) := T.out.cell 3
    have fT_2 := T.out.free 2
    have fT_3 := T.out.free 3
    have cX_0 : wd1505.cell? ⟨g1495, 0, none⟩ = some (.int .u8 x.kind) := X.out.cell 0
    have cX_1 : wd1505.cell? ⟨g1495, 1, none⟩ = some (.int .u8 x.a) := X.out.cell 1
    have cX_2 : wd1505.cell? ⟨g1495, 2, none⟩ = some (.int .u8 x.b) := X.out.cell 2
    have cX_3 : wd1505.cell? ⟨g1495, 3, none⟩ = some (.int .u8 x.c) := X.out.cell 3
    have cX_4 : wd1505.cell? ⟨g1495, 4, none⟩ = some (.slice P0 x.parts.length cp) := X.out.cell 4
    go_region_held3 (fun w' => w'.cell? ⟨g1495, 0, none⟩ = some (.int .u8 x.kind) ∧ w'.cell? ⟨g1495, 1, none⟩ = some (.int .u8 x.a) ∧ w'.cell? ⟨g1495, 2, none⟩ = some (.int .u8 x.b) ∧ w'.cell? ⟨g1495, 3, none⟩ = some (.int .u8 x.c) ∧ w'.cell? ⟨g1495, 4, none⟩ = some (.slice P0 x.parts.length cp)) (first | (go_keep; done) | exact ⟨cX_0, cX_1, cX_2, cX_3, cX_4⟩ | (((repeat' apply And.intro) <;> ((repeat (with_reducible (first | refine Eq.trans (cell_drew _ _) ?_ | refine Eq.trans (cell_far _ _ _ _ _ (by dsimp only; omega)) ?_))); assumption)); done))
     (first
      | (go_at_call 35; (first | (with_reducible refine (HLO.out _).mono ?_)); rintro e wn ⟨rfl, hbn⟩; have D : Hid (Has wn (w.heap.size) 24 #[.slice (some ⟨b, o, none⟩) xs.length c]) := Lib.hid (by first | exact D.out.below hbn D.out.here | exact D.out.drew.below hbn D.out.here); have R : Hid (Has wn (w.heap.size + 1) 30 #[.slice none 0 0]) := Lib.hid (by first | exact R.out.below hbn R.out.here | exact R.out.drew.below hbn R.out.here); have S : Hid (Has wn (gS) 30 #[.slice A0 k c0]) := Lib.hid (by first | exact S.out.below hbn S.out.here | exact S.out.drew.below hbn S.out.here); have X : Hid (Has wn (g1495) 74 #[.int .u8 x.kind, .int .u8 x.a, .int .u8 x.b, .int .u8 x.c, .slice P0 x.parts.length cp]) := Lib.hid (by first | exact X.out.below hbn X.out.here | exact X.out.drew.below hbn X.out.here); have T : Hid (Has wn (g1507) 64 #[.int .i64 2, .string ⟨#[]⟩, .int .i64 0, .int .i64 0, .int .i64 0, .slice none 0 0, .slice none 0 0, .int .i64 0, .int .i64 0, .bool false]) := Lib.hid (by first | exact T.out.below hbn T.out.here | exact T.out.drew.below hbn T.out.here); have O := Lib.hid (Kept.ond O.out hbn); have TO := Lib.hid (Kept.ond TO.out hbn); have hw : Below w.heap.size w wn := (by first | exact hw.trans (hbn.mono hw.size) | exact (hw.drew).trans (hbn.mono hw.size)); have cT_0 : wn.cell? ⟨g1507, 0, none⟩ = some (.int .i64 2) := T.out.cell 0; have cT_2 : wn.cell? ⟨g1507, 2, none⟩ = some (.int .i64 0) := T.out.cell 2; have cT_3 : wn.cell? ⟨g1507, 3, none⟩ = some (.int .i64 0) := T.out.cell 3; have fT_2 : wn.frozen? ⟨g1507, 2, none⟩ = false := T.out.free 2; have fT_3 : wn.frozen? ⟨g1507, 3, none⟩ = false := T.out.free 3; have cX_0 : wn.cell? ⟨g1495, 0, none⟩ = some (.int .u8 x.kind) := X.out.cell 0; have cX_1 : wn.cell? ⟨g1495, 1, none⟩ = some (.int .u8 x.a) := X.out.cell 1; have cX_2 : wn.cell? ⟨g1495, 2, none⟩ = some (.int .u8 x.b) := X.out.cell 2; have cX_3 : wn.cell? ⟨g1495, 3, none⟩ = some (.int .u8 x.c) := X.out.cell 3; have cX_4 : wn.cell? ⟨g1495, 4, none⟩ = some (.slice P0 x.parts.length cp) := X.out.cell 4)
      | (go_at_call 36; (first | (with_reducible refine (HHI.out _).mono ?_)); rintro e wn ⟨rfl, hbn⟩; have D : Hid (Has wn (w.heap.size) 24 #[.slice (some ⟨b, o, none⟩) xs.length c]) := Lib.hid (by first | exact D.out.below hbn D.out.here | exact D.out.drew.below hbn D.out.here); have R : Hid (Has wn (w.heap.size + 1) 30 #[.slice none 0 0]) := Lib.hid (by first | exact R.out.below hbn R.out.here | exact R.out.drew.below hbn R.out.here); have S : Hid (Has wn (gS) 30 #[.slice A0 k c0]) := Lib.hid (by first | exact S.out.below hbn S.out.here | exact S.out.drew.below hbn S.out.here); have X : Hid (Has wn (g1495) 74 #[.int .u8 x.kind, .int .u8 x.a, .int .u8 x.b, .int .u8 x.c, .slice P0 x.parts.length cp]) := Lib.hid (by first | exact X.out.below hbn X.out.here | exact X.out.drew.below hbn X.out.here); have T : Hid (Has wn (g1507) 64 #[.int .i64 2, .string ⟨#[]⟩, .int .i64 0, .int .i64 0, .int .i64 0, .slice none 0 0, .slice none 0 0, .int .i64 0, .int .i64 0, .bool false]) := Lib.hid (by first | exact T.out.below hbn T.out.here | exact T.out.drew.below hbn T.out.here); have O := Lib.hid (Kept.ond O.out hbn); have TO := Lib.hid (Kept.ond TO.out hbn); have hw : Below w.heap.size w wn := (by first | exact hw.trans (hbn.mono hw.size) | exact (hw.drew).trans (hbn.mono hw.size)); have cT_0 : wn.cell? ⟨g1507, 0, none⟩ = some (.int .i64 2) := T.out.cell 0; have cT_2 : wn.cell? ⟨g1507, 2, none⟩ = some (.int .i64 0) := T.out.cell 2; have cT_3 : wn.cell? ⟨g1507, 3, none⟩ = some (.int .i64 0) := T.out.cell 3; have fT_2 : wn.frozen? ⟨g1507, 2, none⟩ = false := T.out.free 2; have fT_3 : wn.frozen? ⟨g1507, 3, none⟩ = false := T.out.free 3; have cX_0 : wn.cell? ⟨g1495, 0, none⟩ = some (.int .u8 x.kind) := X.out.cell 0; have cX_1 : wn.cell? ⟨g1495, 1, none⟩ = some (.int .u8 x.a) := X.out.cell 1; have cX_2 : wn.cell? ⟨g1495, 2, none⟩ = some (.int .u8 x.b) := X.out.cell 2; have cX_3 : wn.cell? ⟨g1495, 3, none⟩ = some (.int .u8 x.c) := X.out.cell 3; have cX_4 : wn.cell? ⟨g1495, 4, none⟩ = some (.slice P0 x.parts.length cp) := X.out.cell 4))
    all_goals
     clear cT_0 cT_2 cT_3 fT_2 fT_3 cX_0 cX_1 cX_2 cX_3 cX_4
     obtain ⟨wd1517, hE1518⟩ : ∃ ww, ww = wn.setCell ⟨g1507, 2, none⟩ (.int .i64 (lowN x)) := ⟨_, rfl⟩
     rw [← hE1518]
     replace D := dF D hE1518 (by omega)
     replace R := dF R hE1518 (by omega)
     replace S := dF S hE1518 (by omega)
     replace X := dF X hE1518 (by omega)
     replace T : Hid (Has wd1517 (g1507) 64 #[.int .i64 2, .string ⟨#[]⟩, .int .i64 (lowN x), .int .i64 0, .int .i64 0, .slice none 0 0, .slice none 0 0, .int .i64 0, .int .i64 0, .bool false]) := Lib.hid (by simpa using dS T hE1518)
     replace O := kF O hE1518 (by omega)
     replace TO := kF TO hE1518 (by omega)
     replace hw := tF hw hE1518 (by omega)
     clear hE1518
     obtain ⟨wd1519, hE1520⟩ : ∃ ww, ww = wd1517.setCell ⟨g1507, 3, none⟩ (.int .i64 (highN x)) := ⟨_, rfl⟩
     rw [← hE1520]
     replace D := dF D hE1520 (by omega)
     replace R := dF R hE1520 (by omega)
     replace S := dF S hE1520 (by omega)
     replace X := dF X hE1520 (by omega)
     replace T : Hid (Has wd1519 (g1507) 64 #[.int .i64 2, .string ⟨#[]⟩, .int .i64 (lowN x), .int .i64 (highN x), .int .i64 0, .slice none 0 0, .slice none 0 0, .int .i64 0, .int .i64 0, .bool false]) := Lib.hid (by simpa using dS T hE1520)
     replace O := kF O hE1520 (by omega)
     replace TO := kF TO hE1520 (by omega)
     replace hw := tF hw hE1520 (by omega)
     clear hE1520
     obtain ⟨cT_0, cT_1, cT_2, cT_3, cT_4, cT_5, cT_6, cT_7, cT_8, cT_9⟩ := T.out.c10
     have cS_0 : wd1519.cell? ⟨gS, 0, none⟩ = some (.slice A0 k c0) := S.out.cell 0
     have fS_0 := S.out.free 0
     go_upto_region 39 with fail
     have hbase : gS + 1 ≤ wd1519.heap.size := S.out.here
     go_wp2_with (at_builtin; refine wpList_append_lie rfl _ _ _ rfl (gS + 1) 64 _ 10 120 Try.underlying28 info_typ rfl (by decide) (.slice A0 k c0) k cs rfl O.out.now [.int .i64 2, .string ⟨#[]⟩, .int .i64 (lowN x), .int .i64 (highN x), .int .i64 0, .slice none 0 0, .slice none 0 0, .int .i64 0, .int .i64 0, .bool false] _ 1 _ rfl rfl rfl (by simp [Value.oneCell']) (by omega) (by omega) hbase ?_; intro g cap w3 hown3 hg3 hgat hb3; have cS_0 : w3.cell? ⟨gS, 0, none⟩ = some (.slice A0 k c0) := (S.out.below hb3 (by omega)).cell 0; have fS_0 := (S.out.below hb3 (by omega)).free 0)
     have hgsep : (Value.slice (some ⟨g, 0, none⟩) (k + 1) cap).ownBlock = (Value.slice A0 k c0).ownBlock ∨ (Value.slice (some ⟨g, 0, none⟩) (k + 1) cap).ownBlock = some (wd1519.heap.size + 1) := by
      rcases hgat with h | h
      ·
       left; rw [h]; rfl
      right; rw [h]; rfl
     have hty := TypsOwn.snoc _ _ ({ typ0 with kind := 2, low := lowN x, high := highN x }) _ _ TO.out.now ⟨World.ownsRow_nil _ _ _ _, World.ownsRow_nil _ _ _ _⟩ (.inl rfl) (.inl rfl) HTP.out
     have hty2 := hty.grown hg3 (Nat.le_succ _) hgsep
     clear hty hg3 hgat hgsep
     clear cT_0 cT_1 cT_2 cT_3 cT_4 cT_5 cT_6 cT_7 cT_8 cT_9 cS_0 fS_0
     clear T
     clear X
     clear O
     clear TO
     replace D := Lib.hid (D.out.below hb3 (show w.heap.size < gS + 1 by omega))
     replace R := Lib.hid (R.out.below hb3 (show w.heap.size + 1 < gS + 1 by omega))
     replace S := Lib.hid (S.out.below hb3 (show gS < gS + 1 by omega))
     replace hw := hw.trans (hb3.mono (show w.heap.size ≤ gS + 1 by omega))
     have O2 := Lib.hid (Kept.own hown3)
     have TO2 := Lib.hid (Kept.typs hty2)
     clear hown3 hty2
     obtain ⟨wd1521, hE1522⟩ : ∃ ww, ww = w3.setCell ⟨gS, 0, none⟩ (.slice (some ⟨g, 0, none⟩) (k + 1) cap) := ⟨_, rfl⟩
     rw [← hE1522]
     replace D := dF D hE1522 (by omega)
     replace R := dF R hE1522 (by omega)
     replace S : Hid (Has wd1521 (gS) 30 #[.slice (some ⟨g, 0, none⟩) (k + 1) cap]) := Lib.hid (by simpa using dS S hE1522)
     replace O2 := kF O2 hE1522 (by omega)
     replace TO2 := kF TO2 hE1522 (by omega)
     replace hw := tF hw hE1522 (by omega)
     clear hE1522
     go_wp2_with fail
     go_roundw
     case rel => exact ⟨k + 1, by omega, by go_num, _, _, D.out, R.out, S.out, O2.out.now, by rw [HTK.out]; exact TO2.out.now, hw⟩
     case measure => simp [intOf]; omega
   ·
    skip
    rw [hkq] at hki
    have HI := Lib.hid hki
    have hty0 : typN xs k x = { typ0 with kind := 3, max := ((x.a % 4 : Nat) : Int) } := by unfold typN; simp [hkq]
    rw [hty0] at htk
    have HTK := Lib.hid htk
    have HTP : Hid (TypPlain { typ0 with kind := 3, max := ((x.a % 4 : Nat) : Int) }) := by have := typN_plain xs k x h5.2 hlt; rw [hty0] at this; exact this
    clear hki htk hty0 hkr hkq
    have ha4 : (x.a : Int) % 4 = ((x.a % 4 : Nat) : Int) := by push_cast; rfl
    have hab : (x.a : Int) < 256 := by omega
    generalize x.a % 4 = a4 at *
    have cD_0 : wr.cell? ⟨w.heap.size, 0, none⟩ = some (.slice (some ⟨b, o, none⟩) xs.length c) := D.out.cell 0
    go_upto_region 9 with fail
    clear cD_0
    obtain ⟨wd1524, hE1525⟩ : ∃ ww, ww = wr.alloc (.cells #[.int .u8 x.kind, .int .u8 x.a, .int .u8 x.b, .int .u8 x.c, .slice P0 x.parts.length cp] 74) := ⟨_, rfl⟩
    rw [← hE1525]
    have hb1523 := aB hE1525
    have X := aN hE1525
    clear hE1525
    have hl1527 := D.out.here
    have hl1528 := R.out.here
    have hl1529 := S.out.here
    have hl1530 := O.out.le
    have hl1531 := TO.out.le
    have hl1532 := hw.size
    replace D := dB D hb1523
    replace R := dB R hb1523
    replace S := dB S hb1523
    replace O := dK O hb1523
    replace TO := dK TO hb1523
    replace hw := dT hw hb1523
    clear hb1523
    generalize wr.heap.size = g1526 at *
    clear n0 n1 n2 n3 n4
    have cD_0 : wd1524.cell? ⟨w.heap.size, 0, none⟩ = some (.slice (some ⟨b, o, none⟩) xs.length c) := D.out.cell 0
    go_wp2_with fail
    clear cD_0
    ((with_reducible refine (HI.out _ (HR.out.on hw)).mono ?_); rintro e wd1533 ⟨rfl, hb1534⟩)
    replace D := dB D hb1534
    replace R := dB R hb1534
    replace S := dB S hb1534
    replace X := dB X hb1534
    replace O := dK O hb1534
    replace TO := dK TO hb1534
    replace hw := dT hw hb1534
    clear hb1534
    go_upto_region 10 with fail
    obtain ⟨wd1536, hE1537⟩ : ∃ ww, ww = wd1533.alloc (.cells #[.int .i64 3, .string ⟨#[]⟩, .int .i64 0, .int .i64 0, .int .i64 0, .slice none 0 0, .slice none 0 0, .int .i64 0, .int .i64 0, .bool false] 64) := ⟨_, rfl⟩
    rw [← hE1537]
    have hb1535 := aB hE1537
    have T := aN hE1537
    clear hE1537
    have hl1539 := D.out.here
    have hl1540 := R.out.here
    have hl1541 := S.out.here
    have hl1542 := X.out.here
    have hl1543 := O.out.le
    have hl1544 := TO.out.le
    have hl1545 := hw.size
    replace D := dB D hb1535
    replace R := dB R hb1535
    replace S := dB S hb1535
    replace X := dB X hb1535
    replace O := dK O hb1535
    replace TO := dK TO hb1535
    replace hw := dT hw hb1535
    clear hb1535
    generalize wd1533.heap.size = g1538 at *
    have cT_0 : wd1536.cell? ⟨g1538, 0, none⟩ = some (.int .i64 3) := T.out.cell 0
    go_wp2_with fail
    clear cT_0
    ((with_reducible refine (named_any _ _).mono ?_); rintro e wd1546 ⟨rfl, rfl⟩)
    rw [show namedB 3 = false from rfl]
    have cT_0 : wd1536.cell? ⟨g1538, 0, none⟩ = some (.int .i64 3) := T.out.cell 0
    have cT_4 : wd1536.cell? ⟨g1538, 4, none⟩ = some (.int .i64 0) := T.out.cell 4
    have cX_1 : wd1536.cell? ⟨g1526, 1, none⟩ = some (.int .u8 x.a) := X.out.cell 1
    have fT_4 := T.out.free 4
    go_upto_region 39 with fail
    clear cT_0 cT_4 cX_1 fT_4
    obtain ⟨wd1548, hE1549⟩ : ∃ ww, ww = wd1536.setCell ⟨g1538, 4, none⟩ (.int .i64 (a4 : Int)) := ⟨_, rfl⟩
    rw [← hE1549]
    replace D := dF D hE1549 (by omega)
    replace R := dF R hE1549 (by omega)
    replace S := dF S hE1549 (by omega)
    replace X := dF X hE1549 (by omega)
    replace T : Hid (Has wd1548 (g1538) 64 #[.int .i64 3, .string ⟨#[]⟩, .int .i64 0, .int .i64 0, .int .i64 (a4 : Int), .slice none 0 0, .slice none 0 0, .int .i64 0, .int .i64 0, .bool false]) := Lib.hid (by simpa using dS T hE1549)
    replace O := kF O hE1549 (by omega)
    replace TO := kF TO hE1549 (by omega)
    replace hw := tF hw hE1549 (by omega)
    clear hE1549
    obtain ⟨cT_0, cT_1, cT_2, cT_3, cT_4, cT_5, cT_6, cT_7, cT_8, cT_9⟩ := T.out.c10
    have cS_0 : wd1548.cell? ⟨gS, 0, none⟩ = some (.slice A0 k c0) := S.out.cell 0
    have fS_0 := S.out.free 0
    go_upto_region 39 with fail
    have hbase : gS + 1 ≤ wd1548.heap.size := S.out.here
    go_wp2_with (at_builtin; refine wpList_append_lie rfl _ _ _ rfl (gS + 1) 64 _ 10 120 Try.underlying28 info_typ rfl (by decide) (.slice A0 k c0) k cs rfl O.out.now [.int .i64 3, .string ⟨#[]⟩, .int .i64 0, .int .i64 0, .int .i64 (a4 : Int), .slice none 0 0, .slice none 0 0, .int .i64 0, .int .i64 0, .bool false] _ 1 _ rfl rfl rfl (by simp [Value.oneCell']) (by omega) (by omega) hbase ?_; intro g cap w3 hown3 hg3 hgat hb3; have cS_0 : w3.cell? ⟨gS, 0, none⟩ = some (.slice A0 k c0) := (S.out.below hb3 (by omega)).cell 0; have fS_0 := (S.out.below hb3 (by omega)).free 0)
    have hgsep : (Value.slice (some ⟨g, 0, none⟩) (k + 1) cap).ownBlock = (Value.slice A0 k c0).ownBlock ∨ (Value.slice (some ⟨g, 0, none⟩) (k + 1) cap).ownBlock = some (wd1548.heap.size + 1) := by
     rcases hgat with h | h
     ·
      left; rw [h]; rfl
     right; rw [h]; rfl
    have hty := TypsOwn.snoc _ _ ({ typ0 with kind := 3, max := (a4 : Int) }) _ _ TO.out.now ⟨World.ownsRow_nil _ _ _ _, World.ownsRow_nil _ _ _ _⟩ (.inl rfl) (.inl rfl) HTP.out
    have hty2 := hty.grown hg3 (Nat.le_succ _) hgsep
    clear hty hg3 hgat hgsep
    clear cT_0 cT_1 cT_2 cT_3 cT_4 cT_5 cT_6 cT_7 cT_8 cT_9 cS_0 fS_0
    clear T
    clear X
    clear O
    clear TO
    replace D := Lib.hid (D.out.below hb3 (show w.heap.size < gS + 1 by omega))
    replace R := Lib.hid (R.out.below hb3 (show w.heap.size + 1 < gS + 1 by omega))
    replace S := Lib.hid (S.out.below hb3 (show gS < gS + 1 by omega))
    replace hw := hw.trans (hb3.mono (show w.heap.size ≤ gS + 1 by omega))
    have O2 := Lib.hid (Kept.own hown3)
    have TO2 := Lib.hid (Kept.typs hty2)
    clear hown3 hty2
    obtain ⟨wd1550, hE1551⟩ : ∃ ww, ww = w3.setCell ⟨gS, 0, none⟩ (.slice (some ⟨g, 0, none⟩) (k + 1) cap) := ⟨_, rfl⟩
    rw [← hE1551]
    replace D := dF D hE1551 (by omega)
    replace R := dF R hE1551 (by omega)
    replace S : Hid (Has wd1550 (gS) 30 #[.slice (some ⟨g, 0, none⟩) (k + 1) cap]) := Lib.hid (by simpa using dS S hE1551)
    replace O2 := kF O2 hE1551 (by omega)
    replace TO2 := kF TO2 hE1551 (by omega)
    replace hw := tF hw hE1551 (by omega)
    clear hE1551
    go_wp2_with fail
    go_roundw
    case rel => exact ⟨k + 1, by omega, by go_num, _, _, D.out, R.out, S.out, O2.out.now, by rw [HTK.out]; exact TO2.out.now, hw⟩
    case measure => simp [intOf]; omega
   ·
    skip
    have tb : ((x.b : Int) % 2 == 1) = decide (x.b % 2 = 1) := by rw [Bool.eq_iff_iff]; simp; omega
    have hxb : (x.b : Int) < 256 := by omega
    rw [hkq] at hki
    have HI := Lib.hid hki
    have hty0 : typN xs k x = { typ0 with kind := 4, name := typName k, opn := decide (x.b % 2 = 1), syms := (idsN x).map fun a => (a, nm1 115 a) } := by unfold typN; simp [hkq, namedB]
    rw [hty0] at htk
    have HTK := Lib.hid htk
    have HTP : Hid (TypPlain { typ0 with kind := 4, name := typName k, opn := decide (x.b % 2 = 1), syms := (idsN x).map fun a => (a, nm1 115 a) }) := by have := typN_plain xs k x h5.2 hlt; rw [hty0] at this; exact this
    clear hki htk hty0 hkr hkq
    have hids := fun W => ids_any x (.slice P0 x.parts.length cp) W
    unfold IdsPost at hids
    have hil := idsN_pos x
    have himem := idsN_mem x
    generalize idsN x = l at *
    have HIDS := Lib.hid hids
    have HMEM := Lib.hid himem
    clear hids himem
    have cD_0 : wr.cell? ⟨w.heap.size, 0, none⟩ = some (.slice (some ⟨b, o, none⟩) xs.length c) := D.out.cell 0
    go_upto_region 9 with fail
    clear cD_0
    obtain ⟨wd1553, hE1554⟩ : ∃ ww, ww = wr.alloc (.cells #[.int .u8 x.kind, .int .u8 x.a, .int .u8 x.b, .int .u8 x.c, .slice P0 x.parts.length cp] 74) := ⟨_, rfl⟩
    rw [← hE1554]
    have hb1552 := aB hE1554
    have X := aN hE1554
    clear hE1554
    have hl1556 := D.out.here
    have hl1557 := R.out.here
    have hl1558 := S.out.here
    have hl1559 := O.out.le
    have hl1560 := TO.out.le
    have hl1561 := hw.size
    replace D := dB D hb1552
    replace R := dB R hb1552
    replace S := dB S hb1552
    replace O := dK O hb1552
    replace TO := dK TO hb1552
    replace hw := dT hw hb1552
    clear hb1552
    generalize wr.heap.size = g1555 at *
    clear n0 n1 n2 n3 n4
    have cD_0 : wd1553.cell? ⟨w.heap.size, 0, none⟩ = some (.slice (some ⟨b, o, none⟩) xs.length c) := D.out.cell 0
    go_wp2_with fail
    clear cD_0
    ((with_reducible refine (HI.out _ (HR.out.on hw)).mono ?_); rintro e wd1562 ⟨rfl, hb1563⟩)
    replace D := dB D hb1563
    replace R := dB R hb1563
    replace S := dB S hb1563
    replace X := dB X hb1563
    replace O := dK O hb1563
    replace TO := dK TO hb1563
    replace hw := dT hw hb1563
    clear hb1563
    go_upto_region 10 with fail
    obtain ⟨wd1565, hE1566⟩ : ∃ ww, ww = wd1562.alloc (.cells #[.int .i64 4, .string ⟨#[]⟩, .int .i64 0, .int .i64 0, .int .i64 0, .slice none 0 0, .slice none 0 0, .int .i64 0, .int .i64 0, .bool false] 64) := ⟨_, rfl⟩
    rw [← hE1566]
    have hb1564 := aB hE1566
    have T := aN hE1566
    clear hE1566
    have hl1568 := D.out.here
    have hl1569 := R.out.here
    have hl1570 := S.out.here
    have hl1571 := X.out.here
    have hl1572 := O.out.le
    have hl1573 := TO.out.le
    have hl1574 := hw.size
    replace D := dB D hb1564
    replace R := dB R hb1564
    replace S := dB S hb1564
    replace X := dB X hb1564
    replace O := dK O hb1564
    replace TO := dK TO hb1564
    replace hw := dT hw hb1564
    clear hb1564
    generalize wd1562.heap.size = g1567 at *
    have cT_0 : wd1565.cell? ⟨g1567, 0, none⟩ = some (.int .i64 4) := T.out.cell 0
    go_wp2_with fail
    clear cT_0
    ((with_reducible refine (named_any _ _).mono ?_); rintro e wd1575 ⟨rfl, rfl⟩)
    rw [show namedB 4 = true from rfl]
    obtain ⟨q, hq, Hq⟩ : ∃ q : Nat, 65 + (k : Int) = (q : Int) ∧ Hid (q = 65 + k) := ⟨65 + k, by omega, rfl⟩
    have hqb : (q : Int) < 128 := by have := Hq.out; omega
    have cT_0 : wd1565.cell? ⟨g1567, 0, none⟩ = some (.int .i64 4) := T.out.cell 0
    have cT_1 : wd1565.cell? ⟨g1567, 1, none⟩ = some (.string ⟨#[]⟩) := T.out.cell 1
    have fT_1 := T.out.free 1
    go_upto_region 12 with fail
    have hstr : Utf8.encode (q : Int) = { data := (typName k).toArray } := by rw [rune1 q (by omega), Hq.out]; rfl
    rw [hstr]
    clear hstr hqb Hq hq
    clear cT_0 cT_1 fT_1
    obtain ⟨wd1577, hE1578⟩ : ∃ ww, ww = wd1565.setCell ⟨g1567, 1, none⟩ (.string ⟨(typName k).toArray⟩) := ⟨_, rfl⟩
    rw [← hE1578]
    replace D := dF D hE1578 (by omega)
    replace R := dF R hE1578 (by omega)
    replace S := dF S hE1578 (by omega)
    replace X := dF X hE1578 (by omega)
    replace T : Hid (Has wd1577 (g1567) 64 #[.int .i64 4, .string ⟨(typName k).toArray⟩, .int .i64 0, .int .i64 0, .int .i64 0, .slice none 0 0, .slice none 0 0, .int .i64 0, .int .i64 0, .bool false]) := Lib.hid (by simpa using dS T hE1578)
    replace O := kF O hE1578 (by omega)
    replace TO := kF TO hE1578 (by omega)
    replace hw := tF hw hE1578 (by omega)
    clear hE1578
    have cT_0 : wd1577.cell? ⟨g1567, 0, none⟩ = some (.int .i64 4) := T.out.cell 0
    have cT_9 : wd1577.cell? ⟨g1567, 9, none⟩ = some (.bool false) := T.out.cell 9
    have cX_2 : wd1577.cell? ⟨g1555, 2, none⟩ = some (.int .u8 x.b) := X.out.cell 2
    have fT_9 := T.out.free 9
    go_upto_region 19 with fail
    clear cT_0 cT_9 cX_2 fT_9
    obtain ⟨wd1579, hE1580⟩ : ∃ ww, ww = wd1577.setCell ⟨g1567, 9, none⟩ (.bool (decide (x.b % 2 = 1))) := ⟨_, rfl⟩
    rw [← hE1580]
    replace D := dF D hE1580 (by omega)
    replace R := dF R hE1580 (by omega)
    replace S := dF S hE1580 (by omega)
    replace X := dF X hE1580 (by omega)
    replace T : Hid (Has wd1579 (g1567) 64 #[.int .i64 4, .string ⟨(typName k).toArray⟩, .int .i64 0, .int .i64 0, .int .i64 0, .slice none 0 0, .slice none 0 0, .int .i64 0, .int .i64 0, .bool (decide (x.b % 2 = 1))]) := Lib.hid (by simpa using dS T hE1580)
    replace O := kF O hE1580 (by omega)
    replace TO := kF TO hE1580 (by omega)
    replace hw := tF hw hE1580 (by omega)
    clear hE1580
    have cX_0 : wd1579.cell? ⟨g1555, 0, none⟩ = some (.int .u8 x.kind) := X.out.cell 0
    have cX_1 : wd1579.cell? ⟨g1555, 1, none⟩ = some (.int .u8 x.a) := X.out.cell 1
    have cX_2 : wd1579.cell? ⟨g1555, 2, none⟩ = some (.int .u8 x.b) := X.out.cell 2
    have cX_3 : wd1579.cell? ⟨g1555, 3, none⟩ = some (.int .u8 x.c) := X.out.cell 3
    have cX_4 : wd1579.cell? ⟨g1555, 4, none⟩ = some (.slice P0 x.parts.length cp) := X.out.cell 4
    go_wp2_with fail
    have OB := Lib.hid O.out.now
    have hTl := T.out.here
    clear cX_0 cX_1 cX_2 cX_3 cX_4
    ((with_reducible refine (HIDS.out _).mono ?_); rintro e wd1581 ⟨vi, rfl, hown, hb1582⟩)
    replace D := dB D hb1582
    replace R := dB R hb1582
    replace S := dB S hb1582
    replace X := dB X hb1582
    replace T := dB T hb1582
    replace O := dK O hb1582
    replace TO := dK TO hb1582
    replace hw := dT hw hb1582
    clear hb1582
    replace hown := own_base hown (show g1567 + 1 ≤ _ from hTl)
    obtain ⟨gi, ci, rfl, hgi1, hgi2, hgi3, hgc⟩ := own_pos hown (by omega)
    clear hgc
    go_upto_region 21 with fail
    obtain ⟨B0, hB0⟩ : ∃ B, B = wd1581.heap.size := ⟨_, rfl⟩
    rw [← hB0] at hgi2
    have hTB : g1567 < B0 := by rw [hB0]; exact T.out.here
    have hXB : g1555 < g1567 := by omega
    have hSB : gS < g1555 := by omega
    have hOB : ∀ k1, (Value.slice A0 k c0).ownBlock = some k1 → k1 < B0 := fun k1 h => by rw [hB0]; exact (O.out.now.lt k1 h).2
    have HB0 := Lib.hid hB0
    have hDD := D.out
    have hRR := R.out
    have hSS := S.out
    have hXX := X.out
    have hTTT := T.out
    have hWW := hw
    obtain ⟨gT, hgT⟩ : ∃ g, g = g1567 := ⟨_, rfl⟩
    obtain ⟨gX, hgX⟩ : ∃ g, g = g1555 := ⟨_, rfl⟩
    rw [← hgT] at hTTT hTB hXB hown hgi1
    rw [← hgX] at hXX hXB hSB
    have hOK := O.out
    have hTK := TO.out
    rw [← hgX] at hOK hTK
    rw [← hgT, ← hgX]
    clear hB0 hgT hgX
    go_loopw [10] (fun j wi => ∃ kk : Nat, kk ≤ l.length ∧ j = .int .i64 kk ∧ ∃ A5 c5, Has wi w.heap.size 24 #[.slice (some ⟨b, o, none⟩) xs.length c] ∧ Has wi (w.heap.size + 1) 30 #[.slice none 0 0] ∧ Has wi gS 30 #[.slice A0 k c0] ∧ Has wi gX 74 #[.int .u8 x.kind, .int .u8 x.a, .int .u8 x.b, .int .u8 x.c, .slice P0 x.parts.length cp] ∧
      Has wi gT 64 #[.int .i64 4, .string ⟨(typName k).toArray⟩, .int .i64 0, .int .i64 0, .int .i64 0, .slice A5 kk c5, .slice none 0 0, .int .i64 0, .int .i64 0, .bool (decide (x.b % 2 = 1))] ∧ wi.ownsRow B0 80 2 (.slice A5 kk c5) kk (rawsV ((l.take kk).map fun a => (a, nm1 115 a))) ∧ wi.ownsRow (gT + 1) 3 1 (.slice (some ⟨gi, 0, none⟩) l.length ci) l.length (l.map (Value.int .i64)) ∧
      Kept (fun w => w.ownsRow (gS + 1) 64 10 (.slice A0 k c0) k cs) wi (gS + 1) gX ∧ Kept (fun w => TypsOwn w (gS + 1) (Value.slice A0 k c0).ownBlock ((ofN xs).take k) cs) wi (gS + 1) gX ∧ B0 ≤ wi.heap.size ∧ Below w.heap.size w wi)
     (fun j _ => l.length - (intOf j).toNat)
    case atStart => exact ⟨0, by omega, rfl, none, 0, hDD, hRR, hSS, hXX, hTTT, World.ownsRow_nil _ _ _ _, hown, hOK, hTK, Nat.le_of_eq HB0.out, hWW⟩
    case round =>
     clear hDD hRR hSS hXX hTTT hown hOK hTK hWW hw HB0 D R S X T O TO
     obtain ⟨kk, hkk, rfl, A5, c5, D, R, S, X, T, hsy, hown, hOK, hTK, hBw, hw⟩ := hrel
     by_cases hjl : kk < l.length
     ·
      skip
      replace D := Lib.hid D
      replace R := Lib.hid R
      replace S := Lib.hid S
      replace X := Lib.hid X
      replace T := Lib.hid T
      have O := Lib.hid (hOK)
      have TO := Lib.hid (hTK)
      have SY := Lib.hid (Kept.own hsy)
      have iO := Lib.hid (Kept.own2 hown hgi2 hBw)
      clear hOK hTK
      have hy := HMEM.out _ (List.getElem_mem hjl)
      have htk : l.take (kk + 1) = l.take kk ++ [l[kk]] := List.take_succ_eq_append_getElem hjl
      have hci := (own_cell0 hown) kk (.int .i64 l[kk]) (by rw [List.getElem?_map, List.getElem?_eq_getElem hjl]; rfl)
      generalize l[kk] = y at *
      have HTK2 := Lib.hid htk
      clear htk
      obtain ⟨q, hq, Hq⟩ : ∃ q : Nat, IntKind.i64.wrap (97 + y) = (q : Int) ∧ Hid (q = (97 + y).toNat) := ⟨(97 + y).toNat, by rw [IntWalk.i64_in _ (by omega)]; omega, rfl⟩
      have hqb : (q : Int) < 128 := by have := Hq.out; omega
      have hs : (Utf8.encode (q : Int)).size = 1 := by rw [rune1 q (by omega)]; rfl
      have e2 : IntKind.i32.wrap (q : Int) = q := by rw [IntKind.wrap_i32]; omega
      have hj0 : (0 : Int) ≤ (kk : Int) := by omega
      have hj1 : (kk : Int) < l.length := by omega
      have hjm : (kk : Int) + 1 ≤ 9223372036854775807 := by omega
      go_upto_region 23 with fail
      have cT_5 : wr.cell? ⟨gT, 5, none⟩ = some (.slice A5 kk c5) := T.out.cell 5
      have fT_5 := T.out.free 5
      obtain ⟨isym, hsi0, hsz0, hsz1, hsz2⟩ := info_parts info_sym
      have cA1 : ∀ o, (wr.alloc o).cell? ⟨gT, 5, none⟩ = some (.slice A5 kk c5) := fun o => (((Below.refl wr.heap.size wr).alloc (Nat.le_refl _) o).cell (p := ⟨gT, 5, none⟩) T.out.here).trans cT_5
      have cA2 : ∀ o, (wr.alloc o).cell? ⟨gi, kk, none⟩ = some (.int .i64 y) := fun o => (((Below.refl wr.heap.size wr).alloc (Nat.le_refl _) o).cell (p := ⟨gi, kk, none⟩) (World.block_lt_of_cell? _ _ hci)).trans hci
      refine wp_region_held_drew (S := (fun w' => w'.cell? ⟨gi, kk, none⟩ = some (.int .i64 y))) (by kernel_rfl) hci (fun hHeld => ?_)
      refine wpAnyH_take (i := 0) (v := ?v0a) rfl (by kernel_rfl) (by kernel_rfl) (by kernel_rfl) (fun _ _ _ h => h) (Or.inl ⟨by rfl, ?h0a⟩) (by assumption) ?r0a
      case h0a => (intro w hSw; (try dsimp only at hSw); go_simp; (first | done | with_reducible rfl))
      try simp only [Act.put]
      refine wpAnyH_take (i := 2) (v := ?v2a) rfl (by kernel_rfl) (by kernel_rfl) (by kernel_rfl) (fun _ _ _ h => h) (Or.inl ⟨by rfl, ?h2a⟩) (by assumption) ?r2a
      case h2a => (intro w hSw; (try dsimp only at hSw); go_simp; (first | done | with_reducible rfl))
      try simp only [Act.put]
      refine wpAnyH_take (i := 3) (v := ?v3a) rfl (by kernel_rfl) (by kernel_rfl) (by kernel_rfl) (fun _ _ _ h => h) (Or.inl ⟨by rfl, ?h3a⟩) (by assumption) ?r3a
      case h3a => (intro w hSw; (try dsimp only at hSw); go_simp; (first | done | with_reducible rfl))
      try simp only [Act.put]
      refine wpAnyH_take (i := 4) (v := ?v4a) rfl (by kernel_rfl) (by kernel_rfl) (by kernel_rfl) (fun _ _ _ h => h) (Or.inl ⟨by rfl, ?h4a⟩) (by assumption) ?r4a
      case h4a => (intro w hSw; (try dsimp only at hSw); go_simp; (first | done | with_reducible rfl))
      try simp only [Act.put]
      refine wpAnyH_take (i := 5) (v := ?v5a) rfl (by kernel_rfl) (by kernel_rfl) (by kernel_rfl) (fun _ _ _ h => h) (Or.inl ⟨by rfl, ?h5a⟩) (by assumption) ?r5a
      case h5a => (intro w hSw; (try dsimp only at hSw); go_simp; (first | done | with_reducible rfl))
      try simp only [Act.put]
      refine wpAnyH_take (i := 6) (v := ?v6a) rfl (by kernel_rfl) (by kernel_rfl) (by kernel_rfl) (fun _ _ _ h => h) (Or.inl ⟨by rfl, ?h6a⟩) (by assumption) ?r6a
      case h6a => (intro w hSw; (try dsimp only at hSw); go_simp; (first | done | with_reducible rfl))
      try simp only [Act.put]
      refine wpAnyH_take (i := 7) (v := ?v7a) rfl (by kernel_rfl) (by kernel_rfl) (by kernel_rfl) (fun _ _ _ h => h) (Or.inl ⟨by rfl, ?h7a⟩) (by assumption) ?r7a
      case h7a => (intro w hSw; (try dsimp only at hSw); go_simp; (first | done | with_reducible rfl))
      try simp only [Act.put]
      refine wpAnyH_take (i := 8) (v := ?v8a) rfl (by kernel_rfl) (by kernel_rfl) (by kernel_rfl) (fun _ _ _ h => h) (Or.inl ⟨by rfl, ?h8a⟩) (by assumption) ?r8a
      case h8a => (intro w hSw; (try dsimp only at hSw); go_simp; (first | done | with_reducible rfl))
      try simp only [Act.put]
      refine wpAnyH_take (i := 9) (v := ?v9a) rfl (by kernel_rfl) (by kernel_rfl) (by kernel_rfl) (fun _ _ _ h => h) (Or.inl ⟨by rfl, ?h9a⟩) (by assumption) ?r9a
      case h9a => (intro w hSw; (try dsimp only at hSw); go_simp; (first | done | with_reducible rfl))
      try simp only [Act.put]
      refine wpAnyH_take (i := 10) (v := ?v10a) rfl (by kernel_rfl) (by kernel_rfl) (by kernel_rfl) (fun _ _ _ h => h) (Or.inl ⟨by rfl, ?h10a⟩) (by assumption) ?r10a
      case h10a => (intro w hSw; (try dsimp only at hSw); go_simp; (first | done | with_reducible rfl))
      try simp only [Act.put]
      refine wpAnyH_take (i := 11) (v := ?v11a) rfl (by kernel_rfl) (by kernel_rfl) (by kernel_rfl) (fun _ _ _ h => h) (Or.inl ⟨by rfl, ?h11a⟩) (by assumption) ?r11a
      case h11a => (intro w hSw; (try dsimp only at hSw); go_simp; (first | done | with_reducible rfl))
      try simp only [Act.put]
      refine wpAnyH_take (i := 12) (v := ?v12a) rfl (by kernel_rfl) (by kernel_rfl) (by kernel_rfl) (fun _ _ _ h => h) (Or.inl ⟨by rfl, ?h12a⟩) (by assumption) ?r12a
      case h12a => (intro w hSw; (try dsimp only at hSw); go_simp; (first | done | with_reducible rfl))
      try simp only [Act.put]
      refine wpAnyH_take (i := 13) (v := ?v13a) rfl (by kernel_rfl) (by kernel_rfl) (by kernel_rfl) (fun _ _ _ h => h) (Or.inl ⟨by rfl, ?h13a⟩) (by assumption) ?r13a
      case h13a => (intro w hSw; (try dsimp only at hSw); go_simp; (first | done | with_reducible rfl))
      try simp only [Act.put]
      refine wpAnyH_take (i := 14) (v := ?v14a) rfl (by kernel_rfl) (by kernel_rfl) (by kernel_rfl) (fun _ _ _ h => h) (Or.inl ⟨by rfl, ?h14a⟩) (by assumption) ?r14a
      case h14a => (intro w hSw; (try dsimp only at hSw); go_simp; (first | done | with_reducible rfl))
      try simp only [Act.put]
      refine wpAnyH_ready (rs := [1, 15]) (by kernel_rfl) (by simp) ?_
      refine AllReadyH.cons rfl (fun K hK => ?_) (AllReadyH.cons rfl (fun K hK => ?_) AllReadyH.nil)
      ·
       go_simp
       refine hK.out _ _ hci (fun hHeld => ?_)
       clear hK K
       try simp only [Act.put, List.setIfInBounds_toArray]
       refine wpAnyH_ready (rs := [15]) (by kernel_rfl) (by simp) ?_
       refine AllReadyH.cons rfl (fun K hK => ?_) AllReadyH.nil
       go_simp
       refine hK.out _ _ (cA2 _) (fun hHeld => ?_)
       clear hK K
       try simp only [Act.put, List.setIfInBounds_toArray]
       refine wpAnyH_ready (rs := [16]) (by kernel_rfl) (by simp) ?_
       refine AllReadyH.cons rfl (fun K hK => ?_) AllReadyH.nil
       refine step_append_lies _ (by rfl) _ _ _ (by rfl) B0 80 isym _ 2 24 Try.underlying61 hsi0 hsz0 hsz1 hsz2 rfl (by omega) (.slice A5 kk c5) kk _ (by rfl) ((SY.out.now.alloc _).drew) ⟨wr.heap.size, 0, none⟩ 1 1 [.int .i64 y, .string (({ data := #[115] } : ByteArray) ++ Utf8.encode (q : Int))] (by rfl) (by rfl) (World.news_of_block (cs := #[.int .i64 y, .string (({ data := #[115] } : ByteArray) ++ Utf8.encode (q : Int))]) (t := 80) (fr := (0, 0)) (heap_alloc_new wr _)) (by simp [Value.oneCell']) (by omega) (by simp only [maxLen]; omega) (by omega) (by simp; omega) (wr.heap.size + 1) (by simp) ?_
       intro gg cap w1 hown1 hgrow hat hlt2
       have hgr : (wr.alloc (.cells #[.int .i64 y, .string (({ data := #[115] } : ByteArray) ++ Utf8.encode (q : Int))] 80)).grownBy w1 (Value.slice A5 kk c5).ownBlock := ⟨hgrow.os, hgrow.tape, hgrow.output, hgrow.size, hgrow.block⟩
       have hb3 := grown_below SY.out.now hBw hgr
       have cT5 : w1.cell? ⟨gT, 5, none⟩ = some (.slice A5 kk c5) := (T.out.below hb3 hTB).cell 5
       have fT5 := (T.out.below hb3 hTB).free 5
       have hci1 := (hb3.cell (p := ⟨gi, kk, none⟩) hgi2).trans hci
       clear cA1 cA2
       refine hK.out _ _ hci1 (fun hHeld => ?_)
       clear hK K
       try simp only [Act.put, List.setIfInBounds_toArray]
       refine wpAnyH_take (i := 17) (v := ?v17a) rfl (by kernel_rfl) (by kernel_rfl) (by kernel_rfl) (fun _ _ _ h => h) (Or.inl ⟨by rfl, ?h17a⟩) (by assumption) ?r17a
       case h17a => (intro w hSw; (try dsimp only at hSw); go_simp; (first | done | with_reducible rfl))
       try simp only [Act.put]
       refine wpAnyH_ready (rs := [18]) (by kernel_rfl) (by simp) ?_
       refine AllReadyH.cons rfl (fun K hK => ?_) AllReadyH.nil
       go_simp
       refine hK.out _ _ ((cell_far w1 gT 5 _ ⟨gi, kk, none⟩ (by show gi ≠ gT; omega)).trans hci1) (fun hHeld => ?_)
       clear hK K
       refine wpAnyH_done (by kernel_rfl) ?_ _
       clear hHeld hci1 cT5 fT5
       have hsy2 : w1.ownsRow B0 80 2 (.slice (some ⟨gg, 0, none⟩) (kk + 1) cap) (kk + 1) (rawsV ((l.take (kk + 1)).map fun a => (a, nm1 115 a))) := by
        rw [HTK2.out, List.map_append]
        unfold rawsV at hown1 ⊢
        rw [List.flatMap_append]
        have hstr : ({ data := #[115] } : ByteArray) ++ Utf8.encode (q : Int) = { data := (nm1 115 y).toArray } := by
         rw [rune1 q (by omega), Hq.out, nm1_of 115 y]
         exact str_app [115] [UInt8.ofNat (97 + y).toNat]
        rw [hstr] at hown1
        exact hown1
       clear hown1 hgrow hat hlt2 hgr hs e2 hqb Hq hq
       clear SY
       clear cT_5 fT_5
       replace D := Lib.hid (D.out.below hb3 (show w.heap.size < B0 by omega))
       replace R := Lib.hid (R.out.below hb3 (show w.heap.size + 1 < B0 by omega))
       replace S := Lib.hid (S.out.below hb3 (show gS < B0 by omega))
       replace X := Lib.hid (X.out.below hb3 (show gX < B0 by omega))
       replace T := Lib.hid (T.out.below hb3 (show gT < B0 by omega))
       replace O := Lib.hid (O.out.from0 hb3 (show gX ≤ B0 by omega))
       replace TO := Lib.hid (TO.out.from0 hb3 (show gX ≤ B0 by omega))
       replace iO := Lib.hid (iO.out.from0 hb3 (show B0 ≤ B0 by omega))
       replace hw := hw.trans (hb3.mono (show w.heap.size ≤ B0 by omega))
       have SY2 := Lib.hid (Kept.own hsy2)
       clear hsy2
       obtain ⟨wd1583, hE1584⟩ : ∃ ww, ww = w1.setCell ⟨gT, 5, none⟩ (.slice (some ⟨gg, 0, none⟩) (kk + 1) cap) := ⟨_, rfl⟩
       rw [← hE1584]
       replace D := dF D hE1584 (by omega)
       replace R := dF R hE1584 (by omega)
       replace S := dF S hE1584 (by omega)
       replace X := dF X hE1584 (by omega)
       replace T : Hid (Has wd1583 (gT) 64 #[.int .i64 4, .string ⟨(typName k).toArray⟩, .int .i64 0, .int .i64 0, .int .i64 0, .slice (some ⟨gg, 0, none⟩) (kk + 1) cap, .slice none 0 0, .int .i64 0, .int .i64 0, .bool (decide (x.b % 2 = 1))]) := Lib.hid (by simpa using dS T hE1584)
       replace O := kF O hE1584 (by omega)
       replace TO := kF TO hE1584 (by omega)
       replace iO := kF iO hE1584 (by omega)
       replace SY2 := kF SY2 hE1584 (by omega)
       replace hw := tF hw hE1584 (by omega)
       clear hE1584
       go_wp2_with fail
       go_roundw
       case rel => exact ⟨kk + 1, by omega, by go_num, _, _, D.out, R.out, S.out, X.out, T.out, SY2.out.now, iO.out.now, O.out, TO.out, iO.out.le, hw⟩
       case measure => simp [intOf]; omega
      go_simp
      refine hK.out _ _ (cA2 _) (fun hHeld => ?_)
      clear hK K
      try simp only [Act.put, List.setIfInBounds_toArray]
      refine wpAnyH_ready (rs := [1]) (by kernel_rfl) (by simp) ?_
      refine AllReadyH.cons rfl (fun K hK => ?_) AllReadyH.nil
      go_simp
      refine hK.out _ _ (cA2 _) (fun hHeld => ?_)
      clear hK K
      try simp only [Act.put, List.setIfInBounds_toArray]
      refine wpAnyH_ready (rs := [16]) (by kernel_rfl) (by simp) ?_
      refine AllReadyH.cons rfl (fun K hK => ?_) AllReadyH.nil
      refine step_append_lies _ (by rfl) _ _ _ (by rfl) B0 80 isym _ 2 24 Try.underlying61 hsi0 hsz0 hsz1 hsz2 rfl (by omega) (.slice A5 kk c5) kk _ (by rfl) ((SY.out.now.alloc _).drew) ⟨wr.heap.size, 0, none⟩ 1 1 [.int .i64 y, .string (({ data := #[115] } : ByteArray) ++ Utf8.encode (q : Int))] (by rfl) (by rfl) (World.news_of_block (cs := #[.int .i64 y, .string (({ data := #[115] } : ByteArray) ++ Utf8.encode (q : Int))]) (t := 80) (fr := (0, 0)) (heap_alloc_new wr _)) (by simp [Value.oneCell']) (by omega) (by simp only [maxLen]; omega) (by omega) (by simp; omega) (wr.heap.size + 1) (by simp) ?_
      intro gg cap w1 hown1 hgrow hat hlt2
      have hgr : (wr.alloc (.cells #[.int .i64 y, .string (({ data := #[115] } : ByteArray) ++ Utf8.encode (q : Int))] 80)).grownBy w1 (Value.slice A5 kk c5).ownBlock := ⟨hgrow.os, hgrow.tape, hgrow.output, hgrow.size, hgrow.block⟩
      have hb3 := grown_below SY.out.now hBw hgr
      have cT5 : w1.cell? ⟨gT, 5, none⟩ = some (.slice A5 kk c5) := (T.out.below hb3 hTB).cell 5
      have fT5 := (T.out.below hb3 hTB).free 5
      have hci1 := (hb3.cell (p := ⟨gi, kk, none⟩) hgi2).trans hci
      clear cA1 cA2
      refine hK.out _ _ hci1 (fun hHeld => ?_)
      clear hK K
      try simp only [Act.put, List.setIfInBounds_toArray]
      refine wpAnyH_take (i := 17) (v := ?v17b) rfl (by kernel_rfl) (by kernel_rfl) (by kernel_rfl) (fun _ _ _ h => h) (Or.inl ⟨by rfl, ?h17b⟩) (by assumption) ?r17b
      case h17b => (intro w hSw; (try dsimp only at hSw); go_simp; (first | done | with_reducible rfl))
      try simp only [Act.put]
      refine wpAnyH_ready (rs := [18]) (by kernel_rfl) (by simp) ?_
      refine AllReadyH.cons rfl (fun K hK => ?_) AllReadyH.nil
      go_simp
      refine hK.out _ _ ((cell_far w1 gT 5 _ ⟨gi, kk, none⟩ (by show gi ≠ gT; omega)).trans hci1) (fun hHeld => ?_)
      clear hK K
      refine wpAnyH_done (by kernel_rfl) ?_ _
      clear hHeld hci1 cT5 fT5
      have hsy2 : w1.ownsRow B0 80 2 (.slice (some ⟨gg, 0, none⟩) (kk + 1) cap) (kk + 1) (rawsV ((l.take (kk + 1)).map fun a => (a, nm1 115 a))) := by
       rw [HTK2.out, List.map_append]
       unfold rawsV at hown1 ⊢
       rw [List.flatMap_append]
       have hstr : ({ data := #[115] } : ByteArray) ++ Utf8.encode (q : Int) = { data := (nm1 115 y).toArray } := by
        rw [rune1 q (by omega), Hq.out, nm1_of 115 y]
        exact str_app [115] [UInt8.ofNat (97 + y).toNat]
       rw [hstr] at hown1
       exact hown1
      clear hown1 hgrow hat hlt2 hgr hs e2 hqb Hq hq
      clear SY
      clear cT_5 fT_5
      replace D := Lib.hid (D.out.below hb3 (show w.heap.size < B0 by omega))
      replace R := Lib.hid (R.out.below hb3 (show w.heap.size + 1 < B0 by omega))
      replace S := Lib.hid (S.out.below hb3 (show gS < B0 by omega))
      replace X := Lib.hid (X.out.below hb3 (show gX < B0 by omega))
      replace T := Lib.hid (T.out.below hb3 (show gT < B0 by omega))
      replace O := Lib.hid (O.out.from0 hb3 (show gX ≤ B0 by omega))
      replace TO := Lib.hid (TO.out.from0 hb3 (show gX ≤ B0 by omega))
      replace iO := Lib.hid (iO.out.from0 hb3 (show B0 ≤ B0 by omega))
      replace hw := hw.trans (hb3.mono (show w.heap.size ≤ B0 by omega))
      have SY2 := Lib.hid (Kept.own hsy2)
      clear hsy2
      obtain ⟨wd1585, hE1586⟩ : ∃ ww, ww = w1.setCell ⟨gT, 5, none⟩ (.slice (some ⟨gg, 0, none⟩) (kk + 1) cap) := ⟨_, rfl⟩
      rw [← hE1586]
      replace D := dF D hE1586 (by omega)
      replace R := dF R hE1586 (by omega)
      replace S := dF S hE1586 (by omega)
      replace X := dF X hE1586 (by omega)
      replace T : Hid (Has wd1585 (gT) 64 #[.int .i64 4, .string ⟨(typName k).toArray⟩, .int .i64 0, .int .i64 0, .int .i64 0, .slice (some ⟨gg, 0, none⟩) (kk + 1) cap, .slice none 0 0, .int .i64 0, .int .i64 0, .bool (decide (x.b % 2 = 1))]) := Lib.hid (by simpa using dS T hE1586)
      replace O := kF O hE1586 (by omega)
      replace TO := kF TO hE1586 (by omega)
      replace iO := kF iO hE1586 (by omega)
      replace SY2 := kF SY2 hE1586 (by omega)
      replace hw := tF hw hE1586 (by omega)
      clear hE1586
      go_wp2_with fail
      go_roundw
      case rel => exact ⟨kk + 1, by omega, by go_num, _, _, D.out, R.out, S.out, X.out, T.out, SY2.out.now, iO.out.now, O.out, TO.out, iO.out.le, hw⟩
      case measure => simp [intOf]; omega
     obtain rfl : kk = l.length := by omega
     replace D := Lib.hid D
     replace R := Lib.hid R
     replace S := Lib.hid S
     replace X := Lib.hid X
     replace T := Lib.hid T
     have O := Lib.hid (hOK)
     have TO := Lib.hid (hTK)
     rw [List.take_of_length_le (Nat.le_refl _)] at hsy
     have hss := sep_of hsy hOB
     have hsy3 : wr.ownsRow (gS + 1) 80 2 (.slice A5 l.length c5) (l.map fun a => (a, nm1 115 a)).length (rawsV (l.map fun a => (a, nm1 115 a))) := by rw [List.length_map]; exact own_base hsy (by omega)
     have HSY := Lib.hid hsy3
     clear hOK hTK hsy hsy3 hown hgi1 hgi2 hgi3 hil
     obtain ⟨cT_0, cT_1, cT_2, cT_3, cT_4, cT_5, cT_6, cT_7, cT_8, cT_9⟩ := T.out.c10
     have cS_0 : wr.cell? ⟨gS, 0, none⟩ = some (.slice A0 k c0) := S.out.cell 0
     have fS_0 := S.out.free 0
     go_upto_region 39 with fail
     have hbase : gS + 1 ≤ wr.heap.size := S.out.here
     go_wp2_with (at_builtin; refine wpList_append_lie rfl _ _ _ rfl (gS + 1) 64 _ 10 120 Try.underlying28 info_typ rfl (by decide) (.slice A0 k c0) k cs rfl O.out.now [.int .i64 4, .string ⟨(typName k).toArray⟩, .int .i64 0, .int .i64 0, .int .i64 0, .slice A5 l.length c5, .slice none 0 0, .int .i64 0, .int .i64 0, .bool (decide (x.b % 2 = 1))] _ 1 _ rfl rfl rfl (by simp [Value.oneCell']) (by omega) (by omega) hbase ?_; intro g cap w3 hown3 hg3 hgat hb3; have cS_0 : w3.cell? ⟨gS, 0, none⟩ = some (.slice A0 k c0) := (S.out.below hb3 (by omega)).cell 0; have fS_0 := (S.out.below hb3 (by omega)).free 0)
     have hgsep : (Value.slice (some ⟨g, 0, none⟩) (k + 1) cap).ownBlock = (Value.slice A0 k c0).ownBlock ∨ (Value.slice (some ⟨g, 0, none⟩) (k + 1) cap).ownBlock = some (wr.heap.size + 1) := by
      rcases hgat with h | h
      ·
       left; rw [h]; rfl
      right; rw [h]; rfl
     have hty := TypsOwn.snoc _ _ ({ typ0 with kind := 4, name := typName k, opn := decide (x.b % 2 = 1), syms := l.map fun a => (a, nm1 115 a) }) _ _ TO.out.now ⟨HSY.out, World.ownsRow_nil _ _ _ _⟩ hss (.inl rfl) HTP.out
     have hty2 := hty.grown hg3 (Nat.le_succ _) hgsep
     clear hty hg3 hgat hgsep
     clear cT_0 cT_1 cT_2 cT_3 cT_4 cT_5 cT_6 cT_7 cT_8 cT_9 cS_0 fS_0
     clear T
     clear X
     clear O
     clear TO
     replace D := Lib.hid (D.out.below hb3 (show w.heap.size < gS + 1 by omega))
     replace R := Lib.hid (R.out.below hb3 (show w.heap.size + 1 < gS + 1 by omega))
     replace S := Lib.hid (S.out.below hb3 (show gS < gS + 1 by omega))
     replace hw := hw.trans (hb3.mono (show w.heap.size ≤ gS + 1 by omega))
     have O2 := Lib.hid (Kept.own hown3)
     have TO2 := Lib.hid (Kept.typs hty2)
     clear hown3 hty2
     obtain ⟨wd1587, hE1588⟩ : ∃ ww, ww = w3.setCell ⟨gS, 0, none⟩ (.slice (some ⟨g, 0, none⟩) (k + 1) cap) := ⟨_, rfl⟩
     rw [← hE1588]
     replace D := dF D hE1588 (by omega)
     replace R := dF R hE1588 (by omega)
     replace S : Hid (Has wd1587 (gS) 30 #[.slice (some ⟨g, 0, none⟩) (k + 1) cap]) := Lib.hid (by simpa using dS S hE1588)
     replace O2 := kF O2 hE1588 (by omega)
     replace TO2 := kF TO2 hE1588 (by omega)
     replace hw := tF hw hE1588 (by omega)
     clear hE1588
     go_wp2_with fail
     go_roundw
     case rel => exact ⟨k + 1, by omega, by go_num, _, _, D.out, R.out, S.out, O2.out.now, by rw [HTK.out]; exact TO2.out.now, hw⟩
     case measure => simp [intOf]; omega
   ·
    skip
    rw [hkq] at hki
    have HI := Lib.hid hki
    have hty0 : typN xs k x = { typ0 with kind := 5, name := typName k, mems := partsN xs k true x.parts } := by unfold typN; simp [hkq, namedB]
    rw [hty0] at htk
    have HTK := Lib.hid htk
    have HTP : Hid (TypPlain { typ0 with kind := 5, name := typName k, mems := partsN xs k true x.parts }) := by have := typN_plain xs k x h5.2 hlt; rw [hty0] at this; exact this
    clear hki htk hty0 hkr hkq
    have cD_0 : wr.cell? ⟨w.heap.size, 0, none⟩ = some (.slice (some ⟨b, o, none⟩) xs.length c) := D.out.cell 0
    go_upto_region 9 with fail
    clear cD_0
    obtain ⟨wd1590, hE1591⟩ : ∃ ww, ww = wr.alloc (.cells #[.int .u8 x.kind, .int .u8 x.a, .int .u8 x.b, .int .u8 x.c, .slice P0 x.parts.length cp] 74) := ⟨_, rfl⟩
    rw [← hE1591]
    have hb1589 := aB hE1591
    have X := aN hE1591
    clear hE1591
    have hl1593 := D.out.here
    have hl1594 := R.out.here
    have hl1595 := S.out.here
    have hl1596 := O.out.le
    have hl1597 := TO.out.le
    have hl1598 := hw.size
    replace D := dB D hb1589
    replace R := dB R hb1589
    replace S := dB S hb1589
    replace O := dK O hb1589
    replace TO := dK TO hb1589
    replace hw := dT hw hb1589
    clear hb1589
    generalize wr.heap.size = g1592 at *
    clear n0 n1 n2 n3 n4
    have cD_0 : wd1590.cell? ⟨w.heap.size, 0, none⟩ = some (.slice (some ⟨b, o, none⟩) xs.length c) := D.out.cell 0
    go_wp2_with fail
    clear cD_0
    ((with_reducible refine (HI.out _ (HR.out.on hw)).mono ?_); rintro e wd1599 ⟨rfl, hb1600⟩)
    replace D := dB D hb1600
    replace R := dB R hb1600
    replace S := dB S hb1600
    replace X := dB X hb1600
    replace O := dK O hb1600
    replace TO := dK TO hb1600
    replace hw := dT hw hb1600
    clear hb1600
    go_upto_region 10 with fail
    obtain ⟨wd1602, hE1603⟩ : ∃ ww, ww = wd1599.alloc (.cells #[.int .i64 5, .string ⟨#[]⟩, .int .i64 0, .int .i64 0, .int .i64 0, .slice none 0 0, .slice none 0 0, .int .i64 0, .int .i64 0, .bool false] 64) := ⟨_, rfl⟩
    rw [← hE1603]
    have hb1601 := aB hE1603
    have T := aN hE1603
    clear hE1603
    have hl1605 := D.out.here
    have hl1606 := R.out.here
    have hl1607 := S.out.here
    have hl1608 := X.out.here
    have hl1609 := O.out.le
    have hl1610 := TO.out.le
    have hl1611 := hw.size
    replace D := dB D hb1601
    replace R := dB R hb1601
    replace S := dB S hb1601
    replace X := dB X hb1601
    replace O := dK O hb1601
    replace TO := dK TO hb1601
    replace hw := dT hw hb1601
    clear hb1601
    generalize wd1599.heap.size = g1604 at *
    have cT_0 : wd1602.cell? ⟨g1604, 0, none⟩ = some (.int .i64 5) := T.out.cell 0
    go_wp2_with fail
    clear cT_0
    ((with_reducible refine (named_any _ _).mono ?_); rintro e wd1612 ⟨rfl, rfl⟩)
    rw [show namedB 5 = true from rfl]
    obtain ⟨q, hq, Hq⟩ : ∃ q : Nat, 65 + (k : Int) = (q : Int) ∧ Hid (q = 65 + k) := ⟨65 + k, by omega, rfl⟩
    have hqb : (q : Int) < 128 := by have := Hq.out; omega
    have cT_0 : wd1602.cell? ⟨g1604, 0, none⟩ = some (.int .i64 5) := T.out.cell 0
    have cT_1 : wd1602.cell? ⟨g1604, 1, none⟩ = some (.string ⟨#[]⟩) := T.out.cell 1
    have fT_1 := T.out.free 1
    go_upto_region 12 with fail
    have hstr : Utf8.encode (q : Int) = { data := (typName k).toArray } := by rw [rune1 q (by omega), Hq.out]; rfl
    rw [hstr]
    clear hstr hqb Hq hq
    clear cT_0 cT_1 fT_1
    obtain ⟨wd1614, hE1615⟩ : ∃ ww, ww = wd1602.setCell ⟨g1604, 1, none⟩ (.string ⟨(typName k).toArray⟩) := ⟨_, rfl⟩
    rw [← hE1615]
    replace D := dF D hE1615 (by omega)
    replace R := dF R hE1615 (by omega)
    replace S := dF S hE1615 (by omega)
    replace X := dF X hE1615 (by omega)
    replace T : Hid (Has wd1614 (g1604) 64 #[.int .i64 5, .string ⟨(typName k).toArray⟩, .int .i64 0, .int .i64 0, .int .i64 0, .slice none 0 0, .slice none 0 0, .int .i64 0, .int .i64 0, .bool false]) := Lib.hid (by simpa using dS T hE1615)
    replace O := kF O hE1615 (by omega)
    replace TO := kF TO hE1615 (by omega)
    replace hw := tF hw hE1615 (by omega)
    clear hE1615
    have cD_0 : wd1614.cell? ⟨w.heap.size, 0, none⟩ = some (.slice (some ⟨b, o, none⟩) xs.length c) := D.out.cell 0
    have cT_0 : wd1614.cell? ⟨g1604, 0, none⟩ = some (.int .i64 5) := T.out.cell 0
    go_wp2_with fail
    have OB := Lib.hid O.out.now
    have hTl := T.out.here
    clear cD_0 cT_0
    ((with_reducible refine (HPA.out true _ (HR.out.on hw)).mono ?_); rintro e wd1616 ⟨vm, rfl, hownm, hb1617⟩)
    replace D := dB D hb1617
    replace R := dB R hb1617
    replace S := dB S hb1617
    replace X := dB X hb1617
    replace T := dB T hb1617
    replace O := dK O hb1617
    replace TO := dK TO hb1617
    replace hw := dT hw hb1617
    clear hb1617
    have hsm : sepR vm (Value.slice A0 k c0).ownBlock := own_later OB.out hownm (Nat.le_refl _)
    replace hownm := own_base hownm (show g1604 + 1 ≤ _ from hTl)
    have MO := Lib.hid (Kept.own hownm)
    obtain ⟨Am, cm, rfl⟩ := own_form hownm
    clear hownm OB hTl
    have cT_6 : wd1616.cell? ⟨g1604, 6, none⟩ = some (.slice none 0 0) := T.out.cell 6
    have fT_6 := T.out.free 6
    go_upto_region 39 with fail
    clear cT_6 fT_6
    obtain ⟨wd1618, hE1619⟩ : ∃ ww, ww = wd1616.setCell ⟨g1604, 6, none⟩ (.slice Am (partsN xs k true x.parts).length cm) := ⟨_, rfl⟩
    rw [← hE1619]
    replace D := dF D hE1619 (by omega)
    replace R := dF R hE1619 (by omega)
    replace S := dF S hE1619 (by omega)
    replace X := dF X hE1619 (by omega)
    replace T : Hid (Has wd1618 (g1604) 64 #[.int .i64 5, .string ⟨(typName k).toArray⟩, .int .i64 0, .int .i64 0, .int .i64 0, .slice none 0 0, .slice Am (partsN xs k true x.parts).length cm, .int .i64 0, .int .i64 0, .bool false]) := Lib.hid (by simpa using dS T hE1619)
    replace O := kF O hE1619 (by omega)
    replace TO := kF TO hE1619 (by omega)
    replace MO := kF MO hE1619 (by omega)
    replace hw := tF hw hE1619 (by omega)
    clear hE1619
    have HME := Lib.hid (own_base MO.out.now (show gS + 1 ≤ g1604 + 1 by omega))
    clear MO
    obtain ⟨cT_0, cT_1, cT_2, cT_3, cT_4, cT_5, cT_6, cT_7, cT_8, cT_9⟩ := T.out.c10
    have cS_0 : wd1618.cell? ⟨gS, 0, none⟩ = some (.slice A0 k c0) := S.out.cell 0
    have fS_0 := S.out.free 0
    go_upto_region 39 with fail
    have hbase : gS + 1 ≤ wd1618.heap.size := S.out.here
    go_wp2_with (at_builtin; refine wpList_append_lie rfl _ _ _ rfl (gS + 1) 64 _ 10 120 Try.underlying28 info_typ rfl (by decide) (.slice A0 k c0) k cs rfl O.out.now [.int .i64 5, .string ⟨(typName k).toArray⟩, .int .i64 0, .int .i64 0, .int .i64 0, .slice none 0 0, .slice Am (partsN xs k true x.parts).length cm, .int .i64 0, .int .i64 0, .bool false] _ 1 _ rfl rfl rfl (by simp [Value.oneCell']) (by omega) (by omega) hbase ?_; intro g cap w3 hown3 hg3 hgat hb3; have cS_0 : w3.cell? ⟨gS, 0, none⟩ = some (.slice A0 k c0) := (S.out.below hb3 (by omega)).cell 0; have fS_0 := (S.out.below hb3 (by omega)).free 0)
    have hgsep : (Value.slice (some ⟨g, 0, none⟩) (k + 1) cap).ownBlock = (Value.slice A0 k c0).ownBlock ∨ (Value.slice (some ⟨g, 0, none⟩) (k + 1) cap).ownBlock = some (wd1618.heap.size + 1) := by
     rcases hgat with h | h
     ·
      left; rw [h]; rfl
     right; rw [h]; rfl
    have hty := TypsOwn.snoc _ _ ({ typ0 with kind := 5, name := typName k, mems := partsN xs k true x.parts }) _ _ TO.out.now ⟨World.ownsRow_nil _ _ _ _, HME.out⟩ (.inl rfl) hsm HTP.out
    have hty2 := hty.grown hg3 (Nat.le_succ _) hgsep
    clear hty hg3 hgat hgsep
    clear cT_0 cT_1 cT_2 cT_3 cT_4 cT_5 cT_6 cT_7 cT_8 cT_9 cS_0 fS_0
    clear T
    clear X
    clear O
    clear TO
    replace D := Lib.hid (D.out.below hb3 (show w.heap.size < gS + 1 by omega))
    replace R := Lib.hid (R.out.below hb3 (show w.heap.size + 1 < gS + 1 by omega))
    replace S := Lib.hid (S.out.below hb3 (show gS < gS + 1 by omega))
    replace hw := hw.trans (hb3.mono (show w.heap.size ≤ gS + 1 by omega))
    have O2 := Lib.hid (Kept.own hown3)
    have TO2 := Lib.hid (Kept.typs hty2)
    clear hown3 hty2
    obtain ⟨wd1620, hE1621⟩ : ∃ ww, ww = w3.setCell ⟨gS, 0, none⟩ (.slice (some ⟨g, 0, none⟩) (k + 1) cap) := ⟨_, rfl⟩
    rw [← hE1621]
    replace D := dF D hE1621 (by omega)
    replace R := dF R hE1621 (by omega)
    replace S : Hid (Has wd1620 (gS) 30 #[.slice (some ⟨g, 0, none⟩) (k + 1) cap]) := Lib.hid (by simpa using dS S hE1621)
    replace O2 := kF O2 hE1621 (by omega)
    replace TO2 := kF TO2 hE1621 (by omega)
    replace hw := tF hw hE1621 (by omega)
    clear hE1621
    go_wp2_with fail
    go_roundw
    case rel => exact ⟨k + 1, by omega, by go_num, _, _, D.out, R.out, S.out, O2.out.now, by rw [HTK.out]; exact TO2.out.now, hw⟩
    case measure => simp [intOf]; omega
   ·
    skip
    have tb : ((x.b : Int) % 2 == 1) = decide (x.b % 2 = 1) := by rw [Bool.eq_iff_iff]; simp; omega
    have hxb : (x.b : Int) < 256 := by omega
    by_cases hpe : (partsN xs k false x.parts).isEmpty = true
    ·
     skip
     rw [hkq] at hki
     have HI := Lib.hid hki
     have hty0 : typN xs k x = { typ0 with kind := 5, name := typName k } := by unfold typN; simp [hkq, namedB, hpe]
     rw [hty0] at htk
     have HTK := Lib.hid htk
     have HTP : Hid (TypPlain { typ0 with kind := 5, name := typName k }) := by have := typN_plain xs k x h5.2 hlt; rw [hty0] at this; exact this
     clear hki htk hty0 hkr hkq
     have hpf := fun W h => HPA.out false W h
     rw [List.isEmpty_iff.1 hpe] at hpf
     have HPF := Lib.hid hpf
     clear hpf hpe
     have cD_0 : wr.cell? ⟨w.heap.size, 0, none⟩ = some (.slice (some ⟨b, o, none⟩) xs.length c) := D.out.cell 0
     go_upto_region 9 with fail
     clear cD_0
     obtain ⟨wd1623, hE1624⟩ : ∃ ww, ww = wr.alloc (.cells #[.int .u8 x.kind, .int .u8 x.a, .int .u8 x.b, .int .u8 x.c, .slice P0 x.parts.length cp] 74) := ⟨_, rfl⟩
     rw [← hE1624]
     have hb1622 := aB hE1624
     have X := aN hE1624
     clear hE1624
     have hl1626 := D.out.here
     have hl1627 := R.out.here
     have hl1628 := S.out.here
     have hl1629 := O.out.le
     have hl1630 := TO.out.le
     have hl1631 := hw.size
     replace D := dB D hb1622
     replace R := dB R hb1622
     replace S := dB S hb1622
     replace O := dK O hb1622
     replace TO := dK TO hb1622
     replace hw := dT hw hb1622
     clear hb1622
     generalize wr.heap.size = g1625 at *
     clear n0 n1 n2 n3 n4
     have cD_0 : wd1623.cell? ⟨w.heap.size, 0, none⟩ = some (.slice (some ⟨b, o, none⟩) xs.length c) := D.out.cell 0
     go_wp2_with fail
     clear cD_0
     ((with_reducible refine (HI.out _ (HR.out.on hw)).mono ?_); rintro e wd1632 ⟨rfl, hb1633⟩)
     replace D := dB D hb1633
     replace R := dB R hb1633
     replace S := dB S hb1633
     replace X := dB X hb1633
     replace O := dK O hb1633
     replace TO := dK TO hb1633
     replace hw := dT hw hb1633
     clear hb1633
     go_upto_region 10 with fail
     obtain ⟨wd1635, hE1636⟩ : ∃ ww, ww = wd1632.alloc (.cells #[.int .i64 6, .string ⟨#[]⟩, .int .i64 0, .int .i64 0, .int .i64 0, .slice none 0 0, .slice none 0 0, .int .i64 0, .int .i64 0, .bool false] 64) := ⟨_, rfl⟩
     rw [← hE1636]
     have hb1634 := aB hE1636
     have T := aN hE1636
     clear hE1636
     have hl1638 := D.out.here
     have hl1639 := R.out.here
     have hl1640 := S.out.here
     have hl1641 := X.out.here
     have hl1642 := O.out.le
     have hl1643 := TO.out.le
     have hl1644 := hw.size
     replace D := dB D hb1634
     replace R := dB R hb1634
     replace S := dB S hb1634
     replace X := dB X hb1634
     replace O := dK O hb1634
     replace TO := dK TO hb1634
     replace hw := dT hw hb1634
     clear hb1634
     generalize wd1632.heap.size = g1637 at *
     have cT_0 : wd1635.cell? ⟨g1637, 0, none⟩ = some (.int .i64 6) := T.out.cell 0
     go_wp2_with fail
     clear cT_0
     ((with_reducible refine (named_any _ _).mono ?_); rintro e wd1645 ⟨rfl, rfl⟩)
     rw [show namedB 6 = true from rfl]
     obtain ⟨q, hq, Hq⟩ : ∃ q : Nat, 65 + (k : Int) = (q : Int) ∧ Hid (q = 65 + k) := ⟨65 + k, by omega, rfl⟩
     have hqb : (q : Int) < 128 := by have := Hq.out; omega
     have cT_0 : wd1635.cell? ⟨g1637, 0, none⟩ = some (.int .i64 6) := T.out.cell 0
     have cT_1 : wd1635.cell? ⟨g1637, 1, none⟩ = some (.string ⟨#[]⟩) := T.out.cell 1
     have fT_1 := T.out.free 1
     go_upto_region 12 with fail
     have hstr : Utf8.encode (q : Int) = { data := (typName k).toArray } := by rw [rune1 q (by omega), Hq.out]; rfl
     rw [hstr]
     clear hstr hqb Hq hq
     clear cT_0 cT_1 fT_1
     obtain ⟨wd1647, hE1648⟩ : ∃ ww, ww = wd1635.setCell ⟨g1637, 1, none⟩ (.string ⟨(typName k).toArray⟩) := ⟨_, rfl⟩
     rw [← hE1648]
     replace D := dF D hE1648 (by omega)
     replace R := dF R hE1648 (by omega)
     replace S := dF S hE1648 (by omega)
     replace X := dF X hE1648 (by omega)
     replace T : Hid (Has wd1647 (g1637) 64 #[.int .i64 6, .string ⟨(typName k).toArray⟩, .int .i64 0, .int .i64 0, .int .i64 0, .slice none 0 0, .slice none 0 0, .int .i64 0, .int .i64 0, .bool false]) := Lib.hid (by simpa using dS T hE1648)
     replace O := kF O hE1648 (by omega)
     replace TO := kF TO hE1648 (by omega)
     replace hw := tF hw hE1648 (by omega)
     clear hE1648
     have cT_0 : wd1647.cell? ⟨g1637, 0, none⟩ = some (.int .i64 6) := T.out.cell 0
     have cT_9 : wd1647.cell? ⟨g1637, 9, none⟩ = some (.bool false) := T.out.cell 9
     have cX_2 : wd1647.cell? ⟨g1625, 2, none⟩ = some (.int .u8 x.b) := X.out.cell 2
     have fT_9 := T.out.free 9
     go_upto_region 28 with fail
     clear cT_0 cT_9 cX_2 fT_9
     obtain ⟨wd1649, hE1650⟩ : ∃ ww, ww = wd1647.setCell ⟨g1637, 9, none⟩ (.bool (decide (x.b % 2 = 1))) := ⟨_, rfl⟩
     rw [← hE1650]
     replace D := dF D hE1650 (by omega)
     replace R := dF R hE1650 (by omega)
     replace S := dF S hE1650 (by omega)
     replace X := dF X hE1650 (by omega)
     replace T : Hid (Has wd1649 (g1637) 64 #[.int .i64 6, .string ⟨(typName k).toArray⟩, .int .i64 0, .int .i64 0, .int .i64 0, .slice none 0 0, .slice none 0 0, .int .i64 0, .int .i64 0, .bool (decide (x.b % 2 = 1))]) := Lib.hid (by simpa using dS T hE1650)
     replace O := kF O hE1650 (by omega)
     replace TO := kF TO hE1650 (by omega)
     replace hw := tF hw hE1650 (by omega)
     clear hE1650
     have cD_0 : wd1649.cell? ⟨w.heap.size, 0, none⟩ = some (.slice (some ⟨b, o, none⟩) xs.length c) := D.out.cell 0
     have cT_0 : wd1649.cell? ⟨g1637, 0, none⟩ = some (.int .i64 6) := T.out.cell 0
     go_wp2_with fail
     have OB := Lib.hid O.out.now
     have hTl := T.out.here
     clear cD_0 cT_0
     ((with_reducible refine (HPF.out _ (HR.out.on hw)).mono ?_); rintro e wd1651 ⟨vm, rfl, hownm, hb1652⟩)
     replace D := dB D hb1652
     replace R := dB R hb1652
     replace S := dB S hb1652
     replace X := dB X hb1652
     replace T := dB T hb1652
     replace O := dK O hb1652
     replace TO := dK TO hb1652
     replace hw := dT hw hb1652
     clear hb1652
     have hsm : sepR vm (Value.slice A0 k c0).ownBlock := own_later OB.out hownm (Nat.le_refl _)
     replace hownm := own_base hownm (show g1637 + 1 ≤ _ from hTl)
     have MO := Lib.hid (Kept.own hownm)
     obtain ⟨Am, cm, rfl⟩ : ∃ A c, vm = .slice A 0 c := own_form hownm
     clear hownm OB hTl
     have cT_6 : wd1651.cell? ⟨g1637, 6, none⟩ = some (.slice none 0 0) := T.out.cell 6
     have fT_6 := T.out.free 6
     go_upto_region 29 with fail
     clear cT_6 fT_6
     obtain ⟨wd1653, hE1654⟩ : ∃ ww, ww = wd1651.setCell ⟨g1637, 6, none⟩ (.slice Am 0 cm) := ⟨_, rfl⟩
     rw [← hE1654]
     replace D := dF D hE1654 (by omega)
     replace R := dF R hE1654 (by omega)
     replace S := dF S hE1654 (by omega)
     replace X := dF X hE1654 (by omega)
     replace T : Hid (Has wd1653 (g1637) 64 #[.int .i64 6, .string ⟨(typName k).toArray⟩, .int .i64 0, .int .i64 0, .int .i64 0, .slice none 0 0, .slice Am 0 cm, .int .i64 0, .int .i64 0, .bool (decide (x.b % 2 = 1))]) := Lib.hid (by simpa using dS T hE1654)
     replace O := kF O hE1654 (by omega)
     replace TO := kF TO hE1654 (by omega)
     replace MO := kF MO hE1654 (by omega)
     replace hw := tF hw hE1654 (by omega)
     clear hE1654
     clear MO
     clear hsm
     have cT_6 : wd1653.cell? ⟨g1637, 6, none⟩ = some (.slice Am 0 cm) := T.out.cell 6
     have cT_1 : wd1653.cell? ⟨g1637, 1, none⟩ = some (.string ⟨(typName k).toArray⟩) := T.out.cell 1
     go_upto_region 30 with fail
     go_upto_region 39 with (refine wpList_store_row rfl 64 _ _ rfl (g1637) _ rfl rfl 64 _ T.out (by kernel_rfl) rfl (by simp [Value.oneCell']) ?_)
     clear cT_6 cT_1
     obtain ⟨wd1655, hE1656⟩ : ∃ ww, ww = wd1653.setRow (g1637) #[.int .i64 5, .string ⟨(typName k).toArray⟩, .int .i64 0, .int .i64 0, .int .i64 0, .slice none 0 0, .slice none 0 0, .int .i64 0, .int .i64 0, .bool false] := ⟨_, rfl⟩
     rw [← hE1656]
     replace D := dR D hE1656 (by omega)
     replace R := dR R hE1656 (by omega)
     replace S := dR S hE1656 (by omega)
     replace X := dR X hE1656 (by omega)
     replace T := dO T hE1656
     replace O := kR O hE1656 (by omega)
     replace TO := kR TO hE1656 (by omega)
     replace hw := tR hw hE1656 (by omega)
     clear hE1656
     obtain ⟨cT_0, cT_1, cT_2, cT_3, cT_4, cT_5, cT_6, cT_7, cT_8, cT_9⟩ := T.out.c10
     have cS_0 : wd1655.cell? ⟨gS, 0, none⟩ = some (.slice A0 k c0) := S.out.cell 0
     have fS_0 := S.out.free 0
     go_upto_region 39 with fail
     have hbase : gS + 1 ≤ wd1655.heap.size := S.out.here
     go_wp2_with (at_builtin; refine wpList_append_lie rfl _ _ _ rfl (gS + 1) 64 _ 10 120 Try.underlying28 info_typ rfl (by decide) (.slice A0 k c0) k cs rfl O.out.now [.int .i64 5, .string ⟨(typName k).toArray⟩, .int .i64 0, .int .i64 0, .int .i64 0, .slice none 0 0, .slice none 0 0, .int .i64 0, .int .i64 0, .bool false] _ 1 _ rfl rfl rfl (by simp [Value.oneCell']) (by omega) (by omega) hbase ?_; intro g cap w3 hown3 hg3 hgat hb3; have cS_0 : w3.cell? ⟨gS, 0, none⟩ = some (.slice A0 k c0) := (S.out.below hb3 (by omega)).cell 0; have fS_0 := (S.out.below hb3 (by omega)).free 0)
     have hgsep : (Value.slice (some ⟨g, 0, none⟩) (k + 1) cap).ownBlock = (Value.slice A0 k c0).ownBlock ∨ (Value.slice (some ⟨g, 0, none⟩) (k + 1) cap).ownBlock = some (wd1655.heap.size + 1) := by
      rcases hgat with h | h
      ·
       left; rw [h]; rfl
      right; rw [h]; rfl
     have hty := TypsOwn.snoc _ _ ({ typ0 with kind := 5, name := typName k }) _ _ TO.out.now ⟨World.ownsRow_nil _ _ _ _, World.ownsRow_nil _ _ _ _⟩ (.inl rfl) (.inl rfl) HTP.out
     have hty2 := hty.grown hg3 (Nat.le_succ _) hgsep
     clear hty hg3 hgat hgsep
     clear cT_0 cT_1 cT_2 cT_3 cT_4 cT_5 cT_6 cT_7 cT_8 cT_9 cS_0 fS_0
     clear T
     clear X
     clear O
     clear TO
     replace D := Lib.hid (D.out.below hb3 (show w.heap.size < gS + 1 by omega))
     replace R := Lib.hid (R.out.below hb3 (show w.heap.size + 1 < gS + 1 by omega))
     replace S := Lib.hid (S.out.below hb3 (show gS < gS + 1 by omega))
     replace hw := hw.trans (hb3.mono (show w.heap.size ≤ gS + 1 by omega))
     have O2 := Lib.hid (Kept.own hown3)
     have TO2 := Lib.hid (Kept.typs hty2)
     clear hown3 hty2
     obtain ⟨wd1657, hE1658⟩ : ∃ ww, ww = w3.setCell ⟨gS, 0, none⟩ (.slice (some ⟨g, 0, none⟩) (k + 1) cap) := ⟨_, rfl⟩
     rw [← hE1658]
     replace D := dF D hE1658 (by omega)
     replace R := dF R hE1658 (by omega)
     replace S : Hid (Has wd1657 (gS) 30 #[.slice (some ⟨g, 0, none⟩) (k + 1) cap]) := Lib.hid (by simpa using dS S hE1658)
     replace O2 := kF O2 hE1658 (by omega)
     replace TO2 := kF TO2 hE1658 (by omega)
     replace hw := tF hw hE1658 (by omega)
     clear hE1658
     go_wp2_with fail
     go_roundw
     case rel => exact ⟨k + 1, by omega, by go_num, _, _, D.out, R.out, S.out, O2.out.now, by rw [HTK.out]; exact TO2.out.now, hw⟩
     case measure => simp [intOf]; omega
    skip
    rw [hkq] at hki
    have HI := Lib.hid hki
    have hty0 : typN xs k x = { typ0 with kind := 6, name := typName k, opn := decide (x.b % 2 = 1), mems := partsN xs k false x.parts } := by unfold typN; simp [hkq, namedB, hpe]
    rw [hty0] at htk
    have HTK := Lib.hid htk
    have HTP : Hid (TypPlain { typ0 with kind := 6, name := typName k, opn := decide (x.b % 2 = 1), mems := partsN xs k false x.parts }) := by have := typN_plain xs k x h5.2 hlt; rw [hty0] at this; exact this
    clear hki htk hty0 hkr hkq
    have hp0 : (((partsN xs k false x.parts).length : Int) == 0) = false := by
     refine beq_eq_false_iff_ne.2 ?_
     intro h
     apply hpe
     rw [List.isEmpty_iff]
     exact List.eq_nil_of_length_eq_zero (by omega)
    clear hpe
    have cD_0 : wr.cell? ⟨w.heap.size, 0, none⟩ = some (.slice (some ⟨b, o, none⟩) xs.length c) := D.out.cell 0
    go_upto_region 9 with fail
    clear cD_0
    obtain ⟨wd1660, hE1661⟩ : ∃ ww, ww = wr.alloc (.cells #[.int .u8 x.kind, .int .u8 x.a, .int .u8 x.b, .int .u8 x.c, .slice P0 x.parts.length cp] 74) := ⟨_, rfl⟩
    rw [← hE1661]
    have hb1659 := aB hE1661
    have X := aN hE1661
    clear hE1661
    have hl1663 := D.out.here
    have hl1664 := R.out.here
    have hl1665 := S.out.here
    have hl1666 := O.out.le
    have hl1667 := TO.out.le
    have hl1668 := hw.size
    replace D := dB D hb1659
    replace R := dB R hb1659
    replace S := dB S hb1659
    replace O := dK O hb1659
    replace TO := dK TO hb1659
    replace hw := dT hw hb1659
    clear hb1659
    generalize wr.heap.size = g1662 at *
    clear n0 n1 n2 n3 n4
    have cD_0 : wd1660.cell? ⟨w.heap.size, 0, none⟩ = some (.slice (some ⟨b, o, none⟩) xs.length c) := D.out.cell 0
    go_wp2_with fail
    clear cD_0
    ((with_reducible refine (HI.out _ (HR.out.on hw)).mono ?_); rintro e wd1669 ⟨rfl, hb1670⟩)
    replace D := dB D hb1670
    replace R := dB R hb1670
    replace S := dB S hb1670
    replace X := dB X hb1670
    replace O := dK O hb1670
    replace TO := dK TO hb1670
    replace hw := dT hw hb1670
    clear hb1670
    go_upto_region 10 with fail
    obtain ⟨wd1672, hE1673⟩ : ∃ ww, ww = wd1669.alloc (.cells #[.int .i64 6, .string ⟨#[]⟩, .int .i64 0, .int .i64 0, .int .i64 0, .slice none 0 0, .slice none 0 0, .int .i64 0, .int .i64 0, .bool false] 64) := ⟨_, rfl⟩
    rw [← hE1673]
    have hb1671 := aB hE1673
    have T := aN hE1673
    clear hE1673
    have hl1675 := D.out.here
    have hl1676 := R.out.here
    have hl1677 := S.out.here
    have hl1678 := X.out.here
    have hl1679 := O.out.le
    have hl1680 := TO.out.le
    have hl1681 := hw.size
    replace D := dB D hb1671
    replace R := dB R hb1671
    replace S := dB S hb1671
    replace X := dB X hb1671
    replace O := dK O hb1671
    replace TO := dK TO hb1671
    replace hw := dT hw hb1671
    clear hb1671
    generalize wd1669.heap.size = g1674 at *
    have cT_0 : wd1672.cell? ⟨g1674, 0, none⟩ = some (.int .i64 6) := T.out.cell 0
    go_wp2_with fail
    clear cT_0
    ((with_reducible refine (named_any _ _).mono ?_); rintro e wd1682 ⟨rfl, rfl⟩)
    rw [show namedB 6 = true from rfl]
    obtain ⟨q, hq, Hq⟩ : ∃ q : Nat, 65 + (k : Int) = (q : Int) ∧ Hid (q = 65 + k) := ⟨65 + k, by omega, rfl⟩
    have hqb : (q : Int) < 128 := by have := Hq.out; omega
    have cT_0 : wd1672.cell? ⟨g1674, 0, none⟩ = some (.int .i64 6) := T.out.cell 0
    have cT_1 : wd1672.cell? ⟨g1674, 1, none⟩ = some (.string ⟨#[]⟩) := T.out.cell 1
    have fT_1 := T.out.free 1
    go_upto_region 12 with fail
    have hstr : Utf8.encode (q : Int) = { data := (typName k).toArray } := by rw [rune1 q (by omega), Hq.out]; rfl
    rw [hstr]
    clear hstr hqb Hq hq
    clear cT_0 cT_1 fT_1
    obtain ⟨wd1684, hE1685⟩ : ∃ ww, ww = wd1672.setCell ⟨g1674, 1, none⟩ (.string ⟨(typName k).toArray⟩) := ⟨_, rfl⟩
    rw [← hE1685]
    replace D := dF D hE1685 (by omega)
    replace R := dF R hE1685 (by omega)
    replace S := dF S hE1685 (by omega)
    replace X := dF X hE1685 (by omega)
    replace T : Hid (Has wd1684 (g1674) 64 #[.int .i64 6, .string ⟨(typName k).toArray⟩, .int .i64 0, .int .i64 0, .int .i64 0, .slice none 0 0, .slice none 0 0, .int .i64 0, .int .i64 0, .bool false]) := Lib.hid (by simpa using dS T hE1685)
    replace O := kF O hE1685 (by omega)
    replace TO := kF TO hE1685 (by omega)
    replace hw := tF hw hE1685 (by omega)
    clear hE1685
    have cT_0 : wd1684.cell? ⟨g1674, 0, none⟩ = some (.int .i64 6) := T.out.cell 0
    have cT_9 : wd1684.cell? ⟨g1674, 9, none⟩ = some (.bool false) := T.out.cell 9
    have cX_2 : wd1684.cell? ⟨g1662, 2, none⟩ = some (.int .u8 x.b) := X.out.cell 2
    have fT_9 := T.out.free 9
    go_upto_region 28 with fail
    clear cT_0 cT_9 cX_2 fT_9
    obtain ⟨wd1686, hE1687⟩ : ∃ ww, ww = wd1684.setCell ⟨g1674, 9, none⟩ (.bool (decide (x.b % 2 = 1))) := ⟨_, rfl⟩
    rw [← hE1687]
    replace D := dF D hE1687 (by omega)
    replace R := dF R hE1687 (by omega)
    replace S := dF S hE1687 (by omega)
    replace X := dF X hE1687 (by omega)
    replace T : Hid (Has wd1686 (g1674) 64 #[.int .i64 6, .string ⟨(typName k).toArray⟩, .int .i64 0, .int .i64 0, .int .i64 0, .slice none 0 0, .slice none 0 0, .int .i64 0, .int .i64 0, .bool (decide (x.b % 2 = 1))]) := Lib.hid (by simpa using dS T hE1687)
    replace O := kF O hE1687 (by omega)
    replace TO := kF TO hE1687 (by omega)
    replace hw := tF hw hE1687 (by omega)
    clear hE1687
    have cD_0 : wd1686.cell? ⟨w.heap.size, 0, none⟩ = some (.slice (some ⟨b, o, none⟩) xs.length c) := D.out.cell 0
    have cT_0 : wd1686.cell? ⟨g1674, 0, none⟩ = some (.int .i64 6) := T.out.cell 0
    go_wp2_with fail
    have OB := Lib.hid O.out.now
    have hTl := T.out.here
    clear cD_0 cT_0
    ((with_reducible refine (HPA.out false _ (HR.out.on hw)).mono ?_); rintro e wd1688 ⟨vm, rfl, hownm, hb1689⟩)
    replace D := dB D hb1689
    replace R := dB R hb1689
    replace S := dB S hb1689
    replace X := dB X hb1689
    replace T := dB T hb1689
    replace O := dK O hb1689
    replace TO := dK TO hb1689
    replace hw := dT hw hb1689
    clear hb1689
    have hsm : sepR vm (Value.slice A0 k c0).ownBlock := own_later OB.out hownm (Nat.le_refl _)
    replace hownm := own_base hownm (show g1674 + 1 ≤ _ from hTl)
    have MO := Lib.hid (Kept.own hownm)
    obtain ⟨Am, cm, rfl⟩ := own_form hownm
    clear hownm OB hTl
    have cT_6 : wd1688.cell? ⟨g1674, 6, none⟩ = some (.slice none 0 0) := T.out.cell 6
    have fT_6 := T.out.free 6
    go_upto_region 29 with fail
    clear cT_6 fT_6
    obtain ⟨wd1690, hE1691⟩ : ∃ ww, ww = wd1688.setCell ⟨g1674, 6, none⟩ (.slice Am (partsN xs k false x.parts).length cm) := ⟨_, rfl⟩
    rw [← hE1691]
    replace D := dF D hE1691 (by omega)
    replace R := dF R hE1691 (by omega)
    replace S := dF S hE1691 (by omega)
    replace X := dF X hE1691 (by omega)
    replace T : Hid (Has wd1690 (g1674) 64 #[.int .i64 6, .string ⟨(typName k).toArray⟩, .int .i64 0, .int .i64 0, .int .i64 0, .slice none 0 0, .slice Am (partsN xs k false x.parts).length cm, .int .i64 0, .int .i64 0, .bool (decide (x.b % 2 = 1))]) := Lib.hid (by simpa using dS T hE1691)
    replace O := kF O hE1691 (by omega)
    replace TO := kF TO hE1691 (by omega)
    replace MO := kF MO hE1691 (by omega)
    replace hw := tF hw hE1691 (by omega)
    clear hE1691
    have HME := Lib.hid (own_base MO.out.now (show gS + 1 ≤ g1674 + 1 by omega))
    clear MO
    obtain ⟨cT_0, cT_1, cT_2, cT_3, cT_4, cT_5, cT_6, cT_7, cT_8, cT_9⟩ := T.out.c10
    have cS_0 : wd1690.cell? ⟨gS, 0, none⟩ = some (.slice A0 k c0) := S.out.cell 0
    have fS_0 := S.out.free 0
    go_upto_region 39 with fail
    have hbase : gS + 1 ≤ wd1690.heap.size := S.out.here
    go_wp2_with (at_builtin; refine wpList_append_lie rfl _ _ _ rfl (gS + 1) 64 _ 10 120 Try.underlying28 info_typ rfl (by decide) (.slice A0 k c0) k cs rfl O.out.now [.int .i64 6, .string ⟨(typName k).toArray⟩, .int .i64 0, .int .i64 0, .int .i64 0, .slice none 0 0, .slice Am (partsN xs k false x.parts).length cm, .int .i64 0, .int .i64 0, .bool (decide (x.b % 2 = 1))] _ 1 _ rfl rfl rfl (by simp [Value.oneCell']) (by omega) (by omega) hbase ?_; intro g cap w3 hown3 hg3 hgat hb3; have cS_0 : w3.cell? ⟨gS, 0, none⟩ = some (.slice A0 k c0) := (S.out.below hb3 (by omega)).cell 0; have fS_0 := (S.out.below hb3 (by omega)).free 0)
    have hgsep : (Value.slice (some ⟨g, 0, none⟩) (k + 1) cap).ownBlock = (Value.slice A0 k c0).ownBlock ∨ (Value.slice (some ⟨g, 0, none⟩) (k + 1) cap).ownBlock = some (wd1690.heap.size + 1) := by
     rcases hgat with h | h
     ·
      left; rw [h]; rfl
     right; rw [h]; rfl
    have hty := TypsOwn.snoc _ _ ({ typ0 with kind := 6, name := typName k, opn := decide (x.b % 2 = 1), mems := partsN xs k false x.parts }) _ _ TO.out.now ⟨World.ownsRow_nil _ _ _ _, HME.out⟩ (.inl rfl) hsm HTP.out
    have hty2 := hty.grown hg3 (Nat.le_succ _) hgsep
    clear hty hg3 hgat hgsep
    clear cT_0 cT_1 cT_2 cT_3 cT_4 cT_5 cT_6 cT_7 cT_8 cT_9 cS_0 fS_0
    clear T
    clear X
    clear O
    clear TO
    replace D := Lib.hid (D.out.below hb3 (show w.heap.size < gS + 1 by omega))
    replace R := Lib.hid (R.out.below hb3 (show w.heap.size + 1 < gS + 1 by omega))
    replace S := Lib.hid (S.out.below hb3 (show gS < gS + 1 by omega))
    replace hw := hw.trans (hb3.mono (show w.heap.size ≤ gS + 1 by omega))
    have O2 := Lib.hid (Kept.own hown3)
    have TO2 := Lib.hid (Kept.typs hty2)
    clear hown3 hty2
    obtain ⟨wd1692, hE1693⟩ : ∃ ww, ww = w3.setCell ⟨gS, 0, none⟩ (.slice (some ⟨g, 0, none⟩) (k + 1) cap) := ⟨_, rfl⟩
    rw [← hE1693]
    replace D := dF D hE1693 (by omega)
    replace R := dF R hE1693 (by omega)
    replace S : Hid (Has wd1692 (gS) 30 #[.slice (some ⟨g, 0, none⟩) (k + 1) cap]) := Lib.hid (by simpa using dS S hE1693)
    replace O2 := kF O2 hE1693 (by omega)
    replace TO2 := kF TO2 hE1693 (by omega)
    replace hw := tF hw hE1693 (by omega)
    clear hE1693
    go_wp2_with fail
    go_roundw
    case rel => exact ⟨k + 1, by omega, by go_num, _, _, D.out, R.out, S.out, O2.out.now, by rw [HTK.out]; exact TO2.out.now, hw⟩
    case measure => simp [intOf]; omega
   ·
    skip
    rw [hkq] at hki
    have HI := Lib.hid hki
    have hty0 : typN xs k x = { typ0 with kind := 7, max := ((x.a % 4 : Nat) : Int), elem := ((x.c % xs.length : Nat) : Int) } := by unfold typN; simp [hkq]
    rw [hty0] at htk
    have HTK := Lib.hid htk
    have HTP : Hid (TypPlain { typ0 with kind := 7, max := ((x.a % 4 : Nat) : Int), elem := ((x.c % xs.length : Nat) : Int) }) := by have := typN_plain xs k x h5.2 hlt; rw [hty0] at this; exact this
    clear hki htk hty0 hkr hkq
    have ha4 : (x.a : Int).tmod 4 = ((x.a % 4 : Nat) : Int) := by rw [Int.tmod_eq_emod_of_nonneg (by omega)]; push_cast; rfl
    have hc4 : (x.c : Int).tmod xs.length = ((x.c % xs.length : Nat) : Int) := by rw [Int.tmod_eq_emod_of_nonneg (by omega)]; push_cast; rfl
    have ha5 : x.a % 4 < 4 := by omega
    have hc5 : x.c % xs.length < xs.length := Nat.mod_lt _ h5.1
    generalize x.a % 4 = a4 at *
    generalize x.c % xs.length = cn at *
    have cD_0 : wr.cell? ⟨w.heap.size, 0, none⟩ = some (.slice (some ⟨b, o, none⟩) xs.length c) := D.out.cell 0
    go_upto_region 9 with fail
    clear cD_0
    obtain ⟨wd1695, hE1696⟩ : ∃ ww, ww = wr.alloc (.cells #[.int .u8 x.kind, .int .u8 x.a, .int .u8 x.b, .int .u8 x.c, .slice P0 x.parts.length cp] 74) := ⟨_, rfl⟩
    rw [← hE1696]
    have hb1694 := aB hE1696
    have X := aN hE1696
    clear hE1696
    have hl1698 := D.out.here
    have hl1699 := R.out.here
    have hl1700 := S.out.here
    have hl1701 := O.out.le
    have hl1702 := TO.out.le
    have hl1703 := hw.size
    replace D := dB D hb1694
    replace R := dB R hb1694
    replace S := dB S hb1694
    replace O := dK O hb1694
    replace TO := dK TO hb1694
    replace hw := dT hw hb1694
    clear hb1694
    generalize wr.heap.size = g1697 at *
    clear n0 n1 n2 n3 n4
    have cD_0 : wd1695.cell? ⟨w.heap.size, 0, none⟩ = some (.slice (some ⟨b, o, none⟩) xs.length c) := D.out.cell 0
    go_wp2_with fail
    clear cD_0
    ((with_reducible refine (HI.out _ (HR.out.on hw)).mono ?_); rintro e wd1704 ⟨rfl, hb1705⟩)
    replace D := dB D hb1705
    replace R := dB R hb1705
    replace S := dB S hb1705
    replace X := dB X hb1705
    replace O := dK O hb1705
    replace TO := dK TO hb1705
    replace hw := dT hw hb1705
    clear hb1705
    go_upto_region 10 with fail
    obtain ⟨wd1707, hE1708⟩ : ∃ ww, ww = wd1704.alloc (.cells #[.int .i64 7, .string ⟨#[]⟩, .int .i64 0, .int .i64 0, .int .i64 0, .slice none 0 0, .slice none 0 0, .int .i64 0, .int .i64 0, .bool false] 64) := ⟨_, rfl⟩
    rw [← hE1708]
    have hb1706 := aB hE1708
    have T := aN hE1708
    clear hE1708
    have hl1710 := D.out.here
    have hl1711 := R.out.here
    have hl1712 := S.out.here
    have hl1713 := X.out.here
    have hl1714 := O.out.le
    have hl1715 := TO.out.le
    have hl1716 := hw.size
    replace D := dB D hb1706
    replace R := dB R hb1706
    replace S := dB S hb1706
    replace X := dB X hb1706
    replace O := dK O hb1706
    replace TO := dK TO hb1706
    replace hw := dT hw hb1706
    clear hb1706
    generalize wd1704.heap.size = g1709 at *
    have cT_0 : wd1707.cell? ⟨g1709, 0, none⟩ = some (.int .i64 7) := T.out.cell 0
    go_wp2_with fail
    clear cT_0
    ((with_reducible refine (named_any _ _).mono ?_); rintro e wd1717 ⟨rfl, rfl⟩)
    rw [show namedB 7 = false from rfl]
    have cT_0 : wd1707.cell? ⟨g1709, 0, none⟩ = some (.int .i64 7) := T.out.cell 0
    go_upto_region 32 with fail
    have e0 : IntKind.i64.wrap (a4 : Int) = a4 := IntWalk.i64_in _ (by omega)
    have e1 : IntKind.i64.wrap (x.c : Int) = x.c := IntWalk.i64_in _ (by omega)
    have e2 : ¬ ((xs.length : Int) = 0) := by omega
    have e3 : ¬ (xs = []) := by intro h; rw [h] at h5; simp at h5
    have cT_4 : wd1707.cell? ⟨g1709, 4, none⟩ = some (.int .i64 0) := T.out.cell 4
    have cT_8 : wd1707.cell? ⟨g1709, 8, none⟩ = some (.int .i64 0) := T.out.cell 8
    have fT_4 := T.out.free 4
    have fT_8 := T.out.free 8
    have cX_1 : wd1707.cell? ⟨g1697, 1, none⟩ = some (.int .u8 x.a) := X.out.cell 1
    have cX_3 : wd1707.cell? ⟨g1697, 3, none⟩ = some (.int .u8 x.c) := X.out.cell 3
    go_region_held3 (fun w' => w'.cell? ⟨g1697, 1, none⟩ = some (.int .u8 x.a) ∧ w'.cell? ⟨g1697, 3, none⟩ = some (.int .u8 x.c)) (first | (go_keep; done) | exact ⟨cX_1, cX_3⟩ | (((repeat' apply And.intro) <;> ((repeat (with_reducible (first | refine Eq.trans (cell_drew _ _) ?_ | refine Eq.trans (cell_far _ _ _ _ _ (by dsimp only; omega)) ?_))); assumption)); done))
     (fail)
    clear e0 e1 e2 e3
    all_goals
     clear cT_0 cT_4 cT_8 fT_4 fT_8 cX_1 cX_3
     obtain ⟨wd1719, hE1720⟩ : ∃ ww, ww = wd1707.setCell ⟨g1709, 4, none⟩ (.int .i64 (a4 : Int)) := ⟨_, rfl⟩
     rw [← hE1720]
     replace D := dF D hE1720 (by omega)
     replace R := dF R hE1720 (by omega)
     replace S := dF S hE1720 (by omega)
     replace X := dF X hE1720 (by omega)
     replace T : Hid (Has wd1719 (g1709) 64 #[.int .i64 7, .string ⟨#[]⟩, .int .i64 0, .int .i64 0, .int .i64 (a4 : Int), .slice none 0 0, .slice none 0 0, .int .i64 0, .int .i64 0, .bool false]) := Lib.hid (by simpa using dS T hE1720)
     replace O := kF O hE1720 (by omega)
     replace TO := kF TO hE1720 (by omega)
     replace hw := tF hw hE1720 (by omega)
     clear hE1720
     obtain ⟨wd1721, hE1722⟩ : ∃ ww, ww = wd1719.setCell ⟨g1709, 8, none⟩ (.int .i64 (cn : Int)) := ⟨_, rfl⟩
     rw [← hE1722]
     replace D := dF D hE1722 (by omega)
     replace R := dF R hE1722 (by omega)
     replace S := dF S hE1722 (by omega)
     replace X := dF X hE1722 (by omega)
     replace T : Hid (Has wd1721 (g1709) 64 #[.int .i64 7, .string ⟨#[]⟩, .int .i64 0, .int .i64 0, .int .i64 (a4 : Int), .slice none 0 0, .slice none 0 0, .int .i64 0, .int .i64 (cn : Int), .bool false]) := Lib.hid (by simpa using dS T hE1722)
     replace O := kF O hE1722 (by omega)
     replace TO := kF TO hE1722 (by omega)
     replace hw := tF hw hE1722 (by omega)
     clear hE1722
     have hb1723 : Below wd1721.heap.size wd1721 (wd1721.drew) := (Below.refl _ _).drew
     replace D := dB D hb1723
     replace R := dB R hb1723
     replace S := dB S hb1723
     replace X := dB X hb1723
     replace T := dB T hb1723
     replace O := dK O hb1723
     replace TO := dK TO hb1723
     replace hw := dT hw hb1723
     clear hb1723
     generalize wd1721.drew = wd1724 at *
     obtain ⟨cT_0, cT_1, cT_2, cT_3, cT_4, cT_5, cT_6, cT_7, cT_8, cT_9⟩ := T.out.c10
     have cS_0 : wd1724.cell? ⟨gS, 0, none⟩ = some (.slice A0 k c0) := S.out.cell 0
     have fS_0 := S.out.free 0
     go_upto_region 39 with fail
     have hbase : gS + 1 ≤ wd1724.heap.size := S.out.here
     go_wp2_with (at_builtin; refine wpList_append_lie rfl _ _ _ rfl (gS + 1) 64 _ 10 120 Try.underlying28 info_typ rfl (by decide) (.slice A0 k c0) k cs rfl O.out.now [.int .i64 7, .string ⟨#[]⟩, .int .i64 0, .int .i64 0, .int .i64 (a4 : Int), .slice none 0 0, .slice none 0 0, .int .i64 0, .int .i64 (cn : Int), .bool false] _ 1 _ rfl rfl rfl (by simp [Value.oneCell']) (by omega) (by omega) hbase ?_; intro g cap w3 hown3 hg3 hgat hb3; have cS_0 : w3.cell? ⟨gS, 0, none⟩ = some (.slice A0 k c0) := (S.out.below hb3 (by omega)).cell 0; have fS_0 := (S.out.below hb3 (by omega)).free 0)
     have hgsep : (Value.slice (some ⟨g, 0, none⟩) (k + 1) cap).ownBlock = (Value.slice A0 k c0).ownBlock ∨ (Value.slice (some ⟨g, 0, none⟩) (k + 1) cap).ownBlock = some (wd1724.heap.size + 1) := by
      rcases hgat with h | h
      ·
       left; rw [h]; rfl
      right; rw [h]; rfl
     have hty := TypsOwn.snoc _ _ ({ typ0 with kind := 7, max := (a4 : Int), elem := (cn : Int) }) _ _ TO.out.now ⟨World.ownsRow_nil _ _ _ _, World.ownsRow_nil _ _ _ _⟩ (.inl rfl) (.inl rfl) HTP.out
     have hty2 := hty.grown hg3 (Nat.le_succ _) hgsep
     clear hty hg3 hgat hgsep
     clear cT_0 cT_1 cT_2 cT_3 cT_4 cT_5 cT_6 cT_7 cT_8 cT_9 cS_0 fS_0
     clear T
     clear X
     clear O
     clear TO
     replace D := Lib.hid (D.out.below hb3 (show w.heap.size < gS + 1 by omega))
     replace R := Lib.hid (R.out.below hb3 (show w.heap.size + 1 < gS + 1 by omega))
     replace S := Lib.hid (S.out.below hb3 (show gS < gS + 1 by omega))
     replace hw := hw.trans (hb3.mono (show w.heap.size ≤ gS + 1 by omega))
     have O2 := Lib.hid (Kept.own hown3)
     have TO2 := Lib.hid (Kept.typs hty2)
     clear hown3 hty2
     obtain ⟨wd1725, hE1726⟩ : ∃ ww, ww = w3.setCell ⟨gS, 0, none⟩ (.slice (some ⟨g, 0, none⟩) (k + 1) cap) := ⟨_, rfl⟩
     rw [← hE1726]
     replace D := dF D hE1726 (by omega)
     replace R := dF R hE1726 (by omega)
     replace S : Hid (Has wd1725 (gS) 30 #[.slice (some ⟨g, 0, none⟩) (k + 1) cap]) := Lib.hid (by simpa using dS S hE1726)
     replace O2 := kF O2 hE1726 (by omega)
     replace TO2 := kF TO2 hE1726 (by omega)
     replace hw := tF hw hE1726 (by omega)
     clear hE1726
     go_wp2_with fail
     go_roundw
     case rel => exact ⟨k + 1, by omega, by go_num, _, _, D.out, R.out, S.out, O2.out.now, by rw [HTK.out]; exact TO2.out.now, hw⟩
     case measure => simp [intOf]; omega
   ·
    skip
    have ha4 : (x.a : Int).tmod 4 = ((x.a % 4 : Nat) : Int) := by rw [Int.tmod_eq_emod_of_nonneg (by omega)]; push_cast; rfl
    have hc4 : (x.c : Int).tmod xs.length = ((x.c % xs.length : Nat) : Int) := by rw [Int.tmod_eq_emod_of_nonneg (by omega)]; push_cast; rfl
    have ha5 : x.a % 4 < 4 := by omega
    have hc5 : x.c % xs.length < xs.length := Nat.mod_lt _ h5.1
    have hkey := fun W h => key_any xs (.slice (some ⟨b, o, none⟩) xs.length c) x.b W hint.2.2.1 h5 h
    cases hkn : keyN xs x.b with
    | some j =>
     rw [hkq] at hki
     have HI := Lib.hid hki
     have hty0 : typN xs k x = { typ0 with kind := 8, max := ((x.a % 4 : Nat) : Int), key := j, elem := ((x.c % xs.length : Nat) : Int) } := by unfold typN; simp [hkq, hkn]
     rw [hty0] at htk
     have HTK := Lib.hid htk
     have HTP : Hid (TypPlain { typ0 with kind := 8, max := ((x.a % 4 : Nat) : Int), key := j, elem := ((x.c % xs.length : Nat) : Int) }) := by have := typN_plain xs k x h5.2 hlt; rw [hty0] at this; exact this
     clear hki htk hty0 hkr hkq
     rw [hkn] at hkey
     have hkey2 : ∀ W, _ → Calls _ _ _ W (fun e w' => e = .returned (.int .i64 (j : Int)) ∧ Below W.heap.size W w') := hkey
     have HK := Lib.hid hkey2
     have tj : decide ((j : Int) < 0) = false := decide_eq_false (by omega)
     clear hkey hkey2 hkn
     generalize x.a % 4 = a4 at *
     generalize x.c % xs.length = cn at *
     have cD_0 : wr.cell? ⟨w.heap.size, 0, none⟩ = some (.slice (some ⟨b, o, none⟩) xs.length c) := D.out.cell 0
     go_upto_region 9 with fail
     clear cD_0
     obtain ⟨wd1728, hE1729⟩ : ∃ ww, ww = wr.alloc (.cells #[.int .u8 x.kind, .int .u8 x.a, .int .u8 x.b, .int .u8 x.c, .slice P0 x.parts.length cp] 74) := ⟨_, rfl⟩
     rw [← hE1729]
     have hb1727 := aB hE1729
     have X := aN hE1729
     clear hE1729
     have hl1731 := D.out.here
     have hl1732 := R.out.here
     have hl1733 := S.out.here
     have hl1734 := O.out.le
     have hl1735 := TO.out.le
     have hl1736 := hw.size
     replace D := dB D hb1727
     replace R := dB R hb1727
     replace S := dB S hb1727
     replace O := dK O hb1727
     replace TO := dK TO hb1727
     replace hw := dT hw hb1727
     clear hb1727
     generalize wr.heap.size = g1730 at *
     clear n0 n1 n2 n3 n4
     have cD_0 : wd1728.cell? ⟨w.heap.size, 0, none⟩ = some (.slice (some ⟨b, o, none⟩) xs.length c) := D.out.cell 0
     go_wp2_with fail
     clear cD_0
     ((with_reducible refine (HI.out _ (HR.out.on hw)).mono ?_); rintro e wd1737 ⟨rfl, hb1738⟩)
     replace D := dB D hb1738
     replace R := dB R hb1738
     replace S := dB S hb1738
     replace X := dB X hb1738
     replace O := dK O hb1738
     replace TO := dK TO hb1738
     replace hw := dT hw hb1738
     clear hb1738
     go_upto_region 10 with fail
     obtain ⟨wd1740, hE1741⟩ : ∃ ww, ww = wd1737.alloc (.cells #[.int .i64 8, .string ⟨#[]⟩, .int .i64 0, .int .i64 0, .int .i64 0, .slice none 0 0, .slice none 0 0, .int .i64 0, .int .i64 0, .bool false] 64) := ⟨_, rfl⟩
     rw [← hE1741]
     have hb1739 := aB hE1741
     have T := aN hE1741
     clear hE1741
     have hl1743 := D.out.here
     have hl1744 := R.out.here
     have hl1745 := S.out.here
     have hl1746 := X.out.here
     have hl1747 := O.out.le
     have hl1748 := TO.out.le
     have hl1749 := hw.size
     replace D := dB D hb1739
     replace R := dB R hb1739
     replace S := dB S hb1739
     replace X := dB X hb1739
     replace O := dK O hb1739
     replace TO := dK TO hb1739
     replace hw := dT hw hb1739
     clear hb1739
     generalize wd1737.heap.size = g1742 at *
     have cT_0 : wd1740.cell? ⟨g1742, 0, none⟩ = some (.int .i64 8) := T.out.cell 0
     go_wp2_with fail
     clear cT_0
     ((with_reducible refine (named_any _ _).mono ?_); rintro e wd1750 ⟨rfl, rfl⟩)
     rw [show namedB 8 = false from rfl]
     have cT_0 : wd1740.cell? ⟨g1742, 0, none⟩ = some (.int .i64 8) := T.out.cell 0
     go_upto_region 34 with fail
     have e0 : IntKind.i64.wrap (a4 : Int) = a4 := IntWalk.i64_in _ (by omega)
     have e1 : IntKind.i64.wrap (x.c : Int) = x.c := IntWalk.i64_in _ (by omega)
     have e2 : ¬ ((xs.length : Int) = 0) := by omega
     have e3 : ¬ (xs = []) := by intro h; rw [h] at h5; simp at h5
     obtain ⟨-, -, -, -, cT_4, -, -, cT_7, cT_8, -⟩ := T.out.c10
     have fT_4 := T.out.free 4
     have fT_7 := T.out.free 7
     have fT_8 := T.out.free 8
     have cX_1 : wd1740.cell? ⟨g1730, 1, none⟩ = some (.int .u8 x.a) := X.out.cell 1
     have cX_2 : wd1740.cell? ⟨g1730, 2, none⟩ = some (.int .u8 x.b) := X.out.cell 2
     have cX_3 : wd1740.cell? ⟨g1730, 3, none⟩ = some (.int .u8 x.c) := X.out.cell 3
     have cD_0 : wd1740.cell? ⟨w.heap.size, 0, none⟩ = some (.slice (some ⟨b, o, none⟩) xs.length c) := D.out.cell 0
     go_region_held3 (fun w' => w'.cell? ⟨g1730, 1, none⟩ = some (.int .u8 x.a) ∧ w'.cell? ⟨g1730, 2, none⟩ = some (.int .u8 x.b) ∧ w'.cell? ⟨g1730, 3, none⟩ = some (.int .u8 x.c) ∧ w'.cell? ⟨w.heap.size, 0, none⟩ = some (.slice (some ⟨b, o, none⟩) xs.length c)) (first | (go_keep; done) | exact ⟨cX_1, cX_2, cX_3, cD_0⟩ | (((repeat' apply And.intro) <;> ((repeat (with_reducible (first | refine Eq.trans (cell_drew _ _) ?_ | refine Eq.trans (cell_far _ _ _ _ _ (by dsimp only; omega)) ?_))); assumption)); done))
      (first
       | (go_at_call 39; (first | (with_reducible refine (HK.out _ (HR.out.on hw)).mono ?_) | (with_reducible refine (HK.out _ (HR.out.on hw.drew)).mono ?_)); rintro e wn ⟨rfl, hbn⟩; have D : Hid (Has wn (w.heap.size) 24 #[.slice (some ⟨b, o, none⟩) xs.length c]) := Lib.hid (by first | exact D.out.below hbn D.out.here | exact D.out.drew.below hbn D.out.here); have R : Hid (Has wn (w.heap.size + 1) 30 #[.slice none 0 0]) := Lib.hid (by first | exact R.out.below hbn R.out.here | exact R.out.drew.below hbn R.out.here); have S : Hid (Has wn (gS) 30 #[.slice A0 k c0]) := Lib.hid (by first | exact S.out.below hbn S.out.here | exact S.out.drew.below hbn S.out.here); have X : Hid (Has wn (g1730) 74 #[.int .u8 x.kind, .int .u8 x.a, .int .u8 x.b, .int .u8 x.c, .slice P0 x.parts.length cp]) := Lib.hid (by first | exact X.out.below hbn X.out.here | exact X.out.drew.below hbn X.out.here); have T : Hid (Has wn (g1742) 64 #[.int .i64 8, .string ⟨#[]⟩, .int .i64 0, .int .i64 0, .int .i64 0, .slice none 0 0, .slice none 0 0, .int .i64 0, .int .i64 0, .bool false]) := Lib.hid (by first | exact T.out.below hbn T.out.here | exact T.out.drew.below hbn T.out.here); have O := Lib.hid (Kept.ond O.out hbn); have TO := Lib.hid (Kept.ond TO.out hbn); have hw : Below w.heap.size w wn := (by first | exact hw.trans (hbn.mono hw.size) | exact (hw.drew).trans (hbn.mono hw.size)); have cT_0 : wn.cell? ⟨g1742, 0, none⟩ = some (.int .i64 8) := T.out.cell 0; have cT_4 : wn.cell? ⟨g1742, 4, none⟩ = some (.int .i64 0) := T.out.cell 4; have cT_7 : wn.cell? ⟨g1742, 7, none⟩ = some (.int .i64 0) := T.out.cell 7; have cT_8 : wn.cell? ⟨g1742, 8, none⟩ = some (.int .i64 0) := T.out.cell 8; have fT_4 : wn.frozen? ⟨g1742, 4, none⟩ = false := T.out.free 4; have fT_7 : wn.frozen? ⟨g1742, 7, none⟩ = false := T.out.free 7; have fT_8 : wn.frozen? ⟨g1742, 8, none⟩ = false := T.out.free 8; have cX_1 : wn.cell? ⟨g1730, 1, none⟩ = some (.int .u8 x.a) := X.out.cell 1; have cX_2 : wn.cell? ⟨g1730, 2, none⟩ = some (.int .u8 x.b) := X.out.cell 2; have cX_3 : wn.cell? ⟨g1730, 3, none⟩ = some (.int .u8 x.c) := X.out.cell 3; have cD_0 : wn.cell? ⟨w.heap.size, 0, none⟩ = some (.slice (some ⟨b, o, none⟩) xs.length c) := D.out.cell 0))
     clear e0 e1 e2 e3
     all_goals
      clear cT_0 cT_4 cT_7 cT_8 fT_4 fT_7 fT_8 cX_1 cX_2 cX_3 cD_0
      obtain ⟨wd1752, hE1753⟩ : ∃ ww, ww = wn.setCell ⟨g1742, 4, none⟩ (.int .i64 (a4 : Int)) := ⟨_, rfl⟩
      rw [← hE1753]
      replace D := dF D hE1753 (by omega)
      replace R := dF R hE1753 (by omega)
      replace S := dF S hE1753 (by omega)
      replace X := dF X hE1753 (by omega)
      replace T : Hid (Has wd1752 (g1742) 64 #[.int .i64 8, .string ⟨#[]⟩, .int .i64 0, .int .i64 0, .int .i64 (a4 : Int), .slice none 0 0, .slice none 0 0, .int .i64 0, .int .i64 0, .bool false]) := Lib.hid (by simpa using dS T hE1753)
      replace O := kF O hE1753 (by omega)
      replace TO := kF TO hE1753 (by omega)
      replace hw := tF hw hE1753 (by omega)
      clear hE1753
      obtain ⟨wd1754, hE1755⟩ : ∃ ww, ww = wd1752.setCell ⟨g1742, 7, none⟩ (.int .i64 (j : Int)) := ⟨_, rfl⟩
      rw [← hE1755]
      replace D := dF D hE1755 (by omega)
      replace R := dF R hE1755 (by omega)
      replace S := dF S hE1755 (by omega)
      replace X := dF X hE1755 (by omega)
      replace T : Hid (Has wd1754 (g1742) 64 #[.int .i64 8, .string ⟨#[]⟩, .int .i64 0, .int .i64 0, .int .i64 (a4 : Int), .slice none 0 0, .slice none 0 0, .int .i64 (j : Int), .int .i64 0, .bool false]) := Lib.hid (by simpa using dS T hE1755)
      replace O := kF O hE1755 (by omega)
      replace TO := kF TO hE1755 (by omega)
      replace hw := tF hw hE1755 (by omega)
      clear hE1755
      obtain ⟨wd1756, hE1757⟩ : ∃ ww, ww = wd1754.setCell ⟨g1742, 8, none⟩ (.int .i64 (cn : Int)) := ⟨_, rfl⟩
      rw [← hE1757]
      replace D := dF D hE1757 (by omega)
      replace R := dF R hE1757 (by omega)
      replace S := dF S hE1757 (by omega)
      replace X := dF X hE1757 (by omega)
      replace T : Hid (Has wd1756 (g1742) 64 #[.int .i64 8, .string ⟨#[]⟩, .int .i64 0, .int .i64 0, .int .i64 (a4 : Int), .slice none 0 0, .slice none 0 0, .int .i64 (j : Int), .int .i64 (cn : Int), .bool false]) := Lib.hid (by simpa using dS T hE1757)
      replace O := kF O hE1757 (by omega)
      replace TO := kF TO hE1757 (by omega)
      replace hw := tF hw hE1757 (by omega)
      clear hE1757
      have cT_7 : wd1756.cell? ⟨g1742, 7, none⟩ = some (.int .i64 (j : Int)) := T.out.cell 7
      obtain ⟨cT_0, cT_1, cT_2, cT_3, cT_4, cT_5, cT_6, -, cT_8, cT_9⟩ := T.out.c10
      have cS_0 : wd1756.cell? ⟨gS, 0, none⟩ = some (.slice A0 k c0) := S.out.cell 0
      have fS_0 := S.out.free 0
      go_upto_region 39 with fail
      have hbase : gS + 1 ≤ wd1756.heap.size := S.out.here
      go_wp2_with (at_builtin; refine wpList_append_lie rfl _ _ _ rfl (gS + 1) 64 _ 10 120 Try.underlying28 info_typ rfl (by decide) (.slice A0 k c0) k cs rfl O.out.now [.int .i64 8, .string ⟨#[]⟩, .int .i64 0, .int .i64 0, .int .i64 (a4 : Int), .slice none 0 0, .slice none 0 0, .int .i64 (j : Int), .int .i64 (cn : Int), .bool false] _ 1 _ rfl rfl rfl (by simp [Value.oneCell']) (by omega) (by omega) hbase ?_; intro g cap w3 hown3 hg3 hgat hb3; have cS_0 : w3.cell? ⟨gS, 0, none⟩ = some (.slice A0 k c0) := (S.out.below hb3 (by omega)).cell 0; have fS_0 := (S.out.below hb3 (by omega)).free 0)
      have hgsep : (Value.slice (some ⟨g, 0, none⟩) (k + 1) cap).ownBlock = (Value.slice A0 k c0).ownBlock ∨ (Value.slice (some ⟨g, 0, none⟩) (k + 1) cap).ownBlock = some (wd1756.heap.size + 1) := by
       rcases hgat with h | h
       ·
        left; rw [h]; rfl
       right; rw [h]; rfl
      have hty := TypsOwn.snoc _ _ ({ typ0 with kind := 8, max := (a4 : Int), key := j, elem := (cn : Int) }) _ _ TO.out.now ⟨World.ownsRow_nil _ _ _ _, World.ownsRow_nil _ _ _ _⟩ (.inl rfl) (.inl rfl) HTP.out
      have hty2 := hty.grown hg3 (Nat.le_succ _) hgsep
      clear hty hg3 hgat hgsep
      clear cT_7 cT_0 cT_1 cT_2 cT_3 cT_4 cT_5 cT_6 cT_8 cT_9 cS_0 fS_0
      clear T
      clear X
      clear O
      clear TO
      replace D := Lib.hid (D.out.below hb3 (show w.heap.size < gS + 1 by omega))
      replace R := Lib.hid (R.out.below hb3 (show w.heap.size + 1 < gS + 1 by omega))
      replace S := Lib.hid (S.out.below hb3 (show gS < gS + 1 by omega))
      replace hw := hw.trans (hb3.mono (show w.heap.size ≤ gS + 1 by omega))
      have O2 := Lib.hid (Kept.own hown3)
      have TO2 := Lib.hid (Kept.typs hty2)
      clear hown3 hty2
      obtain ⟨wd1758, hE1759⟩ : ∃ ww, ww = w3.setCell ⟨gS, 0, none⟩ (.slice (some ⟨g, 0, none⟩) (k + 1) cap) := ⟨_, rfl⟩
      rw [← hE1759]
      replace D := dF D hE1759 (by omega)
      replace R := dF R hE1759 (by omega)
      replace S : Hid (Has wd1758 (gS) 30 #[.slice (some ⟨g, 0, none⟩) (k + 1) cap]) := Lib.hid (by simpa using dS S hE1759)
      replace O2 := kF O2 hE1759 (by omega)
      replace TO2 := kF TO2 hE1759 (by omega)
      replace hw := tF hw hE1759 (by omega)
      clear hE1759
      go_wp2_with fail
      go_roundw
      case rel => exact ⟨k + 1, by omega, by go_num, _, _, D.out, R.out, S.out, O2.out.now, by rw [HTK.out]; exact TO2.out.now, hw⟩
      case measure => simp [intOf]; omega
    | none =>
     rw [hkq] at hki
     have HI := Lib.hid hki
     have hty0 : typN xs k x = { typ0 with kind := 7, max := ((x.a % 4 : Nat) : Int), elem := ((x.c % xs.length : Nat) : Int) } := by unfold typN; simp [hkq, hkn]
     rw [hty0] at htk
     have HTK := Lib.hid htk
     have HTP : Hid (TypPlain { typ0 with kind := 7, max := ((x.a % 4 : Nat) : Int), elem := ((x.c % xs.length : Nat) : Int) }) := by have := typN_plain xs k x h5.2 hlt; rw [hty0] at this; exact this
     clear hki htk hty0 hkr hkq
     rw [hkn] at hkey
     have hkey2 : ∀ W, _ → Calls _ _ _ W (fun e w' => e = .returned (.int .i64 (-1)) ∧ Below W.heap.size W w') := hkey
     have HK := Lib.hid hkey2
     clear hkey hkey2 hkn
     generalize x.a % 4 = a4 at *
     generalize x.c % xs.length = cn at *
     have cD_0 : wr.cell? ⟨w.heap.size, 0, none⟩ = some (.slice (some ⟨b, o, none⟩) xs.length c) := D.out.cell 0
     go_upto_region 9 with fail
     clear cD_0
     obtain ⟨wd1761, hE1762⟩ : ∃ ww, ww = wr.alloc (.cells #[.int .u8 x.kind, .int .u8 x.a, .int .u8 x.b, .int .u8 x.c, .slice P0 x.parts.length cp] 74) := ⟨_, rfl⟩
     rw [← hE1762]
     have hb1760 := aB hE1762
     have X := aN hE1762
     clear hE1762
     have hl1764 := D.out.here
     have hl1765 := R.out.here
     have hl1766 := S.out.here
     have hl1767 := O.out.le
     have hl1768 := TO.out.le
     have hl1769 := hw.size
     replace D := dB D hb1760
     replace R := dB R hb1760
     replace S := dB S hb1760
     replace O := dK O hb1760
     replace TO := dK TO hb1760
     replace hw := dT hw hb1760
     clear hb1760
     generalize wr.heap.size = g1763 at *
     clear n0 n1 n2 n3 n4
     have cD_0 : wd1761.cell? ⟨w.heap.size, 0, none⟩ = some (.slice (some ⟨b, o, none⟩) xs.length c) := D.out.cell 0
     go_wp2_with fail
     clear cD_0
     ((with_reducible refine (HI.out _ (HR.out.on hw)).mono ?_); rintro e wd1770 ⟨rfl, hb1771⟩)
     replace D := dB D hb1771
     replace R := dB R hb1771
     replace S := dB S hb1771
     replace X := dB X hb1771
     replace O := dK O hb1771
     replace TO := dK TO hb1771
     replace hw := dT hw hb1771
     clear hb1771
     go_upto_region 10 with fail
     obtain ⟨wd1773, hE1774⟩ : ∃ ww, ww = wd1770.alloc (.cells #[.int .i64 8, .string ⟨#[]⟩, .int .i64 0, .int .i64 0, .int .i64 0, .slice none 0 0, .slice none 0 0, .int .i64 0, .int .i64 0, .bool false] 64) := ⟨_, rfl⟩
     rw [← hE1774]
     have hb1772 := aB hE1774
     have T := aN hE1774
     clear hE1774
     have hl1776 := D.out.here
     have hl1777 := R.out.here
     have hl1778 := S.out.here
     have hl1779 := X.out.here
     have hl1780 := O.out.le
     have hl1781 := TO.out.le
     have hl1782 := hw.size
     replace D := dB D hb1772
     replace R := dB R hb1772
     replace S := dB S hb1772
     replace X := dB X hb1772
     replace O := dK O hb1772
     replace TO := dK TO hb1772
     replace hw := dT hw hb1772
     clear hb1772
     generalize wd1770.heap.size = g1775 at *
     have cT_0 : wd1773.cell? ⟨g1775, 0, none⟩ = some (.int .i64 8) := T.out.cell 0
     go_wp2_with fail
     clear cT_0
     ((with_reducible refine (named_any _ _).mono ?_); rintro e wd1783 ⟨rfl, rfl⟩)
     rw [show namedB 8 = false from rfl]
     have cT_0 : wd1773.cell? ⟨g1775, 0, none⟩ = some (.int .i64 8) := T.out.cell 0
     go_upto_region 34 with fail
     have e0 : IntKind.i64.wrap (a4 : Int) = a4 := IntWalk.i64_in _ (by omega)
     have e1 : IntKind.i64.wrap (x.c : Int) = x.c := IntWalk.i64_in _ (by omega)
     have e2 : ¬ ((xs.length : Int) = 0) := by omega
     have e3 : ¬ (xs = []) := by intro h; rw [h] at h5; simp at h5
     obtain ⟨-, -, -, -, cT_4, -, -, cT_7, cT_8, -⟩ := T.out.c10
     have fT_4 := T.out.free 4
     have fT_7 := T.out.free 7
     have fT_8 := T.out.free 8
     have cX_1 : wd1773.cell? ⟨g1763, 1, none⟩ = some (.int .u8 x.a) := X.out.cell 1
     have cX_2 : wd1773.cell? ⟨g1763, 2, none⟩ = some (.int .u8 x.b) := X.out.cell 2
     have cX_3 : wd1773.cell? ⟨g1763, 3, none⟩ = some (.int .u8 x.c) := X.out.cell 3
     have cD_0 : wd1773.cell? ⟨w.heap.size, 0, none⟩ = some (.slice (some ⟨b, o, none⟩) xs.length c) := D.out.cell 0
     go_region_held3 (fun w' => w'.cell? ⟨g1763, 1, none⟩ = some (.int .u8 x.a) ∧ w'.cell? ⟨g1763, 2, none⟩ = some (.int .u8 x.b) ∧ w'.cell? ⟨g1763, 3, none⟩ = some (.int .u8 x.c) ∧ w'.cell? ⟨w.heap.size, 0, none⟩ = some (.slice (some ⟨b, o, none⟩) xs.length c)) (first | (go_keep; done) | exact ⟨cX_1, cX_2, cX_3, cD_0⟩ | (((repeat' apply And.intro) <;> ((repeat (with_reducible (first | refine Eq.trans (cell_drew _ _) ?_ | refine Eq.trans (cell_far _ _ _ _ _ (by dsimp only; omega)) ?_))); assumption)); done))
      (first
       | (go_at_call 39; (first | (with_reducible refine (HK.out _ (HR.out.on hw)).mono ?_) | (with_reducible refine (HK.out _ (HR.out.on hw.drew)).mono ?_)); rintro e wn ⟨rfl, hbn⟩; have D : Hid (Has wn (w.heap.size) 24 #[.slice (some ⟨b, o, none⟩) xs.length c]) := Lib.hid (by first | exact D.out.below hbn D.out.here | exact D.out.drew.below hbn D.out.here); have R : Hid (Has wn (w.heap.size + 1) 30 #[.slice none 0 0]) := Lib.hid (by first | exact R.out.below hbn R.out.here | exact R.out.drew.below hbn R.out.here); have S : Hid (Has wn (gS) 30 #[.slice A0 k c0]) := Lib.hid (by first | exact S.out.below hbn S.out.here | exact S.out.drew.below hbn S.out.here); have X : Hid (Has wn (g1763) 74 #[.int .u8 x.kind, .int .u8 x.a, .int .u8 x.b, .int .u8 x.c, .slice P0 x.parts.length cp]) := Lib.hid (by first | exact X.out.below hbn X.out.here | exact X.out.drew.below hbn X.out.here); have T : Hid (Has wn (g1775) 64 #[.int .i64 8, .string ⟨#[]⟩, .int .i64 0, .int .i64 0, .int .i64 0, .slice none 0 0, .slice none 0 0, .int .i64 0, .int .i64 0, .bool false]) := Lib.hid (by first | exact T.out.below hbn T.out.here | exact T.out.drew.below hbn T.out.here); have O := Lib.hid (Kept.ond O.out hbn); have TO := Lib.hid (Kept.ond TO.out hbn); have hw : Below w.heap.size w wn := (by first | exact hw.trans (hbn.mono hw.size) | exact (hw.drew).trans (hbn.mono hw.size)); have cT_0 : wn.cell? ⟨g1775, 0, none⟩ = some (.int .i64 8) := T.out.cell 0; have cT_4 : wn.cell? ⟨g1775, 4, none⟩ = some (.int .i64 0) := T.out.cell 4; have cT_7 : wn.cell? ⟨g1775, 7, none⟩ = some (.int .i64 0) := T.out.cell 7; have cT_8 : wn.cell? ⟨g1775, 8, none⟩ = some (.int .i64 0) := T.out.cell 8; have fT_4 : wn.frozen? ⟨g1775, 4, none⟩ = false := T.out.free 4; have fT_7 : wn.frozen? ⟨g1775, 7, none⟩ = false := T.out.free 7; have fT_8 : wn.frozen? ⟨g1775, 8, none⟩ = false := T.out.free 8; have cX_1 : wn.cell? ⟨g1763, 1, none⟩ = some (.int .u8 x.a) := X.out.cell 1; have cX_2 : wn.cell? ⟨g1763, 2, none⟩ = some (.int .u8 x.b) := X.out.cell 2; have cX_3 : wn.cell? ⟨g1763, 3, none⟩ = some (.int .u8 x.c) := X.out.cell 3; have cD_0 : wn.cell? ⟨w.heap.size, 0, none⟩ = some (.slice (some ⟨b, o, none⟩) xs.length c) := D.out.cell 0))
     clear e0 e1 e2 e3
     all_goals
      clear cT_0 cT_4 cT_7 cT_8 fT_4 fT_7 fT_8 cX_1 cX_2 cX_3 cD_0
      obtain ⟨wd1785, hE1786⟩ : ∃ ww, ww = wn.setCell ⟨g1775, 4, none⟩ (.int .i64 (a4 : Int)) := ⟨_, rfl⟩
      rw [← hE1786]
      replace D := dF D hE1786 (by omega)
      replace R := dF R hE1786 (by omega)
      replace S := dF S hE1786 (by omega)
      replace X := dF X hE1786 (by omega)
      replace T : Hid (Has wd1785 (g1775) 64 #[.int .i64 8, .string ⟨#[]⟩, .int .i64 0, .int .i64 0, .int .i64 (a4 : Int), .slice none 0 0, .slice none 0 0, .int .i64 0, .int .i64 0, .bool false]) := Lib.hid (by simpa using dS T hE1786)
      replace O := kF O hE1786 (by omega)
      replace TO := kF TO hE1786 (by omega)
      replace hw := tF hw hE1786 (by omega)
      clear hE1786
      obtain ⟨wd1787, hE1788⟩ : ∃ ww, ww = wd1785.setCell ⟨g1775, 7, none⟩ (.int .i64 (-1)) := ⟨_, rfl⟩
      rw [← hE1788]
      replace D := dF D hE1788 (by omega)
      replace R := dF R hE1788 (by omega)
      replace S := dF S hE1788 (by omega)
      replace X := dF X hE1788 (by omega)
      replace T : Hid (Has wd1787 (g1775) 64 #[.int .i64 8, .string ⟨#[]⟩, .int .i64 0, .int .i64 0, .int .i64 (a4 : Int), .slice none 0 0, .slice none 0 0, .int .i64 (-1), .int .i64 0, .bool false]) := Lib.hid (by simpa using dS T hE1788)
      replace O := kF O hE1788 (by omega)
      replace TO := kF TO hE1788 (by omega)
      replace hw := tF hw hE1788 (by omega)
      clear hE1788
      obtain ⟨wd1789, hE1790⟩ : ∃ ww, ww = wd1787.setCell ⟨g1775, 8, none⟩ (.int .i64 (cn : Int)) := ⟨_, rfl⟩
      rw [← hE1790]
      replace D := dF D hE1790 (by omega)
      replace R := dF R hE1790 (by omega)
      replace S := dF S hE1790 (by omega)
      replace X := dF X hE1790 (by omega)
      replace T : Hid (Has wd1789 (g1775) 64 #[.int .i64 8, .string ⟨#[]⟩, .int .i64 0, .int .i64 0, .int .i64 (a4 : Int), .slice none 0 0, .slice none 0 0, .int .i64 (-1), .int .i64 (cn : Int), .bool false]) := Lib.hid (by simpa using dS T hE1790)
      replace O := kF O hE1790 (by omega)
      replace TO := kF TO hE1790 (by omega)
      replace hw := tF hw hE1790 (by omega)
      clear hE1790
      obtain ⟨-, -, -, -, cT_4, -, -, cT_7, cT_8, -⟩ := T.out.c10
      go_upto_region 36 with fail
      go_upto_region 39 with (refine wpList_store_row rfl 64 _ _ rfl (g1775) _ rfl rfl 64 _ T.out (by kernel_rfl) rfl (by simp [Value.oneCell']) ?_)
      clear cT_4 cT_7 cT_8
      obtain ⟨wd1791, hE1792⟩ : ∃ ww, ww = wd1789.setRow (g1775) #[.int .i64 7, .string ⟨#[]⟩, .int .i64 0, .int .i64 0, .int .i64 (a4 : Int), .slice none 0 0, .slice none 0 0, .int .i64 0, .int .i64 (cn : Int), .bool false] := ⟨_, rfl⟩
      rw [← hE1792]
      replace D := dR D hE1792 (by omega)
      replace R := dR R hE1792 (by omega)
      replace S := dR S hE1792 (by omega)
      replace X := dR X hE1792 (by omega)
      replace T := dO T hE1792
      replace O := kR O hE1792 (by omega)
      replace TO := kR TO hE1792 (by omega)
      replace hw := tR hw hE1792 (by omega)
      clear hE1792
      obtain ⟨cT_0, cT_1, cT_2, cT_3, cT_4, cT_5, cT_6, cT_7, cT_8, cT_9⟩ := T.out.c10
      have cS_0 : wd1791.cell? ⟨gS, 0, none⟩ = some (.slice A0 k c0) := S.out.cell 0
      have fS_0 := S.out.free 0
      go_upto_region 39 with fail
      have hbase : gS + 1 ≤ wd1791.heap.size := S.out.here
      go_wp2_with (at_builtin; refine wpList_append_lie rfl _ _ _ rfl (gS + 1) 64 _ 10 120 Try.underlying28 info_typ rfl (by decide) (.slice A0 k c0) k cs rfl O.out.now [.int .i64 7, .string ⟨#[]⟩, .int .i64 0, .int .i64 0, .int .i64 (a4 : Int), .slice none 0 0, .slice none 0 0, .int .i64 0, .int .i64 (cn : Int), .bool false] _ 1 _ rfl rfl rfl (by simp [Value.oneCell']) (by omega) (by omega) hbase ?_; intro g cap w3 hown3 hg3 hgat hb3; have cS_0 : w3.cell? ⟨gS, 0, none⟩ = some (.slice A0 k c0) := (S.out.below hb3 (by omega)).cell 0; have fS_0 := (S.out.below hb3 (by omega)).free 0)
      have hgsep : (Value.slice (some ⟨g, 0, none⟩) (k + 1) cap).ownBlock = (Value.slice A0 k c0).ownBlock ∨ (Value.slice (some ⟨g, 0, none⟩) (k + 1) cap).ownBlock = some (wd1791.heap.size + 1) := by
       rcases hgat with h | h
       ·
        left; rw [h]; rfl
       right; rw [h]; rfl
      have hty := TypsOwn.snoc _ _ ({ typ0 with kind := 7, max := (a4 : Int), elem := (cn : Int) }) _ _ TO.out.now ⟨World.ownsRow_nil _ _ _ _, World.ownsRow_nil _ _ _ _⟩ (.inl rfl) (.inl rfl) HTP.out
      have hty2 := hty.grown hg3 (Nat.le_succ _) hgsep
      clear hty hg3 hgat hgsep
      clear cT_0 cT_1 cT_2 cT_3 cT_4 cT_5 cT_6 cT_7 cT_8 cT_9 cS_0 fS_0
      clear T
      clear X
      clear O
      clear TO
      replace D := Lib.hid (D.out.below hb3 (show w.heap.size < gS + 1 by omega))
      replace R := Lib.hid (R.out.below hb3 (show w.heap.size + 1 < gS + 1 by omega))
      replace S := Lib.hid (S.out.below hb3 (show gS < gS + 1 by omega))
      replace hw := hw.trans (hb3.mono (show w.heap.size ≤ gS + 1 by omega))
      have O2 := Lib.hid (Kept.own hown3)
      have TO2 := Lib.hid (Kept.typs hty2)
      clear hown3 hty2
      obtain ⟨wd1793, hE1794⟩ : ∃ ww, ww = w3.setCell ⟨gS, 0, none⟩ (.slice (some ⟨g, 0, none⟩) (k + 1) cap) := ⟨_, rfl⟩
      rw [← hE1794]
      replace D := dF D hE1794 (by omega)
      replace R := dF R hE1794 (by omega)
      replace S : Hid (Has wd1793 (gS) 30 #[.slice (some ⟨g, 0, none⟩) (k + 1) cap]) := Lib.hid (by simpa using dS S hE1794)
      replace O2 := kF O2 hE1794 (by omega)
      replace TO2 := kF TO2 hE1794 (by omega)
      replace hw := tF hw hE1794 (by omega)
      clear hE1794
      go_wp2_with fail
      go_roundw
      case rel => exact ⟨k + 1, by omega, by go_num, _, _, D.out, R.out, S.out, O2.out.now, by rw [HTK.out]; exact TO2.out.now, hw⟩
      case measure => simp [intOf]; omega
   skip
   rw [hkq] at hki
   have HI := Lib.hid hki
   have hty0 : typN xs k x = { typ0 with kind := 9, elem := ((x.c % xs.length : Nat) : Int) } := by unfold typN; simp [hkq]
   rw [hty0] at htk
   have HTK := Lib.hid htk
   have HTP : Hid (TypPlain { typ0 with kind := 9, elem := ((x.c % xs.length : Nat) : Int) }) := by have := typN_plain xs k x h5.2 hlt; rw [hty0] at this; exact this
   clear hki htk hty0 hkr hkq
   have hc4 : (x.c : Int) % xs.length = ((x.c % xs.length : Nat) : Int) := by push_cast; rfl
   have hc5 : x.c % xs.length < xs.length := Nat.mod_lt _ h5.1
   have hxc : (x.c : Int) < 256 := by omega
   have hz : ((xs.length : Int) == 0) = false := beq_eq_false_iff_ne.2 (by omega)
   generalize x.c % xs.length = cn at *
   have cD_0 : wr.cell? ⟨w.heap.size, 0, none⟩ = some (.slice (some ⟨b, o, none⟩) xs.length c) := D.out.cell 0
   go_upto_region 9 with fail
   clear cD_0
   obtain ⟨wd1796, hE1797⟩ : ∃ ww, ww = wr.alloc (.cells #[.int .u8 x.kind, .int .u8 x.a, .int .u8 x.b, .int .u8 x.c, .slice P0 x.parts.length cp] 74) := ⟨_, rfl⟩
   rw [← hE1797]
   have hb1795 := aB hE1797
   have X := aN hE1797
   clear hE1797
   have hl1799 := D.out.here
   have hl1800 := R.out.here
   have hl1801 := S.out.here
   have hl1802 := O.out.le
   have hl1803 := TO.out.le
   have hl1804 := hw.size
   replace D := dB D hb1795
   replace R := dB R hb1795
   replace S := dB S hb1795
   replace O := dK O hb1795
   replace TO := dK TO hb1795
   replace hw := dT hw hb1795
   clear hb1795
   generalize wr.heap.size = g1798 at *
   clear n0 n1 n2 n3 n4
   have cD_0 : wd1796.cell? ⟨w.heap.size, 0, none⟩ = some (.slice (some ⟨b, o, none⟩) xs.length c) := D.out.cell 0
   go_wp2_with fail
   clear cD_0
   ((with_reducible refine (HI.out _ (HR.out.on hw)).mono ?_); rintro e wd1805 ⟨rfl, hb1806⟩)
   replace D := dB D hb1806
   replace R := dB R hb1806
   replace S := dB S hb1806
   replace X := dB X hb1806
   replace O := dK O hb1806
   replace TO := dK TO hb1806
   replace hw := dT hw hb1806
   clear hb1806
   go_upto_region 10 with fail
   obtain ⟨wd1808, hE1809⟩ : ∃ ww, ww = wd1805.alloc (.cells #[.int .i64 9, .string ⟨#[]⟩, .int .i64 0, .int .i64 0, .int .i64 0, .slice none 0 0, .slice none 0 0, .int .i64 0, .int .i64 0, .bool false] 64) := ⟨_, rfl⟩
   rw [← hE1809]
   have hb1807 := aB hE1809
   have T := aN hE1809
   clear hE1809
   have hl1811 := D.out.here
   have hl1812 := R.out.here
   have hl1813 := S.out.here
   have hl1814 := X.out.here
   have hl1815 := O.out.le
   have hl1816 := TO.out.le
   have hl1817 := hw.size
   replace D := dB D hb1807
   replace R := dB R hb1807
   replace S := dB S hb1807
   replace X := dB X hb1807
   replace O := dK O hb1807
   replace TO := dK TO hb1807
   replace hw := dT hw hb1807
   clear hb1807
   generalize wd1805.heap.size = g1810 at *
   have cT_0 : wd1808.cell? ⟨g1810, 0, none⟩ = some (.int .i64 9) := T.out.cell 0
   go_wp2_with fail
   clear cT_0
   ((with_reducible refine (named_any _ _).mono ?_); rintro e wd1818 ⟨rfl, rfl⟩)
   rw [show namedB 9 = false from rfl]
   have cT_0 : wd1808.cell? ⟨g1810, 0, none⟩ = some (.int .i64 9) := T.out.cell 0
   have cT_8 : wd1808.cell? ⟨g1810, 8, none⟩ = some (.int .i64 0) := T.out.cell 8
   have cX_3 : wd1808.cell? ⟨g1798, 3, none⟩ = some (.int .u8 x.c) := X.out.cell 3
   have fT_8 := T.out.free 8
   go_upto_region 39 with fail
   clear cT_0 cT_8 cX_3 fT_8
   obtain ⟨wd1820, hE1821⟩ : ∃ ww, ww = wd1808.setCell ⟨g1810, 8, none⟩ (.int .i64 (cn : Int)) := ⟨_, rfl⟩
   rw [← hE1821]
   replace D := dF D hE1821 (by omega)
   replace R := dF R hE1821 (by omega)
   replace S := dF S hE1821 (by omega)
   replace X := dF X hE1821 (by omega)
   replace T : Hid (Has wd1820 (g1810) 64 #[.int .i64 9, .string ⟨#[]⟩, .int .i64 0, .int .i64 0, .int .i64 0, .slice none 0 0, .slice none 0 0, .int .i64 0, .int .i64 (cn : Int), .bool false]) := Lib.hid (by simpa using dS T hE1821)
   replace O := kF O hE1821 (by omega)
   replace TO := kF TO hE1821 (by omega)
   replace hw := tF hw hE1821 (by omega)
   clear hE1821
   obtain ⟨cT_0, cT_1, cT_2, cT_3, cT_4, cT_5, cT_6, cT_7, cT_8, cT_9⟩ := T.out.c10
   have cS_0 : wd1820.cell? ⟨gS, 0, none⟩ = some (.slice A0 k c0) := S.out.cell 0
   have fS_0 := S.out.free 0
   go_upto_region 39 with fail
   have hbase : gS + 1 ≤ wd1820.heap.size := S.out.here
   go_wp2_with (at_builtin; refine wpList_append_lie rfl _ _ _ rfl (gS + 1) 64 _ 10 120 Try.underlying28 info_typ rfl (by decide) (.slice A0 k c0) k cs rfl O.out.now [.int .i64 9, .string ⟨#[]⟩, .int .i64 0, .int .i64 0, .int .i64 0, .slice none 0 0, .slice none 0 0, .int .i64 0, .int .i64 (cn : Int), .bool false] _ 1 _ rfl rfl rfl (by simp [Value.oneCell']) (by omega) (by omega) hbase ?_; intro g cap w3 hown3 hg3 hgat hb3; have cS_0 : w3.cell? ⟨gS, 0, none⟩ = some (.slice A0 k c0) := (S.out.below hb3 (by omega)).cell 0; have fS_0 := (S.out.below hb3 (by omega)).free 0)
   have hgsep : (Value.slice (some ⟨g, 0, none⟩) (k + 1) cap).ownBlock = (Value.slice A0 k c0).ownBlock ∨ (Value.slice (some ⟨g, 0, none⟩) (k + 1) cap).ownBlock = some (wd1820.heap.size + 1) := by
    rcases hgat with h | h
    ·
     left; rw [h]; rfl
    right; rw [h]; rfl
   have hty := TypsOwn.snoc _ _ ({ typ0 with kind := 9, elem := (cn : Int) }) _ _ TO.out.now ⟨World.ownsRow_nil _ _ _ _, World.ownsRow_nil _ _ _ _⟩ (.inl rfl) (.inl rfl) HTP.out
   have hty2 := hty.grown hg3 (Nat.le_succ _) hgsep
   clear hty hg3 hgat hgsep
   clear cT_0 cT_1 cT_2 cT_3 cT_4 cT_5 cT_6 cT_7 cT_8 cT_9 cS_0 fS_0
   clear T
   clear X
   clear O
   clear TO
   replace D := Lib.hid (D.out.below hb3 (show w.heap.size < gS + 1 by omega))
   replace R := Lib.hid (R.out.below hb3 (show w.heap.size + 1 < gS + 1 by omega))
   replace S := Lib.hid (S.out.below hb3 (show gS < gS + 1 by omega))
   replace hw := hw.trans (hb3.mono (show w.heap.size ≤ gS + 1 by omega))
   have O2 := Lib.hid (Kept.own hown3)
   have TO2 := Lib.hid (Kept.typs hty2)
   clear hown3 hty2
   obtain ⟨wd1822, hE1823⟩ : ∃ ww, ww = w3.setCell ⟨gS, 0, none⟩ (.slice (some ⟨g, 0, none⟩) (k + 1) cap) := ⟨_, rfl⟩
   rw [← hE1823]
   replace D := dF D hE1823 (by omega)
   replace R := dF R hE1823 (by omega)
   replace S : Hid (Has wd1822 (gS) 30 #[.slice (some ⟨g, 0, none⟩) (k + 1) cap]) := Lib.hid (by simpa using dS S hE1823)
   replace O2 := kF O2 hE1823 (by omega)
   replace TO2 := kF TO2 hE1823 (by omega)
   replace hw := tF hw hE1823 (by omega)
   clear hE1823
   go_wp2_with fail
   go_roundw
   case rel => exact ⟨k + 1, by omega, by go_num, _, _, D.out, R.out, S.out, O2.out.now, by rw [HTK.out]; exact TO2.out.now, hw⟩
   case measure => simp [intOf]; omega
  obtain rfl : k = xs.length := by omega
  replace D := Lib.hid D
  replace R := Lib.hid R
  replace S := Lib.hid S
  have O := Lib.hid (Kept.own hown)
  have TO := Lib.hid (Kept.typs hto)
  clear hto hown
  have cS_0 : wr.cell? ⟨gS, 0, none⟩ = some (.slice A0 xs.length c0) := S.out.cell 0
  go_upto_region 40 with fail
  clear cS_0
  have cR_0 : wr.cell? ⟨w.heap.size + 1, 0, none⟩ = some (.slice none 0 0) := R.out.cell 0
  have cS_0 : wr.cell? ⟨gS, 0, none⟩ = some (.slice A0 xs.length c0) := S.out.cell 0
  have fR_0 := R.out.free 0
  go_wp2_with fail
  clear cR_0 cS_0 fR_0
  obtain ⟨wd1824, hE1825⟩ : ∃ ww, ww = wr.setCell ⟨w.heap.size + 1, 0, none⟩ (.slice A0 xs.length c0) := ⟨_, rfl⟩
  rw [← hE1825]
  replace D := dF D hE1825 (by omega)
  replace S := dF S hE1825 (by omega)
  replace R : Hid (Has wd1824 (w.heap.size + 1) 30 #[.slice A0 xs.length c0]) := Lib.hid (by simpa using dS R hE1825)
  replace O := kF O hE1825 (by omega)
  replace TO := kF TO hE1825 (by omega)
  replace hw := tF hw hE1825 (by omega)
  clear hE1825
  have hrd := typs_kept (ts := ofN xs) (L := w.heap.size) (by rw [ofN_len]; exact O.out) (by have := TO.out; rwa [List.take_of_length_le (by rw [ofN_len]; omega)] at this) (by omega)
  have HRD := Lib.hid hrd
  clear hrd
  have cR_0 : wd1824.cell? ⟨w.heap.size + 1, 0, none⟩ = some (.slice A0 xs.length c0) := R.out.cell 0
  exact bodyPost_ret (v := .tuple #[.agg #[.slice A0 xs.length c0], .bool true]) (by simp [results, Try.results16, go_sem, cR_0]) rfl (⟨_, rfl, HRD.out, hw⟩)
end Go.Proofs.Ytgeapglanckjpaa

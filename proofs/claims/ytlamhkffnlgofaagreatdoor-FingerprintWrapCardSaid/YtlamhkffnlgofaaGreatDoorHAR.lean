/- The examples of the document hold: awake of layer 19. What the listed variables of layer 19 read as. No condition. -/
import Derived.Test.YtlamhkffnlgofaaGreatDoorHAQ
import Derived.Test.YtlamhkffnlgofaaGreatDoorFprm
import Derived.Test.YtlamhkffnlgofaaGreatDoorTie
import Derived.Test.YtlamhkffnlgofaaGreatDoorCards
import Derived.SevenTiedAt
import Derived.ProofKit
import Derived.LaidMore
import Derived.OpenShut
import Derived.Stop.Joined
import Derived.Lib.LaidTab
set_option maxHeartbeats 800000
namespace Go.Proofs.YtlamhkffnlgofaaGreatDoor
open Go.ChangeShapes Go.WideShapes Go.ChangeAt Go.RowKit
theorem bytesOf {ts : List Typ} {l : List UInt8} {t : Nat} (hv : validE ts = 0) (ht : t < ts.length) (hI : IntIn ts) (hD : DflOK ts) (h0 : Dfl0 ts) (he : bytE ts t = (l, 0)) (hl : l.length ≤ 1000000000000) (hs : Sizes ts) {w : World} (hp : PowIs w) {A : Option Addr} {c : Nat}
  (hr : RdTyps w w.heap.size (.slice A ts.length c) ts) : Calls Tryz.prog 22 #[.agg #[.slice A ts.length c, .int .i64 (t : Nat)]] w fun e w' => e = .returned (.tuple #[.string ⟨l.toArray⟩, .int .i64 0]) ∧ Below w.heap.size w w' := by
 have hb := bytE_ok hv ht hD
 rw [he] at hb
 have hll : (bytesT (canT ts t)).length ≤ 1000000000000 := by rw [← (Prod.mk.inj hb).1]; exact hl
 have h := bytes_any ts A c (t : Nat) w hs hr hp hI (fun _ _ => by rw [Int.toNat_natCast]; exact hll) (fun _ _ => by
  rw [Int.toNat_natCast]
  exact fullAll_bare (can_valid hv ht) (can_int hv ht hI) (can_dfl hv ht hD) (dfl0_can hv ht h0))
 rw [he] at h
 exact h
theorem awM_x (nm : List UInt8) (h : nm.length ≤ 100) : MemX (awM nm) := ⟨⟨i64s 3, i64s 0⟩, by show nm.length ≤ _; omega, ⟨rfl, rfl, rfl⟩, ⟨i64s 1, i64s 0, i64s 0⟩, by show (0 : Nat) ≤ _; omega⟩
theorem awR_x (nm : List UInt8) (h : nm.length ≤ 100) : TypX (awR nm) := ⟨⟨i64s 5, i64s 0, i64s 0, i64s 0, i64s 0, i64s 0⟩, by show (1 : Nat) ≤ _; omega, ⟨by show (0 : Nat) ≤ _; omega, by show (1 : Nat) ≤ _; omega⟩, fun r hr => by simp [awR] at hr, fun m hm => by
 obtain rfl := List.mem_singleton.1 hm; exact awM_x nm h⟩
theorem awB_x : TypX awB := ⟨⟨i64s 1, i64s 0, i64s 0, i64s 0, i64s 0, i64s 0⟩, by show (0 : Nat) ≤ _; omega, ⟨by show (0 : Nat) ≤ _; omega, by show (0 : Nat) ≤ _; omega⟩, fun r hr => by simp [awB] at hr, fun m hm => by simp [awB] at hm⟩
theorem awI_x : TypX awI := ⟨⟨i64s 2, by show I64 (-10); unfold I64; omega, by show I64 10; unfold I64; omega, i64s 0, i64s 0, i64s 0⟩, by show (0 : Nat) ≤ _; omega, ⟨by show (0 : Nat) ≤ _; omega, by show (0 : Nat) ≤ _; omega⟩, fun r hr => by simp [awI] at hr, fun m hm => by simp [awI] at hm⟩
theorem sizesX {ts : List Typ} (h : ∀ x ∈ ts, TypX x) : Sizes ts := fun x hx => by have := (h x hx).lens; exact ⟨by omega, by omega⟩
theorem typAt_bare {w : World} {B : Nat} {x : Typ} (hx : TypX x) (h1 : x.syms = []) (h2 : x.mems = []) : TypAt w B x (.slice none 0 0) (.slice none 0 0) :=
 ⟨hx.ints, hx.namel, by rw [h1, h2]; simp, hx.symsin, by rw [h1]; exact Rd.nil_ w B 2, by rw [h2]; exact ⟨fun _ => [], ⟨none, 0, rfl, Nat.le_refl _, .inl rfl⟩, fun i h => by simp at h⟩⟩
theorem rdI {w : World} {g : Nat} (h : Has w g 71 (typV awI (.slice none 0 0) (.slice none 0 0)).toArray) : RdTyps w w.heap.size (.slice (some ⟨g, 0, none⟩) 1 1) [awI] := by
 refine ⟨fun _ => typV awI (.slice none 0 0) (.slice none 0 0), ⟨_, 1, rfl, Nat.le_refl _, .inr ⟨g, 0, rfl, h.here, fun i hi j u hu => ?_⟩⟩, fun i hi => ?_⟩
 ·
  simp only [List.length_singleton] at hi
  obtain rfl : i = 0 := by omega
  have := h.cell j
  rw [List.getElem?_toArray] at this
  simpa using this.trans hu
 simp only [List.length_singleton] at hi
 obtain rfl : i = 0 := by omega
 exact ⟨_, _, rfl, typAt_bare awI_x rfl rfl⟩
theorem rd2 {w : World} {g gm : Nat} {nm : List UInt8} (hn : nm.length ≤ 100) (h : Has w g 71 (typV awB (.slice none 0 0) (.slice none 0 0) ++ typV (awR nm) (.slice none 0 0) (.slice (some ⟨gm, 0, none⟩) 1 1)).toArray) (hm : Has w gm 83 (memN (awM nm)).toArray) : RdTyps w w.heap.size (.slice (some ⟨g, 0, none⟩) 2 2) (aw2 nm) := by
 refine ⟨fun i => if i = 0 then typV awB (.slice none 0 0) (.slice none 0 0) else typV (awR nm) (.slice none 0 0) (.slice (some ⟨gm, 0, none⟩) 1 1), ⟨_, 2, rfl, Nat.le_refl _, .inr ⟨g, 0, rfl, h.here, fun i hi j u hu => ?_⟩⟩, fun i hi => ?_⟩
 ·
  have hc := h.cell (i * 10 + j)
  rw [List.getElem?_toArray] at hc
  have hil : i = 0 ∨ i = 1 := by have : i < 2 := hi; omega
  rcases hil with rfl | rfl
  ·
   dsimp only at hu
   rw [if_pos rfl] at hu
   have hj : j < 10 := by have := (List.getElem?_eq_some_iff.1 hu).1; simpa [typV] using this
   rw [List.getElem?_append_left (by simp [typV]; omega)] at hc
   simpa using hc.trans (by simpa using hu)
  dsimp only at hu
  rw [if_neg (by omega)] at hu
  rw [List.getElem?_append_right (by simp [typV]), show 1 * 10 + j - (typV awB (.slice none 0 0) (.slice none 0 0)).length = j by simp [typV]] at hc
  rw [Nat.zero_add]
  exact hc.trans hu
 have hil : i = 0 ∨ i = 1 := by have : i < 2 := hi; omega
 rcases hil with rfl | rfl
 ·
  exact ⟨_, _, rfl, typAt_bare awB_x rfl rfl⟩
 refine ⟨_, _, rfl, ⟨(awR_x nm hn).ints, (awR_x nm hn).namel, by show (0 : Nat) ≤ _ ∧ (1 : Nat) ≤ _; omega, (awR_x nm hn).symsin, Rd.nil_ w _ 2, ?_⟩⟩
 refine ⟨fun _ => memN (awM nm), ⟨_, 1, rfl, Nat.le_refl _, .inr ⟨gm, 0, rfl, hm.here, fun i hi j u hu => ?_⟩⟩, fun i hi => ?_⟩
 ·
  obtain rfl : i = 0 := by have : i < 1 := hi; omega
  have hc := hm.cell j
  rw [List.getElem?_toArray] at hc
  simpa using hc.trans hu
 obtain rfl : i = 0 := by have : i < 1 := hi; omega
 exact ⟨_, _, _, rfl, (awM_x nm hn).at_ w _⟩
set_option maxRecDepth 100000 in
theorem truth_any (nm : List UInt8) (hn : nm.length ≤ 100) (w : World) : Calls Tryz.prog 35 #[.string ⟨nm.toArray⟩] w fun e w' => ∃ g, e = .returned (.agg #[.slice (some ⟨g, 0, none⟩) 2 2, .int .i64 1]) ∧ RdTyps w' w'.heap.size (.slice (some ⟨g, 0, none⟩) 2 2) (aw2 nm) ∧ Below w.heap.size w w' := by
 go_enter Tryz.func35, Tryz.ntmps35
 go_upto_region 1 with fail
 refine am1 (fun wd2 hb1 Z => ?_)
 have hw3 := hb1
 clear hb1
 go_upto_region 2 with fail
 refine am1 (fun wd5 hb4 M => ?_)
 have hl7 := Z.out.here
 have hl8 := hw3.size
 replace Z := b1 Z hb4
 replace hw3 := dT hw3 hb4
 clear hb4
 generalize wd2.heap.size = g6 at *
 obtain ⟨cM_0, cM_1, cM_2, cM_3, cM_4, cM_5, cM_6, cM_7, cM_8, cM_9, cM_10, cM_11, cM_12⟩ := M.out.c13
 go_wp2_with (refine sR ((Z.out.alloc _).alloc _) ?_)
 clear cM_0 cM_1 cM_2 cM_3 cM_4 cM_5 cM_6 cM_7 cM_8 cM_9 cM_10 cM_11 cM_12
 generalize hE11 : wd5.alloc _ = wd10
 generalize hE13 : wd10.alloc _ = wd12
 have ⟨hb9, E, T⟩ := an2 hE11 hE13
 clear hE11 hE13
 have hl15 := Z.out.here
 have hl16 := M.out.here
 have hl17 := hw3.size
 obtain ⟨Z, M⟩ := b2 Z M hb9
 replace hw3 := dT hw3 hb9
 clear hb9
 generalize wd5.heap.size = g14 at *
 generalize hE19 : wd12.setRow _ _ = wd18
 obtain ⟨M, E, T⟩ := f3 M E T (eR hE19)
 replace Z := dO' Z hE19
 replace hw3 := tr hw3 hE19
 clear hE19
 exact bodyPost_ret (v := .agg #[.slice (some ⟨g14 + 1, 0, none⟩) 2 2, .int .i64 1]) (by simp [results, Tryz.results35, go_sem, Z.out.c2]) rfl (⟨_, rfl, rd2 hn T.out E.out, hw3⟩)
theorem aw1_call {W : World} {g : Nat} (hp : PowIs W) (h : Has W g 71 #[.int .i64 2, .string ⟨#[]⟩, .int .i64 (-10), .int .i64 10, .int .i64 0, .slice none 0 0, .slice none 0 0, .int .i64 0, .int .i64 0, .bool false]) :
  Calls Tryz.prog 22 #[.agg #[.slice (some ⟨g, 0, none⟩) 1 1, .int .i64 0]] W fun e w' => e = .returned (.tuple #[.string ⟨#[1, 2, 19, 20]⟩, .int .i64 0]) ∧ Below W.heap.size W w' :=
 bytesOf (t := 0) aw1_valid (by simp) (fun x hx => by obtain rfl := List.mem_singleton.1 hx; exact awI_x.ints.2 |> fun h => ⟨h.1, h.2.1⟩) aw1_dfl (fun x hx m hm => by obtain rfl := List.mem_singleton.1 hx; simp [awI] at hm) aw1_bytes (by simp) (sizesX (fun x hx => by obtain rfl := List.mem_singleton.1 hx; exact awI_x)) hp (rdI h)
theorem aw2_x (nm : List UInt8) (hn : nm.length ≤ 100) : ∀ x ∈ aw2 nm, TypX x := fun x hx => by
 simp only [aw2, List.mem_cons, List.not_mem_nil, or_false] at hx
 rcases hx with rfl | rfl
 ·
  exact awB_x
 exact awR_x nm hn
theorem aw2_call {W : World} {g : Nat} (nm : List UInt8) (h : nm = [97] ∨ nm = [98]) (hp : PowIs W) (hr : RdTyps W W.heap.size (.slice (some ⟨g, 0, none⟩) 2 2) (aw2 nm)) :
  Calls Tryz.prog 22 #[.agg #[.slice (some ⟨g, 0, none⟩) 2 2, .int .i64 1]] W fun e w' => e = .returned (.tuple #[.string ⟨#[2, 5, 1, 3, 2, 1, 1, 1]⟩, .int .i64 0]) ∧ Below W.heap.size W w' :=
 bytesOf (ts := aw2 nm) (t := 1) (aw2_valid nm h) (by simp [aw2]) (aw2_dfl nm).2.2 (aw2_dfl nm).1 (aw2_dfl nm).2.1 (aw2_bytes nm h) (by simp) (sizesX (aw2_x nm (by rcases h with rfl | rfl <;> simp))) hp hr
theorem aw2_of {W : World} {g : Nat} (hp : PowIs W) (hr : RdTyps W W.heap.size (.slice (some ⟨g, 0, none⟩) 2 2) (aw2 [98])) :
  Calls Tryz.prog 16 #[.agg #[.slice (some ⟨g, 0, none⟩) 2 2, .int .i64 1]] W fun e w' => e = .returned (.tuple #[.int .u64 (hashL hash0 [2, 5, 1, 3, 2, 1, 1, 1] : Nat), .int .i64 0]) ∧ Below W.heap.size W w' := by
 have hb := aw2_bytes [98] (.inr rfl)
 have h := fpOf_any (aw2 [98]) (some ⟨g, 0, none⟩) 2 1 W (by rw [hb]; simp) (fun W2 hb2 => by
  rw [hb]
  exact aw2_call [98] (.inr rfl) (hp.on hb2) (hr.on hb2))
 have e : fpE (aw2 [98]) 1 = (hashL hash0 [2, 5, 1, 3, 2, 1, 1, 1], 0) := by unfold fpE; rw [hb, if_neg (by simp)]
 rw [e] at h
 exact h
theorem root_call {W : World} (hp : PowIs W) : Calls Tryz.prog 28 #[.string ⟨#[2, 5, 1, 3, 2, 1, 1, 1]⟩] W fun e w' => (∃ A c, e = .returned (.tuple #[.agg #[.slice A 2 c, .int .i64 0], .int .i64 0])) ∧ Below W.heap.size W w' := by
 have hv := aw2_canOK
 have hc2 : canT aw2C 0 = aw2C := by
  have h := can_can (aw2_valid [97] (.inl rfl)) (t := 1) (by simp [aw2])
  rwa [aw2_can [97] (.inl rfl)] at h
 have h := root_any aw2C hv (by rw [aw2_byC]; simp) W hp (fun W2 A c hb hr => by
  have hxs := typX_of hv aw2C.length 0
  rw [← fillS_end] at hxs
  have hbe := bytE_ok hv.valid (t := 0) hv.pos hv.dfl
  rw [hc2] at hbe
  exact bytesOf hv.valid hv.pos hv.ints hv.dfl hv.bare hbe (by rw [aw2_byC]; simp) (sizesX hxs) (hp.on hb) hr)
 rw [aw2_byC] at h
 exact h.mono fun e w' ⟨A, c, h1, h2, h3⟩ => ⟨⟨A, c, h1⟩, h3⟩
theorem wrap_call (W : World) : Calls Tryz.prog 31 #[.int .u64 258, .string ⟨#[120]⟩] W fun e w' => e = .returned (.tuple #[.string ⟨#[0, 0, 0, 0, 0, 0, 1, 2, 120]⟩, .int .i64 0]) ∧ Below W.heap.size W w' :=
 wrap_any 258 (by unfold U64; omega) [120] (by simp) W
theorem unwrap_call (W : World) : Calls Tryz.prog 33 #[.string ⟨#[0, 0, 0, 0, 0, 0, 1, 2, 120]⟩] W fun e w' => e = .returned (.tuple #[.int .u64 258, .string ⟨#[120]⟩, .int .i64 0]) ∧ Below W.heap.size W w' :=
 unwrap_any [0, 0, 0, 0, 0, 0, 1, 2, 120] (by simp) W
set_option maxRecDepth 100000 in
theorem awake_any (w : World) (hp : PowIs w) : Calls Tryz.prog 10 #[] w fun e w' => e = .returned (.bool true) ∧ Below w.heap.size w w' := by
 have HP := Lib.hid hp
 have HHS : Hid (∀ W, Calls Tryz.prog 36 #[.string ⟨#[2, 5, 1, 3, 2, 1, 1, 1]⟩] W fun e w' => e = .returned (.int .u64 (hashL hash0 [2, 5, 1, 3, 2, 1, 1, 1])) ∧ W = w') := fun W => rhash_any [2, 5, 1, 3, 2, 1, 1, 1] (by simp) W
 have HOF : Hid (∀ (W : World) (g : Nat), PowIs W → RdTyps W W.heap.size (.slice (some ⟨g, 0, none⟩) 2 2) (aw2 [98]) → Calls Tryz.prog 16 #[.agg #[.slice (some ⟨g, 0, none⟩) 2 2, .int .i64 1]] W fun e w' => e = .returned (.tuple #[.int .u64 (hashL hash0 [2, 5, 1, 3, 2, 1, 1, 1] : Nat), .int .i64 0]) ∧ Below W.heap.size W w') := fun W g h1 h2 => aw2_of h1 h2
 generalize hashL hash0 [2, 5, 1, 3, 2, 1, 1, 1] = hh at *
 clear hp
 go_enter Tryz.func10, Tryz.ntmps10
 go_wp2_with fail
 refine amc1 (fun wd2 hb1 T => ?_)
 have hw3 := hb1
 clear hb1
 ((with_reducible refine (aw1_call (HP.out.on hw3) T.out).mono ?_); rintro e wd4 ⟨rfl, hb5⟩)
 replace T := b1 T hb5
 replace hw3 := dT hw3 hb5
 clear hb5
 clear T
 go_wp2_with fail
 ((with_reducible refine (truth_any [97] (by simp) _).mono ?_); rintro e wd6 ⟨g1, rfl, hr1, hb7⟩)
 replace hw3 := dT hw3 hb7
 clear hb7
 go_wp2_with fail
 ((with_reducible refine (aw2_call [97] (.inl rfl) (HP.out.on hw3) hr1).mono ?_); rintro e wd8 ⟨rfl, hb9⟩)
 replace hw3 := dT hw3 hb9
 clear hb9
 clear hr1
 go_wp2_with fail
 ((with_reducible refine (root_call (HP.out.on hw3)).mono ?_); rintro e wd10 ⟨⟨A3, c3, rfl⟩, hb11⟩)
 replace hw3 := dT hw3 hb11
 clear hb11
 go_upto_region 4 with fail
 refine am1 (fun wd13 hb12 Y => ?_)
 have hl15 := hw3.size
 replace hw3 := dT hw3 hb12
 clear hb12
 generalize wd10.heap.size = g14 at *
 go_wp2_with fail
 ((with_reducible refine (truth_any [98] (by simp) _).mono ?_); rintro e wd16 ⟨g2, rfl, hr2, hb17⟩)
 replace Y := b1 Y hb17
 replace hw3 := dT hw3 hb17
 clear hb17
 go_wp2_with fail
 ((with_reducible refine (HOF.out _ _ (HP.out.on hw3) hr2).mono ?_); rintro e wd18 ⟨rfl, hb19⟩)
 replace Y := b1 Y hb19
 replace hw3 := dT hw3 hb19
 clear hb19
 clear hr2
 go_wp2_with fail
 ((with_reducible refine (wrap_call _).mono ?_); rintro e wd20 ⟨rfl, hb21⟩)
 replace Y := b1 Y hb21
 replace hw3 := dT hw3 hb21
 clear hb21
 go_wp2_with fail
 ((with_reducible refine (unwrap_call _).mono ?_); rintro e wd22 ⟨rfl, hb23⟩)
 replace Y := b1 Y hb23
 replace hw3 := dT hw3 hb23
 clear hb23
 have cY_0 := Y.out.e0
 go_wp2_with fail
 clear cY_0
 ((with_reducible refine (HHS.out _).mono ?_); rintro e wd24 ⟨rfl, rfl⟩)
 go_wp2_with fail
 go_ret
 exact ⟨rfl, hw3⟩
end Go.Proofs.YtlamhkffnlgofaaGreatDoor
namespace Go.Proofs.YtlamhkffnlgofaaGreatDoor
open Go.ChangeShapes Go.WideShapes Go.ChangeAt Go.RowKit
def laid4 : List (String × DataW Unit) := [("math/bits.deBruijn32tab", Rows.laid_math_bits_deBruijn32tab), ("math/bits.deBruijn64tab", Rows.laid_math_bits_deBruijn64tab), ("internal/strconv.uint64pow10", Rows.laid_internal_strconv_uint64pow10)]
theorem pow_data : (Rows.laid_internal_strconv_uint64pow10 : DataW Unit) = Lib.tabData .u64 Lib.pow10Tab := by rfl
theorem tabs_of {W : World} (h : laidMetH Tryz.prog laid4 W) : PowR W := by
 rw [MakeChecks.laidMetH_plain _ _ _ (by kernel_rfl)] at h
 obtain ⟨ps, ⟨g0, t0, c0, f0, p0, q0, _, _, _, _, ⟨g1, t1, c1, f1, p1, q1, _, _, _, _, ⟨g2, t2, c2, f2, p2, q2, hg2, ht2, hv2, hd2, _, _⟩, _⟩, _⟩, _⟩ := h
 obtain rfl := Option.some.inj ((show Tryz.prog.globalNamed "internal/strconv.uint64pow10" = some 0 by kernel_rfl).symm.trans hg2)
 obtain rfl := Option.some.inj ((show (Tryz.prog.globals[0]?).map (·.type) = some 215 by kernel_rfl).symm.trans ht2)
 rw [pow_data] at hd2
 have hc := Lib.cells_of_tab Tryz.underlying215 Tryz.underlying36 (by kernel_rfl) (by kernel_rfl) hd2
 unfold PowR Lib.TabIs
 rw [hv2, ← hc]
theorem door_met (os : Os) (args : Array Value) : laidMetH Tryz.prog laid4 ((World.doorLaid Tryz.prog 400 os).forCall (fun _ _ => 0) ⟨#[], args, []⟩).memory :=
 laidMetH_of_parts3 (fuel := 8) (laidMet_of_run' 8 (by kernel_rfl) (by kernel_rfl)) (by kernel_rfl) (by kernel_rfl)
end Go.Proofs.YtlamhkffnlgofaaGreatDoor

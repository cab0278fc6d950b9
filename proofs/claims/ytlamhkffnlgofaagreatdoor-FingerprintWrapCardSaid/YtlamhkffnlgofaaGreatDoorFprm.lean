/- What the reader of canonical bytes takes for a type without defaults: form. No condition. -/
import Derived.Test.YtlamhkffnlgofaaGreatDoorHAL
import Derived.Test.YtlamhkffnlgofaaGreatDoorHAM
import Derived.Test.YtlamhkffnlgofaaGreatDoorShelf
import Derived.Lib.AppendIntMem
import Derived.Lib.SmallJoins
set_option maxHeartbeats 800000
namespace Go.Proofs.YtlamhkffnlgofaaGreatDoor
open Go.ChangeShapes Go.WideShapes Go.ChangeAt Go.RowKit
theorem qLow {w w' : World} {gr : Nat} (K : w.grownBy w' (some gr)) (hg : gr ≤ w.heap.size) : Below gr w w' :=
 ⟨K.os, K.tape, K.output, K.size, fun k hk => K.block k (by omega) (fun e => by injection e; omega)⟩
abbrev PowR (w : World) : Prop := Lib.TabIs Tryz.prog w "internal/strconv.uint64pow10" .u64 Lib.pow10Tab
theorem itoaR_any (n : Nat) (hn : n ≤ 1000) (w : World) (h : PowR w) : Calls Tryz.prog 69 #[.int .i64 (n : Nat)] w fun e w' => e = .returned (.string ⟨(Lib.itoa n).toArray⟩) ∧ Below w.heap.size w w' :=
 (Tryz.strconv_Itoa n (by omega) (by omega) w h).mono fun _ _ ⟨h1, k, os, h2⟩ => ⟨h1, h2 ▸ Lib.below_grow _ _ (Nat.le_refl _) k os⟩
def memN (m : Mem) : List Value := memV m (.slice none 0 0) (.slice none 0 0) (.slice none 0 0)
structure TypE (w : World) (lo hi : Nat) (x : Typ) (vs vm : Value) : Prop where
 syms : w.ownsRow lo 105 2 vs x.syms.length (rawsV x.syms)
 symsB : ∀ k, vs.ownBlock = some k → k < hi
 mems : w.ownsRow lo 83 13 vm x.mems.length (x.mems.flatMap memN)
 memsB : ∀ k, vm.ownBlock = some k → k < hi
theorem TypE.nil {w : World} {lo hi : Nat} {x : Typ} (h1 : x.syms = []) (h2 : x.mems = []) : TypE w lo hi x (.slice none 0 0) (.slice none 0 0) := by
 refine ⟨by rw [h1]; exact World.ownsRow_nil _ _ _ _, fun k h => (by cases h), by rw [h2]; exact World.ownsRow_nil _ _ _ _, fun k h => (by cases h)⟩
def FormPost (gr : Nat) (r : List UInt8) (x : Typ) (w : World) (e : Ending) (w' : World) : Prop :=
 ∃ vs vm, e = .returned (typA x vs vm) ∧ TypE w' w.heap.size w'.heap.size x vs vm ∧ RAt w' gr r 0 ∧ w.grownBy w' (some gr)
set_option maxRecDepth 100000 in
theorem rform1 (n : Nat) (r : List UInt8) (k gr : Nat) (w : World) (hr : RAt w gr (putF 9 1 ++ r) k) :
  Calls Tryz.prog 62 #[.pointer (some ⟨gr, 0, none⟩), .int .i64 (n : Nat)] w (FormPost gr r ⟨1, [], 0, 0, 0, [], [], 0, 0, false⟩ w) := by
 have R := hr
 have hgr := hr.here
 have KG := qR0 w (some gr)
 clear hr
 replace R := Lib.hid R
 go_enter Tryz.func62, Tryz.ntmps62
 go_upto_region 1 with fail
 refine am1 (fun wd2 hb1 Z => ?_)
 replace R := qB R hb1
 replace KG := qkB KG hb1
 clear hb1
 go_wp2_with fail
 ((with_reducible refine (rnumber_any 9 (by decide) 1 1 rfl (by decide) _ k gr _ R.out).mono ?_); rintro e wd3 ⟨rfl, hR4, hK5⟩)
 replace Z := qH Z hK5 (by omega)
 replace R := Lib.hid hR4
 replace KG := qT KG hK5
 clear hR4 hK5
 go_upto_region 2 with fail
 refine am1 (fun wd7 hb6 X => ?_)
 have hl9 := Z.out.here
 have hl10 := KG.size
 replace Z := b1 Z hb6
 replace R := qB R hb6
 replace KG := qkB KG hb6
 clear hb6
 generalize wd3.heap.size = g8 at *
 have cX_0 := X.out.e0
 obtain ⟨-, cX_1, cX_2, cX_3, cX_4, cX_5, cX_6, cX_7, cX_8, cX_9⟩ := X.out.c10
 go_wp2_with (refine sR Z.out ?_)
 clear cX_0 cX_1 cX_2 cX_3 cX_4 cX_5 cX_6 cX_7 cX_8 cX_9
 generalize hE12 : wd7.setRow _ _ = wd11
 replace X := f1 X (eR hE12)
 replace R := qR R hE12 (by omega)
 replace KG := qkR KG hE12 (by omega)
 replace Z := dO' Z hE12
 clear hE12
 exact bodyPost_ret (v := .agg #[.int .i64 1, .string ⟨#[]⟩, .int .i64 0, .int .i64 0, .int .i64 0, .slice none 0 0, .slice none 0 0, .int .i64 0, .int .i64 0, .bool false]) (by simp [results, Tryz.results62, go_sem, Z.out.c10]) rfl (⟨_, _, rfl, TypE.nil rfl rfl, R.out, KG⟩)
set_option maxRecDepth 100000 in
theorem rform2 (n : Nat) (lo hi : Int) (hlo : I64 lo) (hhi : I64 hi) (r : List UInt8) (k gr : Nat) (w : World) (hr : RAt w gr (putF 9 2 ++ (zigB lo ++ (zigB hi ++ r))) k) :
  Calls Tryz.prog 62 #[.pointer (some ⟨gr, 0, none⟩), .int .i64 (n : Nat)] w (FormPost gr r ⟨2, [], lo, hi, 0, [], [], 0, 0, false⟩ w) := by
 have R := hr
 have hgr := hr.here
 have KG := qR0 w (some gr)
 clear hr
 replace R := Lib.hid R
 go_enter Tryz.func62, Tryz.ntmps62
 go_upto_region 1 with fail
 refine am1 (fun wd2 hb1 Z => ?_)
 replace R := qB R hb1
 replace KG := qkB KG hb1
 clear hb1
 go_wp2_with fail
 ((with_reducible refine (rnumber_any 9 (by decide) 2 2 rfl (by decide) _ k gr _ R.out).mono ?_); rintro e wd3 ⟨rfl, hR4, hK5⟩)
 replace Z := qH Z hK5 (by omega)
 replace R := Lib.hid hR4
 replace KG := qT KG hK5
 clear hR4 hK5
 go_upto_region 2 with fail
 refine am1 (fun wd7 hb6 X => ?_)
 have hl9 := Z.out.here
 have hl10 := KG.size
 replace Z := b1 Z hb6
 replace R := qB R hb6
 replace KG := qkB KG hb6
 clear hb6
 generalize wd3.heap.size = g8 at *
 have cX_0 := X.out.e0
 go_wp2_with fail
 clear cX_0
 ((with_reducible refine (rinteger_any lo hlo _ 0 gr _ R.out).mono ?_); rintro e wd11 ⟨rfl, hR12, hK13⟩)
 replace Z := qH Z hK13 (by omega)
 replace X := qH X hK13 (by omega)
 replace R := Lib.hid hR12
 replace KG := qT KG hK13
 clear hR12 hK13
 have cX_2 := X.out.e2
 have fX_2 := X.out.free 2
 go_upto_region 7 with fail
 clear cX_2 fX_2
 generalize hE15 : wd11.setCell _ _ = wd14
 replace Z := f1 Z (eF hE15)
 replace R := qS R hE15 (by omega)
 replace KG := qkS KG hE15 (by omega)
 replace X := dS2 X hE15
 clear hE15
 go_wp2_with fail
 ((with_reducible refine (rinteger_any hi hhi _ 0 gr _ R.out).mono ?_); rintro e wd16 ⟨rfl, hR17, hK18⟩)
 replace Z := qH Z hK18 (by omega)
 replace X := qH X hK18 (by omega)
 replace R := Lib.hid hR17
 replace KG := qT KG hK18
 clear hR17 hK18
 have cX_3 := X.out.e3
 have fX_3 := X.out.free 3
 go_upto_region 39 with fail
 clear cX_3 fX_3
 generalize hE20 : wd16.setCell _ _ = wd19
 replace Z := f1 Z (eF hE20)
 replace R := qS R hE20 (by omega)
 replace KG := qkS KG hE20 (by omega)
 replace X := dS3 X hE20
 clear hE20
 obtain ⟨cX_0, cX_1, cX_2, cX_3, cX_4, cX_5, cX_6, cX_7, cX_8, cX_9⟩ := X.out.c10
 go_wp2_with (refine sR Z.out ?_)
 clear cX_0 cX_1 cX_2 cX_3 cX_4 cX_5 cX_6 cX_7 cX_8 cX_9
 generalize hE22 : wd19.setRow _ _ = wd21
 replace X := f1 X (eR hE22)
 replace R := qR R hE22 (by omega)
 replace KG := qkR KG hE22 (by omega)
 replace Z := dO' Z hE22
 clear hE22
 exact bodyPost_ret (v := .agg #[.int .i64 2, .string ⟨#[]⟩, .int .i64 lo, .int .i64 hi, .int .i64 0, .slice none 0 0, .slice none 0 0, .int .i64 0, .int .i64 0, .bool false]) (by simp [results, Tryz.results62, go_sem, Z.out.c10]) rfl (⟨_, _, rfl, TypE.nil rfl rfl, R.out, KG⟩)
set_option maxRecDepth 100000 in
theorem rform3 (n m : Nat) (hm : m ≤ 200) (r : List UInt8) (k gr : Nat) (w : World) (hr : RAt w gr (putF 9 3 ++ (putF 9 m ++ r)) k) :
  Calls Tryz.prog 62 #[.pointer (some ⟨gr, 0, none⟩), .int .i64 (n : Nat)] w (FormPost gr r ⟨3, [], 0, 0, (m : Nat), [], [], 0, 0, false⟩ w) := by
 have R := hr
 have hgr := hr.here
 have KG := qR0 w (some gr)
 clear hr
 replace R := Lib.hid R
 go_enter Tryz.func62, Tryz.ntmps62
 go_upto_region 1 with fail
 refine am1 (fun wd2 hb1 Z => ?_)
 replace R := qB R hb1
 replace KG := qkB KG hb1
 clear hb1
 go_wp2_with fail
 ((with_reducible refine (rnumber_any 9 (by decide) 3 3 rfl (by decide) _ k gr _ R.out).mono ?_); rintro e wd3 ⟨rfl, hR4, hK5⟩)
 replace Z := qH Z hK5 (by omega)
 replace R := Lib.hid hR4
 replace KG := qT KG hK5
 clear hR4 hK5
 go_upto_region 2 with fail
 refine am1 (fun wd7 hb6 X => ?_)
 have hl9 := Z.out.here
 have hl10 := KG.size
 replace Z := b1 Z hb6
 replace R := qB R hb6
 replace KG := qkB KG hb6
 clear hb6
 generalize wd3.heap.size = g8 at *
 have cX_0 := X.out.e0
 go_wp2_with fail
 clear cX_0
 ((with_reducible refine (rnumber_any 200 (by decide) (m : Nat) m rfl (by omega) _ 0 gr _ R.out).mono ?_); rintro e wd11 ⟨rfl, hR12, hK13⟩)
 replace Z := qH Z hK13 (by omega)
 replace X := qH X hK13 (by omega)
 replace R := Lib.hid hR12
 replace KG := qT KG hK13
 clear hR12 hK13
 have cX_4 := X.out.e4
 have fX_4 := X.out.free 4
 go_upto_region 39 with fail
 clear cX_4 fX_4
 generalize hE15 : wd11.setCell _ _ = wd14
 replace Z := f1 Z (eF hE15)
 replace R := qS R hE15 (by omega)
 replace KG := qkS KG hE15 (by omega)
 replace X := dS4 X hE15
 clear hE15
 obtain ⟨cX_0, cX_1, cX_2, cX_3, cX_4, cX_5, cX_6, cX_7, cX_8, cX_9⟩ := X.out.c10
 go_wp2_with (refine sR Z.out ?_)
 clear cX_0 cX_1 cX_2 cX_3 cX_4 cX_5 cX_6 cX_7 cX_8 cX_9
 generalize hE17 : wd14.setRow _ _ = wd16
 replace X := f1 X (eR hE17)
 replace R := qR R hE17 (by omega)
 replace KG := qkR KG hE17 (by omega)
 replace Z := dO' Z hE17
 clear hE17
 exact bodyPost_ret (v := .agg #[.int .i64 3, .string ⟨#[]⟩, .int .i64 0, .int .i64 0, .int .i64 (m : Nat), .slice none 0 0, .slice none 0 0, .int .i64 0, .int .i64 0, .bool false]) (by simp [results, Tryz.results62, go_sem, Z.out.c10]) rfl (⟨_, _, rfl, TypE.nil rfl rfl, R.out, KG⟩)
set_option maxRecDepth 100000 in
theorem rform7 (n m d : Nat) (hm : m ≤ 50) (hd : d ≤ 32) (r : List UInt8) (k gr : Nat) (w : World) (hr : RAt w gr (putF 9 7 ++ (putF 9 m ++ (putF 9 d ++ r))) k) :
  Calls Tryz.prog 62 #[.pointer (some ⟨gr, 0, none⟩), .int .i64 (n : Nat)] w (FormPost gr r ⟨7, [], 0, 0, (m : Nat), [], [], 0, (d : Nat), false⟩ w) := by
 have R := hr
 have hgr := hr.here
 have KG := qR0 w (some gr)
 clear hr
 replace R := Lib.hid R
 go_enter Tryz.func62, Tryz.ntmps62
 go_upto_region 1 with fail
 refine am1 (fun wd2 hb1 Z => ?_)
 replace R := qB R hb1
 replace KG := qkB KG hb1
 clear hb1
 go_wp2_with fail
 ((with_reducible refine (rnumber_any 9 (by decide) 7 7 rfl (by decide) _ k gr _ R.out).mono ?_); rintro e wd3 ⟨rfl, hR4, hK5⟩)
 replace Z := qH Z hK5 (by omega)
 replace R := Lib.hid hR4
 replace KG := qT KG hK5
 clear hR4 hK5
 go_upto_region 2 with fail
 refine am1 (fun wd7 hb6 X => ?_)
 have hl9 := Z.out.here
 have hl10 := KG.size
 replace Z := b1 Z hb6
 replace R := qB R hb6
 replace KG := qkB KG hb6
 clear hb6
 generalize wd3.heap.size = g8 at *
 have cX_0 := X.out.e0
 go_wp2_with fail
 clear cX_0
 ((with_reducible refine (rnumber_any 50 (by decide) (m : Nat) m rfl (by omega) _ 0 gr _ R.out).mono ?_); rintro e wd11 ⟨rfl, hR12, hK13⟩)
 replace Z := qH Z hK13 (by omega)
 replace X := qH X hK13 (by omega)
 replace R := Lib.hid hR12
 replace KG := qT KG hK13
 clear hR12 hK13
 have cX_4 := X.out.e4
 have fX_4 := X.out.free 4
 go_upto_region 32 with fail
 clear cX_4 fX_4
 generalize hE15 : wd11.setCell _ _ = wd14
 replace Z := f1 Z (eF hE15)
 replace R := qS R hE15 (by omega)
 replace KG := qkS KG hE15 (by omega)
 replace X := dS4 X hE15
 clear hE15
 go_wp2_with fail
 ((with_reducible refine (rnumber_any 32 (by decide) (d : Nat) d rfl (by omega) _ 0 gr _ R.out).mono ?_); rintro e wd16 ⟨rfl, hR17, hK18⟩)
 replace Z := qH Z hK18 (by omega)
 replace X := qH X hK18 (by omega)
 replace R := Lib.hid hR17
 replace KG := qT KG hK18
 clear hR17 hK18
 have cX_8 := X.out.e8
 have fX_8 := X.out.free 8
 go_upto_region 39 with fail
 clear cX_8 fX_8
 generalize hE20 : wd16.setCell _ _ = wd19
 replace Z := f1 Z (eF hE20)
 replace R := qS R hE20 (by omega)
 replace KG := qkS KG hE20 (by omega)
 replace X := dS8 X hE20
 clear hE20
 obtain ⟨cX_0, cX_1, cX_2, cX_3, cX_4, cX_5, cX_6, cX_7, cX_8, cX_9⟩ := X.out.c10
 go_wp2_with (refine sR Z.out ?_)
 clear cX_0 cX_1 cX_2 cX_3 cX_4 cX_5 cX_6 cX_7 cX_8 cX_9
 generalize hE22 : wd19.setRow _ _ = wd21
 replace X := f1 X (eR hE22)
 replace R := qR R hE22 (by omega)
 replace KG := qkR KG hE22 (by omega)
 replace Z := dO' Z hE22
 clear hE22
 exact bodyPost_ret (v := .agg #[.int .i64 7, .string ⟨#[]⟩, .int .i64 0, .int .i64 0, .int .i64 (m : Nat), .slice none 0 0, .slice none 0 0, .int .i64 0, .int .i64 (d : Nat), .bool false]) (by simp [results, Tryz.results62, go_sem, Z.out.c10]) rfl (⟨_, _, rfl, TypE.nil rfl rfl, R.out, KG⟩)
set_option maxRecDepth 100000 in
theorem rform8 (n m q d : Nat) (hm : m ≤ 50) (hq : q ≤ 32) (hd : d ≤ 32) (r : List UInt8) (k gr : Nat) (w : World) (hr : RAt w gr (putF 9 8 ++ (putF 9 m ++ (putF 9 q ++ (putF 9 d ++ r)))) k) :
  Calls Tryz.prog 62 #[.pointer (some ⟨gr, 0, none⟩), .int .i64 (n : Nat)] w (FormPost gr r ⟨8, [], 0, 0, (m : Nat), [], [], (q : Nat), (d : Nat), false⟩ w) := by
 have R := hr
 have hgr := hr.here
 have KG := qR0 w (some gr)
 clear hr
 replace R := Lib.hid R
 go_enter Tryz.func62, Tryz.ntmps62
 go_upto_region 1 with fail
 refine am1 (fun wd2 hb1 Z => ?_)
 replace R := qB R hb1
 replace KG := qkB KG hb1
 clear hb1
 go_wp2_with fail
 ((with_reducible refine (rnumber_any 9 (by decide) 8 8 rfl (by decide) _ k gr _ R.out).mono ?_); rintro e wd3 ⟨rfl, hR4, hK5⟩)
 replace Z := qH Z hK5 (by omega)
 replace R := Lib.hid hR4
 replace KG := qT KG hK5
 clear hR4 hK5
 go_upto_region 2 with fail
 refine am1 (fun wd7 hb6 X => ?_)
 have hl9 := Z.out.here
 have hl10 := KG.size
 replace Z := b1 Z hb6
 replace R := qB R hb6
 replace KG := qkB KG hb6
 clear hb6
 generalize wd3.heap.size = g8 at *
 have cX_0 := X.out.e0
 go_wp2_with fail
 clear cX_0
 ((with_reducible refine (rnumber_any 50 (by decide) (m : Nat) m rfl (by omega) _ 0 gr _ R.out).mono ?_); rintro e wd11 ⟨rfl, hR12, hK13⟩)
 replace Z := qH Z hK13 (by omega)
 replace X := qH X hK13 (by omega)
 replace R := Lib.hid hR12
 replace KG := qT KG hK13
 clear hR12 hK13
 have cX_4 := X.out.e4
 have fX_4 := X.out.free 4
 go_upto_region 35 with fail
 clear cX_4 fX_4
 generalize hE15 : wd11.setCell _ _ = wd14
 replace Z := f1 Z (eF hE15)
 replace R := qS R hE15 (by omega)
 replace KG := qkS KG hE15 (by omega)
 replace X := dS4 X hE15
 clear hE15
 go_wp2_with fail
 ((with_reducible refine (rnumber_any 32 (by decide) (q : Nat) q rfl (by omega) _ 0 gr _ R.out).mono ?_); rintro e wd16 ⟨rfl, hR17, hK18⟩)
 replace Z := qH Z hK18 (by omega)
 replace X := qH X hK18 (by omega)
 replace R := Lib.hid hR17
 replace KG := qT KG hK18
 clear hR17 hK18
 have cX_7 := X.out.e7
 have fX_7 := X.out.free 7
 go_upto_region 36 with fail
 clear cX_7 fX_7
 generalize hE20 : wd16.setCell _ _ = wd19
 replace Z := f1 Z (eF hE20)
 replace R := qS R hE20 (by omega)
 replace KG := qkS KG hE20 (by omega)
 replace X := dS7 X hE20
 clear hE20
 go_wp2_with fail
 ((with_reducible refine (rnumber_any 32 (by decide) (d : Nat) d rfl (by omega) _ 0 gr _ R.out).mono ?_); rintro e wd21 ⟨rfl, hR22, hK23⟩)
 replace Z := qH Z hK23 (by omega)
 replace X := qH X hK23 (by omega)
 replace R := Lib.hid hR22
 replace KG := qT KG hK23
 clear hR22 hK23
 have cX_8 := X.out.e8
 have fX_8 := X.out.free 8
 go_upto_region 39 with fail
 clear cX_8 fX_8
 generalize hE25 : wd21.setCell _ _ = wd24
 replace Z := f1 Z (eF hE25)
 replace R := qS R hE25 (by omega)
 replace KG := qkS KG hE25 (by omega)
 replace X := dS8 X hE25
 clear hE25
 obtain ⟨cX_0, cX_1, cX_2, cX_3, cX_4, cX_5, cX_6, cX_7, cX_8, cX_9⟩ := X.out.c10
 go_wp2_with (refine sR Z.out ?_)
 clear cX_0 cX_1 cX_2 cX_3 cX_4 cX_5 cX_6 cX_7 cX_8 cX_9
 generalize hE27 : wd24.setRow _ _ = wd26
 replace X := f1 X (eR hE27)
 replace R := qR R hE27 (by omega)
 replace KG := qkR KG hE27 (by omega)
 replace Z := dO' Z hE27
 clear hE27
 exact bodyPost_ret (v := .agg #[.int .i64 8, .string ⟨#[]⟩, .int .i64 0, .int .i64 0, .int .i64 (m : Nat), .slice none 0 0, .slice none 0 0, .int .i64 (q : Nat), .int .i64 (d : Nat), .bool false]) (by simp [results, Tryz.results62, go_sem, Z.out.c10]) rfl (⟨_, _, rfl, TypE.nil rfl rfl, R.out, KG⟩)
set_option maxRecDepth 100000 in
theorem rform9 (n d : Nat) (hd : d ≤ 32) (r : List UInt8) (k gr : Nat) (w : World) (hr : RAt w gr (putF 9 9 ++ (putF 9 d ++ r)) k) :
  Calls Tryz.prog 62 #[.pointer (some ⟨gr, 0, none⟩), .int .i64 (n : Nat)] w (FormPost gr r ⟨9, [], 0, 0, 0, [], [], 0, (d : Nat), false⟩ w) := by
 have R := hr
 have hgr := hr.here
 have KG := qR0 w (some gr)
 clear hr
 replace R := Lib.hid R
 go_enter Tryz.func62, Tryz.ntmps62
 go_upto_region 1 with fail
 refine am1 (fun wd2 hb1 Z => ?_)
 replace R := qB R hb1
 replace KG := qkB KG hb1
 clear hb1
 go_wp2_with fail
 ((with_reducible refine (rnumber_any 9 (by decide) 9 9 rfl (by decide) _ k gr _ R.out).mono ?_); rintro e wd3 ⟨rfl, hR4, hK5⟩)
 replace Z := qH Z hK5 (by omega)
 replace R := Lib.hid hR4
 replace KG := qT KG hK5
 clear hR4 hK5
 go_upto_region 2 with fail
 refine am1 (fun wd7 hb6 X => ?_)
 have hl9 := Z.out.here
 have hl10 := KG.size
 replace Z := b1 Z hb6
 replace R := qB R hb6
 replace KG := qkB KG hb6
 clear hb6
 generalize wd3.heap.size = g8 at *
 have cX_0 := X.out.e0
 go_wp2_with fail
 clear cX_0
 ((with_reducible refine (rnumber_any 32 (by decide) (d : Nat) d rfl (by omega) _ 0 gr _ R.out).mono ?_); rintro e wd11 ⟨rfl, hR12, hK13⟩)
 replace Z := qH Z hK13 (by omega)
 replace X := qH X hK13 (by omega)
 replace R := Lib.hid hR12
 replace KG := qT KG hK13
 clear hR12 hK13
 have cX_8 := X.out.e8
 have fX_8 := X.out.free 8
 go_upto_region 39 with fail
 clear cX_8 fX_8
 generalize hE15 : wd11.setCell _ _ = wd14
 replace Z := f1 Z (eF hE15)
 replace R := qS R hE15 (by omega)
 replace KG := qkS KG hE15 (by omega)
 replace X := dS8 X hE15
 clear hE15
 obtain ⟨cX_0, cX_1, cX_2, cX_3, cX_4, cX_5, cX_6, cX_7, cX_8, cX_9⟩ := X.out.c10
 go_wp2_with (refine sR Z.out ?_)
 clear cX_0 cX_1 cX_2 cX_3 cX_4 cX_5 cX_6 cX_7 cX_8 cX_9
 generalize hE17 : wd14.setRow _ _ = wd16
 replace X := f1 X (eR hE17)
 replace R := qR R hE17 (by omega)
 replace KG := qkR KG hE17 (by omega)
 replace Z := dO' Z hE17
 clear hE17
 exact bodyPost_ret (v := .agg #[.int .i64 9, .string ⟨#[]⟩, .int .i64 0, .int .i64 0, .int .i64 0, .slice none 0 0, .slice none 0 0, .int .i64 0, .int .i64 (d : Nat), .bool false]) (by simp [results, Tryz.results62, go_sem, Z.out.c10]) rfl (⟨_, _, rfl, TypE.nil rfl rfl, R.out, KG⟩)
def symO (i : Nat) : Raw := ((i : Int), nmC 115 (i : Int))
set_option maxRecDepth 100000 in
theorem rform4 (n : Nat) (hn : n ≤ 1000) (b : Bool) (l : List Nat) (hl : l.length ≤ 16) (hb : ∀ i ∈ l, i ≤ 1000) (r : List UInt8) (k gr : Nat) (w : World) (hp : ∀ W, Below gr w W → PowR W) (hr : RAt w gr (putF 9 4 ++ (flagB b ++ (putF 9 l.length ++ (l.flatMap (putF 9) ++ r)))) k) :
  Calls Tryz.prog 62 #[.pointer (some ⟨gr, 0, none⟩), .int .i64 (n : Nat)] w (FormPost gr r ⟨4, nmC 84 n, 0, 0, 0, l.map symO, [], 0, 0, b⟩ w) := by
 obtain ⟨fv, hfv, hfb, hf1⟩ : ∃ v : Nat, flagB b = putF 9 v ∧ ((v : Int) == 1) = b ∧ v ≤ 1 := by
  cases b
  ·
   exact ⟨0, rfl, rfl, by omega⟩
  exact ⟨1, rfl, rfl, by omega⟩
 rw [hfv] at hr
 clear hfv
 have HB1 := Lib.hid hb
 clear hb
 have HP := Lib.hid hp
 clear hp
 have R := hr
 have hgr := hr.here
 have KG := qR0 w (some gr)
 clear hr
 replace R := Lib.hid R
 go_enter Tryz.func62, Tryz.ntmps62
 go_upto_region 1 with fail
 refine am1 (fun wd2 hb1 Z => ?_)
 replace R := qB R hb1
 replace KG := qkB KG hb1
 clear hb1
 go_wp2_with fail
 ((with_reducible refine (rnumber_any 9 (by decide) 4 4 rfl (by decide) _ k gr _ R.out).mono ?_); rintro e wd3 ⟨rfl, hR4, hK5⟩)
 replace Z := qH Z hK5 (by omega)
 replace R := Lib.hid hR4
 replace KG := qT KG hK5
 clear hR4 hK5
 go_upto_region 2 with fail
 refine am1 (fun wd7 hb6 X => ?_)
 have hl9 := Z.out.here
 have hl10 := KG.size
 replace Z := b1 Z hb6
 replace R := qB R hb6
 replace KG := qkB KG hb6
 clear hb6
 generalize wd3.heap.size = g8 at *
 have hnl := nmC_len 84 n (by unfold I64; omega)
 have hil : (Lib.itoa n).length ≤ 30 := by unfold nmC at hnl; rw [List.length_cons] at hnl; omega
 obtain ⟨nm, hnm⟩ : ∃ nm, nmC 84 n = nm := ⟨_, rfl⟩
 rw [hnm]
 have HNM := Lib.hid hnm
 clear hnm hnl
 have cX_0 := X.out.e0
 go_upto_region 3 with fail
 clear cX_0
 go_wp2_with fail
 ((with_reducible refine (itoaR_any n hn _ (HP.out _ (qLow KG (by omega)))).mono ?_); rintro e wd11 ⟨rfl, hb12⟩)
 obtain ⟨Z, X⟩ := b2 Z X hb12
 replace R := qB R hb12
 replace KG := qkB KG hb12
 clear hb12
 obtain ⟨q, hq⟩ : ∃ q, Lib.itoa (n : Int) = q := ⟨_, rfl⟩
 have hstr : Hid (84 :: q = nm) := by show _ = _; rw [← hq]; exact HNM.out
 rw [hq] at hil ⊢
 clear hq
 have cX_1 := X.out.e1
 have fX_1 := X.out.free 1
 go_upto_region 4 with fail
 rw [str_app [84] q, show ([84] ++ q : List UInt8) = nm from hstr.out]
 clear hstr hil
 clear cX_1 fX_1
 generalize hE14 : wd11.setCell _ _ = wd13
 replace Z := f1 Z (eF hE14)
 replace R := qS R hE14 (by omega)
 replace KG := qkS KG hE14 (by omega)
 replace X := dS1 X hE14
 clear hE14
 obtain ⟨gX, rfl⟩ : ∃ g, g = g8 := ⟨_, rfl⟩
 have cX_0 := X.out.e0
 go_wp2_with fail
 clear cX_0
 ((with_reducible refine (rnumber_any 1 (by decide) (fv : Nat) fv rfl (by omega) _ 0 gr _ R.out).mono ?_); rintro e wd15 ⟨rfl, hR16, hK17⟩)
 replace Z := qH Z hK17 (by omega)
 replace X := qH X hK17 (by omega)
 replace R := Lib.hid hR16
 replace KG := qT KG hK17
 clear hR16 hK17
 have cX_9 := X.out.e9
 have fX_9 := X.out.free 9
 go_upto_region 12 with fail
 clear cX_9 fX_9
 generalize hE19 : wd15.setCell _ _ = wd18
 replace Z := f1 Z (eF hE19)
 replace R := qS R hE19 (by omega)
 replace KG := qkS KG hE19 (by omega)
 replace X := dS9 X hE19
 clear hE19
 go_wp2_with fail
 ((with_reducible refine (rnumber_any 16 (by decide) (l.length : Nat) l.length rfl (by omega) _ 0 gr _ R.out).mono ?_); rintro e wd20 ⟨rfl, hR21, hK22⟩)
 replace Z := qH Z hK22 (by omega)
 replace X := qH X hK22 (by omega)
 replace R := Lib.hid hR21
 replace KG := qT KG hK22
 clear hR21 hK22
 go_upto_region 13 with fail
 have hgX := KG.size
 have hZ0 := Z.out
 have hX0 := X.out
 have hR0 := R.out
 have hN0 : wd20.ownsRow (gX + 1) 105 2 (.slice none 0 0) 0 [] := World.ownsRow_nil _ _ _ _
 go_loopw [47] (fun s47 wr => ∃ (k : Nat) (A : Option Addr) (c : Nat), k ≤ l.length ∧ s47 = .int .i64 k ∧ Has wr w.heap.size 71 #[.int .i64 0, .string ⟨#[]⟩, .int .i64 0, .int .i64 0, .int .i64 0, .slice none 0 0, .slice none 0 0, .int .i64 0, .int .i64 0, .bool false] ∧ Has wr gX 71 #[.int .i64 4, .string ⟨nm.toArray⟩, .int .i64 0, .int .i64 0, .int .i64 0, .slice A k c, .slice none 0 0, .int .i64 0, .int .i64 0, .bool b] ∧ wr.ownsRow (gX + 1) 105 2 (.slice A k c) k (rawsV ((l.take k).map symO)) ∧ RAt wr gr ((l.drop k).flatMap (putF 9) ++ r) 0 ∧ w.grownBy wr (some gr)) (fun s47 _ => l.length - (intOf s47).toNat)
 case atStart => exact ⟨0, none, 0, Nat.zero_le _, rfl, hZ0, hX0, hN0, hR0, KG⟩
 case round =>
  clear Z X R KG hZ0 hX0 hR0 hN0 hgX
  obtain ⟨k, A, c, hkl, rfl, Z, X, hown, R, KG⟩ := hrel
  by_cases hlt : k < l.length
  ·
   have hid := HB1.out _ (List.getElem_mem hlt)
   have htk : (l.take (k + 1)).map symO = (l.take k).map symO ++ [symO l[k]] := by
    rw [List.take_add_one, List.map_append, List.getElem?_eq_getElem hlt]; rfl
   rw [List.drop_eq_getElem_cons hlt, List.flatMap_cons, List.append_assoc] at R
   generalize l[k] = u at *
   have HTK := Lib.hid htk
   have hd1 : decide (l.length ≤ k) = false := by simpa using hlt
   have hsl : (nmC 115 (u : Int)).length ≤ 30 := nmC_len 115 u (by unfold I64; omega)
   have hil : (Lib.itoa (u : Int)).length ≤ 30 := by unfold nmC at hsl; rw [List.length_cons] at hsl; omega
   clear htk
   replace R := Lib.hid R
   replace Z := Lib.hid Z
   replace X := Lib.hid X
   have O := Lib.hid (Kept.own hown)
   clear hown
   have hlt' : (k : Int) < l.length := by omega
   go_wp2_with fail
   ((with_reducible refine (rnumber_any 1000 (by decide) (u : Nat) u rfl (by omega) _ 0 gr _ R.out).mono ?_); rintro e wd23 ⟨rfl, hR24, hK25⟩)
   replace Z := qH Z hK25 (by omega)
   replace X := qH X hK25 (by omega)
   replace O := qN O hK25 (by omega)
   replace R := Lib.hid hR24
   replace KG := qT KG hK25
   clear hR24 hK25
   go_upto_region 15 with fail
   have cX_5 := X.out.e5
   refine wp_region_T (S := (fun w' => w'.cell? ⟨gX, 5, none⟩ = some (.slice A k c))) (fun j => j == 10) (by kernel_rfl) cX_5 (fun hHeld => ?_)
   clear cX_5
   have hb26 : Below wd23.heap.size wd23 (wd23.drew) := (Below.refl _ _).drew
   obtain ⟨Z, X, O⟩ := b3 Z X O hb26
   replace R := qB R hb26
   replace KG := qkB KG hb26
   clear hb26
   generalize wd23.drew = wd27 at *
   refine tkT 0 ?_
   refine tkT 1 ?_
   refine tkT 2 ?_
   refine tkT 3 ?_
   refine rdT1 4 fun K hK => ?_
   go_simp
   ((with_reducible refine (itoaR_any u hid _ (HP.out _ (qLow KG (by omega)))).mono ?_); rintro e wd28 ⟨rfl, hb29⟩)
   obtain ⟨Z, X, O⟩ := b3 Z X O hb29
   replace R := qB R hb29
   replace KG := qkB KG hb29
   clear hb29
   try clear hHeld
   refine hK.out _ _ (X.out.cell 5) (fun hHeld => ?_)
   clear hK K
   obtain ⟨q1, hq⟩ : ∃ q, Lib.itoa (u : Int) = q := ⟨_, rfl⟩
   have hstr : Hid (nmC 115 (u : Int) = 115 :: q1) := by show _ = _; rw [← hq]; rfl
   rw [hq] at hil ⊢
   have hcat : ¬ 9223372036854775807 < 1 + q1.length := by omega
   clear hq
   refine tkT 5 ?_
   refine tkT 6 ?_
   refine rdT1 7 fun K hK => ?_
   go_simp
   refine am1 (fun wd31 hb30 N => ?_)
   have hl33 := Z.out.here
   have hl34 := X.out.here
   have hl35 := O.out.le
   have hl36 := KG.size
   obtain ⟨Z, X, O⟩ := b3 Z X O hb30
   replace R := qB R hb30
   replace KG := qkB KG hb30
   clear hb30
   generalize wd28.heap.size = g32 at *
   try clear hHeld
   refine hK.out _ _ (X.out.cell 5) (fun hHeld => ?_)
   clear hK K
   refine rdT1 8 fun K hK => ?_
   obtain ⟨i0, hi, hz0, hz1, hz2⟩ := info_parts info_symC
   have hNh := N.out.here
   have hOn := O.out.now
   have hXh := X.out.here
   refine step_append_lies (P := Tryz.prog) wd31 (by rfl) _ _ _ (by rfl) (gX + 1) 105 i0 _ 2 24 Tryz.underlying68 hi hz0 hz1 hz2 rfl (by decide) (.slice A k c) k _ rfl hOn ⟨g32, 0, none⟩ 1 1 ([.int .i64 (u : Nat), .string ((⟨#[115]⟩ : ByteArray) ++ (⟨q1.toArray⟩ : ByteArray))] : List Value) rfl rfl (World.news_of_block N.out) (by simp [Value.oneCell']) (by omega) (by simp only [maxLen]; omega) (by omega) (by omega) wd31.heap.size rfl ?_
   intro g cap w1 hown1 hgrow hat hgl
   have hb4 : Below (gX + 1) wd31 w1 := (Below.refl _ wd31).grown hgrow (by omega) (fun q hq => (hOn.lt q hq).1)
   have hsy : w1.ownsRow (gX + 1) 105 2 (.slice (some ⟨g, 0, none⟩) (k + 1) cap) (k + 1) (rawsV ((l.take (k + 1)).map symO)) := by
    rw [HTK.out, rawsV_app]
    have e : rawsV [symO u] = [Value.int .i64 (u : Nat), Value.string ((⟨#[115]⟩ : ByteArray) ++ (⟨q1.toArray⟩ : ByteArray))] := by
     show ([.int .i64 (u : Int), .string ⟨(nmC 115 (u : Int)).toArray⟩] : List Value) = _
     rw [hstr.out, str_app [115] q1]; rfl
    rw [e]; exact hown1
   clear hown1 hgrow hat hgl hOn hi hz0 hz1 hz2 hNh hXh
   clear O
   clear N
   replace Z := Lib.hid (Z.out.below hb4 (show w.heap.size < gX + 1 by omega))
   replace X := Lib.hid (X.out.below hb4 (show gX < gX + 1 by omega))
   replace R := qBL R hb4 (show gr < gX + 1 by omega)
   replace KG := qkBL KG hb4 (show w.heap.size ≤ gX + 1 by omega)
   have O := Lib.hid (Kept.own hsy)
   clear hsy hb4
   try clear hHeld
   refine hK.out _ _ (X.out.cell 5) (fun hHeld => ?_)
   clear hK K
   refine tkT 9 ?_
   refine rdTL 10 fun K hK => ?_
   have cX_5 := X.out.e5
   have fX_5 := X.out.free 5
   go_simp
   clear cX_5 fX_5
   generalize hE38 : w1.setCell _ _ = wd37
   obtain ⟨Z, O⟩ := f2 Z O (eF hE38)
   replace R := qS R hE38 (by omega)
   replace KG := qkS KG hE38 (by omega)
   replace X := dS5 X hE38
   clear hE38
   try clear hHeld
   refine hK.out _ _ ?_
   clear hK K
   refine wpAnyT_done (by kernel_rfl) ?_ _
   try clear hHeld
   go_wp2_with fail
   go_roundw
   case rel => exact ⟨k + 1, some ⟨g, 0, none⟩, cap, by omega, by go_num, Z.out, X.out, O.out.now, R.out, KG⟩
   case measure => simp [intOf]; omega
  obtain rfl : k = l.length := by omega
  rw [List.drop_eq_nil_of_le (Nat.le_refl _), List.flatMap_nil, List.nil_append] at R
  rw [List.take_of_length_le (Nat.le_refl _)] at hown
  replace R := Lib.hid R
  replace Z := Lib.hid Z
  replace X := Lib.hid X
  have O := Lib.hid (Kept.own hown)
  clear hown
  obtain ⟨cX_0, cX_1, cX_2, cX_3, cX_4, cX_5, cX_6, cX_7, cX_8, cX_9⟩ := X.out.c10
  go_wp2_with (refine sR Z.out ?_)
  clear cX_0 cX_1 cX_2 cX_3 cX_4 cX_5 cX_6 cX_7 cX_8 cX_9
  generalize hE24 : wr.setRow _ _ = wd23
  obtain ⟨X, O⟩ := f2 X O (eR hE24)
  replace R := qR R hE24 (by omega)
  replace KG := qkR KG hE24 (by omega)
  replace Z := dO' Z hE24
  clear hE24
  have hO := O.out.now
  exact bodyPost_ret (v := .agg #[.int .i64 4, .string ⟨nm.toArray⟩, .int .i64 0, .int .i64 0, .int .i64 0, .slice A l.length c, .slice none 0 0, .int .i64 0, .int .i64 0, .bool b]) (by simp [results, Tryz.results62, go_sem, Z.out.c10]) rfl (⟨.slice A l.length c, .slice none 0 0, by rw [← HNM.out], ⟨by rw [List.length_map]; exact own_base hO (by omega), fun q hq => O.out.le |> fun h => (by have := hO.lt q hq; omega), World.ownsRow_nil _ _ _ _, fun k h => (by cases h)⟩, R.out, KG⟩)
def memO (p : Nat × Nat × Nat) : Mem := { id := p.1, name := nmC 102 (p.1 : Int), ty := (p.2.2 : Nat), crit := ((p.2.1 : Int) == 1), hasDef := ((p.2.1 : Int) == 2), dflt := val0 }
def memP (p : Nat × Nat × Nat) : List UInt8 := putF 9 p.1 ++ (putF 9 p.2.1 ++ putF 9 p.2.2)
def MemLt (p : Nat × Nat × Nat) : Prop := p.1 ≤ 1000 ∧ p.2.1 ≤ 2 ∧ p.2.2 ≤ 32
set_option maxRecDepth 100000 in
theorem rform5 (n : Nat) (hn : n ≤ 1000) (l : List (Nat × Nat × Nat)) (hl : l.length ≤ 16) (hb : ∀ p ∈ l, MemLt p) (r : List UInt8) (k gr : Nat) (w : World) (hp : ∀ W, Below gr w W → PowR W) (hr : RAt w gr (putF 9 5 ++ (putF 9 l.length ++ (l.flatMap memP ++ r))) k) :
  Calls Tryz.prog 62 #[.pointer (some ⟨gr, 0, none⟩), .int .i64 (n : Nat)] w (FormPost gr r ⟨5, nmC 84 n, 0, 0, 0, [], l.map memO, 0, 0, false⟩ w) := by
 have HB1 := Lib.hid hb
 clear hb
 have HP := Lib.hid hp
 clear hp
 have R := hr
 have hgr := hr.here
 have KG := qR0 w (some gr)
 clear hr
 replace R := Lib.hid R
 go_enter Tryz.func62, Tryz.ntmps62
 go_upto_region 1 with fail
 refine am1 (fun wd2 hb1 Z => ?_)
 replace R := qB R hb1
 replace KG := qkB KG hb1
 clear hb1
 go_wp2_with fail
 ((with_reducible refine (rnumber_any 9 (by decide) 5 5 rfl (by decide) _ k gr _ R.out).mono ?_); rintro e wd3 ⟨rfl, hR4, hK5⟩)
 replace Z := qH Z hK5 (by omega)
 replace R := Lib.hid hR4
 replace KG := qT KG hK5
 clear hR4 hK5
 go_upto_region 2 with fail
 refine am1 (fun wd7 hb6 X => ?_)
 have hl9 := Z.out.here
 have hl10 := KG.size
 replace Z := b1 Z hb6
 replace R := qB R hb6
 replace KG := qkB KG hb6
 clear hb6
 generalize wd3.heap.size = g8 at *
 have hnl := nmC_len 84 n (by unfold I64; omega)
 have hil : (Lib.itoa n).length ≤ 30 := by unfold nmC at hnl; rw [List.length_cons] at hnl; omega
 obtain ⟨nm, hnm⟩ : ∃ nm, nmC 84 n = nm := ⟨_, rfl⟩
 rw [hnm]
 have HNM := Lib.hid hnm
 clear hnm hnl
 have cX_0 := X.out.e0
 go_upto_region 3 with fail
 clear cX_0
 go_wp2_with fail
 ((with_reducible refine (itoaR_any n hn _ (HP.out _ (qLow KG (by omega)))).mono ?_); rintro e wd11 ⟨rfl, hb12⟩)
 obtain ⟨Z, X⟩ := b2 Z X hb12
 replace R := qB R hb12
 replace KG := qkB KG hb12
 clear hb12
 obtain ⟨q, hq⟩ : ∃ q, Lib.itoa (n : Int) = q := ⟨_, rfl⟩
 have hstr : Hid (84 :: q = nm) := by show _ = _; rw [← hq]; exact HNM.out
 rw [hq] at hil ⊢
 clear hq
 have cX_1 := X.out.e1
 have fX_1 := X.out.free 1
 go_upto_region 4 with fail
 rw [str_app [84] q, show ([84] ++ q : List UInt8) = nm from hstr.out]
 clear hstr hil
 clear cX_1 fX_1
 generalize hE14 : wd11.setCell _ _ = wd13
 replace Z := f1 Z (eF hE14)
 replace R := qS R hE14 (by omega)
 replace KG := qkS KG hE14 (by omega)
 replace X := dS1 X hE14
 clear hE14
 obtain ⟨gX, rfl⟩ : ∃ g, g = g8 := ⟨_, rfl⟩
 have cX_0 := X.out.e0
 go_wp2_with fail
 clear cX_0
 ((with_reducible refine (rnumber_any 16 (by decide) (l.length : Nat) l.length rfl (by omega) _ 0 gr _ R.out).mono ?_); rintro e wd15 ⟨rfl, hR16, hK17⟩)
 replace Z := qH Z hK17 (by omega)
 replace X := qH X hK17 (by omega)
 replace R := Lib.hid hR16
 replace KG := qT KG hK17
 clear hR16 hK17
 go_upto_region 22 with fail
 have hgX := KG.size
 have hZ0 := Z.out
 have hX0 := X.out
 have hR0 := R.out
 have hN0 : wd15.ownsRow (gX + 1) 83 13 (.slice none 0 0) 0 [] := World.ownsRow_nil _ _ _ _
 go_loopw [74] (fun s74 wr => ∃ (k : Nat) (A : Option Addr) (c : Nat), k ≤ l.length ∧ s74 = .int .i64 k ∧ Has wr w.heap.size 71 #[.int .i64 0, .string ⟨#[]⟩, .int .i64 0, .int .i64 0, .int .i64 0, .slice none 0 0, .slice none 0 0, .int .i64 0, .int .i64 0, .bool false] ∧ Has wr gX 71 #[.int .i64 5, .string ⟨nm.toArray⟩, .int .i64 0, .int .i64 0, .int .i64 0, .slice none 0 0, .slice A k c, .int .i64 0, .int .i64 0, .bool false] ∧ wr.ownsRow (gX + 1) 83 13 (.slice A k c) k (((l.take k).map memO).flatMap memN) ∧ RAt wr gr ((l.drop k).flatMap memP ++ r) 0 ∧ w.grownBy wr (some gr)) (fun s74 _ => l.length - (intOf s74).toNat)
 case atStart => exact ⟨0, none, 0, Nat.zero_le _, rfl, hZ0, hX0, hN0, hR0, KG⟩
 case round =>
  clear Z X R KG hZ0 hX0 hR0 hN0 hgX
  obtain ⟨k, A, c, hkl, rfl, Z, X, hown, R, KG⟩ := hrel
  by_cases hlt : k < l.length
  ·
   obtain ⟨hi1, hi2, hi3⟩ := HB1.out _ (List.getElem_mem hlt)
   have htk : ((l.take (k + 1)).map memO).flatMap memN = ((l.take k).map memO).flatMap memN ++ memN (memO l[k]) := by
    rw [List.take_add_one, List.map_append, List.getElem?_eq_getElem hlt, List.flatMap_append]; simp
   rw [List.drop_eq_getElem_cons hlt, List.flatMap_cons, List.append_assoc] at R
   generalize l[k] = u at *
   obtain ⟨ui, uf, ut⟩ := u
   simp only at hi1 hi2 hi3
   rw [show memP (ui, uf, ut) = putF 9 ui ++ (putF 9 uf ++ putF 9 ut) from rfl, List.append_assoc, List.append_assoc] at R
   have HTK := Lib.hid htk
   have hd1 : decide (l.length ≤ k) = false := by simpa using hlt
   have hsl : (nmC 102 (ui : Int)).length ≤ 30 := nmC_len 102 ui (by unfold I64; omega)
   have hil : (Lib.itoa (ui : Int)).length ≤ 30 := by unfold nmC at hsl; rw [List.length_cons] at hsl; omega
   clear htk
   replace R := Lib.hid R
   replace Z := Lib.hid Z
   replace X := Lib.hid X
   have O := Lib.hid (Kept.own hown)
   clear hown
   have hlt' : (k : Int) < l.length := by omega
   go_wp2_with fail
   ((with_reducible refine (rnumber_any 1000 (by decide) (ui : Nat) ui rfl (by omega) _ 0 gr _ R.out).mono ?_); rintro e wd18 ⟨rfl, hR19, hK20⟩)
   replace Z := qH Z hK20 (by omega)
   replace X := qH X hK20 (by omega)
   replace O := qN O hK20 (by omega)
   replace R := Lib.hid hR19
   replace KG := qT KG hK20
   clear hR19 hK20
   go_upto_region 24 with fail
   refine am1 (fun wd22 hb21 M => ?_)
   have hl24 := Z.out.here
   have hl25 := X.out.here
   have hl26 := O.out.le
   have hl27 := KG.size
   obtain ⟨Z, X, O⟩ := b3 Z X O hb21
   replace R := qB R hb21
   replace KG := qkB KG hb21
   clear hb21
   generalize wd18.heap.size = g23 at *
   have cM_0 := M.out.e0
   go_wp2_with fail
   clear cM_0
   ((with_reducible refine (itoaR_any ui hi1 _ (HP.out _ (qLow KG (by omega)))).mono ?_); rintro e wd28 ⟨rfl, hb29⟩)
   obtain ⟨Z, X, M, O⟩ := b4 Z X M O hb29
   replace R := qB R hb29
   replace KG := qkB KG hb29
   clear hb29
   obtain ⟨q1, hq⟩ : ∃ q, Lib.itoa (ui : Int) = q := ⟨_, rfl⟩
   have hstr : Hid (nmC 102 (ui : Int) = 102 :: q1) := by show _ = _; rw [← hq]; rfl
   rw [hq] at hil ⊢
   have hcat : ¬ 9223372036854775807 < 1 + q1.length := by omega
   clear hq
   have cM_1 := M.out.e1
   have fM_1 := M.out.free 1
   go_upto_region 25 with fail
   rw [str_app [102] q1]
   clear cM_1 fM_1
   generalize hE31 : wd28.setCell _ _ = wd30
   obtain ⟨Z, X, O⟩ := f3 Z X O (eF hE31)
   replace R := qS R hE31 (by omega)
   replace KG := qkS KG hE31 (by omega)
   replace M := dS1 M hE31
   clear hE31
   go_wp2_with fail
   ((with_reducible refine (rnumber_any 2 (by decide) (uf : Nat) uf rfl (by omega) _ 0 gr _ R.out).mono ?_); rintro e wd32 ⟨rfl, hR33, hK34⟩)
   replace Z := qH Z hK34 (by omega)
   replace X := qH X hK34 (by omega)
   replace M := qH M hK34 (by omega)
   replace O := qN O hK34 (by omega)
   replace R := Lib.hid hR33
   replace KG := qT KG hK34
   clear hR33 hK34
   have cM_3 := M.out.e3
   have cM_4 := M.out.e4
   have fM_3 := M.out.free 3
   have fM_4 := M.out.free 4
   go_upto_region 27 with fail
   clear cM_3 cM_4 fM_3 fM_4
   generalize hE36 : wd32.setCell _ _ = wd35
   obtain ⟨Z, X, O⟩ := f3 Z X O (eF hE36)
   replace R := qS R hE36 (by omega)
   replace KG := qkS KG hE36 (by omega)
   replace M := dS3 M hE36
   clear hE36
   generalize hE38 : wd35.setCell _ _ = wd37
   obtain ⟨Z, X, O⟩ := f3 Z X O (eF hE38)
   replace R := qS R hE38 (by omega)
   replace KG := qkS KG hE38 (by omega)
   replace M := dS4 M hE38
   clear hE38
   go_wp2_with fail
   ((with_reducible refine (rnumber_any 32 (by decide) (ut : Nat) ut rfl (by omega) _ 0 gr _ R.out).mono ?_); rintro e wd39 ⟨rfl, hR40, hK41⟩)
   replace Z := qH Z hK41 (by omega)
   replace X := qH X hK41 (by omega)
   replace M := qH M hK41 (by omega)
   replace O := qN O hK41 (by omega)
   replace R := Lib.hid hR40
   replace KG := qT KG hK41
   clear hR40 hK41
   have cM_2 := M.out.e2
   have fM_2 := M.out.free 2
   go_upto_region 28 with fail
   clear cM_2 fM_2
   generalize hE43 : wd39.setCell _ _ = wd42
   obtain ⟨Z, X, O⟩ := f3 Z X O (eF hE43)
   replace R := qS R hE43 (by omega)
   replace KG := qkS KG hE43 (by omega)
   replace M := dS2 M hE43
   clear hE43
   have cX_6 := X.out.e6
   obtain ⟨cM_0, cM_1, cM_2, cM_3, cM_4, cM_5, cM_6, cM_7, cM_8, cM_9, cM_10, cM_11, cM_12⟩ := M.out.c13
   have hOn := O.out.now
   have hXh := X.out.here
   go_upto_region 29 with (at_builtin; refine wpList_append_lie rfl _ _ _ rfl (gX + 1) 83 _ 13 160 Tryz.underlying69 info_memC rfl (by decide) (.slice A k c) k _ rfl hOn [_, _, _, _, _, _, _, _, _, _, _, _, _] _ 1 _ rfl rfl rfl (by simp [Value.oneCell']) (by omega) (by omega) (by omega) ?_; intro g2 cap2 w3 hown3 hg3 hg3b hb3; have X3 := X.out.below hb3 (by omega); have x36 : w3.cell? ⟨gX, 6, none⟩ = some (.slice A k c) := X3.cell 6; have f36 := X3.free 6)
   have hme : w3.ownsRow (gX + 1) 83 13 (.slice (some ⟨g2, 0, none⟩) (k + 1) cap2) (k + 1) (((l.take (k + 1)).map memO).flatMap memN) := by
    rw [HTK.out]
    have e : memN (memO (ui, uf, ut)) = [.int .i64 (ui : Nat), .string ⟨([102] ++ q1).toArray⟩, .int .i64 (ut : Nat), .bool ((uf : Int) == 1), .bool ((uf : Int) == 2), .int .i64 0, .bool false, .int .i64 0, .string ⟨#[]⟩, .int .i64 0, .slice none 0 0, .slice none 0 0, .slice none 0 0] := by
     show ([.int .i64 (ui : Int), .string ⟨(nmC 102 (ui : Int)).toArray⟩, .int .i64 (ut : Nat), .bool ((uf : Int) == 1), .bool ((uf : Int) == 2), .int .i64 0, .bool false, .int .i64 0, .string ⟨#[]⟩, .int .i64 0, .slice none 0 0, .slice none 0 0, .slice none 0 0] : List Value) = _
     rw [hstr.out]; rfl
    rw [e]; exact hown3
   clear hown3 hg3 hg3b X3 x36 f36 hOn hXh
   clear O
   clear M
   clear cX_6 cM_0 cM_1 cM_2 cM_3 cM_4 cM_5 cM_6 cM_7 cM_8 cM_9 cM_10 cM_11 cM_12
   replace Z := Lib.hid (Z.out.below hb3 (show w.heap.size < gX + 1 by omega))
   replace X := Lib.hid (X.out.below hb3 (show gX < gX + 1 by omega))
   replace R := qBL R hb3 (show gr < gX + 1 by omega)
   replace KG := qkBL KG hb3 (show w.heap.size ≤ gX + 1 by omega)
   have O := Lib.hid (Kept.own hme)
   clear hme hb3
   generalize hE45 : w3.setCell _ _ = wd44
   obtain ⟨Z, O⟩ := f2 Z O (eF hE45)
   replace R := qS R hE45 (by omega)
   replace KG := qkS KG hE45 (by omega)
   replace X := dS6 X hE45
   clear hE45
   go_wp2_with fail
   go_roundw
   case rel => exact ⟨k + 1, some ⟨g2, 0, none⟩, cap2, by omega, by go_num, Z.out, X.out, O.out.now, R.out, KG⟩
   case measure => simp [intOf]; omega
  obtain rfl : k = l.length := by omega
  rw [List.drop_eq_nil_of_le (Nat.le_refl _), List.flatMap_nil, List.nil_append] at R
  rw [List.take_of_length_le (Nat.le_refl _)] at hown
  replace R := Lib.hid R
  replace Z := Lib.hid Z
  replace X := Lib.hid X
  have O := Lib.hid (Kept.own hown)
  clear hown
  obtain ⟨cX_0, cX_1, cX_2, cX_3, cX_4, cX_5, cX_6, cX_7, cX_8, cX_9⟩ := X.out.c10
  go_wp2_with (refine sR Z.out ?_)
  clear cX_0 cX_1 cX_2 cX_3 cX_4 cX_5 cX_6 cX_7 cX_8 cX_9
  generalize hE19 : wr.setRow _ _ = wd18
  obtain ⟨X, O⟩ := f2 X O (eR hE19)
  replace R := qR R hE19 (by omega)
  replace KG := qkR KG hE19 (by omega)
  replace Z := dO' Z hE19
  clear hE19
  have hO := O.out.now
  exact bodyPost_ret (v := .agg #[.int .i64 5, .string ⟨nm.toArray⟩, .int .i64 0, .int .i64 0, .int .i64 0, .slice none 0 0, .slice A l.length c, .int .i64 0, .int .i64 0, .bool false]) (by simp [results, Tryz.results62, go_sem, Z.out.c10]) rfl (⟨.slice none 0 0, .slice A l.length c, by rw [← HNM.out], ⟨World.ownsRow_nil _ _ _ _, fun k h => (by cases h), by rw [List.length_map]; exact own_base hO (by omega), fun q hq => O.out.le |> fun h => (by have := hO.lt q hq; omega)⟩, R.out, KG⟩)
set_option maxRecDepth 100000 in
theorem rform6 (n : Nat) (hn : n ≤ 1000) (b : Bool) (l : List (Nat × Nat × Nat)) (hl : l.length ≤ 16) (hb : ∀ p ∈ l, MemLt p) (r : List UInt8) (k gr : Nat) (w : World) (hp : ∀ W, Below gr w W → PowR W) (hr : RAt w gr (putF 9 6 ++ (flagB b ++ (putF 9 l.length ++ (l.flatMap memP ++ r)))) k) :
  Calls Tryz.prog 62 #[.pointer (some ⟨gr, 0, none⟩), .int .i64 (n : Nat)] w (FormPost gr r ⟨6, nmC 84 n, 0, 0, 0, [], l.map memO, 0, 0, b⟩ w) := by
 obtain ⟨fv, hfv, hfb, hf1⟩ : ∃ v : Nat, flagB b = putF 9 v ∧ ((v : Int) == 1) = b ∧ v ≤ 1 := by
  cases b
  ·
   exact ⟨0, rfl, rfl, by omega⟩
  exact ⟨1, rfl, rfl, by omega⟩
 rw [hfv] at hr
 clear hfv
 have HB1 := Lib.hid hb
 clear hb
 have HP := Lib.hid hp
 clear hp
 have R := hr
 have hgr := hr.here
 have KG := qR0 w (some gr)
 clear hr
 replace R := Lib.hid R
 go_enter Tryz.func62, Tryz.ntmps62
 go_upto_region 1 with fail
 refine am1 (fun wd2 hb1 Z => ?_)
 replace R := qB R hb1
 replace KG := qkB KG hb1
 clear hb1
 go_wp2_with fail
 ((with_reducible refine (rnumber_any 9 (by decide) 6 6 rfl (by decide) _ k gr _ R.out).mono ?_); rintro e wd3 ⟨rfl, hR4, hK5⟩)
 replace Z := qH Z hK5 (by omega)
 replace R := Lib.hid hR4
 replace KG := qT KG hK5
 clear hR4 hK5
 go_upto_region 2 with fail
 refine am1 (fun wd7 hb6 X => ?_)
 have hl9 := Z.out.here
 have hl10 := KG.size
 replace Z := b1 Z hb6
 replace R := qB R hb6
 replace KG := qkB KG hb6
 clear hb6
 generalize wd3.heap.size = g8 at *
 have hnl := nmC_len 84 n (by unfold I64; omega)
 have hil : (Lib.itoa n).length ≤ 30 := by unfold nmC at hnl; rw [List.length_cons] at hnl; omega
 obtain ⟨nm, hnm⟩ : ∃ nm, nmC 84 n = nm := ⟨_, rfl⟩
 rw [hnm]
 have HNM := Lib.hid hnm
 clear hnm hnl
 have cX_0 := X.out.e0
 go_upto_region 3 with fail
 clear cX_0
 go_wp2_with fail
 ((with_reducible refine (itoaR_any n hn _ (HP.out _ (qLow KG (by omega)))).mono ?_); rintro e wd11 ⟨rfl, hb12⟩)
 obtain ⟨Z, X⟩ := b2 Z X hb12
 replace R := qB R hb12
 replace KG := qkB KG hb12
 clear hb12
 obtain ⟨q, hq⟩ : ∃ q, Lib.itoa (n : Int) = q := ⟨_, rfl⟩
 have hstr : Hid (84 :: q = nm) := by show _ = _; rw [← hq]; exact HNM.out
 rw [hq] at hil ⊢
 clear hq
 have cX_1 := X.out.e1
 have fX_1 := X.out.free 1
 go_upto_region 4 with fail
 rw [str_app [84] q, show ([84] ++ q : List UInt8) = nm from hstr.out]
 clear hstr hil
 clear cX_1 fX_1
 generalize hE14 : wd11.setCell _ _ = wd13
 replace Z := f1 Z (eF hE14)
 replace R := qS R hE14 (by omega)
 replace KG := qkS KG hE14 (by omega)
 replace X := dS1 X hE14
 clear hE14
 obtain ⟨gX, rfl⟩ : ∃ g, g = g8 := ⟨_, rfl⟩
 have cX_0 := X.out.e0
 go_wp2_with fail
 clear cX_0
 ((with_reducible refine (rnumber_any 1 (by decide) (fv : Nat) fv rfl (by omega) _ 0 gr _ R.out).mono ?_); rintro e wd15 ⟨rfl, hR16, hK17⟩)
 replace Z := qH Z hK17 (by omega)
 replace X := qH X hK17 (by omega)
 replace R := Lib.hid hR16
 replace KG := qT KG hK17
 clear hR16 hK17
 have cX_9 := X.out.e9
 have fX_9 := X.out.free 9
 go_upto_region 21 with fail
 clear cX_9 fX_9
 generalize hE19 : wd15.setCell _ _ = wd18
 replace Z := f1 Z (eF hE19)
 replace R := qS R hE19 (by omega)
 replace KG := qkS KG hE19 (by omega)
 replace X := dS9 X hE19
 clear hE19
 go_wp2_with fail
 ((with_reducible refine (rnumber_any 16 (by decide) (l.length : Nat) l.length rfl (by omega) _ 0 gr _ R.out).mono ?_); rintro e wd20 ⟨rfl, hR21, hK22⟩)
 replace Z := qH Z hK22 (by omega)
 replace X := qH X hK22 (by omega)
 replace R := Lib.hid hR21
 replace KG := qT KG hK22
 clear hR21 hK22
 go_upto_region 22 with fail
 have hgX := KG.size
 have hZ0 := Z.out
 have hX0 := X.out
 have hR0 := R.out
 have hN0 : wd20.ownsRow (gX + 1) 83 13 (.slice none 0 0) 0 [] := World.ownsRow_nil _ _ _ _
 go_loopw [74] (fun s74 wr => ∃ (k : Nat) (A : Option Addr) (c : Nat), k ≤ l.length ∧ s74 = .int .i64 k ∧ Has wr w.heap.size 71 #[.int .i64 0, .string ⟨#[]⟩, .int .i64 0, .int .i64 0, .int .i64 0, .slice none 0 0, .slice none 0 0, .int .i64 0, .int .i64 0, .bool false] ∧ Has wr gX 71 #[.int .i64 6, .string ⟨nm.toArray⟩, .int .i64 0, .int .i64 0, .int .i64 0, .slice none 0 0, .slice A k c, .int .i64 0, .int .i64 0, .bool b] ∧ wr.ownsRow (gX + 1) 83 13 (.slice A k c) k (((l.take k).map memO).flatMap memN) ∧ RAt wr gr ((l.drop k).flatMap memP ++ r) 0 ∧ w.grownBy wr (some gr)) (fun s74 _ => l.length - (intOf s74).toNat)
 case atStart => exact ⟨0, none, 0, Nat.zero_le _, rfl, hZ0, hX0, hN0, hR0, KG⟩
 case round =>
  clear Z X R KG hZ0 hX0 hR0 hN0 hgX
  obtain ⟨k, A, c, hkl, rfl, Z, X, hown, R, KG⟩ := hrel
  by_cases hlt : k < l.length
  ·
   obtain ⟨hi1, hi2, hi3⟩ := HB1.out _ (List.getElem_mem hlt)
   have htk : ((l.take (k + 1)).map memO).flatMap memN = ((l.take k).map memO).flatMap memN ++ memN (memO l[k]) := by
    rw [List.take_add_one, List.map_append, List.getElem?_eq_getElem hlt, List.flatMap_append]; simp
   rw [List.drop_eq_getElem_cons hlt, List.flatMap_cons, List.append_assoc] at R
   generalize l[k] = u at *
   obtain ⟨ui, uf, ut⟩ := u
   simp only at hi1 hi2 hi3
   rw [show memP (ui, uf, ut) = putF 9 ui ++ (putF 9 uf ++ putF 9 ut) from rfl, List.append_assoc, List.append_assoc] at R
   have HTK := Lib.hid htk
   have hd1 : decide (l.length ≤ k) = false := by simpa using hlt
   have hsl : (nmC 102 (ui : Int)).length ≤ 30 := nmC_len 102 ui (by unfold I64; omega)
   have hil : (Lib.itoa (ui : Int)).length ≤ 30 := by unfold nmC at hsl; rw [List.length_cons] at hsl; omega
   clear htk
   replace R := Lib.hid R
   replace Z := Lib.hid Z
   replace X := Lib.hid X
   have O := Lib.hid (Kept.own hown)
   clear hown
   have hlt' : (k : Int) < l.length := by omega
   go_wp2_with fail
   ((with_reducible refine (rnumber_any 1000 (by decide) (ui : Nat) ui rfl (by omega) _ 0 gr _ R.out).mono ?_); rintro e wd23 ⟨rfl, hR24, hK25⟩)
   replace Z := qH Z hK25 (by omega)
   replace X := qH X hK25 (by omega)
   replace O := qN O hK25 (by omega)
   replace R := Lib.hid hR24
   replace KG := qT KG hK25
   clear hR24 hK25
   go_upto_region 24 with fail
   refine am1 (fun wd27 hb26 M => ?_)
   have hl29 := Z.out.here
   have hl30 := X.out.here
   have hl31 := O.out.le
   have hl32 := KG.size
   obtain ⟨Z, X, O⟩ := b3 Z X O hb26
   replace R := qB R hb26
   replace KG := qkB KG hb26
   clear hb26
   generalize wd23.heap.size = g28 at *
   have cM_0 := M.out.e0
   go_wp2_with fail
   clear cM_0
   ((with_reducible refine (itoaR_any ui hi1 _ (HP.out _ (qLow KG (by omega)))).mono ?_); rintro e wd33 ⟨rfl, hb34⟩)
   obtain ⟨Z, X, M, O⟩ := b4 Z X M O hb34
   replace R := qB R hb34
   replace KG := qkB KG hb34
   clear hb34
   obtain ⟨q1, hq⟩ : ∃ q, Lib.itoa (ui : Int) = q := ⟨_, rfl⟩
   have hstr : Hid (nmC 102 (ui : Int) = 102 :: q1) := by show _ = _; rw [← hq]; rfl
   rw [hq] at hil ⊢
   have hcat : ¬ 9223372036854775807 < 1 + q1.length := by omega
   clear hq
   have cM_1 := M.out.e1
   have fM_1 := M.out.free 1
   go_upto_region 25 with fail
   rw [str_app [102] q1]
   clear cM_1 fM_1
   generalize hE36 : wd33.setCell _ _ = wd35
   obtain ⟨Z, X, O⟩ := f3 Z X O (eF hE36)
   replace R := qS R hE36 (by omega)
   replace KG := qkS KG hE36 (by omega)
   replace M := dS1 M hE36
   clear hE36
   go_wp2_with fail
   ((with_reducible refine (rnumber_any 2 (by decide) (uf : Nat) uf rfl (by omega) _ 0 gr _ R.out).mono ?_); rintro e wd37 ⟨rfl, hR38, hK39⟩)
   replace Z := qH Z hK39 (by omega)
   replace X := qH X hK39 (by omega)
   replace M := qH M hK39 (by omega)
   replace O := qN O hK39 (by omega)
   replace R := Lib.hid hR38
   replace KG := qT KG hK39
   clear hR38 hK39
   have cM_3 := M.out.e3
   have cM_4 := M.out.e4
   have fM_3 := M.out.free 3
   have fM_4 := M.out.free 4
   go_upto_region 27 with fail
   clear cM_3 cM_4 fM_3 fM_4
   generalize hE41 : wd37.setCell _ _ = wd40
   obtain ⟨Z, X, O⟩ := f3 Z X O (eF hE41)
   replace R := qS R hE41 (by omega)
   replace KG := qkS KG hE41 (by omega)
   replace M := dS3 M hE41
   clear hE41
   generalize hE43 : wd40.setCell _ _ = wd42
   obtain ⟨Z, X, O⟩ := f3 Z X O (eF hE43)
   replace R := qS R hE43 (by omega)
   replace KG := qkS KG hE43 (by omega)
   replace M := dS4 M hE43
   clear hE43
   go_wp2_with fail
   ((with_reducible refine (rnumber_any 32 (by decide) (ut : Nat) ut rfl (by omega) _ 0 gr _ R.out).mono ?_); rintro e wd44 ⟨rfl, hR45, hK46⟩)
   replace Z := qH Z hK46 (by omega)
   replace X := qH X hK46 (by omega)
   replace M := qH M hK46 (by omega)
   replace O := qN O hK46 (by omega)
   replace R := Lib.hid hR45
   replace KG := qT KG hK46
   clear hR45 hK46
   have cM_2 := M.out.e2
   have fM_2 := M.out.free 2
   go_upto_region 28 with fail
   clear cM_2 fM_2
   generalize hE48 : wd44.setCell _ _ = wd47
   obtain ⟨Z, X, O⟩ := f3 Z X O (eF hE48)
   replace R := qS R hE48 (by omega)
   replace KG := qkS KG hE48 (by omega)
   replace M := dS2 M hE48
   clear hE48
   have cX_6 := X.out.e6
   obtain ⟨cM_0, cM_1, cM_2, cM_3, cM_4, cM_5, cM_6, cM_7, cM_8, cM_9, cM_10, cM_11, cM_12⟩ := M.out.c13
   have hOn := O.out.now
   have hXh := X.out.here
   go_upto_region 29 with (at_builtin; refine wpList_append_lie rfl _ _ _ rfl (gX + 1) 83 _ 13 160 Tryz.underlying69 info_memC rfl (by decide) (.slice A k c) k _ rfl hOn [_, _, _, _, _, _, _, _, _, _, _, _, _] _ 1 _ rfl rfl rfl (by simp [Value.oneCell']) (by omega) (by omega) (by omega) ?_; intro g2 cap2 w3 hown3 hg3 hg3b hb3; have X3 := X.out.below hb3 (by omega); have x36 : w3.cell? ⟨gX, 6, none⟩ = some (.slice A k c) := X3.cell 6; have f36 := X3.free 6)
   have hme : w3.ownsRow (gX + 1) 83 13 (.slice (some ⟨g2, 0, none⟩) (k + 1) cap2) (k + 1) (((l.take (k + 1)).map memO).flatMap memN) := by
    rw [HTK.out]
    have e : memN (memO (ui, uf, ut)) = [.int .i64 (ui : Nat), .string ⟨([102] ++ q1).toArray⟩, .int .i64 (ut : Nat), .bool ((uf : Int) == 1), .bool ((uf : Int) == 2), .int .i64 0, .bool false, .int .i64 0, .string ⟨#[]⟩, .int .i64 0, .slice none 0 0, .slice none 0 0, .slice none 0 0] := by
     show ([.int .i64 (ui : Int), .string ⟨(nmC 102 (ui : Int)).toArray⟩, .int .i64 (ut : Nat), .bool ((uf : Int) == 1), .bool ((uf : Int) == 2), .int .i64 0, .bool false, .int .i64 0, .string ⟨#[]⟩, .int .i64 0, .slice none 0 0, .slice none 0 0, .slice none 0 0] : List Value) = _
     rw [hstr.out]; rfl
    rw [e]; exact hown3
   clear hown3 hg3 hg3b X3 x36 f36 hOn hXh
   clear O
   clear M
   clear cX_6 cM_0 cM_1 cM_2 cM_3 cM_4 cM_5 cM_6 cM_7 cM_8 cM_9 cM_10 cM_11 cM_12
   replace Z := Lib.hid (Z.out.below hb3 (show w.heap.size < gX + 1 by omega))
   replace X := Lib.hid (X.out.below hb3 (show gX < gX + 1 by omega))
   replace R := qBL R hb3 (show gr < gX + 1 by omega)
   replace KG := qkBL KG hb3 (show w.heap.size ≤ gX + 1 by omega)
   have O := Lib.hid (Kept.own hme)
   clear hme hb3
   generalize hE50 : w3.setCell _ _ = wd49
   obtain ⟨Z, O⟩ := f2 Z O (eF hE50)
   replace R := qS R hE50 (by omega)
   replace KG := qkS KG hE50 (by omega)
   replace X := dS6 X hE50
   clear hE50
   go_wp2_with fail
   go_roundw
   case rel => exact ⟨k + 1, some ⟨g2, 0, none⟩, cap2, by omega, by go_num, Z.out, X.out, O.out.now, R.out, KG⟩
   case measure => simp [intOf]; omega
  obtain rfl : k = l.length := by omega
  rw [List.drop_eq_nil_of_le (Nat.le_refl _), List.flatMap_nil, List.nil_append] at R
  rw [List.take_of_length_le (Nat.le_refl _)] at hown
  replace R := Lib.hid R
  replace Z := Lib.hid Z
  replace X := Lib.hid X
  have O := Lib.hid (Kept.own hown)
  clear hown
  obtain ⟨cX_0, cX_1, cX_2, cX_3, cX_4, cX_5, cX_6, cX_7, cX_8, cX_9⟩ := X.out.c10
  go_wp2_with (refine sR Z.out ?_)
  clear cX_0 cX_1 cX_2 cX_3 cX_4 cX_5 cX_6 cX_7 cX_8 cX_9
  generalize hE24 : wr.setRow _ _ = wd23
  obtain ⟨X, O⟩ := f2 X O (eR hE24)
  replace R := qR R hE24 (by omega)
  replace KG := qkR KG hE24 (by omega)
  replace Z := dO' Z hE24
  clear hE24
  have hO := O.out.now
  exact bodyPost_ret (v := .agg #[.int .i64 6, .string ⟨nm.toArray⟩, .int .i64 0, .int .i64 0, .int .i64 0, .slice none 0 0, .slice A l.length c, .int .i64 0, .int .i64 0, .bool b]) (by simp [results, Tryz.results62, go_sem, Z.out.c10]) rfl (⟨.slice none 0 0, .slice A l.length c, by rw [← HNM.out], ⟨World.ownsRow_nil _ _ _ _, fun k h => (by cases h), by rw [List.length_map]; exact own_base hO (by omega), fun q hq => O.out.le |> fun h => (by have := hO.lt q hq; omega)⟩, R.out, KG⟩)
structure FormR (n : Nat) (x : Typ) : Prop where
 form : formB x = true
 ints : I64 x.low ∧ I64 x.high
 max3 : x.kind = 3 → 0 ≤ x.max ∧ x.max ≤ 200
 max7 : x.kind = 7 ∨ x.kind = 8 → 0 ≤ x.max ∧ x.max ≤ 50
 syms : x.syms.length ≤ 16 ∧ ∀ q ∈ x.syms, 0 ≤ q.1 ∧ q.1 ≤ 1000
 mems : x.mems.length ≤ 16 ∧ ∀ q ∈ x.mems, MemIn q ∧ q.ty ≤ 32
 key : 0 ≤ x.key ∧ x.key ≤ 32
 elem : 0 ≤ x.elem ∧ x.elem ≤ 32
 name : x.name = (if x.kind = 4 ∨ x.kind = 5 ∨ x.kind = 6 then nmC 84 n else [])
 sname : ∀ s ∈ x.syms, s.2 = nmC 115 s.1
 mname : ∀ m ∈ x.mems, m.name = nmC 102 m.id
def memT (m : Mem) : Nat × Nat × Nat := (m.id.toNat, markN m, m.ty.toNat)
theorem mem_un {m : Mem} (h : MemIn m) (hn : m.name = nmC 102 m.id) : memO (memT m) = unM m := by
 obtain ⟨h1, h2, h3⟩ := h
 obtain ⟨mi, mn, mt, mc, mh, md⟩ := m
 simp only at *
 have e1 : ((mi.toNat : Nat) : Int) = mi := by omega
 have e2 : ((mt.toNat : Nat) : Int) = mt := by omega
 unfold memO memT unM
 simp only [e1, e2, hn]
 cases mc <;> cases mh <;> simp_all [markN]
theorem mems_un {l : List Mem} (h : ∀ q ∈ l, MemIn q ∧ q.ty ≤ 32) (hn : ∀ m ∈ l, m.name = nmC 102 m.id) : (l.map memT).map memO = l.map unM := by
 rw [List.map_map]
 exact List.map_congr_left fun m hm => mem_un (h m hm).1 (hn m hm)
theorem mems_lt {l : List Mem} (h : ∀ q ∈ l, MemIn q ∧ q.ty ≤ 32) : ∀ p ∈ l.map memT, MemLt p := by
 intro p hp
 obtain ⟨m, hm, rfl⟩ := List.mem_map.1 hp
 obtain ⟨⟨h1, h2, h3⟩, h4⟩ := h m hm
 refine ⟨by show m.id.toNat ≤ 1000; omega, ?_, by show m.ty.toNat ≤ 32; omega⟩
 show markN m ≤ 2
 unfold markN; split <;> (try split) <;> omega
theorem mems_bytes (l : List Mem) : (l.map memT).flatMap memP = l.flatMap memB9 := by rw [List.flatMap_map]; rfl
theorem syms_un {l : List Raw} (h : ∀ q ∈ l, 0 ≤ q.1 ∧ q.1 ≤ 1000) (hn : ∀ s ∈ l, s.2 = nmC 115 s.1) : (l.map fun s => s.1.toNat).map symO = l := by
 rw [List.map_map]
 refine (List.map_congr_left fun s hs => ?_).trans (List.map_id l)
 have e := hn s hs
 have e1 : ((s.1.toNat : Nat) : Int) = s.1 := by have := (h s hs).1; omega
 show symO s.1.toNat = s
 unfold symO
 rw [e1, ← e]
theorem rform_any (n : Nat) (hn : n ≤ 1000) (x : Typ) (hx : FormR n x) (r : List UInt8) (k gr : Nat) (w : World) (hp : ∀ W, Below gr w W → PowR W) (hr : RAt w gr (singT x ++ r) k) :
  Calls Tryz.prog 62 #[.pointer (some ⟨gr, 0, none⟩), .int .i64 (n : Nat)] w (FormPost gr r (unT x) w) := by
 have hk := form_kind hx.form
 obtain ⟨z1, z2, z3, z4, z5⟩ := form_zero hx.form
 obtain ⟨y1, y2, y3⟩ := form_nil hx.form
 obtain ⟨-, hints, hm3, hm7, ⟨hsl, hs⟩, ⟨hml, hm⟩, hkey, helem, hname, hsn, hmn⟩ := hx
 obtain ⟨xk, xn, xlo, xhi, xm, xs, xms, xkey, xel, xo⟩ := x
 simp only at *
 unfold singT at hr
 simp only [List.append_assoc] at hr
 have hcs : xk = 1 ∨ xk = 2 ∨ xk = 3 ∨ xk = 4 ∨ xk = 5 ∨ xk = 6 ∨ xk = 7 ∨ xk = 8 ∨ xk = 9 := by omega
 rcases hcs with rfl | rfl | rfl | rfl | rfl | rfl | rfl | rfl | rfl
 ·
  simp at z2 z3 z4 z5 y1 y2 y3 hname hr
  subst hname; obtain ⟨rfl, rfl⟩ := y1; subst z2; subst z3; subst z4; subst z5; subst y2; subst y3
  exact rform1 n r k gr w hr
 ·
  simp at z2 z3 z4 z5 y2 y3 hname hr
  subst hname; subst z2; subst z3; subst z4; subst z5; subst y2; subst y3
  exact rform2 n xlo xhi hints.1 hints.2 r k gr w hr
 ·
  simp at z2 z3 z4 z5 y1 y3 hname hr
  subst hname; obtain ⟨rfl, rfl⟩ := y1; subst z2; subst z3; subst z4; subst z5; subst y3
  obtain ⟨m, rfl⟩ : ∃ m : Nat, xm = (m : Int) := ⟨xm.toNat, by have := hm3 rfl; omega⟩
  exact rform3 n m (by have := hm3 rfl; omega) r k gr w (by simpa using hr)
 ·
  simp at z2 z3 z4 y1 y2 hname hr
  subst hname; obtain ⟨rfl, rfl⟩ := y1; subst z2; subst z3; subst z4; subst y2
  have h := rform4 n hn xo (xs.map fun s => s.1.toNat) (by simpa using hsl) (fun i hi => by obtain ⟨s, hs1, rfl⟩ := List.mem_map.1 hi; have := hs s hs1; omega) r k gr w hp (by rw [List.length_map, List.flatMap_map]; exact hr)
  rw [syms_un hs hsn] at h
  exact h
 ·
  simp at z2 z3 z5 y1 y2 y3 hname hr
  subst hname; obtain ⟨rfl, rfl⟩ := y1; subst z2; subst z3; subst z5; subst y2; subst y3
  have h := rform5 n hn (xms.map memT) (by simpa using hml) (mems_lt hm) r k gr w hp (by rw [List.length_map, mems_bytes]; exact hr)
  rw [mems_un hm hmn] at h
  exact h
 ·
  simp at z2 z3 z5 y1 y2 hname hr
  subst hname; obtain ⟨rfl, rfl⟩ := y1; subst z2; subst z3; subst z5; subst y2
  have h := rform6 n hn xo (xms.map memT) (by simpa using hml) (mems_lt hm) r k gr w hp (by rw [List.length_map, mems_bytes]; exact hr)
  rw [mems_un hm hmn] at h
  exact h
 ·
  simp at z2 z4 z5 y1 y3 hname hr
  subst hname; obtain ⟨rfl, rfl⟩ := y1; subst z2; subst z4; subst z5; subst y3
  obtain ⟨m, rfl⟩ : ∃ m : Nat, xm = (m : Int) := ⟨xm.toNat, by have := hm7 (by simp); omega⟩
  obtain ⟨d, rfl⟩ : ∃ m : Nat, xel = (m : Int) := ⟨xel.toNat, by omega⟩
  exact rform7 n m d (by have := hm7 (by simp); omega) (by omega) r k gr w (by simpa using hr)
 ·
  simp at z4 z5 y1 y3 hname hr
  subst hname; obtain ⟨rfl, rfl⟩ := y1; subst z4; subst z5; subst y3
  obtain ⟨m, rfl⟩ : ∃ m : Nat, xm = (m : Int) := ⟨xm.toNat, by have := hm7 (by simp); omega⟩
  obtain ⟨d, rfl⟩ : ∃ m : Nat, xel = (m : Int) := ⟨xel.toNat, by omega⟩
  obtain ⟨q, rfl⟩ : ∃ m : Nat, xkey = (m : Int) := ⟨xkey.toNat, by omega⟩
  exact rform8 n m q d (by have := hm7 (by simp); omega) (by omega) (by omega) r k gr w (by simpa using hr)
 simp at z2 z4 z5 y1 y2 y3 hname hr
 subst hname; obtain ⟨rfl, rfl⟩ := y1; subst z2; subst z4; subst z5; subst y2; subst y3
 obtain ⟨d, rfl⟩ : ∃ m : Nat, xel = (m : Int) := ⟨xel.toNat, by omega⟩
 exact rform9 n d (by omega) r k gr w (by simpa using hr)
end Go.Proofs.YtlamhkffnlgofaaGreatDoor

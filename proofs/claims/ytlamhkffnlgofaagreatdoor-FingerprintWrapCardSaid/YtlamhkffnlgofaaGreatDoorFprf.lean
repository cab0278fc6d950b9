/- What the reader of canonical bytes takes for a default without parts: full. No condition. -/
import Derived.Test.YtlamhkffnlgofaaGreatDoorFprm
set_option maxHeartbeats 400000
namespace Go.Proofs.YtlamhkffnlgofaaGreatDoor
open Go.ChangeShapes Go.WideShapes Go.ChangeAt Go.RowKit
theorem RAt.c0 {w : World} {gr k : Nat} {l : List UInt8} (h : RAt w gr l k) : w.cell? ⟨gr, 0, none⟩ = some (.string ⟨l.toArray⟩) := Has.cell h 0
theorem RAt.c1 {w : World} {gr k : Nat} {l : List UInt8} (h : RAt w gr l k) : w.cell? ⟨gr, 1, none⟩ = some (.bool false) := Has.cell h 1
theorem RAt.f0 {w : World} {gr k : Nat} {l : List UInt8} (h : RAt w gr l k) : w.frozen? ⟨gr, 0, none⟩ = false := Has.free h 0
theorem cells10_keptR {w : World} {b o : Nat} {x : Typ} {vs vm : Value} (h : Cells10 w b o x vs vm) (hb : b < w.heap.size) : Kept (fun w => Cells10 w b o x vs vm) w b (b + 1) :=
 ⟨h, fun w' hk => by
  obtain ⟨h0, h1, h2, h3, h4, h5, h6, h7, h8, h9⟩ := h
  have e : ∀ o', w'.cell? ⟨b, o', none⟩ = w.cell? ⟨b, o', none⟩ := fun o' => World.cell?_of_block (hk b (Nat.le_refl _) (by omega))
  exact ⟨(e _).trans h0, (e _).trans h1, (e _).trans h2, (e _).trans h3, (e _).trans h4, (e _).trans h5, (e _).trans h6, (e _).trans h7, (e _).trans h8, (e _).trans h9⟩, hb⟩
set_option maxRecDepth 100000 in
theorem rfull1 (bb : Bool) (x : Typ) (hk : x.kind = 1) (b o m c t : Nat) (C1 : Option Addr) (n1 l1 : Nat) (C2 : Option Addr) (n2 l2 : Nat) (htm : t < m) (r : List UInt8) (k gr : Nat) (w : World) (hbw : b < w.heap.size) (hx : Cells10 w b (o + t * 10) x (.slice C1 n1 l1) (.slice C2 n2 l2)) (hr : RAt w gr (flagB bb ++ r) k) :
  Calls Tryz.prog 64 #[.pointer (some ⟨gr, 0, none⟩), .agg #[.slice (some ⟨b, o, none⟩) m c], .int .i64 (t : Nat)] w (RPost gr (.agg #[.int .i64 1, .bool bb, .int .i64 0, .string ⟨#[]⟩, .int .i64 0, .slice none 0 0, .slice none 0 0, .slice none 0 0]) r 0 w) := by
 obtain ⟨fv, hfv, hfb, hf1⟩ : ∃ v : Nat, flagB bb = putF 9 v ∧ ((v : Int) == 1) = bb ∧ v ≤ 1 := by
  cases bb
  ·
   exact ⟨0, rfl, rfl, by omega⟩
  exact ⟨1, rfl, rfl, by omega⟩
 rw [hfv] at hr
 clear hfv
 have R := hr
 have hgr := hr.here
 have KG := qR0 w (some gr)
 have hd0 : decide ((t : Int) < 0) = false := by simp
 have hd1 : decide (m ≤ t) = false := by simpa using htm
 have htm' : (t : Int) < m := by omega
 clear hr
 replace R := Lib.hid R
 have XC := Lib.hid (cells10_keptR hx hbw)
 clear hx
 go_enter Tryz.func64, Tryz.ntmps64
 go_upto_region 1 with fail
 refine am2 (fun wd2 hb1 S Z => ?_)
 replace XC := b1 XC hb1
 replace R := qB R hb1
 replace KG := qkB KG hb1
 clear hb1
 have cS_0 := S.out.e0
 obtain ⟨x0, x1, x2, x3, x4, x5, x6, x7, x8, x9⟩ := XC.out.now
 rw [hk] at x0
 go_upto_region 2 with fail
 clear cS_0
 refine am1 (fun wd4 hb3 X => ?_)
 have hl6 := S.out.here
 have hl7 := Z.out.here
 have hl8 := XC.out.le
 have hl9 := KG.size
 obtain ⟨S, Z, XC⟩ := b3 S Z XC hb3
 replace R := qB R hb3
 replace KG := qkB KG hb3
 clear hb3
 generalize wd2.heap.size = g5 at *
 clear x0 x1 x2 x3 x4 x5 x6 x7 x8 x9
 clear XC
 have cX_0 := X.out.e0
 go_upto_region 3 with fail
 clear cX_0
 refine am1 (fun wd11 hb10 V => ?_)
 have hl13 := S.out.here
 have hl14 := Z.out.here
 have hl15 := X.out.here
 have hl16 := KG.size
 obtain ⟨S, Z, X⟩ := b3 S Z X hb10
 replace R := qB R hb10
 replace KG := qkB KG hb10
 clear hb10
 generalize wd4.heap.size = g12 at *
 have cR1 := RAt.c1 R.out
 have cX_0 := X.out.e0
 go_upto_region 14 with fail
 clear cR1
 go_wp2_with fail
 clear cX_0
 ((with_reducible refine (rnumber_any 1 (by decide) (fv : Nat) fv rfl (by omega) _ k gr _ R.out).mono ?_); rintro e wd17 ⟨rfl, hR18, hK19⟩)
 replace S := qH S hK19 (by omega)
 replace Z := qH Z hK19 (by omega)
 replace X := qH X hK19 (by omega)
 replace V := qH V hK19 (by omega)
 replace R := Lib.hid hR18
 replace KG := qT KG hK19
 clear hR18 hK19
 have cV_1 := V.out.e1
 have fV_1 := V.out.free 1
 go_upto_region 43 with fail
 clear cV_1 fV_1
 generalize hE21 : wd17.setCell _ _ = wd20
 obtain ⟨S, Z, X⟩ := f3 S Z X (eF hE21)
 replace R := qS R hE21 (by omega)
 replace KG := qkS KG hE21 (by omega)
 replace V := dS1 V hE21
 clear hE21
 obtain ⟨cV_0, cV_1, cV_2, cV_3, cV_4, cV_5, cV_6, cV_7⟩ := V.out.c8
 go_wp2_with (refine sR Z.out ?_)
 clear cV_0 cV_1 cV_2 cV_3 cV_4 cV_5 cV_6 cV_7
 generalize hE23 : wd20.setRow _ _ = wd22
 obtain ⟨S, X, V⟩ := f3 S X V (eR hE23)
 replace R := qR R hE23 (by omega)
 replace KG := qkR KG hE23 (by omega)
 replace Z := dO' Z hE23
 clear hE23
 exact bodyPost_ret (v := .agg #[.int .i64 1, .bool bb, .int .i64 0, .string ⟨#[]⟩, .int .i64 0, .slice none 0 0, .slice none 0 0, .slice none 0 0]) (by simp [results, Tryz.results64, go_sem, Z.out.c8]) rfl (⟨rfl, R.out, KG⟩)
set_option maxRecDepth 100000 in
theorem rfull2 (n : Int) (hn : I64 n) (x : Typ) (hk : x.kind = 2) (b o m c t : Nat) (C1 : Option Addr) (n1 l1 : Nat) (C2 : Option Addr) (n2 l2 : Nat) (htm : t < m) (r : List UInt8) (k gr : Nat) (w : World) (hbw : b < w.heap.size) (hx : Cells10 w b (o + t * 10) x (.slice C1 n1 l1) (.slice C2 n2 l2)) (hr : RAt w gr (zigB n ++ r) k) :
  Calls Tryz.prog 64 #[.pointer (some ⟨gr, 0, none⟩), .agg #[.slice (some ⟨b, o, none⟩) m c], .int .i64 (t : Nat)] w (RPost gr (.agg #[.int .i64 2, .bool false, .int .i64 n, .string ⟨#[]⟩, .int .i64 0, .slice none 0 0, .slice none 0 0, .slice none 0 0]) r 0 w) := by
 have R := hr
 have hgr := hr.here
 have KG := qR0 w (some gr)
 have hd0 : decide ((t : Int) < 0) = false := by simp
 have hd1 : decide (m ≤ t) = false := by simpa using htm
 have htm' : (t : Int) < m := by omega
 clear hr
 replace R := Lib.hid R
 have XC := Lib.hid (cells10_keptR hx hbw)
 clear hx
 go_enter Tryz.func64, Tryz.ntmps64
 go_upto_region 1 with fail
 refine am2 (fun wd2 hb1 S Z => ?_)
 replace XC := b1 XC hb1
 replace R := qB R hb1
 replace KG := qkB KG hb1
 clear hb1
 have cS_0 := S.out.e0
 obtain ⟨x0, x1, x2, x3, x4, x5, x6, x7, x8, x9⟩ := XC.out.now
 rw [hk] at x0
 go_upto_region 2 with fail
 clear cS_0
 refine am1 (fun wd4 hb3 X => ?_)
 have hl6 := S.out.here
 have hl7 := Z.out.here
 have hl8 := XC.out.le
 have hl9 := KG.size
 obtain ⟨S, Z, XC⟩ := b3 S Z XC hb3
 replace R := qB R hb3
 replace KG := qkB KG hb3
 clear hb3
 generalize wd2.heap.size = g5 at *
 clear x0 x1 x2 x3 x4 x5 x6 x7 x8 x9
 clear XC
 have cX_0 := X.out.e0
 go_upto_region 3 with fail
 clear cX_0
 refine am1 (fun wd11 hb10 V => ?_)
 have hl13 := S.out.here
 have hl14 := Z.out.here
 have hl15 := X.out.here
 have hl16 := KG.size
 obtain ⟨S, Z, X⟩ := b3 S Z X hb10
 replace R := qB R hb10
 replace KG := qkB KG hb10
 clear hb10
 generalize wd4.heap.size = g12 at *
 have cR1 := RAt.c1 R.out
 have cX_0 := X.out.e0
 go_upto_region 14 with fail
 clear cR1
 go_wp2_with fail
 clear cX_0
 ((with_reducible refine (rinteger_any n hn _ k gr _ R.out).mono ?_); rintro e wd17 ⟨rfl, hR18, hK19⟩)
 replace S := qH S hK19 (by omega)
 replace Z := qH Z hK19 (by omega)
 replace X := qH X hK19 (by omega)
 replace V := qH V hK19 (by omega)
 replace R := Lib.hid hR18
 replace KG := qT KG hK19
 clear hR18 hK19
 have cV_2 := V.out.e2
 have fV_2 := V.out.free 2
 go_upto_region 43 with fail
 clear cV_2 fV_2
 generalize hE21 : wd17.setCell _ _ = wd20
 obtain ⟨S, Z, X⟩ := f3 S Z X (eF hE21)
 replace R := qS R hE21 (by omega)
 replace KG := qkS KG hE21 (by omega)
 replace V := dS2 V hE21
 clear hE21
 obtain ⟨cV_0, cV_1, cV_2, cV_3, cV_4, cV_5, cV_6, cV_7⟩ := V.out.c8
 go_wp2_with (refine sR Z.out ?_)
 clear cV_0 cV_1 cV_2 cV_3 cV_4 cV_5 cV_6 cV_7
 generalize hE23 : wd20.setRow _ _ = wd22
 obtain ⟨S, X, V⟩ := f3 S X V (eR hE23)
 replace R := qR R hE23 (by omega)
 replace KG := qkR KG hE23 (by omega)
 replace Z := dO' Z hE23
 clear hE23
 exact bodyPost_ret (v := .agg #[.int .i64 2, .bool false, .int .i64 n, .string ⟨#[]⟩, .int .i64 0, .slice none 0 0, .slice none 0 0, .slice none 0 0]) (by simp [results, Tryz.results64, go_sem, Z.out.c8]) rfl (⟨rfl, R.out, KG⟩)
set_option maxRecDepth 100000 in
theorem rfull4 (n : Nat) (hn : n ≤ 1000) (x : Typ) (hk : x.kind = 4) (b o m c t : Nat) (C1 : Option Addr) (n1 l1 : Nat) (C2 : Option Addr) (n2 l2 : Nat) (htm : t < m) (r : List UInt8) (k gr : Nat) (w : World) (hbw : b < w.heap.size) (hx : Cells10 w b (o + t * 10) x (.slice C1 n1 l1) (.slice C2 n2 l2)) (hr : RAt w gr (putF 9 n ++ r) k) :
  Calls Tryz.prog 64 #[.pointer (some ⟨gr, 0, none⟩), .agg #[.slice (some ⟨b, o, none⟩) m c], .int .i64 (t : Nat)] w (RPost gr (.agg #[.int .i64 4, .bool false, .int .i64 0, .string ⟨#[]⟩, .int .i64 (n : Nat), .slice none 0 0, .slice none 0 0, .slice none 0 0]) r 0 w) := by
 have R := hr
 have hgr := hr.here
 have KG := qR0 w (some gr)
 have hd0 : decide ((t : Int) < 0) = false := by simp
 have hd1 : decide (m ≤ t) = false := by simpa using htm
 have htm' : (t : Int) < m := by omega
 clear hr
 replace R := Lib.hid R
 have XC := Lib.hid (cells10_keptR hx hbw)
 clear hx
 go_enter Tryz.func64, Tryz.ntmps64
 go_upto_region 1 with fail
 refine am2 (fun wd2 hb1 S Z => ?_)
 replace XC := b1 XC hb1
 replace R := qB R hb1
 replace KG := qkB KG hb1
 clear hb1
 have cS_0 := S.out.e0
 obtain ⟨x0, x1, x2, x3, x4, x5, x6, x7, x8, x9⟩ := XC.out.now
 rw [hk] at x0
 go_upto_region 2 with fail
 clear cS_0
 refine am1 (fun wd4 hb3 X => ?_)
 have hl6 := S.out.here
 have hl7 := Z.out.here
 have hl8 := XC.out.le
 have hl9 := KG.size
 obtain ⟨S, Z, XC⟩ := b3 S Z XC hb3
 replace R := qB R hb3
 replace KG := qkB KG hb3
 clear hb3
 generalize wd2.heap.size = g5 at *
 clear x0 x1 x2 x3 x4 x5 x6 x7 x8 x9
 clear XC
 have cX_0 := X.out.e0
 go_upto_region 3 with fail
 clear cX_0
 refine am1 (fun wd11 hb10 V => ?_)
 have hl13 := S.out.here
 have hl14 := Z.out.here
 have hl15 := X.out.here
 have hl16 := KG.size
 obtain ⟨S, Z, X⟩ := b3 S Z X hb10
 replace R := qB R hb10
 replace KG := qkB KG hb10
 clear hb10
 generalize wd4.heap.size = g12 at *
 have cR1 := RAt.c1 R.out
 have cX_0 := X.out.e0
 go_upto_region 14 with fail
 clear cR1
 go_wp2_with fail
 clear cX_0
 ((with_reducible refine (rnumber_any 1000 (by decide) (n : Nat) n rfl (by omega) _ k gr _ R.out).mono ?_); rintro e wd17 ⟨rfl, hR18, hK19⟩)
 replace S := qH S hK19 (by omega)
 replace Z := qH Z hK19 (by omega)
 replace X := qH X hK19 (by omega)
 replace V := qH V hK19 (by omega)
 replace R := Lib.hid hR18
 replace KG := qT KG hK19
 clear hR18 hK19
 have cV_4 := V.out.e4
 have fV_4 := V.out.free 4
 go_upto_region 43 with fail
 clear cV_4 fV_4
 generalize hE21 : wd17.setCell _ _ = wd20
 obtain ⟨S, Z, X⟩ := f3 S Z X (eF hE21)
 replace R := qS R hE21 (by omega)
 replace KG := qkS KG hE21 (by omega)
 replace V := dS4 V hE21
 clear hE21
 obtain ⟨cV_0, cV_1, cV_2, cV_3, cV_4, cV_5, cV_6, cV_7⟩ := V.out.c8
 go_wp2_with (refine sR Z.out ?_)
 clear cV_0 cV_1 cV_2 cV_3 cV_4 cV_5 cV_6 cV_7
 generalize hE23 : wd20.setRow _ _ = wd22
 obtain ⟨S, X, V⟩ := f3 S X V (eR hE23)
 replace R := qR R hE23 (by omega)
 replace KG := qkR KG hE23 (by omega)
 replace Z := dO' Z hE23
 clear hE23
 exact bodyPost_ret (v := .agg #[.int .i64 4, .bool false, .int .i64 0, .string ⟨#[]⟩, .int .i64 (n : Nat), .slice none 0 0, .slice none 0 0, .slice none 0 0]) (by simp [results, Tryz.results64, go_sem, Z.out.c8]) rfl (⟨rfl, R.out, KG⟩)
set_option maxRecDepth 100000 in
theorem rfull3 (s : List UInt8) (hn : s.length ≤ 1000) (x : Typ) (hk : x.kind = 3) (b o m c t : Nat) (C1 : Option Addr) (n1 l1 : Nat) (C2 : Option Addr) (n2 l2 : Nat) (htm : t < m) (r : List UInt8) (k gr : Nat) (w : World) (hbw : b < w.heap.size) (hx : Cells10 w b (o + t * 10) x (.slice C1 n1 l1) (.slice C2 n2 l2)) (hrl : r.length ≤ 1000000000000) (hr : RAt w gr (putF 9 s.length ++ (s ++ r)) k) :
  Calls Tryz.prog 64 #[.pointer (some ⟨gr, 0, none⟩), .agg #[.slice (some ⟨b, o, none⟩) m c], .int .i64 (t : Nat)] w (RPost gr (.agg #[.int .i64 3, .bool false, .int .i64 0, .string ⟨s.toArray⟩, .int .i64 0, .slice none 0 0, .slice none 0 0, .slice none 0 0]) r 0 w) := by
 obtain ⟨q, hq⟩ : ∃ q, q = putF 9 s.length ++ (s ++ r) := ⟨_, rfl⟩
 have hpl := putF_len 9 s.length
 have hql : (s.length : Int) ≤ q.length ∧ q.length ≤ 2000000000000 := by rw [hq]; simp only [List.length_append]; omega
 have HRN := Lib.hid (show ∀ W kk, RAt W gr q kk → Calls Tryz.prog 61 #[.pointer (some ⟨gr, 0, none⟩), .int .i64 (q.length : Nat)] W (RPost gr (.int .i64 (s.length : Nat)) (s ++ r) 0 W) from fun W kk h => rnumber_any (q.length : Nat) (by omega) _ s.length rfl (by omega) _ kk gr W (by rw [← hq]; exact h))
 rw [← hq] at hr
 clear hq hpl
 have R := hr
 have hgr := hr.here
 have KG := qR0 w (some gr)
 have hd0 : decide ((t : Int) < 0) = false := by simp
 have hd1 : decide (m ≤ t) = false := by simpa using htm
 have htm' : (t : Int) < m := by omega
 clear hr
 replace R := Lib.hid R
 have XC := Lib.hid (cells10_keptR hx hbw)
 clear hx
 go_enter Tryz.func64, Tryz.ntmps64
 go_upto_region 1 with fail
 refine am2 (fun wd2 hb1 S Z => ?_)
 replace XC := b1 XC hb1
 replace R := qB R hb1
 replace KG := qkB KG hb1
 clear hb1
 have cS_0 := S.out.e0
 obtain ⟨x0, x1, x2, x3, x4, x5, x6, x7, x8, x9⟩ := XC.out.now
 rw [hk] at x0
 go_upto_region 2 with fail
 clear cS_0
 refine am1 (fun wd4 hb3 X => ?_)
 have hl6 := S.out.here
 have hl7 := Z.out.here
 have hl8 := XC.out.le
 have hl9 := KG.size
 obtain ⟨S, Z, XC⟩ := b3 S Z XC hb3
 replace R := qB R hb3
 replace KG := qkB KG hb3
 clear hb3
 generalize wd2.heap.size = g5 at *
 clear x0 x1 x2 x3 x4 x5 x6 x7 x8 x9
 clear XC
 have cX_0 := X.out.e0
 go_upto_region 3 with fail
 clear cX_0
 refine am1 (fun wd11 hb10 V => ?_)
 have hl13 := S.out.here
 have hl14 := Z.out.here
 have hl15 := X.out.here
 have hl16 := KG.size
 obtain ⟨S, Z, X⟩ := b3 S Z X hb10
 replace R := qB R hb10
 replace KG := qkB KG hb10
 clear hb10
 generalize wd4.heap.size = g12 at *
 have cR1 := RAt.c1 R.out
 have cX_0 := X.out.e0
 go_upto_region 14 with fail
 clear cR1
 have cR0 := RAt.c0 R.out
 go_wp2_with fail
 clear cR0
 clear cX_0
 ((with_reducible refine (HRN.out _ _ R.out).mono ?_); rintro e wd17 ⟨rfl, hR18, hK19⟩)
 replace S := qH S hK19 (by omega)
 replace Z := qH Z hK19 (by omega)
 replace X := qH X hK19 (by omega)
 replace V := qH V hK19 (by omega)
 replace R := Lib.hid hR18
 replace KG := qT KG hK19
 clear hR18 hK19
 obtain ⟨u, hu⟩ : ∃ u, u = s ++ r := ⟨_, rfl⟩
 have hul : u.length = s.length + r.length := by rw [hu, List.length_append]
 have hcut1 : u.take s.length = s := by rw [hu, List.take_left]
 have hcut2 : u.drop s.length = r := by rw [hu, List.drop_left]
 rw [← hu] at R
 have HC1 := Lib.hid hcut1
 have HC2 := Lib.hid hcut2
 have hle : ¬ ((u.length : Int) < s.length) := by omega
 clear hu hcut1 hcut2 hul
 have cR0 := RAt.c0 R.out
 have cR1 := RAt.c1 R.out
 go_upto_region 23 with fail
 clear cR0 cR1
 refine wp_region_T (S := (fun w' => (w'.cell? ⟨gr, 0, none⟩ = some (.string ⟨u.toArray⟩)))) (fun j => j == 15 || j == 16 || j == 17) (by kernel_rfl) (RAt.c0 R.out) (fun hHeld => ?_)
 have hb20 : Below wd17.heap.size wd17 (wd17.drew) := (Below.refl _ _).drew
 obtain ⟨S, Z, X, V⟩ := b4 S Z X V hb20
 replace R := qB R hb20
 replace KG := qkB KG hb20
 clear hb20
 generalize wd17.drew = wd21 at *
 refine tkT 0 ?_
 refine tkT 1 ?_
 refine tkT 2 ?_
 refine tkT 3 ?_
 refine tkT 4 ?_
 refine tkT 5 ?_
 refine tkT 6 ?_
 refine tkT 7 ?_
 refine tkT 8 ?_
 refine tkT 9 ?_
 refine tkT 10 ?_
 refine tkT 11 ?_
 refine tkT 12 ?_
 refine tkT 13 ?_
 refine rdT1 14 fun K hK => ?_
 have cV_3 := V.out.e3
 have fV_3 := V.out.free 3
 go_simp
 rw [show ByteArray.extract ⟨u.toArray⟩ 0 s.length = ⟨s.toArray⟩ from by rw [str_cut, HC1.out, List.drop_zero]]
 clear cV_3 fV_3
 generalize hE23 : wd21.setCell _ _ = wd22
 obtain ⟨S, Z, X⟩ := f3 S Z X (eF hE23)
 replace R := qS R hE23 (by omega)
 replace KG := qkS KG hE23 (by omega)
 replace V := dS3 V hE23
 clear hE23
 try clear hHeld
 refine hK.out _ _ ((RAt.c0 R.out)) (fun hHeld => ?_)
 clear hK K
 refine rdTL 15 fun K hK => ?_
 go_simp
 try clear hHeld
 refine hK.out _ _ ?_
 clear hK K
 refine rdTL 16 fun K hK => ?_
 go_simp
 try clear hHeld
 refine hK.out _ _ ?_
 clear hK K
 refine rdTL 17 fun K hK => ?_
 have hR0 := R.out
 have cR0 := RAt.c0 hR0
 have fR0 := RAt.f0 hR0
 go_simp
 rw [str_from u s.length u.length rfl, HC2.out]
 clear cR0 fR0
 generalize HEX : wd22.setCell ⟨gr, 0, none⟩ (.string ⟨r.toArray⟩) = wd24
 obtain ⟨S, Z, X, V⟩ := f4 S Z X V (eF HEX)
 replace KG := qkG KG HEX
 replace R : Hid (RAt wd24 gr r 0) := dS0 (show Hid (Has _ gr _ #[_, _, _]) from R) HEX
 clear HEX hR0
 try clear hHeld
 refine hK.out _ _ ?_
 clear hK K
 refine wpAnyT_done (by kernel_rfl) ?_ _
 try clear hHeld
 obtain ⟨cV_0, cV_1, cV_2, cV_3, cV_4, cV_5, cV_6, cV_7⟩ := V.out.c8
 go_wp2_with (refine sR Z.out ?_)
 clear cV_0 cV_1 cV_2 cV_3 cV_4 cV_5 cV_6 cV_7
 generalize hE26 : wd24.setRow _ _ = wd25
 obtain ⟨S, X, V⟩ := f3 S X V (eR hE26)
 replace R := qR R hE26 (by omega)
 replace KG := qkR KG hE26 (by omega)
 replace Z := dO' Z hE26
 clear hE26
 exact bodyPost_ret (v := .agg #[.int .i64 3, .bool false, .int .i64 0, .string ⟨s.toArray⟩, .int .i64 0, .slice none 0 0, .slice none 0 0, .slice none 0 0]) (by simp [results, Tryz.results64, go_sem, Z.out.c8]) rfl (⟨rfl, R.out, KG⟩)
set_option maxRecDepth 100000 in
theorem rfull7 (x : Typ) (hk : x.kind = 7) (b o m c t : Nat) (C1 : Option Addr) (n1 l1 : Nat) (C2 : Option Addr) (n2 l2 : Nat) (htm : t < m) (r : List UInt8) (k gr : Nat) (w : World) (hbw : b < w.heap.size) (hx : Cells10 w b (o + t * 10) x (.slice C1 n1 l1) (.slice C2 n2 l2)) (hr : RAt w gr (putF 9 0 ++ r) k) :
  Calls Tryz.prog 64 #[.pointer (some ⟨gr, 0, none⟩), .agg #[.slice (some ⟨b, o, none⟩) m c], .int .i64 (t : Nat)] w (RPost gr (.agg #[.int .i64 7, .bool false, .int .i64 0, .string ⟨#[]⟩, .int .i64 0, .slice none 0 0, .slice none 0 0, .slice none 0 0]) r 0 w) := by
 have R := hr
 have hgr := hr.here
 have KG := qR0 w (some gr)
 have hd0 : decide ((t : Int) < 0) = false := by simp
 have hd1 : decide (m ≤ t) = false := by simpa using htm
 have htm' : (t : Int) < m := by omega
 clear hr
 replace R := Lib.hid R
 have XC := Lib.hid (cells10_keptR hx hbw)
 clear hx
 go_enter Tryz.func64, Tryz.ntmps64
 go_upto_region 1 with fail
 refine am2 (fun wd2 hb1 S Z => ?_)
 replace XC := b1 XC hb1
 replace R := qB R hb1
 replace KG := qkB KG hb1
 clear hb1
 have cS_0 := S.out.e0
 obtain ⟨x0, x1, x2, x3, x4, x5, x6, x7, x8, x9⟩ := XC.out.now
 rw [hk] at x0
 go_upto_region 2 with fail
 clear cS_0
 refine am1 (fun wd4 hb3 X => ?_)
 have hl6 := S.out.here
 have hl7 := Z.out.here
 have hl8 := XC.out.le
 have hl9 := KG.size
 obtain ⟨S, Z, XC⟩ := b3 S Z XC hb3
 replace R := qB R hb3
 replace KG := qkB KG hb3
 clear hb3
 generalize wd2.heap.size = g5 at *
 clear x0 x1 x2 x3 x4 x5 x6 x7 x8 x9
 clear XC
 have cX_0 := X.out.e0
 go_upto_region 3 with fail
 clear cX_0
 refine am1 (fun wd11 hb10 V => ?_)
 have hl13 := S.out.here
 have hl14 := Z.out.here
 have hl15 := X.out.here
 have hl16 := KG.size
 obtain ⟨S, Z, X⟩ := b3 S Z X hb10
 replace R := qB R hb10
 replace KG := qkB KG hb10
 clear hb10
 generalize wd4.heap.size = g12 at *
 have cR1 := RAt.c1 R.out
 have cX_0 := X.out.e0
 go_upto_region 14 with fail
 clear cR1
 go_wp2_with fail
 clear cX_0
 ((with_reducible refine (rnumber_any 50 (by decide) 0 0 rfl (by omega) _ k gr _ R.out).mono ?_); rintro e wd17 ⟨rfl, hR18, hK19⟩)
 replace S := qH S hK19 (by omega)
 replace Z := qH Z hK19 (by omega)
 replace X := qH X hK19 (by omega)
 replace V := qH V hK19 (by omega)
 replace R := Lib.hid hR18
 replace KG := qT KG hK19
 clear hR18 hK19
 go_upto_region 7 with fail
 obtain ⟨gV, rfl⟩ : ∃ g, g = g12 := ⟨_, rfl⟩
 have hZ0 := Z.out
 have hV0 := V.out
 have hR0 := R.out
 go_loopw [31] (fun s31 wr => s31 = .int .i64 0 ∧ Has wr (w.heap.size + 1) 81 #[.int .i64 0, .bool false, .int .i64 0, .string ⟨#[]⟩, .int .i64 0, .slice none 0 0, .slice none 0 0, .slice none 0 0] ∧ Has wr gV 81 #[.int .i64 7, .bool false, .int .i64 0, .string ⟨#[]⟩, .int .i64 0, .slice none 0 0, .slice none 0 0, .slice none 0 0] ∧ RAt wr gr r 0 ∧ w.grownBy wr (some gr)) (fun _ _ => 0)
 case atStart => exact ⟨rfl, hZ0, hV0, hR0, KG⟩
 case round =>
  clear Z V X S R KG hZ0 hV0 hR0
  obtain ⟨rfl, Z, V, R, KG⟩ := hrel
  replace R := Lib.hid R
  replace Z := Lib.hid Z
  replace V := Lib.hid V
  obtain ⟨cV_0, cV_1, cV_2, cV_3, cV_4, cV_5, cV_6, cV_7⟩ := V.out.c8
  go_wp2_with (refine sR Z.out ?_)
  clear cV_0 cV_1 cV_2 cV_3 cV_4 cV_5 cV_6 cV_7
  generalize hE21 : wr.setRow _ _ = wd20
  replace V := f1 V (eR hE21)
  replace R := qR R hE21 (by omega)
  replace KG := qkR KG hE21 (by omega)
  replace Z := dO' Z hE21
  clear hE21
  exact bodyPost_ret (v := .agg #[.int .i64 7, .bool false, .int .i64 0, .string ⟨#[]⟩, .int .i64 0, .slice none 0 0, .slice none 0 0, .slice none 0 0]) (by simp [results, Tryz.results64, go_sem, Z.out.c8]) rfl (⟨rfl, R.out, KG⟩)
set_option maxRecDepth 100000 in
theorem rfull8 (x : Typ) (hk : x.kind = 8) (b o m c t : Nat) (C1 : Option Addr) (n1 l1 : Nat) (C2 : Option Addr) (n2 l2 : Nat) (htm : t < m) (r : List UInt8) (k gr : Nat) (w : World) (hbw : b < w.heap.size) (hx : Cells10 w b (o + t * 10) x (.slice C1 n1 l1) (.slice C2 n2 l2)) (hr : RAt w gr (putF 9 0 ++ r) k) :
  Calls Tryz.prog 64 #[.pointer (some ⟨gr, 0, none⟩), .agg #[.slice (some ⟨b, o, none⟩) m c], .int .i64 (t : Nat)] w (RPost gr (.agg #[.int .i64 8, .bool false, .int .i64 0, .string ⟨#[]⟩, .int .i64 0, .slice none 0 0, .slice none 0 0, .slice none 0 0]) r 0 w) := by
 have R := hr
 have hgr := hr.here
 have KG := qR0 w (some gr)
 have hd0 : decide ((t : Int) < 0) = false := by simp
 have hd1 : decide (m ≤ t) = false := by simpa using htm
 have htm' : (t : Int) < m := by omega
 clear hr
 replace R := Lib.hid R
 have XC := Lib.hid (cells10_keptR hx hbw)
 clear hx
 go_enter Tryz.func64, Tryz.ntmps64
 go_upto_region 1 with fail
 refine am2 (fun wd2 hb1 S Z => ?_)
 replace XC := b1 XC hb1
 replace R := qB R hb1
 replace KG := qkB KG hb1
 clear hb1
 have cS_0 := S.out.e0
 obtain ⟨x0, x1, x2, x3, x4, x5, x6, x7, x8, x9⟩ := XC.out.now
 rw [hk] at x0
 go_upto_region 2 with fail
 clear cS_0
 refine am1 (fun wd4 hb3 X => ?_)
 have hl6 := S.out.here
 have hl7 := Z.out.here
 have hl8 := XC.out.le
 have hl9 := KG.size
 obtain ⟨S, Z, XC⟩ := b3 S Z XC hb3
 replace R := qB R hb3
 replace KG := qkB KG hb3
 clear hb3
 generalize wd2.heap.size = g5 at *
 clear x0 x1 x2 x3 x4 x5 x6 x7 x8 x9
 clear XC
 have cX_0 := X.out.e0
 go_upto_region 3 with fail
 clear cX_0
 refine am1 (fun wd11 hb10 V => ?_)
 have hl13 := S.out.here
 have hl14 := Z.out.here
 have hl15 := X.out.here
 have hl16 := KG.size
 obtain ⟨S, Z, X⟩ := b3 S Z X hb10
 replace R := qB R hb10
 replace KG := qkB KG hb10
 clear hb10
 generalize wd4.heap.size = g12 at *
 have cR1 := RAt.c1 R.out
 have cX_0 := X.out.e0
 go_upto_region 14 with fail
 clear cR1
 go_wp2_with fail
 clear cX_0
 ((with_reducible refine (rnumber_any 50 (by decide) 0 0 rfl (by omega) _ k gr _ R.out).mono ?_); rintro e wd17 ⟨rfl, hR18, hK19⟩)
 replace S := qH S hK19 (by omega)
 replace Z := qH Z hK19 (by omega)
 replace X := qH X hK19 (by omega)
 replace V := qH V hK19 (by omega)
 replace R := Lib.hid hR18
 replace KG := qT KG hK19
 clear hR18 hK19
 go_upto_region 7 with fail
 obtain ⟨gV, rfl⟩ : ∃ g, g = g12 := ⟨_, rfl⟩
 have hZ0 := Z.out
 have hV0 := V.out
 have hR0 := R.out
 go_loopw [31] (fun s31 wr => s31 = .int .i64 0 ∧ Has wr (w.heap.size + 1) 81 #[.int .i64 0, .bool false, .int .i64 0, .string ⟨#[]⟩, .int .i64 0, .slice none 0 0, .slice none 0 0, .slice none 0 0] ∧ Has wr gV 81 #[.int .i64 8, .bool false, .int .i64 0, .string ⟨#[]⟩, .int .i64 0, .slice none 0 0, .slice none 0 0, .slice none 0 0] ∧ RAt wr gr r 0 ∧ w.grownBy wr (some gr)) (fun _ _ => 0)
 case atStart => exact ⟨rfl, hZ0, hV0, hR0, KG⟩
 case round =>
  clear Z V X S R KG hZ0 hV0 hR0
  obtain ⟨rfl, Z, V, R, KG⟩ := hrel
  replace R := Lib.hid R
  replace Z := Lib.hid Z
  replace V := Lib.hid V
  obtain ⟨cV_0, cV_1, cV_2, cV_3, cV_4, cV_5, cV_6, cV_7⟩ := V.out.c8
  go_wp2_with (refine sR Z.out ?_)
  clear cV_0 cV_1 cV_2 cV_3 cV_4 cV_5 cV_6 cV_7
  generalize hE21 : wr.setRow _ _ = wd20
  replace V := f1 V (eR hE21)
  replace R := qR R hE21 (by omega)
  replace KG := qkR KG hE21 (by omega)
  replace Z := dO' Z hE21
  clear hE21
  exact bodyPost_ret (v := .agg #[.int .i64 8, .bool false, .int .i64 0, .string ⟨#[]⟩, .int .i64 0, .slice none 0 0, .slice none 0 0, .slice none 0 0]) (by simp [results, Tryz.results64, go_sem, Z.out.c8]) rfl (⟨rfl, R.out, KG⟩)
set_option maxRecDepth 100000 in
theorem rfull9 (x : Typ) (hk : x.kind = 9) (b o m c t : Nat) (C1 : Option Addr) (n1 l1 : Nat) (C2 : Option Addr) (n2 l2 : Nat) (htm : t < m) (r : List UInt8) (k gr : Nat) (w : World) (hbw : b < w.heap.size) (hx : Cells10 w b (o + t * 10) x (.slice C1 n1 l1) (.slice C2 n2 l2)) (hr : RAt w gr (putF 9 0 ++ r) k) :
  Calls Tryz.prog 64 #[.pointer (some ⟨gr, 0, none⟩), .agg #[.slice (some ⟨b, o, none⟩) m c], .int .i64 (t : Nat)] w (RPost gr (.agg #[.int .i64 9, .bool false, .int .i64 0, .string ⟨#[]⟩, .int .i64 0, .slice none 0 0, .slice none 0 0, .slice none 0 0]) r 0 w) := by
 have R := hr
 have hgr := hr.here
 have KG := qR0 w (some gr)
 have hd0 : decide ((t : Int) < 0) = false := by simp
 have hd1 : decide (m ≤ t) = false := by simpa using htm
 have htm' : (t : Int) < m := by omega
 clear hr
 replace R := Lib.hid R
 have XC := Lib.hid (cells10_keptR hx hbw)
 clear hx
 go_enter Tryz.func64, Tryz.ntmps64
 go_upto_region 1 with fail
 refine am2 (fun wd2 hb1 S Z => ?_)
 replace XC := b1 XC hb1
 replace R := qB R hb1
 replace KG := qkB KG hb1
 clear hb1
 have cS_0 := S.out.e0
 obtain ⟨x0, x1, x2, x3, x4, x5, x6, x7, x8, x9⟩ := XC.out.now
 rw [hk] at x0
 go_upto_region 2 with fail
 clear cS_0
 refine am1 (fun wd4 hb3 X => ?_)
 have hl6 := S.out.here
 have hl7 := Z.out.here
 have hl8 := XC.out.le
 have hl9 := KG.size
 obtain ⟨S, Z, XC⟩ := b3 S Z XC hb3
 replace R := qB R hb3
 replace KG := qkB KG hb3
 clear hb3
 generalize wd2.heap.size = g5 at *
 clear x0 x1 x2 x3 x4 x5 x6 x7 x8 x9
 clear XC
 have cX_0 := X.out.e0
 go_upto_region 3 with fail
 clear cX_0
 refine am1 (fun wd11 hb10 V => ?_)
 have hl13 := S.out.here
 have hl14 := Z.out.here
 have hl15 := X.out.here
 have hl16 := KG.size
 obtain ⟨S, Z, X⟩ := b3 S Z X hb10
 replace R := qB R hb10
 replace KG := qkB KG hb10
 clear hb10
 generalize wd4.heap.size = g12 at *
 have cR1 := RAt.c1 R.out
 have cX_0 := X.out.e0
 go_upto_region 14 with fail
 clear cR1
 go_wp2_with fail
 clear cX_0
 ((with_reducible refine (rnumber_any 50 (by decide) 0 0 rfl (by omega) _ k gr _ R.out).mono ?_); rintro e wd17 ⟨rfl, hR18, hK19⟩)
 replace S := qH S hK19 (by omega)
 replace Z := qH Z hK19 (by omega)
 replace X := qH X hK19 (by omega)
 replace V := qH V hK19 (by omega)
 replace R := Lib.hid hR18
 replace KG := qT KG hK19
 clear hR18 hK19
 go_upto_region 7 with fail
 obtain ⟨gV, rfl⟩ : ∃ g, g = g12 := ⟨_, rfl⟩
 have hZ0 := Z.out
 have hV0 := V.out
 have hR0 := R.out
 go_loopw [31] (fun s31 wr => s31 = .int .i64 0 ∧ Has wr (w.heap.size + 1) 81 #[.int .i64 0, .bool false, .int .i64 0, .string ⟨#[]⟩, .int .i64 0, .slice none 0 0, .slice none 0 0, .slice none 0 0] ∧ Has wr gV 81 #[.int .i64 9, .bool false, .int .i64 0, .string ⟨#[]⟩, .int .i64 0, .slice none 0 0, .slice none 0 0, .slice none 0 0] ∧ RAt wr gr r 0 ∧ w.grownBy wr (some gr)) (fun _ _ => 0)
 case atStart => exact ⟨rfl, hZ0, hV0, hR0, KG⟩
 case round =>
  clear Z V X S R KG hZ0 hV0 hR0
  obtain ⟨rfl, Z, V, R, KG⟩ := hrel
  replace R := Lib.hid R
  replace Z := Lib.hid Z
  replace V := Lib.hid V
  obtain ⟨cV_0, cV_1, cV_2, cV_3, cV_4, cV_5, cV_6, cV_7⟩ := V.out.c8
  go_wp2_with (refine sR Z.out ?_)
  clear cV_0 cV_1 cV_2 cV_3 cV_4 cV_5 cV_6 cV_7
  generalize hE21 : wr.setRow _ _ = wd20
  replace V := f1 V (eR hE21)
  replace R := qR R hE21 (by omega)
  replace KG := qkR KG hE21 (by omega)
  replace Z := dO' Z hE21
  clear hE21
  exact bodyPost_ret (v := .agg #[.int .i64 9, .bool false, .int .i64 0, .string ⟨#[]⟩, .int .i64 0, .slice none 0 0, .slice none 0 0, .slice none 0 0]) (by simp [results, Tryz.results64, go_sem, Z.out.c8]) rfl (⟨rfl, R.out, KG⟩)
end Go.Proofs.YtlamhkffnlgofaaGreatDoor

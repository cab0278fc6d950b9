/- What the writer of canonical bytes computes for a default without parts: full. What sheaveref07.plain and Named compute. What sheaveref07.symbols computes. What sheaveref07.members computes. What sheaveref07.sameMember computes. What sheaveref07.SameType computes. Plain: what sheaveref07.own says is what schema.form says. What memory reads as a type reads as that type's plain form too. What sheaveref07.own computes. What sheaveref07.uses computes. Values that come in, of any depth. Drafts of schemas that come in. Small functions on drafts: kind, Named, low, high. What sheaveref07.Valid computes. What zero computes (a region of more than 60 operations is no written list: it is flattened first). What rest of the reference computes. What fit of the reference computes, kind by kind. What fit of the reference computes for unions. What fit of the reference computes for maps. What fit of the reference computes for records. What fit, Fits and Plain of the reference compute. Schemas that come in. No condition. -/
import Derived.Test.YtlamhkffnlgofaaGreatDoorHAO
import Derived.Test.YtlamhkffnlgofaaGreatDoorHAL
import Derived.Test.YtlamhkffnlgofaaGreatDoorForm
import Derived.Test.YtlamhkffnlgofaaGreatDoorHAG
import Derived.Deep.QuietTactic
import Derived.BigQuiet
import Derived.Test.YtlamhkffnlgofaaGreatDoorMembers
import Derived.Test.YtlamhkffnlgofaaGreatDoorEqZ
import Derived.StillTailTactics
import Derived.Test.YtlamhkffnlgofaaGreatDoorHAF
import Derived.Test.YtlamhkffnlgofaaGreatDoorHAI
import Derived.Test.YtlamhkffnlgofaaGreatDoorHAA
import Derived.Test.YtlamhkffnlgofaaGreatDoorHAB
import Derived.Lib.SmallJoins
import Derived.Deep.RegionHeld3
import Derived.IntWalk
import Derived.Test.YtlamhkffnlgofaaGreatDoorHAJ
import Derived.Test.YtlamhkffnlgofaaGreatDoorHAD
import Derived.Deep.Cut
import Derived.Test.YtlamhkffnlgofaaGreatDoorFitsD
import Derived.Deep.CutRange
import Derived.Test.YtlamhkffnlgofaaGreatDoorFitsB
import Derived.Test.YtlamhkffnlgofaaGreatDoorHAH
set_option maxHeartbeats 8000000
namespace Go.Proofs.YtlamhkffnlgofaaGreatDoor
open Go.ChangeShapes Go.WideShapes Go.ChangeAt Go.RowKit
theorem cells10_keptW {w : World} {b o : Nat} {x : Typ} {vs vm : Value} (h : Cells10 w b o x vs vm) (hb : b < w.heap.size) : Kept (fun w => Cells10 w b o x vs vm) w b (b + 1) :=
 ⟨h, fun w' hk => by
  obtain ⟨h0, h1, h2, h3, h4, h5, h6, h7, h8, h9⟩ := h
  have e : ∀ o', w'.cell? ⟨b, o', none⟩ = w.cell? ⟨b, o', none⟩ := fun o' => World.cell?_of_block (hk b (Nat.le_refl _) (by omega))
  exact ⟨(e _).trans h0, (e _).trans h1, (e _).trans h2, (e _).trans h3, (e _).trans h4, (e _).trans h5, (e _).trans h6, (e _).trans h7, (e _).trans h8, (e _).trans h9⟩, hb⟩
set_option maxRecDepth 100000 in
theorem wfull1 (q : List UInt8) (hl : q.length ≤ 10000000000000) (bb : Bool) (x : Typ) (hk : x.kind = 1) (b o m c t : Nat) (C1 : Option Addr) (n1 l1 : Nat) (C2 : Option Addr) (n2 l2 : Nat) (D1 : Option Addr) (d1 : Nat) (D2 : Option Addr) (d2 : Nat) (D3 : Option Addr) (d3 : Nat) (htm : t < m) (gw : Nat) (w : World) (hbg : b < gw) (hx : Cells10 w b (o + t * 10) x (.slice C1 n1 l1) (.slice C2 n2 l2)) (hw : WrAt w gw q) :
  Calls Tryz.prog 48 #[.pointer (some ⟨gw, 0, none⟩), .agg #[.slice (some ⟨b, o, none⟩) m c], .int .i64 (t : Nat), .agg #[.int .i64 1, .bool bb, .int .i64 0, .string ⟨#[]⟩, .int .i64 0, .slice D1 0 d1, .slice D2 0 d2, .slice D3 0 d3]] w (WPost gw (q ++ flagB bb) w) := by
 have hgw0 := hw.here
 have R := hw
 have KG := WKeep.refl gw w
 have hd0 : decide ((t : Int) < 0) = false := by simp
 have hd1 : decide (m ≤ t) = false := by simpa using htm
 have htm' : (t : Int) < m := by omega
 have hpl := putF_len9 0
 clear hw
 replace R := Lib.hid R
 have XC := Lib.hid (cells10_keptW hx (by omega))
 clear hx
 go_enter Tryz.func48, Tryz.ntmps48
 go_upto_region 1 with fail
 refine am2 (fun wd2 hb1 S V => ?_)
 replace XC := b1 XC hb1
 replace R := wB R hb1
 replace KG := wkB KG hb1 (by have := KG.size; omega)
 clear hb1
 have cS_0 := S.out.e0
 obtain ⟨x0, x1, x2, x3, x4, x5, x6, x7, x8, x9⟩ := XC.out.now
 rw [hk] at x0
 go_upto_region 2 with fail
 clear cS_0
 refine am1 (fun wd4 hb3 X => ?_)
 have hl6 := S.out.here
 have hl7 := V.out.here
 have hl8 := XC.out.le
 have hl9 := KG.size
 obtain ⟨S, V, XC⟩ := b3 S V XC hb3
 replace R := wB R hb3
 replace KG := wkB KG hb3 (by have := KG.size; omega)
 clear hb3
 generalize wd2.heap.size = g5 at *
 clear x0 x1 x2 x3 x4 x5 x6 x7 x8 x9
 clear XC
 have cX_0 := X.out.e0
 have cV_1 := V.out.e1
 go_wp2_with fail
 clear cX_0 cV_1
 ((with_reducible refine (fflag_any q bb (by omega) gw _ R.out).mono ?_); rintro e wd10 ⟨rfl, hR11, hK12⟩)
 replace S := wH S hK12 (by omega) (by decide)
 replace V := wH V hK12 (by omega) (by decide)
 replace X := wH X hK12 (by omega) (by decide)
 replace R := Lib.hid hR11
 replace KG := KG.trans hK12
 clear hR11 hK12
 go_wp2_with fail
 go_end0
 exact ⟨rfl, R.out, KG⟩
set_option maxRecDepth 100000 in
theorem wfull2 (q : List UInt8) (hl : q.length ≤ 10000000000000) (n : Int) (hn : I64 n) (x : Typ) (hk : x.kind = 2) (b o m c t : Nat) (C1 : Option Addr) (n1 l1 : Nat) (C2 : Option Addr) (n2 l2 : Nat) (D1 : Option Addr) (d1 : Nat) (D2 : Option Addr) (d2 : Nat) (D3 : Option Addr) (d3 : Nat) (htm : t < m) (gw : Nat) (w : World) (hbg : b < gw) (hx : Cells10 w b (o + t * 10) x (.slice C1 n1 l1) (.slice C2 n2 l2)) (hw : WrAt w gw q) :
  Calls Tryz.prog 48 #[.pointer (some ⟨gw, 0, none⟩), .agg #[.slice (some ⟨b, o, none⟩) m c], .int .i64 (t : Nat), .agg #[.int .i64 2, .bool false, .int .i64 n, .string ⟨#[]⟩, .int .i64 0, .slice D1 0 d1, .slice D2 0 d2, .slice D3 0 d3]] w (WPost gw (q ++ zigB n) w) := by
 have hgw0 := hw.here
 have R := hw
 have KG := WKeep.refl gw w
 have hd0 : decide ((t : Int) < 0) = false := by simp
 have hd1 : decide (m ≤ t) = false := by simpa using htm
 have htm' : (t : Int) < m := by omega
 have hpl := putF_len9 0
 clear hw
 replace R := Lib.hid R
 have XC := Lib.hid (cells10_keptW hx (by omega))
 clear hx
 go_enter Tryz.func48, Tryz.ntmps48
 go_upto_region 1 with fail
 refine am2 (fun wd2 hb1 S V => ?_)
 replace XC := b1 XC hb1
 replace R := wB R hb1
 replace KG := wkB KG hb1 (by have := KG.size; omega)
 clear hb1
 have cS_0 := S.out.e0
 obtain ⟨x0, x1, x2, x3, x4, x5, x6, x7, x8, x9⟩ := XC.out.now
 rw [hk] at x0
 go_upto_region 2 with fail
 clear cS_0
 refine am1 (fun wd4 hb3 X => ?_)
 have hl6 := S.out.here
 have hl7 := V.out.here
 have hl8 := XC.out.le
 have hl9 := KG.size
 obtain ⟨S, V, XC⟩ := b3 S V XC hb3
 replace R := wB R hb3
 replace KG := wkB KG hb3 (by have := KG.size; omega)
 clear hb3
 generalize wd2.heap.size = g5 at *
 clear x0 x1 x2 x3 x4 x5 x6 x7 x8 x9
 clear XC
 have cX_0 := X.out.e0
 have cV_2 := V.out.e2
 go_wp2_with fail
 clear cX_0 cV_2
 ((with_reducible refine (finteger_any q n hn (by omega) gw _ R.out).mono ?_); rintro e wd10 ⟨rfl, hR11, hK12⟩)
 replace S := wH S hK12 (by omega) (by decide)
 replace V := wH V hK12 (by omega) (by decide)
 replace X := wH X hK12 (by omega) (by decide)
 replace R := Lib.hid hR11
 replace KG := KG.trans hK12
 clear hR11 hK12
 go_wp2_with fail
 go_end0
 exact ⟨rfl, R.out, KG⟩
set_option maxRecDepth 100000 in
theorem wfull4 (q : List UInt8) (hl : q.length ≤ 10000000000000) (n : Nat) (hn : n ≤ 1000) (x : Typ) (hk : x.kind = 4) (b o m c t : Nat) (C1 : Option Addr) (n1 l1 : Nat) (C2 : Option Addr) (n2 l2 : Nat) (D1 : Option Addr) (d1 : Nat) (D2 : Option Addr) (d2 : Nat) (D3 : Option Addr) (d3 : Nat) (htm : t < m) (gw : Nat) (w : World) (hbg : b < gw) (hx : Cells10 w b (o + t * 10) x (.slice C1 n1 l1) (.slice C2 n2 l2)) (hw : WrAt w gw q) :
  Calls Tryz.prog 48 #[.pointer (some ⟨gw, 0, none⟩), .agg #[.slice (some ⟨b, o, none⟩) m c], .int .i64 (t : Nat), .agg #[.int .i64 4, .bool false, .int .i64 0, .string ⟨#[]⟩, .int .i64 (n : Nat), .slice D1 0 d1, .slice D2 0 d2, .slice D3 0 d3]] w (WPost gw (q ++ putF 9 n) w) := by
 have hgw0 := hw.here
 have R := hw
 have KG := WKeep.refl gw w
 have hd0 : decide ((t : Int) < 0) = false := by simp
 have hd1 : decide (m ≤ t) = false := by simpa using htm
 have htm' : (t : Int) < m := by omega
 have hpl := putF_len9 0
 clear hw
 replace R := Lib.hid R
 have XC := Lib.hid (cells10_keptW hx (by omega))
 clear hx
 go_enter Tryz.func48, Tryz.ntmps48
 go_upto_region 1 with fail
 refine am2 (fun wd2 hb1 S V => ?_)
 replace XC := b1 XC hb1
 replace R := wB R hb1
 replace KG := wkB KG hb1 (by have := KG.size; omega)
 clear hb1
 have cS_0 := S.out.e0
 obtain ⟨x0, x1, x2, x3, x4, x5, x6, x7, x8, x9⟩ := XC.out.now
 rw [hk] at x0
 go_upto_region 2 with fail
 clear cS_0
 refine am1 (fun wd4 hb3 X => ?_)
 have hl6 := S.out.here
 have hl7 := V.out.here
 have hl8 := XC.out.le
 have hl9 := KG.size
 obtain ⟨S, V, XC⟩ := b3 S V XC hb3
 replace R := wB R hb3
 replace KG := wkB KG hb3 (by have := KG.size; omega)
 clear hb3
 generalize wd2.heap.size = g5 at *
 clear x0 x1 x2 x3 x4 x5 x6 x7 x8 x9
 clear XC
 have cX_0 := X.out.e0
 have cV_4 := V.out.e4
 go_wp2_with fail
 clear cX_0 cV_4
 refine amc1 (fun wd11 hb10 G => ?_)
 have hl13 := S.out.here
 have hl14 := V.out.here
 have hl15 := X.out.here
 have hl16 := KG.size
 obtain ⟨S, V, X⟩ := b3 S V X hb10
 replace R := wB R hb10
 replace KG := wkB KG hb10 (by have := KG.size; omega)
 clear hb10
 generalize wd4.heap.size = g12 at *
 ((with_reducible refine (fnum1 q n (by omega) (by omega) gw g12 1 (by omega) _ R.out G.out).mono ?_); rintro e wd17 ⟨rfl, hR18, hK19⟩)
 replace S := wH S hK19 (by omega) (by decide)
 replace V := wH V hK19 (by omega) (by decide)
 replace X := wH X hK19 (by omega) (by decide)
 replace G := wH G hK19 (by omega) (by decide)
 replace R := Lib.hid hR18
 replace KG := KG.trans hK19
 clear hR18 hK19
 go_wp2_with fail
 go_end0
 exact ⟨rfl, R.out, KG⟩
set_option maxRecDepth 100000 in
theorem wfull3 (q : List UInt8) (hl : q.length ≤ 10000000000000) (s : List UInt8) (hn : s.length ≤ 1000) (x : Typ) (hk : x.kind = 3) (b o m c t : Nat) (C1 : Option Addr) (n1 l1 : Nat) (C2 : Option Addr) (n2 l2 : Nat) (D1 : Option Addr) (d1 : Nat) (D2 : Option Addr) (d2 : Nat) (D3 : Option Addr) (d3 : Nat) (htm : t < m) (gw : Nat) (w : World) (hbg : b < gw) (hx : Cells10 w b (o + t * 10) x (.slice C1 n1 l1) (.slice C2 n2 l2)) (hw : WrAt w gw q) :
  Calls Tryz.prog 48 #[.pointer (some ⟨gw, 0, none⟩), .agg #[.slice (some ⟨b, o, none⟩) m c], .int .i64 (t : Nat), .agg #[.int .i64 3, .bool false, .int .i64 0, .string ⟨s.toArray⟩, .int .i64 0, .slice D1 0 d1, .slice D2 0 d2, .slice D3 0 d3]] w (WPost gw (q ++ (putF 9 s.length ++ s)) w) := by
 have hgw0 := hw.here
 have R := hw
 have KG := WKeep.refl gw w
 have hd0 : decide ((t : Int) < 0) = false := by simp
 have hd1 : decide (m ≤ t) = false := by simpa using htm
 have htm' : (t : Int) < m := by omega
 have hpl := putF_len9 0
 clear hw
 replace R := Lib.hid R
 have XC := Lib.hid (cells10_keptW hx (by omega))
 clear hx
 go_enter Tryz.func48, Tryz.ntmps48
 go_upto_region 1 with fail
 refine am2 (fun wd2 hb1 S V => ?_)
 replace XC := b1 XC hb1
 replace R := wB R hb1
 replace KG := wkB KG hb1 (by have := KG.size; omega)
 clear hb1
 have cS_0 := S.out.e0
 obtain ⟨x0, x1, x2, x3, x4, x5, x6, x7, x8, x9⟩ := XC.out.now
 rw [hk] at x0
 go_upto_region 2 with fail
 clear cS_0
 refine am1 (fun wd4 hb3 X => ?_)
 have hl6 := S.out.here
 have hl7 := V.out.here
 have hl8 := XC.out.le
 have hl9 := KG.size
 obtain ⟨S, V, XC⟩ := b3 S V XC hb3
 replace R := wB R hb3
 replace KG := wkB KG hb3 (by have := KG.size; omega)
 clear hb3
 generalize wd2.heap.size = g5 at *
 clear x0 x1 x2 x3 x4 x5 x6 x7 x8 x9
 clear XC
 have cX_0 := X.out.e0
 have cV_3 := V.out.e3
 go_wp2_with fail
 clear cX_0 cV_3
 refine amc1 (fun wd11 hb10 G => ?_)
 have hl13 := S.out.here
 have hl14 := V.out.here
 have hl15 := X.out.here
 have hl16 := KG.size
 obtain ⟨S, V, X⟩ := b3 S V X hb10
 replace R := wB R hb10
 replace KG := wkB KG hb10 (by have := KG.size; omega)
 clear hb10
 generalize wd4.heap.size = g12 at *
 ((with_reducible refine (fnum1 q s.length (by omega) (by omega) gw g12 1 (by omega) _ R.out G.out).mono ?_); rintro e wd17 ⟨rfl, hR18, hK19⟩)
 replace S := wH S hK19 (by omega) (by decide)
 replace V := wH V hK19 (by omega) (by decide)
 replace X := wH X hK19 (by omega) (by decide)
 replace G := wH G hK19 (by omega) (by decide)
 replace R := Lib.hid hR18
 replace KG := KG.trans hK19
 clear hR18 hK19
 have hpl2 := putF_len9 s.length
 obtain ⟨q1, hq1⟩ : ∃ q1, q1 = q ++ putF 9 s.length := ⟨_, rfl⟩
 have hql : q1.length ≤ 10000000001000 := by rw [hq1]; simp only [List.length_append]; omega
 rw [← hq1] at R
 have HQ1 := Lib.hid hq1
 clear hq1
 clear G
 clear S
 clear X
 go_upto_region 17 with fail
 obtain ⟨WS500, hWS⟩ : ∃ x, x = wd17 := ⟨_, rfl⟩
 subst hWS
 obtain ⟨A, c0, W1, hown⟩ := R.out
 have hV0 := V.out
 have hR0 := R.out
 have hgw1 := hR0.here
 clear V R
 have V := hV0
 have Y := W1
 replace V := Lib.hid V
 replace Y := Lib.hid Y
 have O := Lib.hid (Kept.own hown)
 clear hV0 W1 hR0 hown
 have cY_0 := Y.out.e0
 have cV_3 := V.out.e3
 refine wp_region_T (S := (fun w' => w'.cell? ⟨gw, 0, none⟩ = some (.slice A q1.length c0) ∧ w'.cell? ⟨w.heap.size + 1, 3, none⟩ = some (.string ⟨s.toArray⟩))) (fun j => j == 10) (by kernel_rfl) ⟨cY_0, cV_3⟩ (fun hHeld => ?_)
 clear cY_0 cV_3
 have hb501 : Below WS500.heap.size WS500 (WS500.drew) := (Below.refl _ _).drew
 obtain ⟨V, Y, O⟩ := b3 V Y O hb501
 have hw503 := hb501
 clear hb501
 generalize WS500.drew = wd502 at *
 refine tkT 0 ?_
 refine tkT 1 ?_
 refine tkT 2 ?_
 refine tkT 3 ?_
 refine tkT 4 ?_
 refine tkT 5 ?_
 refine tkT 6 ?_
 refine rdT1 7 fun K hK => ?_
 have hXh := Y.out.here
 have hk1 := WKeep.of hw503 (gw := gw) (by omega)
 refine step_append_str (P := Tryz.prog) rfl _ _ _ _ (by rfl) (gw + 1) 5 Tryz.underlying87 Tryz.underlying9 info_u8W (.slice A q1.length c0) q1.length q1 rfl O.out.now s rfl (by omega) hXh ?_
 intro v' w9 hown1 hgr
 obtain ⟨A1, c1, rfl⟩ := own_form hown1
 have hk0 := WKeep.grow O.out.now hgr hXh
 have hk2 := hk1.trans hk0
 have hV9 := hk0.has (w.heap.size + 1) _ _ (by omega) (by decide) V.out
 have hb4 : Below (gw + 1) wd502 w9 := (Below.refl (gw + 1) wd502).grown hgr hXh (fun k hk => (O.out.now.lt k hk).1)
 clear O
 clear V
 replace Y := Lib.hid (Y.out.below hb4 (show gw < gw + 1 by omega))
 have O := Lib.hid (Kept.own hown1)
 have V := hV9
 replace V := Lib.hid V
 clear hk1 hown1 hgr hb4 hk0 hV9
 try clear hHeld
 refine hK.out _ _ (⟨Y.out.cell 0, V.out.cell 3⟩) (fun hHeld => ?_)
 clear hK K
 refine rdT1 8 fun K hK => ?_
 go_simp
 try clear hHeld
 refine hK.out _ _ (⟨Y.out.cell 0, V.out.cell 3⟩) (fun hHeld => ?_)
 clear hK K
 refine tkT 9 ?_
 refine rdTL 10 fun K hK => ?_
 have cY_0 := Y.out.e0
 have fY_0 := Y.out.free 0
 go_simp
 clear cY_0 fY_0
 have HX := Y
 clear Y
 generalize HEX : w9.setCell ⟨gw, 0, none⟩ (.slice A1 (q1.length + s.length) c1) = wd504
 obtain ⟨V, O⟩ := f2 V O (eF HEX)
 have HX2 := dS0 HX HEX
 have hk3 := hk2.trans (WKeep.set HEX)
 clear HX HEX hk2
 have hwr : WrAt wd504 gw (q1 ++ s) := ⟨A1, c1, by rw [List.length_append]; exact HX2.out, by rw [List.length_append]; exact O.out.now⟩
 rw [HQ1.out, List.append_assoc] at hwr
 have HWR := Lib.hid hwr
 clear O
 clear V
 clear HX2 hwr
 try clear hHeld
 refine hK.out _ _ ?_
 clear hK K
 refine wpAnyT_done (by kernel_rfl) ?_ _
 try clear hHeld
 go_wp2_with fail
 go_end0
 exact ⟨rfl, HWR.out, KG.trans hk3⟩
set_option maxRecDepth 100000 in
theorem wfull7 (q : List UInt8) (hl : q.length ≤ 10000000000000) (x : Typ) (hk : x.kind = 7) (b o m c t : Nat) (C1 : Option Addr) (n1 l1 : Nat) (C2 : Option Addr) (n2 l2 : Nat) (D1 : Option Addr) (d1 : Nat) (D2 : Option Addr) (d2 : Nat) (D3 : Option Addr) (d3 : Nat) (htm : t < m) (gw : Nat) (w : World) (hbg : b < gw) (hx : Cells10 w b (o + t * 10) x (.slice C1 n1 l1) (.slice C2 n2 l2)) (hw : WrAt w gw q) :
  Calls Tryz.prog 48 #[.pointer (some ⟨gw, 0, none⟩), .agg #[.slice (some ⟨b, o, none⟩) m c], .int .i64 (t : Nat), .agg #[.int .i64 7, .bool false, .int .i64 0, .string ⟨#[]⟩, .int .i64 0, .slice D1 0 d1, .slice D2 0 d2, .slice D3 0 d3]] w (WPost gw (q ++ putF 9 0) w) := by
 have hgw0 := hw.here
 have R := hw
 have KG := WKeep.refl gw w
 have hd0 : decide ((t : Int) < 0) = false := by simp
 have hd1 : decide (m ≤ t) = false := by simpa using htm
 have htm' : (t : Int) < m := by omega
 have hpl := putF_len9 0
 clear hw
 replace R := Lib.hid R
 have XC := Lib.hid (cells10_keptW hx (by omega))
 clear hx
 go_enter Tryz.func48, Tryz.ntmps48
 go_upto_region 1 with fail
 refine am2 (fun wd2 hb1 S V => ?_)
 replace XC := b1 XC hb1
 replace R := wB R hb1
 replace KG := wkB KG hb1 (by have := KG.size; omega)
 clear hb1
 have cS_0 := S.out.e0
 obtain ⟨x0, x1, x2, x3, x4, x5, x6, x7, x8, x9⟩ := XC.out.now
 rw [hk] at x0
 go_upto_region 2 with fail
 clear cS_0
 refine am1 (fun wd4 hb3 X => ?_)
 have hl6 := S.out.here
 have hl7 := V.out.here
 have hl8 := XC.out.le
 have hl9 := KG.size
 obtain ⟨S, V, XC⟩ := b3 S V XC hb3
 replace R := wB R hb3
 replace KG := wkB KG hb3 (by have := KG.size; omega)
 clear hb3
 generalize wd2.heap.size = g5 at *
 clear x0 x1 x2 x3 x4 x5 x6 x7 x8 x9
 clear XC
 have cX_0 := X.out.e0
 have cV_6 := V.out.e6
 go_wp2_with fail
 clear cX_0 cV_6
 refine amc1 (fun wd11 hb10 G => ?_)
 have hl13 := S.out.here
 have hl14 := V.out.here
 have hl15 := X.out.here
 have hl16 := KG.size
 obtain ⟨S, V, X⟩ := b3 S V X hb10
 replace R := wB R hb10
 replace KG := wkB KG hb10 (by have := KG.size; omega)
 clear hb10
 generalize wd4.heap.size = g12 at *
 have hG : Has wd11 g12 3 #[.int .i64 ((0 : Nat) : Int)] := G.out
 ((with_reducible refine (fnum1 q 0 (by decide) (by omega) gw g12 1 (by omega) _ R.out hG).mono ?_); rintro e wd17 ⟨rfl, hR18, hK19⟩)
 replace S := wH S hK19 (by omega) (by decide)
 replace V := wH V hK19 (by omega) (by decide)
 replace X := wH X hK19 (by omega) (by decide)
 replace G := wH G hK19 (by omega) (by decide)
 replace R := Lib.hid hR18
 replace KG := KG.trans hK19
 clear hR18 hK19
 clear hG
 clear G
 have cV_6 := V.out.e6
 go_upto_region 5 with fail
 clear cV_6
 have hR0 := R.out
 go_loopw [31] (fun s31 wr => s31 = .int .i64 0 ∧ WrAt wr gw (q ++ putF 9 0) ∧ WKeep gw w wr) (fun _ _ => 0)
 case atStart => exact ⟨rfl, hR0, KG⟩
 case round =>
  clear V X S R KG hR0
  obtain ⟨rfl, R, KG⟩ := hrel
  go_wp2_with fail
  go_end0
  exact ⟨rfl, R, KG⟩
set_option maxRecDepth 100000 in
theorem wfull8 (q : List UInt8) (hl : q.length ≤ 10000000000000) (x : Typ) (hk : x.kind = 8) (b o m c t : Nat) (C1 : Option Addr) (n1 l1 : Nat) (C2 : Option Addr) (n2 l2 : Nat) (D1 : Option Addr) (d1 : Nat) (D2 : Option Addr) (d2 : Nat) (D3 : Option Addr) (d3 : Nat) (htm : t < m) (gw : Nat) (w : World) (hbg : b < gw) (hx : Cells10 w b (o + t * 10) x (.slice C1 n1 l1) (.slice C2 n2 l2)) (hw : WrAt w gw q) :
  Calls Tryz.prog 48 #[.pointer (some ⟨gw, 0, none⟩), .agg #[.slice (some ⟨b, o, none⟩) m c], .int .i64 (t : Nat), .agg #[.int .i64 8, .bool false, .int .i64 0, .string ⟨#[]⟩, .int .i64 0, .slice D1 0 d1, .slice D2 0 d2, .slice D3 0 d3]] w (WPost gw (q ++ putF 9 0) w) := by
 have hgw0 := hw.here
 have R := hw
 have KG := WKeep.refl gw w
 have hd0 : decide ((t : Int) < 0) = false := by simp
 have hd1 : decide (m ≤ t) = false := by simpa using htm
 have htm' : (t : Int) < m := by omega
 have hpl := putF_len9 0
 clear hw
 replace R := Lib.hid R
 have XC := Lib.hid (cells10_keptW hx (by omega))
 clear hx
 go_enter Tryz.func48, Tryz.ntmps48
 go_upto_region 1 with fail
 refine am2 (fun wd2 hb1 S V => ?_)
 replace XC := b1 XC hb1
 replace R := wB R hb1
 replace KG := wkB KG hb1 (by have := KG.size; omega)
 clear hb1
 have cS_0 := S.out.e0
 obtain ⟨x0, x1, x2, x3, x4, x5, x6, x7, x8, x9⟩ := XC.out.now
 rw [hk] at x0
 go_upto_region 2 with fail
 clear cS_0
 refine am1 (fun wd4 hb3 X => ?_)
 have hl6 := S.out.here
 have hl7 := V.out.here
 have hl8 := XC.out.le
 have hl9 := KG.size
 obtain ⟨S, V, XC⟩ := b3 S V XC hb3
 replace R := wB R hb3
 replace KG := wkB KG hb3 (by have := KG.size; omega)
 clear hb3
 generalize wd2.heap.size = g5 at *
 clear x0 x1 x2 x3 x4 x5 x6 x7 x8 x9
 clear XC
 have cX_0 := X.out.e0
 have cV_6 := V.out.e6
 go_wp2_with fail
 clear cX_0 cV_6
 refine amc1 (fun wd11 hb10 G => ?_)
 have hl13 := S.out.here
 have hl14 := V.out.here
 have hl15 := X.out.here
 have hl16 := KG.size
 obtain ⟨S, V, X⟩ := b3 S V X hb10
 replace R := wB R hb10
 replace KG := wkB KG hb10 (by have := KG.size; omega)
 clear hb10
 generalize wd4.heap.size = g12 at *
 have hG : Has wd11 g12 3 #[.int .i64 ((0 : Nat) : Int)] := G.out
 ((with_reducible refine (fnum1 q 0 (by decide) (by omega) gw g12 1 (by omega) _ R.out hG).mono ?_); rintro e wd17 ⟨rfl, hR18, hK19⟩)
 replace S := wH S hK19 (by omega) (by decide)
 replace V := wH V hK19 (by omega) (by decide)
 replace X := wH X hK19 (by omega) (by decide)
 replace G := wH G hK19 (by omega) (by decide)
 replace R := Lib.hid hR18
 replace KG := KG.trans hK19
 clear hR18 hK19
 clear hG
 clear G
 have cV_6 := V.out.e6
 go_upto_region 5 with fail
 clear cV_6
 have hR0 := R.out
 go_loopw [31] (fun s31 wr => s31 = .int .i64 0 ∧ WrAt wr gw (q ++ putF 9 0) ∧ WKeep gw w wr) (fun _ _ => 0)
 case atStart => exact ⟨rfl, hR0, KG⟩
 case round =>
  clear V X S R KG hR0
  obtain ⟨rfl, R, KG⟩ := hrel
  go_wp2_with fail
  go_end0
  exact ⟨rfl, R, KG⟩
set_option maxRecDepth 100000 in
theorem wfull9 (q : List UInt8) (hl : q.length ≤ 10000000000000) (x : Typ) (hk : x.kind = 9) (b o m c t : Nat) (C1 : Option Addr) (n1 l1 : Nat) (C2 : Option Addr) (n2 l2 : Nat) (D1 : Option Addr) (d1 : Nat) (D2 : Option Addr) (d2 : Nat) (D3 : Option Addr) (d3 : Nat) (htm : t < m) (gw : Nat) (w : World) (hbg : b < gw) (hx : Cells10 w b (o + t * 10) x (.slice C1 n1 l1) (.slice C2 n2 l2)) (hw : WrAt w gw q) :
  Calls Tryz.prog 48 #[.pointer (some ⟨gw, 0, none⟩), .agg #[.slice (some ⟨b, o, none⟩) m c], .int .i64 (t : Nat), .agg #[.int .i64 9, .bool false, .int .i64 0, .string ⟨#[]⟩, .int .i64 0, .slice D1 0 d1, .slice D2 0 d2, .slice D3 0 d3]] w (WPost gw (q ++ putF 9 0) w) := by
 have hgw0 := hw.here
 have R := hw
 have KG := WKeep.refl gw w
 have hd0 : decide ((t : Int) < 0) = false := by simp
 have hd1 : decide (m ≤ t) = false := by simpa using htm
 have htm' : (t : Int) < m := by omega
 have hpl := putF_len9 0
 clear hw
 replace R := Lib.hid R
 have XC := Lib.hid (cells10_keptW hx (by omega))
 clear hx
 go_enter Tryz.func48, Tryz.ntmps48
 go_upto_region 1 with fail
 refine am2 (fun wd2 hb1 S V => ?_)
 replace XC := b1 XC hb1
 replace R := wB R hb1
 replace KG := wkB KG hb1 (by have := KG.size; omega)
 clear hb1
 have cS_0 := S.out.e0
 obtain ⟨x0, x1, x2, x3, x4, x5, x6, x7, x8, x9⟩ := XC.out.now
 rw [hk] at x0
 go_upto_region 2 with fail
 clear cS_0
 refine am1 (fun wd4 hb3 X => ?_)
 have hl6 := S.out.here
 have hl7 := V.out.here
 have hl8 := XC.out.le
 have hl9 := KG.size
 obtain ⟨S, V, XC⟩ := b3 S V XC hb3
 replace R := wB R hb3
 replace KG := wkB KG hb3 (by have := KG.size; omega)
 clear hb3
 generalize wd2.heap.size = g5 at *
 clear x0 x1 x2 x3 x4 x5 x6 x7 x8 x9
 clear XC
 have cX_0 := X.out.e0
 have cV_6 := V.out.e6
 go_wp2_with fail
 clear cX_0 cV_6
 refine amc1 (fun wd11 hb10 G => ?_)
 have hl13 := S.out.here
 have hl14 := V.out.here
 have hl15 := X.out.here
 have hl16 := KG.size
 obtain ⟨S, V, X⟩ := b3 S V X hb10
 replace R := wB R hb10
 replace KG := wkB KG hb10 (by have := KG.size; omega)
 clear hb10
 generalize wd4.heap.size = g12 at *
 have hG : Has wd11 g12 3 #[.int .i64 ((0 : Nat) : Int)] := G.out
 ((with_reducible refine (fnum1 q 0 (by decide) (by omega) gw g12 1 (by omega) _ R.out hG).mono ?_); rintro e wd17 ⟨rfl, hR18, hK19⟩)
 replace S := wH S hK19 (by omega) (by decide)
 replace V := wH V hK19 (by omega) (by decide)
 replace X := wH X hK19 (by omega) (by decide)
 replace G := wH G hK19 (by omega) (by decide)
 replace R := Lib.hid hR18
 replace KG := KG.trans hK19
 clear hR18 hK19
 clear hG
 clear G
 have cV_6 := V.out.e6
 go_upto_region 5 with fail
 clear cV_6
 have hR0 := R.out
 go_loopw [31] (fun s31 wr => s31 = .int .i64 0 ∧ WrAt wr gw (q ++ putF 9 0) ∧ WKeep gw w wr) (fun _ _ => 0)
 case atStart => exact ⟨rfl, hR0, KG⟩
 case round =>
  clear V X S R KG hR0
  obtain ⟨rfl, R, KG⟩ := hrel
  go_wp2_with fail
  go_end0
  exact ⟨rfl, R, KG⟩
def FullOK (ts : List Typ) (gw b o c : Nat) (w0 : World) (m : Mem) (vk vi vr : Value) : Prop :=
 ∀ (W : World) (q : List UInt8), Below gw w0 W → q.length + (fullV ts m.dflt m.ty).length ≤ 10000000000000 → WrAt W gw q →
  Calls Tryz.prog 48 #[.pointer (some ⟨gw, 0, none⟩), .agg #[.slice (some ⟨b, o, none⟩) ts.length c], .int .i64 m.ty, valA m.dflt vk vi vr] W (WPost gw (q ++ fullV ts m.dflt m.ty) W)
theorem fullOK_bare {ts : List Typ} (hv : validE ts = 0) (hI : IntIn ts) {gw b o c : Nat} {w0 : World} (hb : b < gw) {m : Mem} {vk vi vr : Value} {x : Typ} (hx : typAt ts m.ty = some x) (hf : fitV ts true m.dflt m.ty = true) (h0 : Bare0 m.dflt)
  (hc : ∃ vs vm, Cells10 w0 b (o + m.ty.toNat * 10) x vs vm ∧ (∃ C1 n1 l1, vs = .slice C1 n1 l1) ∧ ∃ C2 n2 l2, vm = .slice C2 n2 l2)
  (h1 : ∃ D1 d1, vk = .slice D1 m.dflt.keys.length d1) (h2 : ∃ D2 d2, vi = .slice D2 m.dflt.items.length d2) (h3 : ∃ D3 d3, vr = .slice D3 m.dflt.rest.length d3) : FullOK ts gw b o c w0 m vk vi vr := by
 intro W q hW hl hw
 have hform := form0_of hv hx hf h0
 obtain ⟨k1, k2, k3, -⟩ := h0
 obtain ⟨D1, d1, rfl⟩ := h1
 obtain ⟨D2, d2, rfl⟩ := h2
 obtain ⟨D3, d3, rfl⟩ := h3
 obtain ⟨vs, vm, hcell, ⟨C1, n1, l1, rfl⟩, C2, n2, l2, rfl⟩ := hc
 have hxm := hI x (btypAt_mem hx)
 have htl : 0 ≤ m.ty ∧ m.ty.toNat < ts.length := by
  unfold typAt at hx
  split at hx
  ·
   next h => exact ⟨h, (List.getElem?_eq_some_iff.1 hx).1⟩
  cases hx
 obtain ⟨t, ht⟩ : ∃ t : Nat, m.ty = (t : Int) := ⟨m.ty.toNat, by omega⟩
 rw [ht] at hform hcell htl hl ⊢
 rw [Int.toNat_natCast] at hcell htl
 have hcW := hcell.below hW hb
 rw [k1, k2, k3]
 cases hform with
 | bool bb hk hd he => rw [hd] at he hl ⊢; rw [he] at hl ⊢; exact wfull1 q (by omega) bb x hk b o ts.length c t C1 n1 l1 C2 n2 l2 D1 d1 D2 d2 D3 d3 htl.2 gw W hb hcW hw
 | int n hk hd he hn => rw [hd] at he hl ⊢; rw [he] at hl ⊢; exact wfull2 q (by omega) n (by unfold I64 at *; omega) x hk b o ts.length c t C1 n1 l1 C2 n2 l2 D1 d1 D2 d2 D3 d3 htl.2 gw W hb hcW hw
 | str s hk hd he hn => rw [hd] at he hl ⊢; rw [he] at hl ⊢; exact wfull3 q (by omega) s (by omega) x hk b o ts.length c t C1 n1 l1 C2 n2 l2 D1 d1 D2 d2 D3 d3 htl.2 gw W hb hcW hw
 | enum n hk hd he hn =>
  rw [hd] at he hl ⊢; rw [he] at hl ⊢
  obtain ⟨u, rfl⟩ : ∃ u : Nat, n = (u : Int) := ⟨n.toNat, by omega⟩
  exact wfull4 q (by omega) u (by omega) x hk b o ts.length c t C1 n1 l1 C2 n2 l2 D1 d1 D2 d2 D3 d3 htl.2 gw W hb hcW hw
 | list k hk h7 hd he =>
  rw [hd] at he hl ⊢; rw [he] at hl ⊢
  have hcs : k = 7 ∨ k = 8 ∨ k = 9 := by omega
  rcases hcs with rfl | rfl | rfl
  ·
   exact wfull7 q (by omega) x hk b o ts.length c t C1 n1 l1 C2 n2 l2 D1 d1 D2 d2 D3 d3 htl.2 gw W hb hcW hw
  ·
   exact wfull8 q (by omega) x hk b o ts.length c t C1 n1 l1 C2 n2 l2 D1 d1 D2 d2 D3 d3 htl.2 gw W hb hcW hw
  exact wfull9 q (by omega) x hk b o ts.length c t C1 n1 l1 C2 n2 l2 D1 d1 D2 d2 D3 d3 htl.2 gw W hb hcW hw
end Go.Proofs.YtlamhkffnlgofaaGreatDoor
namespace Go.Proofs.YtlamhkffnlgofaaGreatDoor
open Go.ChangeShapes Go.WideShapes Go.ChangeAt Go.RowKit
end Go.Proofs.YtlamhkffnlgofaaGreatDoor
namespace Go.Proofs.YtlamhkffnlgofaaGreatDoor
open Go.ChangeShapes Go.WideShapes Go.ChangeAt Go.RowKit
end Go.Proofs.YtlamhkffnlgofaaGreatDoor
namespace Go.Proofs.YtlamhkffnlgofaaGreatDoor
open Go.ChangeShapes Go.WideShapes Go.ChangeAt Go.RowKit
end Go.Proofs.YtlamhkffnlgofaaGreatDoor
namespace Go.Proofs.YtlamhkffnlgofaaGreatDoor
open Go.ChangeShapes Go.WideShapes Go.ChangeAt Go.RowKit
def sameM (x y : Mem) : Bool := decide (x.id = y.id ∧ x.name = y.name ∧ x.ty = y.ty ∧ x.crit = y.crit ∧ x.hasDef = y.hasDef) && sameV x.dflt y.dflt
theorem sameM_iff (x y : Mem) : sameM x y = true ↔ x = y := by
 unfold sameM
 rw [Bool.and_eq_true, decide_eq_true_eq, sameV_iff]
 cases x; cases y; simp [and_assoc]
end Go.Proofs.YtlamhkffnlgofaaGreatDoor
namespace Go.Proofs.YtlamhkffnlgofaaGreatDoor
open Go.ChangeShapes Go.WideShapes Go.ChangeAt Go.RowKit
instance decMem : DecidableEq Mem := fun x y => decidable_of_iff (sameM x y = true) (sameM_iff x y)
end Go.Proofs.YtlamhkffnlgofaaGreatDoor
namespace Go.Proofs.YtlamhkffnlgofaaGreatDoor
open Go.ChangeShapes Go.WideShapes Go.ChangeAt Go.RowKit
end Go.Proofs.YtlamhkffnlgofaaGreatDoor
namespace Go.Proofs.YtlamhkffnlgofaaGreatDoor
open Go.ChangeShapes Go.WideShapes Go.ChangeAt Go.RowKit
end Go.Proofs.YtlamhkffnlgofaaGreatDoor
namespace Go.Proofs.YtlamhkffnlgofaaGreatDoor
open Go.ChangeShapes Go.WideShapes Go.ChangeAt Go.RowKit
end Go.Proofs.YtlamhkffnlgofaaGreatDoor
namespace Go.Proofs.YtlamhkffnlgofaaGreatDoor
open Go.ChangeShapes Go.WideShapes Go.ChangeAt Go.RowKit
end Go.Proofs.YtlamhkffnlgofaaGreatDoor
namespace Go.Proofs.YtlamhkffnlgofaaGreatDoor
open Go.ChangeShapes Go.WideShapes Go.ChangeAt Go.RowKit Go.Joins
section
variable {H : Type} {enc : TypeId × Value → H} {w : World} {base : Nat} {spare : Nat → Bool} {held : Bool}
end
end Go.Proofs.YtlamhkffnlgofaaGreatDoor
namespace Go.Proofs.YtlamhkffnlgofaaGreatDoor
open Go.ChangeShapes Go.WideShapes Go.ChangeAt Go.RowKit Go.Joins
abbrev Prt := Nat × Nat × Nat
structure Nod where
 kind : Nat
 a : Nat
 b : Nat
 c : Nat
 parts : List Prt
def partV (p : Prt) : List Value := [.int .u8 p.1, .int .u8 p.2.1, .int .u8 p.2.2]
def PartIn (p : Prt) : Prop := p.1 < 256 ∧ p.2.1 < 256 ∧ p.2.2 < 256
def nodV (x : Nod) (vp : Value) : List Value := [.int .u8 x.kind, .int .u8 x.a, .int .u8 x.b, .int .u8 x.c, vp]
structure NodAt (w : World) (B : Nat) (x : Nod) (vp : Value) : Prop where
 ints : x.kind < 256 ∧ x.a < 256 ∧ x.b < 256 ∧ x.c < 256
 len : x.parts.length ≤ 46912496117077
 ins : ∀ p ∈ x.parts, PartIn p
 parts : Rd w B 3 vp x.parts.length (x.parts.flatMap partV)
def RdNods (w : World) (B : Nat) (v : Value) (xs : List Nod) : Prop := ∃ c : Nat → List Value, Row w B 5 v xs.length c ∧ ∀ (i : Nat) (h : i < xs.length), ∃ vp, c i = nodV xs[i] vp ∧ NodAt w B xs[i] vp
section
variable {H : Type} {enc : TypeId × Value → H} {w : World} {base : Nat} {spare : Nat → Bool} {held : Bool}
end
end Go.Proofs.YtlamhkffnlgofaaGreatDoor
namespace Go.Proofs.YtlamhkffnlgofaaGreatDoor
open Go.ChangeShapes Go.WideShapes Go.ChangeAt Go.RowKit
theorem RdNods.keep {w w' : World} {B B' : Nat} {v : Value} {xs : List Nod} (h : RdNods w B v xs) (hk : ∀ p : Addr, p.block < B → w'.cell? p = w.cell? p) (hB : B ≤ B') : RdNods w' B' v xs := by
 obtain ⟨c, h1, h2⟩ := h
 refine ⟨c, (h1.keep hk).mono hB, fun i hi => ?_⟩
 obtain ⟨vp, e, hn⟩ := h2 i hi
 exact ⟨vp, e, hn.ints, hn.len, hn.ins, (hn.parts.keep hk).mono hB⟩
theorem RdNods.on {w w' : World} {v : Value} {xs : List Nod} (h : RdNods w w.heap.size v xs) (hb : Below w.heap.size w w') : RdNods w' w'.heap.size v xs := h.keep (fun _ hp => hb.cell hp) hb.size
theorem RdNods.form {w : World} {B : Nat} {v : Value} {xs : List Nod} (h : RdNods w B v xs) : ∃ A c, v = .slice A xs.length c ∧ xs.length ≤ c := by
 obtain ⟨_, ⟨A, c, h1, h2, _⟩, _⟩ := h
 exact ⟨A, c, h1, h2⟩
def Cells5 (w : World) (b o : Nat) (x : Nod) (vp : Value) : Prop :=
 w.cell? ⟨b, o, none⟩ = some (.int .u8 x.kind) ∧ w.cell? ⟨b, o + 1, none⟩ = some (.int .u8 x.a) ∧ w.cell? ⟨b, o + 2, none⟩ = some (.int .u8 x.b) ∧ w.cell? ⟨b, o + 3, none⟩ = some (.int .u8 x.c) ∧ w.cell? ⟨b, o + 4, none⟩ = some vp
theorem RdNods.elem {w : World} {B n cap : Nat} {A : Option Addr} {xs : List Nod} (h : RdNods w B (.slice A n cap) xs) (hpos : 0 < xs.length) : ∃ b o, A = some ⟨b, o, none⟩ ∧ b < B ∧ ∀ k (hk : k < xs.length), ∃ vp, Cells5 w b (o + k * 5) xs[k] vp ∧ NodAt w B xs[k] vp := by
 obtain ⟨c, ⟨A', c', hv, hc, h2⟩, h3⟩ := h
 injection hv with h4 h5 h6
 subst h4
 rcases h2 with h2 | ⟨b, o, hA, hb, hcell⟩
 ·
  omega
 refine ⟨b, o, hA, hb, fun k hk => ?_⟩
 obtain ⟨vp, hcs, hm⟩ := h3 k hk
 have hc := hcell k hk
 rw [hcs] at hc
 exact ⟨vp, ⟨hc 0 _ rfl, hc 1 _ rfl, hc 2 _ rfl, hc 3 _ rfl, hc 4 _ rfl⟩, hm⟩
end Go.Proofs.YtlamhkffnlgofaaGreatDoor
namespace Go.Proofs.YtlamhkffnlgofaaGreatDoor
open Go.ChangeShapes Go.WideShapes Go.ChangeAt Go.RowKit
theorem form_kindV {x : Typ} (h : formB x = true) : KindIn x.kind := by
 unfold formB at h; unfold KindIn
 simp only [Bool.and_eq_true, decide_eq_true_eq] at h
 exact h.1
end Go.Proofs.YtlamhkffnlgofaaGreatDoor
namespace Go.Proofs.YtlamhkffnlgofaaGreatDoor
open Go.ChangeShapes Go.WideShapes Go.ChangeAt Go.RowKit
end Go.Proofs.YtlamhkffnlgofaaGreatDoor
namespace Go.Proofs.YtlamhkffnlgofaaGreatDoor
open Go.ChangeShapes Go.WideShapes Go.ChangeAt Go.RowKit
end Go.Proofs.YtlamhkffnlgofaaGreatDoor
namespace Go.Proofs.YtlamhkffnlgofaaGreatDoor
open Go.ChangeShapes Go.WideShapes Go.ChangeAt Go.RowKit
end Go.Proofs.YtlamhkffnlgofaaGreatDoor
namespace Go.Proofs.YtlamhkffnlgofaaGreatDoor
open Go.ChangeShapes Go.WideShapes Go.ChangeAt Go.RowKit
end Go.Proofs.YtlamhkffnlgofaaGreatDoor
namespace Go.Proofs.YtlamhkffnlgofaaGreatDoor
open Go.ChangeShapes Go.WideShapes Go.ChangeAt Go.RowKit
end Go.Proofs.YtlamhkffnlgofaaGreatDoor
namespace Go.Proofs.YtlamhkffnlgofaaGreatDoor
open Go.ChangeShapes Go.WideShapes Go.ChangeAt Go.RowKit
end Go.Proofs.YtlamhkffnlgofaaGreatDoor
namespace Go.Proofs.YtlamhkffnlgofaaGreatDoor
open Go.ChangeShapes Go.WideShapes Go.ChangeAt Go.RowKit
end Go.Proofs.YtlamhkffnlgofaaGreatDoor
namespace Go.Proofs.YtlamhkffnlgofaaGreatDoor
open Go.ChangeShapes Go.WideShapes Go.ChangeAt Go.RowKit Go.Joins
section
variable {H : Type} {enc : TypeId × Value → H} {w : World} {base : Nat} {spare : Nat → Bool} {held : Bool}
end
end Go.Proofs.YtlamhkffnlgofaaGreatDoor

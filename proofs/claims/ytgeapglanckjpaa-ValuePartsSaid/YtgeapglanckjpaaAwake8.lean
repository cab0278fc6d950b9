/- The examples of layer 8: awake returns true. No condition. -/
import Derived.Test.YtgeapglanckjpaaGE
import Derived.Test.YtgeapglanckjpaaGG
import Derived.Test.YtgeapglanckjpaaAt
import Derived.Deep.RegionHeld3
import Derived.Deep.Cut
import Derived.Deep.DeepCutAuto
set_option maxHeartbeats 1600000
namespace Go.Proofs.Ytgeapglanckjpaa
open Go.ChangeShapes Go.WideShapes Go.ChangeAt Go.RowKit
def noneV : Val := .mk 9 false 0 [] 0 [] [] []
def vV : Val := .mk 5 false 0 [] 0 [] [numV 5, noneV] []
def twoV : Val := .mk 5 false 0 [] 0 [] [numV 5, noneV] [(2, [])]
def threeV : Val := .mk 5 false 0 [] 0 [] [numV 5, noneV] [(3, [])]
def fullV : Val := .mk 5 false 0 [] 0 [] [numV 5, .mk 9 false 0 [] 0 [] [numV 7] []] []
theorem ex1 : fitV pointT true vV 0 = true := by decide +kernel
theorem ex2 : fitV pointT false twoV 0 = true := by decide +kernel
theorem ex3 : fitV pointT true twoV 0 = false := by decide +kernel
theorem ex4 : fitV pointT false threeV 0 = false := by decide +kernel
theorem ex5 : depth vV = 2 ∧ depth fullV = 3 ∧ nodes vV = 3 ∧ nodes fullV = 4 := by decide +kernel
theorem ex6 : atE pointT [3, 0] fullV 0 = .ok (numV 7, 1) := by
 have h1 : fitV pointT false fullV 0 = true := by decide +kernel
 have h2 : atV pointT [3, 0] fullV 0 = some (numV 7, 1) := by rfl
 rw [atE, h1, h2]; rfl
theorem ex7 : atE pointT [3, 0] vV 0 = .error 4 := by
 have h1 : fitV pointT false vV 0 = true := by decide +kernel
 have h2 : atV pointT [3, 0] vV 0 = none := by rfl
 rw [atE, h1, h2]; rfl
theorem ex8 : compareV (numV (-1)) (numV 1) = -1 := by decide +kernel
theorem ex9 : compareV (numV (-2)) (numV 1) = 1 := by decide +kernel
theorem ex10 : compareV (strV [98]) (strV [97, 97]) = -1 := by decide +kernel
theorem ptKinds : Kinds pointT := by
 intro x hx
 simp only [pointT, List.mem_cons, List.not_mem_nil, or_false] at hx
 rcases hx with rfl | rfl | rfl <;> simp [KindIn]
theorem h3_0 {w : World} {T : TypeId} {cs : Array Value} {b c : Obj} : Has (((w.alloc (.cells cs T)).alloc b).alloc c).drew w.heap.size T cs := (((Has.made w T cs).alloc b).alloc c).drew
theorem h3_1 {w : World} {T : TypeId} {cs : Array Value} {a c : Obj} : Has (((w.alloc a).alloc (.cells cs T)).alloc c).drew (w.heap.size + 1) T cs := by
 have h := ((Has.made (w.alloc a) T cs).alloc c).drew
 rwa [alloc_hs'] at h
theorem h3_2 {w : World} {T : TypeId} {cs : Array Value} {a b : Obj} : Has (((w.alloc a).alloc b).alloc (.cells cs T)).drew (w.heap.size + 1 + 1) T cs := by
 have h := (Has.made ((w.alloc a).alloc b) T cs).drew
 rwa [alloc_hs', alloc_hs'] at h
theorem h3b {w : World} {a b c : Obj} : Below w.heap.size w (((w.alloc a).alloc b).alloc c).drew := ((((Below.refl w.heap.size w).alloc (Nat.le_refl _) a).alloc (by simp) b).alloc (by simp; omega) c).drew
theorem h2_0 {w : World} {T : TypeId} {cs : Array Value} {b : Obj} : Has ((w.alloc (.cells cs T)).alloc b).drew w.heap.size T cs := ((Has.made w T cs).alloc b).drew
theorem h2_1 {w : World} {T : TypeId} {cs : Array Value} {a : Obj} : Has ((w.alloc a).alloc (.cells cs T)).drew (w.heap.size + 1) T cs := by
 have h := (Has.made (w.alloc a) T cs).drew
 rwa [alloc_hs'] at h
theorem h2b {w : World} {a b : Obj} : Below w.heap.size w ((w.alloc a).alloc b).drew := (((Below.refl w.heap.size w).alloc (Nat.le_refl _) a).alloc (by simp) b).drew
theorem a3 {w : World} {a b c : Obj} {g j : Nat} {u : Value} (h : g < w.heap.size) (hc : w.cell? ⟨g, j, none⟩ = some u) : (((w.alloc a).alloc b).alloc c).drew.cell? ⟨g, j, none⟩ = some u := by
 have hb := (((Below.refl w.heap.size w).alloc (Nat.le_refl _) a).alloc (by simp) b).alloc (by simp; omega) c
 exact (hb.drew.cell (p := ⟨g, j, none⟩) h).trans hc
set_option maxRecDepth 100000 in
theorem num_ex (n : Int) (w : World) : Calls Try.prog 20 #[.int .i64 n] w fun e w' => e = .returned (.agg #[.int .i64 2, .bool false, .int .i64 n, .string ⟨#[]⟩, .int .i64 0, .slice none 0 0, .slice none 0 0, .slice none 0 0]) ∧
  w' = w.alloc (.cells #[.int .i64 2, .bool false, .int .i64 n, .string ⟨#[]⟩, .int .i64 0, .slice none 0 0, .slice none 0 0, .slice none 0 0] 34) := by
 go_enter Try.func20, Try.ntmps20
 go_wp2_with fail
 exact bodyPost_ret (v := .agg #[.int .i64 2, .bool false, .int .i64 n, .string ⟨#[]⟩, .int .i64 0, .slice none 0 0, .slice none 0 0, .slice none 0 0]) (by simp [results, Try.results20, go_sem]) rfl ⟨rfl, rfl⟩
structure Aws (w : World) (g1 gt gv gi g4 g5 r2 r3 gF gFI gOI : Nat) (W : World) : Prop where
 pt : RdTyps W W.heap.size (.slice (some ⟨gt, 0, none⟩) 3 3) pointT
 s : Has W g1 30 #[.slice (some ⟨gt, 0, none⟩) 3 3]
 v : Has W gv 34 #[.int .i64 5, .bool false, .int .i64 0, .string ⟨#[]⟩, .int .i64 0, .slice none 0 0, .slice (some ⟨gi, 0, none⟩) 2 2, .slice none 0 0]
 i : Has W gi 34 #[.int .i64 2, .bool false, .int .i64 5, .string ⟨#[]⟩, .int .i64 0, .slice none 0 0, .slice none 0 0, .slice none 0 0, .int .i64 9, .bool false, .int .i64 0, .string ⟨#[]⟩, .int .i64 0, .slice none 0 0, .slice none 0 0, .slice none 0 0]
 h4 : Has W g4 34 #[.int .i64 5, .bool false, .int .i64 0, .string ⟨#[]⟩, .int .i64 0, .slice none 0 0, .slice (some ⟨gi, 0, none⟩) 2 2, .slice (some ⟨r2, 0, none⟩) 1 1]
 h5 : Has W g5 34 #[.int .i64 5, .bool false, .int .i64 0, .string ⟨#[]⟩, .int .i64 0, .slice none 0 0, .slice (some ⟨gi, 0, none⟩) 2 2, .slice (some ⟨r3, 0, none⟩) 1 1]
 q2 : Has W r2 56 #[.int .i64 2, .string ⟨#[]⟩]
 q3 : Has W r3 56 #[.int .i64 3, .string ⟨#[]⟩]
 o3 : Has W gOI 34 #[.int .i64 2, .bool false, .int .i64 7, .string ⟨#[]⟩, .int .i64 0, .slice none 0 0, .slice none 0 0, .slice none 0 0]
 o4 : Has W gFI 34 #[.int .i64 2, .bool false, .int .i64 5, .string ⟨#[]⟩, .int .i64 0, .slice none 0 0, .slice none 0 0, .slice none 0 0, .int .i64 9, .bool false, .int .i64 0, .string ⟨#[]⟩, .int .i64 0, .slice none 0 0, .slice (some ⟨gOI, 0, none⟩) 1 1, .slice none 0 0]
 o5 : Has W gF 34 #[.int .i64 5, .bool false, .int .i64 0, .string ⟨#[]⟩, .int .i64 0, .slice none 0 0, .slice (some ⟨gFI, 0, none⟩) 2 2, .slice none 0 0]
 bel : Below w.heap.size w W
theorem Aws.on {w : World} {g1 gt gv gi g4 g5 r2 r3 gF gFI gOI : Nat} {W W' : World} (h : Aws w g1 gt gv gi g4 g5 r2 r3 gF gFI gOI W) (hb : Below W.heap.size W W') : Aws w g1 gt gv gi g4 g5 r2 r3 gF gFI gOI W' :=
 ⟨h.pt.on hb, h.s.below hb h.s.here, h.v.below hb h.v.here, h.i.below hb h.i.here, h.h4.below hb h.h4.here, h.h5.below hb h.h5.here, h.q2.below hb h.q2.here, h.q3.below hb h.q3.here, h.o3.below hb h.o3.here, h.o4.below hb h.o4.here, h.o5.below hb h.o5.here, h.bel.trans (hb.mono h.bel.size)⟩
def pairC (x y : Val) (vi : Value) : Nat → List Value
 | 0 => valV x (.slice none 0 0) (.slice none 0 0) (.slice none 0 0)
 | _ => valV y (.slice none 0 0) vi (.slice none 0 0)
theorem pair_rd {W : World} {B g : Nat} {T : TypeId} {x y : Val} {vi : Value} (h : Has W g T (rowsV (pairC x y vi) 2).toArray) (hB : g < B) (hx : ValAt W B x (.slice none 0 0) (.slice none 0 0) (.slice none 0 0)) (hy : ValAt W B y (.slice none 0 0) vi (.slice none 0 0)) : RdVals W B (.slice (some ⟨g, 0, none⟩) 2 2) [x, y] := by
 refine ⟨pairC x y vi, row_hasP h hB (fun i hi => ?_), fun i hi => ?_⟩
 ·
  match i, hi with
  | 0, _ => rfl
  | 1, _ => rfl
 match i, hi with
 | 0, _ => exact hx.rd
 | 1, _ => exact hy.rd
theorem one_rd {W : World} {B g : Nat} {T : TypeId} {x : Val} (h : Has W g T (rowsV (pairC x x (.slice none 0 0)) 1).toArray) (hB : g < B) (hx : ValAt W B x (.slice none 0 0) (.slice none 0 0) (.slice none 0 0)) : RdVals W B (.slice (some ⟨g, 0, none⟩) 1 1) [x] := by
 refine ⟨pairC x x (.slice none 0 0), row_hasP h hB (fun i hi => ?_), fun i hi => ?_⟩
 ·
  match i, hi with
  | 0, _ => rfl
 match i, hi with
 | 0, _ => exact hx.rd
theorem none_at (W : World) (B : Nat) : ValAt W B noneV (.slice none 0 0) (.slice none 0 0) (.slice none 0 0) := leaf_at W B 9 false 0 [] 0 ⟨by simp [I64], by simp [I64], by simp [I64]⟩ (by simp)
theorem raw1_rd {W : World} {B g : Nat} {T : TypeId} {n : Int} (h : Has W g T #[.int .i64 n, .string ⟨#[]⟩]) (hB : g < B) : Rd W B 2 (.slice (some ⟨g, 0, none⟩) 1 1) 1 (rawsV [(n, [])]) := by
 refine ⟨rfl, some ⟨g, 0, none⟩, 1, rfl, Nat.le_refl _, .inr ⟨g, 0, rfl, hB, fun j u hu => ?_⟩⟩
 have h1 := h.cell j
 rw [Nat.zero_add, h1, List.getElem?_toArray]
 exact hu
section
variable {w : World} {g1 gt gv gi g4 g5 r2 r3 gF gFI gOI : Nat} {W : World}
theorem Aws.items (h : Aws w g1 gt gv gi g4 g5 r2 r3 gF gFI gOI W) : RdVals W W.heap.size (.slice (some ⟨gi, 0, none⟩) 2 2) [numV 5, noneV] := pair_rd h.i h.i.here (num_at _ _ 5 (by simp [I64])) (none_at _ _)
theorem Aws.vAt (h : Aws w g1 gt gv gi g4 g5 r2 r3 gF gFI gOI W) : ValAt W W.heap.size vV (.slice none 0 0) (.slice (some ⟨gi, 0, none⟩) 2 2) (.slice none 0 0) :=
 ⟨by simp [I64, vV, Val.kind, Val.num, Val.id], by simp [vV, Val.str], by simp [vV, Val.keys, Val.items, Val.rest], by simp [vV, Val.rest], rdvals_nil _ _, h.items, Rd.nil_ _ _ 2⟩
theorem Aws.twoAt (h : Aws w g1 gt gv gi g4 g5 r2 r3 gF gFI gOI W) : ValAt W W.heap.size twoV (.slice none 0 0) (.slice (some ⟨gi, 0, none⟩) 2 2) (.slice (some ⟨r2, 0, none⟩) 1 1) :=
 ⟨by simp [I64, twoV, Val.kind, Val.num, Val.id], by simp [twoV, Val.str], by simp [twoV, Val.keys, Val.items, Val.rest], by simp [twoV, Val.rest, RawIn, I64], rdvals_nil _ _, h.items, raw1_rd h.q2 h.q2.here⟩
theorem Aws.threeAt (h : Aws w g1 gt gv gi g4 g5 r2 r3 gF gFI gOI W) : ValAt W W.heap.size threeV (.slice none 0 0) (.slice (some ⟨gi, 0, none⟩) 2 2) (.slice (some ⟨r3, 0, none⟩) 1 1) :=
 ⟨by simp [I64, threeV, Val.kind, Val.num, Val.id], by simp [threeV, Val.str], by simp [threeV, Val.keys, Val.items, Val.rest], by simp [threeV, Val.rest, RawIn, I64], rdvals_nil _ _, h.items, raw1_rd h.q3 h.q3.here⟩
theorem Aws.fullAt (h : Aws w g1 gt gv gi g4 g5 r2 r3 gF gFI gOI W) : ValAt W W.heap.size fullV (.slice none 0 0) (.slice (some ⟨gFI, 0, none⟩) 2 2) (.slice none 0 0) :=
 ⟨by simp [I64, fullV, Val.kind, Val.num, Val.id], by simp [fullV, Val.str], by simp [fullV, Val.keys, Val.items, Val.rest], by simp [fullV, Val.rest], rdvals_nil _ _,
  pair_rd h.o4 h.o4.here (num_at _ _ 5 (by simp [I64])) ⟨by simp [I64, Val.kind, Val.num, Val.id], by simp [Val.str], by simp [Val.keys, Val.items, Val.rest], by simp [Val.rest], rdvals_nil _ _, one_rd h.o3 h.o3.here (num_at _ _ 7 (by simp [I64])), Rd.nil_ _ _ 2⟩, Rd.nil_ _ _ 2⟩
end
theorem path_rd {W : World} : Rd (W.alloc (.cells #[.int .i64 3, .int .i64 0] 3)) (W.alloc (.cells #[.int .i64 3, .int .i64 0] 3)).heap.size 1 (.slice (some ⟨W.heap.size, 0, none⟩) 2 2) 2 ([3, 0].map (Value.int .i64)) := by
 refine ⟨rfl, some ⟨W.heap.size, 0, none⟩, 2, rfl, Nat.le_refl _, .inr ⟨W.heap.size, 0, rfl, by simp, fun j u hu => ?_⟩⟩
 have h1 := (Has.made W 3 #[.int .i64 3, .int .i64 0]).cell j
 rw [Nat.zero_add, h1, List.getElem?_toArray]
 exact hu
theorem wt_vs : wt vV ≤ 5000 ∧ wt fullV ≤ 5000 := by decide +kernel
set_option maxRecDepth 100000 in
theorem awake_any (w : World) : Calls Try.prog 6 #[] w fun e w' => e = .returned (.bool true) ∧ Below w.heap.size w w' := by
 go_enter Try.func6, Try.ntmps6
 go_wp2_with fail
 refine (point_any _).mono ?_
 rintro e w1 ⟨gt, rfl, hpt, hb1⟩
 have hpt1 := Lib.hid hpt
 clear hpt
 go_upto_region 2 with fail
 generalize hg : (w1.alloc _).alloc _ = w2
 have h12 : Below w1.heap.size w1 w2 := by
  rw [← hg]
  exact ((Below.refl _ _).alloc (Nat.le_refl _) _).alloc (by simp) _
 have hs2 : Has w2 w1.heap.size 30 #[.slice (some ⟨gt, 0, none⟩) 3 3] := by
  rw [← hg]; exact (Has.made _ _ _).alloc _
 have hn2 : Has w2 (w1.heap.size + 1) 34 #[.int .i64 9, .bool false, .int .i64 0, .string ⟨#[]⟩, .int .i64 0, .slice none 0 0, .slice none 0 0, .slice none 0 0] := by
  rw [← hg, ← alloc_hs' w1 (.cells #[.slice (some ⟨gt, 0, none⟩) 3 3] 30)]; exact Has.made _ _ _
 clear hg
 have h02 := hb1.trans (h12.mono hb1.size)
 have hP2 := Lib.hid (hpt1.out.on h12)
 obtain ⟨n0, n1, n2, n3, n4, n5, n6, n7⟩ := hn2.c8
 have hz2 := hn2.here
 have Hs2 := Lib.hid hs2
 have Hn2 := Lib.hid hn2
 clear h12 hs2 hn2 hb1 hpt1
 go_cut [3] (fun s3 wx => ∃ gv gi : Nat, s3 = .pointer (some ⟨gv, 0, none⟩) ∧ Has wx gv 34 #[.int .i64 5, .bool false, .int .i64 0, .string ⟨#[]⟩, .int .i64 0, .slice none 0 0, .slice (some ⟨gi, 0, none⟩) 2 2, .slice none 0 0] ∧ Has wx gi 34 #[.int .i64 2, .bool false, .int .i64 5, .string ⟨#[]⟩, .int .i64 0, .slice none 0 0, .slice none 0 0, .slice none 0 0, .int .i64 9, .bool false, .int .i64 0, .string ⟨#[]⟩, .int .i64 0, .slice none 0 0, .slice none 0 0, .slice none 0 0] ∧ Below w2.heap.size w2 wx)
 case first =>
  go_region_held3 (fun w' => w'.cell? ⟨w1.heap.size + 1, 0, none⟩ = some (.int .i64 9) ∧ w'.cell? ⟨w1.heap.size + 1, 1, none⟩ = some (.bool false) ∧ w'.cell? ⟨w1.heap.size + 1, 2, none⟩ = some (.int .i64 0) ∧ w'.cell? ⟨w1.heap.size + 1, 3, none⟩ = some (.string ⟨#[]⟩) ∧ w'.cell? ⟨w1.heap.size + 1, 4, none⟩ = some (.int .i64 0) ∧ w'.cell? ⟨w1.heap.size + 1, 5, none⟩ = some (.slice none 0 0) ∧ w'.cell? ⟨w1.heap.size + 1, 6, none⟩ = some (.slice none 0 0) ∧ w'.cell? ⟨w1.heap.size + 1, 7, none⟩ = some (.slice none 0 0)) (first | (go_keep; done) | exact ⟨a3 hz2 n0, a3 hz2 n1, a3 hz2 n2, a3 hz2 n3, a3 hz2 n4, a3 hz2 n5, a3 hz2 n6, a3 hz2 n7⟩)
   (first | (go_at_call 20; (with_reducible refine (num_ex _ _).mono ?_); rintro e w3 ⟨rfl, rfl⟩))
  all_goals
   go_wp2_with fail
   go_meet
   first
    | exact ⟨_, _, rfl, h3_2, h3_1, h3b⟩
    | exact ⟨_, _, rfl, h3_1, h3_2, h3b⟩
    | exact ⟨_, _, rfl, h3_0, h3_2, h3b⟩
 case rest =>
  obtain ⟨gv, gi, rfl, hv, hi, hb⟩ := hcut
  obtain ⟨wa, rfl⟩ : ∃ wa : World, wa = wc := ⟨_, rfl⟩
  have h03 := h02.trans (hb.mono h02.size)
  have hz3 := hb.size
  have hP3 := Lib.hid (hP2.out.on hb)
  have Hs3 := Lib.hid (Hs2.out.below hb (by omega))
  obtain ⟨v0, v1, v2, v3, v4, v5, v6, v7⟩ := hv.c8
  have hzv := hv.here
  have Hv := Lib.hid hv
  have Hi := Lib.hid hi
  clear hv hi hb hP2 Hs2 Hn2 n0 n1 n2 n3 n4 n5 n6 n7 h02
  go_upto_region 3 with fail
  go_cut [4, 5] (fun s4 s5 wx => ∃ g4 g5 : Nat, s4 = .pointer (some ⟨g4, 0, none⟩) ∧ s5 = .pointer (some ⟨g5, 0, none⟩) ∧ g4 ≠ g5 ∧ wa.heap.size ≤ g4 ∧ wa.heap.size ≤ g5 ∧ Has wx g4 34 #[.int .i64 5, .bool false, .int .i64 0, .string ⟨#[]⟩, .int .i64 0, .slice none 0 0, .slice (some ⟨gi, 0, none⟩) 2 2, .slice none 0 0] ∧ Has wx g5 34 #[.int .i64 5, .bool false, .int .i64 0, .string ⟨#[]⟩, .int .i64 0, .slice none 0 0, .slice (some ⟨gi, 0, none⟩) 2 2, .slice none 0 0] ∧ Below wa.heap.size wa wx)
  case first =>
   go_region
   all_goals
    go_wp2_with fail
    go_meet
    first
     | exact ⟨_, _, rfl, rfl, by omega, by omega, by omega, h2_0, h2_1, h2b⟩
     | exact ⟨_, _, rfl, rfl, by omega, by omega, by omega, h2_1, h2_0, h2b⟩
  case rest =>
   obtain ⟨g4, g5, rfl, rfl, hne, hg4, hg5, h4, h5, hb⟩ := hcut
   have h04b := hb
   have hzs : w1.heap.size < wa.heap.size := by omega
   have hzi := Hi.out.here
   have hsb := hb.size
   have c47 := h4.cell 7
   have f47 := h4.free 7
   have c57 := h5.cell 7
   have f57 := h5.free 7
   have hz4 := h4.here
   have hz5 := h5.here
   simp only [gl3] at c47 c57
   have H4 := Lib.hid h4
   have H5 := Lib.hid h5
   clear hb h4 h5 v0 v1 v2 v3 v4 v5 v6 v7
   go_upto_region 5 with fail
   have k4 := (((H4.out.set 7 (.slice (some ⟨wc.heap.size, 0, none⟩) 1 1)).far (p := ⟨g5, 7, none⟩) hne (.slice (some ⟨wc.heap.size + 1, 0, none⟩) 1 1)).alloc (.cells #[.int .i64 2, .string ⟨#[]⟩] 56)).alloc (.cells #[.int .i64 3, .string ⟨#[]⟩] 56)
   have k5 := (((H5.out.far (p := ⟨g4, 7, none⟩) (Ne.symm hne) (.slice (some ⟨wc.heap.size, 0, none⟩) 1 1)).set 7 (.slice (some ⟨wc.heap.size + 1, 0, none⟩) 1 1)).alloc (.cells #[.int .i64 2, .string ⟨#[]⟩] 56)).alloc (.cells #[.int .i64 3, .string ⟨#[]⟩] 56)
   have r2 := (Has.made ((wc.setCell ⟨g4, 7, none⟩ (.slice (some ⟨wc.heap.size, 0, none⟩) 1 1)).setCell ⟨g5, 7, none⟩ (.slice (some ⟨wc.heap.size + 1, 0, none⟩) 1 1)) 56 #[.int .i64 2, .string ⟨#[]⟩]).alloc (.cells #[.int .i64 3, .string ⟨#[]⟩] 56)
   have r3 := Has.made (((wc.setCell ⟨g4, 7, none⟩ (.slice (some ⟨wc.heap.size, 0, none⟩) 1 1)).setCell ⟨g5, 7, none⟩ (.slice (some ⟨wc.heap.size + 1, 0, none⟩) 1 1)).alloc (.cells #[.int .i64 2, .string ⟨#[]⟩] 56)) 56 #[.int .i64 3, .string ⟨#[]⟩]
   have hsc : ((wc.setCell ⟨g4, 7, none⟩ (.slice (some ⟨wc.heap.size, 0, none⟩) 1 1)).setCell ⟨g5, 7, none⟩ (.slice (some ⟨wc.heap.size + 1, 0, none⟩) 1 1)).heap.size = wc.heap.size := by simp
   rw [hsc] at r2
   rw [alloc_hs', hsc] at r3
   have hbd : Below wa.heap.size wa ((((wc.setCell ⟨g4, 7, none⟩ (.slice (some ⟨wc.heap.size, 0, none⟩) 1 1)).setCell ⟨g5, 7, none⟩ (.slice (some ⟨wc.heap.size + 1, 0, none⟩) 1 1)).alloc (.cells #[.int .i64 2, .string ⟨#[]⟩] 56)).alloc (.cells #[.int .i64 3, .string ⟨#[]⟩] 56)) := ((((h04b.setCell (show wa.heap.size ≤ (⟨g4, 7, none⟩ : Addr).block from hg4) _).setCell (show wa.heap.size ≤ (⟨g5, 7, none⟩ : Addr).block from hg5) _).alloc (by simp; omega) _).alloc (by simp; omega) _)
   have hzd : wc.heap.size + 1 < ((((wc.setCell ⟨g4, 7, none⟩ (.slice (some ⟨wc.heap.size, 0, none⟩) 1 1)).setCell ⟨g5, 7, none⟩ (.slice (some ⟨wc.heap.size + 1, 0, none⟩) 1 1)).alloc (.cells #[.int .i64 2, .string ⟨#[]⟩] 56)).alloc (.cells #[.int .i64 3, .string ⟨#[]⟩] 56)).heap.size := by simp
   clear hsc
   generalize (((wc.setCell ⟨g4, 7, none⟩ (.slice (some ⟨wc.heap.size, 0, none⟩) 1 1)).setCell ⟨g5, 7, none⟩ (.slice (some ⟨wc.heap.size + 1, 0, none⟩) 1 1)).alloc (.cells #[.int .i64 2, .string ⟨#[]⟩] 56)).alloc (.cells #[.int .i64 3, .string ⟨#[]⟩] 56) = wd at *
   have h0d := h03.trans (hbd.mono h03.size)
   have hPd := Lib.hid (hP3.out.on hbd)
   have Hsd := Lib.hid (Hs3.out.below hbd hzs)
   have Hvd := Lib.hid (Hv.out.below hbd hzv)
   have Hid_ := Lib.hid (Hi.out.below hbd hzi)
   have H4d := Lib.hid k4
   have H5d := Lib.hid k5
   have Hr2 := Lib.hid r2
   have Hr3 := Lib.hid r3
   have s0 := Hsd.out.cell 0
   simp only [gl3] at s0
   clear k4 k5 r2 r3 hbd H4 H5 c47 c57 f47 f57 hP3 Hs3 Hv Hi h03 h04b
   go_upto_region 6 with (first | (go_at_call 20; (with_reducible refine (num_ex _ _).mono ?_); rintro e w3 ⟨rfl, rfl⟩))
   have o3 := ((Has.made ((wd.alloc (.cells #[.int .i64 2, .bool false, .int .i64 5, .string ⟨#[]⟩, .int .i64 0, .slice none 0 0, .slice none 0 0, .slice none 0 0] 34)).alloc (.cells #[.int .i64 2, .bool false, .int .i64 7, .string ⟨#[]⟩, .int .i64 0, .slice none 0 0, .slice none 0 0, .slice none 0 0] 34)) 34 #[.int .i64 2, .bool false, .int .i64 7, .string ⟨#[]⟩, .int .i64 0, .slice none 0 0, .slice none 0 0, .slice none 0 0]).alloc (.cells #[.int .i64 2, .bool false, .int .i64 5, .string ⟨#[]⟩, .int .i64 0, .slice none 0 0, .slice none 0 0, .slice none 0 0, .int .i64 9, .bool false, .int .i64 0, .string ⟨#[]⟩, .int .i64 0, .slice none 0 0, .slice (some ⟨wd.heap.size + 1 + 1, 0, none⟩) 1 1, .slice none 0 0] 34)).alloc (.cells #[.int .i64 5, .bool false, .int .i64 0, .string ⟨#[]⟩, .int .i64 0, .slice none 0 0, .slice (some ⟨wd.heap.size + 1 + 1 + 1, 0, none⟩) 2 2, .slice none 0 0] 34)
   have o4 := (Has.made (((wd.alloc (.cells #[.int .i64 2, .bool false, .int .i64 5, .string ⟨#[]⟩, .int .i64 0, .slice none 0 0, .slice none 0 0, .slice none 0 0] 34)).alloc (.cells #[.int .i64 2, .bool false, .int .i64 7, .string ⟨#[]⟩, .int .i64 0, .slice none 0 0, .slice none 0 0, .slice none 0 0] 34)).alloc (.cells #[.int .i64 2, .bool false, .int .i64 7, .string ⟨#[]⟩, .int .i64 0, .slice none 0 0, .slice none 0 0, .slice none 0 0] 34)) 34 #[.int .i64 2, .bool false, .int .i64 5, .string ⟨#[]⟩, .int .i64 0, .slice none 0 0, .slice none 0 0, .slice none 0 0, .int .i64 9, .bool false, .int .i64 0, .string ⟨#[]⟩, .int .i64 0, .slice none 0 0, .slice (some ⟨wd.heap.size + 1 + 1, 0, none⟩) 1 1, .slice none 0 0]).alloc (.cells #[.int .i64 5, .bool false, .int .i64 0, .string ⟨#[]⟩, .int .i64 0, .slice none 0 0, .slice (some ⟨wd.heap.size + 1 + 1 + 1, 0, none⟩) 2 2, .slice none 0 0] 34)
   have o5 := Has.made ((((wd.alloc (.cells #[.int .i64 2, .bool false, .int .i64 5, .string ⟨#[]⟩, .int .i64 0, .slice none 0 0, .slice none 0 0, .slice none 0 0] 34)).alloc (.cells #[.int .i64 2, .bool false, .int .i64 7, .string ⟨#[]⟩, .int .i64 0, .slice none 0 0, .slice none 0 0, .slice none 0 0] 34)).alloc (.cells #[.int .i64 2, .bool false, .int .i64 7, .string ⟨#[]⟩, .int .i64 0, .slice none 0 0, .slice none 0 0, .slice none 0 0] 34)).alloc (.cells #[.int .i64 2, .bool false, .int .i64 5, .string ⟨#[]⟩, .int .i64 0, .slice none 0 0, .slice none 0 0, .slice none 0 0, .int .i64 9, .bool false, .int .i64 0, .string ⟨#[]⟩, .int .i64 0, .slice none 0 0, .slice (some ⟨wd.heap.size + 1 + 1, 0, none⟩) 1 1, .slice none 0 0] 34)) 34 #[.int .i64 5, .bool false, .int .i64 0, .string ⟨#[]⟩, .int .i64 0, .slice none 0 0, .slice (some ⟨wd.heap.size + 1 + 1 + 1, 0, none⟩) 2 2, .slice none 0 0]
   rw [alloc_hs', alloc_hs'] at o3
   rw [alloc_hs', alloc_hs', alloc_hs'] at o4
   rw [alloc_hs', alloc_hs', alloc_hs', alloc_hs'] at o5
   have hbe : Below wd.heap.size wd (((((wd.alloc (.cells #[.int .i64 2, .bool false, .int .i64 5, .string ⟨#[]⟩, .int .i64 0, .slice none 0 0, .slice none 0 0, .slice none 0 0] 34)).alloc (.cells #[.int .i64 2, .bool false, .int .i64 7, .string ⟨#[]⟩, .int .i64 0, .slice none 0 0, .slice none 0 0, .slice none 0 0] 34)).alloc (.cells #[.int .i64 2, .bool false, .int .i64 7, .string ⟨#[]⟩, .int .i64 0, .slice none 0 0, .slice none 0 0, .slice none 0 0] 34)).alloc (.cells #[.int .i64 2, .bool false, .int .i64 5, .string ⟨#[]⟩, .int .i64 0, .slice none 0 0, .slice none 0 0, .slice none 0 0, .int .i64 9, .bool false, .int .i64 0, .string ⟨#[]⟩, .int .i64 0, .slice none 0 0, .slice (some ⟨wd.heap.size + 1 + 1, 0, none⟩) 1 1, .slice none 0 0] 34)).alloc (.cells #[.int .i64 5, .bool false, .int .i64 0, .string ⟨#[]⟩, .int .i64 0, .slice none 0 0, .slice (some ⟨wd.heap.size + 1 + 1 + 1, 0, none⟩) 2 2, .slice none 0 0] 34)) := (((((Below.refl wd.heap.size wd).alloc (Nat.le_refl _) _).alloc (by simp) _).alloc (by simp; omega) _).alloc (by simp; omega) _).alloc (by simp; omega) _
   clear s0
   generalize (((((wd.alloc (.cells #[.int .i64 2, .bool false, .int .i64 5, .string ⟨#[]⟩, .int .i64 0, .slice none 0 0, .slice none 0 0, .slice none 0 0] 34)).alloc (.cells #[.int .i64 2, .bool false, .int .i64 7, .string ⟨#[]⟩, .int .i64 0, .slice none 0 0, .slice none 0 0, .slice none 0 0] 34)).alloc (.cells #[.int .i64 2, .bool false, .int .i64 7, .string ⟨#[]⟩, .int .i64 0, .slice none 0 0, .slice none 0 0, .slice none 0 0] 34)).alloc (.cells #[.int .i64 2, .bool false, .int .i64 5, .string ⟨#[]⟩, .int .i64 0, .slice none 0 0, .slice none 0 0, .slice none 0 0, .int .i64 9, .bool false, .int .i64 0, .string ⟨#[]⟩, .int .i64 0, .slice none 0 0, .slice (some ⟨wd.heap.size + 1 + 1, 0, none⟩) 1 1, .slice none 0 0] 34)).alloc (.cells #[.int .i64 5, .bool false, .int .i64 0, .string ⟨#[]⟩, .int .i64 0, .slice none 0 0, .slice (some ⟨wd.heap.size + 1 + 1 + 1, 0, none⟩) 2 2, .slice none 0 0] 34)) = we at *
   have h0e := h0d.trans (hbe.mono h0d.size)
   have hPe := Lib.hid (hPd.out.on hbe)
   have Hse := Lib.hid (Hsd.out.below hbe Hsd.out.here)
   have Hve := Lib.hid (Hvd.out.below hbe Hvd.out.here)
   have Hie := Lib.hid (Hid_.out.below hbe Hid_.out.here)
   have H4e := Lib.hid (H4d.out.below hbe H4d.out.here)
   have H5e := Lib.hid (H5d.out.below hbe H5d.out.here)
   have Hr2e := Lib.hid (Hr2.out.below hbe Hr2.out.here)
   have Hr3e := Lib.hid (Hr3.out.below hbe Hr3.out.here)
   have hst : Aws w w1.heap.size gt gv gi g4 g5 wc.heap.size (wc.heap.size + 1) (wd.heap.size + 1 + 1 + 1 + 1) (wd.heap.size + 1 + 1 + 1) (wd.heap.size + 1 + 1) we :=
    ⟨hPe.out, Hse.out, Hve.out, Hie.out, H4e.out, H5e.out, Hr2e.out, Hr3e.out, o3, o4, o5, h0e⟩
   have ST := Lib.hid hst
   clear hst hPe Hse Hve Hie H4e H5e Hr2e Hr3e o3 o4 o5 h0e hbe hPd Hsd Hvd Hid_ H4d H5d Hr2 Hr3 h0d
   generalize wd.heap.size + 1 + 1 + 1 + 1 = gF at *
   generalize wd.heap.size + 1 + 1 + 1 = gFI at *
   generalize wd.heap.size + 1 + 1 = gOI at *
   generalize wc.heap.size + 1 = r3 at *
   generalize wc.heap.size = r2 at *
   generalize w1.heap.size = g1 at *
   clear hzd hz4 hz5 hsb hzi hzs hg4 hg5 hne hzv hz3 hz2
   have s0 := ST.out.s.cell 0
   simp only [gl3] at s0
   have zs := ST.out.s.here
   have zu := ST.out.o5.here
   have u0 := ST.out.o5.cell 0
   have u1 := ST.out.o5.cell 1
   have u2 := ST.out.o5.cell 2
   have u3 := ST.out.o5.cell 3
   have u4 := ST.out.o5.cell 4
   have u5 := ST.out.o5.cell 5
   have u6 := ST.out.o5.cell 6
   have u7 := ST.out.o5.cell 7
   simp only [gl3] at u0 u1 u2 u3 u4 u5 u6 u7
   go_wp2_with fail
   have hp := (Below.refl we.heap.size we).alloc (Nat.le_refl _) (.cells #[.int .i64 3, .int .i64 0] 3)
   refine (vat_any pointT (some ⟨gt, 0, none⟩) 3 0 fullV [3, 0] _ _ _ _ _ ptKinds wt_vs.2 (by simp) (by simp [I64]) (ST.out.on hp).pt (ST.out.on hp).fullAt path_rd).mono ?_
   rintro e w6 hpost
   rw [ex6] at hpost
   obtain ⟨⟨xk, xi, xr, rfl, hxa⟩, hb6⟩ := hpost
   obtain ⟨X1, e1, X2, e2, X3, e3, rfl, rfl, rfl, -, -, -⟩ := hxa.forms
   have ST := Lib.hid ((ST.out.on hp).on hb6)
   clear hp hb6 hxa s0 u0 u1 u2 u3 u4 u5 u6 u7
   rw [show valA (numV 7) (.slice X1 (numV 7).keys.length e1) (.slice X2 (numV 7).items.length e2) (.slice X3 (numV 7).rest.length e3) = .agg #[.int .i64 2, .bool false, .int .i64 7, .string ⟨#[]⟩, .int .i64 0, .slice X1 0 e1, .slice X2 0 e2, .slice X3 0 e3] from rfl]
   go_upto_region 7 with fail
   have hX := Has.made w6 34 #[.int .i64 2, .bool false, .int .i64 7, .string ⟨#[]⟩, .int .i64 0, .slice X1 0 e1, .slice X2 0 e2, .slice X3 0 e3]
   have h67 := (Below.refl w6.heap.size w6).alloc (Nat.le_refl _) (.cells #[.int .i64 2, .bool false, .int .i64 7, .string ⟨#[]⟩, .int .i64 0, .slice X1 0 e1, .slice X2 0 e2, .slice X3 0 e3] 34)
   have ST := Lib.hid (ST.out.on h67)
   clear h67
   generalize w6.alloc (.cells #[.int .i64 2, .bool false, .int .i64 7, .string ⟨#[]⟩, .int .i64 0, .slice X1 0 e1, .slice X2 0 e2, .slice X3 0 e3] 34) = w7 at *
   generalize w6.heap.size = gX at *
   have HX := Lib.hid hX
   clear hX
   have s0 := ST.out.s.cell 0
   simp only [gl3] at s0
   have zs := ST.out.s.here
   have zu := ST.out.v.here
   have u0 := ST.out.v.cell 0
   have u1 := ST.out.v.cell 1
   have u2 := ST.out.v.cell 2
   have u3 := ST.out.v.cell 3
   have u4 := ST.out.v.cell 4
   have u5 := ST.out.v.cell 5
   have u6 := ST.out.v.cell 6
   have u7 := ST.out.v.cell 7
   simp only [gl3] at u0 u1 u2 u3 u4 u5 u6 u7
   go_wp2_with fail
   have hp := (Below.refl w7.heap.size w7).alloc (Nat.le_refl _) (.cells #[.int .i64 3, .int .i64 0] 3)
   refine (vat_any pointT (some ⟨gt, 0, none⟩) 3 0 vV [3, 0] _ _ _ _ _ ptKinds wt_vs.1 (by simp) (by simp [I64]) (ST.out.on hp).pt (ST.out.on hp).vAt path_rd).mono ?_
   rintro e w8 hpost
   rw [ex7] at hpost
   obtain ⟨rfl, hb8⟩ := hpost
   have ST := Lib.hid ((ST.out.on hp).on hb8)
   have HX := Lib.hid ((HX.out.alloc (.cells #[.int .i64 3, .int .i64 0] 3)).below hb8 (Nat.lt_of_lt_of_le HX.out.here hp.size))
   clear hp hb8 s0 u0 u1 u2 u3 u4 u5 u6 u7
   go_upto_region 8 with fail
   have h89 := (Below.refl w8.heap.size w8).alloc (Nat.le_refl _) (.cells #[.int .i64 0, .bool false, .int .i64 0, .string ⟨#[]⟩, .int .i64 0, .slice none 0 0, .slice none 0 0, .slice none 0 0] 34)
   have ST := Lib.hid (ST.out.on h89)
   have HX := Lib.hid (HX.out.below h89 HX.out.here)
   clear h89
   generalize w8.alloc (.cells #[.int .i64 0, .bool false, .int .i64 0, .string ⟨#[]⟩, .int .i64 0, .slice none 0 0, .slice none 0 0, .slice none 0 0] 34) = w9 at *
   have s0 := ST.out.s.cell 0
   simp only [gl3] at s0
   have zs := ST.out.s.here
   have zu := ST.out.v.here
   have u0 := ST.out.v.cell 0
   have u1 := ST.out.v.cell 1
   have u2 := ST.out.v.cell 2
   have u3 := ST.out.v.cell 3
   have u4 := ST.out.v.cell 4
   have u5 := ST.out.v.cell 5
   have u6 := ST.out.v.cell 6
   have u7 := ST.out.v.cell 7
   simp only [gl3] at u0 u1 u2 u3 u4 u5 u6 u7
   go_wp2_with fail
   refine (vplain_any vV pointT (some ⟨gt, 0, none⟩) 3 0 _ _ _ _ ptKinds ST.out.pt ST.out.vAt).mono ?_
   rintro e wa1 ⟨rfl, hb⟩
   rw [ex1]
   have ST := Lib.hid (ST.out.on hb)
   have HX := Lib.hid (HX.out.below hb HX.out.here)
   clear hb s0 u0 u1 u2 u3 u4 u5 u6 u7
   have s0 := ST.out.s.cell 0
   simp only [gl3] at s0
   have zs := ST.out.s.here
   have zu := ST.out.h4.here
   have u0 := ST.out.h4.cell 0
   have u1 := ST.out.h4.cell 1
   have u2 := ST.out.h4.cell 2
   have u3 := ST.out.h4.cell 3
   have u4 := ST.out.h4.cell 4
   have u5 := ST.out.h4.cell 5
   have u6 := ST.out.h4.cell 6
   have u7 := ST.out.h4.cell 7
   simp only [gl3] at u0 u1 u2 u3 u4 u5 u6 u7
   go_wp2_with fail
   refine (vfits_any twoV pointT (some ⟨gt, 0, none⟩) 3 0 _ _ _ _ ptKinds ST.out.pt ST.out.twoAt).mono ?_
   rintro e wa2 ⟨rfl, hb⟩
   rw [ex2]
   have ST := Lib.hid (ST.out.on hb)
   have HX := Lib.hid (HX.out.below hb HX.out.here)
   clear hb s0 u0 u1 u2 u3 u4 u5 u6 u7
   have s0 := ST.out.s.cell 0
   simp only [gl3] at s0
   have zs := ST.out.s.here
   have zu := ST.out.h4.here
   have u0 := ST.out.h4.cell 0
   have u1 := ST.out.h4.cell 1
   have u2 := ST.out.h4.cell 2
   have u3 := ST.out.h4.cell 3
   have u4 := ST.out.h4.cell 4
   have u5 := ST.out.h4.cell 5
   have u6 := ST.out.h4.cell 6
   have u7 := ST.out.h4.cell 7
   simp only [gl3] at u0 u1 u2 u3 u4 u5 u6 u7
   go_wp2_with fail
   refine (vplain_any twoV pointT (some ⟨gt, 0, none⟩) 3 0 _ _ _ _ ptKinds ST.out.pt ST.out.twoAt).mono ?_
   rintro e wa3 ⟨rfl, hb⟩
   rw [ex3]
   have ST := Lib.hid (ST.out.on hb)
   have HX := Lib.hid (HX.out.below hb HX.out.here)
   clear hb s0 u0 u1 u2 u3 u4 u5 u6 u7
   have s0 := ST.out.s.cell 0
   simp only [gl3] at s0
   have zs := ST.out.s.here
   have zu := ST.out.h5.here
   have u0 := ST.out.h5.cell 0
   have u1 := ST.out.h5.cell 1
   have u2 := ST.out.h5.cell 2
   have u3 := ST.out.h5.cell 3
   have u4 := ST.out.h5.cell 4
   have u5 := ST.out.h5.cell 5
   have u6 := ST.out.h5.cell 6
   have u7 := ST.out.h5.cell 7
   simp only [gl3] at u0 u1 u2 u3 u4 u5 u6 u7
   go_wp2_with fail
   refine (vfits_any threeV pointT (some ⟨gt, 0, none⟩) 3 0 _ _ _ _ ptKinds ST.out.pt ST.out.threeAt).mono ?_
   rintro e wa4 ⟨rfl, hb⟩
   rw [ex4]
   have ST := Lib.hid (ST.out.on hb)
   have HX := Lib.hid (HX.out.below hb HX.out.here)
   clear hb s0 u0 u1 u2 u3 u4 u5 u6 u7
   have s0 := ST.out.s.cell 0
   simp only [gl3] at s0
   have zs := ST.out.s.here
   have zu := ST.out.v.here
   have u0 := ST.out.v.cell 0
   have u1 := ST.out.v.cell 1
   have u2 := ST.out.v.cell 2
   have u3 := ST.out.v.cell 3
   have u4 := ST.out.v.cell 4
   have u5 := ST.out.v.cell 5
   have u6 := ST.out.v.cell 6
   have u7 := ST.out.v.cell 7
   simp only [gl3] at u0 u1 u2 u3 u4 u5 u6 u7
   go_wp2_with fail
   refine (vdepth_any (nodes vV) vV _ _ _ _ (Nat.le_refl _) (by rw [ex5.2.2.1]; omega) ST.out.vAt).mono ?_
   rintro e wa5 ⟨rfl, hb⟩
   rw [ex5.1]
   have ST := Lib.hid (ST.out.on hb)
   have HX := Lib.hid (HX.out.below hb HX.out.here)
   clear hb s0 u0 u1 u2 u3 u4 u5 u6 u7
   have s0 := ST.out.s.cell 0
   simp only [gl3] at s0
   have zs := ST.out.s.here
   have zu := ST.out.o5.here
   have u0 := ST.out.o5.cell 0
   have u1 := ST.out.o5.cell 1
   have u2 := ST.out.o5.cell 2
   have u3 := ST.out.o5.cell 3
   have u4 := ST.out.o5.cell 4
   have u5 := ST.out.o5.cell 5
   have u6 := ST.out.o5.cell 6
   have u7 := ST.out.o5.cell 7
   simp only [gl3] at u0 u1 u2 u3 u4 u5 u6 u7
   go_wp2_with fail
   refine (vdepth_any (nodes fullV) fullV _ _ _ _ (Nat.le_refl _) (by rw [ex5.2.2.2]; omega) ST.out.fullAt).mono ?_
   rintro e wa6 ⟨rfl, hb⟩
   rw [ex5.2.1]
   have ST := Lib.hid (ST.out.on hb)
   have HX := Lib.hid (HX.out.below hb HX.out.here)
   clear hb s0 u0 u1 u2 u3 u4 u5 u6 u7
   have s0 := ST.out.s.cell 0
   simp only [gl3] at s0
   have zs := ST.out.s.here
   have zu := ST.out.v.here
   have u0 := ST.out.v.cell 0
   have u1 := ST.out.v.cell 1
   have u2 := ST.out.v.cell 2
   have u3 := ST.out.v.cell 3
   have u4 := ST.out.v.cell 4
   have u5 := ST.out.v.cell 5
   have u6 := ST.out.v.cell 6
   have u7 := ST.out.v.cell 7
   simp only [gl3] at u0 u1 u2 u3 u4 u5 u6 u7
   go_wp2_with fail
   refine (vnodes_any (nodes vV) vV _ _ _ _ (Nat.le_refl _) (by rw [ex5.2.2.1]; omega) ST.out.vAt).mono ?_
   rintro e wa7 ⟨rfl, hb⟩
   rw [ex5.2.2.1]
   have ST := Lib.hid (ST.out.on hb)
   have HX := Lib.hid (HX.out.below hb HX.out.here)
   clear hb s0 u0 u1 u2 u3 u4 u5 u6 u7
   have s0 := ST.out.s.cell 0
   simp only [gl3] at s0
   have zs := ST.out.s.here
   have zu := ST.out.o5.here
   have u0 := ST.out.o5.cell 0
   have u1 := ST.out.o5.cell 1
   have u2 := ST.out.o5.cell 2
   have u3 := ST.out.o5.cell 3
   have u4 := ST.out.o5.cell 4
   have u5 := ST.out.o5.cell 5
   have u6 := ST.out.o5.cell 6
   have u7 := ST.out.o5.cell 7
   simp only [gl3] at u0 u1 u2 u3 u4 u5 u6 u7
   go_wp2_with fail
   refine (vnodes_any (nodes fullV) fullV _ _ _ _ (Nat.le_refl _) (by rw [ex5.2.2.2]; omega) ST.out.fullAt).mono ?_
   rintro e wa8 ⟨rfl, hb⟩
   rw [ex5.2.2.2]
   have ST := Lib.hid (ST.out.on hb)
   have HX := Lib.hid (HX.out.below hb HX.out.here)
   clear hb s0 u0 u1 u2 u3 u4 u5 u6 u7
   have x2 := HX.out.cell 2
   simp only [gl3] at x2
   have h0 := ST.out.bel
   clear ST HX
   go_wp2_with fail
   refine (num_any (-1) _).mono ?_
   rintro e wb1 ⟨rfl, hb⟩
   have h0 := h0.trans (hb.mono h0.size)
   clear hb x2
   go_wp2_with fail
   refine (num_any 1 _).mono ?_
   rintro e wb2 ⟨rfl, hb⟩
   have h0 := h0.trans (hb.mono h0.size)
   clear hb
   go_wp2_with fail
   refine (vcompare_any (numV (-1)) (numV 1) _ _ _ _ _ _ _ (num_at _ _ (-1) (by simp [I64])) (num_at _ _ 1 (by simp [I64]))).mono ?_
   rintro e wb3 ⟨rfl, hb⟩
   rw [ex8]
   have h0 := h0.trans (hb.mono h0.size)
   clear hb
   go_wp2_with fail
   refine (num_any (-2) _).mono ?_
   rintro e wb4 ⟨rfl, hb⟩
   have h0 := h0.trans (hb.mono h0.size)
   clear hb
   go_wp2_with fail
   refine (num_any 1 _).mono ?_
   rintro e wb5 ⟨rfl, hb⟩
   have h0 := h0.trans (hb.mono h0.size)
   clear hb
   go_wp2_with fail
   refine (vcompare_any (numV (-2)) (numV 1) _ _ _ _ _ _ _ (num_at _ _ (-2) (by simp [I64])) (num_at _ _ 1 (by simp [I64]))).mono ?_
   rintro e wb6 ⟨rfl, hb⟩
   rw [ex9]
   have h0 := h0.trans (hb.mono h0.size)
   clear hb
   go_wp2_with fail
   refine (str_any [98] _).mono ?_
   rintro e wb7 ⟨rfl, hb⟩
   have h0 := h0.trans (hb.mono h0.size)
   clear hb
   go_wp2_with fail
   refine (str_any [97, 97] _).mono ?_
   rintro e wb8 ⟨rfl, hb⟩
   have h0 := h0.trans (hb.mono h0.size)
   clear hb
   go_wp2_with fail
   refine (vcompare_any (strV [98]) (strV [97, 97]) _ _ _ _ _ _ _ (str_at _ _ [98] (by simp)) (str_at _ _ [97, 97] (by simp))).mono ?_
   rintro e wb9 ⟨rfl, hb⟩
   rw [ex10]
   have h0 := h0.trans (hb.mono h0.size)
   clear hb
   go_wp2_with fail
   go_ret
   exact ⟨rfl, h0⟩
end Go.Proofs.Ytgeapglanckjpaa

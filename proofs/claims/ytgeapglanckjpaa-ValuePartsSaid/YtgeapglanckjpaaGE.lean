/- What bare and proper compute. What each and its closure compute, given what fits computes for the elements. What free and id compute. Which values fit a type: a plain function with fuel. The part at a path: a plain function; that each part fits its type. The example schema and example values of layer 8. No condition. -/
import Derived.Test.YtgeapglanckjpaaGC
import Derived.Test.YtgeapglanckjpaaGD
set_option maxHeartbeats 1600000
namespace Go.Proofs.Ytgeapglanckjpaa
open Go.ChangeShapes Go.WideShapes Go.ChangeAt Go.RowKit
def properB (x : Val) : Bool :=
 (decide (x.kind = 1) || !x.bool) && ((decide (x.kind = 2) || decide (x.num = 0)) && ((decide (x.kind = 3) || decide (x.str = [])) && ((decide (x.kind = 4 ∨ x.kind = 6) || decide (x.id = 0)) &&
  ((decide (x.kind = 8) || decide (x.keys.length = 0)) && ((decide (5 ≤ x.kind ∧ x.kind ≤ 9) || decide (x.items.length = 0)) && (decide (x.kind = 5 ∨ x.kind = 6) || decide (x.rest.length = 0)))))))
set_option maxRecDepth 100000 in
theorem bare1_any (x : Val) (A1 A2 A3 : Option Addr) (n1 n2 n3 : Nat) (w : World) (hk : x.kind = 1) :
  Calls Try.prog 72 #[valA x (.slice A1 x.keys.length n1) (.slice A2 x.items.length n2) (.slice A3 x.rest.length n3)] w fun e w' => e = .returned (.agg #[.int .i64 1, .bool x.bool, .int .i64 0, .string ⟨([] : List UInt8).toArray⟩, .int .i64 0, .slice none 0 0, .slice none 0 0, .slice none 0 0]) ∧ Below w.heap.size w w' := by
 have h3b := al3 w
 simp only [valA, hk]
 go_enter Try.func72, Try.ntmps72
 go_wp2_with fail
 skip
 refine bodyPost_ret (v := .agg #[.int .i64 1, .bool x.bool, .int .i64 0, .string ⟨([] : List UInt8).toArray⟩, .int .i64 0, .slice none 0 0, .slice none 0 0, .slice none 0 0]) (by simp [results, Try.results72, go_sem]) rfl ⟨rfl, ?_⟩
 first | exact h3b _ _ _ | exact (h3b _ _ _).drew
set_option maxRecDepth 100000 in
theorem bare2_any (x : Val) (A1 A2 A3 : Option Addr) (n1 n2 n3 : Nat) (w : World) (hk : x.kind = 2) :
  Calls Try.prog 72 #[valA x (.slice A1 x.keys.length n1) (.slice A2 x.items.length n2) (.slice A3 x.rest.length n3)] w fun e w' => e = .returned (.agg #[.int .i64 2, .bool false, .int .i64 x.num, .string ⟨([] : List UInt8).toArray⟩, .int .i64 0, .slice none 0 0, .slice none 0 0, .slice none 0 0]) ∧ Below w.heap.size w w' := by
 have h3b := al3 w
 simp only [valA, hk]
 go_enter Try.func72, Try.ntmps72
 go_wp2_with fail
 skip
 refine bodyPost_ret (v := .agg #[.int .i64 2, .bool false, .int .i64 x.num, .string ⟨([] : List UInt8).toArray⟩, .int .i64 0, .slice none 0 0, .slice none 0 0, .slice none 0 0]) (by simp [results, Try.results72, go_sem]) rfl ⟨rfl, ?_⟩
 first | exact h3b _ _ _ | exact (h3b _ _ _).drew
set_option maxRecDepth 100000 in
theorem bare3_any (x : Val) (A1 A2 A3 : Option Addr) (n1 n2 n3 : Nat) (w : World) (hk : x.kind = 3) :
  Calls Try.prog 72 #[valA x (.slice A1 x.keys.length n1) (.slice A2 x.items.length n2) (.slice A3 x.rest.length n3)] w fun e w' => e = .returned (.agg #[.int .i64 3, .bool false, .int .i64 0, .string ⟨(x.str : List UInt8).toArray⟩, .int .i64 0, .slice none 0 0, .slice none 0 0, .slice none 0 0]) ∧ Below w.heap.size w w' := by
 have h3b := al3 w
 simp only [valA, hk]
 go_enter Try.func72, Try.ntmps72
 go_wp2_with fail
 skip
 refine bodyPost_ret (v := .agg #[.int .i64 3, .bool false, .int .i64 0, .string ⟨(x.str : List UInt8).toArray⟩, .int .i64 0, .slice none 0 0, .slice none 0 0, .slice none 0 0]) (by simp [results, Try.results72, go_sem]) rfl ⟨rfl, ?_⟩
 first | exact h3b _ _ _ | exact (h3b _ _ _).drew
set_option maxRecDepth 100000 in
theorem bare4_any (x : Val) (A1 A2 A3 : Option Addr) (n1 n2 n3 : Nat) (w : World) (hk : x.kind = 4) :
  Calls Try.prog 72 #[valA x (.slice A1 x.keys.length n1) (.slice A2 x.items.length n2) (.slice A3 x.rest.length n3)] w fun e w' => e = .returned (.agg #[.int .i64 4, .bool false, .int .i64 0, .string ⟨([] : List UInt8).toArray⟩, .int .i64 x.id, .slice none 0 0, .slice none 0 0, .slice none 0 0]) ∧ Below w.heap.size w w' := by
 have h3b := al3 w
 simp only [valA, hk]
 go_enter Try.func72, Try.ntmps72
 go_wp2_with fail
 skip
 refine bodyPost_ret (v := .agg #[.int .i64 4, .bool false, .int .i64 0, .string ⟨([] : List UInt8).toArray⟩, .int .i64 x.id, .slice none 0 0, .slice none 0 0, .slice none 0 0]) (by simp [results, Try.results72, go_sem]) rfl ⟨rfl, ?_⟩
 first | exact h3b _ _ _ | exact (h3b _ _ _).drew
set_option maxRecDepth 100000 in
theorem bare5_any (x : Val) (A1 A2 A3 : Option Addr) (n1 n2 n3 : Nat) (w : World) (hk : x.kind = 5) :
  Calls Try.prog 72 #[valA x (.slice A1 x.keys.length n1) (.slice A2 x.items.length n2) (.slice A3 x.rest.length n3)] w fun e w' => e = .returned (.agg #[.int .i64 5, .bool false, .int .i64 0, .string ⟨([] : List UInt8).toArray⟩, .int .i64 0, .slice none 0 0, .slice A2 x.items.length n2, .slice A3 x.rest.length n3]) ∧ Below w.heap.size w w' := by
 have h3b := al3 w
 simp only [valA, hk]
 go_enter Try.func72, Try.ntmps72
 go_wp2_with fail
 (go_region; go_wp2_with fail)
 refine bodyPost_ret (v := .agg #[.int .i64 5, .bool false, .int .i64 0, .string ⟨([] : List UInt8).toArray⟩, .int .i64 0, .slice none 0 0, .slice A2 x.items.length n2, .slice A3 x.rest.length n3]) (by simp [results, Try.results72, go_sem]) rfl ⟨rfl, ?_⟩
 first | exact h3b _ _ _ | exact (h3b _ _ _).drew
set_option maxRecDepth 100000 in
theorem bare6_any (x : Val) (A1 A2 A3 : Option Addr) (n1 n2 n3 : Nat) (w : World) (hk : x.kind = 6) :
  Calls Try.prog 72 #[valA x (.slice A1 x.keys.length n1) (.slice A2 x.items.length n2) (.slice A3 x.rest.length n3)] w fun e w' => e = .returned (.agg #[.int .i64 6, .bool false, .int .i64 0, .string ⟨([] : List UInt8).toArray⟩, .int .i64 x.id, .slice none 0 0, .slice A2 x.items.length n2, .slice A3 x.rest.length n3]) ∧ Below w.heap.size w w' := by
 have h3b := al3 w
 simp only [valA, hk]
 go_enter Try.func72, Try.ntmps72
 go_wp2_with fail
 (go_region; go_wp2_with fail)
 refine bodyPost_ret (v := .agg #[.int .i64 6, .bool false, .int .i64 0, .string ⟨([] : List UInt8).toArray⟩, .int .i64 x.id, .slice none 0 0, .slice A2 x.items.length n2, .slice A3 x.rest.length n3]) (by simp [results, Try.results72, go_sem]) rfl ⟨rfl, ?_⟩
 first | exact h3b _ _ _ | exact (h3b _ _ _).drew
set_option maxRecDepth 100000 in
theorem bare7_any (x : Val) (A1 A2 A3 : Option Addr) (n1 n2 n3 : Nat) (w : World) (hk : x.kind = 7) :
  Calls Try.prog 72 #[valA x (.slice A1 x.keys.length n1) (.slice A2 x.items.length n2) (.slice A3 x.rest.length n3)] w fun e w' => e = .returned (.agg #[.int .i64 7, .bool false, .int .i64 0, .string ⟨([] : List UInt8).toArray⟩, .int .i64 0, .slice none 0 0, .slice A2 x.items.length n2, .slice none 0 0]) ∧ Below w.heap.size w w' := by
 have h3b := al3 w
 simp only [valA, hk]
 go_enter Try.func72, Try.ntmps72
 go_wp2_with fail
 skip
 refine bodyPost_ret (v := .agg #[.int .i64 7, .bool false, .int .i64 0, .string ⟨([] : List UInt8).toArray⟩, .int .i64 0, .slice none 0 0, .slice A2 x.items.length n2, .slice none 0 0]) (by simp [results, Try.results72, go_sem]) rfl ⟨rfl, ?_⟩
 first | exact h3b _ _ _ | exact (h3b _ _ _).drew
set_option maxRecDepth 100000 in
theorem bare8_any (x : Val) (A1 A2 A3 : Option Addr) (n1 n2 n3 : Nat) (w : World) (hk : x.kind = 8) :
  Calls Try.prog 72 #[valA x (.slice A1 x.keys.length n1) (.slice A2 x.items.length n2) (.slice A3 x.rest.length n3)] w fun e w' => e = .returned (.agg #[.int .i64 8, .bool false, .int .i64 0, .string ⟨([] : List UInt8).toArray⟩, .int .i64 0, .slice A1 x.keys.length n1, .slice A2 x.items.length n2, .slice none 0 0]) ∧ Below w.heap.size w w' := by
 have h3b := al3 w
 simp only [valA, hk]
 go_enter Try.func72, Try.ntmps72
 go_wp2_with fail
 (go_region; go_wp2_with fail)
 refine bodyPost_ret (v := .agg #[.int .i64 8, .bool false, .int .i64 0, .string ⟨([] : List UInt8).toArray⟩, .int .i64 0, .slice A1 x.keys.length n1, .slice A2 x.items.length n2, .slice none 0 0]) (by simp [results, Try.results72, go_sem]) rfl ⟨rfl, ?_⟩
 first | exact h3b _ _ _ | exact (h3b _ _ _).drew
set_option maxRecDepth 100000 in
theorem bare9_any (x : Val) (A1 A2 A3 : Option Addr) (n1 n2 n3 : Nat) (w : World) (hk : x.kind = 9) :
  Calls Try.prog 72 #[valA x (.slice A1 x.keys.length n1) (.slice A2 x.items.length n2) (.slice A3 x.rest.length n3)] w fun e w' => e = .returned (.agg #[.int .i64 9, .bool false, .int .i64 0, .string ⟨([] : List UInt8).toArray⟩, .int .i64 0, .slice none 0 0, .slice A2 x.items.length n2, .slice none 0 0]) ∧ Below w.heap.size w w' := by
 have h3b := al3 w
 simp only [valA, hk]
 go_enter Try.func72, Try.ntmps72
 go_wp2_with fail
 skip
 refine bodyPost_ret (v := .agg #[.int .i64 9, .bool false, .int .i64 0, .string ⟨([] : List UInt8).toArray⟩, .int .i64 0, .slice none 0 0, .slice A2 x.items.length n2, .slice none 0 0]) (by simp [results, Try.results72, go_sem]) rfl ⟨rfl, ?_⟩
 first | exact h3b _ _ _ | exact (h3b _ _ _).drew
set_option maxRecDepth 100000 in
theorem proper1_any (x : Val) (A1 A2 A3 : Option Addr) (n1 n2 n3 : Nat) (w : World) (hk : x.kind = 1) :
  Calls Try.prog 46 #[valA x (.slice A1 x.keys.length n1) (.slice A2 x.items.length n2) (.slice A3 x.rest.length n3)] w fun e w' => e = .returned (.bool (properB x)) ∧ Below w.heap.size w w' := by
 have hb := fun W => bare1_any x A1 A2 A3 n1 n2 n3 W hk
 have HB := Lib.hid hb
 have HK := Lib.hid hk
 have h01 := (Below.refl w.heap.size w).alloc (Nat.le_refl _) (.cells #[.int .i64 1, .bool x.bool, .int .i64 x.num, .string ⟨x.str.toArray⟩, .int .i64 x.id, .slice A1 x.keys.length n1, .slice A2 x.items.length n2, .slice A3 x.rest.length n3] 34)
 have HP := Has.made w 34 #[.int .i64 1, .bool x.bool, .int .i64 x.num, .string ⟨x.str.toArray⟩, .int .i64 x.id, .slice A1 x.keys.length n1, .slice A2 x.items.length n2, .slice A3 x.rest.length n3]
 simp only [valA, hk] at HB ⊢
 obtain ⟨pb, hpb⟩ : ∃ pb, properB x = pb := ⟨_, rfl⟩
 rw [hpb]
 have Hpb := Lib.hid hpb
 clear hb hk hpb
 go_enter Try.func46, Try.ntmps46
 go_wp2_with fail
 refine (HB.out _).mono ?_
 rintro e w2 ⟨rfl, hb2⟩
 have h02 := (h01.trans (hb2.mono h01.size)).alloc (h01.trans (hb2.mono h01.size)).size (.cells #[.int .i64 1, .bool x.bool, .int .i64 0, .string ⟨([] : List UInt8).toArray⟩, .int .i64 0, .slice none 0 0, .slice none 0 0, .slice none 0 0] 34)
 have HP2 := HP.below hb2 (by simp)
 have c1 := HP2.cell 1
 have c2 := HP2.cell 2
 have c3 := HP2.cell 3
 have c4 := HP2.cell 4
 have c5 := HP2.cell 5
 have c6 := HP2.cell 6
 have c7 := HP2.cell 7
 have hz2 := HP2.here
 simp only [gl3] at c1 c2 c3 c4 c5 c6 c7
 clear HP HP2 hb2 h01 HB
 go_wp2_with fail
 all_goals go_ret
 all_goals refine ⟨ret_bool ?_, h02⟩
 all_goals rw [← Hpb.out]
 all_goals first | (simp [properB, HK.out, *]; done) | (simp [properB, HK.out, *]; cases x.rest with | nil => simp | cons a r => (simp; omega))
set_option maxRecDepth 100000 in
theorem proper2_any (x : Val) (A1 A2 A3 : Option Addr) (n1 n2 n3 : Nat) (w : World) (hk : x.kind = 2) :
  Calls Try.prog 46 #[valA x (.slice A1 x.keys.length n1) (.slice A2 x.items.length n2) (.slice A3 x.rest.length n3)] w fun e w' => e = .returned (.bool (properB x)) ∧ Below w.heap.size w w' := by
 have hb := fun W => bare2_any x A1 A2 A3 n1 n2 n3 W hk
 have HB := Lib.hid hb
 have HK := Lib.hid hk
 have h01 := (Below.refl w.heap.size w).alloc (Nat.le_refl _) (.cells #[.int .i64 2, .bool x.bool, .int .i64 x.num, .string ⟨x.str.toArray⟩, .int .i64 x.id, .slice A1 x.keys.length n1, .slice A2 x.items.length n2, .slice A3 x.rest.length n3] 34)
 have HP := Has.made w 34 #[.int .i64 2, .bool x.bool, .int .i64 x.num, .string ⟨x.str.toArray⟩, .int .i64 x.id, .slice A1 x.keys.length n1, .slice A2 x.items.length n2, .slice A3 x.rest.length n3]
 simp only [valA, hk] at HB ⊢
 obtain ⟨pb, hpb⟩ : ∃ pb, properB x = pb := ⟨_, rfl⟩
 rw [hpb]
 have Hpb := Lib.hid hpb
 clear hb hk hpb
 go_enter Try.func46, Try.ntmps46
 go_wp2_with fail
 refine (HB.out _).mono ?_
 rintro e w2 ⟨rfl, hb2⟩
 have h02 := (h01.trans (hb2.mono h01.size)).alloc (h01.trans (hb2.mono h01.size)).size (.cells #[.int .i64 2, .bool false, .int .i64 x.num, .string ⟨([] : List UInt8).toArray⟩, .int .i64 0, .slice none 0 0, .slice none 0 0, .slice none 0 0] 34)
 have HP2 := HP.below hb2 (by simp)
 have c1 := HP2.cell 1
 have c2 := HP2.cell 2
 have c3 := HP2.cell 3
 have c4 := HP2.cell 4
 have c5 := HP2.cell 5
 have c6 := HP2.cell 6
 have c7 := HP2.cell 7
 have hz2 := HP2.here
 simp only [gl3] at c1 c2 c3 c4 c5 c6 c7
 clear HP HP2 hb2 h01 HB
 go_wp2_with fail
 all_goals go_ret
 all_goals refine ⟨ret_bool ?_, h02⟩
 all_goals rw [← Hpb.out]
 all_goals first | (simp [properB, HK.out, *]; done) | (simp [properB, HK.out, *]; cases x.rest with | nil => simp | cons a r => (simp; omega))
set_option maxRecDepth 100000 in
theorem proper3_any (x : Val) (A1 A2 A3 : Option Addr) (n1 n2 n3 : Nat) (w : World) (hk : x.kind = 3) :
  Calls Try.prog 46 #[valA x (.slice A1 x.keys.length n1) (.slice A2 x.items.length n2) (.slice A3 x.rest.length n3)] w fun e w' => e = .returned (.bool (properB x)) ∧ Below w.heap.size w w' := by
 have hb := fun W => bare3_any x A1 A2 A3 n1 n2 n3 W hk
 have HB := Lib.hid hb
 have HK := Lib.hid hk
 have h01 := (Below.refl w.heap.size w).alloc (Nat.le_refl _) (.cells #[.int .i64 3, .bool x.bool, .int .i64 x.num, .string ⟨x.str.toArray⟩, .int .i64 x.id, .slice A1 x.keys.length n1, .slice A2 x.items.length n2, .slice A3 x.rest.length n3] 34)
 have HP := Has.made w 34 #[.int .i64 3, .bool x.bool, .int .i64 x.num, .string ⟨x.str.toArray⟩, .int .i64 x.id, .slice A1 x.keys.length n1, .slice A2 x.items.length n2, .slice A3 x.rest.length n3]
 simp only [valA, hk] at HB ⊢
 obtain ⟨pb, hpb⟩ : ∃ pb, properB x = pb := ⟨_, rfl⟩
 rw [hpb]
 have Hpb := Lib.hid hpb
 clear hb hk hpb
 go_enter Try.func46, Try.ntmps46
 go_wp2_with fail
 refine (HB.out _).mono ?_
 rintro e w2 ⟨rfl, hb2⟩
 have h02 := (h01.trans (hb2.mono h01.size)).alloc (h01.trans (hb2.mono h01.size)).size (.cells #[.int .i64 3, .bool false, .int .i64 0, .string ⟨(x.str : List UInt8).toArray⟩, .int .i64 0, .slice none 0 0, .slice none 0 0, .slice none 0 0] 34)
 have HP2 := HP.below hb2 (by simp)
 have c1 := HP2.cell 1
 have c2 := HP2.cell 2
 have c3 := HP2.cell 3
 have c4 := HP2.cell 4
 have c5 := HP2.cell 5
 have c6 := HP2.cell 6
 have c7 := HP2.cell 7
 have hz2 := HP2.here
 simp only [gl3] at c1 c2 c3 c4 c5 c6 c7
 clear HP HP2 hb2 h01 HB
 go_wp2_with fail
 all_goals go_ret
 all_goals refine ⟨ret_bool ?_, h02⟩
 all_goals rw [← Hpb.out]
 all_goals first | (simp [properB, HK.out, *]; done) | (simp [properB, HK.out, *]; cases x.rest with | nil => simp | cons a r => (simp; omega))
set_option maxRecDepth 100000 in
theorem proper4_any (x : Val) (A1 A2 A3 : Option Addr) (n1 n2 n3 : Nat) (w : World) (hk : x.kind = 4) :
  Calls Try.prog 46 #[valA x (.slice A1 x.keys.length n1) (.slice A2 x.items.length n2) (.slice A3 x.rest.length n3)] w fun e w' => e = .returned (.bool (properB x)) ∧ Below w.heap.size w w' := by
 have hb := fun W => bare4_any x A1 A2 A3 n1 n2 n3 W hk
 have HB := Lib.hid hb
 have HK := Lib.hid hk
 have h01 := (Below.refl w.heap.size w).alloc (Nat.le_refl _) (.cells #[.int .i64 4, .bool x.bool, .int .i64 x.num, .string ⟨x.str.toArray⟩, .int .i64 x.id, .slice A1 x.keys.length n1, .slice A2 x.items.length n2, .slice A3 x.rest.length n3] 34)
 have HP := Has.made w 34 #[.int .i64 4, .bool x.bool, .int .i64 x.num, .string ⟨x.str.toArray⟩, .int .i64 x.id, .slice A1 x.keys.length n1, .slice A2 x.items.length n2, .slice A3 x.rest.length n3]
 simp only [valA, hk] at HB ⊢
 obtain ⟨pb, hpb⟩ : ∃ pb, properB x = pb := ⟨_, rfl⟩
 rw [hpb]
 have Hpb := Lib.hid hpb
 clear hb hk hpb
 go_enter Try.func46, Try.ntmps46
 go_wp2_with fail
 refine (HB.out _).mono ?_
 rintro e w2 ⟨rfl, hb2⟩
 have h02 := (h01.trans (hb2.mono h01.size)).alloc (h01.trans (hb2.mono h01.size)).size (.cells #[.int .i64 4, .bool false, .int .i64 0, .string ⟨([] : List UInt8).toArray⟩, .int .i64 x.id, .slice none 0 0, .slice none 0 0, .slice none 0 0] 34)
 have HP2 := HP.below hb2 (by simp)
 have c1 := HP2.cell 1
 have c2 := HP2.cell 2
 have c3 := HP2.cell 3
 have c4 := HP2.cell 4
 have c5 := HP2.cell 5
 have c6 := HP2.cell 6
 have c7 := HP2.cell 7
 have hz2 := HP2.here
 simp only [gl3] at c1 c2 c3 c4 c5 c6 c7
 clear HP HP2 hb2 h01 HB
 go_wp2_with fail
 all_goals go_ret
 all_goals refine ⟨ret_bool ?_, h02⟩
 all_goals rw [← Hpb.out]
 all_goals first | (simp [properB, HK.out, *]; done) | (simp [properB, HK.out, *]; cases x.rest with | nil => simp | cons a r => (simp; omega))
set_option maxRecDepth 100000 in
theorem proper5_any (x : Val) (A1 A2 A3 : Option Addr) (n1 n2 n3 : Nat) (w : World) (hk : x.kind = 5) :
  Calls Try.prog 46 #[valA x (.slice A1 x.keys.length n1) (.slice A2 x.items.length n2) (.slice A3 x.rest.length n3)] w fun e w' => e = .returned (.bool (properB x)) ∧ Below w.heap.size w w' := by
 have hb := fun W => bare5_any x A1 A2 A3 n1 n2 n3 W hk
 have HB := Lib.hid hb
 have HK := Lib.hid hk
 have h01 := (Below.refl w.heap.size w).alloc (Nat.le_refl _) (.cells #[.int .i64 5, .bool x.bool, .int .i64 x.num, .string ⟨x.str.toArray⟩, .int .i64 x.id, .slice A1 x.keys.length n1, .slice A2 x.items.length n2, .slice A3 x.rest.length n3] 34)
 have HP := Has.made w 34 #[.int .i64 5, .bool x.bool, .int .i64 x.num, .string ⟨x.str.toArray⟩, .int .i64 x.id, .slice A1 x.keys.length n1, .slice A2 x.items.length n2, .slice A3 x.rest.length n3]
 simp only [valA, hk] at HB ⊢
 obtain ⟨pb, hpb⟩ : ∃ pb, properB x = pb := ⟨_, rfl⟩
 rw [hpb]
 have Hpb := Lib.hid hpb
 clear hb hk hpb
 go_enter Try.func46, Try.ntmps46
 go_wp2_with fail
 refine (HB.out _).mono ?_
 rintro e w2 ⟨rfl, hb2⟩
 have h02 := (h01.trans (hb2.mono h01.size)).alloc (h01.trans (hb2.mono h01.size)).size (.cells #[.int .i64 5, .bool false, .int .i64 0, .string ⟨([] : List UInt8).toArray⟩, .int .i64 0, .slice none 0 0, .slice A2 x.items.length n2, .slice A3 x.rest.length n3] 34)
 have HP2 := HP.below hb2 (by simp)
 have c1 := HP2.cell 1
 have c2 := HP2.cell 2
 have c3 := HP2.cell 3
 have c4 := HP2.cell 4
 have c5 := HP2.cell 5
 have c6 := HP2.cell 6
 have c7 := HP2.cell 7
 have hz2 := HP2.here
 simp only [gl3] at c1 c2 c3 c4 c5 c6 c7
 clear HP HP2 hb2 h01 HB
 go_wp2_with fail
 all_goals go_ret
 all_goals refine ⟨ret_bool ?_, h02⟩
 all_goals rw [← Hpb.out]
 all_goals first | (simp [properB, HK.out, *]; done) | (simp [properB, HK.out, *]; cases x.rest with | nil => simp | cons a r => (simp; omega))
set_option maxRecDepth 100000 in
theorem proper6_any (x : Val) (A1 A2 A3 : Option Addr) (n1 n2 n3 : Nat) (w : World) (hk : x.kind = 6) :
  Calls Try.prog 46 #[valA x (.slice A1 x.keys.length n1) (.slice A2 x.items.length n2) (.slice A3 x.rest.length n3)] w fun e w' => e = .returned (.bool (properB x)) ∧ Below w.heap.size w w' := by
 have hb := fun W => bare6_any x A1 A2 A3 n1 n2 n3 W hk
 have HB := Lib.hid hb
 have HK := Lib.hid hk
 have h01 := (Below.refl w.heap.size w).alloc (Nat.le_refl _) (.cells #[.int .i64 6, .bool x.bool, .int .i64 x.num, .string ⟨x.str.toArray⟩, .int .i64 x.id, .slice A1 x.keys.length n1, .slice A2 x.items.length n2, .slice A3 x.rest.length n3] 34)
 have HP := Has.made w 34 #[.int .i64 6, .bool x.bool, .int .i64 x.num, .string ⟨x.str.toArray⟩, .int .i64 x.id, .slice A1 x.keys.length n1, .slice A2 x.items.length n2, .slice A3 x.rest.length n3]
 simp only [valA, hk] at HB ⊢
 obtain ⟨pb, hpb⟩ : ∃ pb, properB x = pb := ⟨_, rfl⟩
 rw [hpb]
 have Hpb := Lib.hid hpb
 clear hb hk hpb
 go_enter Try.func46, Try.ntmps46
 go_wp2_with fail
 refine (HB.out _).mono ?_
 rintro e w2 ⟨rfl, hb2⟩
 have h02 := (h01.trans (hb2.mono h01.size)).alloc (h01.trans (hb2.mono h01.size)).size (.cells #[.int .i64 6, .bool false, .int .i64 0, .string ⟨([] : List UInt8).toArray⟩, .int .i64 x.id, .slice none 0 0, .slice A2 x.items.length n2, .slice A3 x.rest.length n3] 34)
 have HP2 := HP.below hb2 (by simp)
 have c1 := HP2.cell 1
 have c2 := HP2.cell 2
 have c3 := HP2.cell 3
 have c4 := HP2.cell 4
 have c5 := HP2.cell 5
 have c6 := HP2.cell 6
 have c7 := HP2.cell 7
 have hz2 := HP2.here
 simp only [gl3] at c1 c2 c3 c4 c5 c6 c7
 clear HP HP2 hb2 h01 HB
 go_wp2_with fail
 all_goals go_ret
 all_goals refine ⟨ret_bool ?_, h02⟩
 all_goals rw [← Hpb.out]
 all_goals first | (simp [properB, HK.out, *]; done) | (simp [properB, HK.out, *]; cases x.rest with | nil => simp | cons a r => (simp; omega))
set_option maxRecDepth 100000 in
theorem proper7_any (x : Val) (A1 A2 A3 : Option Addr) (n1 n2 n3 : Nat) (w : World) (hk : x.kind = 7) :
  Calls Try.prog 46 #[valA x (.slice A1 x.keys.length n1) (.slice A2 x.items.length n2) (.slice A3 x.rest.length n3)] w fun e w' => e = .returned (.bool (properB x)) ∧ Below w.heap.size w w' := by
 have hb := fun W => bare7_any x A1 A2 A3 n1 n2 n3 W hk
 have HB := Lib.hid hb
 have HK := Lib.hid hk
 have h01 := (Below.refl w.heap.size w).alloc (Nat.le_refl _) (.cells #[.int .i64 7, .bool x.bool, .int .i64 x.num, .string ⟨x.str.toArray⟩, .int .i64 x.id, .slice A1 x.keys.length n1, .slice A2 x.items.length n2, .slice A3 x.rest.length n3] 34)
 have HP := Has.made w 34 #[.int .i64 7, .bool x.bool, .int .i64 x.num, .string ⟨x.str.toArray⟩, .int .i64 x.id, .slice A1 x.keys.length n1, .slice A2 x.items.length n2, .slice A3 x.rest.length n3]
 simp only [valA, hk] at HB ⊢
 obtain ⟨pb, hpb⟩ : ∃ pb, properB x = pb := ⟨_, rfl⟩
 rw [hpb]
 have Hpb := Lib.hid hpb
 clear hb hk hpb
 go_enter Try.func46, Try.ntmps46
 go_wp2_with fail
 refine (HB.out _).mono ?_
 rintro e w2 ⟨rfl, hb2⟩
 have h02 := (h01.trans (hb2.mono h01.size)).alloc (h01.trans (hb2.mono h01.size)).size (.cells #[.int .i64 7, .bool false, .int .i64 0, .string ⟨([] : List UInt8).toArray⟩, .int .i64 0, .slice none 0 0, .slice A2 x.items.length n2, .slice none 0 0] 34)
 have HP2 := HP.below hb2 (by simp)
 have c1 := HP2.cell 1
 have c2 := HP2.cell 2
 have c3 := HP2.cell 3
 have c4 := HP2.cell 4
 have c5 := HP2.cell 5
 have c6 := HP2.cell 6
 have c7 := HP2.cell 7
 have hz2 := HP2.here
 simp only [gl3] at c1 c2 c3 c4 c5 c6 c7
 clear HP HP2 hb2 h01 HB
 go_wp2_with fail
 all_goals go_ret
 all_goals refine ⟨ret_bool ?_, h02⟩
 all_goals rw [← Hpb.out]
 all_goals first | (simp [properB, HK.out, *]; done) | (simp [properB, HK.out, *]; cases x.rest with | nil => simp | cons a r => (simp; omega))
set_option maxRecDepth 100000 in
theorem proper8_any (x : Val) (A1 A2 A3 : Option Addr) (n1 n2 n3 : Nat) (w : World) (hk : x.kind = 8) :
  Calls Try.prog 46 #[valA x (.slice A1 x.keys.length n1) (.slice A2 x.items.length n2) (.slice A3 x.rest.length n3)] w fun e w' => e = .returned (.bool (properB x)) ∧ Below w.heap.size w w' := by
 have hb := fun W => bare8_any x A1 A2 A3 n1 n2 n3 W hk
 have HB := Lib.hid hb
 have HK := Lib.hid hk
 have h01 := (Below.refl w.heap.size w).alloc (Nat.le_refl _) (.cells #[.int .i64 8, .bool x.bool, .int .i64 x.num, .string ⟨x.str.toArray⟩, .int .i64 x.id, .slice A1 x.keys.length n1, .slice A2 x.items.length n2, .slice A3 x.rest.length n3] 34)
 have HP := Has.made w 34 #[.int .i64 8, .bool x.bool, .int .i64 x.num, .string ⟨x.str.toArray⟩, .int .i64 x.id, .slice A1 x.keys.length n1, .slice A2 x.items.length n2, .slice A3 x.rest.length n3]
 simp only [valA, hk] at HB ⊢
 obtain ⟨pb, hpb⟩ : ∃ pb, properB x = pb := ⟨_, rfl⟩
 rw [hpb]
 have Hpb := Lib.hid hpb
 clear hb hk hpb
 go_enter Try.func46, Try.ntmps46
 go_wp2_with fail
 refine (HB.out _).mono ?_
 rintro e w2 ⟨rfl, hb2⟩
 have h02 := (h01.trans (hb2.mono h01.size)).alloc (h01.trans (hb2.mono h01.size)).size (.cells #[.int .i64 8, .bool false, .int .i64 0, .string ⟨([] : List UInt8).toArray⟩, .int .i64 0, .slice A1 x.keys.length n1, .slice A2 x.items.length n2, .slice none 0 0] 34)
 have HP2 := HP.below hb2 (by simp)
 have c1 := HP2.cell 1
 have c2 := HP2.cell 2
 have c3 := HP2.cell 3
 have c4 := HP2.cell 4
 have c5 := HP2.cell 5
 have c6 := HP2.cell 6
 have c7 := HP2.cell 7
 have hz2 := HP2.here
 simp only [gl3] at c1 c2 c3 c4 c5 c6 c7
 clear HP HP2 hb2 h01 HB
 go_wp2_with fail
 all_goals go_ret
 all_goals refine ⟨ret_bool ?_, h02⟩
 all_goals rw [← Hpb.out]
 all_goals first | (simp [properB, HK.out, *]; done) | (simp [properB, HK.out, *]; cases x.rest with | nil => simp | cons a r => (simp; omega))
set_option maxRecDepth 100000 in
theorem proper9_any (x : Val) (A1 A2 A3 : Option Addr) (n1 n2 n3 : Nat) (w : World) (hk : x.kind = 9) :
  Calls Try.prog 46 #[valA x (.slice A1 x.keys.length n1) (.slice A2 x.items.length n2) (.slice A3 x.rest.length n3)] w fun e w' => e = .returned (.bool (properB x)) ∧ Below w.heap.size w w' := by
 have hb := fun W => bare9_any x A1 A2 A3 n1 n2 n3 W hk
 have HB := Lib.hid hb
 have HK := Lib.hid hk
 have h01 := (Below.refl w.heap.size w).alloc (Nat.le_refl _) (.cells #[.int .i64 9, .bool x.bool, .int .i64 x.num, .string ⟨x.str.toArray⟩, .int .i64 x.id, .slice A1 x.keys.length n1, .slice A2 x.items.length n2, .slice A3 x.rest.length n3] 34)
 have HP := Has.made w 34 #[.int .i64 9, .bool x.bool, .int .i64 x.num, .string ⟨x.str.toArray⟩, .int .i64 x.id, .slice A1 x.keys.length n1, .slice A2 x.items.length n2, .slice A3 x.rest.length n3]
 simp only [valA, hk] at HB ⊢
 obtain ⟨pb, hpb⟩ : ∃ pb, properB x = pb := ⟨_, rfl⟩
 rw [hpb]
 have Hpb := Lib.hid hpb
 clear hb hk hpb
 go_enter Try.func46, Try.ntmps46
 go_wp2_with fail
 refine (HB.out _).mono ?_
 rintro e w2 ⟨rfl, hb2⟩
 have h02 := (h01.trans (hb2.mono h01.size)).alloc (h01.trans (hb2.mono h01.size)).size (.cells #[.int .i64 9, .bool false, .int .i64 0, .string ⟨([] : List UInt8).toArray⟩, .int .i64 0, .slice none 0 0, .slice A2 x.items.length n2, .slice none 0 0] 34)
 have HP2 := HP.below hb2 (by simp)
 have c1 := HP2.cell 1
 have c2 := HP2.cell 2
 have c3 := HP2.cell 3
 have c4 := HP2.cell 4
 have c5 := HP2.cell 5
 have c6 := HP2.cell 6
 have c7 := HP2.cell 7
 have hz2 := HP2.here
 simp only [gl3] at c1 c2 c3 c4 c5 c6 c7
 clear HP HP2 hb2 h01 HB
 go_wp2_with fail
 all_goals go_ret
 all_goals refine ⟨ret_bool ?_, h02⟩
 all_goals rw [← Hpb.out]
 all_goals first | (simp [properB, HK.out, *]; done) | (simp [properB, HK.out, *]; cases x.rest with | nil => simp | cons a r => (simp; omega))
end Go.Proofs.Ytgeapglanckjpaa
namespace Go.Proofs.Ytgeapglanckjpaa
open Go.ChangeShapes Go.WideShapes Go.ChangeAt Go.RowKit
def idxG (g : Val → Bool) : List Val → Nat → Option Nat
 | [], _ => none
 | x :: r, k => if g x then idxG g r (k + 1) else some k
theorem idxG_all (g : Val → Bool) : ∀ (l : List Val) (k : Nat), (idxG g l k).isSome = !l.all g := by
 intro l
 induction l with
 | nil => intro k; simp [idxG]
 | cons x r ih =>
  intro k
  rw [idxG]
  cases h : g x with
  | true => simp [ih, h]
  | false => simp [h]
def FitsOn (F : FuncId) (ts : List Typ) (vs : Value) (t : Int) (pl : Bool) (g : Val → Bool) (l : List Val) : Prop :=
 ∀ (y : Val) (vk vi vr : Value) (W : World), y ∈ l → ValAt W W.heap.size y vk vi vr → RdTyps W W.heap.size vs ts → Calls Try.prog F #[.agg #[vs], .int .i64 t, valA y vk vi vr, .bool pl] W fun e w' => e = .returned (.bool (g y)) ∧ Below W.heap.size W w'
set_option maxRecDepth 100000 in
theorem eachc_any (ts : List Typ) (A : Option Addr) (c : Nat) (t : Int) (pl : Bool) (g : Val → Bool) (l : List Val) (y : Val) (vk vi vr : Value) (p4 p5 p7 : Nat) (w : World) (hf : FitsOn 26 ts (.slice A ts.length c) t pl g l)
  (hy : y ∈ l) (hv : ValAt w w.heap.size y vk vi vr) (ht : RdTyps w w.heap.size (.slice A ts.length c) ts) (h4 : w.cell? ⟨p4, 0, none⟩ = some (.slice A ts.length c)) (h5 : w.cell? ⟨p5, 0, none⟩ = some (.int .i64 t)) (h7 : w.cell? ⟨p7, 0, none⟩ = some (.bool pl))
  (l4 : p4 < w.heap.size) (l5 : p5 < w.heap.size) (l7 : p7 < w.heap.size) :
  Calls Try.prog 76 #[valA y vk vi vr, .pointer (some ⟨p4, 0, none⟩), .pointer (some ⟨p5, 0, none⟩), .pointer (some ⟨p7, 0, none⟩)] w fun e w' => e = .returned (.bool (!g y)) ∧ Below w.heap.size w w' := by
 obtain ⟨A1, n1, A2, n2, A3, n3, rfl, rfl, rfl, -, -, -⟩ := hv.forms
 have h0b := fun (o1 : Obj) => (Below.refl w.heap.size w).alloc (Nat.le_refl _) o1
 have HF := Lib.hid hf
 have HV := Lib.hid hv
 have HT := Lib.hid ht
 have HY := Lib.hid hy
 clear hf hv ht hy
 go_enter Try.func76, Try.ntmps76
 go_wp2_with fail
 refine (HF.out y _ _ _ _ HY.out (HV.out.on (h0b _)) (HT.out.on (h0b _))).mono ?_
 rintro e w2 ⟨rfl, hb2⟩
 go_wp2_with fail
 go_ret
 exact ⟨rfl, (h0b _).trans (hb2.mono (h0b _).size)⟩
set_option maxRecDepth 100000 in
theorem idxval_any (ts : List Typ) (A : Option Addr) (c : Nat) (t : Int) (pl : Bool) (g : Val → Bool) (l : List Val) (va : Value) (p4 p5 p7 : Nat) (w : World) (hf : FitsOn 26 ts (.slice A ts.length c) t pl g l) (hl : l.length ≤ 140737488351232)
  (hv : RdVals w w.heap.size va l) (ht : RdTyps w w.heap.size (.slice A ts.length c) ts) (h4 : w.cell? ⟨p4, 0, none⟩ = some (.slice A ts.length c)) (h5 : w.cell? ⟨p5, 0, none⟩ = some (.int .i64 t)) (h7 : w.cell? ⟨p7, 0, none⟩ = some (.bool pl))
  (l4 : p4 < w.heap.size) (l5 : p5 < w.heap.size) (l7 : p7 < w.heap.size) :
  Calls Try.prog 81 #[va, .func (.func 76) #[] #[.pointer (some ⟨p4, 0, none⟩), .pointer (some ⟨p5, 0, none⟩), .pointer (some ⟨p7, 0, none⟩)]] w fun e w' => e = .returned (.int .i64 (idxI (idxG g l 0))) ∧ Below w.heap.size w w' := by
 obtain ⟨Al, cl, rfl, hcl⟩ := hv.form
 have HF := Lib.hid hf
 have HV := Lib.hid hv
 have HT := Lib.hid ht
 have H4 := Lib.hid h4
 have H5 := Lib.hid h5
 have H7 := Lib.hid h7
 clear hf hv ht h4 h5 h7
 go_enter Try.func81, Try.ntmps81
 go_wp2
 go_loopw [8] (fun i wr => ∃ k : Nat, i = .int .i64 k ∧ k ≤ l.length ∧ idxG g l 0 = idxG g (l.drop k) k ∧ Below w.heap.size w wr) (fun i _ => l.length - (intOf i).toNat)
 case atStart => exact ⟨0, rfl, by omega, rfl, Below.refl _ _⟩
 case round =>
  obtain ⟨k, rfl, hk, hix, hb⟩ := hrel
  by_cases hlk : k < l.length
  ·
   obtain ⟨b, o, rfl, hbb, hel⟩ := (HV.out.on hb).elem (by omega)
   obtain ⟨vk, vi, vr, hcells, hm⟩ := hel k hlk
   rw [List.drop_eq_getElem_cons hlk, idxG] at hix
   have hmem : l[k] ∈ l := List.getElem_mem hlk
   generalize l[k] = y at *
   obtain ⟨B1, k1, B2, k2, B3, k3, rfl, rfl, rfl, -, -, -⟩ := hm.forms
   obtain ⟨c0, c1, c2, c3, c4, c5, c6, c7⟩ := hcells
   have hsz := hb.size
   have HC := Lib.hid (fun (W : World) => eachc_any ts A c t pl g l y (.slice B1 y.keys.length k1) (.slice B2 y.items.length k2) (.slice B3 y.rest.length k3) p4 p5 p7 W HF.out hmem)
   have HM := Lib.hid hm
   have hi1 : (k : Int) < l.length := by omega
   clear hel hm hmem
   cases hg : g y with
   | true =>
    rw [hg, if_pos rfl] at hix
    have Hix := Lib.hid hix
    rw [hg] at HC
    clear hix hg
    go_wp2_with fail
    refine (HC.out _ HM.out (HT.out.on hb) ((hb.cell l4).trans H4.out) ((hb.cell l5).trans H5.out) ((hb.cell l7).trans H7.out) (by omega) (by omega) (by omega)).mono ?_
    rintro e w2 ⟨rfl, hb2⟩
    have hb02 := hb.trans (hb2.mono hb.size)
    clear hb2 hb
    go_wp2_with fail
    go_roundw
    case rel => exact ⟨k + 1, by go_num, by omega, Hix.out, hb02⟩
    case measure => simp [intOf]; omega
   | false =>
    rw [hg, if_neg (by simp)] at hix
    have Hix := Lib.hid hix
    rw [hg] at HC
    clear hix hg
    go_wp2_with fail
    refine (HC.out _ HM.out (HT.out.on hb) ((hb.cell l4).trans H4.out) ((hb.cell l5).trans H5.out) ((hb.cell l7).trans H7.out) (by omega) (by omega) (by omega)).mono ?_
    rintro e w2 ⟨rfl, hb2⟩
    go_wp2_with fail
    go_ret
    exact ⟨ret_int (by rw [Hix.out]; rfl), hb.trans (hb2.mono hb.size)⟩
  rw [List.drop_eq_nil_of_le (by omega), idxG] at hix
  have Hix := Lib.hid hix
  clear hix
  go_wp2
  go_ret
  exact ⟨ret_int (by rw [Hix.out]; rfl), hb⟩
theorem idxI_some (o : Option Nat) : decide (0 ≤ idxI o) = o.isSome := by
 cases o with
 | none => rfl
 | some k => simp [idxI]
set_option maxRecDepth 100000 in
theorem contval_any (ts : List Typ) (A : Option Addr) (c : Nat) (t : Int) (pl : Bool) (g : Val → Bool) (l : List Val) (va : Value) (p4 p5 p7 : Nat) (w : World) (hf : FitsOn 26 ts (.slice A ts.length c) t pl g l) (hl : l.length ≤ 140737488351232)
  (hv : RdVals w w.heap.size va l) (ht : RdTyps w w.heap.size (.slice A ts.length c) ts) (h4 : w.cell? ⟨p4, 0, none⟩ = some (.slice A ts.length c)) (h5 : w.cell? ⟨p5, 0, none⟩ = some (.int .i64 t)) (h7 : w.cell? ⟨p7, 0, none⟩ = some (.bool pl))
  (l4 : p4 < w.heap.size) (l5 : p5 < w.heap.size) (l7 : p7 < w.heap.size) :
  Calls Try.prog 75 #[va, .func (.func 76) #[] #[.pointer (some ⟨p4, 0, none⟩), .pointer (some ⟨p5, 0, none⟩), .pointer (some ⟨p7, 0, none⟩)]] w fun e w' => e = .returned (.bool (!l.all g)) ∧ Below w.heap.size w w' := by
 obtain ⟨Al, cl, rfl, hcl⟩ := hv.form
 have hsome := idxI_some (idxG g l 0)
 rw [idxG_all g l 0] at hsome
 have HI := Lib.hid (idxval_any ts A c t pl g l _ p4 p5 p7 w hf hl hv ht h4 h5 h7 l4 l5 l7)
 generalize idxI (idxG g l 0) = r at *
 clear hf hv ht h4 h5 h7
 cases hr : decide (0 ≤ r) with
 | true =>
  rw [hr] at hsome
  have Hs := Lib.hid hsome
  clear hsome
  have hr2 : 0 ≤ r := of_decide_eq_true hr
  clear hr
  go_enter Try.func75, Try.ntmps75
  go_wp2_with fail
  refine HI.out.mono ?_
  rintro e w2 ⟨rfl, hb2⟩
  go_wp2_with fail
  go_ret
  exact ⟨ret_bool Hs.out, hb2⟩
 | false =>
  rw [hr] at hsome
  have Hs := Lib.hid hsome
  clear hsome
  have hr2 : r < 0 := by have := of_decide_eq_false hr; omega
  clear hr
  go_enter Try.func75, Try.ntmps75
  go_wp2_with fail
  refine HI.out.mono ?_
  rintro e w2 ⟨rfl, hb2⟩
  go_wp2_with fail
  go_ret
  exact ⟨ret_bool (by rw [decide_eq_false (by omega)]; exact Hs.out), hb2⟩
set_option maxRecDepth 100000 in
theorem each_any (ts : List Typ) (A : Option Addr) (c : Nat) (t : Int) (pl : Bool) (g : Val → Bool) (l : List Val) (va : Value) (w : World) (hf : FitsOn 26 ts (.slice A ts.length c) t pl g l) (hl : l.length ≤ 140737488351232)
  (hv : RdVals w w.heap.size va l) (ht : RdTyps w w.heap.size (.slice A ts.length c) ts) :
  Calls Try.prog 49 #[.agg #[.slice A ts.length c], .int .i64 t, va, .bool pl] w fun e w' => e = .returned (.bool (l.all g)) ∧ Below w.heap.size w w' := by
 obtain ⟨Al, cl, rfl, hcl⟩ := hv.form
 have h3b := al3 w
 have HI := (fun va W h1 h2 p4 p5 p7 h4 h5 h7 l4 l5 l7 => contval_any ts A c t pl g l va p4 p5 p7 W hf hl h1 h2 h4 h5 h7 l4 l5 l7)
 have HV := Lib.hid hv
 have HT := Lib.hid ht
 obtain ⟨q, hq⟩ : ∃ q, l.all g = q := ⟨_, rfl⟩
 rw [hq] at HI
 rw [hq]
 have HI := Lib.hid HI
 clear hf hv ht hq
 go_enter Try.func49, Try.ntmps49
 go_wp2_with fail
 refine (HI.out _ _ (HV.out.on (h3b _ _ _)) (HT.out.on (h3b _ _ _)) w.heap.size (w.heap.size + 1) (w.heap.size + 1 + 1) (by go_simp) (by go_simp) (by go_simp) (by simp <;> omega) (by simp <;> omega) (by simp <;> omega)).mono ?_
 rintro e w2 ⟨rfl, hb2⟩
 have h02 := (h3b _ _ _).trans (hb2.mono (h3b _ _ _).size)
 clear hb2 h3b
 cases q
 all_goals
  go_wp2_with fail
  go_ret
  exact ⟨rfl, h02⟩
set_option maxRecDepth 100000 in
theorem rall_any (ts : List Typ) (A : Option Addr) (c : Nat) (t : Int) (pl : Bool) (g : Val → Bool) (l : List Val) (va : Value) (w : World) (hf : FitsOn 27 ts (.slice A ts.length c) t pl g l) (hl : l.length ≤ 140737488351232)
  (hv : RdVals w w.heap.size va l) (ht : RdTyps w w.heap.size (.slice A ts.length c) ts) :
  Calls Try.prog 54 #[.agg #[.slice A ts.length c], .int .i64 t, va, .bool pl] w fun e w' => e = .returned (.bool (l.all g)) ∧ Below w.heap.size w w' := by
 obtain ⟨Al, cl, rfl, hcl⟩ := hv.form
 have HF := Lib.hid hf
 have h01 := (Below.refl w.heap.size w).alloc (Nat.le_refl _) (.cells #[.slice A ts.length c] 30)
 have HP := Has.made w 30 #[.slice A ts.length c]
 clear hf
 go_enter Try.func54, Try.ntmps54
 go_wp2
 generalize w.alloc (.cells #[.slice A ts.length c] 30) = w1 at *
 have HV := Lib.hid (hv.on h01)
 have HT := Lib.hid (ht.on h01)
 have hz := HP.here
 have hc0 : w1.cell? ⟨w.heap.size, 0, none⟩ = some (.slice A ts.length c) := HP.cell 0
 have HP := Lib.hid HP
 clear hv ht
 have H0 := Lib.hid hc0
 clear hc0
 go_loopw [9] (fun i wr => ∃ k : Nat, i = .int .i64 k ∧ k ≤ l.length ∧ l.all g = (l.drop k).all g ∧ Below w1.heap.size w1 wr) (fun i _ => l.length - (intOf i).toNat)
 case atStart => exact ⟨0, rfl, by omega, rfl, Below.refl _ _⟩
 case round =>
  obtain ⟨k, rfl, hk, hix, hb⟩ := hrel
  by_cases hlk : k < l.length
  ·
   obtain ⟨b, o, rfl, hbb, hel⟩ := (HV.out.on hb).elem (by omega)
   obtain ⟨vk, vi, vr, hcells, hm⟩ := hel k hlk
   rw [List.drop_eq_getElem_cons hlk, List.all_cons] at hix
   have hmem : l[k] ∈ l := List.getElem_mem hlk
   generalize l[k] = y at *
   obtain ⟨B1, k1, B2, k2, B3, k3, rfl, rfl, rfl, -, -, -⟩ := hm.forms
   obtain ⟨c0, c1, c2, c3, c4, c5, c6, c7⟩ := hcells
   have hq : wr.cell? ⟨w.heap.size, 0, none⟩ = some (.slice A ts.length c) := (hb.cell (p := ⟨w.heap.size, 0, none⟩) hz).trans H0.out
   have hi1 : (k : Int) < l.length := by omega
   have HM := Lib.hid hm
   have HTr := Lib.hid (HT.out.on hb)
   have Hmem := Lib.hid hmem
   have Hix := Lib.hid hix
   have h0r := h01.trans (hb.mono h01.size)
   clear hel hm hmem hix
   go_wp2_with fail
   go_still_tail 7, (by kernel_rfl)
   change wpList _ _ _ _ _ wr.drew
   have HD := Lib.hid (HM.out.on (w' := wr.drew) (Below.refl _ _).drew)
   have HTD := Lib.hid (HTr.out.on (w' := wr.drew) (Below.refl _ _).drew)
   have hbd := hb.drew
   have h0d := h0r.drew
   clear hb h0r c0 c1 c2 c3 c4 c5 c6 c7 HM HTr hq
   generalize wr.drew = w2 at *
   go_wp2_with fail
   refine (HF.out y _ _ _ _ Hmem.out HD.out HTD.out).mono ?_
   rintro e w3 ⟨rfl, hb3⟩
   have hb03 := hbd.trans (hb3.mono hbd.size)
   have h03 := h0d.trans (hb3.mono h0d.size)
   clear hb3 hbd h0d
   cases hg : g y with
   | true =>
    rw [hg] at Hix
    clear hg
    go_wp2_with fail
    go_roundw
    case rel => exact ⟨k + 1, by go_num, by omega, Hix.out, hb03⟩
    case measure => simp [intOf]; omega
   | false =>
    rw [hg] at Hix
    clear hg
    go_wp2_with fail
    go_ret
    exact ⟨ret_bool (by rw [Hix.out]; rfl), h03⟩
  rw [List.drop_eq_nil_of_le (by omega)] at hix
  have Hix := Lib.hid hix
  clear hix
  go_wp2_with fail
  go_ret
  exact ⟨ret_bool (by rw [Hix.out]; rfl), h01.trans (hb.mono h01.size)⟩
end Go.Proofs.Ytgeapglanckjpaa
namespace Go.Proofs.Ytgeapglanckjpaa
open Go.ChangeShapes Go.WideShapes Go.ChangeAt Go.RowKit
def freeB (id : Int) : Bool := decide (1 ≤ id ∧ id ≤ 1000)
set_option maxRecDepth 100000 in
theorem free_any (id : Int) (w : World) : Calls Try.prog 48 #[.int .i64 id] w fun e w' => e = .returned (.bool (freeB id)) ∧ w = w' := by
 have hf : Hid (freeB id = decide (1 ≤ id ∧ id ≤ 1000)) := by show _ = _; rfl
 by_cases h1 : 1 ≤ id
 ·
  by_cases h2 : id ≤ 1000
  all_goals
   go_enter Try.func48, Try.ntmps48
   go_wp2
   go_ret
   exact ⟨ret_bool (by rw [hf.out]; first | exact (decide_eq_true (by omega)).symm | exact (decide_eq_false (by omega)).symm), rfl⟩
 go_enter Try.func48, Try.ntmps48
 go_wp2
 go_ret
 exact ⟨ret_bool (by rw [hf.out]; first | exact (decide_eq_true (by omega)).symm | exact (decide_eq_false (by omega)).symm), rfl⟩
set_option maxRecDepth 100000 in
theorem rid_any (id : Int) (kn : Bool) (w : World) : Calls Try.prog 52 #[.int .i64 id, .bool kn] w fun e w' => e = .returned (.bool (!kn && freeB id)) ∧ w = w' := by
 have hf : Hid (freeB id = decide (1 ≤ id ∧ id ≤ 1000)) := by show _ = _; rfl
 cases kn with
 | true =>
  go_enter Try.func52, Try.ntmps52
  go_wp2
  go_ret
  exact ⟨rfl, rfl⟩
 | false =>
  by_cases h1 : 1 ≤ id
  ·
   by_cases h2 : id ≤ 1000
   all_goals
    go_enter Try.func52, Try.ntmps52
    go_wp2
    go_ret
    exact ⟨ret_bool (by rw [hf.out]; first | (rw [decide_eq_true (by omega)]; rfl) | rw [decide_eq_true (by omega)] | (rw [decide_eq_false (by omega)]; rfl) | rw [decide_eq_false (by omega)]), rfl⟩
  go_enter Try.func52, Try.ntmps52
  go_wp2
  go_ret
  exact ⟨ret_bool (by rw [hf.out]; first | (rw [decide_eq_true (by omega)]; rfl) | rw [decide_eq_true (by omega)] | (rw [decide_eq_false (by omega)]; rfl) | rw [decide_eq_false (by omega)]), rfl⟩
end Go.Proofs.Ytgeapglanckjpaa
namespace Go.Proofs.Ytgeapglanckjpaa
open Go.ChangeShapes Go.WideShapes Go.ChangeAt Go.RowKit
def ltP (p : Option Int) (n : Int) : Bool := match p with | some q => decide (q < n) | none => true
def restB (t : Typ) : List Raw → Option Int → Bool
 | [], _ => true
 | r :: rs, p => !(memIdx t r.1).isSome && (freeB r.1 && (ltP p r.1 && restB t rs (some r.1)))
def ascB : List Val → Bool
 | [] => true
 | [_] => true
 | x :: y :: r => decide (compareV x y < 0) && ascB (y :: r)
def typAt (ts : List Typ) (t : Int) : Option Typ := if 0 ≤ t then ts[t.toNat]? else none
def oneRaw (l : List Raw) (id : Int) : Bool := match l with | r :: _ => decide (r.1 = id) | [] => false
theorem oneRaw_eq (l : List Raw) (id : Int) (h : 0 < l.length) : oneRaw l id = decide (l[0].1 = id) := by
 cases l with
 | nil => simp at h
 | cons r rs => rfl
def bodyR (pl : Bool) (x : Typ) (v : Val) (K I : Int → Bool) (Z : List Mem → Bool) (H : Int → Bool) : Bool :=
 if x.kind = 2 then decide (x.low ≤ v.num ∧ v.num ≤ x.high)
 else if x.kind = 3 then decide ((v.str.length : Int) ≤ x.max)
 else if x.kind = 4 then (symIdx x v.id).isSome || (x.opn && (!pl && freeB v.id))
 else if x.kind = 5 then decide (v.items.length = x.mems.length) && (!(pl && decide (0 < v.rest.length)) && (restB x v.rest none && Z x.mems))
 else if x.kind = 6 then
  match memIdx x v.id with
  | some i => decide (v.items.length = 1) && (decide (v.rest.length = 0) && (match x.mems[i]? with | some m => H m.ty | none => false))
  | none => x.opn && (!pl && (freeB v.id && (decide (v.items.length = 0) && (decide (v.rest.length = 1) && oneRaw v.rest v.id))))
 else if x.kind = 7 then decide ((v.items.length : Int) ≤ x.max) && I x.elem
 else if x.kind = 8 then decide ((v.keys.length : Int) ≤ x.max) && (decide (v.items.length = v.keys.length) && (K x.key && (ascB v.keys && I x.elem)))
 else if x.kind = 9 then decide (v.items.length ≤ 1) && I x.elem
 else true
mutual
def fitV (ts : List Typ) (pl : Bool) : Val → Int → Bool
 | .mk k b n s id ks is rs, t => match typAt ts t with
  | none => false
  | some x => decide (k = x.kind) && (properB (.mk k b n s id ks is rs) && bodyR pl x (.mk k b n s id ks is rs) (fun t => fitL ts pl ks t) (fun t => fitL ts pl is t) (fun ms => fitZ ts pl is ms) (fun t => fitH ts pl is t))
def fitL (ts : List Typ) (pl : Bool) : List Val → Int → Bool
 | [], _ => true
 | y :: r, t => fitV ts pl y t && fitL ts pl r t
def fitZ (ts : List Typ) (pl : Bool) : List Val → List Mem → Bool
 | [], [] => true
 | y :: r, m :: ms => fitV ts pl y m.ty && fitZ ts pl r ms
 | [], _ :: _ => false
 | _ :: _, [] => false
def fitH (ts : List Typ) (pl : Bool) : List Val → Int → Bool
 | [], _ => false
 | y :: _, t => fitV ts pl y t
end
theorem fitL_all (ts : List Typ) (pl : Bool) (t : Int) : ∀ l : List Val, fitL ts pl l t = l.all (fun y => fitV ts pl y t)
 | [] => by rw [fitL]; rfl
 | y :: r => by rw [fitL, List.all_cons, fitL_all ts pl t r]
theorem fitV_eq (ts : List Typ) (pl : Bool) (v : Val) (t : Int) : fitV ts pl v t = match typAt ts t with
  | none => false
  | some x => decide (v.kind = x.kind) && (properB v && bodyR pl x v (fun t => fitL ts pl v.keys t) (fun t => fitL ts pl v.items t) (fun ms => fitZ ts pl v.items ms) (fun t => fitH ts pl v.items t)) := by
 cases v; rw [fitV]; rfl
abbrev bodyV (ts : List Typ) (pl : Bool) (x : Typ) (v : Val) : Bool := bodyR pl x v (fun t => fitL ts pl v.keys t) (fun t => fitL ts pl v.items t) (fun ms => fitZ ts pl v.items ms) (fun t => fitH ts pl v.items t)
end Go.Proofs.Ytgeapglanckjpaa
namespace Go.Proofs.Ytgeapglanckjpaa
open Go.ChangeShapes Go.WideShapes Go.ChangeAt Go.RowKit
def stepV (x : Typ) (v : Val) (p : Int) : Option (Val × Int) :=
 if x.kind = 5 then
  match memIdx x p with
  | none => none
  | some k => match x.mems[k]?, v.items[k]? with
   | some m, some y => some (y, m.ty)
   | _, _ => none
 else if x.kind = 6 then
  match memIdx x p with
  | none => none
  | some k => if p = v.id then (match x.mems[k]?, v.items[0]? with
   | some m, some y => some (y, m.ty)
   | _, _ => none) else none
 else if 0 ≤ p then (match v.items[p.toNat]? with
  | some y => some (y, x.elem)
  | none => none) else none
def atV (ts : List Typ) : List Int → Val → Int → Option (Val × Int)
 | [], v, t => some (v, t)
 | p :: r, v, t => match typAt ts t with
  | none => none
  | some x => match stepV x v p with
   | none => none
   | some q => atV ts r q.1 q.2
theorem atV_cons (ts : List Typ) (p : Int) (r : List Int) (v : Val) (t : Int) (x : Typ) (h : typAt ts t = some x) : atV ts (p :: r) v t = match stepV x v p with | none => none | some q => atV ts r q.1 q.2 := by
 rw [atV, h]
theorem step5_none (x : Typ) (v : Val) (p : Int) (h5 : x.kind = 5) (hm : memIdx x p = none) : stepV x v p = none := by unfold stepV; rw [if_pos h5, hm]
theorem step5_some (x : Typ) (v : Val) (p : Int) (i : Nat) (h5 : x.kind = 5) (hm : memIdx x p = some i) (h1 : i < x.mems.length) (h2 : i < v.items.length) : stepV x v p = some (v.items[i], x.mems[i].ty) := by
 unfold stepV; rw [if_pos h5, hm]; simp [h1, h2]
theorem step5_out (x : Typ) (v : Val) (p : Int) (i : Nat) (h5 : x.kind = 5) (hm : memIdx x p = some i) (h2 : ¬ i < v.items.length) : stepV x v p = none := by
 unfold stepV; rw [if_pos h5, hm]
 have h3 : v.items[i]? = none := List.getElem?_eq_none (by omega)
 simp [h3]
theorem step6_none (x : Typ) (v : Val) (p : Int) (h6 : x.kind = 6) (hm : memIdx x p = none) : stepV x v p = none := by unfold stepV; rw [if_neg (by omega), if_pos h6, hm]
theorem step6_ne (x : Typ) (v : Val) (p : Int) (h6 : x.kind = 6) (hne : p ≠ v.id) : stepV x v p = none := by
 unfold stepV; rw [if_neg (by omega), if_pos h6]
 cases memIdx x p with
 | none => rfl
 | some i => simp [hne]
theorem step6_some (x : Typ) (v : Val) (p : Int) (i : Nat) (h6 : x.kind = 6) (hm : memIdx x p = some i) (hp : p = v.id) (h1 : i < x.mems.length) (h2 : 0 < v.items.length) : stepV x v p = some (v.items[0], x.mems[i].ty) := by
 unfold stepV; rw [if_neg (by omega), if_pos h6, hm]; simp [h1, h2, hp]
theorem step6_out (x : Typ) (v : Val) (p : Int) (h6 : x.kind = 6) (h2 : ¬ 0 < v.items.length) : stepV x v p = none := by
 unfold stepV; rw [if_neg (by omega), if_pos h6]
 have h3 : v.items[0]? = none := List.getElem?_eq_none (by omega)
 cases memIdx x p with
 | none => rfl
 | some i => simp [h3]
theorem step7_some (x : Typ) (v : Val) (i : Nat) (h5 : ¬ x.kind = 5) (h6 : ¬ x.kind = 6) (h2 : i < v.items.length) : stepV x v i = some (v.items[i], x.elem) := by
 unfold stepV; rw [if_neg h5, if_neg h6]; simp [h2]
theorem step7_neg (x : Typ) (v : Val) (p : Int) (h5 : ¬ x.kind = 5) (h6 : ¬ x.kind = 6) (h2 : p < 0) : stepV x v p = none := by
 unfold stepV; rw [if_neg h5, if_neg h6, if_neg (by omega)]
theorem step7_out (x : Typ) (v : Val) (i : Nat) (h5 : ¬ x.kind = 5) (h6 : ¬ x.kind = 6) (h2 : ¬ i < v.items.length) : stepV x v i = none := by
 unfold stepV; rw [if_neg h5, if_neg h6]
 have h3 : v.items[i]? = none := List.getElem?_eq_none (by omega)
 simp [h3]
theorem fitL_get (ts : List Typ) (pl : Bool) (t : Int) (l : List Val) (h : fitL ts pl l t = true) (k : Nat) (y : Val) (hy : l[k]? = some y) : fitV ts pl y t = true := by
 rw [fitL_all, List.all_eq_true] at h
 exact h y (List.mem_of_getElem? hy)
theorem fitZ_get (ts : List Typ) (pl : Bool) : ∀ (l : List Val) (ms : List Mem), fitZ ts pl l ms = true → ∀ (k : Nat) (y : Val) (m : Mem), l[k]? = some y → ms[k]? = some m → fitV ts pl y m.ty = true
 | [], _, _, k, y, m, h, _ => by simp at h
 | _ :: _, [], _, k, y, m, _, h => by simp at h
 | a :: r, b :: ms, h, k, y, m, h1, h2 => by
  rw [fitZ, Bool.and_eq_true] at h
  cases k with
  | zero =>
   simp only [List.getElem?_cons_zero, Option.some.injEq] at h1 h2
   subst h1; subst h2; exact h.1
  | succ k =>
   simp only [List.getElem?_cons_succ] at h1 h2
   exact fitZ_get ts pl r ms h.2 k y m h1 h2
theorem fit_parts (ts : List Typ) (pl : Bool) (v : Val) (t : Int) (x : Typ) (h : fitV ts pl v t = true) (hx : typAt ts t = some x) : v.kind = x.kind ∧ properB v = true ∧ bodyV ts pl x v = true := by
 rw [fitV_eq, hx] at h
 simp only [Bool.and_eq_true, decide_eq_true_eq] at h
 exact h
theorem proper_items (v : Val) (h : properB v = true) (hk : v.kind < 5) : v.items = [] := by
 simp only [properB, Bool.and_eq_true, Bool.or_eq_true, decide_eq_true_eq] at h
 have h1 := h.2.2.2.2.2.1
 rcases h1 with h1 | h1
 ·
  omega
 exact List.eq_nil_of_length_eq_zero h1
theorem step_fit (ts : List Typ) (pl : Bool) (v : Val) (t : Int) (x : Typ) (p : Int) (y : Val) (u : Int) (hk : 1 ≤ x.kind ∧ x.kind ≤ 9) (h : fitV ts pl v t = true) (hx : typAt ts t = some x) (hs : stepV x v p = some (y, u)) : fitV ts pl y u = true := by
 obtain ⟨hkk, hp, hb⟩ := fit_parts ts pl v t x h hx
 unfold stepV at hs
 unfold bodyV bodyR at hb
 split at hs
 ·
  next h5 =>
  simp only [h5] at hb
  simp only [show ¬(5 : Int) = 2 by omega, show ¬(5 : Int) = 3 by omega, show ¬(5 : Int) = 4 by omega, if_false, if_true, Bool.and_eq_true] at hb
  split at hs
  ·
   cases hs
  split at hs
  ·
   next k _ m z h1 h2 =>
   injection hs with hs; injection hs with e1 e2; subst e1; subst e2
   exact fitZ_get ts pl _ _ hb.2.2.2 _ _ _ h2 h1
  cases hs
 split at hs
 ·
  next h6 =>
  simp only [h6] at hb
  simp only [show ¬(6 : Int) = 2 by omega, show ¬(6 : Int) = 3 by omega, show ¬(6 : Int) = 4 by omega, show ¬(6 : Int) = 5 by omega, if_false, if_true] at hb
  split at hs
  ·
   cases hs
  next k hm =>
  split at hs
  ·
   next hpv =>
   subst hpv
   split at hs
   ·
    next m z h1 h2 =>
    injection hs with hs; injection hs with e1 e2; subst e1; subst e2
    rw [hm] at hb
    simp only [h1, Bool.and_eq_true] at hb
    have h3 := hb.2.2
    cases hi : v.items with
    | nil => rw [hi] at h2; simp at h2
    | cons a r =>
     rw [hi] at h2 h3
     simp only [List.getElem?_cons_zero, Option.some.injEq] at h2
     subst h2
     rwa [fitH] at h3
   cases hs
  cases hs
 next h5 h6 =>
 split at hs
 ·
  split at hs
  ·
   next z h1 =>
   injection hs with hs; injection hs with e1 e2; subst e1; subst e2
   by_cases h4 : x.kind < 5
   ·
    rw [proper_items v hp (by omega)] at h1
    simp at h1
   rw [if_neg (by omega), if_neg (by omega), if_neg (by omega), if_neg h5, if_neg h6] at hb
   have h3 : fitL ts pl v.items x.elem = true := by
    split at hb
    ·
     simp only [Bool.and_eq_true] at hb; exact hb.2
    split at hb
    ·
     simp only [Bool.and_eq_true] at hb; exact hb.2.2.2.2
    rw [if_pos (by omega)] at hb
    simp only [Bool.and_eq_true] at hb; exact hb.2
   exact fitL_get ts pl _ _ h3 _ _ h1
  cases hs
 cases hs
theorem step_mem (x : Typ) (v : Val) (p : Int) (y : Val) (u : Int) (hs : stepV x v p = some (y, u)) : y ∈ v.items := by
 unfold stepV at hs
 split at hs
 ·
  split at hs
  ·
   cases hs
  split at hs
  ·
   next h2 => injection hs with hs; injection hs with e1 e2; subst e1; exact List.mem_of_getElem? h2
  cases hs
 split at hs
 ·
  split at hs
  ·
   cases hs
  split at hs
  ·
   split at hs
   ·
    next h2 => injection hs with hs; injection hs with e1 e2; subst e1; exact List.mem_of_getElem? h2
   cases hs
  cases hs
 split at hs
 ·
  split at hs
  ·
   next h2 => injection hs with hs; injection hs with e1 e2; subst e1; exact List.mem_of_getElem? h2
  cases hs
 cases hs
theorem step_wt (x : Typ) (v : Val) (p : Int) (y : Val) (u : Int) (hs : stepV x v p = some (y, u)) : wt y ≤ wt v := by
 have h1 := wtL_mem v.items y (step_mem x v p y u hs)
 have h2 := wt_eq v
 omega
def atE (ts : List Typ) (path : List Int) (v : Val) (t : Int) : Except Int (Val × Int) :=
 if fitV ts false v t then (match atV ts path v t with
  | some r => .ok r
  | none => .error 4) else .error 1
def AtPost (w : World) (r : Except Int (Val × Int)) (e : Ending) (w' : World) : Prop :=
 match r with
 | .ok q => (∃ vk vi vr, e = .returned (.tuple #[valA q.1 vk vi vr, .int .i64 q.2, .int .i64 0]) ∧ ValAt w' w'.heap.size q.1 vk vi vr) ∧ Below w.heap.size w w'
 | .error n => e = .returned (.tuple #[.agg #[.int .i64 0, .bool false, .int .i64 0, .string ⟨#[]⟩, .int .i64 0, .slice none 0 0, .slice none 0 0, .slice none 0 0], .int .i64 0, .int .i64 n]) ∧ Below w.heap.size w w'
end Go.Proofs.Ytgeapglanckjpaa
namespace Go.Proofs.Ytgeapglanckjpaa
open Go.ChangeShapes Go.WideShapes Go.ChangeAt Go.RowKit
def numV (n : Int) : Val := .mk 2 false n [] 0 [] [] []
def strV (s : List UInt8) : Val := .mk 3 false 0 s 0 [] [] []
theorem rdvals_nil (w : World) (B : Nat) : RdVals w B (.slice none 0 0) [] := ⟨fun _ => [], ⟨none, 0, rfl, Nat.le_refl _, .inl rfl⟩, fun i h => by simp at h⟩
theorem rdmems_nil (w : World) (B : Nat) : RdMems w B (.slice none 0 0) [] := ⟨fun _ => [], ⟨none, 0, rfl, Nat.le_refl _, .inl rfl⟩, fun i h => by simp at h⟩
theorem leaf_at (w : World) (B : Nat) (k : Int) (b : Bool) (n : Int) (s : List UInt8) (id : Int) (h : I64 k ∧ I64 n ∧ I64 id) (hs : s.length ≤ 140737488351232) : ValAt w B (.mk k b n s id [] [] []) (.slice none 0 0) (.slice none 0 0) (.slice none 0 0) :=
 ⟨h, hs, ⟨by simp [Val.keys], by simp [Val.items], by simp [Val.rest]⟩, by simp [Val.rest], rdvals_nil w B, rdvals_nil w B, Rd.nil_ w B 2⟩
theorem num_at (w : World) (B : Nat) (n : Int) (h : I64 n) : ValAt w B (numV n) (.slice none 0 0) (.slice none 0 0) (.slice none 0 0) := leaf_at w B 2 false n [] 0 ⟨by simp [I64], h, by simp [I64]⟩ (by simp)
theorem str_at (w : World) (B : Nat) (s : List UInt8) (h : s.length ≤ 140737488351232) : ValAt w B (strV s) (.slice none 0 0) (.slice none 0 0) (.slice none 0 0) := leaf_at w B 3 false 0 s 0 ⟨by simp [I64], by simp [I64], by simp [I64]⟩ h
theorem val0_at (w : World) (B : Nat) : ValAt w B val0 (.slice none 0 0) (.slice none 0 0) (.slice none 0 0) := leaf_at w B 0 false 0 [] 0 ⟨by simp [I64], by simp [I64], by simp [I64]⟩ (by simp)
theorem alloc_hs' (w : World) (o : Obj) : (w.alloc o).heap.size = w.heap.size + 1 := by simp
set_option maxRecDepth 100000 in
theorem num_any (n : Int) (w : World) : Calls Try.prog 20 #[.int .i64 n] w fun e w' => e = .returned (.agg #[.int .i64 2, .bool false, .int .i64 n, .string ⟨#[]⟩, .int .i64 0, .slice none 0 0, .slice none 0 0, .slice none 0 0]) ∧ Below w.heap.size w w' := by
 go_enter Try.func20, Try.ntmps20
 go_wp2_with fail
 exact bodyPost_ret (v := .agg #[.int .i64 2, .bool false, .int .i64 n, .string ⟨#[]⟩, .int .i64 0, .slice none 0 0, .slice none 0 0, .slice none 0 0]) (by simp [results, Try.results20, go_sem]) rfl ⟨rfl, (Below.refl _ _).alloc (Nat.le_refl _) _⟩
set_option maxRecDepth 100000 in
theorem str_any (s : List UInt8) (w : World) : Calls Try.prog 24 #[.string ⟨s.toArray⟩] w fun e w' => e = .returned (.agg #[.int .i64 3, .bool false, .int .i64 0, .string ⟨s.toArray⟩, .int .i64 0, .slice none 0 0, .slice none 0 0, .slice none 0 0]) ∧ Below w.heap.size w w' := by
 go_enter Try.func24, Try.ntmps24
 go_wp2_with fail
 exact bodyPost_ret (v := .agg #[.int .i64 3, .bool false, .int .i64 0, .string ⟨s.toArray⟩, .int .i64 0, .slice none 0 0, .slice none 0 0, .slice none 0 0]) (by simp [results, Try.results24, go_sem]) rfl ⟨rfl, (Below.refl _ _).alloc (Nat.le_refl _) _⟩
def pointM : List Mem := [⟨1, [120], 1, false, false, val0⟩, ⟨3, [121], 2, false, false, val0⟩]
def pointT : List Typ := [⟨5, [80, 111, 105, 110, 116], 0, 0, 0, [], pointM, 0, 0, false⟩, ⟨2, [], 0, 9, 0, [], [], 0, 0, false⟩, ⟨9, [], 0, 0, 0, [], [], 0, 1, false⟩]
theorem row_hasP {w : World} {B g size n : Nat} {T : TypeId} {c : Nat → List Value} (h : Has w g T (rowsV c n).toArray) (hB : g < B) (hc : ∀ i, i < n → (c i).length = size) : Row w B size (.slice (some ⟨g, 0, none⟩) n n) n c := by
 refine ⟨_, n, rfl, Nat.le_refl _, ?_⟩
 refine .inr ⟨g, 0, rfl, hB, fun i hi j u hu => ?_⟩
 have hj : j < size := by rw [← hc i hi]; exact (List.getElem?_eq_some_iff.1 hu).1
 have h1 := h.cell (i * size + j)
 rw [List.getElem?_toArray, rowsV_get c size n hc i j hi hj, hu] at h1
 rw [show 0 + i * size + j = i * size + j by omega]
 exact h1
def ptMc : Nat → List Value
 | 0 => memV ⟨1, [120], 1, false, false, val0⟩ (.slice none 0 0) (.slice none 0 0) (.slice none 0 0)
 | _ => memV ⟨3, [121], 2, false, false, val0⟩ (.slice none 0 0) (.slice none 0 0) (.slice none 0 0)
theorem pointM_rd {w : World} {B g : Nat} {T : TypeId} (h : Has w g T (rowsV ptMc 2).toArray) (hB : g < B) : RdMems w B (.slice (some ⟨g, 0, none⟩) 2 2) pointM := by
 refine ⟨ptMc, row_hasP h hB (fun i hi => ?_), fun i hi => ?_⟩
 ·
  match i, hi with
  | 0, _ => rfl
  | 1, _ => rfl
 match i, hi with
 | 0, _ => exact ⟨_, _, _, rfl, ⟨by simp [I64, pointM], by simp [pointM], val0_at w B⟩⟩
 | 1, _ => exact ⟨_, _, _, rfl, ⟨by simp [I64, pointM], by simp [pointM], val0_at w B⟩⟩
def ptTc (g : Nat) : Nat → List Value
 | 0 => typV ⟨5, [80, 111, 105, 110, 116], 0, 0, 0, [], pointM, 0, 0, false⟩ (.slice none 0 0) (.slice (some ⟨g, 0, none⟩) 2 2)
 | 1 => typV ⟨2, [], 0, 9, 0, [], [], 0, 0, false⟩ (.slice none 0 0) (.slice none 0 0)
 | _ => typV ⟨9, [], 0, 0, 0, [], [], 0, 1, false⟩ (.slice none 0 0) (.slice none 0 0)
theorem pointT_rd {w : World} {B g g2 : Nat} {T T2 : TypeId} (h : Has w g T (rowsV ptMc 2).toArray) (h2 : Has w g2 T2 (rowsV (ptTc g) 3).toArray) (hB : g < B) (hB2 : g2 < B) : RdTyps w B (.slice (some ⟨g2, 0, none⟩) 3 3) pointT := by
 refine ⟨ptTc g, row_hasP h2 hB2 (fun i hi => ?_), fun i hi => ?_⟩
 ·
  match i, hi with
  | 0, _ => rfl
  | 1, _ => rfl
  | 2, _ => rfl
 match i, hi with
 | 0, _ => exact ⟨_, _, rfl, ⟨by simp [I64, pointT], by simp [pointT], by simp [pointT, pointM], by simp [pointT], Rd.nil_ w B 2, pointM_rd h hB⟩⟩
 | 1, _ => exact ⟨_, _, rfl, ⟨by simp [I64, pointT], by simp [pointT], by simp [pointT], by simp [pointT], Rd.nil_ w B 2, rdmems_nil w B⟩⟩
 | 2, _ => exact ⟨_, _, rfl, ⟨by simp [I64, pointT], by simp [pointT], by simp [pointT], by simp [pointT], Rd.nil_ w B 2, rdmems_nil w B⟩⟩
def PointPost (w : World) (e : Ending) (w' : World) : Prop := ∃ g, e = .returned (.agg #[.slice (some ⟨g, 0, none⟩) 3 3]) ∧ RdTyps w' w'.heap.size (.slice (some ⟨g, 0, none⟩) 3 3) pointT ∧ Below w.heap.size w w'
set_option maxRecDepth 100000 in
theorem point_any (w : World) : Calls Try.prog 19 #[] w (PointPost w) := by
 go_enter Try.func19, Try.ntmps19
 go_wp2_with fail
 refine bodyPost_ret (v := .agg #[.slice (some ⟨w.heap.size + 1 + 1, 0, none⟩) 3 3]) (by simp [results, Try.results19, go_sem]) rfl ⟨_, rfl, ?_, ?_⟩
 ·
  have h1 := (Has.made (w.alloc (.cells #[.slice (some ⟨w.heap.size + 1 + 1, 0, none⟩) 3 3] 30)) 66 (rowsV ptMc 2).toArray).alloc (.cells (rowsV (ptTc (w.heap.size + 1)) 3).toArray 64)
  have h2 := Has.made ((w.alloc (.cells #[.slice (some ⟨w.heap.size + 1 + 1, 0, none⟩) 3 3] 30)).alloc (.cells (rowsV ptMc 2).toArray 66)) 64 (rowsV (ptTc (w.heap.size + 1)) 3).toArray
  rw [alloc_hs'] at h1
  rw [alloc_hs', alloc_hs'] at h2
  exact pointT_rd h1 h2 (by simp) (by simp)
 exact (((Below.refl _ _).alloc (Nat.le_refl _) _).alloc (by simp) _).alloc (by simp; omega) _
end Go.Proofs.Ytgeapglanckjpaa

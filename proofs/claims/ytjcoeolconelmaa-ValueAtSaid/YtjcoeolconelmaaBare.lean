/- What bare and proper compute. No condition. -/
import Derived.Test.YtjcoeolconelmaaTypI
namespace Go.Proofs.Ytjcoeolconelmaa
open Go.ChangeShapes Go.WideShapes Go.ChangeAt Go.RowKit

def nilV : Value := .slice none 0 0
def properB (x : Val) : Bool :=
  (decide (x.kind = 1) || !x.bool) && ((decide (x.kind = 2) || decide (x.num = 0)) && ((decide (x.kind = 3) || decide (x.str = [])) && ((decide (x.kind = 4 ∨ x.kind = 6) || decide (x.id = 0)) &&
    ((decide (x.kind = 8) || decide (x.keys.length = 0)) && ((decide (5 ≤ x.kind ∧ x.kind ≤ 9) || decide (x.items.length = 0)) && (decide (x.kind = 5 ∨ x.kind = 6) || decide (x.rest.length = 0)))))))

set_option maxRecDepth 100000 in
set_option maxHeartbeats 400000 in
theorem bare1_any (x : Val) (A1 A2 A3 : Option Addr) (n1 n2 n3 : Nat) (w : World) (hk : x.kind = 1) :
    Calls Try.prog 91 #[valA x (.slice A1 x.keys.length n1) (.slice A2 x.items.length n2) (.slice A3 x.rest.length n3)] w fun e w' => e = .returned (.agg #[.int .i64 1, .bool x.bool, .int .i64 0, .string ⟨([] : List UInt8).toArray⟩, .int .i64 0, .slice none 0 0, .slice none 0 0, .slice none 0 0]) ∧ Below w.heap.size w w' := by
  have h3b := fun (o1 o2 o3 : Obj) => (((Below.refl w.heap.size w).alloc (Nat.le_refl _) o1).alloc (show w.heap.size ≤ (w.alloc o1).heap.size by simp) o2).alloc (show w.heap.size ≤ ((w.alloc o1).alloc o2).heap.size by simp; omega) o3
  simp only [valA, hk]
  go_enter Try.func91, Try.ntmps91
  go_wp2_with fail
  skip
  refine bodyPost_ret (v := .agg #[.int .i64 1, .bool x.bool, .int .i64 0, .string ⟨([] : List UInt8).toArray⟩, .int .i64 0, .slice none 0 0, .slice none 0 0, .slice none 0 0]) (by simp [results, Try.results91, go_sem]) rfl ⟨rfl, ?_⟩
  first | exact h3b _ _ _ | exact (h3b _ _ _).drew
set_option maxRecDepth 100000 in
set_option maxHeartbeats 400000 in
theorem bare2_any (x : Val) (A1 A2 A3 : Option Addr) (n1 n2 n3 : Nat) (w : World) (hk : x.kind = 2) :
    Calls Try.prog 91 #[valA x (.slice A1 x.keys.length n1) (.slice A2 x.items.length n2) (.slice A3 x.rest.length n3)] w fun e w' => e = .returned (.agg #[.int .i64 2, .bool false, .int .i64 x.num, .string ⟨([] : List UInt8).toArray⟩, .int .i64 0, .slice none 0 0, .slice none 0 0, .slice none 0 0]) ∧ Below w.heap.size w w' := by
  have h3b := fun (o1 o2 o3 : Obj) => (((Below.refl w.heap.size w).alloc (Nat.le_refl _) o1).alloc (show w.heap.size ≤ (w.alloc o1).heap.size by simp) o2).alloc (show w.heap.size ≤ ((w.alloc o1).alloc o2).heap.size by simp; omega) o3
  simp only [valA, hk]
  go_enter Try.func91, Try.ntmps91
  go_wp2_with fail
  skip
  refine bodyPost_ret (v := .agg #[.int .i64 2, .bool false, .int .i64 x.num, .string ⟨([] : List UInt8).toArray⟩, .int .i64 0, .slice none 0 0, .slice none 0 0, .slice none 0 0]) (by simp [results, Try.results91, go_sem]) rfl ⟨rfl, ?_⟩
  first | exact h3b _ _ _ | exact (h3b _ _ _).drew
set_option maxRecDepth 100000 in
set_option maxHeartbeats 400000 in
theorem bare3_any (x : Val) (A1 A2 A3 : Option Addr) (n1 n2 n3 : Nat) (w : World) (hk : x.kind = 3) :
    Calls Try.prog 91 #[valA x (.slice A1 x.keys.length n1) (.slice A2 x.items.length n2) (.slice A3 x.rest.length n3)] w fun e w' => e = .returned (.agg #[.int .i64 3, .bool false, .int .i64 0, .string ⟨(x.str : List UInt8).toArray⟩, .int .i64 0, .slice none 0 0, .slice none 0 0, .slice none 0 0]) ∧ Below w.heap.size w w' := by
  have h3b := fun (o1 o2 o3 : Obj) => (((Below.refl w.heap.size w).alloc (Nat.le_refl _) o1).alloc (show w.heap.size ≤ (w.alloc o1).heap.size by simp) o2).alloc (show w.heap.size ≤ ((w.alloc o1).alloc o2).heap.size by simp; omega) o3
  simp only [valA, hk]
  go_enter Try.func91, Try.ntmps91
  go_wp2_with fail
  skip
  refine bodyPost_ret (v := .agg #[.int .i64 3, .bool false, .int .i64 0, .string ⟨(x.str : List UInt8).toArray⟩, .int .i64 0, .slice none 0 0, .slice none 0 0, .slice none 0 0]) (by simp [results, Try.results91, go_sem]) rfl ⟨rfl, ?_⟩
  first | exact h3b _ _ _ | exact (h3b _ _ _).drew
set_option maxRecDepth 100000 in
set_option maxHeartbeats 400000 in
theorem bare4_any (x : Val) (A1 A2 A3 : Option Addr) (n1 n2 n3 : Nat) (w : World) (hk : x.kind = 4) :
    Calls Try.prog 91 #[valA x (.slice A1 x.keys.length n1) (.slice A2 x.items.length n2) (.slice A3 x.rest.length n3)] w fun e w' => e = .returned (.agg #[.int .i64 4, .bool false, .int .i64 0, .string ⟨([] : List UInt8).toArray⟩, .int .i64 x.id, .slice none 0 0, .slice none 0 0, .slice none 0 0]) ∧ Below w.heap.size w w' := by
  have h3b := fun (o1 o2 o3 : Obj) => (((Below.refl w.heap.size w).alloc (Nat.le_refl _) o1).alloc (show w.heap.size ≤ (w.alloc o1).heap.size by simp) o2).alloc (show w.heap.size ≤ ((w.alloc o1).alloc o2).heap.size by simp; omega) o3
  simp only [valA, hk]
  go_enter Try.func91, Try.ntmps91
  go_wp2_with fail
  skip
  refine bodyPost_ret (v := .agg #[.int .i64 4, .bool false, .int .i64 0, .string ⟨([] : List UInt8).toArray⟩, .int .i64 x.id, .slice none 0 0, .slice none 0 0, .slice none 0 0]) (by simp [results, Try.results91, go_sem]) rfl ⟨rfl, ?_⟩
  first | exact h3b _ _ _ | exact (h3b _ _ _).drew
set_option maxRecDepth 100000 in
set_option maxHeartbeats 400000 in
theorem bare5_any (x : Val) (A1 A2 A3 : Option Addr) (n1 n2 n3 : Nat) (w : World) (hk : x.kind = 5) :
    Calls Try.prog 91 #[valA x (.slice A1 x.keys.length n1) (.slice A2 x.items.length n2) (.slice A3 x.rest.length n3)] w fun e w' => e = .returned (.agg #[.int .i64 5, .bool false, .int .i64 0, .string ⟨([] : List UInt8).toArray⟩, .int .i64 0, .slice none 0 0, .slice A2 x.items.length n2, .slice A3 x.rest.length n3]) ∧ Below w.heap.size w w' := by
  have h3b := fun (o1 o2 o3 : Obj) => (((Below.refl w.heap.size w).alloc (Nat.le_refl _) o1).alloc (show w.heap.size ≤ (w.alloc o1).heap.size by simp) o2).alloc (show w.heap.size ≤ ((w.alloc o1).alloc o2).heap.size by simp; omega) o3
  simp only [valA, hk]
  go_enter Try.func91, Try.ntmps91
  go_wp2_with fail
  (go_region; go_wp2_with fail)
  refine bodyPost_ret (v := .agg #[.int .i64 5, .bool false, .int .i64 0, .string ⟨([] : List UInt8).toArray⟩, .int .i64 0, .slice none 0 0, .slice A2 x.items.length n2, .slice A3 x.rest.length n3]) (by simp [results, Try.results91, go_sem]) rfl ⟨rfl, ?_⟩
  first | exact h3b _ _ _ | exact (h3b _ _ _).drew
set_option maxRecDepth 100000 in
set_option maxHeartbeats 400000 in
theorem bare6_any (x : Val) (A1 A2 A3 : Option Addr) (n1 n2 n3 : Nat) (w : World) (hk : x.kind = 6) :
    Calls Try.prog 91 #[valA x (.slice A1 x.keys.length n1) (.slice A2 x.items.length n2) (.slice A3 x.rest.length n3)] w fun e w' => e = .returned (.agg #[.int .i64 6, .bool false, .int .i64 0, .string ⟨([] : List UInt8).toArray⟩, .int .i64 x.id, .slice none 0 0, .slice A2 x.items.length n2, .slice A3 x.rest.length n3]) ∧ Below w.heap.size w w' := by
  have h3b := fun (o1 o2 o3 : Obj) => (((Below.refl w.heap.size w).alloc (Nat.le_refl _) o1).alloc (show w.heap.size ≤ (w.alloc o1).heap.size by simp) o2).alloc (show w.heap.size ≤ ((w.alloc o1).alloc o2).heap.size by simp; omega) o3
  simp only [valA, hk]
  go_enter Try.func91, Try.ntmps91
  go_wp2_with fail
  (go_region; go_wp2_with fail)
  refine bodyPost_ret (v := .agg #[.int .i64 6, .bool false, .int .i64 0, .string ⟨([] : List UInt8).toArray⟩, .int .i64 x.id, .slice none 0 0, .slice A2 x.items.length n2, .slice A3 x.rest.length n3]) (by simp [results, Try.results91, go_sem]) rfl ⟨rfl, ?_⟩
  first | exact h3b _ _ _ | exact (h3b _ _ _).drew
set_option maxRecDepth 100000 in
set_option maxHeartbeats 400000 in
theorem bare7_any (x : Val) (A1 A2 A3 : Option Addr) (n1 n2 n3 : Nat) (w : World) (hk : x.kind = 7) :
    Calls Try.prog 91 #[valA x (.slice A1 x.keys.length n1) (.slice A2 x.items.length n2) (.slice A3 x.rest.length n3)] w fun e w' => e = .returned (.agg #[.int .i64 7, .bool false, .int .i64 0, .string ⟨([] : List UInt8).toArray⟩, .int .i64 0, .slice none 0 0, .slice A2 x.items.length n2, .slice none 0 0]) ∧ Below w.heap.size w w' := by
  have h3b := fun (o1 o2 o3 : Obj) => (((Below.refl w.heap.size w).alloc (Nat.le_refl _) o1).alloc (show w.heap.size ≤ (w.alloc o1).heap.size by simp) o2).alloc (show w.heap.size ≤ ((w.alloc o1).alloc o2).heap.size by simp; omega) o3
  simp only [valA, hk]
  go_enter Try.func91, Try.ntmps91
  go_wp2_with fail
  skip
  refine bodyPost_ret (v := .agg #[.int .i64 7, .bool false, .int .i64 0, .string ⟨([] : List UInt8).toArray⟩, .int .i64 0, .slice none 0 0, .slice A2 x.items.length n2, .slice none 0 0]) (by simp [results, Try.results91, go_sem]) rfl ⟨rfl, ?_⟩
  first | exact h3b _ _ _ | exact (h3b _ _ _).drew
set_option maxRecDepth 100000 in
set_option maxHeartbeats 400000 in
theorem bare8_any (x : Val) (A1 A2 A3 : Option Addr) (n1 n2 n3 : Nat) (w : World) (hk : x.kind = 8) :
    Calls Try.prog 91 #[valA x (.slice A1 x.keys.length n1) (.slice A2 x.items.length n2) (.slice A3 x.rest.length n3)] w fun e w' => e = .returned (.agg #[.int .i64 8, .bool false, .int .i64 0, .string ⟨([] : List UInt8).toArray⟩, .int .i64 0, .slice A1 x.keys.length n1, .slice A2 x.items.length n2, .slice none 0 0]) ∧ Below w.heap.size w w' := by
  have h3b := fun (o1 o2 o3 : Obj) => (((Below.refl w.heap.size w).alloc (Nat.le_refl _) o1).alloc (show w.heap.size ≤ (w.alloc o1).heap.size by simp) o2).alloc (show w.heap.size ≤ ((w.alloc o1).alloc o2).heap.size by simp; omega) o3
  simp only [valA, hk]
  go_enter Try.func91, Try.ntmps91
  go_wp2_with fail
  (go_region; go_wp2_with fail)
  refine bodyPost_ret (v := .agg #[.int .i64 8, .bool false, .int .i64 0, .string ⟨([] : List UInt8).toArray⟩, .int .i64 0, .slice A1 x.keys.length n1, .slice A2 x.items.length n2, .slice none 0 0]) (by simp [results, Try.results91, go_sem]) rfl ⟨rfl, ?_⟩
  first | exact h3b _ _ _ | exact (h3b _ _ _).drew
set_option maxRecDepth 100000 in
set_option maxHeartbeats 400000 in
theorem bare9_any (x : Val) (A1 A2 A3 : Option Addr) (n1 n2 n3 : Nat) (w : World) (hk : x.kind = 9) :
    Calls Try.prog 91 #[valA x (.slice A1 x.keys.length n1) (.slice A2 x.items.length n2) (.slice A3 x.rest.length n3)] w fun e w' => e = .returned (.agg #[.int .i64 9, .bool false, .int .i64 0, .string ⟨([] : List UInt8).toArray⟩, .int .i64 0, .slice none 0 0, .slice A2 x.items.length n2, .slice none 0 0]) ∧ Below w.heap.size w w' := by
  have h3b := fun (o1 o2 o3 : Obj) => (((Below.refl w.heap.size w).alloc (Nat.le_refl _) o1).alloc (show w.heap.size ≤ (w.alloc o1).heap.size by simp) o2).alloc (show w.heap.size ≤ ((w.alloc o1).alloc o2).heap.size by simp; omega) o3
  simp only [valA, hk]
  go_enter Try.func91, Try.ntmps91
  go_wp2_with fail
  skip
  refine bodyPost_ret (v := .agg #[.int .i64 9, .bool false, .int .i64 0, .string ⟨([] : List UInt8).toArray⟩, .int .i64 0, .slice none 0 0, .slice A2 x.items.length n2, .slice none 0 0]) (by simp [results, Try.results91, go_sem]) rfl ⟨rfl, ?_⟩
  first | exact h3b _ _ _ | exact (h3b _ _ _).drew

set_option maxRecDepth 100000 in
set_option maxHeartbeats 400000 in
theorem proper1_any (x : Val) (A1 A2 A3 : Option Addr) (n1 n2 n3 : Nat) (w : World) (hk : x.kind = 1) :
    Calls Try.prog 68 #[valA x (.slice A1 x.keys.length n1) (.slice A2 x.items.length n2) (.slice A3 x.rest.length n3)] w fun e w' => e = .returned (.bool (properB x)) ∧ Below w.heap.size w w' := by
  have hb := fun W => bare1_any x A1 A2 A3 n1 n2 n3 W hk
  have HB := Lib.hid hb
  have HK := Lib.hid hk
  have h01 := (Below.refl w.heap.size w).alloc (Nat.le_refl _) (.cells #[.int .i64 1, .bool x.bool, .int .i64 x.num, .string ⟨x.str.toArray⟩, .int .i64 x.id, .slice A1 x.keys.length n1, .slice A2 x.items.length n2, .slice A3 x.rest.length n3] 28)
  have HP := Has.made w 28 #[.int .i64 1, .bool x.bool, .int .i64 x.num, .string ⟨x.str.toArray⟩, .int .i64 x.id, .slice A1 x.keys.length n1, .slice A2 x.items.length n2, .slice A3 x.rest.length n3]
  simp only [valA, hk] at HB ⊢
  obtain ⟨pb, hpb⟩ : ∃ pb, properB x = pb := ⟨_, rfl⟩
  rw [hpb]
  have Hpb := Lib.hid hpb
  clear hb hk hpb
  go_enter Try.func68, Try.ntmps68
  go_wp2_with fail
  refine (HB.out _).mono ?_
  rintro e w2 ⟨rfl, hb2⟩
  have h02 := (h01.trans (hb2.mono h01.size)).alloc (h01.trans (hb2.mono h01.size)).size (.cells #[.int .i64 1, .bool x.bool, .int .i64 0, .string ⟨([] : List UInt8).toArray⟩, .int .i64 0, .slice none 0 0, .slice none 0 0, .slice none 0 0] 28)
  have HP2 := HP.below hb2 (by simp)
  have c1 := HP2.cell 1
  have c2 := HP2.cell 2
  have c3 := HP2.cell 3
  have c4 := HP2.cell 4
  have c5 := HP2.cell 5
  have c6 := HP2.cell 6
  have c7 := HP2.cell 7
  have hz2 := HP2.here
  simp only [List.getElem?_toArray, List.getElem?_cons_succ, List.getElem?_cons_zero] at c1 c2 c3 c4 c5 c6 c7
  clear HP HP2 hb2 h01 HB
  go_wp2_with fail
  all_goals go_ret
  all_goals refine ⟨ret_bool ?_, h02⟩
  all_goals rw [← Hpb.out]
  all_goals first | (simp [properB, HK.out, *]; done) | (simp [properB, HK.out, *]; cases x.rest with | nil => simp | cons a r => (simp; omega))
set_option maxRecDepth 100000 in
set_option maxHeartbeats 400000 in
theorem proper2_any (x : Val) (A1 A2 A3 : Option Addr) (n1 n2 n3 : Nat) (w : World) (hk : x.kind = 2) :
    Calls Try.prog 68 #[valA x (.slice A1 x.keys.length n1) (.slice A2 x.items.length n2) (.slice A3 x.rest.length n3)] w fun e w' => e = .returned (.bool (properB x)) ∧ Below w.heap.size w w' := by
  have hb := fun W => bare2_any x A1 A2 A3 n1 n2 n3 W hk
  have HB := Lib.hid hb
  have HK := Lib.hid hk
  have h01 := (Below.refl w.heap.size w).alloc (Nat.le_refl _) (.cells #[.int .i64 2, .bool x.bool, .int .i64 x.num, .string ⟨x.str.toArray⟩, .int .i64 x.id, .slice A1 x.keys.length n1, .slice A2 x.items.length n2, .slice A3 x.rest.length n3] 28)
  have HP := Has.made w 28 #[.int .i64 2, .bool x.bool, .int .i64 x.num, .string ⟨x.str.toArray⟩, .int .i64 x.id, .slice A1 x.keys.length n1, .slice A2 x.items.length n2, .slice A3 x.rest.length n3]
  simp only [valA, hk] at HB ⊢
  obtain ⟨pb, hpb⟩ : ∃ pb, properB x = pb := ⟨_, rfl⟩
  rw [hpb]
  have Hpb := Lib.hid hpb
  clear hb hk hpb
  go_enter Try.func68, Try.ntmps68
  go_wp2_with fail
  refine (HB.out _).mono ?_
  rintro e w2 ⟨rfl, hb2⟩
  have h02 := (h01.trans (hb2.mono h01.size)).alloc (h01.trans (hb2.mono h01.size)).size (.cells #[.int .i64 2, .bool false, .int .i64 x.num, .string ⟨([] : List UInt8).toArray⟩, .int .i64 0, .slice none 0 0, .slice none 0 0, .slice none 0 0] 28)
  have HP2 := HP.below hb2 (by simp)
  have c1 := HP2.cell 1
  have c2 := HP2.cell 2
  have c3 := HP2.cell 3
  have c4 := HP2.cell 4
  have c5 := HP2.cell 5
  have c6 := HP2.cell 6
  have c7 := HP2.cell 7
  have hz2 := HP2.here
  simp only [List.getElem?_toArray, List.getElem?_cons_succ, List.getElem?_cons_zero] at c1 c2 c3 c4 c5 c6 c7
  clear HP HP2 hb2 h01 HB
  go_wp2_with fail
  all_goals go_ret
  all_goals refine ⟨ret_bool ?_, h02⟩
  all_goals rw [← Hpb.out]
  all_goals first | (simp [properB, HK.out, *]; done) | (simp [properB, HK.out, *]; cases x.rest with | nil => simp | cons a r => (simp; omega))
set_option maxRecDepth 100000 in
set_option maxHeartbeats 400000 in
theorem proper3_any (x : Val) (A1 A2 A3 : Option Addr) (n1 n2 n3 : Nat) (w : World) (hk : x.kind = 3) :
    Calls Try.prog 68 #[valA x (.slice A1 x.keys.length n1) (.slice A2 x.items.length n2) (.slice A3 x.rest.length n3)] w fun e w' => e = .returned (.bool (properB x)) ∧ Below w.heap.size w w' := by
  have hb := fun W => bare3_any x A1 A2 A3 n1 n2 n3 W hk
  have HB := Lib.hid hb
  have HK := Lib.hid hk
  have h01 := (Below.refl w.heap.size w).alloc (Nat.le_refl _) (.cells #[.int .i64 3, .bool x.bool, .int .i64 x.num, .string ⟨x.str.toArray⟩, .int .i64 x.id, .slice A1 x.keys.length n1, .slice A2 x.items.length n2, .slice A3 x.rest.length n3] 28)
  have HP := Has.made w 28 #[.int .i64 3, .bool x.bool, .int .i64 x.num, .string ⟨x.str.toArray⟩, .int .i64 x.id, .slice A1 x.keys.length n1, .slice A2 x.items.length n2, .slice A3 x.rest.length n3]
  simp only [valA, hk] at HB ⊢
  obtain ⟨pb, hpb⟩ : ∃ pb, properB x = pb := ⟨_, rfl⟩
  rw [hpb]
  have Hpb := Lib.hid hpb
  clear hb hk hpb
  go_enter Try.func68, Try.ntmps68
  go_wp2_with fail
  refine (HB.out _).mono ?_
  rintro e w2 ⟨rfl, hb2⟩
  have h02 := (h01.trans (hb2.mono h01.size)).alloc (h01.trans (hb2.mono h01.size)).size (.cells #[.int .i64 3, .bool false, .int .i64 0, .string ⟨(x.str : List UInt8).toArray⟩, .int .i64 0, .slice none 0 0, .slice none 0 0, .slice none 0 0] 28)
  have HP2 := HP.below hb2 (by simp)
  have c1 := HP2.cell 1
  have c2 := HP2.cell 2
  have c3 := HP2.cell 3
  have c4 := HP2.cell 4
  have c5 := HP2.cell 5
  have c6 := HP2.cell 6
  have c7 := HP2.cell 7
  have hz2 := HP2.here
  simp only [List.getElem?_toArray, List.getElem?_cons_succ, List.getElem?_cons_zero] at c1 c2 c3 c4 c5 c6 c7
  clear HP HP2 hb2 h01 HB
  go_wp2_with fail
  all_goals go_ret
  all_goals refine ⟨ret_bool ?_, h02⟩
  all_goals rw [← Hpb.out]
  all_goals first | (simp [properB, HK.out, *]; done) | (simp [properB, HK.out, *]; cases x.rest with | nil => simp | cons a r => (simp; omega))
set_option maxRecDepth 100000 in
set_option maxHeartbeats 400000 in
theorem proper4_any (x : Val) (A1 A2 A3 : Option Addr) (n1 n2 n3 : Nat) (w : World) (hk : x.kind = 4) :
    Calls Try.prog 68 #[valA x (.slice A1 x.keys.length n1) (.slice A2 x.items.length n2) (.slice A3 x.rest.length n3)] w fun e w' => e = .returned (.bool (properB x)) ∧ Below w.heap.size w w' := by
  have hb := fun W => bare4_any x A1 A2 A3 n1 n2 n3 W hk
  have HB := Lib.hid hb
  have HK := Lib.hid hk
  have h01 := (Below.refl w.heap.size w).alloc (Nat.le_refl _) (.cells #[.int .i64 4, .bool x.bool, .int .i64 x.num, .string ⟨x.str.toArray⟩, .int .i64 x.id, .slice A1 x.keys.length n1, .slice A2 x.items.length n2, .slice A3 x.rest.length n3] 28)
  have HP := Has.made w 28 #[.int .i64 4, .bool x.bool, .int .i64 x.num, .string ⟨x.str.toArray⟩, .int .i64 x.id, .slice A1 x.keys.length n1, .slice A2 x.items.length n2, .slice A3 x.rest.length n3]
  simp only [valA, hk] at HB ⊢
  obtain ⟨pb, hpb⟩ : ∃ pb, properB x = pb := ⟨_, rfl⟩
  rw [hpb]
  have Hpb := Lib.hid hpb
  clear hb hk hpb
  go_enter Try.func68, Try.ntmps68
  go_wp2_with fail
  refine (HB.out _).mono ?_
  rintro e w2 ⟨rfl, hb2⟩
  have h02 := (h01.trans (hb2.mono h01.size)).alloc (h01.trans (hb2.mono h01.size)).size (.cells #[.int .i64 4, .bool false, .int .i64 0, .string ⟨([] : List UInt8).toArray⟩, .int .i64 x.id, .slice none 0 0, .slice none 0 0, .slice none 0 0] 28)
  have HP2 := HP.below hb2 (by simp)
  have c1 := HP2.cell 1
  have c2 := HP2.cell 2
  have c3 := HP2.cell 3
  have c4 := HP2.cell 4
  have c5 := HP2.cell 5
  have c6 := HP2.cell 6
  have c7 := HP2.cell 7
  have hz2 := HP2.here
  simp only [List.getElem?_toArray, List.getElem?_cons_succ, List.getElem?_cons_zero] at c1 c2 c3 c4 c5 c6 c7
  clear HP HP2 hb2 h01 HB
  go_wp2_with fail
  all_goals go_ret
  all_goals refine ⟨ret_bool ?_, h02⟩
  all_goals rw [← Hpb.out]
  all_goals first | (simp [properB, HK.out, *]; done) | (simp [properB, HK.out, *]; cases x.rest with | nil => simp | cons a r => (simp; omega))
set_option maxRecDepth 100000 in
set_option maxHeartbeats 400000 in
theorem proper5_any (x : Val) (A1 A2 A3 : Option Addr) (n1 n2 n3 : Nat) (w : World) (hk : x.kind = 5) :
    Calls Try.prog 68 #[valA x (.slice A1 x.keys.length n1) (.slice A2 x.items.length n2) (.slice A3 x.rest.length n3)] w fun e w' => e = .returned (.bool (properB x)) ∧ Below w.heap.size w w' := by
  have hb := fun W => bare5_any x A1 A2 A3 n1 n2 n3 W hk
  have HB := Lib.hid hb
  have HK := Lib.hid hk
  have h01 := (Below.refl w.heap.size w).alloc (Nat.le_refl _) (.cells #[.int .i64 5, .bool x.bool, .int .i64 x.num, .string ⟨x.str.toArray⟩, .int .i64 x.id, .slice A1 x.keys.length n1, .slice A2 x.items.length n2, .slice A3 x.rest.length n3] 28)
  have HP := Has.made w 28 #[.int .i64 5, .bool x.bool, .int .i64 x.num, .string ⟨x.str.toArray⟩, .int .i64 x.id, .slice A1 x.keys.length n1, .slice A2 x.items.length n2, .slice A3 x.rest.length n3]
  simp only [valA, hk] at HB ⊢
  obtain ⟨pb, hpb⟩ : ∃ pb, properB x = pb := ⟨_, rfl⟩
  rw [hpb]
  have Hpb := Lib.hid hpb
  clear hb hk hpb
  go_enter Try.func68, Try.ntmps68
  go_wp2_with fail
  refine (HB.out _).mono ?_
  rintro e w2 ⟨rfl, hb2⟩
  have h02 := (h01.trans (hb2.mono h01.size)).alloc (h01.trans (hb2.mono h01.size)).size (.cells #[.int .i64 5, .bool false, .int .i64 0, .string ⟨([] : List UInt8).toArray⟩, .int .i64 0, .slice none 0 0, .slice A2 x.items.length n2, .slice A3 x.rest.length n3] 28)
  have HP2 := HP.below hb2 (by simp)
  have c1 := HP2.cell 1
  have c2 := HP2.cell 2
  have c3 := HP2.cell 3
  have c4 := HP2.cell 4
  have c5 := HP2.cell 5
  have c6 := HP2.cell 6
  have c7 := HP2.cell 7
  have hz2 := HP2.here
  simp only [List.getElem?_toArray, List.getElem?_cons_succ, List.getElem?_cons_zero] at c1 c2 c3 c4 c5 c6 c7
  clear HP HP2 hb2 h01 HB
  go_wp2_with fail
  all_goals go_ret
  all_goals refine ⟨ret_bool ?_, h02⟩
  all_goals rw [← Hpb.out]
  all_goals first | (simp [properB, HK.out, *]; done) | (simp [properB, HK.out, *]; cases x.rest with | nil => simp | cons a r => (simp; omega))
set_option maxRecDepth 100000 in
set_option maxHeartbeats 400000 in
theorem proper6_any (x : Val) (A1 A2 A3 : Option Addr) (n1 n2 n3 : Nat) (w : World) (hk : x.kind = 6) :
    Calls Try.prog 68 #[valA x (.slice A1 x.keys.length n1) (.slice A2 x.items.length n2) (.slice A3 x.rest.length n3)] w fun e w' => e = .returned (.bool (properB x)) ∧ Below w.heap.size w w' := by
  have hb := fun W => bare6_any x A1 A2 A3 n1 n2 n3 W hk
  have HB := Lib.hid hb
  have HK := Lib.hid hk
  have h01 := (Below.refl w.heap.size w).alloc (Nat.le_refl _) (.cells #[.int .i64 6, .bool x.bool, .int .i64 x.num, .string ⟨x.str.toArray⟩, .int .i64 x.id, .slice A1 x.keys.length n1, .slice A2 x.items.length n2, .slice A3 x.rest.length n3] 28)
  have HP := Has.made w 28 #[.int .i64 6, .bool x.bool, .int .i64 x.num, .string ⟨x.str.toArray⟩, .int .i64 x.id, .slice A1 x.keys.length n1, .slice A2 x.items.length n2, .slice A3 x.rest.length n3]
  simp only [valA, hk] at HB ⊢
  obtain ⟨pb, hpb⟩ : ∃ pb, properB x = pb := ⟨_, rfl⟩
  rw [hpb]
  have Hpb := Lib.hid hpb
  clear hb hk hpb
  go_enter Try.func68, Try.ntmps68
  go_wp2_with fail
  refine (HB.out _).mono ?_
  rintro e w2 ⟨rfl, hb2⟩
  have h02 := (h01.trans (hb2.mono h01.size)).alloc (h01.trans (hb2.mono h01.size)).size (.cells #[.int .i64 6, .bool false, .int .i64 0, .string ⟨([] : List UInt8).toArray⟩, .int .i64 x.id, .slice none 0 0, .slice A2 x.items.length n2, .slice A3 x.rest.length n3] 28)
  have HP2 := HP.below hb2 (by simp)
  have c1 := HP2.cell 1
  have c2 := HP2.cell 2
  have c3 := HP2.cell 3
  have c4 := HP2.cell 4
  have c5 := HP2.cell 5
  have c6 := HP2.cell 6
  have c7 := HP2.cell 7
  have hz2 := HP2.here
  simp only [List.getElem?_toArray, List.getElem?_cons_succ, List.getElem?_cons_zero] at c1 c2 c3 c4 c5 c6 c7
  clear HP HP2 hb2 h01 HB
  go_wp2_with fail
  all_goals go_ret
  all_goals refine ⟨ret_bool ?_, h02⟩
  all_goals rw [← Hpb.out]
  all_goals first | (simp [properB, HK.out, *]; done) | (simp [properB, HK.out, *]; cases x.rest with | nil => simp | cons a r => (simp; omega))
set_option maxRecDepth 100000 in
set_option maxHeartbeats 400000 in
theorem proper7_any (x : Val) (A1 A2 A3 : Option Addr) (n1 n2 n3 : Nat) (w : World) (hk : x.kind = 7) :
    Calls Try.prog 68 #[valA x (.slice A1 x.keys.length n1) (.slice A2 x.items.length n2) (.slice A3 x.rest.length n3)] w fun e w' => e = .returned (.bool (properB x)) ∧ Below w.heap.size w w' := by
  have hb := fun W => bare7_any x A1 A2 A3 n1 n2 n3 W hk
  have HB := Lib.hid hb
  have HK := Lib.hid hk
  have h01 := (Below.refl w.heap.size w).alloc (Nat.le_refl _) (.cells #[.int .i64 7, .bool x.bool, .int .i64 x.num, .string ⟨x.str.toArray⟩, .int .i64 x.id, .slice A1 x.keys.length n1, .slice A2 x.items.length n2, .slice A3 x.rest.length n3] 28)
  have HP := Has.made w 28 #[.int .i64 7, .bool x.bool, .int .i64 x.num, .string ⟨x.str.toArray⟩, .int .i64 x.id, .slice A1 x.keys.length n1, .slice A2 x.items.length n2, .slice A3 x.rest.length n3]
  simp only [valA, hk] at HB ⊢
  obtain ⟨pb, hpb⟩ : ∃ pb, properB x = pb := ⟨_, rfl⟩
  rw [hpb]
  have Hpb := Lib.hid hpb
  clear hb hk hpb
  go_enter Try.func68, Try.ntmps68
  go_wp2_with fail
  refine (HB.out _).mono ?_
  rintro e w2 ⟨rfl, hb2⟩
  have h02 := (h01.trans (hb2.mono h01.size)).alloc (h01.trans (hb2.mono h01.size)).size (.cells #[.int .i64 7, .bool false, .int .i64 0, .string ⟨([] : List UInt8).toArray⟩, .int .i64 0, .slice none 0 0, .slice A2 x.items.length n2, .slice none 0 0] 28)
  have HP2 := HP.below hb2 (by simp)
  have c1 := HP2.cell 1
  have c2 := HP2.cell 2
  have c3 := HP2.cell 3
  have c4 := HP2.cell 4
  have c5 := HP2.cell 5
  have c6 := HP2.cell 6
  have c7 := HP2.cell 7
  have hz2 := HP2.here
  simp only [List.getElem?_toArray, List.getElem?_cons_succ, List.getElem?_cons_zero] at c1 c2 c3 c4 c5 c6 c7
  clear HP HP2 hb2 h01 HB
  go_wp2_with fail
  all_goals go_ret
  all_goals refine ⟨ret_bool ?_, h02⟩
  all_goals rw [← Hpb.out]
  all_goals first | (simp [properB, HK.out, *]; done) | (simp [properB, HK.out, *]; cases x.rest with | nil => simp | cons a r => (simp; omega))
set_option maxRecDepth 100000 in
set_option maxHeartbeats 400000 in
theorem proper8_any (x : Val) (A1 A2 A3 : Option Addr) (n1 n2 n3 : Nat) (w : World) (hk : x.kind = 8) :
    Calls Try.prog 68 #[valA x (.slice A1 x.keys.length n1) (.slice A2 x.items.length n2) (.slice A3 x.rest.length n3)] w fun e w' => e = .returned (.bool (properB x)) ∧ Below w.heap.size w w' := by
  have hb := fun W => bare8_any x A1 A2 A3 n1 n2 n3 W hk
  have HB := Lib.hid hb
  have HK := Lib.hid hk
  have h01 := (Below.refl w.heap.size w).alloc (Nat.le_refl _) (.cells #[.int .i64 8, .bool x.bool, .int .i64 x.num, .string ⟨x.str.toArray⟩, .int .i64 x.id, .slice A1 x.keys.length n1, .slice A2 x.items.length n2, .slice A3 x.rest.length n3] 28)
  have HP := Has.made w 28 #[.int .i64 8, .bool x.bool, .int .i64 x.num, .string ⟨x.str.toArray⟩, .int .i64 x.id, .slice A1 x.keys.length n1, .slice A2 x.items.length n2, .slice A3 x.rest.length n3]
  simp only [valA, hk] at HB ⊢
  obtain ⟨pb, hpb⟩ : ∃ pb, properB x = pb := ⟨_, rfl⟩
  rw [hpb]
  have Hpb := Lib.hid hpb
  clear hb hk hpb
  go_enter Try.func68, Try.ntmps68
  go_wp2_with fail
  refine (HB.out _).mono ?_
  rintro e w2 ⟨rfl, hb2⟩
  have h02 := (h01.trans (hb2.mono h01.size)).alloc (h01.trans (hb2.mono h01.size)).size (.cells #[.int .i64 8, .bool false, .int .i64 0, .string ⟨([] : List UInt8).toArray⟩, .int .i64 0, .slice A1 x.keys.length n1, .slice A2 x.items.length n2, .slice none 0 0] 28)
  have HP2 := HP.below hb2 (by simp)
  have c1 := HP2.cell 1
  have c2 := HP2.cell 2
  have c3 := HP2.cell 3
  have c4 := HP2.cell 4
  have c5 := HP2.cell 5
  have c6 := HP2.cell 6
  have c7 := HP2.cell 7
  have hz2 := HP2.here
  simp only [List.getElem?_toArray, List.getElem?_cons_succ, List.getElem?_cons_zero] at c1 c2 c3 c4 c5 c6 c7
  clear HP HP2 hb2 h01 HB
  go_wp2_with fail
  all_goals go_ret
  all_goals refine ⟨ret_bool ?_, h02⟩
  all_goals rw [← Hpb.out]
  all_goals first | (simp [properB, HK.out, *]; done) | (simp [properB, HK.out, *]; cases x.rest with | nil => simp | cons a r => (simp; omega))
set_option maxRecDepth 100000 in
set_option maxHeartbeats 400000 in
theorem proper9_any (x : Val) (A1 A2 A3 : Option Addr) (n1 n2 n3 : Nat) (w : World) (hk : x.kind = 9) :
    Calls Try.prog 68 #[valA x (.slice A1 x.keys.length n1) (.slice A2 x.items.length n2) (.slice A3 x.rest.length n3)] w fun e w' => e = .returned (.bool (properB x)) ∧ Below w.heap.size w w' := by
  have hb := fun W => bare9_any x A1 A2 A3 n1 n2 n3 W hk
  have HB := Lib.hid hb
  have HK := Lib.hid hk
  have h01 := (Below.refl w.heap.size w).alloc (Nat.le_refl _) (.cells #[.int .i64 9, .bool x.bool, .int .i64 x.num, .string ⟨x.str.toArray⟩, .int .i64 x.id, .slice A1 x.keys.length n1, .slice A2 x.items.length n2, .slice A3 x.rest.length n3] 28)
  have HP := Has.made w 28 #[.int .i64 9, .bool x.bool, .int .i64 x.num, .string ⟨x.str.toArray⟩, .int .i64 x.id, .slice A1 x.keys.length n1, .slice A2 x.items.length n2, .slice A3 x.rest.length n3]
  simp only [valA, hk] at HB ⊢
  obtain ⟨pb, hpb⟩ : ∃ pb, properB x = pb := ⟨_, rfl⟩
  rw [hpb]
  have Hpb := Lib.hid hpb
  clear hb hk hpb
  go_enter Try.func68, Try.ntmps68
  go_wp2_with fail
  refine (HB.out _).mono ?_
  rintro e w2 ⟨rfl, hb2⟩
  have h02 := (h01.trans (hb2.mono h01.size)).alloc (h01.trans (hb2.mono h01.size)).size (.cells #[.int .i64 9, .bool false, .int .i64 0, .string ⟨([] : List UInt8).toArray⟩, .int .i64 0, .slice none 0 0, .slice A2 x.items.length n2, .slice none 0 0] 28)
  have HP2 := HP.below hb2 (by simp)
  have c1 := HP2.cell 1
  have c2 := HP2.cell 2
  have c3 := HP2.cell 3
  have c4 := HP2.cell 4
  have c5 := HP2.cell 5
  have c6 := HP2.cell 6
  have c7 := HP2.cell 7
  have hz2 := HP2.here
  simp only [List.getElem?_toArray, List.getElem?_cons_succ, List.getElem?_cons_zero] at c1 c2 c3 c4 c5 c6 c7
  clear HP HP2 hb2 h01 HB
  go_wp2_with fail
  all_goals go_ret
  all_goals refine ⟨ret_bool ?_, h02⟩
  all_goals rw [← Hpb.out]
  all_goals first | (simp [properB, HK.out, *]; done) | (simp [properB, HK.out, *]; cases x.rest with | nil => simp | cons a r => (simp; omega))
end Go.Proofs.Ytjcoeolconelmaa

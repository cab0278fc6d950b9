/- What zero computes (a region of more than 60 operations is no written list: it is flattened first). No condition. -/
import Derived.Test.YtgeapglanckjpaaGE
import Derived.Deep.Cut
set_option maxHeartbeats 4000000
namespace Go.Proofs.Ytgeapglanckjpaa
open Go.ChangeShapes Go.WideShapes Go.ChangeAt Go.RowKit
set_option maxRecDepth 100000 in
theorem rzero1_any (x : Val) (A1 A2 A3 : Option Addr) (n1 n2 n3 : Nat) (w : World) (hk : x.kind = 1) :
  Calls Try.prog 50 #[valA x (.slice A1 x.keys.length n1) (.slice A2 x.items.length n2) (.slice A3 x.rest.length n3)] w fun e w' => e = .returned (.bool (properB x)) ∧ Below w.heap.size w w' := by
 have h01 := fun o => (Below.refl w.heap.size w).alloc (Nat.le_refl _) o
 simp only [valA, hk]
 by_cases e_num : x.num = 0
 ·
  have q_num : (x.num == 0) = true := by simpa using e_num
  by_cases e_str : x.str = []
  ·
   have q_str : x.str.isEmpty = true := by simpa using e_str
   by_cases e_id : x.id = 0
   ·
    have q_id : (x.id == 0) = true := by simpa using e_id
    by_cases e_keys : x.keys.length = 0
    ·
     have q_keys : ((x.keys.length : Int) == 0) = true := by simp [e_keys]
     by_cases e_items : x.items.length = 0
     ·
      have q_items : ((x.items.length : Int) == 0) = true := by simp [e_items]
      by_cases e_rest : x.rest.length = 0
      ·
       have q_rest : ((x.rest.length : Int) == 0) = true := by simp [e_rest]
       have hs : Hid (properB x = true) := by show _ = _; simp [properB, hk, e_num, e_str, e_id, e_keys, e_items, e_rest]
       rw [hs.out]
       clear e_num e_str e_id e_keys e_items e_rest hk
       go_enter Try.func50, Try.ntmps50
       go_upto_region 2 with (fail)
       simp only [List.append_eq, List.cons_append, List.nil_append]
       go_wp2_with fail
       go_ret
       exact ⟨rfl, h01 _⟩
      have q_rest : ((x.rest.length : Int) == 0) = false := beq_eq_false_iff_ne.2 (by omega)
      have hs : Hid (properB x = false) := by show _ = _; simp [properB, hk, e_rest]
      rw [hs.out]
      clear e_num e_str e_id e_keys e_items e_rest hk
      go_enter Try.func50, Try.ntmps50
      go_upto_region 2 with (fail)
      simp only [List.append_eq, List.cons_append, List.nil_append]
      go_wp2_with fail
      go_ret
      exact ⟨rfl, h01 _⟩
     have q_items : ((x.items.length : Int) == 0) = false := beq_eq_false_iff_ne.2 (by omega)
     have hs : Hid (properB x = false) := by show _ = _; simp [properB, hk, e_items]
     rw [hs.out]
     clear e_num e_str e_id e_keys e_items hk
     go_enter Try.func50, Try.ntmps50
     go_upto_region 2 with (fail)
     simp only [List.append_eq, List.cons_append, List.nil_append]
     go_wp2_with fail
     go_ret
     exact ⟨rfl, h01 _⟩
    have q_keys : ((x.keys.length : Int) == 0) = false := beq_eq_false_iff_ne.2 (by omega)
    have hs : Hid (properB x = false) := by show _ = _; simp [properB, hk, e_keys]
    rw [hs.out]
    clear e_num e_str e_id e_keys hk
    go_enter Try.func50, Try.ntmps50
    go_upto_region 2 with (fail)
    simp only [List.append_eq, List.cons_append, List.nil_append]
    go_wp2_with fail
    go_ret
    exact ⟨rfl, h01 _⟩
   have q_id : (x.id == 0) = false := by simpa using e_id
   have hs : Hid (properB x = false) := by show _ = _; simp [properB, hk, e_id]
   rw [hs.out]
   clear e_num e_str e_id hk
   go_enter Try.func50, Try.ntmps50
   go_upto_region 2 with (fail)
   simp only [List.append_eq, List.cons_append, List.nil_append]
   go_wp2_with fail
   go_ret
   exact ⟨rfl, h01 _⟩
  have q_str : x.str.isEmpty = false := by simpa using e_str
  have hs : Hid (properB x = false) := by show _ = _; simp [properB, hk, e_str]
  rw [hs.out]
  clear e_num e_str hk
  go_enter Try.func50, Try.ntmps50
  go_upto_region 2 with (fail)
  simp only [List.append_eq, List.cons_append, List.nil_append]
  go_wp2_with fail
  go_ret
  exact ⟨rfl, h01 _⟩
 have q_num : (x.num == 0) = false := by simpa using e_num
 have hs : Hid (properB x = false) := by show _ = _; simp [properB, hk, e_num]
 rw [hs.out]
 clear e_num hk
 go_enter Try.func50, Try.ntmps50
 go_upto_region 2 with (fail)
 simp only [List.append_eq, List.cons_append, List.nil_append]
 go_wp2_with fail
 go_ret
 exact ⟨rfl, h01 _⟩
set_option maxRecDepth 100000 in
theorem rzero2_any (x : Val) (A1 A2 A3 : Option Addr) (n1 n2 n3 : Nat) (w : World) (hk : x.kind = 2) :
  Calls Try.prog 50 #[valA x (.slice A1 x.keys.length n1) (.slice A2 x.items.length n2) (.slice A3 x.rest.length n3)] w fun e w' => e = .returned (.bool (properB x)) ∧ Below w.heap.size w w' := by
 have h01 := fun o => (Below.refl w.heap.size w).alloc (Nat.le_refl _) o
 simp only [valA, hk]
 by_cases e_bool : x.bool = false
 ·
  have q_bool : x.bool = false := e_bool
  by_cases e_str : x.str = []
  ·
   have q_str : x.str.isEmpty = true := by simpa using e_str
   by_cases e_id : x.id = 0
   ·
    have q_id : (x.id == 0) = true := by simpa using e_id
    by_cases e_keys : x.keys.length = 0
    ·
     have q_keys : ((x.keys.length : Int) == 0) = true := by simp [e_keys]
     by_cases e_items : x.items.length = 0
     ·
      have q_items : ((x.items.length : Int) == 0) = true := by simp [e_items]
      by_cases e_rest : x.rest.length = 0
      ·
       have q_rest : ((x.rest.length : Int) == 0) = true := by simp [e_rest]
       have hs : Hid (properB x = true) := by show _ = _; simp [properB, hk, e_bool, e_str, e_id, e_keys, e_items, e_rest]
       rw [hs.out]
       clear e_bool e_str e_id e_keys e_items e_rest hk
       go_enter Try.func50, Try.ntmps50
       go_upto_region 2 with (fail)
       simp only [List.append_eq, List.cons_append, List.nil_append]
       go_wp2_with fail
       go_ret
       exact ⟨rfl, h01 _⟩
      have q_rest : ((x.rest.length : Int) == 0) = false := beq_eq_false_iff_ne.2 (by omega)
      have hs : Hid (properB x = false) := by show _ = _; simp [properB, hk, e_rest]
      rw [hs.out]
      clear e_bool e_str e_id e_keys e_items e_rest hk
      go_enter Try.func50, Try.ntmps50
      go_upto_region 2 with (fail)
      simp only [List.append_eq, List.cons_append, List.nil_append]
      go_wp2_with fail
      go_ret
      exact ⟨rfl, h01 _⟩
     have q_items : ((x.items.length : Int) == 0) = false := beq_eq_false_iff_ne.2 (by omega)
     have hs : Hid (properB x = false) := by show _ = _; simp [properB, hk, e_items]
     rw [hs.out]
     clear e_bool e_str e_id e_keys e_items hk
     go_enter Try.func50, Try.ntmps50
     go_upto_region 2 with (fail)
     simp only [List.append_eq, List.cons_append, List.nil_append]
     go_wp2_with fail
     go_ret
     exact ⟨rfl, h01 _⟩
    have q_keys : ((x.keys.length : Int) == 0) = false := beq_eq_false_iff_ne.2 (by omega)
    have hs : Hid (properB x = false) := by show _ = _; simp [properB, hk, e_keys]
    rw [hs.out]
    clear e_bool e_str e_id e_keys hk
    go_enter Try.func50, Try.ntmps50
    go_upto_region 2 with (fail)
    simp only [List.append_eq, List.cons_append, List.nil_append]
    go_wp2_with fail
    go_ret
    exact ⟨rfl, h01 _⟩
   have q_id : (x.id == 0) = false := by simpa using e_id
   have hs : Hid (properB x = false) := by show _ = _; simp [properB, hk, e_id]
   rw [hs.out]
   clear e_bool e_str e_id hk
   go_enter Try.func50, Try.ntmps50
   go_upto_region 2 with (fail)
   simp only [List.append_eq, List.cons_append, List.nil_append]
   go_wp2_with fail
   go_ret
   exact ⟨rfl, h01 _⟩
  have q_str : x.str.isEmpty = false := by simpa using e_str
  have hs : Hid (properB x = false) := by show _ = _; simp [properB, hk, e_str]
  rw [hs.out]
  clear e_bool e_str hk
  go_enter Try.func50, Try.ntmps50
  go_upto_region 2 with (fail)
  simp only [List.append_eq, List.cons_append, List.nil_append]
  go_wp2_with fail
  go_ret
  exact ⟨rfl, h01 _⟩
 have q_bool : x.bool = true := by simpa using e_bool
 have hs : Hid (properB x = false) := by show _ = _; simp [properB, hk, e_bool]
 rw [hs.out]
 clear e_bool hk
 go_enter Try.func50, Try.ntmps50
 go_upto_region 2 with (fail)
 simp only [List.append_eq, List.cons_append, List.nil_append]
 go_wp2_with fail
 go_ret
 exact ⟨rfl, h01 _⟩
set_option maxRecDepth 100000 in
theorem rzero3_any (x : Val) (A1 A2 A3 : Option Addr) (n1 n2 n3 : Nat) (w : World) (hk : x.kind = 3) :
  Calls Try.prog 50 #[valA x (.slice A1 x.keys.length n1) (.slice A2 x.items.length n2) (.slice A3 x.rest.length n3)] w fun e w' => e = .returned (.bool (properB x)) ∧ Below w.heap.size w w' := by
 have h01 := fun o => (Below.refl w.heap.size w).alloc (Nat.le_refl _) o
 simp only [valA, hk]
 by_cases e_bool : x.bool = false
 ·
  have q_bool : x.bool = false := e_bool
  by_cases e_num : x.num = 0
  ·
   have q_num : (x.num == 0) = true := by simpa using e_num
   by_cases e_id : x.id = 0
   ·
    have q_id : (x.id == 0) = true := by simpa using e_id
    by_cases e_keys : x.keys.length = 0
    ·
     have q_keys : ((x.keys.length : Int) == 0) = true := by simp [e_keys]
     by_cases e_items : x.items.length = 0
     ·
      have q_items : ((x.items.length : Int) == 0) = true := by simp [e_items]
      by_cases e_rest : x.rest.length = 0
      ·
       have q_rest : ((x.rest.length : Int) == 0) = true := by simp [e_rest]
       have hs : Hid (properB x = true) := by show _ = _; simp [properB, hk, e_bool, e_num, e_id, e_keys, e_items, e_rest]
       rw [hs.out]
       clear e_bool e_num e_id e_keys e_items e_rest hk
       go_enter Try.func50, Try.ntmps50
       go_upto_region 2 with (fail)
       simp only [List.append_eq, List.cons_append, List.nil_append]
       go_wp2_with fail
       go_ret
       exact ⟨rfl, h01 _⟩
      have q_rest : ((x.rest.length : Int) == 0) = false := beq_eq_false_iff_ne.2 (by omega)
      have hs : Hid (properB x = false) := by show _ = _; simp [properB, hk, e_rest]
      rw [hs.out]
      clear e_bool e_num e_id e_keys e_items e_rest hk
      go_enter Try.func50, Try.ntmps50
      go_upto_region 2 with (fail)
      simp only [List.append_eq, List.cons_append, List.nil_append]
      go_wp2_with fail
      go_ret
      exact ⟨rfl, h01 _⟩
     have q_items : ((x.items.length : Int) == 0) = false := beq_eq_false_iff_ne.2 (by omega)
     have hs : Hid (properB x = false) := by show _ = _; simp [properB, hk, e_items]
     rw [hs.out]
     clear e_bool e_num e_id e_keys e_items hk
     go_enter Try.func50, Try.ntmps50
     go_upto_region 2 with (fail)
     simp only [List.append_eq, List.cons_append, List.nil_append]
     go_wp2_with fail
     go_ret
     exact ⟨rfl, h01 _⟩
    have q_keys : ((x.keys.length : Int) == 0) = false := beq_eq_false_iff_ne.2 (by omega)
    have hs : Hid (properB x = false) := by show _ = _; simp [properB, hk, e_keys]
    rw [hs.out]
    clear e_bool e_num e_id e_keys hk
    go_enter Try.func50, Try.ntmps50
    go_upto_region 2 with (fail)
    simp only [List.append_eq, List.cons_append, List.nil_append]
    go_wp2_with fail
    go_ret
    exact ⟨rfl, h01 _⟩
   have q_id : (x.id == 0) = false := by simpa using e_id
   have hs : Hid (properB x = false) := by show _ = _; simp [properB, hk, e_id]
   rw [hs.out]
   clear e_bool e_num e_id hk
   go_enter Try.func50, Try.ntmps50
   go_upto_region 2 with (fail)
   simp only [List.append_eq, List.cons_append, List.nil_append]
   go_wp2_with fail
   go_ret
   exact ⟨rfl, h01 _⟩
  have q_num : (x.num == 0) = false := by simpa using e_num
  have hs : Hid (properB x = false) := by show _ = _; simp [properB, hk, e_num]
  rw [hs.out]
  clear e_bool e_num hk
  go_enter Try.func50, Try.ntmps50
  go_upto_region 2 with (fail)
  simp only [List.append_eq, List.cons_append, List.nil_append]
  go_wp2_with fail
  go_ret
  exact ⟨rfl, h01 _⟩
 have q_bool : x.bool = true := by simpa using e_bool
 have hs : Hid (properB x = false) := by show _ = _; simp [properB, hk, e_bool]
 rw [hs.out]
 clear e_bool hk
 go_enter Try.func50, Try.ntmps50
 go_upto_region 2 with (fail)
 simp only [List.append_eq, List.cons_append, List.nil_append]
 go_wp2_with fail
 go_ret
 exact ⟨rfl, h01 _⟩
set_option maxRecDepth 100000 in
theorem rzero4_any (x : Val) (A1 A2 A3 : Option Addr) (n1 n2 n3 : Nat) (w : World) (hk : x.kind = 4) :
  Calls Try.prog 50 #[valA x (.slice A1 x.keys.length n1) (.slice A2 x.items.length n2) (.slice A3 x.rest.length n3)] w fun e w' => e = .returned (.bool (properB x)) ∧ Below w.heap.size w w' := by
 have h01 := fun o => (Below.refl w.heap.size w).alloc (Nat.le_refl _) o
 simp only [valA, hk]
 by_cases e_bool : x.bool = false
 ·
  have q_bool : x.bool = false := e_bool
  by_cases e_num : x.num = 0
  ·
   have q_num : (x.num == 0) = true := by simpa using e_num
   by_cases e_str : x.str = []
   ·
    have q_str : x.str.isEmpty = true := by simpa using e_str
    by_cases e_keys : x.keys.length = 0
    ·
     have q_keys : ((x.keys.length : Int) == 0) = true := by simp [e_keys]
     by_cases e_items : x.items.length = 0
     ·
      have q_items : ((x.items.length : Int) == 0) = true := by simp [e_items]
      by_cases e_rest : x.rest.length = 0
      ·
       have q_rest : ((x.rest.length : Int) == 0) = true := by simp [e_rest]
       have hs : Hid (properB x = true) := by show _ = _; simp [properB, hk, e_bool, e_num, e_str, e_keys, e_items, e_rest]
       rw [hs.out]
       clear e_bool e_num e_str e_keys e_items e_rest hk
       go_enter Try.func50, Try.ntmps50
       go_upto_region 2 with (fail)
       simp only [List.append_eq, List.cons_append, List.nil_append]
       go_wp2_with fail
       go_ret
       exact ⟨rfl, h01 _⟩
      have q_rest : ((x.rest.length : Int) == 0) = false := beq_eq_false_iff_ne.2 (by omega)
      have hs : Hid (properB x = false) := by show _ = _; simp [properB, hk, e_rest]
      rw [hs.out]
      clear e_bool e_num e_str e_keys e_items e_rest hk
      go_enter Try.func50, Try.ntmps50
      go_upto_region 2 with (fail)
      simp only [List.append_eq, List.cons_append, List.nil_append]
      go_wp2_with fail
      go_ret
      exact ⟨rfl, h01 _⟩
     have q_items : ((x.items.length : Int) == 0) = false := beq_eq_false_iff_ne.2 (by omega)
     have hs : Hid (properB x = false) := by show _ = _; simp [properB, hk, e_items]
     rw [hs.out]
     clear e_bool e_num e_str e_keys e_items hk
     go_enter Try.func50, Try.ntmps50
     go_upto_region 2 with (fail)
     simp only [List.append_eq, List.cons_append, List.nil_append]
     go_wp2_with fail
     go_ret
     exact ⟨rfl, h01 _⟩
    have q_keys : ((x.keys.length : Int) == 0) = false := beq_eq_false_iff_ne.2 (by omega)
    have hs : Hid (properB x = false) := by show _ = _; simp [properB, hk, e_keys]
    rw [hs.out]
    clear e_bool e_num e_str e_keys hk
    go_enter Try.func50, Try.ntmps50
    go_upto_region 2 with (fail)
    simp only [List.append_eq, List.cons_append, List.nil_append]
    go_wp2_with fail
    go_ret
    exact ⟨rfl, h01 _⟩
   have q_str : x.str.isEmpty = false := by simpa using e_str
   have hs : Hid (properB x = false) := by show _ = _; simp [properB, hk, e_str]
   rw [hs.out]
   clear e_bool e_num e_str hk
   go_enter Try.func50, Try.ntmps50
   go_upto_region 2 with (fail)
   simp only [List.append_eq, List.cons_append, List.nil_append]
   go_wp2_with fail
   go_ret
   exact ⟨rfl, h01 _⟩
  have q_num : (x.num == 0) = false := by simpa using e_num
  have hs : Hid (properB x = false) := by show _ = _; simp [properB, hk, e_num]
  rw [hs.out]
  clear e_bool e_num hk
  go_enter Try.func50, Try.ntmps50
  go_upto_region 2 with (fail)
  simp only [List.append_eq, List.cons_append, List.nil_append]
  go_wp2_with fail
  go_ret
  exact ⟨rfl, h01 _⟩
 have q_bool : x.bool = true := by simpa using e_bool
 have hs : Hid (properB x = false) := by show _ = _; simp [properB, hk, e_bool]
 rw [hs.out]
 clear e_bool hk
 go_enter Try.func50, Try.ntmps50
 go_upto_region 2 with (fail)
 simp only [List.append_eq, List.cons_append, List.nil_append]
 go_wp2_with fail
 go_ret
 exact ⟨rfl, h01 _⟩
set_option maxRecDepth 100000 in
theorem rzero5_any (x : Val) (A1 A2 A3 : Option Addr) (n1 n2 n3 : Nat) (w : World) (hk : x.kind = 5) :
  Calls Try.prog 50 #[valA x (.slice A1 x.keys.length n1) (.slice A2 x.items.length n2) (.slice A3 x.rest.length n3)] w fun e w' => e = .returned (.bool (properB x)) ∧ Below w.heap.size w w' := by
 have h01 := fun o => (Below.refl w.heap.size w).alloc (Nat.le_refl _) o
 simp only [valA, hk]
 by_cases e_bool : x.bool = false
 ·
  have q_bool : x.bool = false := e_bool
  by_cases e_num : x.num = 0
  ·
   have q_num : (x.num == 0) = true := by simpa using e_num
   by_cases e_str : x.str = []
   ·
    have q_str : x.str.isEmpty = true := by simpa using e_str
    by_cases e_id : x.id = 0
    ·
     have q_id : (x.id == 0) = true := by simpa using e_id
     by_cases e_keys : x.keys.length = 0
     ·
      have q_keys : ((x.keys.length : Int) == 0) = true := by simp [e_keys]
      have hs : Hid (properB x = true) := by show _ = _; simp [properB, hk, e_bool, e_num, e_str, e_id, e_keys]
      rw [hs.out]
      clear e_bool e_num e_str e_id e_keys hk
      go_enter Try.func50, Try.ntmps50
      go_upto_region 2 with (fail)
      simp only [List.append_eq, List.cons_append, List.nil_append]
      go_wp2_with fail
      go_ret
      exact ⟨rfl, h01 _⟩
     have q_keys : ((x.keys.length : Int) == 0) = false := beq_eq_false_iff_ne.2 (by omega)
     have hs : Hid (properB x = false) := by show _ = _; simp [properB, hk, e_keys]
     rw [hs.out]
     clear e_bool e_num e_str e_id e_keys hk
     go_enter Try.func50, Try.ntmps50
     go_upto_region 2 with (fail)
     simp only [List.append_eq, List.cons_append, List.nil_append]
     go_wp2_with fail
     go_ret
     exact ⟨rfl, h01 _⟩
    have q_id : (x.id == 0) = false := by simpa using e_id
    have hs : Hid (properB x = false) := by show _ = _; simp [properB, hk, e_id]
    rw [hs.out]
    clear e_bool e_num e_str e_id hk
    go_enter Try.func50, Try.ntmps50
    go_upto_region 2 with (fail)
    simp only [List.append_eq, List.cons_append, List.nil_append]
    go_wp2_with fail
    go_ret
    exact ⟨rfl, h01 _⟩
   have q_str : x.str.isEmpty = false := by simpa using e_str
   have hs : Hid (properB x = false) := by show _ = _; simp [properB, hk, e_str]
   rw [hs.out]
   clear e_bool e_num e_str hk
   go_enter Try.func50, Try.ntmps50
   go_upto_region 2 with (fail)
   simp only [List.append_eq, List.cons_append, List.nil_append]
   go_wp2_with fail
   go_ret
   exact ⟨rfl, h01 _⟩
  have q_num : (x.num == 0) = false := by simpa using e_num
  have hs : Hid (properB x = false) := by show _ = _; simp [properB, hk, e_num]
  rw [hs.out]
  clear e_bool e_num hk
  go_enter Try.func50, Try.ntmps50
  go_upto_region 2 with (fail)
  simp only [List.append_eq, List.cons_append, List.nil_append]
  go_wp2_with fail
  go_ret
  exact ⟨rfl, h01 _⟩
 have q_bool : x.bool = true := by simpa using e_bool
 have hs : Hid (properB x = false) := by show _ = _; simp [properB, hk, e_bool]
 rw [hs.out]
 clear e_bool hk
 go_enter Try.func50, Try.ntmps50
 go_upto_region 2 with (fail)
 simp only [List.append_eq, List.cons_append, List.nil_append]
 go_wp2_with fail
 go_ret
 exact ⟨rfl, h01 _⟩
set_option maxRecDepth 100000 in
theorem rzero6_any (x : Val) (A1 A2 A3 : Option Addr) (n1 n2 n3 : Nat) (w : World) (hk : x.kind = 6) :
  Calls Try.prog 50 #[valA x (.slice A1 x.keys.length n1) (.slice A2 x.items.length n2) (.slice A3 x.rest.length n3)] w fun e w' => e = .returned (.bool (properB x)) ∧ Below w.heap.size w w' := by
 have h01 := fun o => (Below.refl w.heap.size w).alloc (Nat.le_refl _) o
 simp only [valA, hk]
 by_cases e_bool : x.bool = false
 ·
  have q_bool : x.bool = false := e_bool
  by_cases e_num : x.num = 0
  ·
   have q_num : (x.num == 0) = true := by simpa using e_num
   by_cases e_str : x.str = []
   ·
    have q_str : x.str.isEmpty = true := by simpa using e_str
    by_cases e_keys : x.keys.length = 0
    ·
     have q_keys : ((x.keys.length : Int) == 0) = true := by simp [e_keys]
     have hs : Hid (properB x = true) := by show _ = _; simp [properB, hk, e_bool, e_num, e_str, e_keys]
     rw [hs.out]
     clear e_bool e_num e_str e_keys hk
     go_enter Try.func50, Try.ntmps50
     go_upto_region 2 with (fail)
     simp only [List.append_eq, List.cons_append, List.nil_append]
     go_wp2_with fail
     go_ret
     exact ⟨rfl, h01 _⟩
    have q_keys : ((x.keys.length : Int) == 0) = false := beq_eq_false_iff_ne.2 (by omega)
    have hs : Hid (properB x = false) := by show _ = _; simp [properB, hk, e_keys]
    rw [hs.out]
    clear e_bool e_num e_str e_keys hk
    go_enter Try.func50, Try.ntmps50
    go_upto_region 2 with (fail)
    simp only [List.append_eq, List.cons_append, List.nil_append]
    go_wp2_with fail
    go_ret
    exact ⟨rfl, h01 _⟩
   have q_str : x.str.isEmpty = false := by simpa using e_str
   have hs : Hid (properB x = false) := by show _ = _; simp [properB, hk, e_str]
   rw [hs.out]
   clear e_bool e_num e_str hk
   go_enter Try.func50, Try.ntmps50
   go_upto_region 2 with (fail)
   simp only [List.append_eq, List.cons_append, List.nil_append]
   go_wp2_with fail
   go_ret
   exact ⟨rfl, h01 _⟩
  have q_num : (x.num == 0) = false := by simpa using e_num
  have hs : Hid (properB x = false) := by show _ = _; simp [properB, hk, e_num]
  rw [hs.out]
  clear e_bool e_num hk
  go_enter Try.func50, Try.ntmps50
  go_upto_region 2 with (fail)
  simp only [List.append_eq, List.cons_append, List.nil_append]
  go_wp2_with fail
  go_ret
  exact ⟨rfl, h01 _⟩
 have q_bool : x.bool = true := by simpa using e_bool
 have hs : Hid (properB x = false) := by show _ = _; simp [properB, hk, e_bool]
 rw [hs.out]
 clear e_bool hk
 go_enter Try.func50, Try.ntmps50
 go_upto_region 2 with (fail)
 simp only [List.append_eq, List.cons_append, List.nil_append]
 go_wp2_with fail
 go_ret
 exact ⟨rfl, h01 _⟩
set_option maxRecDepth 100000 in
theorem rzero7_any (x : Val) (A1 A2 A3 : Option Addr) (n1 n2 n3 : Nat) (w : World) (hk : x.kind = 7) :
  Calls Try.prog 50 #[valA x (.slice A1 x.keys.length n1) (.slice A2 x.items.length n2) (.slice A3 x.rest.length n3)] w fun e w' => e = .returned (.bool (properB x)) ∧ Below w.heap.size w w' := by
 have h01 := fun o => (Below.refl w.heap.size w).alloc (Nat.le_refl _) o
 simp only [valA, hk]
 by_cases e_bool : x.bool = false
 ·
  have q_bool : x.bool = false := e_bool
  by_cases e_num : x.num = 0
  ·
   have q_num : (x.num == 0) = true := by simpa using e_num
   by_cases e_str : x.str = []
   ·
    have q_str : x.str.isEmpty = true := by simpa using e_str
    by_cases e_id : x.id = 0
    ·
     have q_id : (x.id == 0) = true := by simpa using e_id
     by_cases e_keys : x.keys.length = 0
     ·
      have q_keys : ((x.keys.length : Int) == 0) = true := by simp [e_keys]
      by_cases e_rest : x.rest.length = 0
      ·
       have q_rest : ((x.rest.length : Int) == 0) = true := by simp [e_rest]
       have hs : Hid (properB x = true) := by show _ = _; simp [properB, hk, e_bool, e_num, e_str, e_id, e_keys, e_rest]
       rw [hs.out]
       clear e_bool e_num e_str e_id e_keys e_rest hk
       go_enter Try.func50, Try.ntmps50
       go_upto_region 2 with (fail)
       simp only [List.append_eq, List.cons_append, List.nil_append]
       go_wp2_with fail
       go_ret
       exact ⟨rfl, h01 _⟩
      have q_rest : ((x.rest.length : Int) == 0) = false := beq_eq_false_iff_ne.2 (by omega)
      have hs : Hid (properB x = false) := by show _ = _; simp [properB, hk, e_rest]
      rw [hs.out]
      clear e_bool e_num e_str e_id e_keys e_rest hk
      go_enter Try.func50, Try.ntmps50
      go_upto_region 2 with (fail)
      simp only [List.append_eq, List.cons_append, List.nil_append]
      go_wp2_with fail
      go_ret
      exact ⟨rfl, h01 _⟩
     have q_keys : ((x.keys.length : Int) == 0) = false := beq_eq_false_iff_ne.2 (by omega)
     have hs : Hid (properB x = false) := by show _ = _; simp [properB, hk, e_keys]
     rw [hs.out]
     clear e_bool e_num e_str e_id e_keys hk
     go_enter Try.func50, Try.ntmps50
     go_upto_region 2 with (fail)
     simp only [List.append_eq, List.cons_append, List.nil_append]
     go_wp2_with fail
     go_ret
     exact ⟨rfl, h01 _⟩
    have q_id : (x.id == 0) = false := by simpa using e_id
    have hs : Hid (properB x = false) := by show _ = _; simp [properB, hk, e_id]
    rw [hs.out]
    clear e_bool e_num e_str e_id hk
    go_enter Try.func50, Try.ntmps50
    go_upto_region 2 with (fail)
    simp only [List.append_eq, List.cons_append, List.nil_append]
    go_wp2_with fail
    go_ret
    exact ⟨rfl, h01 _⟩
   have q_str : x.str.isEmpty = false := by simpa using e_str
   have hs : Hid (properB x = false) := by show _ = _; simp [properB, hk, e_str]
   rw [hs.out]
   clear e_bool e_num e_str hk
   go_enter Try.func50, Try.ntmps50
   go_upto_region 2 with (fail)
   simp only [List.append_eq, List.cons_append, List.nil_append]
   go_wp2_with fail
   go_ret
   exact ⟨rfl, h01 _⟩
  have q_num : (x.num == 0) = false := by simpa using e_num
  have hs : Hid (properB x = false) := by show _ = _; simp [properB, hk, e_num]
  rw [hs.out]
  clear e_bool e_num hk
  go_enter Try.func50, Try.ntmps50
  go_upto_region 2 with (fail)
  simp only [List.append_eq, List.cons_append, List.nil_append]
  go_wp2_with fail
  go_ret
  exact ⟨rfl, h01 _⟩
 have q_bool : x.bool = true := by simpa using e_bool
 have hs : Hid (properB x = false) := by show _ = _; simp [properB, hk, e_bool]
 rw [hs.out]
 clear e_bool hk
 go_enter Try.func50, Try.ntmps50
 go_upto_region 2 with (fail)
 simp only [List.append_eq, List.cons_append, List.nil_append]
 go_wp2_with fail
 go_ret
 exact ⟨rfl, h01 _⟩
set_option maxRecDepth 100000 in
theorem rzero8_any (x : Val) (A1 A2 A3 : Option Addr) (n1 n2 n3 : Nat) (w : World) (hk : x.kind = 8) :
  Calls Try.prog 50 #[valA x (.slice A1 x.keys.length n1) (.slice A2 x.items.length n2) (.slice A3 x.rest.length n3)] w fun e w' => e = .returned (.bool (properB x)) ∧ Below w.heap.size w w' := by
 have h01 := fun o => (Below.refl w.heap.size w).alloc (Nat.le_refl _) o
 simp only [valA, hk]
 by_cases e_bool : x.bool = false
 ·
  have q_bool : x.bool = false := e_bool
  by_cases e_num : x.num = 0
  ·
   have q_num : (x.num == 0) = true := by simpa using e_num
   by_cases e_str : x.str = []
   ·
    have q_str : x.str.isEmpty = true := by simpa using e_str
    by_cases e_id : x.id = 0
    ·
     have q_id : (x.id == 0) = true := by simpa using e_id
     by_cases e_rest : x.rest.length = 0
     ·
      have q_rest : ((x.rest.length : Int) == 0) = true := by simp [e_rest]
      have hs : Hid (properB x = true) := by show _ = _; simp [properB, hk, e_bool, e_num, e_str, e_id, e_rest]
      rw [hs.out]
      clear e_bool e_num e_str e_id e_rest hk
      go_enter Try.func50, Try.ntmps50
      go_upto_region 2 with (fail)
      simp only [List.append_eq, List.cons_append, List.nil_append]
      go_wp2_with fail
      go_ret
      exact ⟨rfl, h01 _⟩
     have q_rest : ((x.rest.length : Int) == 0) = false := beq_eq_false_iff_ne.2 (by omega)
     have hs : Hid (properB x = false) := by show _ = _; simp [properB, hk, e_rest]
     rw [hs.out]
     clear e_bool e_num e_str e_id e_rest hk
     go_enter Try.func50, Try.ntmps50
     go_upto_region 2 with (fail)
     simp only [List.append_eq, List.cons_append, List.nil_append]
     go_wp2_with fail
     go_ret
     exact ⟨rfl, h01 _⟩
    have q_id : (x.id == 0) = false := by simpa using e_id
    have hs : Hid (properB x = false) := by show _ = _; simp [properB, hk, e_id]
    rw [hs.out]
    clear e_bool e_num e_str e_id hk
    go_enter Try.func50, Try.ntmps50
    go_upto_region 2 with (fail)
    simp only [List.append_eq, List.cons_append, List.nil_append]
    go_wp2_with fail
    go_ret
    exact ⟨rfl, h01 _⟩
   have q_str : x.str.isEmpty = false := by simpa using e_str
   have hs : Hid (properB x = false) := by show _ = _; simp [properB, hk, e_str]
   rw [hs.out]
   clear e_bool e_num e_str hk
   go_enter Try.func50, Try.ntmps50
   go_upto_region 2 with (fail)
   simp only [List.append_eq, List.cons_append, List.nil_append]
   go_wp2_with fail
   go_ret
   exact ⟨rfl, h01 _⟩
  have q_num : (x.num == 0) = false := by simpa using e_num
  have hs : Hid (properB x = false) := by show _ = _; simp [properB, hk, e_num]
  rw [hs.out]
  clear e_bool e_num hk
  go_enter Try.func50, Try.ntmps50
  go_upto_region 2 with (fail)
  simp only [List.append_eq, List.cons_append, List.nil_append]
  go_wp2_with fail
  go_ret
  exact ⟨rfl, h01 _⟩
 have q_bool : x.bool = true := by simpa using e_bool
 have hs : Hid (properB x = false) := by show _ = _; simp [properB, hk, e_bool]
 rw [hs.out]
 clear e_bool hk
 go_enter Try.func50, Try.ntmps50
 go_upto_region 2 with (fail)
 simp only [List.append_eq, List.cons_append, List.nil_append]
 go_wp2_with fail
 go_ret
 exact ⟨rfl, h01 _⟩
set_option maxRecDepth 100000 in
theorem rzero9_any (x : Val) (A1 A2 A3 : Option Addr) (n1 n2 n3 : Nat) (w : World) (hk : x.kind = 9) :
  Calls Try.prog 50 #[valA x (.slice A1 x.keys.length n1) (.slice A2 x.items.length n2) (.slice A3 x.rest.length n3)] w fun e w' => e = .returned (.bool (properB x)) ∧ Below w.heap.size w w' := by
 have h01 := fun o => (Below.refl w.heap.size w).alloc (Nat.le_refl _) o
 simp only [valA, hk]
 by_cases e_bool : x.bool = false
 ·
  have q_bool : x.bool = false := e_bool
  by_cases e_num : x.num = 0
  ·
   have q_num : (x.num == 0) = true := by simpa using e_num
   by_cases e_str : x.str = []
   ·
    have q_str : x.str.isEmpty = true := by simpa using e_str
    by_cases e_id : x.id = 0
    ·
     have q_id : (x.id == 0) = true := by simpa using e_id
     by_cases e_keys : x.keys.length = 0
     ·
      have q_keys : ((x.keys.length : Int) == 0) = true := by simp [e_keys]
      by_cases e_rest : x.rest.length = 0
      ·
       have q_rest : ((x.rest.length : Int) == 0) = true := by simp [e_rest]
       have hs : Hid (properB x = true) := by show _ = _; simp [properB, hk, e_bool, e_num, e_str, e_id, e_keys, e_rest]
       rw [hs.out]
       clear e_bool e_num e_str e_id e_keys e_rest hk
       go_enter Try.func50, Try.ntmps50
       go_upto_region 2 with (fail)
       simp only [List.append_eq, List.cons_append, List.nil_append]
       go_wp2_with fail
       go_ret
       exact ⟨rfl, h01 _⟩
      have q_rest : ((x.rest.length : Int) == 0) = false := beq_eq_false_iff_ne.2 (by omega)
      have hs : Hid (properB x = false) := by show _ = _; simp [properB, hk, e_rest]
      rw [hs.out]
      clear e_bool e_num e_str e_id e_keys e_rest hk
      go_enter Try.func50, Try.ntmps50
      go_upto_region 2 with (fail)
      simp only [List.append_eq, List.cons_append, List.nil_append]
      go_wp2_with fail
      go_ret
      exact ⟨rfl, h01 _⟩
     have q_keys : ((x.keys.length : Int) == 0) = false := beq_eq_false_iff_ne.2 (by omega)
     have hs : Hid (properB x = false) := by show _ = _; simp [properB, hk, e_keys]
     rw [hs.out]
     clear e_bool e_num e_str e_id e_keys hk
     go_enter Try.func50, Try.ntmps50
     go_upto_region 2 with (fail)
     simp only [List.append_eq, List.cons_append, List.nil_append]
     go_wp2_with fail
     go_ret
     exact ⟨rfl, h01 _⟩
    have q_id : (x.id == 0) = false := by simpa using e_id
    have hs : Hid (properB x = false) := by show _ = _; simp [properB, hk, e_id]
    rw [hs.out]
    clear e_bool e_num e_str e_id hk
    go_enter Try.func50, Try.ntmps50
    go_upto_region 2 with (fail)
    simp only [List.append_eq, List.cons_append, List.nil_append]
    go_wp2_with fail
    go_ret
    exact ⟨rfl, h01 _⟩
   have q_str : x.str.isEmpty = false := by simpa using e_str
   have hs : Hid (properB x = false) := by show _ = _; simp [properB, hk, e_str]
   rw [hs.out]
   clear e_bool e_num e_str hk
   go_enter Try.func50, Try.ntmps50
   go_upto_region 2 with (fail)
   simp only [List.append_eq, List.cons_append, List.nil_append]
   go_wp2_with fail
   go_ret
   exact ⟨rfl, h01 _⟩
  have q_num : (x.num == 0) = false := by simpa using e_num
  have hs : Hid (properB x = false) := by show _ = _; simp [properB, hk, e_num]
  rw [hs.out]
  clear e_bool e_num hk
  go_enter Try.func50, Try.ntmps50
  go_upto_region 2 with (fail)
  simp only [List.append_eq, List.cons_append, List.nil_append]
  go_wp2_with fail
  go_ret
  exact ⟨rfl, h01 _⟩
 have q_bool : x.bool = true := by simpa using e_bool
 have hs : Hid (properB x = false) := by show _ = _; simp [properB, hk, e_bool]
 rw [hs.out]
 clear e_bool hk
 go_enter Try.func50, Try.ntmps50
 go_upto_region 2 with (fail)
 simp only [List.append_eq, List.cons_append, List.nil_append]
 go_wp2_with fail
 go_ret
 exact ⟨rfl, h01 _⟩
end Go.Proofs.Ytgeapglanckjpaa

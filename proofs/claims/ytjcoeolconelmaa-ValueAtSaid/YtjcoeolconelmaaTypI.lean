/- What Member and Symbol of both packages compute. No condition. -/
import Derived.Test.YtjcoeolconelmaaTyp
namespace Go.Proofs.Ytjcoeolconelmaa
open Go.ChangeShapes Go.WideShapes Go.ChangeAt Go.RowKit

theorem idxF_cons (a : Int) (r : List Int) (id : Int) (k : Nat) : idxF (a :: r) id k = if a = id then some k else idxF r id (k + 1) := rfl
theorem idxF_lt : ∀ (l : List Int) (id : Int) (k j : Nat), idxF l id k = some j → k ≤ j ∧ j < k + l.length := by
  intro l
  induction l with
  | nil => intro id k j h; simp [idxF] at h
  | cons a r ih =>
    intro id k j h
    rw [idxF] at h
    split at h
    · injection h with h; subst h; simp
    · have := ih id (k + 1) j h
      simp only [List.length_cons]; omega
theorem memIdx_lt (t : Typ) (id : Int) (j : Nat) (h : memIdx t id = some j) : j < t.mems.length := by
  have := idxF_lt _ _ _ _ h
  simpa using this.2

set_option maxRecDepth 100000 in
set_option maxHeartbeats 400000 in
theorem memidx_any (ms : List Mem) (va : Value) (p : Nat) (id : Int) (w : World) (hl : ms.length ≤ 140737488351232) (hr : RdMems w w.heap.size va ms) (hp : w.cell? ⟨p, 0, none⟩ = some (.int .i64 id)) (hlt : p < w.heap.size) :
    Calls Try.prog 81 #[va, .func (.func 82) #[] #[.pointer (some ⟨p, 0, none⟩)]] w fun e w' => e = .returned (.int .i64 (idxI (idxF (ms.map Mem.id) id 0))) ∧ Below w.heap.size w w' := by
  obtain ⟨A, c, rfl, hc⟩ := hr.form
  have HR := Lib.hid hr
  have Hp := Lib.hid hp
  clear hr hp
  go_enter Try.func81, Try.ntmps81
  go_wp2
  go_loopw [8] (fun i wr => ∃ k : Nat, i = .int .i64 k ∧ k ≤ ms.length ∧ idxF (ms.map Mem.id) id 0 = idxF ((ms.drop k).map Mem.id) id k ∧ Below w.heap.size w wr) (fun i _ => ms.length - (intOf i).toNat)
  case atStart => exact ⟨0, rfl, by omega, rfl, Below.refl _ _⟩
  case round =>
    obtain ⟨k, rfl, hk, hix, hb⟩ := hrel
    by_cases hlk : k < ms.length
    · obtain ⟨b, o, rfl, hbb, hel⟩ := (HR.out.on hb).elem (by omega)
      obtain ⟨vk, vi, vr, hcells, hm⟩ := hel k hlk
      rw [List.drop_eq_getElem_cons hlk, List.map_cons, idxF_cons] at hix
      generalize ms[k] = m at *
      obtain ⟨B1, k1, B2, k2, B3, k3, rfl, rfl, rfl, -, -, -⟩ := hm.dflt.forms
      obtain ⟨c0, c1, c2, c3, c4, c5, c6, c7, c8, c9, c10, c11, c12⟩ := hcells
      have hpw : wr.cell? ⟨p, 0, none⟩ = some (.int .i64 id) := (hb.cell hlt).trans Hp.out
      have hlw : p < wr.heap.size := Nat.lt_of_lt_of_le hlt hb.size
      have hi1 : (k : Int) < ms.length := by omega
      clear hel hm
      by_cases he : m.id = id
      · rw [if_pos he] at hix
        have Hix := Lib.hid hix
        have ht : (m.id == id) = true := by simp [he]
        clear hix he
        go_wp2_with fail
        refine (memc_any m _ _ _ p id _ hpw hlw).mono ?_
        rintro e w2 ⟨rfl, hb2⟩
        go_wp2_with fail
        go_ret
        exact ⟨ret_int (by rw [Hix.out]; rfl), hb.trans (hb2.mono hb.size)⟩
      · rw [if_neg he] at hix
        have Hix := Lib.hid hix
        have ht : (m.id == id) = false := by simpa using he
        clear hix he
        go_wp2_with fail
        refine (memc_any m _ _ _ p id _ hpw hlw).mono ?_
        rintro e w2 ⟨rfl, hb2⟩
        have hb02 := hb.trans (hb2.mono hb.size)
        clear hb2 hb hpw
        go_wp2_with fail
        go_roundw
        case rel => exact ⟨k + 1, by go_num, by omega, Hix.out, hb02⟩
        case measure => simp [intOf]; omega
    · rw [List.drop_eq_nil_of_le (by omega)] at hix
      have Hix := Lib.hid hix
      clear hix
      go_wp2
      go_ret
      exact ⟨ret_int (by rw [Hix.out]; rfl), hb⟩

set_option maxRecDepth 100000 in
set_option maxHeartbeats 400000 in
theorem symidx_any (ms : List Raw) (va : Value) (p : Nat) (id : Int) (w : World) (hl : ms.length ≤ 140737488351232) (hr : Rd w w.heap.size 2 va ms.length (rawsV ms)) (hp : w.cell? ⟨p, 0, none⟩ = some (.int .i64 id)) (hlt : p < w.heap.size) :
    Calls Try.prog 92 #[va, .func (.func 93) #[] #[.pointer (some ⟨p, 0, none⟩)]] w fun e w' => e = .returned (.int .i64 (idxI (idxF (ms.map Prod.fst) id 0))) ∧ Below w.heap.size w w' := by
  obtain ⟨A, c, rfl, hc⟩ := hr.form
  have HR := Lib.hid hr
  have Hp := Lib.hid hp
  clear hr hp
  go_enter Try.func92, Try.ntmps92
  go_wp2
  go_loopw [8] (fun i wr => ∃ k : Nat, i = .int .i64 k ∧ k ≤ ms.length ∧ idxF (ms.map Prod.fst) id 0 = idxF ((ms.drop k).map Prod.fst) id k ∧ Below w.heap.size w wr) (fun i _ => ms.length - (intOf i).toNat)
  case atStart => exact ⟨0, rfl, by omega, rfl, Below.refl _ _⟩
  case round =>
    obtain ⟨k, rfl, hk, hix, hb⟩ := hrel
    by_cases hlk : k < ms.length
    · obtain ⟨b, o, rfl, hbb, hcell⟩ := (HR.out.below hb).at_ (by omega)
      obtain ⟨c0, c1⟩ := rawV_at hcell k hlk
      rw [List.drop_eq_getElem_cons hlk, List.map_cons, idxF_cons] at hix
      generalize ms[k] = m at *
      have hpw : wr.cell? ⟨p, 0, none⟩ = some (.int .i64 id) := (hb.cell hlt).trans Hp.out
      have hlw : p < wr.heap.size := Nat.lt_of_lt_of_le hlt hb.size
      have hi1 : (k : Int) < ms.length := by omega
      clear hcell
      by_cases he : m.1 = id
      · rw [if_pos he] at hix
        have Hix := Lib.hid hix
        have ht : (m.1 == id) = true := by simp [he]
        clear hix he
        go_wp2_with fail
        refine (symc_any m p id _ hpw hlw).mono ?_
        rintro e w2 ⟨rfl, hb2⟩
        go_wp2_with fail
        go_ret
        exact ⟨ret_int (by rw [Hix.out]; rfl), hb.trans (hb2.mono hb.size)⟩
      · rw [if_neg he] at hix
        have Hix := Lib.hid hix
        have ht : (m.1 == id) = false := by simpa using he
        clear hix he
        go_wp2_with fail
        refine (symc_any m p id _ hpw hlw).mono ?_
        rintro e w2 ⟨rfl, hb2⟩
        have hb02 := hb.trans (hb2.mono hb.size)
        clear hb2 hb hpw
        go_wp2_with fail
        go_roundw
        case rel => exact ⟨k + 1, by go_num, by omega, Hix.out, hb02⟩
        case measure => simp [intOf]; omega
    · rw [List.drop_eq_nil_of_le (by omega)] at hix
      have Hix := Lib.hid hix
      clear hix
      go_wp2
      go_ret
      exact ⟨ret_int (by rw [Hix.out]; rfl), hb⟩

set_option maxRecDepth 100000 in
set_option maxHeartbeats 400000 in
theorem member_any (t : Typ) (vs vm : Value) (id : Int) (w : World) (ht : TypAt w w.heap.size t vs vm) :
    Calls Try.prog 56 #[typA t vs vm, .int .i64 id] w fun e w' => e = .returned (pairV (memIdx t id)) ∧ Below w.heap.size w w' := by
  obtain ⟨A1, c1, A2, c2, rfl, rfl, -, -⟩ := ht.forms
  have h2b := fun (o1 o2 : Obj) => ((Below.refl w.heap.size w).alloc (Nat.le_refl _) o1).alloc (show w.heap.size ≤ (w.alloc o1).heap.size by simp) o2
  have HT := Lib.hid ht
  have hl := ht.lens.2
  have hlt := idxF_lt (t.mems.map Mem.id) id 0
  rw [List.length_map] at hlt
  have hg := fun va p W h1 h2 h3 => memidx_any t.mems va p id W hl h1 h2 h3
  obtain ⟨o, ho⟩ : ∃ o, idxF (t.mems.map Mem.id) id 0 = o := ⟨_, rfl⟩
  have ho2 : memIdx t id = o := ho
  rw [ho2]
  rw [ho] at hg hlt
  clear ht ho ho2
  cases o with
  | none =>
    simp only [idxI] at hg
    have HG := Lib.hid hg
    clear hlt hg
    go_enter Try.func56, Try.ntmps56
    go_wp2_with fail
    refine (HG.out _ (w.heap.size + 1) _ ((HT.out.on (h2b _ _)).mems) (by go_simp) (by simp)).mono ?_
    rintro e w2 ⟨rfl, hb2⟩
    have h02 := (h2b _ _).trans (hb2.mono (h2b _ _).size)
    clear hb2 h2b
    go_wp2_with fail
    go_ret2
    exact ⟨rfl, h02⟩
  | some k =>
    have hk := (hlt k rfl).2
    simp only [idxI] at hg
    have HG := Lib.hid hg
    have hmx : max (k : Int) 0 = k := by omega
    clear hlt hg
    go_enter Try.func56, Try.ntmps56
    go_wp2_with fail
    refine (HG.out _ (w.heap.size + 1) _ ((HT.out.on (h2b _ _)).mems) (by go_simp) (by simp)).mono ?_
    rintro e w2 ⟨rfl, hb2⟩
    have h02 := (h2b _ _).trans (hb2.mono (h2b _ _).size)
    clear hb2 h2b
    go_wp2_with fail
    go_ret2
    exact ⟨rfl, h02⟩
set_option maxRecDepth 100000 in
set_option maxHeartbeats 400000 in
theorem symbol_any (t : Typ) (vs vm : Value) (id : Int) (w : World) (ht : TypAt w w.heap.size t vs vm) :
    Calls Try.prog 69 #[typA t vs vm, .int .i64 id] w fun e w' => e = .returned (pairV (symIdx t id)) ∧ Below w.heap.size w w' := by
  obtain ⟨A1, c1, A2, c2, rfl, rfl, -, -⟩ := ht.forms
  have h2b := fun (o1 o2 : Obj) => ((Below.refl w.heap.size w).alloc (Nat.le_refl _) o1).alloc (show w.heap.size ≤ (w.alloc o1).heap.size by simp) o2
  have HT := Lib.hid ht
  have hl := ht.lens.1
  have hlt := idxF_lt (t.syms.map Prod.fst) id 0
  rw [List.length_map] at hlt
  have hg := fun va p W h1 h2 h3 => symidx_any t.syms va p id W hl h1 h2 h3
  obtain ⟨o, ho⟩ : ∃ o, idxF (t.syms.map Prod.fst) id 0 = o := ⟨_, rfl⟩
  have ho2 : symIdx t id = o := ho
  rw [ho2]
  rw [ho] at hg hlt
  clear ht ho ho2
  cases o with
  | none =>
    simp only [idxI] at hg
    have HG := Lib.hid hg
    clear hlt hg
    go_enter Try.func69, Try.ntmps69
    go_wp2_with fail
    refine (HG.out _ (w.heap.size + 1) _ ((HT.out.on (h2b _ _)).syms) (by go_simp) (by simp)).mono ?_
    rintro e w2 ⟨rfl, hb2⟩
    have h02 := (h2b _ _).trans (hb2.mono (h2b _ _).size)
    clear hb2 h2b
    go_wp2_with fail
    go_ret2
    exact ⟨rfl, h02⟩
  | some k =>
    have hk := (hlt k rfl).2
    simp only [idxI] at hg
    have HG := Lib.hid hg
    have hmx : max (k : Int) 0 = k := by omega
    clear hlt hg
    go_enter Try.func69, Try.ntmps69
    go_wp2_with fail
    refine (HG.out _ (w.heap.size + 1) _ ((HT.out.on (h2b _ _)).syms) (by go_simp) (by simp)).mono ?_
    rintro e w2 ⟨rfl, hb2⟩
    have h02 := (h2b _ _).trans (hb2.mono (h2b _ _).size)
    clear hb2 h2b
    go_wp2_with fail
    go_ret2
    exact ⟨rfl, h02⟩

set_option maxRecDepth 100000 in
set_option maxHeartbeats 400000 in
theorem rmember_any (t : Typ) (vs vm : Value) (id : Int) (w : World) (ht : TypAt w w.heap.size t vs vm) :
    Calls Try.prog 58 #[typA t vs vm, .int .i64 id] w fun e w' => e = .returned (pairV (memIdx t id)) ∧ Below w.heap.size w w' := by
  obtain ⟨A1, c1, A2, c2, rfl, rfl, -, -⟩ := ht.forms
  have HT := Lib.hid ht
  have hl := ht.lens.2
  clear ht
  go_enter Try.func58, Try.ntmps58
  go_wp2_with fail
  have HP := Has.made w 67 #[.int .i64 t.kind, .string ⟨t.name.toArray⟩, .int .i64 t.low, .int .i64 t.high, .int .i64 t.max, .slice A1 t.syms.length c1, .slice A2 t.mems.length c2, .int .i64 t.key, .int .i64 t.elem, .bool t.opn]
  have h01 := (Below.refl w.heap.size w).alloc (Nat.le_refl _) (.cells #[.int .i64 t.kind, .string ⟨t.name.toArray⟩, .int .i64 t.low, .int .i64 t.high, .int .i64 t.max, .slice A1 t.syms.length c1, .slice A2 t.mems.length c2, .int .i64 t.key, .int .i64 t.elem, .bool t.opn] 67)
  generalize w.alloc (.cells #[.int .i64 t.kind, .string ⟨t.name.toArray⟩, .int .i64 t.low, .int .i64 t.high, .int .i64 t.max, .slice A1 t.syms.length c1, .slice A2 t.mems.length c2, .int .i64 t.key, .int .i64 t.elem, .bool t.opn] 67) = w1 at *
  have HT := Lib.hid (HT.out.on h01)
  have cs := HP.cell 5
  have cm := HP.cell 6
  simp only [List.getElem?_toArray, List.getElem?_cons_succ, List.getElem?_cons_zero] at cs cm
  clear HP
  go_loop [6] (fun i => ∃ k : Nat, i = .int .i64 k ∧ k ≤ t.mems.length ∧ memIdx t id = idxF ((t.mems.drop k).map Mem.id) id k) (fun i => t.mems.length - (intOf i).toNat)
  case atStart => exact ⟨0, rfl, by omega, rfl⟩
  case round =>
    obtain ⟨k, rfl, hk, hix⟩ := hrel
    by_cases hlk : k < t.mems.length
    · rw [List.drop_eq_getElem_cons hlk, List.map_cons, idxF_cons] at hix
      obtain ⟨b, o, rfl, hcell⟩ : ∃ b o, A2 = some ⟨b, o, none⟩ ∧ w1.cell? ⟨b, o + k * 13, none⟩ = some (.int .i64 (Mem.id t.mems[k])) := by
        obtain ⟨b, o, h1, _, hel⟩ := HT.out.mems.elem (by omega); obtain ⟨_, _, _, hc13, _⟩ := hel k hlk; exact ⟨b, o, h1, hc13.1⟩
      have hi1 : (k : Int) < t.mems.length := by omega
      generalize hq : Mem.id t.mems[k] = q at *
      clear hq
      by_cases he : q = id
      · rw [if_pos he] at hix
        have Hix := Lib.hid hix
        have hte : (q == id) = true := by simp [he]
        clear hix he
        go_wp2_with fail
        go_ret2
        exact ⟨by rw [Hix.out]; rfl, h01⟩
      · rw [if_neg he] at hix
        have Hix := Lib.hid hix
        have hte : (q == id) = false := by simpa using he
        clear hix he
        go_wp2_with fail
        go_round
        case rel => exact ⟨k + 1, by go_num, by omega, Hix.out⟩
        case measure => simp [intOf]; omega
    · rw [List.drop_eq_nil_of_le (by omega)] at hix
      have Hix := Lib.hid hix
      clear hix
      go_wp2_with fail
      go_ret2
      exact ⟨by rw [Hix.out]; rfl, h01⟩
set_option maxRecDepth 100000 in
set_option maxHeartbeats 400000 in
theorem rsymbol_any (t : Typ) (vs vm : Value) (id : Int) (w : World) (ht : TypAt w w.heap.size t vs vm) :
    Calls Try.prog 73 #[typA t vs vm, .int .i64 id] w fun e w' => e = .returned (pairV (symIdx t id)) ∧ Below w.heap.size w w' := by
  obtain ⟨A1, c1, A2, c2, rfl, rfl, -, -⟩ := ht.forms
  have HT := Lib.hid ht
  have hl := ht.lens.1
  clear ht
  go_enter Try.func73, Try.ntmps73
  go_wp2_with fail
  have HP := Has.made w 67 #[.int .i64 t.kind, .string ⟨t.name.toArray⟩, .int .i64 t.low, .int .i64 t.high, .int .i64 t.max, .slice A1 t.syms.length c1, .slice A2 t.mems.length c2, .int .i64 t.key, .int .i64 t.elem, .bool t.opn]
  have h01 := (Below.refl w.heap.size w).alloc (Nat.le_refl _) (.cells #[.int .i64 t.kind, .string ⟨t.name.toArray⟩, .int .i64 t.low, .int .i64 t.high, .int .i64 t.max, .slice A1 t.syms.length c1, .slice A2 t.mems.length c2, .int .i64 t.key, .int .i64 t.elem, .bool t.opn] 67)
  generalize w.alloc (.cells #[.int .i64 t.kind, .string ⟨t.name.toArray⟩, .int .i64 t.low, .int .i64 t.high, .int .i64 t.max, .slice A1 t.syms.length c1, .slice A2 t.mems.length c2, .int .i64 t.key, .int .i64 t.elem, .bool t.opn] 67) = w1 at *
  have HT := Lib.hid (HT.out.on h01)
  have cs := HP.cell 5
  have cm := HP.cell 6
  simp only [List.getElem?_toArray, List.getElem?_cons_succ, List.getElem?_cons_zero] at cs cm
  clear HP
  go_loop [6] (fun i => ∃ k : Nat, i = .int .i64 k ∧ k ≤ t.syms.length ∧ symIdx t id = idxF ((t.syms.drop k).map Prod.fst) id k) (fun i => t.syms.length - (intOf i).toNat)
  case atStart => exact ⟨0, rfl, by omega, rfl⟩
  case round =>
    obtain ⟨k, rfl, hk, hix⟩ := hrel
    by_cases hlk : k < t.syms.length
    · rw [List.drop_eq_getElem_cons hlk, List.map_cons, idxF_cons] at hix
      obtain ⟨b, o, rfl, hcell⟩ : ∃ b o, A1 = some ⟨b, o, none⟩ ∧ w1.cell? ⟨b, o + k * 2, none⟩ = some (.int .i64 (Prod.fst t.syms[k])) := by
        obtain ⟨b, o, h1, _, hel⟩ := HT.out.syms.at_ (by omega); exact ⟨b, o, h1, (rawV_at hel k hlk).1⟩
      have hi1 : (k : Int) < t.syms.length := by omega
      generalize hq : Prod.fst t.syms[k] = q at *
      clear hq
      by_cases he : q = id
      · rw [if_pos he] at hix
        have Hix := Lib.hid hix
        have hte : (q == id) = true := by simp [he]
        clear hix he
        go_wp2_with fail
        go_ret2
        exact ⟨by rw [Hix.out]; rfl, h01⟩
      · rw [if_neg he] at hix
        have Hix := Lib.hid hix
        have hte : (q == id) = false := by simpa using he
        clear hix he
        go_wp2_with fail
        go_round
        case rel => exact ⟨k + 1, by go_num, by omega, Hix.out⟩
        case measure => simp [intOf]; omega
    · rw [List.drop_eq_nil_of_le (by omega)] at hix
      have Hix := Lib.hid hix
      clear hix
      go_wp2_with fail
      go_ret2
      exact ⟨by rw [Hix.out]; rfl, h01⟩
end Go.Proofs.Ytjcoeolconelmaa

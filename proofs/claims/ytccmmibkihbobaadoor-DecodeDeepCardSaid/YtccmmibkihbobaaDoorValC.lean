/- What Compare and its reference compute. No condition. -/
import Derived.Test.YtccmmibkihbobaaDoorHAB
import Derived.Test.YtccmmibkihbobaaDoorZig1
set_option maxHeartbeats 800000
namespace Go.Proofs.YtccmmibkihbobaaDoor
open Go.ChangeShapes Go.WideShapes Go.ChangeAt Go.RowKit
def cmpI (a b : Int) : Int := if a < b then -1 else if b < a then 1 else 0
def cmpS (a b : List UInt8) : Int := if Op.bytesLess a b then -1 else if Op.bytesLess b a then 1 else 0
def compareV (x y : Val) : Int :=
 if x.kind ≠ y.kind then 0
 else if x.kind = 1 then (if x.bool = y.bool then 0 else if y.bool then -1 else 1)
 else if x.kind = 2 then cmpI (zig x.num) (zig y.num)
 else if x.kind = 3 then (if x.str.length ≠ y.str.length then cmpI x.str.length y.str.length else cmpS x.str y.str)
 else if x.kind = 4 then cmpI x.id y.id
 else 0
theorem less_irrefl (a : List UInt8) : Op.bytesLess a a = false := by
 induction a with
 | nil => rfl
 | cons b r ih => simp [Op.bytesLess, ih]
theorem less_total (a : List UInt8) : ∀ b, Op.bytesLess a b = false → Op.bytesLess b a = false → a = b := by
 induction a with
 | nil => intro b h1 h2; cases b with
  | nil => rfl
  | cons c s => simp [Op.bytesLess] at h1
 | cons x r ih =>
  intro b h1 h2
  cases b with
  | nil => simp [Op.bytesLess] at h2
  | cons c s =>
   simp only [Op.bytesLess, Bool.or_eq_false_iff, Bool.and_eq_false_iff, decide_eq_false_iff_not, beq_eq_false_iff_ne] at h1 h2
   have e : x = c := UInt8.le_antisymm (UInt8.not_lt.1 h2.1) (UInt8.not_lt.1 h1.1)
   subst e
   rw [ih s (by simpa using h1.2) (by simpa using h2.2)]
theorem less_asymm (a : List UInt8) : ∀ b, Op.bytesLess a b = true → Op.bytesLess b a = false := by
 induction a with
 | nil => intro b h; cases b <;> simp [Op.bytesLess]
 | cons x r ih =>
  intro b h
  cases b with
  | nil => simp [Op.bytesLess] at h
  | cons c s =>
   simp only [Op.bytesLess, Bool.or_eq_true, Bool.and_eq_true, decide_eq_true_eq, beq_iff_eq] at h
   simp only [Op.bytesLess, Bool.or_eq_false_iff, Bool.and_eq_false_iff, decide_eq_false_iff_not, beq_eq_false_iff_ne]
   rcases h with h | ⟨rfl, h⟩
   ·
    exact ⟨UInt8.not_lt.2 (UInt8.le_of_lt h), .inl (fun e => by subst e; exact UInt8.lt_irrefl _ h)⟩
   exact ⟨UInt8.lt_irrefl _, .inr (ih s h)⟩
theorem less_trans (a : List UInt8) : ∀ b c, Op.bytesLess a b = true → Op.bytesLess b c = true → Op.bytesLess a c = true := by
 induction a with
 | nil => intro b c h1 h2; cases b with
  | nil => simp [Op.bytesLess] at h1
  | cons y s => cases c with
   | nil => simp [Op.bytesLess] at h2
   | cons z t => simp [Op.bytesLess]
 | cons x r ih =>
  intro b c h1 h2
  cases b with
  | nil => simp [Op.bytesLess] at h1
  | cons y s => cases c with
   | nil => simp [Op.bytesLess] at h2
   | cons z t =>
    simp only [Op.bytesLess, Bool.or_eq_true, Bool.and_eq_true, decide_eq_true_eq, beq_iff_eq] at h1 h2 ⊢
    rcases h1 with h1 | ⟨rfl, h1⟩
    ·
     rcases h2 with h2 | ⟨rfl, h2⟩
     ·
      exact .inl (UInt8.lt_trans h1 h2)
     exact .inl h1
    rcases h2 with h2 | ⟨rfl, h2⟩
    ·
     exact .inl h2
    exact .inr ⟨rfl, ih s t h1 h2⟩
theorem nanu_any (a : Int) (w : World) : Calls Tryd.prog 95 #[.int .u64 a] w fun e w' => e = .returned (.bool false) ∧ w = w' := by
 go_enter Tryd.func95, Tryd.ntmps95
 go_wp2
 go_ret
 exact ⟨ret_bool (by simp), rfl⟩
theorem nani_any (a : Int) (w : World) : Calls Tryd.prog 96 #[.int .i64 a] w fun e w' => e = .returned (.bool false) ∧ w = w' := by
 go_enter Tryd.func96, Tryd.ntmps96
 go_wp2
 go_ret
 exact ⟨ret_bool (by simp), rfl⟩
theorem nans_any (a : List UInt8) (w : World) : Calls Tryd.prog 97 #[.string ⟨a.toArray⟩] w fun e w' => e = .returned (.bool false) ∧ w = w' := by
 go_enter Tryd.func97, Tryd.ntmps97
 go_wp2
 go_ret
 exact ⟨ret_bool (by simp), rfl⟩
set_option maxRecDepth 100000 in
theorem cmpu_any (a b : Int) (w : World) : Calls Tryd.prog 83 #[.int .u64 a, .int .u64 b] w fun e w' => e = .returned (.int .i64 (cmpI a b)) ∧ w = w' := by
 by_cases h1 : a < b
 ·
  have hc : Hid (cmpI a b = -1) := by show _ = _; rw [cmpI, if_pos h1]
  go_enter Tryd.func83, Tryd.ntmps83
  go_wp2_with (go_at_call 95; refine (nanu_any _ _).mono ?_; rintro e w' ⟨rfl, rfl⟩)
  go_ret
  exact ⟨ret_int hc.out.symm, rfl⟩
 by_cases h2 : b < a
 ·
  have hc : Hid (cmpI a b = 1) := by show _ = _; rw [cmpI, if_neg h1, if_pos h2]
  go_enter Tryd.func83, Tryd.ntmps83
  go_wp2_with (go_at_call 95; refine (nanu_any _ _).mono ?_; rintro e w' ⟨rfl, rfl⟩)
  go_ret
  exact ⟨ret_int hc.out.symm, rfl⟩
 have hc : Hid (cmpI a b = 0) := by show _ = _; rw [cmpI, if_neg h1, if_neg h2]
 go_enter Tryd.func83, Tryd.ntmps83
 go_wp2_with (go_at_call 95; refine (nanu_any _ _).mono ?_; rintro e w' ⟨rfl, rfl⟩)
 go_ret
 exact ⟨ret_int hc.out.symm, rfl⟩
set_option maxRecDepth 100000 in
theorem cmpi_any (a b : Int) (w : World) : Calls Tryd.prog 86 #[.int .i64 a, .int .i64 b] w fun e w' => e = .returned (.int .i64 (cmpI a b)) ∧ w = w' := by
 by_cases h1 : a < b
 ·
  have hc : Hid (cmpI a b = -1) := by show _ = _; rw [cmpI, if_pos h1]
  go_enter Tryd.func86, Tryd.ntmps86
  go_wp2_with (go_at_call 96; refine (nani_any _ _).mono ?_; rintro e w' ⟨rfl, rfl⟩)
  go_ret
  exact ⟨ret_int hc.out.symm, rfl⟩
 by_cases h2 : b < a
 ·
  have hc : Hid (cmpI a b = 1) := by show _ = _; rw [cmpI, if_neg h1, if_pos h2]
  go_enter Tryd.func86, Tryd.ntmps86
  go_wp2_with (go_at_call 96; refine (nani_any _ _).mono ?_; rintro e w' ⟨rfl, rfl⟩)
  go_ret
  exact ⟨ret_int hc.out.symm, rfl⟩
 have hc : Hid (cmpI a b = 0) := by show _ = _; rw [cmpI, if_neg h1, if_neg h2]
 go_enter Tryd.func86, Tryd.ntmps86
 go_wp2_with (go_at_call 96; refine (nani_any _ _).mono ?_; rintro e w' ⟨rfl, rfl⟩)
 go_ret
 exact ⟨ret_int hc.out.symm, rfl⟩
theorem toList_list (a : List UInt8) : ({ data := a.toArray } : ByteArray).toList = a := by rw [ByteArray.toList_eq]
set_option maxRecDepth 100000 in
theorem cmps_any (a b : List UInt8) (w : World) : Calls Tryd.prog 87 #[.string ⟨a.toArray⟩, .string ⟨b.toArray⟩] w fun e w' => e = .returned (.int .i64 (cmpS a b)) ∧ w = w' := by
 have hc : Hid (cmpS a b = if Op.bytesLess a b then -1 else if Op.bytesLess b a then 1 else 0) := by show _ = _; rfl
 have h3 := less_irrefl a
 have h4 := less_total a b
 cases h1 : Op.bytesLess a b with
 | true =>
  rw [h1] at hc
  clear h3 h4
  go_enter Tryd.func87, Tryd.ntmps87
  go_wp2_with (go_at_call 97; refine (nans_any _ _).mono ?_; rintro e w' ⟨rfl, rfl⟩)
  go_ret
  exact ⟨ret_int hc.out.symm, rfl⟩
 | false =>
  cases h2 : Op.bytesLess b a with
  | true =>
   rw [h1, h2] at hc
   have h5 : (a == b) = false := beq_eq_false_iff_ne.2 (fun e => by subst e; rw [h3] at h2; cases h2)
   clear h3 h4
   go_enter Tryd.func87, Tryd.ntmps87
   go_wp2_with (go_at_call 97; refine (nans_any _ _).mono ?_; rintro e w' ⟨rfl, rfl⟩)
   go_ret
   exact ⟨ret_int hc.out.symm, rfl⟩
  | false =>
   rw [h1, h2] at hc
   obtain rfl := h4 h1 h2
   clear h4 h2 h3
   go_enter Tryd.func87, Tryd.ntmps87
   go_wp2_with (go_at_call 97; refine (nans_any _ _).mono ?_; rintro e w' ⟨rfl, rfl⟩)
   go_ret
   exact ⟨ret_int hc.out.symm, rfl⟩
def or2 (a b : Int) : Int := if a = 0 then b else a
set_option maxRecDepth 100000 in
theorem or2_any (a b : Int) (v : Value) (w : World) (hr : Rd w w.heap.size 1 v 2 [.int .i64 a, .int .i64 b]) : Calls Tryd.prog 85 #[v] w fun e w' => e = .returned (.int .i64 (or2 a b)) ∧ w = w' := by
 obtain ⟨A, c, rfl, hc⟩ := hr.form
 obtain ⟨bb, o, rfl, hbb, hcell⟩ := hr.at_ (by omega)
 have c0 : w.cell? ⟨bb, o, none⟩ = some (.int .i64 a) := hcell 0 _ rfl
 have c1 : w.cell? ⟨bb, o + 1, none⟩ = some (.int .i64 b) := hcell 1 _ rfl
 clear hcell
 go_enter Tryd.func85, Tryd.ntmps85
 go_wp2
 go_loop [8] (fun i => ∃ k : Nat, i = .int .i64 k ∧ k ≤ 2 ∧ (1 ≤ k → a = 0) ∧ (2 ≤ k → b = 0)) (fun i => 2 - (intOf i).toNat)
 case atStart => exact ⟨0, rfl, by omega, by omega, by omega⟩
 case round =>
  obtain ⟨k, rfl, hk, ha, hb⟩ := hrel
  by_cases h2 : k = 2
  ·
   have ha := ha (by omega)
   have hb := hb (by omega)
   have h3 : (2 : Int) ≤ k := by omega
   have hx : Hid (or2 a b = 0) := by show _ = _; rw [or2, if_pos ha, hb]
   clear ha hb h2
   go_wp2
   go_ret
   exact ⟨ret_int hx.out.symm, rfl⟩
  by_cases h1 : k = 1
  ·
   have ha := ha (by omega)
   have hx : Hid (or2 a b = b) := by show _ = _; rw [or2, if_pos ha]
   have HA := Lib.hid ha
   subst h1
   clear ha hb h2
   by_cases hb0 : b = 0
   ·
    have Hb := Lib.hid hb0
    have ht : (b != 0) = false := by simp [hb0]
    clear hb0
    go_wp2
    go_round
    case rel => exact ⟨2, by go_num, by omega, fun _ => HA.out, fun _ => Hb.out⟩
    case measure => simp [intOf]
   have ht : (b != 0) = true := by simpa using hb0
   clear hb0
   go_wp2
   go_ret
   exact ⟨ret_int (by simp [or2]), rfl⟩
  obtain rfl : k = 0 := by omega
  clear ha hb h1 h2
  by_cases ha0 : a = 0
  ·
   have Ha := Lib.hid ha0
   have ht : (a != 0) = false := by simp [ha0]
   clear ha0
   go_wp2
   go_round
   case rel => exact ⟨1, by go_num, by omega, fun _ => Ha.out, by omega⟩
   case measure => simp [intOf]
  have ht : (a != 0) = true := by simpa using ha0
  have hx : Hid (or2 a b = a) := by show _ = _; rw [or2, if_neg ha0]
  clear ha0
  go_wp2
  go_ret
  exact ⟨ret_int hx.out.symm, rfl⟩
def ordI (l e : Bool) : Int := if e then 0 else if l then -1 else 1
theorem rd2_of (W : World) (b : Nat) (x y : Value) (h0 : W.cell? ⟨b, 0, none⟩ = some x) (h1 : W.cell? ⟨b, 1, none⟩ = some y) (hb : b < W.heap.size) :
  Rd W W.heap.size 1 (.slice (some ⟨b, 0, none⟩) 2 2) 2 [x, y] :=
 ⟨rfl, _, _, rfl, Nat.le_refl _, .inr ⟨b, 0, rfl, hb, fun j u hu => by
  rw [Nat.zero_add]
  match j, hu with
  | 0, hu => rw [h0]; exact hu
  | 1, hu => rw [h1]; exact hu⟩⟩
theorem cmpI_or (a b : List UInt8) : or2 (cmpI a.length b.length) (cmpS a b) = if a.length ≠ b.length then cmpI a.length b.length else cmpS a b := by
 unfold or2 cmpI
 by_cases h : a.length = b.length
 ·
  simp [h]
 rw [if_pos h]
 by_cases h1 : (a.length : Int) < b.length
 ·
  simp [h1]
 have h2 : (b.length : Int) < a.length := by omega
 simp [h1, h2]
set_option maxRecDepth 100000 in
theorem vcompare_any (x y : Val) (vk vi vr vk' vi' vr' : Value) (w : World) (hx : ValAt w w.heap.size x vk vi vr) (hy : ValAt w w.heap.size y vk' vi' vr') :
  Calls Tryd.prog 63 #[valA x vk vi vr, valA y vk' vi' vr'] w fun e w' => e = .returned (.int .i64 (compareV x y)) ∧ Below w.heap.size w w' := by
 have hc : Hid (compareV x y = if x.kind ≠ y.kind then 0 else if x.kind = 1 then (if x.bool = y.bool then 0 else if y.bool then -1 else 1) else if x.kind = 2 then cmpI (zig x.num) (zig y.num) else if x.kind = 3 then (if x.str.length ≠ y.str.length then cmpI x.str.length y.str.length else cmpS x.str y.str) else if x.kind = 4 then cmpI x.id y.id else 0) := by show _ = _; rfl
 obtain ⟨A1, n1, A2, n2, A3, n3, rfl, rfl, rfl, -, -, -⟩ := hx.forms
 obtain ⟨B1, k1, B2, k2, B3, k3, rfl, rfl, rfl, -, -, -⟩ := hy.forms
 have hx1 := hx.ints
 have hy1 := hy.ints
 have hzx := zig_any x.num hx1.2.1
 have hzy := zig_any y.num hy1.2.1
 have hxs := hx.strl
 have hys := hy.strl
 clear hx hy hx1 hy1
 have h0b := al2 w
 by_cases hk : x.kind = y.kind
 ·
  have hkk : (x.kind != y.kind) = false := by simp [hk]
  have HZX := Lib.hid hzx
  have HZY := Lib.hid hzy
  by_cases k1 : x.kind = 1
  ·
   have t1 : (x.kind == 1) = true := by simp [k1]
   by_cases hb : x.bool = y.bool
   ·
    have hr : Hid (compareV x y = 0) := by show _ = _; rw [hc.out, if_neg (by simp [hk]), if_pos k1, if_pos hb]
    have tb : (x.bool == y.bool) = true := by simp [hb]
    clear hk k1 hb hzx hzy
    go_enter Tryd.func63, Tryd.ntmps63
    go_wp2
    go_ret
    exact ⟨ret_int hr.out.symm, h0b _ _⟩
   have tb : (x.bool == y.bool) = false := by simpa using hb
   cases hyb : y.bool with
   | true =>
    have hr : Hid (compareV x y = -1) := by show _ = _; rw [hc.out, if_neg (by simp [hk]), if_pos k1, if_neg hb, hyb]; rfl
    rw [hyb] at tb
    clear hk k1 hb hzx hzy
    simp only [valA, hyb]
    go_enter Tryd.func63, Tryd.ntmps63
    go_wp2
    go_ret
    exact ⟨ret_int hr.out.symm, h0b _ _⟩
   | false =>
    have hr : Hid (compareV x y = 1) := by show _ = _; rw [hc.out, if_neg (by simp [hk]), if_pos k1, if_neg hb, hyb]; rfl
    rw [hyb] at tb
    clear hk k1 hb hzx hzy
    simp only [valA, hyb]
    go_enter Tryd.func63, Tryd.ntmps63
    go_wp2
    go_ret
    exact ⟨ret_int hr.out.symm, h0b _ _⟩
  have t1 : (x.kind == 1) = false := beq_eq_false_iff_ne.2 k1
  by_cases k2 : x.kind = 2
  ·
   have t2 : (x.kind == 2) = true := by simp [k2]
   have hr : Hid (compareV x y = cmpI (zig x.num) (zig y.num)) := by show _ = _; rw [hc.out, if_neg (by simp [hk]), if_neg k1, if_pos k2]
   clear hk k1 k2 hzx hzy
   go_enter Tryd.func63, Tryd.ntmps63
   go_wp2
   go_region_held3 (fun w' => w'.cell? ⟨w.heap.size, 2, none⟩ = some (.int .i64 x.num) ∧ w'.cell? ⟨w.heap.size + 1, 2, none⟩ = some (.int .i64 y.num)) (go_keep)
    (first
     | (go_at_call 84; (with_reducible refine (HZX.out _).mono ?_); rintro e w2 ⟨rfl, rfl⟩)
     | (go_at_call 84; (with_reducible refine (HZY.out _).mono ?_); rintro e w2 ⟨rfl, rfl⟩)
     | (go_at_call 83; (with_reducible refine (cmpu_any _ _ _).mono ?_); rintro e w2 ⟨rfl, rfl⟩))
   go_wp2
   go_ret
   exact ⟨ret_int hr.out.symm, (h0b _ _).drew⟩
  have t2 : (x.kind == 2) = false := beq_eq_false_iff_ne.2 k2
  by_cases k3 : x.kind = 3
  ·
   have t3 : (x.kind == 3) = true := by simp [k3]
   have hr : Hid (compareV x y = or2 (cmpI x.str.length y.str.length) (cmpS x.str y.str)) := by show _ = _; rw [hc.out, if_neg (by simp [hk]), if_neg k1, if_neg k2, if_pos k3, cmpI_or]
   clear hk k1 k2 k3 hzx hzy
   go_enter Tryd.func63, Tryd.ntmps63
   go_wp2
   go_region_held3 (fun w' => w'.cell? ⟨w.heap.size, 3, none⟩ = some (.string ⟨x.str.toArray⟩) ∧ w'.cell? ⟨w.heap.size + 1, 3, none⟩ = some (.string ⟨y.str.toArray⟩)) (go_keep)
    (first
     | (go_at_call 86; (with_reducible refine (cmpi_any _ _ _).mono ?_); rintro e w2 ⟨rfl, rfl⟩)
     | (go_at_call 87; (with_reducible refine (cmps_any _ _ _).mono ?_); rintro e w2 ⟨rfl, rfl⟩)
     | (go_at_call 85; refine (or2_any (cmpI x.str.length y.str.length) (cmpS x.str y.str) _ _ (rd2_of _ _ _ _ (by go_simp) (by go_simp) (by go_simp))).mono ?_; rintro e w2 ⟨rfl, rfl⟩))
   go_wp2
   go_ret
   exact ⟨ret_int hr.out.symm, ((h0b _ _).alloc (h0b _ _).size _).drew⟩
  have t3 : (x.kind == 3) = false := beq_eq_false_iff_ne.2 k3
  by_cases k4 : x.kind = 4
  ·
   have t4 : (x.kind == 4) = true := by simp [k4]
   have hr : Hid (compareV x y = cmpI x.id y.id) := by show _ = _; rw [hc.out, if_neg (by simp [hk]), if_neg k1, if_neg k2, if_neg k3, if_pos k4]
   clear hk k1 k2 k3 k4 hzx hzy
   go_enter Tryd.func63, Tryd.ntmps63
   go_wp2_with (go_at_call 86; refine (cmpi_any _ _ _).mono ?_; rintro e w' ⟨rfl, rfl⟩)
   go_ret
   exact ⟨ret_int hr.out.symm, h0b _ _⟩
  have t4 : (x.kind == 4) = false := beq_eq_false_iff_ne.2 k4
  have hr : Hid (compareV x y = 0) := by show _ = _; rw [hc.out, if_neg (by simp [hk]), if_neg k1, if_neg k2, if_neg k3, if_neg k4]
  clear hk k1 k2 k3 k4 hzx hzy
  go_enter Tryd.func63, Tryd.ntmps63
  go_wp2
  go_ret
  exact ⟨ret_int hr.out.symm, h0b _ _⟩
 have hr : Hid (compareV x y = 0) := by show _ = _; rw [hc.out, if_pos hk]
 have hkk : (x.kind != y.kind) = true := by simpa using hk
 clear hk hzx hzy
 go_enter Tryd.func63, Tryd.ntmps63
 go_wp2
 go_ret
 exact ⟨ret_int hr.out.symm, h0b _ _⟩
theorem ord_cmp (a b : Int) (l e : Bool) (hl : l = true ↔ a < b) (he : e = true ↔ a = b) : ordI l e = cmpI a b := by
 unfold ordI cmpI
 by_cases h : a = b
 ·
  rw [if_pos (he.2 h), if_neg (by omega), if_neg (by omega)]
 rw [if_neg (fun h2 => h (he.1 h2))]
 by_cases h2 : a < b
 ·
  rw [if_pos (hl.2 h2), if_pos h2]
 rw [if_neg (fun h3 => h2 (hl.1 h3)), if_neg h2, if_pos (by omega)]
theorem ord_cmps (a b : List UInt8) (l e : Bool) (hl : l = true ↔ Op.bytesLess a b = true) (he : e = true ↔ a = b) : ordI l e = cmpS a b := by
 unfold ordI cmpS
 by_cases h : a = b
 ·
  subst h
  have := less_irrefl a
  rw [if_pos (he.2 rfl), this]
  simp
 rw [if_neg (fun h2 => h (he.1 h2))]
 cases h2 : Op.bytesLess a b with
 | true => rw [if_pos (hl.2 h2)]; simp
 | false =>
  rw [if_neg (fun h3 => by rw [hl.1 h3] at h2; cases h2)]
  have : Op.bytesLess b a = true := by
   cases h3 : Op.bytesLess b a with
   | true => rfl
   | false => exact absurd (less_total a b h2 h3) h
  simp [this]
theorem zig_inj (a b : Int) : zig a = zig b ↔ a = b := ⟨fun h => by rw [← unzig_zig a, h, unzig_zig], fun h => by rw [h]⟩
end Go.Proofs.YtccmmibkihbobaaDoor

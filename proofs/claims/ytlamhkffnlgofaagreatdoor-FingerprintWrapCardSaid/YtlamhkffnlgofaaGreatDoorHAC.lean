/- What Compare and its reference compute. Members, types and schemas, and how memory reads as them; what Member and Symbol compute. What Member and Symbol of both packages compute. No condition. -/
import Derived.Test.YtlamhkffnlgofaaGreatDoorHAB
import Derived.Test.YtlamhkffnlgofaaGreatDoorHAA
set_option maxHeartbeats 800000
namespace Go.Proofs.YtlamhkffnlgofaaGreatDoor
open Go.ChangeShapes Go.WideShapes Go.ChangeAt Go.RowKit
def cmpI (a b : Int) : Int := if a < b then -1 else if b < a then 1 else 0
def cmpS (a b : List UInt8) : Int := if Op.bytesLess a b then -1 else if Op.bytesLess b a then 1 else 0
def compareV (x y : Val) : Int :=
 if x.kind ≠ y.kind then 0
 else if x.kind = 1 then (if x.bool = y.bool then 0 else if y.bool then -1 else 1)
 else if x.kind = 2 then cmpI (zig x.num) (zig y.num)
 else if x.kind = 3 then (if x.str.length ≠ y.str.length then cmpI x.str.length y.str.length else cmpS x.str y.str)
 else if x.kind = 4 then cmpI x.id y.id
 else 0
theorem less_irrefl (a : List UInt8) : Op.bytesLess a a = false := by
 induction a with
 | nil => rfl
 | cons b r ih => simp [Op.bytesLess, ih]
theorem less_total (a : List UInt8) : ∀ b, Op.bytesLess a b = false → Op.bytesLess b a = false → a = b := by
 induction a with
 | nil => intro b h1 h2; cases b with
  | nil => rfl
  | cons c s => simp [Op.bytesLess] at h1
 | cons x r ih =>
  intro b h1 h2
  cases b with
  | nil => simp [Op.bytesLess] at h2
  | cons c s =>
   simp only [Op.bytesLess, Bool.or_eq_false_iff, Bool.and_eq_false_iff, decide_eq_false_iff_not, beq_eq_false_iff_ne] at h1 h2
   have e : x = c := UInt8.le_antisymm (UInt8.not_lt.1 h2.1) (UInt8.not_lt.1 h1.1)
   subst e
   rw [ih s (by simpa using h1.2) (by simpa using h2.2)]
theorem nanu_any (a : Int) (w : World) : Calls Tryz.prog 183 #[.int .u64 a] w fun e w' => e = .returned (.bool false) ∧ w = w' := by
 go_enter Tryz.func183, Tryz.ntmps183
 go_wp2
 go_ret
 exact ⟨ret_bool (by simp), rfl⟩
theorem nani_any (a : Int) (w : World) : Calls Tryz.prog 184 #[.int .i64 a] w fun e w' => e = .returned (.bool false) ∧ w = w' := by
 go_enter Tryz.func184, Tryz.ntmps184
 go_wp2
 go_ret
 exact ⟨ret_bool (by simp), rfl⟩
theorem nans_any (a : List UInt8) (w : World) : Calls Tryz.prog 185 #[.string ⟨a.toArray⟩] w fun e w' => e = .returned (.bool false) ∧ w = w' := by
 go_enter Tryz.func185, Tryz.ntmps185
 go_wp2
 go_ret
 exact ⟨ret_bool (by simp), rfl⟩
set_option maxRecDepth 100000 in
theorem cmpu_any (a b : Int) (w : World) : Calls Tryz.prog 167 #[.int .u64 a, .int .u64 b] w fun e w' => e = .returned (.int .i64 (cmpI a b)) ∧ w = w' := by
 by_cases h1 : a < b
 ·
  have hc : Hid (cmpI a b = -1) := by show _ = _; rw [cmpI, if_pos h1]
  go_enter Tryz.func167, Tryz.ntmps167
  go_wp2_with (go_at_call 183; refine (nanu_any _ _).mono ?_; rintro e w' ⟨rfl, rfl⟩)
  go_ret
  exact ⟨ret_int hc.out.symm, rfl⟩
 by_cases h2 : b < a
 ·
  have hc : Hid (cmpI a b = 1) := by show _ = _; rw [cmpI, if_neg h1, if_pos h2]
  go_enter Tryz.func167, Tryz.ntmps167
  go_wp2_with (go_at_call 183; refine (nanu_any _ _).mono ?_; rintro e w' ⟨rfl, rfl⟩)
  go_ret
  exact ⟨ret_int hc.out.symm, rfl⟩
 have hc : Hid (cmpI a b = 0) := by show _ = _; rw [cmpI, if_neg h1, if_neg h2]
 go_enter Tryz.func167, Tryz.ntmps167
 go_wp2_with (go_at_call 183; refine (nanu_any _ _).mono ?_; rintro e w' ⟨rfl, rfl⟩)
 go_ret
 exact ⟨ret_int hc.out.symm, rfl⟩
set_option maxRecDepth 100000 in
theorem cmpi_any (a b : Int) (w : World) : Calls Tryz.prog 169 #[.int .i64 a, .int .i64 b] w fun e w' => e = .returned (.int .i64 (cmpI a b)) ∧ w = w' := by
 by_cases h1 : a < b
 ·
  have hc : Hid (cmpI a b = -1) := by show _ = _; rw [cmpI, if_pos h1]
  go_enter Tryz.func169, Tryz.ntmps169
  go_wp2_with (go_at_call 184; refine (nani_any _ _).mono ?_; rintro e w' ⟨rfl, rfl⟩)
  go_ret
  exact ⟨ret_int hc.out.symm, rfl⟩
 by_cases h2 : b < a
 ·
  have hc : Hid (cmpI a b = 1) := by show _ = _; rw [cmpI, if_neg h1, if_pos h2]
  go_enter Tryz.func169, Tryz.ntmps169
  go_wp2_with (go_at_call 184; refine (nani_any _ _).mono ?_; rintro e w' ⟨rfl, rfl⟩)
  go_ret
  exact ⟨ret_int hc.out.symm, rfl⟩
 have hc : Hid (cmpI a b = 0) := by show _ = _; rw [cmpI, if_neg h1, if_neg h2]
 go_enter Tryz.func169, Tryz.ntmps169
 go_wp2_with (go_at_call 184; refine (nani_any _ _).mono ?_; rintro e w' ⟨rfl, rfl⟩)
 go_ret
 exact ⟨ret_int hc.out.symm, rfl⟩
set_option maxRecDepth 100000 in
theorem cmps_any (a b : List UInt8) (w : World) : Calls Tryz.prog 170 #[.string ⟨a.toArray⟩, .string ⟨b.toArray⟩] w fun e w' => e = .returned (.int .i64 (cmpS a b)) ∧ w = w' := by
 have hc : Hid (cmpS a b = if Op.bytesLess a b then -1 else if Op.bytesLess b a then 1 else 0) := by show _ = _; rfl
 have h3 := less_irrefl a
 have h4 := less_total a b
 cases h1 : Op.bytesLess a b with
 | true =>
  rw [h1] at hc
  clear h3 h4
  go_enter Tryz.func170, Tryz.ntmps170
  go_wp2_with (go_at_call 185; refine (nans_any _ _).mono ?_; rintro e w' ⟨rfl, rfl⟩)
  go_ret
  exact ⟨ret_int hc.out.symm, rfl⟩
 | false =>
  cases h2 : Op.bytesLess b a with
  | true =>
   rw [h1, h2] at hc
   have h5 : (a == b) = false := beq_eq_false_iff_ne.2 (fun e => by subst e; rw [h3] at h2; cases h2)
   clear h3 h4
   go_enter Tryz.func170, Tryz.ntmps170
   go_wp2_with (go_at_call 185; refine (nans_any _ _).mono ?_; rintro e w' ⟨rfl, rfl⟩)
   go_ret
   exact ⟨ret_int hc.out.symm, rfl⟩
  | false =>
   rw [h1, h2] at hc
   obtain rfl := h4 h1 h2
   clear h4 h2 h3
   go_enter Tryz.func170, Tryz.ntmps170
   go_wp2_with (go_at_call 185; refine (nans_any _ _).mono ?_; rintro e w' ⟨rfl, rfl⟩)
   go_ret
   exact ⟨ret_int hc.out.symm, rfl⟩
def or2 (a b : Int) : Int := if a = 0 then b else a
set_option maxRecDepth 100000 in
theorem or2_any (a b : Int) (v : Value) (w : World) (hr : Rd w w.heap.size 1 v 2 [.int .i64 a, .int .i64 b]) : Calls Tryz.prog 168 #[v] w fun e w' => e = .returned (.int .i64 (or2 a b)) ∧ w = w' := by
 obtain ⟨A, c, rfl, hc⟩ := hr.form
 obtain ⟨bb, o, rfl, hbb, hcell⟩ := hr.at_ (by omega)
 have c0 : w.cell? ⟨bb, o, none⟩ = some (.int .i64 a) := hcell 0 _ rfl
 have c1 : w.cell? ⟨bb, o + 1, none⟩ = some (.int .i64 b) := hcell 1 _ rfl
 clear hcell
 go_enter Tryz.func168, Tryz.ntmps168
 go_wp2
 go_loop [8] (fun i => ∃ k : Nat, i = .int .i64 k ∧ k ≤ 2 ∧ (1 ≤ k → a = 0) ∧ (2 ≤ k → b = 0)) (fun i => 2 - (intOf i).toNat)
 case atStart => exact ⟨0, rfl, by omega, by omega, by omega⟩
 case round =>
  obtain ⟨k, rfl, hk, ha, hb⟩ := hrel
  by_cases h2 : k = 2
  ·
   have ha := ha (by omega)
   have hb := hb (by omega)
   have h3 : (2 : Int) ≤ k := by omega
   have hx : Hid (or2 a b = 0) := by show _ = _; rw [or2, if_pos ha, hb]
   clear ha hb h2
   go_wp2
   go_ret
   exact ⟨ret_int hx.out.symm, rfl⟩
  by_cases h1 : k = 1
  ·
   have ha := ha (by omega)
   have hx : Hid (or2 a b = b) := by show _ = _; rw [or2, if_pos ha]
   have HA := Lib.hid ha
   subst h1
   clear ha hb h2
   by_cases hb0 : b = 0
   ·
    have Hb := Lib.hid hb0
    have ht : (b != 0) = false := by simp [hb0]
    clear hb0
    go_wp2
    go_round
    case rel => exact ⟨2, by go_num, by omega, fun _ => HA.out, fun _ => Hb.out⟩
    case measure => simp [intOf]
   have ht : (b != 0) = true := by simpa using hb0
   clear hb0
   go_wp2
   go_ret
   exact ⟨ret_int (by simp [or2]), rfl⟩
  obtain rfl : k = 0 := by omega
  clear ha hb h1 h2
  by_cases ha0 : a = 0
  ·
   have Ha := Lib.hid ha0
   have ht : (a != 0) = false := by simp [ha0]
   clear ha0
   go_wp2
   go_round
   case rel => exact ⟨1, by go_num, by omega, fun _ => Ha.out, by omega⟩
   case measure => simp [intOf]
  have ht : (a != 0) = true := by simpa using ha0
  have hx : Hid (or2 a b = a) := by show _ = _; rw [or2, if_neg ha0]
  clear ha0
  go_wp2
  go_ret
  exact ⟨ret_int hx.out.symm, rfl⟩
theorem rd2_of (W : World) (b : Nat) (x y : Value) (h0 : W.cell? ⟨b, 0, none⟩ = some x) (h1 : W.cell? ⟨b, 1, none⟩ = some y) (hb : b < W.heap.size) :
  Rd W W.heap.size 1 (.slice (some ⟨b, 0, none⟩) 2 2) 2 [x, y] :=
 ⟨rfl, _, _, rfl, Nat.le_refl _, .inr ⟨b, 0, rfl, hb, fun j u hu => by
  rw [Nat.zero_add]
  match j, hu with
  | 0, hu => rw [h0]; exact hu
  | 1, hu => rw [h1]; exact hu⟩⟩
theorem cmpI_or (a b : List UInt8) : or2 (cmpI a.length b.length) (cmpS a b) = if a.length ≠ b.length then cmpI a.length b.length else cmpS a b := by
 unfold or2 cmpI
 by_cases h : a.length = b.length
 ·
  simp [h]
 rw [if_pos h]
 by_cases h1 : (a.length : Int) < b.length
 ·
  simp [h1]
 have h2 : (b.length : Int) < a.length := by omega
 simp [h1, h2]
set_option maxRecDepth 100000 in
theorem vcompare_any (x y : Val) (vk vi vr vk' vi' vr' : Value) (w : World) (hx : ValAt w w.heap.size x vk vi vr) (hy : ValAt w w.heap.size y vk' vi' vr') :
  Calls Tryz.prog 133 #[valA x vk vi vr, valA y vk' vi' vr'] w fun e w' => e = .returned (.int .i64 (compareV x y)) ∧ Below w.heap.size w w' := by
 have hc : Hid (compareV x y = if x.kind ≠ y.kind then 0 else if x.kind = 1 then (if x.bool = y.bool then 0 else if y.bool then -1 else 1) else if x.kind = 2 then cmpI (zig x.num) (zig y.num) else if x.kind = 3 then (if x.str.length ≠ y.str.length then cmpI x.str.length y.str.length else cmpS x.str y.str) else if x.kind = 4 then cmpI x.id y.id else 0) := by show _ = _; rfl
 obtain ⟨A1, n1, A2, n2, A3, n3, rfl, rfl, rfl, -, -, -⟩ := hx.forms
 obtain ⟨B1, k1, B2, k2, B3, k3, rfl, rfl, rfl, -, -, -⟩ := hy.forms
 have hx1 := hx.ints
 have hy1 := hy.ints
 have hzx := zig_any x.num hx1.2.1
 have hzy := zig_any y.num hy1.2.1
 have hxs := hx.strl
 have hys := hy.strl
 clear hx hy hx1 hy1
 have h0b := al2 w
 by_cases hk : x.kind = y.kind
 ·
  have hkk : (x.kind != y.kind) = false := by simp [hk]
  have HZX := Lib.hid hzx
  have HZY := Lib.hid hzy
  by_cases k1 : x.kind = 1
  ·
   have t1 : (x.kind == 1) = true := by simp [k1]
   by_cases hb : x.bool = y.bool
   ·
    have hr : Hid (compareV x y = 0) := by show _ = _; rw [hc.out, if_neg (by simp [hk]), if_pos k1, if_pos hb]
    have tb : (x.bool == y.bool) = true := by simp [hb]
    clear hk k1 hb hzx hzy
    go_enter Tryz.func133, Tryz.ntmps133
    go_wp2
    go_ret
    exact ⟨ret_int hr.out.symm, h0b _ _⟩
   have tb : (x.bool == y.bool) = false := by simpa using hb
   cases hyb : y.bool with
   | true =>
    have hr : Hid (compareV x y = -1) := by show _ = _; rw [hc.out, if_neg (by simp [hk]), if_pos k1, if_neg hb, hyb]; rfl
    rw [hyb] at tb
    clear hk k1 hb hzx hzy
    simp only [valA, hyb]
    go_enter Tryz.func133, Tryz.ntmps133
    go_wp2
    go_ret
    exact ⟨ret_int hr.out.symm, h0b _ _⟩
   | false =>
    have hr : Hid (compareV x y = 1) := by show _ = _; rw [hc.out, if_neg (by simp [hk]), if_pos k1, if_neg hb, hyb]; rfl
    rw [hyb] at tb
    clear hk k1 hb hzx hzy
    simp only [valA, hyb]
    go_enter Tryz.func133, Tryz.ntmps133
    go_wp2
    go_ret
    exact ⟨ret_int hr.out.symm, h0b _ _⟩
  have t1 : (x.kind == 1) = false := beq_eq_false_iff_ne.2 k1
  by_cases k2 : x.kind = 2
  ·
   have t2 : (x.kind == 2) = true := by simp [k2]
   have hr : Hid (compareV x y = cmpI (zig x.num) (zig y.num)) := by show _ = _; rw [hc.out, if_neg (by simp [hk]), if_neg k1, if_pos k2]
   clear hk k1 k2 hzx hzy
   go_enter Tryz.func133, Tryz.ntmps133
   go_wp2
   go_region_held3 (fun w' => w'.cell? ⟨w.heap.size, 2, none⟩ = some (.int .i64 x.num) ∧ w'.cell? ⟨w.heap.size + 1, 2, none⟩ = some (.int .i64 y.num)) (go_keep)
    (first
     | (go_at_call 108; (with_reducible refine (HZX.out _).mono ?_); rintro e w2 ⟨rfl, rfl⟩)
     | (go_at_call 108; (with_reducible refine (HZY.out _).mono ?_); rintro e w2 ⟨rfl, rfl⟩)
     | (go_at_call 167; (with_reducible refine (cmpu_any _ _ _).mono ?_); rintro e w2 ⟨rfl, rfl⟩))
   go_wp2
   go_ret
   exact ⟨ret_int hr.out.symm, (h0b _ _).drew⟩
  have t2 : (x.kind == 2) = false := beq_eq_false_iff_ne.2 k2
  by_cases k3 : x.kind = 3
  ·
   have t3 : (x.kind == 3) = true := by simp [k3]
   have hr : Hid (compareV x y = or2 (cmpI x.str.length y.str.length) (cmpS x.str y.str)) := by show _ = _; rw [hc.out, if_neg (by simp [hk]), if_neg k1, if_neg k2, if_pos k3, cmpI_or]
   clear hk k1 k2 k3 hzx hzy
   go_enter Tryz.func133, Tryz.ntmps133
   go_wp2
   go_region_held3 (fun w' => w'.cell? ⟨w.heap.size, 3, none⟩ = some (.string ⟨x.str.toArray⟩) ∧ w'.cell? ⟨w.heap.size + 1, 3, none⟩ = some (.string ⟨y.str.toArray⟩)) (go_keep)
    (first
     | (go_at_call 169; (with_reducible refine (cmpi_any _ _ _).mono ?_); rintro e w2 ⟨rfl, rfl⟩)
     | (go_at_call 170; (with_reducible refine (cmps_any _ _ _).mono ?_); rintro e w2 ⟨rfl, rfl⟩)
     | (go_at_call 168; refine (or2_any (cmpI x.str.length y.str.length) (cmpS x.str y.str) _ _ (rd2_of _ _ _ _ (by go_simp) (by go_simp) (by go_simp))).mono ?_; rintro e w2 ⟨rfl, rfl⟩))
   go_wp2
   go_ret
   exact ⟨ret_int hr.out.symm, ((h0b _ _).alloc (h0b _ _).size _).drew⟩
  have t3 : (x.kind == 3) = false := beq_eq_false_iff_ne.2 k3
  by_cases k4 : x.kind = 4
  ·
   have t4 : (x.kind == 4) = true := by simp [k4]
   have hr : Hid (compareV x y = cmpI x.id y.id) := by show _ = _; rw [hc.out, if_neg (by simp [hk]), if_neg k1, if_neg k2, if_neg k3, if_pos k4]
   clear hk k1 k2 k3 k4 hzx hzy
   go_enter Tryz.func133, Tryz.ntmps133
   go_wp2_with (go_at_call 169; refine (cmpi_any _ _ _).mono ?_; rintro e w' ⟨rfl, rfl⟩)
   go_ret
   exact ⟨ret_int hr.out.symm, h0b _ _⟩
  have t4 : (x.kind == 4) = false := beq_eq_false_iff_ne.2 k4
  have hr : Hid (compareV x y = 0) := by show _ = _; rw [hc.out, if_neg (by simp [hk]), if_neg k1, if_neg k2, if_neg k3, if_neg k4]
  clear hk k1 k2 k3 k4 hzx hzy
  go_enter Tryz.func133, Tryz.ntmps133
  go_wp2
  go_ret
  exact ⟨ret_int hr.out.symm, h0b _ _⟩
 have hr : Hid (compareV x y = 0) := by show _ = _; rw [hc.out, if_pos hk]
 have hkk : (x.kind != y.kind) = true := by simpa using hk
 clear hk hzx hzy
 go_enter Tryz.func133, Tryz.ntmps133
 go_wp2
 go_ret
 exact ⟨ret_int hr.out.symm, h0b _ _⟩
end Go.Proofs.YtlamhkffnlgofaaGreatDoor
namespace Go.Proofs.YtlamhkffnlgofaaGreatDoor
open Go.ChangeShapes Go.WideShapes Go.ChangeAt Go.RowKit
structure Mem where
 id : Int
 name : List UInt8
 ty : Int
 crit : Bool
 hasDef : Bool
 dflt : Val
structure Typ where
 kind : Int
 name : List UInt8
 low : Int
 high : Int
 max : Int
 syms : List Raw
 mems : List Mem
 key : Int
 elem : Int
 opn : Bool
structure MemAt (w : World) (B : Nat) (m : Mem) (vk vi vr : Value) : Prop where
 ints : I64 m.id ∧ I64 m.ty
 namel : m.name.length ≤ 140737488351232
 dflt : ValAt w B m.dflt vk vi vr
def memV (m : Mem) (vk vi vr : Value) : List Value := [.int .i64 m.id, .string ⟨m.name.toArray⟩, .int .i64 m.ty, .bool m.crit, .bool m.hasDef] ++ valV m.dflt vk vi vr
def RdMem (w : World) (B : Nat) (m : Mem) (cs : List Value) : Prop := ∃ vk vi vr, cs = memV m vk vi vr ∧ MemAt w B m vk vi vr
def RdMems (w : World) (B : Nat) (v : Value) (ms : List Mem) : Prop := ∃ c : Nat → List Value, Row w B 13 v ms.length c ∧ ∀ (i : Nat) (h : i < ms.length), RdMem w B ms[i] (c i)
theorem ValAt.keep {w w' : World} {B B' : Nat} {x : Val} {vk vi vr : Value} (h : ValAt w B x vk vi vr) (hk : ∀ p : Addr, p.block < B → w'.cell? p = w.cell? p) (hB : B ≤ B') : ValAt w' B' x vk vi vr :=
 ⟨h.ints, h.strl, h.lenz, h.raws, h.keys.keep hk hB, h.items.keep hk hB, (h.rest.keep hk).mono hB⟩
theorem MemAt.keep {w w' : World} {B B' : Nat} {x : Mem} {vk vi vr : Value} (h : MemAt w B x vk vi vr) (hk : ∀ p : Addr, p.block < B → w'.cell? p = w.cell? p) (hB : B ≤ B') : MemAt w' B' x vk vi vr :=
 ⟨h.ints, h.namel, h.dflt.keep hk hB⟩
theorem MemAt.on {w w' : World} {x : Mem} {vk vi vr : Value} (h : MemAt w w.heap.size x vk vi vr) (hb : Below w.heap.size w w') : MemAt w' w'.heap.size x vk vi vr := h.keep (fun _ hp => hb.cell hp) hb.size
theorem RdMem.keep {w w' : World} {B B' : Nat} {x : Mem} {cs : List Value} (h : RdMem w B x cs) (hk : ∀ p : Addr, p.block < B → w'.cell? p = w.cell? p) (hB : B ≤ B') : RdMem w' B' x cs := by
 obtain ⟨a, b, c, h1, h2⟩ := h
 exact ⟨a, b, c, h1, h2.keep hk hB⟩
theorem RdMems.keep {w w' : World} {B B' : Nat} {v : Value} {xs : List Mem} (h : RdMems w B v xs) (hk : ∀ p : Addr, p.block < B → w'.cell? p = w.cell? p) (hB : B ≤ B') : RdMems w' B' v xs := by
 obtain ⟨c, h1, h2⟩ := h
 exact ⟨c, (h1.keep hk).mono hB, fun i hi => (h2 i hi).keep hk hB⟩
theorem RdMems.on {w w' : World} {v : Value} {xs : List Mem} (h : RdMems w w.heap.size v xs) (hb : Below w.heap.size w w') : RdMems w' w'.heap.size v xs := h.keep (fun _ hp => hb.cell hp) hb.size
theorem RdMems.form {w : World} {B : Nat} {v : Value} {xs : List Mem} (h : RdMems w B v xs) : ∃ A c, v = .slice A xs.length c ∧ xs.length ≤ c := by
 obtain ⟨_, ⟨A, c, h1, h2, _⟩, _⟩ := h
 exact ⟨A, c, h1, h2⟩
def Cells13 (w : World) (b o : Nat) (m : Mem) (vk vi vr : Value) : Prop :=
 w.cell? ⟨b, o, none⟩ = some (.int .i64 m.id) ∧ w.cell? ⟨b, o + 1, none⟩ = some (.string ⟨m.name.toArray⟩) ∧ w.cell? ⟨b, o + 2, none⟩ = some (.int .i64 m.ty) ∧ w.cell? ⟨b, o + 3, none⟩ = some (.bool m.crit) ∧ w.cell? ⟨b, o + 4, none⟩ = some (.bool m.hasDef) ∧
 w.cell? ⟨b, o + 5, none⟩ = some (.int .i64 m.dflt.kind) ∧ w.cell? ⟨b, o + 6, none⟩ = some (.bool m.dflt.bool) ∧ w.cell? ⟨b, o + 7, none⟩ = some (.int .i64 m.dflt.num) ∧ w.cell? ⟨b, o + 8, none⟩ = some (.string ⟨m.dflt.str.toArray⟩) ∧ w.cell? ⟨b, o + 9, none⟩ = some (.int .i64 m.dflt.id) ∧
 w.cell? ⟨b, o + 10, none⟩ = some vk ∧ w.cell? ⟨b, o + 11, none⟩ = some vi ∧ w.cell? ⟨b, o + 12, none⟩ = some vr
theorem RdMems.elem {w : World} {B n cap : Nat} {A : Option Addr} {xs : List Mem} (h : RdMems w B (.slice A n cap) xs) (hpos : 0 < xs.length) : ∃ b o, A = some ⟨b, o, none⟩ ∧ b < B ∧ ∀ k (hk : k < xs.length), ∃ vk vi vr, Cells13 w b (o + k * 13) xs[k] vk vi vr ∧ MemAt w B xs[k] vk vi vr := by
 obtain ⟨c, ⟨A', c', hv, hc, h2⟩, h3⟩ := h
 injection hv with h4 h5 h6
 subst h4
 rcases h2 with h2 | ⟨b, o, hA, hb, hcell⟩
 ·
  omega
 refine ⟨b, o, hA, hb, fun k hk => ?_⟩
 obtain ⟨vk, vi, vr, hcs, hm⟩ := h3 k hk
 have hc := hcell k hk
 rw [hcs] at hc
 exact ⟨vk, vi, vr, ⟨hc 0 _ rfl, hc 1 _ rfl, hc 2 _ rfl, hc 3 _ rfl, hc 4 _ rfl, hc 5 _ rfl, hc 6 _ rfl, hc 7 _ rfl, hc 8 _ rfl, hc 9 _ rfl, hc 10 _ rfl, hc 11 _ rfl, hc 12 _ rfl⟩, hm⟩
structure TypAt (w : World) (B : Nat) (t : Typ) (vs vm : Value) : Prop where
 ints : I64 t.kind ∧ I64 t.low ∧ I64 t.high ∧ I64 t.max ∧ I64 t.key ∧ I64 t.elem
 namel : t.name.length ≤ 140737488351232
 lens : t.syms.length ≤ 140737488351232 ∧ t.mems.length ≤ 140737488351232
 symsin : ∀ r ∈ t.syms, RawIn r
 syms : Rd w B 2 vs t.syms.length (rawsV t.syms)
 mems : RdMems w B vm t.mems
theorem TypAt.keep {w w' : World} {B B' : Nat} {x : Typ} {vs vm : Value} (h : TypAt w B x vs vm) (hk : ∀ p : Addr, p.block < B → w'.cell? p = w.cell? p) (hB : B ≤ B') : TypAt w' B' x vs vm :=
 ⟨h.ints, h.namel, h.lens, h.symsin, (h.syms.keep hk).mono hB, h.mems.keep hk hB⟩
theorem TypAt.on {w w' : World} {x : Typ} {vs vm : Value} (h : TypAt w w.heap.size x vs vm) (hb : Below w.heap.size w w') : TypAt w' w'.heap.size x vs vm := h.keep (fun _ hp => hb.cell hp) hb.size
theorem TypAt.forms {w : World} {B : Nat} {x : Typ} {vs vm : Value} (h : TypAt w B x vs vm) : ∃ A1 c1 A2 c2, vs = .slice A1 x.syms.length c1 ∧ vm = .slice A2 x.mems.length c2 ∧ x.syms.length ≤ c1 ∧ x.mems.length ≤ c2 := by
 obtain ⟨A1, c1, e1, h1⟩ := h.syms.form
 obtain ⟨A2, c2, e2, h2⟩ := h.mems.form
 exact ⟨A1, c1, A2, c2, e1, e2, h1, h2⟩
def typV (t : Typ) (vs vm : Value) : List Value := [.int .i64 t.kind, .string ⟨t.name.toArray⟩, .int .i64 t.low, .int .i64 t.high, .int .i64 t.max, vs, vm, .int .i64 t.key, .int .i64 t.elem, .bool t.opn]
abbrev typA (t : Typ) (vs vm : Value) : Value := .agg #[.int .i64 t.kind, .string ⟨t.name.toArray⟩, .int .i64 t.low, .int .i64 t.high, .int .i64 t.max, vs, vm, .int .i64 t.key, .int .i64 t.elem, .bool t.opn]
def RdTyps (w : World) (B : Nat) (v : Value) (ts : List Typ) : Prop := ∃ c : Nat → List Value, Row w B 10 v ts.length c ∧ ∀ (i : Nat) (h : i < ts.length), ∃ vs vm, c i = typV ts[i] vs vm ∧ TypAt w B ts[i] vs vm
theorem RdTyps.keep {w w' : World} {B B' : Nat} {v : Value} {xs : List Typ} (h : RdTyps w B v xs) (hk : ∀ p : Addr, p.block < B → w'.cell? p = w.cell? p) (hB : B ≤ B') : RdTyps w' B' v xs := by
 obtain ⟨c, h1, h2⟩ := h
 refine ⟨c, (h1.keep hk).mono hB, fun i hi => ?_⟩
 obtain ⟨a, b, h3, h4⟩ := h2 i hi
 exact ⟨a, b, h3, h4.keep hk hB⟩
theorem RdTyps.on {w w' : World} {v : Value} {xs : List Typ} (h : RdTyps w w.heap.size v xs) (hb : Below w.heap.size w w') : RdTyps w' w'.heap.size v xs := h.keep (fun _ hp => hb.cell hp) hb.size
theorem RdTyps.form {w : World} {B : Nat} {v : Value} {xs : List Typ} (h : RdTyps w B v xs) : ∃ A c, v = .slice A xs.length c ∧ xs.length ≤ c := by
 obtain ⟨_, ⟨A, c, h1, h2, _⟩, _⟩ := h
 exact ⟨A, c, h1, h2⟩
def Cells10 (w : World) (b o : Nat) (t : Typ) (vs vm : Value) : Prop :=
 w.cell? ⟨b, o, none⟩ = some (.int .i64 t.kind) ∧ w.cell? ⟨b, o + 1, none⟩ = some (.string ⟨t.name.toArray⟩) ∧ w.cell? ⟨b, o + 2, none⟩ = some (.int .i64 t.low) ∧ w.cell? ⟨b, o + 3, none⟩ = some (.int .i64 t.high) ∧ w.cell? ⟨b, o + 4, none⟩ = some (.int .i64 t.max) ∧
 w.cell? ⟨b, o + 5, none⟩ = some vs ∧ w.cell? ⟨b, o + 6, none⟩ = some vm ∧ w.cell? ⟨b, o + 7, none⟩ = some (.int .i64 t.key) ∧ w.cell? ⟨b, o + 8, none⟩ = some (.int .i64 t.elem) ∧ w.cell? ⟨b, o + 9, none⟩ = some (.bool t.opn)
theorem RdTyps.elem {w : World} {B n cap : Nat} {A : Option Addr} {xs : List Typ} (h : RdTyps w B (.slice A n cap) xs) (hpos : 0 < xs.length) : ∃ b o, A = some ⟨b, o, none⟩ ∧ b < B ∧ ∀ k (hk : k < xs.length), ∃ vs vm, Cells10 w b (o + k * 10) xs[k] vs vm ∧ TypAt w B xs[k] vs vm := by
 obtain ⟨c, ⟨A', c', hv, hc, h2⟩, h3⟩ := h
 injection hv with h4 h5 h6
 subst h4
 rcases h2 with h2 | ⟨b, o, hA, hb, hcell⟩
 ·
  omega
 refine ⟨b, o, hA, hb, fun k hk => ?_⟩
 obtain ⟨vs, vm, hcs, hm⟩ := h3 k hk
 have hc := hcell k hk
 rw [hcs] at hc
 exact ⟨vs, vm, ⟨hc 0 _ rfl, hc 1 _ rfl, hc 2 _ rfl, hc 3 _ rfl, hc 4 _ rfl, hc 5 _ rfl, hc 6 _ rfl, hc 7 _ rfl, hc 8 _ rfl, hc 9 _ rfl⟩, hm⟩
theorem Cells10.below {w w' : World} {B b o : Nat} {x : Typ} {vs vm : Value} (h : Cells10 w b o x vs vm) (hb : Below B w w') (hlt : b < B) : Cells10 w' b o x vs vm := by
 obtain ⟨h0, h1, h2, h3, h4, h5, h6, h7, h8, h9⟩ := h
 exact ⟨(hb.cell hlt).trans h0, (hb.cell hlt).trans h1, (hb.cell hlt).trans h2, (hb.cell hlt).trans h3, (hb.cell hlt).trans h4, (hb.cell hlt).trans h5, (hb.cell hlt).trans h6, (hb.cell hlt).trans h7, (hb.cell hlt).trans h8, (hb.cell hlt).trans h9⟩
/-! the place of an ID -/
def idxF : List Int → Int → Nat → Option Nat
 | [], _, _ => none
 | a :: r, id, k => if a = id then some k else idxF r id (k + 1)
def idxI (o : Option Nat) : Int := match o with | some k => k | none => -1
def memIdx (t : Typ) (id : Int) : Option Nat := idxF (t.mems.map Mem.id) id 0
def symIdx (t : Typ) (id : Int) : Option Nat := idxF (t.syms.map Prod.fst) id 0
def pairV (o : Option Nat) : Value := .tuple #[.int .i64 (match o with | some k => (k : Int) | none => 0), .bool o.isSome]
set_option maxRecDepth 100000 in
theorem memc_any (m : Mem) (vk vi vr : Value) (p : Nat) (id : Int) (w : World) (hp : w.cell? ⟨p, 0, none⟩ = some (.int .i64 id)) (hlt : p < w.heap.size) :
  Calls Tryz.prog 110 #[.agg #[.int .i64 m.id, .string ⟨m.name.toArray⟩, .int .i64 m.ty, .bool m.crit, .bool m.hasDef, .int .i64 m.dflt.kind, .bool m.dflt.bool, .int .i64 m.dflt.num, .string ⟨m.dflt.str.toArray⟩, .int .i64 m.dflt.id, vk, vi, vr], .pointer (some ⟨p, 0, none⟩)] w fun e w' => e = .returned (.bool (m.id == id)) ∧ Below w.heap.size w w' := by
 go_enter Tryz.func110, Tryz.ntmps110
 go_wp2
 go_ret
 exact ⟨rfl, (Below.refl _ _).alloc (Nat.le_refl _) _⟩
set_option maxRecDepth 100000 in
theorem symc_any (r : Raw) (p : Nat) (id : Int) (w : World) (hp : w.cell? ⟨p, 0, none⟩ = some (.int .i64 id)) (hlt : p < w.heap.size) :
  Calls Tryz.prog 164 #[.agg #[.int .i64 r.1, .string ⟨r.2.toArray⟩], .pointer (some ⟨p, 0, none⟩)] w fun e w' => e = .returned (.bool (r.1 == id)) ∧ Below w.heap.size w w' := by
 go_enter Tryz.func164, Tryz.ntmps164
 go_wp2
 go_ret
 exact ⟨rfl, (Below.refl _ _).alloc (Nat.le_refl _) _⟩
end Go.Proofs.YtlamhkffnlgofaaGreatDoor
namespace Go.Proofs.YtlamhkffnlgofaaGreatDoor
open Go.ChangeShapes Go.WideShapes Go.ChangeAt Go.RowKit
theorem idxF_cons (a : Int) (r : List Int) (id : Int) (k : Nat) : idxF (a :: r) id k = if a = id then some k else idxF r id (k + 1) := rfl
theorem idxF_lt : ∀ (l : List Int) (id : Int) (k j : Nat), idxF l id k = some j → k ≤ j ∧ j < k + l.length := by
 intro l
 induction l with
 | nil => intro id k j h; simp [idxF] at h
 | cons a r ih =>
  intro id k j h
  rw [idxF] at h
  split at h
  ·
   injection h with h; subst h; simp
  have := ih id (k + 1) j h
  simp only [List.length_cons]; omega
theorem memIdx_lt (t : Typ) (id : Int) (j : Nat) (h : memIdx t id = some j) : j < t.mems.length := by
 have := idxF_lt _ _ _ _ h
 simpa using this.2
set_option maxRecDepth 100000 in
theorem memidx_any (ms : List Mem) (va : Value) (p : Nat) (id : Int) (w : World) (hl : ms.length ≤ 140737488351232) (hr : RdMems w w.heap.size va ms) (hp : w.cell? ⟨p, 0, none⟩ = some (.int .i64 id)) (hlt : p < w.heap.size) :
  Calls Tryz.prog 109 #[va, .func (.func 110) #[] #[.pointer (some ⟨p, 0, none⟩)]] w fun e w' => e = .returned (.int .i64 (idxI (idxF (ms.map Mem.id) id 0))) ∧ Below w.heap.size w w' := by
 obtain ⟨A, c, rfl, hc⟩ := hr.form
 have HR := Lib.hid hr
 have Hp := Lib.hid hp
 clear hr hp
 go_enter Tryz.func109, Tryz.ntmps109
 go_wp2
 go_loopw [8] (fun i wr => ∃ k : Nat, i = .int .i64 k ∧ k ≤ ms.length ∧ idxF (ms.map Mem.id) id 0 = idxF ((ms.drop k).map Mem.id) id k ∧ Below w.heap.size w wr) (fun i _ => ms.length - (intOf i).toNat)
 case atStart => exact ⟨0, rfl, by omega, rfl, Below.refl _ _⟩
 case round =>
  obtain ⟨k, rfl, hk, hix, hb⟩ := hrel
  by_cases hlk : k < ms.length
  ·
   obtain ⟨b, o, rfl, hbb, hel⟩ := (HR.out.on hb).elem (by omega)
   obtain ⟨vk, vi, vr, hcells, hm⟩ := hel k hlk
   rw [List.drop_eq_getElem_cons hlk, List.map_cons, idxF_cons] at hix
   generalize ms[k] = m at *
   obtain ⟨B1, k1, B2, k2, B3, k3, rfl, rfl, rfl, -, -, -⟩ := hm.dflt.forms
   obtain ⟨c0, c1, c2, c3, c4, c5, c6, c7, c8, c9, c10, c11, c12⟩ := hcells
   have hpw : wr.cell? ⟨p, 0, none⟩ = some (.int .i64 id) := (hb.cell hlt).trans Hp.out
   have hlw : p < wr.heap.size := Nat.lt_of_lt_of_le hlt hb.size
   have hi1 : (k : Int) < ms.length := by omega
   clear hel hm
   by_cases he : m.id = id
   ·
    rw [if_pos he] at hix
    have Hix := Lib.hid hix
    have ht : (m.id == id) = true := by simp [he]
    clear hix he
    go_wp2_with fail
    refine (memc_any m _ _ _ p id _ hpw hlw).mono ?_
    rintro e w2 ⟨rfl, hb2⟩
    go_wp2_with fail
    go_ret
    exact ⟨ret_int (by rw [Hix.out]; rfl), hb.trans (hb2.mono hb.size)⟩
   rw [if_neg he] at hix
   have Hix := Lib.hid hix
   have ht : (m.id == id) = false := by simpa using he
   clear hix he
   go_wp2_with fail
   refine (memc_any m _ _ _ p id _ hpw hlw).mono ?_
   rintro e w2 ⟨rfl, hb2⟩
   have hb02 := hb.trans (hb2.mono hb.size)
   clear hb2 hb hpw
   go_wp2_with fail
   go_roundw
   case rel => exact ⟨k + 1, by go_num, by omega, Hix.out, hb02⟩
   case measure => simp [intOf]; omega
  rw [List.drop_eq_nil_of_le (by omega)] at hix
  have Hix := Lib.hid hix
  clear hix
  go_wp2
  go_ret
  exact ⟨ret_int (by rw [Hix.out]; rfl), hb⟩
set_option maxRecDepth 100000 in
theorem symidx_any (ms : List Raw) (va : Value) (p : Nat) (id : Int) (w : World) (hl : ms.length ≤ 140737488351232) (hr : Rd w w.heap.size 2 va ms.length (rawsV ms)) (hp : w.cell? ⟨p, 0, none⟩ = some (.int .i64 id)) (hlt : p < w.heap.size) :
  Calls Tryz.prog 163 #[va, .func (.func 164) #[] #[.pointer (some ⟨p, 0, none⟩)]] w fun e w' => e = .returned (.int .i64 (idxI (idxF (ms.map Prod.fst) id 0))) ∧ Below w.heap.size w w' := by
 obtain ⟨A, c, rfl, hc⟩ := hr.form
 have HR := Lib.hid hr
 have Hp := Lib.hid hp
 clear hr hp
 go_enter Tryz.func163, Tryz.ntmps163
 go_wp2
 go_loopw [8] (fun i wr => ∃ k : Nat, i = .int .i64 k ∧ k ≤ ms.length ∧ idxF (ms.map Prod.fst) id 0 = idxF ((ms.drop k).map Prod.fst) id k ∧ Below w.heap.size w wr) (fun i _ => ms.length - (intOf i).toNat)
 case atStart => exact ⟨0, rfl, by omega, rfl, Below.refl _ _⟩
 case round =>
  obtain ⟨k, rfl, hk, hix, hb⟩ := hrel
  by_cases hlk : k < ms.length
  ·
   obtain ⟨b, o, rfl, hbb, hcell⟩ := (HR.out.below hb).at_ (by omega)
   obtain ⟨c0, c1⟩ := rawV_at hcell k hlk
   rw [List.drop_eq_getElem_cons hlk, List.map_cons, idxF_cons] at hix
   generalize ms[k] = m at *
   have hpw : wr.cell? ⟨p, 0, none⟩ = some (.int .i64 id) := (hb.cell hlt).trans Hp.out
   have hlw : p < wr.heap.size := Nat.lt_of_lt_of_le hlt hb.size
   have hi1 : (k : Int) < ms.length := by omega
   clear hcell
   by_cases he : m.1 = id
   ·
    rw [if_pos he] at hix
    have Hix := Lib.hid hix
    have ht : (m.1 == id) = true := by simp [he]
    clear hix he
    go_wp2_with fail
    refine (symc_any m p id _ hpw hlw).mono ?_
    rintro e w2 ⟨rfl, hb2⟩
    go_wp2_with fail
    go_ret
    exact ⟨ret_int (by rw [Hix.out]; rfl), hb.trans (hb2.mono hb.size)⟩
   rw [if_neg he] at hix
   have Hix := Lib.hid hix
   have ht : (m.1 == id) = false := by simpa using he
   clear hix he
   go_wp2_with fail
   refine (symc_any m p id _ hpw hlw).mono ?_
   rintro e w2 ⟨rfl, hb2⟩
   have hb02 := hb.trans (hb2.mono hb.size)
   clear hb2 hb hpw
   go_wp2_with fail
   go_roundw
   case rel => exact ⟨k + 1, by go_num, by omega, Hix.out, hb02⟩
   case measure => simp [intOf]; omega
  rw [List.drop_eq_nil_of_le (by omega)] at hix
  have Hix := Lib.hid hix
  clear hix
  go_wp2
  go_ret
  exact ⟨ret_int (by rw [Hix.out]; rfl), hb⟩
set_option maxRecDepth 100000 in
theorem member_any (t : Typ) (vs vm : Value) (id : Int) (w : World) (ht : TypAt w w.heap.size t vs vm) :
  Calls Tryz.prog 83 #[typA t vs vm, .int .i64 id] w fun e w' => e = .returned (pairV (memIdx t id)) ∧ Below w.heap.size w w' := by
 obtain ⟨A1, c1, A2, c2, rfl, rfl, -, -⟩ := ht.forms
 have h2b := al2 w
 have HT := Lib.hid ht
 have hl := ht.lens.2
 have hlt := idxF_lt (t.mems.map Mem.id) id 0
 rw [List.length_map] at hlt
 have hg := fun va p W h1 h2 h3 => memidx_any t.mems va p id W hl h1 h2 h3
 obtain ⟨o, ho⟩ : ∃ o, idxF (t.mems.map Mem.id) id 0 = o := ⟨_, rfl⟩
 have ho2 : memIdx t id = o := ho
 rw [ho2]
 rw [ho] at hg hlt
 clear ht ho ho2
 cases o with
 | none =>
  simp only [idxI] at hg
  have HG := Lib.hid hg
  clear hlt hg
  go_enter Tryz.func83, Tryz.ntmps83
  go_wp2_with fail
  refine (HG.out _ (w.heap.size + 1) _ ((HT.out.on (h2b _ _)).mems) (by go_simp) (by simp)).mono ?_
  rintro e w2 ⟨rfl, hb2⟩
  have h02 := (h2b _ _).trans (hb2.mono (h2b _ _).size)
  clear hb2 h2b
  go_wp2_with fail
  go_ret2
  exact ⟨rfl, h02⟩
 | some k =>
  have hk := (hlt k rfl).2
  simp only [idxI] at hg
  have HG := Lib.hid hg
  have hmx : max (k : Int) 0 = k := by omega
  clear hlt hg
  go_enter Tryz.func83, Tryz.ntmps83
  go_wp2_with fail
  refine (HG.out _ (w.heap.size + 1) _ ((HT.out.on (h2b _ _)).mems) (by go_simp) (by simp)).mono ?_
  rintro e w2 ⟨rfl, hb2⟩
  have h02 := (h2b _ _).trans (hb2.mono (h2b _ _).size)
  clear hb2 h2b
  go_wp2_with fail
  go_ret2
  exact ⟨rfl, h02⟩
set_option maxRecDepth 100000 in
theorem symbol_any (t : Typ) (vs vm : Value) (id : Int) (w : World) (ht : TypAt w w.heap.size t vs vm) :
  Calls Tryz.prog 130 #[typA t vs vm, .int .i64 id] w fun e w' => e = .returned (pairV (symIdx t id)) ∧ Below w.heap.size w w' := by
 obtain ⟨A1, c1, A2, c2, rfl, rfl, -, -⟩ := ht.forms
 have h2b := al2 w
 have HT := Lib.hid ht
 have hl := ht.lens.1
 have hlt := idxF_lt (t.syms.map Prod.fst) id 0
 rw [List.length_map] at hlt
 have hg := fun va p W h1 h2 h3 => symidx_any t.syms va p id W hl h1 h2 h3
 obtain ⟨o, ho⟩ : ∃ o, idxF (t.syms.map Prod.fst) id 0 = o := ⟨_, rfl⟩
 have ho2 : symIdx t id = o := ho
 rw [ho2]
 rw [ho] at hg hlt
 clear ht ho ho2
 cases o with
 | none =>
  simp only [idxI] at hg
  have HG := Lib.hid hg
  clear hlt hg
  go_enter Tryz.func130, Tryz.ntmps130
  go_wp2_with fail
  refine (HG.out _ (w.heap.size + 1) _ ((HT.out.on (h2b _ _)).syms) (by go_simp) (by simp)).mono ?_
  rintro e w2 ⟨rfl, hb2⟩
  have h02 := (h2b _ _).trans (hb2.mono (h2b _ _).size)
  clear hb2 h2b
  go_wp2_with fail
  go_ret2
  exact ⟨rfl, h02⟩
 | some k =>
  have hk := (hlt k rfl).2
  simp only [idxI] at hg
  have HG := Lib.hid hg
  have hmx : max (k : Int) 0 = k := by omega
  clear hlt hg
  go_enter Tryz.func130, Tryz.ntmps130
  go_wp2_with fail
  refine (HG.out _ (w.heap.size + 1) _ ((HT.out.on (h2b _ _)).syms) (by go_simp) (by simp)).mono ?_
  rintro e w2 ⟨rfl, hb2⟩
  have h02 := (h2b _ _).trans (hb2.mono (h2b _ _).size)
  clear hb2 h2b
  go_wp2_with fail
  go_ret2
  exact ⟨rfl, h02⟩
end Go.Proofs.YtlamhkffnlgofaaGreatDoor

/- Members, types and schemas, and how memory reads as them; what Member and Symbol compute. What Member and Symbol of both packages compute. What bare and proper compute. What each and its closure compute, given what fits computes for the elements. What free and id compute. Which values fit a type: a plain function with fuel. No condition. -/
import Derived.Test.YtccmmibkihbobaaDoorValF
import Derived.Test.YtccmmibkihbobaaDoorValC
set_option maxHeartbeats 400000
namespace Go.Proofs.YtccmmibkihbobaaDoor
open Go.ChangeShapes Go.WideShapes Go.ChangeAt Go.RowKit
structure Mem where
 id : Int
 name : List UInt8
 ty : Int
 crit : Bool
 hasDef : Bool
 dflt : Val
structure Typ where
 kind : Int
 name : List UInt8
 low : Int
 high : Int
 max : Int
 syms : List Raw
 mems : List Mem
 key : Int
 elem : Int
 opn : Bool
def reach47 : Nat := 140737488351232
structure MemAt (w : World) (B : Nat) (m : Mem) (vk vi vr : Value) : Prop where
 ints : I64 m.id ∧ I64 m.ty
 namel : m.name.length ≤ 140737488351232
 dflt : ValAt w B m.dflt vk vi vr
def memV (m : Mem) (vk vi vr : Value) : List Value := [.int .i64 m.id, .string ⟨m.name.toArray⟩, .int .i64 m.ty, .bool m.crit, .bool m.hasDef] ++ valV m.dflt vk vi vr
def RdMem (w : World) (B : Nat) (m : Mem) (cs : List Value) : Prop := ∃ vk vi vr, cs = memV m vk vi vr ∧ MemAt w B m vk vi vr
def RdMems (w : World) (B : Nat) (v : Value) (ms : List Mem) : Prop := ∃ c : Nat → List Value, Row w B 13 v ms.length c ∧ ∀ (i : Nat) (h : i < ms.length), RdMem w B ms[i] (c i)
theorem ValAt.keep {w w' : World} {B B' : Nat} {x : Val} {vk vi vr : Value} (h : ValAt w B x vk vi vr) (hk : ∀ p : Addr, p.block < B → w'.cell? p = w.cell? p) (hB : B ≤ B') : ValAt w' B' x vk vi vr :=
 ⟨h.ints, h.strl, h.lenz, h.raws, h.keys.keep hk hB, h.items.keep hk hB, (h.rest.keep hk).mono hB⟩
theorem MemAt.keep {w w' : World} {B B' : Nat} {x : Mem} {vk vi vr : Value} (h : MemAt w B x vk vi vr) (hk : ∀ p : Addr, p.block < B → w'.cell? p = w.cell? p) (hB : B ≤ B') : MemAt w' B' x vk vi vr :=
 ⟨h.ints, h.namel, h.dflt.keep hk hB⟩
theorem MemAt.on {w w' : World} {x : Mem} {vk vi vr : Value} (h : MemAt w w.heap.size x vk vi vr) (hb : Below w.heap.size w w') : MemAt w' w'.heap.size x vk vi vr := h.keep (fun _ hp => hb.cell hp) hb.size
theorem RdMem.keep {w w' : World} {B B' : Nat} {x : Mem} {cs : List Value} (h : RdMem w B x cs) (hk : ∀ p : Addr, p.block < B → w'.cell? p = w.cell? p) (hB : B ≤ B') : RdMem w' B' x cs := by
 obtain ⟨a, b, c, h1, h2⟩ := h
 exact ⟨a, b, c, h1, h2.keep hk hB⟩
theorem RdMems.keep {w w' : World} {B B' : Nat} {v : Value} {xs : List Mem} (h : RdMems w B v xs) (hk : ∀ p : Addr, p.block < B → w'.cell? p = w.cell? p) (hB : B ≤ B') : RdMems w' B' v xs := by
 obtain ⟨c, h1, h2⟩ := h
 exact ⟨c, (h1.keep hk).mono hB, fun i hi => (h2 i hi).keep hk hB⟩
theorem RdMems.on {w w' : World} {v : Value} {xs : List Mem} (h : RdMems w w.heap.size v xs) (hb : Below w.heap.size w w') : RdMems w' w'.heap.size v xs := h.keep (fun _ hp => hb.cell hp) hb.size
theorem RdMems.form {w : World} {B : Nat} {v : Value} {xs : List Mem} (h : RdMems w B v xs) : ∃ A c, v = .slice A xs.length c ∧ xs.length ≤ c := by
 obtain ⟨_, ⟨A, c, h1, h2, _⟩, _⟩ := h
 exact ⟨A, c, h1, h2⟩
def Cells13 (w : World) (b o : Nat) (m : Mem) (vk vi vr : Value) : Prop :=
 w.cell? ⟨b, o, none⟩ = some (.int .i64 m.id) ∧ w.cell? ⟨b, o + 1, none⟩ = some (.string ⟨m.name.toArray⟩) ∧ w.cell? ⟨b, o + 2, none⟩ = some (.int .i64 m.ty) ∧ w.cell? ⟨b, o + 3, none⟩ = some (.bool m.crit) ∧ w.cell? ⟨b, o + 4, none⟩ = some (.bool m.hasDef) ∧
 w.cell? ⟨b, o + 5, none⟩ = some (.int .i64 m.dflt.kind) ∧ w.cell? ⟨b, o + 6, none⟩ = some (.bool m.dflt.bool) ∧ w.cell? ⟨b, o + 7, none⟩ = some (.int .i64 m.dflt.num) ∧ w.cell? ⟨b, o + 8, none⟩ = some (.string ⟨m.dflt.str.toArray⟩) ∧ w.cell? ⟨b, o + 9, none⟩ = some (.int .i64 m.dflt.id) ∧
 w.cell? ⟨b, o + 10, none⟩ = some vk ∧ w.cell? ⟨b, o + 11, none⟩ = some vi ∧ w.cell? ⟨b, o + 12, none⟩ = some vr
theorem RdMems.elem {w : World} {B n cap : Nat} {A : Option Addr} {xs : List Mem} (h : RdMems w B (.slice A n cap) xs) (hpos : 0 < xs.length) : ∃ b o, A = some ⟨b, o, none⟩ ∧ b < B ∧ ∀ k (hk : k < xs.length), ∃ vk vi vr, Cells13 w b (o + k * 13) xs[k] vk vi vr ∧ MemAt w B xs[k] vk vi vr := by
 obtain ⟨c, ⟨A', c', hv, hc, h2⟩, h3⟩ := h
 injection hv with h4 h5 h6
 subst h4
 rcases h2 with h2 | ⟨b, o, hA, hb, hcell⟩
 ·
  omega
 refine ⟨b, o, hA, hb, fun k hk => ?_⟩
 obtain ⟨vk, vi, vr, hcs, hm⟩ := h3 k hk
 have hc := hcell k hk
 rw [hcs] at hc
 exact ⟨vk, vi, vr, ⟨hc 0 _ rfl, hc 1 _ rfl, hc 2 _ rfl, hc 3 _ rfl, hc 4 _ rfl, hc 5 _ rfl, hc 6 _ rfl, hc 7 _ rfl, hc 8 _ rfl, hc 9 _ rfl, hc 10 _ rfl, hc 11 _ rfl, hc 12 _ rfl⟩, hm⟩
structure TypAt (w : World) (B : Nat) (t : Typ) (vs vm : Value) : Prop where
 ints : I64 t.kind ∧ I64 t.low ∧ I64 t.high ∧ I64 t.max ∧ I64 t.key ∧ I64 t.elem
 namel : t.name.length ≤ 140737488351232
 lens : t.syms.length ≤ 140737488351232 ∧ t.mems.length ≤ 140737488351232
 symsin : ∀ r ∈ t.syms, RawIn r
 syms : Rd w B 2 vs t.syms.length (rawsV t.syms)
 mems : RdMems w B vm t.mems
theorem TypAt.keep {w w' : World} {B B' : Nat} {x : Typ} {vs vm : Value} (h : TypAt w B x vs vm) (hk : ∀ p : Addr, p.block < B → w'.cell? p = w.cell? p) (hB : B ≤ B') : TypAt w' B' x vs vm :=
 ⟨h.ints, h.namel, h.lens, h.symsin, (h.syms.keep hk).mono hB, h.mems.keep hk hB⟩
theorem TypAt.on {w w' : World} {x : Typ} {vs vm : Value} (h : TypAt w w.heap.size x vs vm) (hb : Below w.heap.size w w') : TypAt w' w'.heap.size x vs vm := h.keep (fun _ hp => hb.cell hp) hb.size
theorem TypAt.forms {w : World} {B : Nat} {x : Typ} {vs vm : Value} (h : TypAt w B x vs vm) : ∃ A1 c1 A2 c2, vs = .slice A1 x.syms.length c1 ∧ vm = .slice A2 x.mems.length c2 ∧ x.syms.length ≤ c1 ∧ x.mems.length ≤ c2 := by
 obtain ⟨A1, c1, e1, h1⟩ := h.syms.form
 obtain ⟨A2, c2, e2, h2⟩ := h.mems.form
 exact ⟨A1, c1, A2, c2, e1, e2, h1, h2⟩
def typV (t : Typ) (vs vm : Value) : List Value := [.int .i64 t.kind, .string ⟨t.name.toArray⟩, .int .i64 t.low, .int .i64 t.high, .int .i64 t.max, vs, vm, .int .i64 t.key, .int .i64 t.elem, .bool t.opn]
abbrev typA (t : Typ) (vs vm : Value) : Value := .agg #[.int .i64 t.kind, .string ⟨t.name.toArray⟩, .int .i64 t.low, .int .i64 t.high, .int .i64 t.max, vs, vm, .int .i64 t.key, .int .i64 t.elem, .bool t.opn]
def RdTyps (w : World) (B : Nat) (v : Value) (ts : List Typ) : Prop := ∃ c : Nat → List Value, Row w B 10 v ts.length c ∧ ∀ (i : Nat) (h : i < ts.length), ∃ vs vm, c i = typV ts[i] vs vm ∧ TypAt w B ts[i] vs vm
theorem RdTyps.keep {w w' : World} {B B' : Nat} {v : Value} {xs : List Typ} (h : RdTyps w B v xs) (hk : ∀ p : Addr, p.block < B → w'.cell? p = w.cell? p) (hB : B ≤ B') : RdTyps w' B' v xs := by
 obtain ⟨c, h1, h2⟩ := h
 refine ⟨c, (h1.keep hk).mono hB, fun i hi => ?_⟩
 obtain ⟨a, b, h3, h4⟩ := h2 i hi
 exact ⟨a, b, h3, h4.keep hk hB⟩
theorem RdTyps.on {w w' : World} {v : Value} {xs : List Typ} (h : RdTyps w w.heap.size v xs) (hb : Below w.heap.size w w') : RdTyps w' w'.heap.size v xs := h.keep (fun _ hp => hb.cell hp) hb.size
theorem RdTyps.form {w : World} {B : Nat} {v : Value} {xs : List Typ} (h : RdTyps w B v xs) : ∃ A c, v = .slice A xs.length c ∧ xs.length ≤ c := by
 obtain ⟨_, ⟨A, c, h1, h2, _⟩, _⟩ := h
 exact ⟨A, c, h1, h2⟩
def Cells10 (w : World) (b o : Nat) (t : Typ) (vs vm : Value) : Prop :=
 w.cell? ⟨b, o, none⟩ = some (.int .i64 t.kind) ∧ w.cell? ⟨b, o + 1, none⟩ = some (.string ⟨t.name.toArray⟩) ∧ w.cell? ⟨b, o + 2, none⟩ = some (.int .i64 t.low) ∧ w.cell? ⟨b, o + 3, none⟩ = some (.int .i64 t.high) ∧ w.cell? ⟨b, o + 4, none⟩ = some (.int .i64 t.max) ∧
 w.cell? ⟨b, o + 5, none⟩ = some vs ∧ w.cell? ⟨b, o + 6, none⟩ = some vm ∧ w.cell? ⟨b, o + 7, none⟩ = some (.int .i64 t.key) ∧ w.cell? ⟨b, o + 8, none⟩ = some (.int .i64 t.elem) ∧ w.cell? ⟨b, o + 9, none⟩ = some (.bool t.opn)
theorem RdTyps.elem {w : World} {B n cap : Nat} {A : Option Addr} {xs : List Typ} (h : RdTyps w B (.slice A n cap) xs) (hpos : 0 < xs.length) : ∃ b o, A = some ⟨b, o, none⟩ ∧ b < B ∧ ∀ k (hk : k < xs.length), ∃ vs vm, Cells10 w b (o + k * 10) xs[k] vs vm ∧ TypAt w B xs[k] vs vm := by
 obtain ⟨c, ⟨A', c', hv, hc, h2⟩, h3⟩ := h
 injection hv with h4 h5 h6
 subst h4
 rcases h2 with h2 | ⟨b, o, hA, hb, hcell⟩
 ·
  omega
 refine ⟨b, o, hA, hb, fun k hk => ?_⟩
 obtain ⟨vs, vm, hcs, hm⟩ := h3 k hk
 have hc := hcell k hk
 rw [hcs] at hc
 exact ⟨vs, vm, ⟨hc 0 _ rfl, hc 1 _ rfl, hc 2 _ rfl, hc 3 _ rfl, hc 4 _ rfl, hc 5 _ rfl, hc 6 _ rfl, hc 7 _ rfl, hc 8 _ rfl, hc 9 _ rfl⟩, hm⟩
theorem Cells10.below {w w' : World} {B b o : Nat} {x : Typ} {vs vm : Value} (h : Cells10 w b o x vs vm) (hb : Below B w w') (hlt : b < B) : Cells10 w' b o x vs vm := by
 obtain ⟨h0, h1, h2, h3, h4, h5, h6, h7, h8, h9⟩ := h
 exact ⟨(hb.cell hlt).trans h0, (hb.cell hlt).trans h1, (hb.cell hlt).trans h2, (hb.cell hlt).trans h3, (hb.cell hlt).trans h4, (hb.cell hlt).trans h5, (hb.cell hlt).trans h6, (hb.cell hlt).trans h7, (hb.cell hlt).trans h8, (hb.cell hlt).trans h9⟩
/-! the place of an ID -/
def idxF : List Int → Int → Nat → Option Nat
 | [], _, _ => none
 | a :: r, id, k => if a = id then some k else idxF r id (k + 1)
def idxI (o : Option Nat) : Int := match o with | some k => k | none => -1
def memIdx (t : Typ) (id : Int) : Option Nat := idxF (t.mems.map Mem.id) id 0
def symIdx (t : Typ) (id : Int) : Option Nat := idxF (t.syms.map Prod.fst) id 0
def pairV (o : Option Nat) : Value := .tuple #[.int .i64 (match o with | some k => (k : Int) | none => 0), .bool o.isSome]
set_option maxRecDepth 100000 in
theorem memc_any (m : Mem) (vk vi vr : Value) (p : Nat) (id : Int) (w : World) (hp : w.cell? ⟨p, 0, none⟩ = some (.int .i64 id)) (hlt : p < w.heap.size) :
  Calls Tryd.prog 52 #[.agg #[.int .i64 m.id, .string ⟨m.name.toArray⟩, .int .i64 m.ty, .bool m.crit, .bool m.hasDef, .int .i64 m.dflt.kind, .bool m.dflt.bool, .int .i64 m.dflt.num, .string ⟨m.dflt.str.toArray⟩, .int .i64 m.dflt.id, vk, vi, vr], .pointer (some ⟨p, 0, none⟩)] w fun e w' => e = .returned (.bool (m.id == id)) ∧ Below w.heap.size w w' := by
 go_enter Tryd.func52, Tryd.ntmps52
 go_wp2
 go_ret
 exact ⟨rfl, (Below.refl _ _).alloc (Nat.le_refl _) _⟩
set_option maxRecDepth 100000 in
theorem symc_any (r : Raw) (p : Nat) (id : Int) (w : World) (hp : w.cell? ⟨p, 0, none⟩ = some (.int .i64 id)) (hlt : p < w.heap.size) :
  Calls Tryd.prog 50 #[.agg #[.int .i64 r.1, .string ⟨r.2.toArray⟩], .pointer (some ⟨p, 0, none⟩)] w fun e w' => e = .returned (.bool (r.1 == id)) ∧ Below w.heap.size w w' := by
 go_enter Tryd.func50, Tryd.ntmps50
 go_wp2
 go_ret
 exact ⟨rfl, (Below.refl _ _).alloc (Nat.le_refl _) _⟩
end Go.Proofs.YtccmmibkihbobaaDoor
namespace Go.Proofs.YtccmmibkihbobaaDoor
open Go.ChangeShapes Go.WideShapes Go.ChangeAt Go.RowKit
theorem idxF_cons (a : Int) (r : List Int) (id : Int) (k : Nat) : idxF (a :: r) id k = if a = id then some k else idxF r id (k + 1) := rfl
theorem idxF_lt : ∀ (l : List Int) (id : Int) (k j : Nat), idxF l id k = some j → k ≤ j ∧ j < k + l.length := by
 intro l
 induction l with
 | nil => intro id k j h; simp [idxF] at h
 | cons a r ih =>
  intro id k j h
  rw [idxF] at h
  split at h
  ·
   injection h with h; subst h; simp
  have := ih id (k + 1) j h
  simp only [List.length_cons]; omega
theorem memIdx_lt (t : Typ) (id : Int) (j : Nat) (h : memIdx t id = some j) : j < t.mems.length := by
 have := idxF_lt _ _ _ _ h
 simpa using this.2
set_option maxRecDepth 100000 in
theorem memidx_any (ms : List Mem) (va : Value) (p : Nat) (id : Int) (w : World) (hl : ms.length ≤ 140737488351232) (hr : RdMems w w.heap.size va ms) (hp : w.cell? ⟨p, 0, none⟩ = some (.int .i64 id)) (hlt : p < w.heap.size) :
  Calls Tryd.prog 51 #[va, .func (.func 52) #[] #[.pointer (some ⟨p, 0, none⟩)]] w fun e w' => e = .returned (.int .i64 (idxI (idxF (ms.map Mem.id) id 0))) ∧ Below w.heap.size w w' := by
 obtain ⟨A, c, rfl, hc⟩ := hr.form
 have HR := Lib.hid hr
 have Hp := Lib.hid hp
 clear hr hp
 go_enter Tryd.func51, Tryd.ntmps51
 go_wp2
 go_loopw [8] (fun i wr => ∃ k : Nat, i = .int .i64 k ∧ k ≤ ms.length ∧ idxF (ms.map Mem.id) id 0 = idxF ((ms.drop k).map Mem.id) id k ∧ Below w.heap.size w wr) (fun i _ => ms.length - (intOf i).toNat)
 case atStart => exact ⟨0, rfl, by omega, rfl, Below.refl _ _⟩
 case round =>
  obtain ⟨k, rfl, hk, hix, hb⟩ := hrel
  by_cases hlk : k < ms.length
  ·
   obtain ⟨b, o, rfl, hbb, hel⟩ := (HR.out.on hb).elem (by omega)
   obtain ⟨vk, vi, vr, hcells, hm⟩ := hel k hlk
   rw [List.drop_eq_getElem_cons hlk, List.map_cons, idxF_cons] at hix
   generalize ms[k] = m at *
   obtain ⟨B1, k1, B2, k2, B3, k3, rfl, rfl, rfl, -, -, -⟩ := hm.dflt.forms
   obtain ⟨c0, c1, c2, c3, c4, c5, c6, c7, c8, c9, c10, c11, c12⟩ := hcells
   have hpw : wr.cell? ⟨p, 0, none⟩ = some (.int .i64 id) := (hb.cell hlt).trans Hp.out
   have hlw : p < wr.heap.size := Nat.lt_of_lt_of_le hlt hb.size
   have hi1 : (k : Int) < ms.length := by omega
   clear hel hm
   by_cases he : m.id = id
   ·
    rw [if_pos he] at hix
    have Hix := Lib.hid hix
    have ht : (m.id == id) = true := by simp [he]
    clear hix he
    go_wp2_with fail
    refine (memc_any m _ _ _ p id _ hpw hlw).mono ?_
    rintro e w2 ⟨rfl, hb2⟩
    go_wp2_with fail
    go_ret
    exact ⟨ret_int (by rw [Hix.out]; rfl), hb.trans (hb2.mono hb.size)⟩
   rw [if_neg he] at hix
   have Hix := Lib.hid hix
   have ht : (m.id == id) = false := by simpa using he
   clear hix he
   go_wp2_with fail
   refine (memc_any m _ _ _ p id _ hpw hlw).mono ?_
   rintro e w2 ⟨rfl, hb2⟩
   have hb02 := hb.trans (hb2.mono hb.size)
   clear hb2 hb hpw
   go_wp2_with fail
   go_roundw
   case rel => exact ⟨k + 1, by go_num, by omega, Hix.out, hb02⟩
   case measure => simp [intOf]; omega
  rw [List.drop_eq_nil_of_le (by omega)] at hix
  have Hix := Lib.hid hix
  clear hix
  go_wp2
  go_ret
  exact ⟨ret_int (by rw [Hix.out]; rfl), hb⟩
set_option maxRecDepth 100000 in
theorem symidx_any (ms : List Raw) (va : Value) (p : Nat) (id : Int) (w : World) (hl : ms.length ≤ 140737488351232) (hr : Rd w w.heap.size 2 va ms.length (rawsV ms)) (hp : w.cell? ⟨p, 0, none⟩ = some (.int .i64 id)) (hlt : p < w.heap.size) :
  Calls Tryd.prog 49 #[va, .func (.func 50) #[] #[.pointer (some ⟨p, 0, none⟩)]] w fun e w' => e = .returned (.int .i64 (idxI (idxF (ms.map Prod.fst) id 0))) ∧ Below w.heap.size w w' := by
 obtain ⟨A, c, rfl, hc⟩ := hr.form
 have HR := Lib.hid hr
 have Hp := Lib.hid hp
 clear hr hp
 go_enter Tryd.func49, Tryd.ntmps49
 go_wp2
 go_loopw [8] (fun i wr => ∃ k : Nat, i = .int .i64 k ∧ k ≤ ms.length ∧ idxF (ms.map Prod.fst) id 0 = idxF ((ms.drop k).map Prod.fst) id k ∧ Below w.heap.size w wr) (fun i _ => ms.length - (intOf i).toNat)
 case atStart => exact ⟨0, rfl, by omega, rfl, Below.refl _ _⟩
 case round =>
  obtain ⟨k, rfl, hk, hix, hb⟩ := hrel
  by_cases hlk : k < ms.length
  ·
   obtain ⟨b, o, rfl, hbb, hcell⟩ := (HR.out.below hb).at_ (by omega)
   obtain ⟨c0, c1⟩ := rawV_at hcell k hlk
   rw [List.drop_eq_getElem_cons hlk, List.map_cons, idxF_cons] at hix
   generalize ms[k] = m at *
   have hpw : wr.cell? ⟨p, 0, none⟩ = some (.int .i64 id) := (hb.cell hlt).trans Hp.out
   have hlw : p < wr.heap.size := Nat.lt_of_lt_of_le hlt hb.size
   have hi1 : (k : Int) < ms.length := by omega
   clear hcell
   by_cases he : m.1 = id
   ·
    rw [if_pos he] at hix
    have Hix := Lib.hid hix
    have ht : (m.1 == id) = true := by simp [he]
    clear hix he
    go_wp2_with fail
    refine (symc_any m p id _ hpw hlw).mono ?_
    rintro e w2 ⟨rfl, hb2⟩
    go_wp2_with fail
    go_ret
    exact ⟨ret_int (by rw [Hix.out]; rfl), hb.trans (hb2.mono hb.size)⟩
   rw [if_neg he] at hix
   have Hix := Lib.hid hix
   have ht : (m.1 == id) = false := by simpa using he
   clear hix he
   go_wp2_with fail
   refine (symc_any m p id _ hpw hlw).mono ?_
   rintro e w2 ⟨rfl, hb2⟩
   have hb02 := hb.trans (hb2.mono hb.size)
   clear hb2 hb hpw
   go_wp2_with fail
   go_roundw
   case rel => exact ⟨k + 1, by go_num, by omega, Hix.out, hb02⟩
   case measure => simp [intOf]; omega
  rw [List.drop_eq_nil_of_le (by omega)] at hix
  have Hix := Lib.hid hix
  clear hix
  go_wp2
  go_ret
  exact ⟨ret_int (by rw [Hix.out]; rfl), hb⟩
set_option maxRecDepth 100000 in
theorem member_any (t : Typ) (vs vm : Value) (id : Int) (w : World) (ht : TypAt w w.heap.size t vs vm) :
  Calls Tryd.prog 35 #[typA t vs vm, .int .i64 id] w fun e w' => e = .returned (pairV (memIdx t id)) ∧ Below w.heap.size w w' := by
 obtain ⟨A1, c1, A2, c2, rfl, rfl, -, -⟩ := ht.forms
 have h2b := al2 w
 have HT := Lib.hid ht
 have hl := ht.lens.2
 have hlt := idxF_lt (t.mems.map Mem.id) id 0
 rw [List.length_map] at hlt
 have hg := fun va p W h1 h2 h3 => memidx_any t.mems va p id W hl h1 h2 h3
 obtain ⟨o, ho⟩ : ∃ o, idxF (t.mems.map Mem.id) id 0 = o := ⟨_, rfl⟩
 have ho2 : memIdx t id = o := ho
 rw [ho2]
 rw [ho] at hg hlt
 clear ht ho ho2
 cases o with
 | none =>
  simp only [idxI] at hg
  have HG := Lib.hid hg
  clear hlt hg
  go_enter Tryd.func35, Tryd.ntmps35
  go_wp2_with fail
  refine (HG.out _ (w.heap.size + 1) _ ((HT.out.on (h2b _ _)).mems) (by go_simp) (by simp)).mono ?_
  rintro e w2 ⟨rfl, hb2⟩
  have h02 := (h2b _ _).trans (hb2.mono (h2b _ _).size)
  clear hb2 h2b
  go_wp2_with fail
  go_ret2
  exact ⟨rfl, h02⟩
 | some k =>
  have hk := (hlt k rfl).2
  simp only [idxI] at hg
  have HG := Lib.hid hg
  have hmx : max (k : Int) 0 = k := by omega
  clear hlt hg
  go_enter Tryd.func35, Tryd.ntmps35
  go_wp2_with fail
  refine (HG.out _ (w.heap.size + 1) _ ((HT.out.on (h2b _ _)).mems) (by go_simp) (by simp)).mono ?_
  rintro e w2 ⟨rfl, hb2⟩
  have h02 := (h2b _ _).trans (hb2.mono (h2b _ _).size)
  clear hb2 h2b
  go_wp2_with fail
  go_ret2
  exact ⟨rfl, h02⟩
set_option maxRecDepth 100000 in
theorem symbol_any (t : Typ) (vs vm : Value) (id : Int) (w : World) (ht : TypAt w w.heap.size t vs vm) :
  Calls Tryd.prog 34 #[typA t vs vm, .int .i64 id] w fun e w' => e = .returned (pairV (symIdx t id)) ∧ Below w.heap.size w w' := by
 obtain ⟨A1, c1, A2, c2, rfl, rfl, -, -⟩ := ht.forms
 have h2b := al2 w
 have HT := Lib.hid ht
 have hl := ht.lens.1
 have hlt := idxF_lt (t.syms.map Prod.fst) id 0
 rw [List.length_map] at hlt
 have hg := fun va p W h1 h2 h3 => symidx_any t.syms va p id W hl h1 h2 h3
 obtain ⟨o, ho⟩ : ∃ o, idxF (t.syms.map Prod.fst) id 0 = o := ⟨_, rfl⟩
 have ho2 : symIdx t id = o := ho
 rw [ho2]
 rw [ho] at hg hlt
 clear ht ho ho2
 cases o with
 | none =>
  simp only [idxI] at hg
  have HG := Lib.hid hg
  clear hlt hg
  go_enter Tryd.func34, Tryd.ntmps34
  go_wp2_with fail
  refine (HG.out _ (w.heap.size + 1) _ ((HT.out.on (h2b _ _)).syms) (by go_simp) (by simp)).mono ?_
  rintro e w2 ⟨rfl, hb2⟩
  have h02 := (h2b _ _).trans (hb2.mono (h2b _ _).size)
  clear hb2 h2b
  go_wp2_with fail
  go_ret2
  exact ⟨rfl, h02⟩
 | some k =>
  have hk := (hlt k rfl).2
  simp only [idxI] at hg
  have HG := Lib.hid hg
  have hmx : max (k : Int) 0 = k := by omega
  clear hlt hg
  go_enter Tryd.func34, Tryd.ntmps34
  go_wp2_with fail
  refine (HG.out _ (w.heap.size + 1) _ ((HT.out.on (h2b _ _)).syms) (by go_simp) (by simp)).mono ?_
  rintro e w2 ⟨rfl, hb2⟩
  have h02 := (h2b _ _).trans (hb2.mono (h2b _ _).size)
  clear hb2 h2b
  go_wp2_with fail
  go_ret2
  exact ⟨rfl, h02⟩
end Go.Proofs.YtccmmibkihbobaaDoor
namespace Go.Proofs.YtccmmibkihbobaaDoor
open Go.ChangeShapes Go.WideShapes Go.ChangeAt Go.RowKit
def nilV : Value := .slice none 0 0
def properB (x : Val) : Bool :=
 (decide (x.kind = 1) || !x.bool) && ((decide (x.kind = 2) || decide (x.num = 0)) && ((decide (x.kind = 3) || decide (x.str = [])) && ((decide (x.kind = 4 ∨ x.kind = 6) || decide (x.id = 0)) &&
  ((decide (x.kind = 8) || decide (x.keys.length = 0)) && ((decide (5 ≤ x.kind ∧ x.kind ≤ 9) || decide (x.items.length = 0)) && (decide (x.kind = 5 ∨ x.kind = 6) || decide (x.rest.length = 0)))))))
end Go.Proofs.YtccmmibkihbobaaDoor
namespace Go.Proofs.YtccmmibkihbobaaDoor
open Go.ChangeShapes Go.WideShapes Go.ChangeAt Go.RowKit
def idxG (g : Val → Bool) : List Val → Nat → Option Nat
 | [], _ => none
 | x :: r, k => if g x then idxG g r (k + 1) else some k
theorem idxG_all (g : Val → Bool) : ∀ (l : List Val) (k : Nat), (idxG g l k).isSome = !l.all g := by
 intro l
 induction l with
 | nil => intro k; simp [idxG]
 | cons x r ih =>
  intro k
  rw [idxG]
  cases h : g x with
  | true => simp [ih, h]
  | false => simp [h]
def FitsOn (F : FuncId) (ts : List Typ) (vs : Value) (t : Int) (pl : Bool) (g : Val → Bool) (l : List Val) : Prop :=
 ∀ (y : Val) (vk vi vr : Value) (W : World), y ∈ l → ValAt W W.heap.size y vk vi vr → RdTyps W W.heap.size vs ts → Calls Tryd.prog F #[.agg #[vs], .int .i64 t, valA y vk vi vr, .bool pl] W fun e w' => e = .returned (.bool (g y)) ∧ Below W.heap.size W w'
theorem idxI_some (o : Option Nat) : decide (0 ≤ idxI o) = o.isSome := by
 cases o with
 | none => rfl
 | some k => simp [idxI]
end Go.Proofs.YtccmmibkihbobaaDoor
namespace Go.Proofs.YtccmmibkihbobaaDoor
open Go.ChangeShapes Go.WideShapes Go.ChangeAt Go.RowKit
def freeB (id : Int) : Bool := decide (1 ≤ id ∧ id ≤ 1000)
end Go.Proofs.YtccmmibkihbobaaDoor
namespace Go.Proofs.YtccmmibkihbobaaDoor
open Go.ChangeShapes Go.WideShapes Go.ChangeAt Go.RowKit
def ltP (p : Option Int) (n : Int) : Bool := match p with | some q => decide (q < n) | none => true
def restB (t : Typ) : List Raw → Option Int → Bool
 | [], _ => true
 | r :: rs, p => !(memIdx t r.1).isSome && (freeB r.1 && (ltP p r.1 && restB t rs (some r.1)))
def ascB : List Val → Bool
 | [] => true
 | [_] => true
 | x :: y :: r => decide (compareV x y < 0) && ascB (y :: r)
def typAt (ts : List Typ) (t : Int) : Option Typ := if 0 ≤ t then ts[t.toNat]? else none
def oneRaw (l : List Raw) (id : Int) : Bool := match l with | r :: _ => decide (r.1 = id) | [] => false
theorem oneRaw_eq (l : List Raw) (id : Int) (h : 0 < l.length) : oneRaw l id = decide (l[0].1 = id) := by
 cases l with
 | nil => simp at h
 | cons r rs => rfl
def bodyR (pl : Bool) (x : Typ) (v : Val) (K I : Int → Bool) (Z : List Mem → Bool) (H : Int → Bool) : Bool :=
 if x.kind = 2 then decide (x.low ≤ v.num ∧ v.num ≤ x.high)
 else if x.kind = 3 then decide ((v.str.length : Int) ≤ x.max)
 else if x.kind = 4 then (symIdx x v.id).isSome || (x.opn && (!pl && freeB v.id))
 else if x.kind = 5 then decide (v.items.length = x.mems.length) && (!(pl && decide (0 < v.rest.length)) && (restB x v.rest none && Z x.mems))
 else if x.kind = 6 then
  match memIdx x v.id with
  | some i => decide (v.items.length = 1) && (decide (v.rest.length = 0) && (match x.mems[i]? with | some m => H m.ty | none => false))
  | none => x.opn && (!pl && (freeB v.id && (decide (v.items.length = 0) && (decide (v.rest.length = 1) && oneRaw v.rest v.id))))
 else if x.kind = 7 then decide ((v.items.length : Int) ≤ x.max) && I x.elem
 else if x.kind = 8 then decide ((v.keys.length : Int) ≤ x.max) && (decide (v.items.length = v.keys.length) && (K x.key && (ascB v.keys && I x.elem)))
 else if x.kind = 9 then decide (v.items.length ≤ 1) && I x.elem
 else true
mutual
def fitV (ts : List Typ) (pl : Bool) : Val → Int → Bool
 | .mk k b n s id ks is rs, t => match typAt ts t with
  | none => false
  | some x => decide (k = x.kind) && (properB (.mk k b n s id ks is rs) && bodyR pl x (.mk k b n s id ks is rs) (fun t => fitL ts pl ks t) (fun t => fitL ts pl is t) (fun ms => fitZ ts pl is ms) (fun t => fitH ts pl is t))
def fitL (ts : List Typ) (pl : Bool) : List Val → Int → Bool
 | [], _ => true
 | y :: r, t => fitV ts pl y t && fitL ts pl r t
def fitZ (ts : List Typ) (pl : Bool) : List Val → List Mem → Bool
 | [], [] => true
 | y :: r, m :: ms => fitV ts pl y m.ty && fitZ ts pl r ms
 | [], _ :: _ => false
 | _ :: _, [] => false
def fitH (ts : List Typ) (pl : Bool) : List Val → Int → Bool
 | [], _ => false
 | y :: _, t => fitV ts pl y t
end
theorem fitL_all (ts : List Typ) (pl : Bool) (t : Int) : ∀ l : List Val, fitL ts pl l t = l.all (fun y => fitV ts pl y t)
 | [] => by rw [fitL]; rfl
 | y :: r => by rw [fitL, List.all_cons, fitL_all ts pl t r]
theorem fitV_eq (ts : List Typ) (pl : Bool) (v : Val) (t : Int) : fitV ts pl v t = match typAt ts t with
  | none => false
  | some x => decide (v.kind = x.kind) && (properB v && bodyR pl x v (fun t => fitL ts pl v.keys t) (fun t => fitL ts pl v.items t) (fun ms => fitZ ts pl v.items ms) (fun t => fitH ts pl v.items t)) := by
 cases v; rw [fitV]; rfl
abbrev bodyV (ts : List Typ) (pl : Bool) (x : Typ) (v : Val) : Bool := bodyR pl x v (fun t => fitL ts pl v.keys t) (fun t => fitL ts pl v.items t) (fun ms => fitZ ts pl v.items ms) (fun t => fitH ts pl v.items t)
end Go.Proofs.YtccmmibkihbobaaDoor

/- Members, types and schemas, and how memory reads as them; what Member and Symbol compute. No condition. -/
import Derived.Test.YtjcoeolconelmaaValF
import Derived.Test.YtjcoeolconelmaaValC
namespace Go.Proofs.Ytjcoeolconelmaa
open Go.ChangeShapes Go.WideShapes Go.ChangeAt Go.RowKit

structure Mem where
  id : Int
  name : List UInt8
  ty : Int
  crit : Bool
  hasDef : Bool
  dflt : Val
structure Typ where
  kind : Int
  name : List UInt8
  low : Int
  high : Int
  max : Int
  syms : List Raw
  mems : List Mem
  key : Int
  elem : Int
  opn : Bool
def reach47 : Nat := 140737488351232

structure MemAt (w : World) (B : Nat) (m : Mem) (vk vi vr : Value) : Prop where
  ints : I64 m.id ∧ I64 m.ty
  namel : m.name.length ≤ 140737488351232
  dflt : ValAt w B m.dflt vk vi vr
def memV (m : Mem) (vk vi vr : Value) : List Value := [.int .i64 m.id, .string ⟨m.name.toArray⟩, .int .i64 m.ty, .bool m.crit, .bool m.hasDef] ++ valV m.dflt vk vi vr
def RdMem (w : World) (B : Nat) (m : Mem) (cs : List Value) : Prop := ∃ vk vi vr, cs = memV m vk vi vr ∧ MemAt w B m vk vi vr
def RdMems (w : World) (B : Nat) (v : Value) (ms : List Mem) : Prop := ∃ c : Nat → List Value, Row w B 13 v ms.length c ∧ ∀ (i : Nat) (h : i < ms.length), RdMem w B ms[i] (c i)
theorem ValAt.keep {w w' : World} {B B' : Nat} {x : Val} {vk vi vr : Value} (h : ValAt w B x vk vi vr) (hk : ∀ p : Addr, p.block < B → w'.cell? p = w.cell? p) (hB : B ≤ B') : ValAt w' B' x vk vi vr :=
  ⟨h.ints, h.strl, h.lens, h.raws, h.keys.keep hk hB, h.items.keep hk hB, (h.rest.keep hk).mono hB⟩
theorem MemAt.keep {w w' : World} {B B' : Nat} {x : Mem} {vk vi vr : Value} (h : MemAt w B x vk vi vr) (hk : ∀ p : Addr, p.block < B → w'.cell? p = w.cell? p) (hB : B ≤ B') : MemAt w' B' x vk vi vr :=
  ⟨h.ints, h.namel, h.dflt.keep hk hB⟩
theorem MemAt.on {w w' : World} {x : Mem} {vk vi vr : Value} (h : MemAt w w.heap.size x vk vi vr) (hb : Below w.heap.size w w') : MemAt w' w'.heap.size x vk vi vr := h.keep (fun _ hp => hb.cell hp) hb.size
theorem RdMem.keep {w w' : World} {B B' : Nat} {x : Mem} {cs : List Value} (h : RdMem w B x cs) (hk : ∀ p : Addr, p.block < B → w'.cell? p = w.cell? p) (hB : B ≤ B') : RdMem w' B' x cs := by
  obtain ⟨a, b, c, h1, h2⟩ := h
  exact ⟨a, b, c, h1, h2.keep hk hB⟩
theorem RdMems.keep {w w' : World} {B B' : Nat} {v : Value} {xs : List Mem} (h : RdMems w B v xs) (hk : ∀ p : Addr, p.block < B → w'.cell? p = w.cell? p) (hB : B ≤ B') : RdMems w' B' v xs := by
  obtain ⟨c, h1, h2⟩ := h
  exact ⟨c, (h1.keep hk).mono hB, fun i hi => (h2 i hi).keep hk hB⟩
theorem RdMems.on {w w' : World} {v : Value} {xs : List Mem} (h : RdMems w w.heap.size v xs) (hb : Below w.heap.size w w') : RdMems w' w'.heap.size v xs := h.keep (fun _ hp => hb.cell hp) hb.size
theorem RdMems.form {w : World} {B : Nat} {v : Value} {xs : List Mem} (h : RdMems w B v xs) : ∃ A c, v = .slice A xs.length c ∧ xs.length ≤ c := by
  obtain ⟨_, ⟨A, c, h1, h2, _⟩, _⟩ := h
  exact ⟨A, c, h1, h2⟩
/-- the thirteen cells of a member -/
def Cells13 (w : World) (b o : Nat) (m : Mem) (vk vi vr : Value) : Prop :=
  w.cell? ⟨b, o, none⟩ = some (.int .i64 m.id) ∧ w.cell? ⟨b, o + 1, none⟩ = some (.string ⟨m.name.toArray⟩) ∧ w.cell? ⟨b, o + 2, none⟩ = some (.int .i64 m.ty) ∧ w.cell? ⟨b, o + 3, none⟩ = some (.bool m.crit) ∧ w.cell? ⟨b, o + 4, none⟩ = some (.bool m.hasDef) ∧
  w.cell? ⟨b, o + 5, none⟩ = some (.int .i64 m.dflt.kind) ∧ w.cell? ⟨b, o + 6, none⟩ = some (.bool m.dflt.bool) ∧ w.cell? ⟨b, o + 7, none⟩ = some (.int .i64 m.dflt.num) ∧ w.cell? ⟨b, o + 8, none⟩ = some (.string ⟨m.dflt.str.toArray⟩) ∧ w.cell? ⟨b, o + 9, none⟩ = some (.int .i64 m.dflt.id) ∧
  w.cell? ⟨b, o + 10, none⟩ = some vk ∧ w.cell? ⟨b, o + 11, none⟩ = some vi ∧ w.cell? ⟨b, o + 12, none⟩ = some vr
theorem RdMems.elem {w : World} {B n cap : Nat} {A : Option Addr} {xs : List Mem} (h : RdMems w B (.slice A n cap) xs) (hpos : 0 < xs.length) : ∃ b o, A = some ⟨b, o, none⟩ ∧ b < B ∧ ∀ k (hk : k < xs.length), ∃ vk vi vr, Cells13 w b (o + k * 13) xs[k] vk vi vr ∧ MemAt w B xs[k] vk vi vr := by
  obtain ⟨c, ⟨A', c', hv, hc, h2⟩, h3⟩ := h
  injection hv with h4 h5 h6
  subst h4
  rcases h2 with h2 | ⟨b, o, hA, hb, hcell⟩
  · omega
  · refine ⟨b, o, hA, hb, fun k hk => ?_⟩
    obtain ⟨vk, vi, vr, hcs, hm⟩ := h3 k hk
    have hc := hcell k hk
    rw [hcs] at hc
    exact ⟨vk, vi, vr, ⟨hc 0 _ rfl, hc 1 _ rfl, hc 2 _ rfl, hc 3 _ rfl, hc 4 _ rfl, hc 5 _ rfl, hc 6 _ rfl, hc 7 _ rfl, hc 8 _ rfl, hc 9 _ rfl, hc 10 _ rfl, hc 11 _ rfl, hc 12 _ rfl⟩, hm⟩

structure TypAt (w : World) (B : Nat) (t : Typ) (vs vm : Value) : Prop where
  ints : I64 t.kind ∧ I64 t.low ∧ I64 t.high ∧ I64 t.max ∧ I64 t.key ∧ I64 t.elem
  namel : t.name.length ≤ 140737488351232
  lens : t.syms.length ≤ 140737488351232 ∧ t.mems.length ≤ 140737488351232
  symsin : ∀ r ∈ t.syms, RawIn r
  syms : Rd w B 2 vs t.syms.length (rawsV t.syms)
  mems : RdMems w B vm t.mems
theorem TypAt.keep {w w' : World} {B B' : Nat} {x : Typ} {vs vm : Value} (h : TypAt w B x vs vm) (hk : ∀ p : Addr, p.block < B → w'.cell? p = w.cell? p) (hB : B ≤ B') : TypAt w' B' x vs vm :=
  ⟨h.ints, h.namel, h.lens, h.symsin, (h.syms.keep hk).mono hB, h.mems.keep hk hB⟩
theorem TypAt.on {w w' : World} {x : Typ} {vs vm : Value} (h : TypAt w w.heap.size x vs vm) (hb : Below w.heap.size w w') : TypAt w' w'.heap.size x vs vm := h.keep (fun _ hp => hb.cell hp) hb.size
theorem TypAt.forms {w : World} {B : Nat} {x : Typ} {vs vm : Value} (h : TypAt w B x vs vm) : ∃ A1 c1 A2 c2, vs = .slice A1 x.syms.length c1 ∧ vm = .slice A2 x.mems.length c2 ∧ x.syms.length ≤ c1 ∧ x.mems.length ≤ c2 := by
  obtain ⟨A1, c1, e1, h1⟩ := h.syms.form
  obtain ⟨A2, c2, e2, h2⟩ := h.mems.form
  exact ⟨A1, c1, A2, c2, e1, e2, h1, h2⟩
def typV (t : Typ) (vs vm : Value) : List Value := [.int .i64 t.kind, .string ⟨t.name.toArray⟩, .int .i64 t.low, .int .i64 t.high, .int .i64 t.max, vs, vm, .int .i64 t.key, .int .i64 t.elem, .bool t.opn]
abbrev typA (t : Typ) (vs vm : Value) : Value := .agg #[.int .i64 t.kind, .string ⟨t.name.toArray⟩, .int .i64 t.low, .int .i64 t.high, .int .i64 t.max, vs, vm, .int .i64 t.key, .int .i64 t.elem, .bool t.opn]
def RdTyps (w : World) (B : Nat) (v : Value) (ts : List Typ) : Prop := ∃ c : Nat → List Value, Row w B 10 v ts.length c ∧ ∀ (i : Nat) (h : i < ts.length), ∃ vs vm, c i = typV ts[i] vs vm ∧ TypAt w B ts[i] vs vm
theorem RdTyps.keep {w w' : World} {B B' : Nat} {v : Value} {xs : List Typ} (h : RdTyps w B v xs) (hk : ∀ p : Addr, p.block < B → w'.cell? p = w.cell? p) (hB : B ≤ B') : RdTyps w' B' v xs := by
  obtain ⟨c, h1, h2⟩ := h
  refine ⟨c, (h1.keep hk).mono hB, fun i hi => ?_⟩
  obtain ⟨a, b, h3, h4⟩ := h2 i hi
  exact ⟨a, b, h3, h4.keep hk hB⟩
theorem RdTyps.on {w w' : World} {v : Value} {xs : List Typ} (h : RdTyps w w.heap.size v xs) (hb : Below w.heap.size w w') : RdTyps w' w'.heap.size v xs := h.keep (fun _ hp => hb.cell hp) hb.size
theorem RdTyps.form {w : World} {B : Nat} {v : Value} {xs : List Typ} (h : RdTyps w B v xs) : ∃ A c, v = .slice A xs.length c ∧ xs.length ≤ c := by
  obtain ⟨_, ⟨A, c, h1, h2, _⟩, _⟩ := h
  exact ⟨A, c, h1, h2⟩
/-- the ten cells of a type -/
def Cells10 (w : World) (b o : Nat) (t : Typ) (vs vm : Value) : Prop :=
  w.cell? ⟨b, o, none⟩ = some (.int .i64 t.kind) ∧ w.cell? ⟨b, o + 1, none⟩ = some (.string ⟨t.name.toArray⟩) ∧ w.cell? ⟨b, o + 2, none⟩ = some (.int .i64 t.low) ∧ w.cell? ⟨b, o + 3, none⟩ = some (.int .i64 t.high) ∧ w.cell? ⟨b, o + 4, none⟩ = some (.int .i64 t.max) ∧
  w.cell? ⟨b, o + 5, none⟩ = some vs ∧ w.cell? ⟨b, o + 6, none⟩ = some vm ∧ w.cell? ⟨b, o + 7, none⟩ = some (.int .i64 t.key) ∧ w.cell? ⟨b, o + 8, none⟩ = some (.int .i64 t.elem) ∧ w.cell? ⟨b, o + 9, none⟩ = some (.bool t.opn)
theorem RdTyps.elem {w : World} {B n cap : Nat} {A : Option Addr} {xs : List Typ} (h : RdTyps w B (.slice A n cap) xs) (hpos : 0 < xs.length) : ∃ b o, A = some ⟨b, o, none⟩ ∧ b < B ∧ ∀ k (hk : k < xs.length), ∃ vs vm, Cells10 w b (o + k * 10) xs[k] vs vm ∧ TypAt w B xs[k] vs vm := by
  obtain ⟨c, ⟨A', c', hv, hc, h2⟩, h3⟩ := h
  injection hv with h4 h5 h6
  subst h4
  rcases h2 with h2 | ⟨b, o, hA, hb, hcell⟩
  · omega
  · refine ⟨b, o, hA, hb, fun k hk => ?_⟩
    obtain ⟨vs, vm, hcs, hm⟩ := h3 k hk
    have hc := hcell k hk
    rw [hcs] at hc
    exact ⟨vs, vm, ⟨hc 0 _ rfl, hc 1 _ rfl, hc 2 _ rfl, hc 3 _ rfl, hc 4 _ rfl, hc 5 _ rfl, hc 6 _ rfl, hc 7 _ rfl, hc 8 _ rfl, hc 9 _ rfl⟩, hm⟩
theorem Cells10.below {w w' : World} {B b o : Nat} {x : Typ} {vs vm : Value} (h : Cells10 w b o x vs vm) (hb : Below B w w') (hlt : b < B) : Cells10 w' b o x vs vm := by
  obtain ⟨h0, h1, h2, h3, h4, h5, h6, h7, h8, h9⟩ := h
  exact ⟨(hb.cell hlt).trans h0, (hb.cell hlt).trans h1, (hb.cell hlt).trans h2, (hb.cell hlt).trans h3, (hb.cell hlt).trans h4, (hb.cell hlt).trans h5, (hb.cell hlt).trans h6, (hb.cell hlt).trans h7, (hb.cell hlt).trans h8, (hb.cell hlt).trans h9⟩

/-! the place of an ID -/
def idxF : List Int → Int → Nat → Option Nat
  | [], _, _ => none
  | a :: r, id, k => if a = id then some k else idxF r id (k + 1)
def idxI (o : Option Nat) : Int := match o with | some k => k | none => -1
def memIdx (t : Typ) (id : Int) : Option Nat := idxF (t.mems.map Mem.id) id 0
def symIdx (t : Typ) (id : Int) : Option Nat := idxF (t.syms.map Prod.fst) id 0
def pairV (o : Option Nat) : Value := .tuple #[.int .i64 (match o with | some k => (k : Int) | none => 0), .bool o.isSome]

set_option maxRecDepth 100000 in
set_option maxHeartbeats 400000 in
theorem memc_any (m : Mem) (vk vi vr : Value) (p : Nat) (id : Int) (w : World) (hp : w.cell? ⟨p, 0, none⟩ = some (.int .i64 id)) (hlt : p < w.heap.size) :
    Calls Try.prog 82 #[.agg #[.int .i64 m.id, .string ⟨m.name.toArray⟩, .int .i64 m.ty, .bool m.crit, .bool m.hasDef, .int .i64 m.dflt.kind, .bool m.dflt.bool, .int .i64 m.dflt.num, .string ⟨m.dflt.str.toArray⟩, .int .i64 m.dflt.id, vk, vi, vr], .pointer (some ⟨p, 0, none⟩)] w fun e w' => e = .returned (.bool (m.id == id)) ∧ Below w.heap.size w w' := by
  go_enter Try.func82, Try.ntmps82
  go_wp2
  go_ret
  exact ⟨rfl, (Below.refl _ _).alloc (Nat.le_refl _) _⟩
set_option maxRecDepth 100000 in
set_option maxHeartbeats 400000 in
theorem symc_any (r : Raw) (p : Nat) (id : Int) (w : World) (hp : w.cell? ⟨p, 0, none⟩ = some (.int .i64 id)) (hlt : p < w.heap.size) :
    Calls Try.prog 93 #[.agg #[.int .i64 r.1, .string ⟨r.2.toArray⟩], .pointer (some ⟨p, 0, none⟩)] w fun e w' => e = .returned (.bool (r.1 == id)) ∧ Below w.heap.size w w' := by
  go_enter Try.func93, Try.ntmps93
  go_wp2
  go_ret
  exact ⟨rfl, (Below.refl _ _).alloc (Nat.le_refl _) _⟩
end Go.Proofs.Ytjcoeolconelmaa

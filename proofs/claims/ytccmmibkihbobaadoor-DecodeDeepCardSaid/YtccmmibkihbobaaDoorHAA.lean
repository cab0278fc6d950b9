/- Plain helpers: byte values, blocks of bytes turned into strings, small facts on worlds. Small words on blocks of cells that a call has made. Opening arguments of any depth: slices, structs, strings, with the reach. No condition. -/
import Derived.Test.YtccmmibkihbobaaDoorRows
import Derived.Handy
import Derived.Lib.Hide
import Derived.Lib.AppendStr
import Derived.Deep.QuietTactic
import Derived.BigQuiet
import Derived.WalkSpells
import Derived.WalkLawsBesides
import Derived.ShutString
import Derived.ChangeOld
import Derived.Carry
import Derived.SizedLaws
import Derived.Deep.RegionHeld3
import Derived.Deep.Slices
namespace Go.Proofs.YtccmmibkihbobaaDoor
open Go.ChangeShapes Go.WideShapes Go.ChangeAt Go.RowKit
open Go.ChangeMaps (open_string shut_string)
def B8 (b : UInt8) : Value := .int .u8 (b.toNat : Int)
def U64 (n : Nat) : Prop := n < 18446744073709551616
theorem conv_bytes {P : Program} (src dst e : TypeId) (hs : P.underlying src = some (.slice e)) (he : P.underlying e = some (.int .u8)) (hd : P.underlying dst = some .string)
  (W : World) (b off len cap : Nat) (cs : Array Value) (t : TypeId) (fz : Nat × Nat) (l : List UInt8) (hb : W.heap[b]? = some (.cells cs t fz)) (hl : l.length = len)
  (hc : ∀ (i : Nat) (x : UInt8), l[i]? = some x → cs[off+i]? = some (B8 x)) :
  (convert src dst (.slice (some ⟨b, off, none⟩) len cap)).run P W = .ok (.string ⟨l.toArray⟩) W := by
 have := run_convert_bytes_arg (P := P) W src e hs he b off len cap (l.map fun x => (x.toNat : Int)) (by simpa using hl) (fun i hi => by
  simp only [World.cell?, hb]
  have hlt : i < l.length := by omega
  rw [hc i l[i] (List.getElem?_eq_getElem hlt)]
  simp [B8, List.getD, hlt]) dst hd
 rw [this]
 congr 2
 simp [strOfNums, List.map_map, Function.comp_def]
theorem ret_int {k : IntKind} {a b : Int} (h : a = b) : Ending.returned (.int k a) = .returned (.int k b) := by rw [h]
theorem ret_bool {a b : Bool} (h : a = b) : Ending.returned (.bool a) = .returned (.bool b) := by rw [h]
theorem ret_str {a b : List UInt8} (h : a = b) : Ending.returned (.string ⟨a.toArray⟩) = .returned (.string ⟨b.toArray⟩) := by rw [h]
theorem str_app (a b : List UInt8) : ({ data := a.toArray } : ByteArray) ++ { data := b.toArray } = { data := (a ++ b).toArray } := by
 ext1
 rw [ByteArray.data_append]
 simp
theorem str_cut (l : List UInt8) (i j : Nat) : ({ data := l.toArray } : ByteArray).extract i j = { data := ((l.take j).drop i).toArray } := by
 ext1
 rw [ByteArray.data_extract]
 simp [List.extract_eq_take_drop, List.drop_take]
theorem str_from (l : List UInt8) (i j : Nat) (h : j = l.length) : ({ data := l.toArray } : ByteArray).extract i j = { data := (l.drop i).toArray } := by
 rw [str_cut, h, List.take_length]
theorem below_drewN {B : Nat} {a w : World} (h : Below B a w) (n : Nat) : Below B a (w.drewN n) := ⟨h.os, h.tape, h.output, h.size, h.block⟩
theorem bcell {W w1 : World} (hb : Below W.heap.size W w1) : (∀ b o, b < W.heap.size → w1.cell? ⟨b, o, none⟩ = W.cell? ⟨b, o, none⟩) ∧ (∀ b o, b < W.heap.size → w1.frozen? ⟨b, o, none⟩ = W.frozen? ⟨b, o, none⟩) :=
 ⟨fun b o h => hb.cell (p := ⟨b, o, none⟩) h, fun b o h => hb.frozen (p := ⟨b, o, none⟩) h⟩
theorem ret_any {a b : Value} (h : a = b) : Ending.returned a = .returned b := by rw [h]
theorem new_block (w : World) (o : Obj) : (w.alloc o).heap[w.heap.size]? = some o := heap_alloc_new w o
theorem B8_of (n : Int) (h0 : 0 ≤ n) (h1 : n < 256) : Value.int .u8 n = B8 (UInt8.ofNat n.toNat) := by
 unfold B8; congr 1; simp; omega
theorem or128 (b : Int) (h0 : 0 ≤ b) (h1 : b < 256) : bits .or .u8 b 128 = b % 128 + 128 := by
 have : ∀ n : Fin 256, bits .or .u8 (n.val : Int) 128 = (n.val : Int) % 128 + 128 := by decide +kernel
 have := this ⟨b.toNat, by omega⟩
 simpa [Int.toNat_of_nonneg h0] using this
theorem conv_owned {P : Program} (src dst e : TypeId) (hs : P.underlying src = some (.slice e)) (he : P.underlying e = some (.int .u8)) (hd : P.underlying dst = some .string)
  {W : World} {base n : Nat} {v : Value} {l : List UInt8} {te : TypeId} (h : W.ownsRow base te 1 v n (l.map B8)) : (convert src dst v).run P W = .ok (.string ⟨l.toArray⟩) W := by
 obtain ⟨hlen, h2⟩ := h
 rcases h2 with ⟨rfl, rfl⟩ | ⟨g, cap, cur, rfl, hb, hh, hn, hm, hsz, ht⟩
 ·
  have : l = [] := by simpa using hlen
  subst this
  rw [run_convert_bytes_nil W src e hs he 0 0 dst hd]
  rfl
 refine conv_bytes src dst e hs he hd W g 0 n cap cur te _ l hh (by simpa using hlen) (fun i x hx => ?_)
 have hi : i < n := by
  have := (List.getElem?_eq_some_iff.1 hx).1
  simp at hlen; omega
 have h3 : (cur.toList.take (n * 1))[i]? = some (B8 x) := by rw [ht]; simp [hx]
 rw [List.getElem?_take_of_lt (by omega)] at h3
 simpa using h3
theorem wpList_append_one {P : Program} {ops : Array Oper} {rest : List Oper} {o : Oper} {a : Act} {Q : Exit → Act → World → Prop} (hgd : o.guard = none) (s x : Operand) (t : TypeId)
  (ho : o.op = .call { callee := .builtin .append, args := #[s, x], argTypes := #[t, t] })
  (base : Nat) (e : TypeId) (z : Value) (size bytes : Nat) (ht : P.underlying t = some (.slice e)) (hinfo : (P.info? e).map (fun i => (i.zero, i.size, i.bytes)) = some (some z, size, bytes)) (hzs : z.cells.size = size) (hsz : 0 < size)
  (v : Value) (n : Nat) (xs : List Value) (hs : a.eval s = v) {W : World} (hown : W.ownsRow base e size v n xs) (news : List Value) (te : TypeId) (c : Nat)
  (hx : a.eval x = .slice (some ⟨W.heap.size, 0, none⟩) 1 c) (hl : news.length = size) (h1 : ∀ u ∈ news, u.oneCell' = true) (hsmall : n < 1048576) (hby : bytes ≤ 1048576) (hbase : base ≤ W.heap.size)
  (h : ∀ v' w', w'.ownsRow base e size v' (n + 1) (xs ++ news) → Below base W w' → wpList P ops Q rest (a.put o.dst v') w') : wpList P ops Q (o :: rest) a (W.alloc (.cells news.toArray te)) := by
 obtain ⟨i0, hi, hz0, hz1, hz2⟩ := info_parts hinfo
 refine wpList_append_own _ hgd s x t ho base e i0 z size bytes ht hi hz0 hz1 hz2 hzs hsz v n xs hs (hown.alloc _) ⟨W.heap.size, 0, none⟩ 1 c news hx (by omega) ?_ h1 (by simp only [maxLen]; omega) ?_ (by simp; omega) ?_
 ·
  intro j u hu
  have hj : (⟨W.heap.size, 0, none⟩ : Addr).add j = ⟨W.heap.size, j, none⟩ := by unfold Addr.add; split <;> simp_all
  rw [hj]
  simp only [World.cell?, new_block]
  simpa using hu
 ·
  have : (n + 1) * bytes ≤ 1048576 * 1048576 := Nat.mul_le_mul (by omega) hby
  omega
 intro v' w' h2 h3 _
 exact h v' w' h2 (((Below.refl base W).alloc hbase _).grown h3 (by simp; omega) (fun k hk => (hown.lt k hk).1))
def Rd (w : World) (B size : Nat) (v : Value) (n : Nat) (xs : List Value) : Prop :=
 xs.length = n * size ∧ ∃ A c, v = .slice A n c ∧ n ≤ c ∧ (n = 0 ∨ ∃ b o, A = some ⟨b, o, none⟩ ∧ b < B ∧ ∀ j u, xs[j]? = some u → w.cell? ⟨b, o + j, none⟩ = some u)
section
variable {w w' : World} {B B' size n : Nat} {v : Value} {xs : List Value}
theorem Rd.nil_ (w : World) (B size : Nat) : Rd w B size (.slice none 0 0) 0 [] := ⟨by simp, none, 0, rfl, Nat.le_refl _, .inl rfl⟩
theorem Rd.keep (h : Rd w B size v n xs) (hk : ∀ p : Addr, p.block < B → w'.cell? p = w.cell? p) : Rd w' B size v n xs := by
 obtain ⟨hl, A, c, hv, hc, h2⟩ := h
 refine ⟨hl, A, c, hv, hc, ?_⟩
 rcases h2 with h2 | ⟨b, o, hA, hb, hcell⟩
 ·
  exact .inl h2
 exact .inr ⟨b, o, hA, hb, fun j u hu => (hk _ hb).trans (hcell j u hu)⟩
theorem Rd.mono (h : Rd w B size v n xs) (hB : B ≤ B') : Rd w B' size v n xs := by
 obtain ⟨hl, A, c, hv, hc, h2⟩ := h
 refine ⟨hl, A, c, hv, hc, ?_⟩
 rcases h2 with h2 | ⟨b, o, hA, hb, hcell⟩
 ·
  exact .inl h2
 exact .inr ⟨b, o, hA, by omega, hcell⟩
theorem Rd.below (h : Rd w B size v n xs) (hb : Below B w w') : Rd w' B size v n xs := h.keep fun _ hp => hb.cell hp
theorem Rd.alloc (h : Rd w B size v n xs) (hB : B ≤ w.heap.size) (o : Obj) : Rd (w.alloc o) B size v n xs := h.keep fun p hp => World.cell?_of_block (Below.heap_alloc w o p.block (by omega))
theorem Rd.form (h : Rd w B size v n xs) : ∃ A c, v = .slice A n c ∧ n ≤ c := by
 obtain ⟨_, A, c, hv, hc, _⟩ := h
 exact ⟨A, c, hv, hc⟩
theorem Rd.at_ {A : Option Addr} {c : Nat} (h : Rd w B size (.slice A n c) n xs) (hn : 0 < n) : ∃ b o, A = some ⟨b, o, none⟩ ∧ b < B ∧ ∀ j u, xs[j]? = some u → w.cell? ⟨b, o + j, none⟩ = some u := by
 obtain ⟨hl, A', c', hv, hc, h2⟩ := h
 injection hv with h3 h4 h5
 subst h3
 rcases h2 with h2 | h2
 ·
  omega
 exact h2
theorem Rd.of_own {base : Nat} {e : TypeId} (h : w.ownsRow base e size v n xs) : Rd w w.heap.size size v n xs := by
 have h0 := h
 obtain ⟨hl, h2⟩ := h
 rcases h2 with ⟨rfl, rfl⟩ | ⟨g, cap, cur, rfl, hb, hh, hn, hm, hsz, ht⟩
 ·
  exact ⟨hl, none, 0, rfl, Nat.le_refl _, .inl rfl⟩
 refine ⟨hl, _, cap, rfl, hn, .inr ⟨g, 0, rfl, ?_, fun j u hu => ?_⟩⟩
 ·
  rcases Nat.lt_or_ge g w.heap.size with h3 | h3
  ·
   exact h3
  rw [Array.getElem?_eq_none h3] at hh; cases hh
 have := h0.cells (g := g) rfl j u hu
 have e : (⟨g, 0, none⟩ : Addr).add j = ⟨g, 0 + j, none⟩ := by unfold Addr.add; split <;> simp_all
 rwa [e] at this
theorem own_below {base : Nat} {e : TypeId} (h : w.ownsRow base e size v n xs) (hb : Below w.heap.size w w') : w'.ownsRow base e size v n xs :=
 h.kept (row := none) ⟨hb.os, hb.tape, hb.output, hb.size, fun k hk _ => hb.block k hk⟩ (by
  cases hv : v.ownBlock with
  | none => exact .inl rfl
  | some k => exact .inr (by simp))
theorem own_base {base base' : Nat} {e : TypeId} (h : w.ownsRow base e size v n xs) (hb : base' ≤ base) : w.ownsRow base' e size v n xs := by
 obtain ⟨hl, h2⟩ := h
 refine ⟨hl, ?_⟩
 rcases h2 with h2 | ⟨g, cap, cur, hv, hb2, h3⟩
 ·
  exact .inl h2
 exact .inr ⟨g, cap, cur, hv, by omega, h3⟩
end
theorem strCells_list (l : List UInt8) : Lib.strCells ⟨l.toArray⟩ = l.map B8 := by
 unfold Lib.strCells
 simp [B8]
theorem wpList_append_str {P : Program} {ops : Array Oper} {rest : List Oper} {o : Oper} {a : Act} {Q : Exit → Act → World → Prop} (hgd : o.guard = none) (sl x : Operand) (t u : TypeId)
  (ho : o.op = .call { callee := .builtin .append, args := #[sl, x], argTypes := #[t, u] })
  (base : Nat) (e : TypeId) (ht : P.underlying t = some (.slice e)) (hu : P.underlying u = some .string) (hinfo : (P.info? e).map (fun i => (i.zero, i.size, i.bytes)) = some (some (.int .u8 0), 1, 1))
  (v : Value) (n : Nat) (l : List UInt8) (hs : a.eval sl = v) {W : World} (hown : W.ownsRow base e 1 v n (l.map B8)) (r : List UInt8) (hx : a.eval x = .string ⟨r.toArray⟩)
  (hsmall : n + r.length ≤ 140737488355328) (hbase : base ≤ W.heap.size)
  (h : ∀ v' w', w'.ownsRow base e 1 v' (n + r.length) ((l ++ r).map B8) → Below base W w' → wpList P ops Q rest (a.put o.dst v') w') : wpList P ops Q (o :: rest) a W := by
 obtain ⟨i0, hi, hz0, hz1, hz2⟩ := info_parts hinfo
 refine Lib.wpList_append_own_string W hgd sl x t u ho base e i0 ht hu hi hz0 hz1 hz2 v n _ hs hown ⟨r.toArray⟩ hx (by simp [maxLen, ByteArray.size]; omega) (by simpa [ByteArray.size] using hsmall) hbase ?_
 intro v' w' h2 h3 _
 refine h v' w' ?_ ((Below.refl base W).grown h3 hbase (fun k hk => (hown.lt k hk).1))
 rw [strCells_list] at h2
 simpa [ByteArray.size] using h2
/-! what a row's frame needs -/
def I64 (n : Int) : Prop := -9223372036854775808 ≤ n ∧ n ≤ 9223372036854775807
theorem wf_u64 {a : Int} (h : (Lit.int .u64 a).wf = true) : ∃ n : Nat, a = (n : Int) ∧ U64 n := by
 simp [Lit.wf, IntKind.min, IntKind.max, IntKind.bits, IntKind.signed] at h
 exact ⟨a.toNat, by omega, by unfold U64; omega⟩
theorem wf_i64 {a : Int} (h : (Lit.int .i64 a).wf = true) : I64 a := by
 simp [Lit.wf, IntKind.min, IntKind.max, IntKind.bits, IntKind.signed] at h
 unfold I64; omega
theorem str_list (s : ByteArray) : ∃ l : List UInt8, s = { data := l.toArray } ∧ s.size = l.length := ⟨s.data.toList, by cases s; simp, by cases s; simp [ByteArray.size]⟩
theorem own_knob : ownKnob Tryd.prog.godebug = none := by kernel_rfl
theorem laid_out : laidOutB Tryd.prog = true := by kernel_rfl
theorem trodAll_below {H : Type} {enc : TypeId × Value → H} {P : Program} (hl : laidOutB P = true) {W W' : World} (hb : Below W.heap.size W W') :
  ∀ (ts : List TypeId) (vs : List Value) (ds : List (DataW H)) (ps : List MemPlace), ts.all (fun t => P.readableRec t && decide (t < P.types.size)) = true →
   DataW.TrodAll enc P W 0 (fun _ => true) true ts vs ds ps → (∀ x ∈ ps, x.block < W.heap.size) → DataW.TrodAll enc P W' 0 (fun b => decide (b < W.heap.size)) true ts vs ds ps := by
 intro ts
 induction ts with
 | nil => intro vs ds ps _ h _; exact (match vs, ds, h with | [], [], h => h)
 | cons t ts ih =>
  intro vs ds ps hall h hlt
  match vs, ds, h with
  | v :: vs, d :: ds, ⟨p, q, h1, h2, e⟩ =>
   subst e
   simp only [List.all_cons, Bool.and_eq_true, decide_eq_true_eq] at hall
   exact ⟨p, q, Below.trod hl hall.1.1 hall.1.2 h1 hb (fun x hx => hlt x (List.mem_append_left _ hx)), ih vs ds q hall.2 h2 (fun x hx => hlt x (List.mem_append_right _ hx)), rfl⟩
set_option maxRecDepth 100000 in
theorem open_ints_rd {H : Type} {enc : TypeId × Value → H} {W : World} {base0 base : Nat} {t e : TypeId} {k : IntKind} {v : Value} {d : DataW H} {p : List MemPlace} (ht : Tryd.prog.underlying t = some (.slice e)) (he : Tryd.prog.underlying e = some (.int k)) (hc : Tryd.prog.cellsOf e = 1)
  (hv : Value.okWide Tryd.prog W .any base0 t v) (h : DataW.Trod enc Tryd.prog W base (fun _ => true) true t v d p) :
  ∃ zs : List Int, zs.length ≤ maxLen ∧ (∀ z ∈ zs, (Lit.int k z).wf = true) ∧ Rd W W.heap.size 1 v zs.length (zs.map (Value.int k)) := by
 obtain ⟨a0, len0, cap0, rfl⟩ := okWide_slice ht hv
 obtain ⟨fuel, hf⟩ := h
 rcases open_ints ht he hc hf with ⟨hcs, _⟩ | ⟨x, l, c, zs, hcs, _, hl, hm, hz, _, hcell, hwz⟩
 ·
  simp [Value.cells] at hcs
  obtain ⟨rfl, rfl, rfl⟩ := hcs
  exact ⟨[], by simp, by simp, Rd.nil_ _ _ _⟩
 simp [Value.cells] at hcs
 obtain ⟨rfl, rfl, rfl⟩ := hcs
 have hz' : zs.length = cap0 := by simpa using hz
 have htl : (zs.take len0).length = len0 := by rw [List.length_take]; omega
 refine ⟨zs.take len0, by omega, fun z hzm => hwz z (List.mem_of_mem_take hzm), by rw [List.length_map, Nat.mul_one], some x, cap0, by rw [htl], by omega, ?_⟩
 by_cases h0 : len0 = 0
 ·
  exact .inl (by omega)
 refine .inr ?_
 have h1 := hcell 0 (by omega)
 have hsp : x.spot = none := by
  cases hs : x.spot with
  | none => rfl
  | some s => simp [World.cell?, Addr.add, hs] at h1; split at h1 <;> simp at h1
 obtain ⟨b, o, sp⟩ := x
 simp only at hsp
 subst hsp
 refine ⟨b, o, rfl, ?_, fun j u hu => ?_⟩
 ·
  have := World.block_lt_of_cell? _ _ h1
  simpa [Addr.add] using this
 have hjl : j < len0 := by
  have := (List.getElem?_eq_some_iff.1 hu).1
  simp at this; omega
 have hj := hcell j (by omega)
 have e1 : (⟨b, o, none⟩ : Addr).add j = ⟨b, o + j, none⟩ := by unfold Addr.add; split <;> simp_all
 rw [e1] at hj
 rw [hj]
 have hjz : j < zs.length := by omega
 simp [hjl, hjz] at hu
 rw [← hu]
 simp [List.getD, hjz]
theorem gl3 : (∀ (l : List Value) (i : Nat), l.toArray[i]? = l[i]?) ∧ (∀ (x : Value) (l : List Value) (i : Nat), (x :: l)[i + 1]? = l[i]?) ∧ (∀ (x : Value) (l : List Value), (x :: l)[0]? = some x) := ⟨fun _ _ => by simp, fun _ _ _ => by simp, fun _ _ => by simp⟩
theorem al2 (w : World) : ∀ o1 o2 : Obj, Below w.heap.size w ((w.alloc o1).alloc o2) := fun o1 o2 => ((Below.refl w.heap.size w).alloc (Nat.le_refl _) o1).alloc (show w.heap.size ≤ (w.alloc o1).heap.size by simp) o2
theorem al3 (w : World) : ∀ o1 o2 o3 : Obj, Below w.heap.size w (((w.alloc o1).alloc o2).alloc o3) := fun o1 o2 o3 => (((Below.refl w.heap.size w).alloc (Nat.le_refl _) o1).alloc (show w.heap.size ≤ (w.alloc o1).heap.size by simp) o2).alloc (show w.heap.size ≤ ((w.alloc o1).alloc o2).heap.size by simp; omega) o3
end Go.Proofs.YtccmmibkihbobaaDoor
namespace Go.Proofs.YtccmmibkihbobaaDoor
open Go.ChangeShapes Go.WideShapes Go.ChangeAt Go.RowKit
def Has (w : World) (g : Nat) (t : TypeId) (cs : Array Value) : Prop := w.heap[g]? = some (.cells cs t (0, 0))
section
variable {w w' : World} {g : Nat} {t : TypeId} {cs : Array Value}
theorem Has.here (h : Has w g t cs) : g < w.heap.size := by
 rcases Nat.lt_or_ge g w.heap.size with h1 | h1
 ·
  exact h1
 unfold Has at h; rw [Array.getElem?_eq_none h1] at h; cases h
theorem Has.cell (h : Has w g t cs) (i : Nat) : w.cell? ⟨g, i, none⟩ = cs[i]? := by
 unfold Has at h
 simp [World.cell?, h]
theorem Has.free (h : Has w g t cs) (i : Nat) : w.frozen? ⟨g, i, none⟩ = false := by
 unfold Has at h
 simp [World.frozen?, h]
theorem Has.made (w : World) (t : TypeId) (cs : Array Value) : Has (w.alloc (.cells cs t)) w.heap.size t cs := heap_alloc_new w _
theorem Has.alloc (h : Has w g t cs) (o : Obj) : Has (w.alloc o) g t cs := (Below.heap_alloc w o g h.here).trans h
theorem Has.drew (h : Has w g t cs) : Has w.drew g t cs := h
theorem Has.drewN (h : Has w g t cs) (n : Nat) : Has (w.drewN n) g t cs := h
theorem Has.set (h : Has w g t cs) (i : Nat) (u : Value) : Has (w.setCell ⟨g, i, none⟩ u) g t (cs.setIfInBounds i u) := by
 unfold Has at h ⊢
 simp [World.setCell, Array.getElem?_modify, h]
theorem Has.far (h : Has w g t cs) {p : Addr} (hp : g ≠ p.block) (u : Value) : Has (w.setCell p u) g t cs := (Below.heap_setCell w p u g hp).trans h
theorem Has.below {B : Nat} (h : Has w g t cs) (hb : Below B w w') (hg : g < B) : Has w' g t cs := (hb.block g hg).trans h
end
theorem new_cell (w : World) (cs : Array Value) (t : TypeId) (i : Nat) : (w.alloc (.cells cs t)).cell? ⟨w.heap.size, i, none⟩ = cs[i]? := by
 unfold World.cell?
 rw [new_block]
 rfl
theorem wpList_append_at {P : Program} {ops : Array Oper} {rest : List Oper} {o : Oper} {a : Act} {Q : Exit → Act → World → Prop} (hgd : o.guard = none) (s x : Operand) (t : TypeId)
  (ho : o.op = .call { callee := .builtin .append, args := #[s, x], argTypes := #[t, t] })
  (base : Nat) (e : TypeId) (z : Value) (size bytes : Nat) (ht : P.underlying t = some (.slice e)) (hinfo : (P.info? e).map (fun i => (i.zero, i.size, i.bytes)) = some (some z, size, bytes)) (hzs : z.cells.size = size) (hsz : 0 < size)
  (v : Value) (n : Nat) (xs : List Value) (hs : a.eval s = v) {W : World} (hown : W.ownsRow base e size v n xs) (news : List Value) (te : TypeId) (c g : Nat)
  (hx : a.eval x = .slice (some ⟨g, 0, none⟩) 1 c) (hg : g = W.heap.size) (hl : news.length = size) (h1 : ∀ u ∈ news, u.oneCell' = true) (hsmall : n < 1048576) (hby : bytes ≤ 1048576) (hbase : base ≤ W.heap.size)
  (h : ∀ v' w', w'.ownsRow base e size v' (n + 1) (xs ++ news) → Below base W w' → wpList P ops Q rest (a.put o.dst v') w') : wpList P ops Q (o :: rest) a (W.alloc (.cells news.toArray te)) := by
 subst hg
 exact wpList_append_one hgd s x t ho base e z size bytes ht hinfo hzs hsz v n xs hs hown news te c hx hl h1 hsmall hby hbase h
end Go.Proofs.YtccmmibkihbobaaDoor
namespace Go.Proofs.YtccmmibkihbobaaDoor
open Go.ChangeShapes Go.WideShapes Go.ChangeAt Go.RowKit
def Sz {H : Type} (t : TypeId) (d : DataW H) : Prop := ∀ n ∈ d.weights Tryd.prog t, n ≤ 140737488351232
theorem reach_num : reachBytes = 140737488351232 := by decide
theorem sz_of_each {H : Type} {ts : List TypeId} {ds : List (DataW H)} (h : (DataW.weightsEach Tryd.prog ts ds).all (· ≤ reachBytes) = true) {j : Nat} {t : TypeId} {d : DataW H} (ht : ts[j]? = some t) (hd : ds[j]? = some d) : Sz t d := fun n hn => by
 have := List.all_eq_true.1 h n (DataW.weights_mem_each ht hd n hn)
 rw [← reach_num]
 simpa using this
theorem mem_weightsAll {H : Type} {P : Program} {e : TypeId} : ∀ {ds : List (DataW H)} {d : DataW H}, d ∈ ds → ∀ n ∈ d.weights P e, n ∈ DataW.weightsAll P e ds
 | d0 :: ds, d, hd, n, hn => by
  rw [DataW.weightsAll]
  rcases List.mem_cons.1 hd with rfl | hd
  ·
   exact List.mem_append_left _ hn
  exact List.mem_append_right _ (mem_weightsAll hd n hn)
theorem mem_weightsEach {H : Type} {P : Program} : ∀ {ts : List TypeId} {ds : List (DataW H)} {j : Nat} {t : TypeId} {d : DataW H}, ts[j]? = some t → ds[j]? = some d → ∀ n ∈ d.weights P t, n ∈ DataW.weightsEach P ts ds := DataW.weights_mem_each
theorem Sz.str {H : Type} {t : TypeId} {b : List UInt8} (h : Sz t (.lit (.string b) : DataW H)) : b.length ≤ 140737488351232 := h _ (by simp [DataW.weights])
theorem Sz.field {H : Type} {t : TypeId} {fs : Array Field} {parts : List (DataW H)} (h : Sz t (.agg parts)) (ht : Tryd.prog.underlying t = some (.struct fs)) {i : Nat} {f : Field} {d : DataW H} (hf : fs[i]? = some f) (hd : parts[i]? = some d) : Sz f.type d := fun n hn => by
 refine h n ?_
 simp only [DataW.weights, ht]
 exact mem_weightsEach (j := i) (by simpa using ⟨f, hf, rfl⟩) hd n hn
theorem Sz.len {H : Type} {t e : TypeId} {es sp : List (DataW H)} (h : Sz t (.slice es sp)) (ht : Tryd.prog.underlying t = some (.slice e)) : (es.length + sp.length) * Tryd.prog.bytesOf e ≤ 140737488351232 :=
 h _ (by simp [DataW.weights, ht])
theorem Sz.elem {H : Type} {t e : TypeId} {es sp : List (DataW H)} (h : Sz t (.slice es sp)) (ht : Tryd.prog.underlying t = some (.slice e)) {d : DataW H} (hd : d ∈ es) : Sz e d := fun n hn =>
 h n (by simp only [DataW.weights, ht]; exact List.mem_cons_of_mem _ (List.mem_append_left _ (mem_weightsAll hd n hn)))
section
variable {H : Type} {enc : TypeId × Value → H} {w : World} {base : Nat} {spare : Nat → Bool} {held : Bool}
set_option maxRecDepth 100000 in
theorem open_rows {t e : TypeId} {size fuel : Nat} {cs : List Value} {x : DataW H × List MemPlace} (ht : Tryd.prog.underlying t = some (.slice e)) (hC : Tryd.prog.cellsOf e = size) (hpos : 0 < size)
  (h : DataW.trod enc Tryd.prog w base spare held fuel t cs = some x) (hs : Sz t x.1) :
  ∃ (A : Option Addr) (len cap : Nat), cs = [.slice A len cap] ∧ len ≤ cap ∧ len * Tryd.prog.bytesOf e ≤ 140737488351232 ∧
   (len = 0 ∨ ∃ b o, A = some ⟨b, o, none⟩ ∧ b < w.heap.size ∧ ∃ (N : Nat) (D : Nat → DataW H) (Pl : Nat → List MemPlace), ∀ i, i < len → ∃ cs', cs'.length = size ∧
    (∀ j u, cs'[j]? = some u → w.cell? ⟨b, o + i * size + j, none⟩ = some u) ∧ DataW.trod enc Tryd.prog w base spare held N e cs' = some (D i, Pl i) ∧ Sz e (D i)) := by
 rcases Go.Deep.open_slice ht h with ⟨rfl, _⟩ | ⟨a, len, cap, m, n, D, Pl, rfl, hb, hl, hm, hmm, rfl, hel⟩
 ·
  exact ⟨none, 0, 0, rfl, Nat.le_refl _, by simp, .inl rfl⟩
 have hlm : len ≤ m := by rw [hmm]; split <;> omega
 refine ⟨some a, len, cap, rfl, hl, ?_, ?_⟩
 ·
  have := hs.len ht
  simp only [List.length_map, List.length_range] at this
  exact Nat.le_trans (Nat.mul_le_mul_right _ (by omega)) this
 by_cases h0 : len = 0
 ·
  exact .inl h0
 right
 have hcell : ∀ i, i < len → ∃ cs', cs'.length = size ∧ (∀ j, j < size → w.cell? ((a.add (i * size)).add j) = cs'[j]?) ∧ DataW.trod enc Tryd.prog w base spare held n e cs' = some (D i, Pl i) := fun i hi => by
  obtain ⟨cs', h1, h2⟩ := hel i (by omega)
  rw [hC] at h1
  obtain ⟨_, h3, h4⟩ := World.cells?_some h1
  exact ⟨cs', h3, h4, h2⟩
 have h00 : ∃ u, w.cell? a = some u := by
  obtain ⟨cs', h1, h2, _⟩ := hcell 0 (by omega)
  have := h2 0 hpos
  have e0 : (a.add (0 * size)).add 0 = a := by simp [Addr.add]
  rw [e0] at this
  exact ⟨cs'[0]'(by omega), by rw [this]; exact List.getElem?_eq_getElem (by omega)⟩
 obtain ⟨u, hu⟩ := h00
 have hsp : a.spot = none := by
  cases hs : a.spot with
  | none => rfl
  | some s => simp [World.cell?, hs] at hu; split at hu <;> simp at hu
 obtain ⟨b, o, sp⟩ := a
 simp only at hsp
 subst hsp
 refine ⟨b, o, rfl, World.block_lt_of_cell? _ _ hu, n, D, Pl, fun i hi => ?_⟩
 obtain ⟨cs', h1, h2, h3⟩ := hcell i hi
 refine ⟨cs', h1, fun j v hv => ?_, h3, hs.elem ht (List.mem_map.2 ⟨i, by simpa using hi, rfl⟩)⟩
 have hj : j < size := by rw [← h1]; exact (List.getElem?_eq_some_iff.1 hv).1
 have e1 : ((⟨b, o, none⟩ : Addr).add (i * size)).add j = ⟨b, o + i * size + j, none⟩ := by unfold Addr.add; split <;> split <;> simp_all
 rw [← e1, h2 j hj, hv]
end
theorem flat_len {α : Type} {f : α → List Value} {size : Nat} (hf : ∀ a, (f a).length = size) (xs : List α) : (xs.flatMap f).length = xs.length * size := by
 induction xs with
 | nil => simp
 | cons x r ih => rw [List.flatMap_cons, List.length_append, hf, ih, List.length_cons, Nat.succ_mul, Nat.add_comm]
theorem flat_get {α : Type} {f : α → List Value} {size : Nat} (hf : ∀ a, (f a).length = size) (xs : List α) : ∀ (k j : Nat) (h : k < xs.length), j < size → (xs.flatMap f)[k * size + j]? = (f xs[k])[j]? := by
 induction xs with
 | nil => intro k j h; simp at h
 | cons x r ih =>
  intro k j h hj
  rw [List.flatMap_cons]
  cases k with
  | zero => rw [List.getElem?_append_left (by rw [hf]; omega)]; simp
  | succ k =>
   rw [List.getElem?_append_right (by rw [hf, Nat.succ_mul]; omega), hf]
   have e2 : (k + 1) * size + j - size = k * size + j := by rw [Nat.succ_mul]; omega
   rw [e2, ih k j (by simpa using h) hj]
   simp
theorem flat_inv {α : Type} {f : α → List Value} {size : Nat} (hf : ∀ a, (f a).length = size) (hpos : 0 < size) (xs : List α) (j : Nat) (u : Value) (h : (xs.flatMap f)[j]? = some u) : ∃ hk : j / size < xs.length, (f (xs[j / size]))[j % size]? = some u := by
 have hl := (List.getElem?_eq_some_iff.1 h).1
 rw [flat_len hf] at hl
 have hk : j / size < xs.length := Nat.div_lt_of_lt_mul (by rw [Nat.mul_comm]; exact hl)
 refine ⟨hk, ?_⟩
 rw [← flat_get hf xs (j / size) (j % size) hk (Nat.mod_lt _ hpos)]
 have : j / size * size + j % size = j := by rw [Nat.mul_comm]; exact Nat.div_add_mod j size
 rw [this, h]
set_option maxRecDepth 100000 in
theorem open_list {H : Type} {enc : TypeId × Value → H} {w : World} {base : Nat} {spare : Nat → Bool} {held : Bool} {α : Type} {good : α → Prop} {f : α → List Value}
  {t e : TypeId} {size fuel : Nat} {cs : List Value} {x : DataW H × List MemPlace} (ht : Tryd.prog.underlying t = some (.slice e)) (hC : Tryd.prog.cellsOf e = size) (hpos : 0 < size) (hf : ∀ a, (f a).length = size)
  (h : DataW.trod enc Tryd.prog w base spare held fuel t cs = some x) (hs : Sz t x.1)
  (hel : ∀ (N : Nat) (cs' : List Value) (D : DataW H) (Q : List MemPlace), cs'.length = size → DataW.trod enc Tryd.prog w base spare held N e cs' = some (D, Q) → Sz e D → ∃ a, cs' = f a ∧ good a) :
  ∃ (v : Value) (xs : List α), cs = [v] ∧ xs.length * Tryd.prog.bytesOf e ≤ 140737488351232 ∧ (∀ a ∈ xs, good a) ∧ Rd w w.heap.size size v xs.length (xs.flatMap f) := by
 obtain ⟨A, len, cap, rfl, hl, hb, hrow⟩ := open_rows ht hC hpos h hs
 rcases hrow with rfl | ⟨b, o, rfl, hlt, N, D, Pl, hi⟩
 ·
  exact ⟨_, [], rfl, by simp, by simp, by simp, A, cap, rfl, hl, .inl rfl⟩
 have hex : ∀ i, i < len → ∃ a, good a ∧ ∀ j u, (f a)[j]? = some u → w.cell? ⟨b, o + i * size + j, none⟩ = some u := fun i h0 => by
  obtain ⟨cs', h1, h2, h3, h4⟩ := hi i h0
  obtain ⟨a, rfl, hg⟩ := hel N cs' (D i) (Pl i) h1 h3 h4
  exact ⟨a, hg, h2⟩
 have hall : ∀ n, n ≤ len → ∃ xs : List α, xs.length = n ∧ (∀ a ∈ xs, good a) ∧ ∀ i (h : i < xs.length), ∀ j u, (f xs[i])[j]? = some u → w.cell? ⟨b, o + i * size + j, none⟩ = some u := by
  intro n
  induction n with
  | zero => intro _; exact ⟨[], rfl, by simp, fun i h => by simp at h⟩
  | succ n ih =>
   intro hn
   obtain ⟨xs, h1, h2, h3⟩ := ih (by omega)
   obtain ⟨a, hg, ha⟩ := hex n (by omega)
   refine ⟨xs ++ [a], by simp [h1], fun y hy => ?_, fun i hi j u hu => ?_⟩
   ·
    rcases List.mem_append.1 hy with hy | hy
    ·
     exact h2 y hy
    rw [List.mem_singleton.1 hy]; exact hg
   rw [List.length_append, List.length_singleton] at hi
   rcases Nat.lt_or_ge i xs.length with hlt | hge
   ·
    rw [List.getElem_append_left hlt] at hu; exact h3 i hlt j u hu
   obtain rfl : i = xs.length := by omega
   rw [List.getElem_append_right (Nat.le_refl _)] at hu
   simp only [Nat.sub_self, List.getElem_cons_zero] at hu
   rw [h1]; exact ha j u hu
 obtain ⟨xs, h1, h2, h3⟩ := hall len (Nat.le_refl _)
 subst h1
 refine ⟨_, xs, rfl, hb, h2, flat_len hf xs, _, cap, rfl, hl, ?_⟩
 refine .inr ⟨b, o, rfl, hlt, fun j u hu => ?_⟩
 obtain ⟨hk, hu2⟩ := flat_inv hf hpos xs j u hu
 have := h3 _ hk _ _ hu2
 have e : o + j / size * size + j % size = o + j := by
  have := Nat.div_add_mod j size
  rw [Nat.mul_comm] at this
  omega
 rw [e] at this
 exact this
end Go.Proofs.YtccmmibkihbobaaDoor

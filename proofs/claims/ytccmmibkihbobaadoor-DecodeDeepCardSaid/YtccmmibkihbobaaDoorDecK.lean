/- Facts carried through calls that decode. No condition. -/
import Derived.Test.YtccmmibkihbobaaDoorHAJ
import Derived.Test.YtccmmibkihbobaaDoorHAI
namespace Go.Proofs.YtccmmibkihbobaaDoor
open Go.ChangeShapes Go.WideShapes Go.ChangeAt Go.RowKit
theorem KeepT.above {w W W' : World} {gr B : Nat} (K : KeepT w gr W) (hb : Below B W W') (hB : w.heap.size ≤ B) (hg : gr ≤ B) : KeepT w gr W' :=
 ⟨K.low.trans (hb.mono hg), fun b h1 h2 h3 => (hb.block b (Nat.lt_of_lt_of_le h2 hB)).trans (K.block b h1 h2 h3)⟩
theorem KeepT.drew {w W : World} {gr : Nat} (K : KeepT w gr W) : KeepT w gr W.drew := ⟨K.low.trans (Below.refl gr W).drew, fun b h1 h2 h3 => K.block b h1 h2 h3⟩
theorem own_not {W : World} {base n g : Nat} {v : Value} {xs : List Value} {T : TypeId} {cs : Array Value} (h : W.ownsRow base 3 1 v n xs) (hH : Has W g T cs) (hT : T ≠ 3) : v.ownBlock ≠ some g := by
 rcases h.2 with ⟨rfl, _⟩ | ⟨g', cap, cur, rfl, _, hh, _⟩
 ·
  simp [Value.ownBlock]
 intro e
 simp only [Value.ownBlock, Option.some.injEq] at e
 subst e
 have hH' : W.heap[g']? = some (.cells cs T (0, 0)) := hH
 rw [hh] at hH'
 injection hH' with e1
 injection e1 with _ e2
 exact hT e2.symm
structure RdrX (W : World) (gr : Nat) (tv fp : Value) (fn : Int) (path : List Int) (q : Option (List Int)) : Prop where
 at_ : RdrAt W gr tv fp fn path
 fail : ∀ p, q = some p → W.ownsRow (gr + 1) 3 1 fp p.length (p.map V64i)
theorem RdrX.of {W : World} {gr : Nat} {tv fp : Value} {fn : Int} {path : List Int} (h : RdrAt W gr tv fp fn path) : RdrX W gr tv fp fn path none := ⟨h, fun _ h => by cases h⟩
structure KeptN (P : World → Prop) (w : World) (L B : Nat) : Prop where
 now : P w
 st : ∀ w', (∀ k : Nat, L ≤ k → k < B → NotInt w k → w'.heap[k]? = w.heap[k]?) → P w'
 le : B ≤ w.heap.size
theorem KeptN.imp {P Q : World → Prop} {w : World} {L B : Nat} (h : KeptN P w L B) (hPQ : ∀ w, P w → Q w) : KeptN Q w L B := ⟨hPQ _ h.now, fun w' hk => hPQ _ (h.st w' hk), h.le⟩
theorem NotInt.same {w w' : World} {k : Nat} (h : w'.heap[k]? = w.heap[k]?) (h' : NotInt w' k) : NotInt w k := fun c f e => h' c f (h.trans e)
theorem KeptN.move {P : World → Prop} {w w' : World} {L B : Nat} (h : KeptN P w L B) (hk : ∀ k : Nat, L ≤ k → k < B → NotInt w k → w'.heap[k]? = w.heap[k]?) (hs : w.heap.size ≤ w'.heap.size) : KeptN P w' L B :=
 ⟨h.st w' hk, fun w2 h2 => h.st w2 fun p hl hp hn => (h2 p hl hp (fun c f e => hn c f ((hk p hl hp hn).symm.trans e))).trans (hk p hl hp hn), Nat.le_trans h.le hs⟩
section
variable {w w' W W' : World} {g g' gr i L B : Nat} {T T' : TypeId} {cs cs' : Array Value} {P : World → Prop} {v tv fp : Value} {fn : Int} {path : List Int} {o : Obj}
theorem nB (h : Hid (KeptN P w L B)) (hb : Below w.heap.size w w') : Hid (KeptN P w' L B) := h.out.move (fun _ _ hp _ => hb.block _ (Nat.lt_of_lt_of_le hp h.out.le)) hb.size
theorem nF (h : Hid (KeptN P w L B)) (hE : w' = w.setCell ⟨g', i, none⟩ v) (hn : B ≤ g' ∨ g' < L) : Hid (KeptN P w' L B) := by
 rw [hE]; exact h.out.move (fun k hl hk _ => Below.heap_setCell w ⟨g', i, none⟩ v k (by show k ≠ g'; omega)) (by simp [World.setCell])
theorem nR (h : Hid (KeptN P w L B)) (hE : w' = w.setRow g' cs') (hn : B ≤ g' ∨ g' < L) : Hid (KeptN P w' L B) := by
 rw [hE]; exact h.out.move (fun k hl hk _ => setRow_other _ _ _ _ (by omega)) (by simp)
theorem nT (h : Hid (KeptN P W L B)) (K : KeepT W gr W') (hg : gr < L) : Hid (KeptN P W' L B) :=
 h.out.move (fun k hl hk hn => K.block k (by omega) (Nat.lt_of_lt_of_le hk h.out.le) hn) K.size
theorem dKT (h : Hid (Has W g T cs)) (K : KeepT W gr W') (hg : gr < g) (hT : T ≠ 3) : Hid (Has W' g T cs) :=
 (K.block g hg h.out.here (fun c f e => by
  have h1 : W.heap[g]? = some (.cells cs T (0, 0)) := h.out
  rw [h1] at e; injection e with e1; injection e1 with _ e2; exact hT e2)).trans h.out
theorem kB (K : KeepT w gr W) (hgr : gr < w.heap.size) (hb : Below W.heap.size W W') : KeepT w gr W' := K.above hb K.size (Nat.le_of_lt (Nat.lt_of_lt_of_le hgr K.size))
theorem kS (K : KeepT w gr W) (hgr : gr < w.heap.size) (hE : W' = W.setCell ⟨g, i, none⟩ v) (hg : w.heap.size ≤ g) : KeepT w gr W' := by
 rw [hE]; exact K.above (below_set (Below.refl g W) (Nat.le_refl _) i v) hg (by omega)
theorem kRw (K : KeepT w gr W) (hgr : gr < w.heap.size) (hE : W' = W.setRow g cs) (hg : w.heap.size ≤ g) : KeepT w gr W' := by
 rw [hE]; exact K.above (below_setRow (Below.refl g W) (Nat.le_refl _) cs) hg (by omega)
theorem RdrAt.here (R : RdrAt W gr tv fp fn path) : gr < W.heap.size := by obtain ⟨pv, h, _⟩ := R.row; exact h.here
theorem rB {q : Option (List Int)} (R : Hid (RdrX W gr tv fp fn path q)) (hb : Below W.heap.size W W') : Hid (RdrX W' gr tv fp fn path q) := by
 obtain ⟨⟨pv, h1, h2⟩, h3⟩ := R.out
 exact ⟨⟨pv, (hb.block gr h1.here).trans h1, own_below h2 hb⟩, fun p hp => own_below (h3 p hp) hb⟩
theorem rdr_to {q : Option (List Int)} (R : RdrX W gr tv fp fn path q) (hH : Has W g T cs) (hT : T ≠ 3) (hg : g ≠ gr) (hk : ∀ k, k ≠ g → W'.heap[k]? = W.heap[k]?) : RdrX W' gr tv fp fn path q := by
 obtain ⟨⟨pv, h1, h2⟩, h3⟩ := R
 exact ⟨⟨pv, (hk gr (Ne.symm hg)).trans h1, own_keep h2 fun k hb => hk k (fun e => own_not h2 hH hT (e ▸ hb))⟩, fun p hp => own_keep (h3 p hp) fun k hb => hk k (fun e => own_not (h3 p hp) hH hT (e ▸ hb))⟩
theorem rF {q : Option (List Int)} (R : Hid (RdrX W gr tv fp fn path q)) (hH : Hid (Has W g T cs)) (hE : W' = W.setCell ⟨g, i, none⟩ v) (hT : T ≠ 3) (hg : g ≠ gr) : Hid (RdrX W' gr tv fp fn path q) :=
 rdr_to R.out hH.out hT hg fun k hk => by rw [hE]; exact Below.heap_setCell W ⟨g, i, none⟩ v k hk
theorem rR {q : Option (List Int)} (R : Hid (RdrX W gr tv fp fn path q)) (hH : Hid (Has W g T cs)) (hE : W' = W.setRow g cs') (hT : T ≠ 3) (hg : g ≠ gr) : Hid (RdrX W' gr tv fp fn path q) :=
 rdr_to R.out hH.out hT hg fun k hk => by rw [hE]; exact setRow_other _ _ _ _ hk
theorem RdrAt.cells (R : RdrAt W gr tv fp fn path) : ∃ (A : Option Addr) (c : Nat), path.length ≤ c ∧ W.cell? ⟨gr, 0, none⟩ = some tv ∧ W.cell? ⟨gr, 1, none⟩ = some (.slice A path.length c) ∧ W.cell? ⟨gr, 2, none⟩ = some fp ∧ W.cell? ⟨gr, 3, none⟩ = some (.int .i64 fn) := by
 obtain ⟨pv, h1, h2⟩ := R.row
 obtain ⟨A, c, rfl, hc⟩ := (Rd.of_own h2).form
 exact ⟨A, c, hc, h1.cell 0, h1.cell 1, h1.cell 2, h1.cell 3⟩
end
theorem NewT.from_ {w W1 W : World} (h : w.heap.size ≤ W1.heap.size) {b : Nat} (hb : NewT W1 W b) : NewT w W b := ⟨Nat.le_trans h hb.1, hb.2⟩
def resQ : Res → Option (List Int)
 | .ok _ => none
 | .error (p, _) => some p
theorem PayPost.rdr {gr : Nat} {tv : Value} {path : List Int} {w W : World} {r : Res} {e : Ending} (h : PayPost gr tv path w r e W) : ∃ fp fn, RdrX W gr tv fp fn path (resQ r) := by
 obtain ⟨fp, fn, R, K2, h⟩ := h
 cases r with
 | ok v => exact ⟨fp, fn, RdrX.of R⟩
 | error q =>
  obtain ⟨p, n⟩ := q
  exact ⟨fp, fn, R, fun p' hp => by injection hp with hp; subst hp; exact h.2.1⟩
theorem PayPost.tail {gr g : Nat} {tv : Value} {path : List Int} {w W1 W2 : World} {r : Res} {e : Ending} {T : TypeId} {cs cs' : Array Value} (h : PayPost gr tv path W1 r e W2) (K : KeepT w gr W1) (hgr : gr < w.heap.size) (hg : w.heap.size ≤ g) (hg1 : g < W1.heap.size) (hH : Has W2 g T cs) (hT : T ≠ 3) :
  PayPost gr tv path w r e (W2.setRow g cs') := by
 obtain ⟨fp, fn, R, K2, h⟩ := h
 have hk : ∀ k, k ≠ g → (W2.setRow g cs').heap[k]? = W2.heap[k]? := fun k hk => setRow_other _ _ _ _ hk
 refine ⟨fp, fn, (rdr_to (RdrX.of R) hH hT (by omega) hk).at_, kRw (K.trans K2) hgr rfl hg, ?_⟩
 cases r with
 | ok v =>
  obtain ⟨vk, vi, vr, he, hv⟩ := h
  refine ⟨vk, vi, vr, he, hv.keep (fun p hp => World.cell?_of_block (hk p.block (by have := hp.1; omega))) (fun b hb => ?_)⟩
  have hbg : b ≠ g := by have := hb.1; omega
  refine ⟨Nat.le_trans K.size hb.1, by rw [setRow_size]; exact hb.2.1, fun c f e => hb.2.2 c f ((hk b hbg).symm.trans e)⟩
 | error q =>
  obtain ⟨p, n⟩ := q
  obtain ⟨h1, h2, h3⟩ := h
  exact ⟨h1, own_keep h2 fun k hb => hk k (fun e => own_not h2 hH hT (e ▸ hb)), h3⟩
theorem PayPost.keep {gr : Nat} {tv : Value} {path : List Int} {w w' : World} {r : Res} {e : Ending} (h : PayPost gr tv path w r e w') : KeepT w gr w' := by
 obtain ⟨_, _, _, K, _⟩ := h; exact K
theorem PayPost.good {gr : Nat} {tv fp : Value} {fn : Int} {path : List Int} {w W : World} {r : Res} {v : Val} {vk vi vr : Value} {q : Option (List Int)} (hr : r = .ok v) (R : Hid (RdrX W gr tv fp fn path q)) (K : KeepT w gr W) (hv : ValP W (NewT w W) v vk vi vr) :
  PayPost gr tv path w r (.returned (.tuple #[valA v vk vi vr, .bool true])) W := by
 subst hr; exact ⟨fp, fn, R.out.at_, K, vk, vi, vr, rfl, hv⟩
theorem valP_leaf (W : World) (S : Nat → Prop) (k : Int) (b : Bool) (n : Int) (s : List UInt8) (id : Int) (hk : I64 k) (hn : I64 n) (hi : I64 id) (hs : s.length ≤ 140737488351232) : ValP W S (.mk k b n s id [] [] []) (.slice none 0 0) (.slice none 0 0) (.slice none 0 0) :=
 ⟨⟨hk, hn, hi⟩, hs, by simp [Val.keys, Val.items, Val.rest], by simp [Val.rest], ⟨fun _ => [], ⟨none, 0, rfl, Nat.le_refl _, .inl rfl⟩, fun i h => by simp [Val.keys] at h⟩, ⟨fun _ => [], ⟨none, 0, rfl, Nat.le_refl _, .inl rfl⟩, fun i h => by simp [Val.items] at h⟩, by simp [Val.rest, rawsV], none, 0, rfl, Nat.le_refl _, .inl rfl⟩
theorem PayPost.bad {gr : Nat} {tv fp : Value} {fn : Int} {path : List Int} {w W : World} {r : Res} {p : List Int} {n : Int} {c0 c1 c2 c3 c4 c5 c6 c7 : Value} (hr : r = .error (p, n)) (R : Hid (RdrX W gr tv fp fn path (some p))) (K : KeepT w gr W) (hf : fn = n) (h1 : ∀ u ∈ [c0, c1, c2, c3, c4, c5, c6, c7], u.oneCell' = true) :
  PayPost gr tv path w r (.returned (.tuple #[.agg #[c0, c1, c2, c3, c4, c5, c6, c7], .bool false])) W := by
 subst hr; exact ⟨fp, fn, R.out.at_, K, hf, R.out.fail p rfl, _, _, _, _, _, _, _, _, h1, rfl⟩
def ValN (L B : Nat) (v : Val) (vk vi vr : Value) (W : World) : Prop := ∃ S : Nat → Prop, ValP W S v vk vi vr ∧ ∀ k, S k → L ≤ k ∧ k < B ∧ NotInt W k
theorem NotInt.to {w w' : World} {k : Nat} (h : w'.heap[k]? = w.heap[k]?) (h' : NotInt w k) : NotInt w' k := fun c f e => h' c f (h.symm.trans e)
theorem ValN.kept {L B : Nat} {v : Val} {vk vi vr : Value} {W : World} (h : ValN L B v vk vi vr W) (hB : B ≤ W.heap.size) : KeptN (ValN L B v vk vi vr) W L B :=
 ⟨h, fun w' hk => by
  obtain ⟨S, h1, h2⟩ := h
  have hs : ∀ k, S k → w'.heap[k]? = W.heap[k]? := fun k hS => hk k (h2 k hS).1 (h2 k hS).2.1 (h2 k hS).2.2
  exact ⟨S, h1.keep (fun p hp => World.cell?_of_block (hs p.block hp)) (fun _ h => h), fun k hS => ⟨(h2 k hS).1, (h2 k hS).2.1, NotInt.to (hs k hS) (h2 k hS).2.2⟩⟩, hB⟩
theorem ValN.toNew {L B : Nat} {v : Val} {vk vi vr : Value} {w W : World} (h : ValN L B v vk vi vr W) (hL : w.heap.size ≤ L) (hB : B ≤ W.heap.size) : ValP W (NewT w W) v vk vi vr := by
 obtain ⟨S, h1, h2⟩ := h
 exact h1.keep (fun _ _ => rfl) fun k hS => ⟨Nat.le_trans hL (h2 k hS).1, Nat.lt_of_lt_of_le (h2 k hS).2.1 hB, (h2 k hS).2.2⟩
def PartN (L B : Nat) (r : Res) (fn : Int) (c : List Value) (bb : Bool) (W : World) : Prop := match r with
 | .ok v => bb = true ∧ ∃ vk vi vr, c = valV v vk vi vr ∧ ValN L B v vk vi vr W
 | .error (_, n) => bb = false ∧ fn = n
theorem PayPost.take {gr : Nat} {tv : Value} {path : List Int} {w W : World} {r : Res} {e : Ending} (h : PayPost gr tv path w r e W) :
  ∃ (fp : Value) (fn : Int) (c0 c1 c2 c3 c4 c5 c6 c7 : Value) (bb : Bool), (∀ u ∈ [c0, c1, c2, c3, c4, c5, c6, c7], u.oneCell' = true) ∧ e = .returned (.tuple #[.agg #[c0, c1, c2, c3, c4, c5, c6, c7], .bool bb]) ∧
   RdrX W gr tv fp fn path (resQ r) ∧ KeepT w gr W ∧ KeptN (PartN w.heap.size W.heap.size r fn [c0, c1, c2, c3, c4, c5, c6, c7] bb) W w.heap.size W.heap.size := by
 obtain ⟨fp, fn, R, K, h⟩ := h
 cases r with
 | ok v =>
  obtain ⟨vk, vi, vr, rfl, hv⟩ := h
  obtain ⟨ck, hk, _⟩ := hv.keys
  obtain ⟨ci, hi, _⟩ := hv.items
  have hN : ValN w.heap.size W.heap.size v vk vi vr W := ⟨NewT w W, hv, fun k h => h⟩
  refine ⟨fp, fn, _, _, _, _, _, _, _, _, true, by simp [Value.oneCell']; exact ⟨hk.one, hi.one, hv.rest.one⟩, rfl, RdrX.of R, K, ⟨⟨rfl, vk, vi, vr, rfl, hN⟩, fun w' hs => ⟨rfl, vk, vi, vr, rfl, (hN.kept (Nat.le_refl _)).st w' hs⟩, Nat.le_refl _⟩⟩
 | error q =>
  obtain ⟨p, n⟩ := q
  obtain ⟨hf, hO, c0, c1, c2, c3, c4, c5, c6, c7, h1, rfl⟩ := h
  exact ⟨fp, fn, c0, c1, c2, c3, c4, c5, c6, c7, false, h1, rfl, ⟨R, fun p' hp => by injection hp with hp; subst hp; exact hO⟩, K, ⟨⟨rfl, hf⟩, fun _ _ => ⟨rfl, hf⟩, Nat.le_refl _⟩⟩
theorem newT_of {w W : World} {G : Nat} {T : TypeId} {cs : Array Value} (h : Has W G T cs) (hT : T ≠ 3) (hG : w.heap.size ≤ G) : NewT w W G :=
 ⟨hG, h.here, fun c f e => by
  have h1 : W.heap[G]? = some (.cells cs T (0, 0)) := h
  rw [h1] at e; injection e with e1; injection e1 with _ e2; exact hT e2⟩
theorem valP_one {w W : World} {L B G : Nat} {k id : Int} {v : Val} {vk vi vr : Value} {T : TypeId} (h : ValN L B v vk vi vr W) (hL : w.heap.size ≤ L) (hB : B ≤ W.heap.size) (hG : Has W G T (valV v vk vi vr).toArray) (hT : T ≠ 3) (hwG : w.heap.size ≤ G) (hk : I64 k) (hi : I64 id) :
  ValP W (NewT w W) (.mk k false 0 [] id [] [v] []) (.slice none 0 0) (.slice (some ⟨G, 0, none⟩) 1 1) (.slice none 0 0) := by
 have h1 := (h.toNew hL hB).rd
 refine ⟨⟨hk, by simp [I64, Val.num], hi⟩, by simp [Val.str], by simp [Val.keys, Val.items, Val.rest], by simp [Val.rest], ⟨fun _ => [], ⟨none, 0, rfl, Nat.le_refl _, .inl rfl⟩, fun i h => by simp [Val.keys] at h⟩, ⟨fun _ => valV v vk vi vr, ⟨_, 1, rfl, Nat.le_refl _, .inr ⟨G, 0, rfl, newT_of hG hT hwG, fun i hi j u hu => ?_⟩⟩, fun i hi => ?_⟩, by simp [Val.rest, rawsV], none, 0, rfl, Nat.le_refl _, .inl rfl⟩
 ·
  have h0 : i = 0 := by simp [Val.items] at hi; omega
  subst h0
  have := hG.cell j
  rw [show (0 + 0 * 8 + j) = j by omega, this]; simpa using hu
 have h0 : i = 0 := by simp [Val.items] at hi; omega
 subst h0
 exact h1
theorem valP_raw {w W : World} {G : Nat} {k id : Int} {d : List UInt8} {T : TypeId} (hG : Has W G T #[.int .i64 id, .string ⟨d.toArray⟩]) (hT : T ≠ 3) (hwG : w.heap.size ≤ G) (hk : I64 k) (hi : I64 id) (hd : d.length ≤ 140737488351232) :
  ValP W (NewT w W) (.mk k false 0 [] id [] [] [(id, d)]) (.slice none 0 0) (.slice none 0 0) (.slice (some ⟨G, 0, none⟩) 1 1) := by
 refine ⟨⟨hk, by simp [I64, Val.num], hi⟩, by simp [Val.str], by simp [Val.keys, Val.items, Val.rest], fun r hr => by simp [Val.rest] at hr; subst hr; exact ⟨hi, hd⟩, ⟨fun _ => [], ⟨none, 0, rfl, Nat.le_refl _, .inl rfl⟩, fun i h => by simp [Val.keys] at h⟩, ⟨fun _ => [], ⟨none, 0, rfl, Nat.le_refl _, .inl rfl⟩, fun i h => by simp [Val.items] at h⟩, by simp [Val.rest, rawsV, rawV], _, 1, rfl, Nat.le_refl _, .inr ⟨G, 0, rfl, newT_of hG hT hwG, fun j u hu => ?_⟩⟩
 have := hG.cell j
 rw [show 0 + j = j by omega, this]
 simpa [Val.rest, rawsV, rawV] using hu
theorem lt_same {w w' : World} {k : Nat} (h : w'.heap[k]? = w.heap[k]?) (hk : k < w.heap.size) : k < w'.heap.size := by
 rcases Nat.lt_or_ge k w'.heap.size with h1 | h1
 ·
  exact h1
 rw [Array.getElem?_eq_none h1, Array.getElem?_eq_getElem hk] at h; cases h
theorem own_type {W : World} {base n size k : Nat} {e : TypeId} {v : Value} {xs : List Value} (h : W.ownsRow base e size v n xs) (he : e ≠ 3) (hk : v.ownBlock = some k) : NotInt W k := by
 rcases h.2 with ⟨rfl, _⟩ | ⟨g, cap, cur, rfl, _, hh, _⟩
 ·
  simp [Value.ownBlock] at hk
 simp only [Value.ownBlock, Option.some.injEq] at hk
 subst hk
 intro c f e2
 rw [hh] at e2; injection e2 with e3; injection e3 with _ e4; exact he e4
theorem KeptN.own {w : World} {base n size : Nat} {e : TypeId} {v : Value} {xs : List Value} (h : w.ownsRow base e size v n xs) (he : e ≠ 3) : KeptN (fun w => w.ownsRow base e size v n xs) w base w.heap.size :=
 ⟨h, fun _ hk => own_keep h fun k hb => hk k (h.lt k hb).1 (h.lt k hb).2 (own_type h he hb), Nat.le_refl _⟩
def ListN (L : Nat) (v : Value) (xs : List Val) (W : World) : Prop := ∃ S : Nat → Prop, OwnVals W L S v xs ∧ ∀ k, S k → L ≤ k ∧ NotInt W k
theorem ListN.nil (L : Nat) (W : World) : ListN L (.slice none 0 0) [] W := ⟨_, OwnVals.nil W L, fun _ h => h.elim⟩
theorem OwnVals.notInt {W : World} {L k : Nat} {S : Nat → Prop} {v : Value} {xs : List Val} (h : OwnVals W L S v xs) (hk : v.ownBlock = some k) : NotInt W k := by
 obtain ⟨⟨cs, h1, _⟩, _⟩ := h; exact own_type h1 (by decide) hk
theorem ListN.kept {L : Nat} {v : Value} {xs : List Val} {W : World} (h : ListN L v xs W) : KeptN (ListN L v xs) W L W.heap.size := ⟨h, fun w' hk => by
 obtain ⟨S, h1, h2⟩ := h
 have hS : ∀ k, S k → w'.heap[k]? = W.heap[k]? := fun k hs => hk k (h2 k hs).1 (h1.sep k hs).1 (h2 k hs).2
 have hO : ∀ k, v.ownBlock = some k → w'.heap[k]? = W.heap[k]? := fun k ho => hk k (h1.lt k ho).1 (h1.lt k ho).2 (h1.notInt ho)
 obtain ⟨⟨cs, h3, h4⟩, h5⟩ := h1
 exact ⟨S, ⟨⟨cs, own_keep h3 hO, fun i hi => (h4 i hi).keep (fun p hp => World.cell?_of_block (hS p.block hp)) (fun _ h => h)⟩, fun k hs => ⟨lt_same (hS k hs) (h5 k hs).1, (h5 k hs).2⟩⟩, fun k hs => ⟨(h2 k hs).1, NotInt.to (hS k hs) (h2 k hs).2⟩⟩, Nat.le_refl _⟩
theorem ListN.lt {L : Nat} {v : Value} {xs : List Val} {W : World} (h : ListN L v xs W) : ∀ k, v.ownBlock = some k → L ≤ k ∧ k < W.heap.size ∧ NotInt W k := fun k hk => by
 obtain ⟨S, h1, _⟩ := h; exact ⟨(h1.lt k hk).1, (h1.lt k hk).2, h1.notInt hk⟩
theorem ListN.form {L : Nat} {v : Value} {xs : List Val} {W : World} (h : ListN L v xs W) : ∃ A c, v = .slice A xs.length c := by
 obtain ⟨S, h1, _⟩ := h; exact h1.form
theorem ListN.row {L : Nat} {v : Value} {xs : List Val} {w W : World} (h : ListN L v xs W) (hL : w.heap.size ≤ L) : RdValsP W (NewT w W) v xs := by
 obtain ⟨S, h1, h2⟩ := h
 exact h1.row.keep (fun _ _ => rfl) fun k hk => hk.elim (fun hs => ⟨Nat.le_trans hL (h2 k hs).1, (h1.sep k hs).1, (h2 k hs).2⟩) (fun ho => ⟨Nat.le_trans hL (h1.lt k ho).1, (h1.lt k ho).2, h1.notInt ho⟩)
theorem valP_list {w W : World} {k id : Int} {L1 L2 : Nat} {ks is : List Val} {vk vi : Value} (h1 : RdValsP W (NewT w W) vk ks) (h2 : RdValsP W (NewT w W) vi is) (hk : I64 k) (hi : I64 id) (hl1 : ks.length ≤ L1) (hl2 : is.length ≤ L2) (hL1 : L1 ≤ 1172812402926) (hL2 : L2 ≤ 1172812402926) :
  ValP W (NewT w W) (.mk k false 0 [] id ks is []) vk vi (.slice none 0 0) :=
 ⟨⟨hk, by simp [I64, Val.num], hi⟩, by simp [Val.str], ⟨Nat.le_trans hl1 hL1, Nat.le_trans hl2 hL2, by simp [Val.rest]⟩, by simp [Val.rest], h1, h2, by simp [Val.rest, rawsV], none, 0, rfl, Nat.le_refl _, .inl rfl⟩
theorem rdVals_nil (W : World) (S : Nat → Prop) : RdValsP W S (.slice none 0 0) [] := ⟨fun _ => [], ⟨none, 0, rfl, Nat.le_refl _, .inl rfl⟩, fun i h => by simp at h⟩
theorem wpList_append_item {ops : Array Oper} {rest : List Oper} {op : Oper} {a : Act} {w : World} {Q : Exit → Act → World → Prop} (hgd : op.guard = none) (s x : Operand)
  (ho : op.op = .call { callee := .builtin .append, args := #[s, x], argTypes := #[42, 42] }) {L Lp Bp : Nat} {v : Value} {xs : List Val} {y : Val} {vk vi vr : Value} {T : TypeId} {cs : Array Value} (hT : T = 45) (hcs : cs = (valV y vk vi vr).toArray)
  (ht : ListN L v xs w) (hs : a.eval s = v) (hx : a.eval x = .slice (some ⟨w.heap.size, 0, none⟩) 1 1) (hy : ValN Lp Bp y vk vi vr w) (hyo : ∀ k, v.ownBlock = some k → k < Lp) (hBp : Bp ≤ w.heap.size) (hLp : L ≤ Lp)
  (hn : xs.length < 900000) (hB : L ≤ w.heap.size)
  (h : ∀ v' w1, ListN L v' (xs ++ [y]) w1 → Below L w w1 → (∀ k, k < w.heap.size → v.ownBlock ≠ some k → w1.heap[k]? = w.heap[k]?) → wpList Tryd.prog ops Q rest (a.put op.dst v') w1) : wpList Tryd.prog ops Q (op :: rest) a (w.alloc (.cells cs T)) := by
 subst hT; subst hcs
 obtain ⟨S, hO, hS⟩ := ht
 obtain ⟨Sy, hY, hSy⟩ := hy
 have hal : ∀ k, k < w.heap.size → (w.alloc (.cells (valV y vk vi vr).toArray 45)).heap[k]? = w.heap[k]? := fun k hk => (aB (w := w) rfl).block k hk
 have hG : Has (w.alloc (.cells (valV y vk vi vr).toArray 45)) w.heap.size 45 (valV y vk vi vr).toArray := Has.made _ _ _
 have hO1 : OwnVals (w.alloc (.cells (valV y vk vi vr).toArray 45)) L S v xs := hO.keep (fun k hk _ => hal k hk) (by simp)
 have hY1 : RdValP (w.alloc (.cells (valV y vk vi vr).toArray 45)) Sy y (valV y vk vi vr).toArray.toList := hY.rd.keep (fun p hp => World.cell?_of_block (hal p.block (Nat.lt_of_lt_of_le (hSy _ hp).2.1 hBp))) (fun _ h => h)
 rw [wpList]
 have hw : Region.wanted op (yielded ops a.tmps) = true := by simp [Region.wanted, hgd]
 rw [if_pos hw]
 left
 suffices hh : (if Region.wanted op (yielded ops a.tmps) = true then Oper.wp Tryd.prog op a (w.alloc (.cells (valV y vk vi vr).toArray 45)) (wpList Tryd.prog ops Q rest) Q else True) by rwa [if_pos hw] at hh
 refine step_append_vals (ops := ops) hgd s x ho hO1 hs hG hx hY1 (fun k hk => ⟨by have := (hSy k hk).2.1; simp; omega, fun e => by have := hyo k e; have := (hSy k hk).1; omega⟩) hn (by simp; omega) ?_
 intro v' w1 h1 _ h3 h4
 refine h v' w1 ⟨_, h1, fun k hk => ?_⟩ ((aB (w := w) rfl).mono hB |>.trans h3) (fun k hk hne => (h4 k (by simp; omega) hne).trans (hal k hk))
 have hkw : k < w.heap.size ∧ v.ownBlock ≠ some k ∧ L ≤ k ∧ NotInt w k := hk.elim (fun hs => ⟨(hO.sep k hs).1, (hO.sep k hs).2, (hS k hs).1, (hS k hs).2⟩) (fun hs => ⟨by have := (hSy k hs).2.1; omega, fun e => by have := hyo k e; have := (hSy k hs).1; omega, by have := (hSy k hs).1; omega, (hSy k hs).2.2⟩)
 exact ⟨hkw.2.2.1, NotInt.to ((h4 k (by simp; omega) hkw.2.1).trans (hal k hkw.1)) hkw.2.2.2⟩
section
variable {w W W' : World} {gr L B : Nat} {P : World → Prop} {tv fp : Value} {fn : Int} {path : List Int} {row : Option Nat}
theorem rG {q : Option (List Int)} (R : Hid (RdrX W gr tv fp fn path q)) (hk : ∀ k, k < W.heap.size → row ≠ some k → W'.heap[k]? = W.heap[k]?) (hn : ∀ k, row = some k → gr < k ∧ NotInt W k) : Hid (RdrX W' gr tv fp fn path q) := by
 have ho : ∀ (b : Nat) (v : Value) (n : Nat) (xs : List Value), W.ownsRow (gr + 1) 3 1 v n xs → v.ownBlock = some b → row ≠ some b := fun b v n xs h hb e => by
  rcases h.2 with ⟨rfl, _⟩ | ⟨g, cap, cur, rfl, _, hh, _⟩
  ·
   simp [Value.ownBlock] at hb
  simp only [Value.ownBlock, Option.some.injEq] at hb
  subst hb; exact (hn _ e).2 _ _ hh
 obtain ⟨⟨pv, h1, h2⟩, h3⟩ := R.out
 exact ⟨⟨pv, (hk gr h1.here (fun e => by have := (hn _ e).1; omega)).trans h1, own_keep h2 fun k hb => hk k (h2.lt k hb).2 (ho k _ _ _ h2 hb)⟩, fun p hp => own_keep (h3 p hp) fun k hb => hk k ((h3 p hp).lt k hb).2 (ho k _ _ _ (h3 p hp) hb)⟩
theorem nG (h : Hid (KeptN P W L B)) (hk : ∀ k, k < W.heap.size → row ≠ some k → W'.heap[k]? = W.heap[k]?) (hn : ∀ k, row = some k → B ≤ k) (hs : W.heap.size ≤ W'.heap.size) : Hid (KeptN P W' L B) :=
 h.out.move (fun k _ h2 _ => hk k (Nat.lt_of_lt_of_le h2 h.out.le) (fun e => by have := hn k e; omega)) hs
end
structure ItemAt (wx : World) (gr : Nat) (tv : Value) (path : List Int) (r : Res) (lo : Nat) (s1 s2 : Value) : Prop where
 ex : ∃ (gI : Nat) (fp : Value) (fn : Int) (c0 c1 c2 c3 c4 c5 c6 c7 : Value) (bb : Bool) (L B : Nat), s1 = .pointer (some ⟨gI, 0, none⟩) ∧ s2 = .bool bb ∧ (∀ u ∈ [c0, c1, c2, c3, c4, c5, c6, c7], u.oneCell' = true) ∧ Has wx gI 45 #[c0, c1, c2, c3, c4, c5, c6, c7] ∧
  RdrX wx gr tv fp fn path (resQ r) ∧ KeptN (PartN L B r fn [c0, c1, c2, c3, c4, c5, c6, c7] bb) wx L B ∧ lo < L ∧ lo < gI ∧ (gI < L ∨ B ≤ gI)
end Go.Proofs.YtccmmibkihbobaaDoor

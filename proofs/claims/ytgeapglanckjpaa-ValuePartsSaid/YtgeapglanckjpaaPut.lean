/- What sheaveref08.put computes. No condition. -/
import Derived.Test.YtgeapglanckjpaaOwnV
import Derived.Test.YtgeapglanckjpaaRegT
import Derived.Test.YtgeapglanckjpaaGB
set_option maxHeartbeats 4000000
namespace Go.Proofs.Ytgeapglanckjpaa
open Go.ChangeShapes Go.WideShapes Go.ChangeAt Go.RowKit
def lowI : List Val → Val → Nat
 | [], _ => 0
 | x :: r, k => if compareV x k < 0 then lowI r k + 1 else 0
theorem lowI_le (k : Val) : ∀ l : List Val, lowI l k ≤ l.length
 | [] => Nat.le_refl _
 | x :: r => by
  rw [lowI, List.length_cons]
  split
  ·
   have := lowI_le k r; omega
  omega
theorem lowI_step (k : Val) : ∀ (l : List Val) (j : Nat) (hj : j < l.length), j ≤ lowI l k → (compareV l[j] k < 0 → j + 1 ≤ lowI l k) ∧ (¬ compareV l[j] k < 0 → lowI l k = j)
 | [], j, hj, _ => by simp at hj
 | x :: r, 0, _, _ => by
  simp only [List.getElem_cons_zero]
  rw [lowI]
  constructor
  ·
   intro h; rw [if_pos h]; omega
  intro h; rw [if_neg h]
 | x :: r, j + 1, hj, h => by
  simp only [List.getElem_cons_succ]
  rw [lowI] at h ⊢
  by_cases hx : compareV x k < 0
  ·
   rw [if_pos hx] at h ⊢
   have := lowI_step k r j (by simpa using hj) (by omega)
   constructor
   ·
    intro h1; have := this.1 h1; omega
   intro h1; have := this.2 h1; omega
  rw [if_neg hx] at h; omega
theorem lowI_end (k : Val) (l : List Val) (h : l.length ≤ lowI l k) : lowI l k = l.length := by have := lowI_le k l; omega
def putV (v k it : Val) : Val :=
 if (match v.keys[lowI v.keys k]? with | some x => decide (compareV x k = 0) | none => false) = true then v
 else .mk v.kind v.bool v.num v.str v.id (v.keys.take (lowI v.keys k) ++ [k] ++ v.keys.drop (lowI v.keys k)) (v.items.take (lowI v.keys k) ++ [it] ++ v.items.drop (lowI v.keys k)) v.rest
def PutPost (w : World) (S : Nat → Prop) (x : Val) (e : Ending) (w' : World) : Prop :=
 ∃ vk vi vr, e = .returned (valA x vk vi vr) ∧ ValP w' (fun b => S b ∨ (w.heap.size ≤ b ∧ b < w'.heap.size)) x vk vi vr ∧ Below w.heap.size w w'
theorem ValP.on0 {w w' : World} {S : Nat → Prop} {x : Val} {vk vi vr : Value} (h : ValP w S x vk vi vr) (hS : ∀ b, S b → b < w.heap.size) (hb : Below w.heap.size w w') : ValP w' S x vk vi vr :=
 h.keep (fun _ hp => hb.cell (hS _ hp)) (fun _ h => h)
theorem ValP.forms {w : World} {S : Nat → Prop} {x : Val} {vk vi vr : Value} (h : ValP w S x vk vi vr) : ∃ A1 c1 A2 c2 A3 c3, vk = .slice A1 x.keys.length c1 ∧ vi = .slice A2 x.items.length c2 ∧ vr = .slice A3 x.rest.length c3 ∧ x.keys.length ≤ c1 ∧ x.items.length ≤ c2 ∧ x.rest.length ≤ c3 := by
 obtain ⟨_, _, _, _, ⟨_, ⟨A1, c1, e1, h1, _⟩, _⟩, ⟨_, ⟨A2, c2, e2, h2, _⟩, _⟩, ⟨_, A3, c3, e3, h3, _⟩⟩ := h
 exact ⟨A1, c1, A2, c2, A3, c3, e1, e2, e3, h1, h2, h3⟩
theorem RdValsP.at_ {w : World} {S : Nat → Prop} {A : Option Addr} {n c : Nat} {xs : List Val} (h : RdValsP w S (.slice A n c) xs) (hp : 0 < xs.length) : ∃ (b o : Nat) (cc : Nat → List Value), A = some ⟨b, o, none⟩ ∧ S b ∧ (∀ i, i < xs.length → ∀ j u, (cc i)[j]? = some u → w.cell? ⟨b, o + i * 8 + j, none⟩ = some u) ∧ ∀ (i : Nat) (h : i < xs.length), RdValP w S xs[i] (cc i) := by
 obtain ⟨cc, ⟨A', c', hv, _, h2⟩, h3⟩ := h
 injection hv with h4 h5 h6
 subst h4
 rcases h2 with h2 | ⟨b, o, hA, hb, hcell⟩
 ·
  omega
 exact ⟨b, o, cc, hA, hb, hcell, h3⟩
theorem OwnVals.empty (w : World) (L : Nat) (hL : L ≤ w.heap.size) : OwnVals (w.alloc (.cells #[] 34)) L (fun _ => False) (.slice (some ⟨w.heap.size, 0, none⟩) 0 0) [] :=
 ⟨⟨[], ⟨by simp, .inr ⟨w.heap.size, 0, #[], rfl, hL, heap_alloc_new w _, by simp, by simp [maxLen], by simp, by simp⟩⟩, fun i h => by simp at h⟩, fun k h => h.elim⟩
theorem OwnVals.keepS {w w' : World} {L : Nat} {S : Nat → Prop} {v : Value} {xs : List Val} (h : OwnVals w L S v xs) (hk : ∀ k, (S k ∨ v.ownBlock = some k) → w'.heap[k]? = w.heap[k]?) : OwnVals w' L S v xs := by
 obtain ⟨⟨cs, h1, h2⟩, h3⟩ := h
 refine ⟨⟨cs, own_keep h1 fun k hb => hk k (.inr hb), fun i hi => (h2 i hi).keep (fun p hp => World.cell?_of_block (hk p.block (.inl hp))) (fun _ h => h)⟩, fun k hS => ⟨?_, (h3 k hS).2⟩⟩
 have h4 := hk k (.inl hS)
 rcases Nat.lt_or_ge k w'.heap.size with h5 | h5
 ·
  exact h5
 rw [Array.getElem?_eq_none h5, Array.getElem?_eq_getElem (h3 k hS).1] at h4; cases h4
theorem OwnVals.low {w : World} {L L' : Nat} {S : Nat → Prop} {v : Value} {xs : List Val} (h : OwnVals w L S v xs) (hL : L' ≤ L) : OwnVals w L' S v xs := by
 obtain ⟨⟨cs, h1, h2⟩, h3⟩ := h
 exact ⟨⟨cs, own_base h1 hL, h2⟩, h3⟩
def OVs (w0 : World) (L : Nat) (S : Nat → Prop) (v : Value) (xs : List Val) (w : World) : Prop := (∀ b : Nat, b < w0.heap.size → w.heap[b]? = w0.heap[b]?) → OwnVals w L S v xs
theorem OwnVals.kept0 {w0 w : World} {L : Nat} {S : Nat → Prop} {v : Value} {xs : List Val} (h : OwnVals w L S v xs) (hS : ∀ b, S b → b < w0.heap.size ∨ L ≤ b) (hb : Below w0.heap.size w0 w) : Kept (OVs w0 L S v xs) w L w.heap.size :=
 ⟨fun _ => h, fun _ hk hold => h.keepS fun k hs => hs.elim (fun hs => (hS k hs).elim (fun h1 => (hold k h1).trans (hb.block k h1).symm) (fun h1 => hk k h1 (h.sep k hs).1)) (fun hs => hk k (h.lt k hs).1 (h.lt k hs).2), Nat.le_refl _⟩
theorem putP {W w : World} {S Sk Si : Nat → Prop} {L6 L7 : Nat} {v : Val} {ks is : List Val} {vk vi vr vk' vi' : Value} (hv : ValP W S v vk vi vr) (hk : OwnVals W L6 Sk vk' ks) (hi : OwnVals W L7 Si vi' is) (h6 : w.heap.size ≤ L6) (h7 : w.heap.size ≤ L7)
  (hSk : ∀ b, Sk b → S b) (hSi : ∀ b, Si b → S b) (hl : ks.length ≤ 1000 ∧ is.length ≤ 1000) : ValP W (fun b => S b ∨ (w.heap.size ≤ b ∧ b < W.heap.size)) (.mk v.kind v.bool v.num v.str v.id ks is v.rest) vk' vi' vr := by
 have hok : ∀ b, (Sk b ∨ vk'.ownBlock = some b) → S b ∨ (w.heap.size ≤ b ∧ b < W.heap.size) := fun b hb => hb.elim (fun hb => .inl (hSk b hb)) (fun hb => .inr (by have := hk.lt b hb; omega))
 have hoi : ∀ b, (Si b ∨ vi'.ownBlock = some b) → S b ∨ (w.heap.size ≤ b ∧ b < W.heap.size) := fun b hb => hb.elim (fun hb => .inl (hSi b hb)) (fun hb => .inr (by have := hi.lt b hb; omega))
 exact ⟨hv.ints, hv.strl, ⟨by show ks.length ≤ _; omega, by show is.length ≤ _; omega, hv.lens.2.2⟩, hv.raws, hk.row.keep (fun _ _ => rfl) hok, hi.row.keep (fun _ _ => rfl) hoi, hv.rest.keep (fun _ _ => rfl) (fun _ h => .inl h)⟩
set_option maxRecDepth 100000 in
theorem put_nil (v k t : Val) (S : Nat → Prop) (vk vi vr kk ki kr tk' ti tr : Value) (w : World) (hS : ∀ b, S b → b < w.heap.size) (hv : ValP w S v vk vi vr) (hk : ValP w S k kk ki kr) (ht : ValP w S t tk' ti tr) (h0 : v.keys = []) (h1 : v.items = []) (hvk : vk = .slice none 0 0) (hvi : vi = .slice none 0 0) :
  Calls Try.prog 68 #[valA v vk vi vr, valA k kk ki kr, valA t tk' ti tr] w (PutPost w S (putV v k t)) := by
 have Hp : Hid (putV v k t = .mk v.kind v.bool v.num v.str v.id [k] [t] v.rest) := by show _ = _; unfold putV; rw [h0, h1]; simp [lowI]
 obtain ⟨A1, c1, A2, c2, A3, c3, -, -, rfl, -, -, -⟩ := hv.forms
 obtain ⟨K1, d1, K2, d2, K3, d3, rfl, rfl, rfl, -, -, -⟩ := hk.forms
 obtain ⟨T1, e1, T2, e2, T3, e3, rfl, rfl, rfl, -, -, -⟩ := ht.forms
 subst hvk hvi
 have HV := Lib.hid hv
 have HY := Lib.hid hk
 have HZ := Lib.hid ht
 have HS := Lib.hid hS
 clear hv hk ht hS h0 h1
 go_enter Try.func68, Try.ntmps68
 go_upto_region 1 with fail
 obtain ⟨wd180, hE181⟩ : ∃ ww, ww = w.alloc (.cells #[.int .i64 v.kind, .bool v.bool, .int .i64 v.num, .string ⟨v.str.toArray⟩, .int .i64 v.id, .slice none 0 0, .slice none 0 0, .slice A3 v.rest.length c3] 34) := ⟨_, rfl⟩
 rw [← hE181]
 have hb179 := aB hE181
 have V := aN hE181
 obtain ⟨wd182, hE183⟩ : ∃ ww, ww = wd180.alloc (.cells #[.int .i64 k.kind, .bool k.bool, .int .i64 k.num, .string ⟨k.str.toArray⟩, .int .i64 k.id, .slice K1 k.keys.length d1, .slice K2 k.items.length d2, .slice K3 k.rest.length d3] 34) := ⟨_, rfl⟩
 rw [← hE183]
 replace V := dB V (aB hE183)
 replace hb179 := dT hb179 (aB hE183)
 have Y := aM hE183 (aZ hE181 rfl)
 obtain ⟨wd184, hE185⟩ : ∃ ww, ww = wd182.alloc (.cells #[.int .i64 t.kind, .bool t.bool, .int .i64 t.num, .string ⟨t.str.toArray⟩, .int .i64 t.id, .slice T1 t.keys.length e1, .slice T2 t.items.length e2, .slice T3 t.rest.length e3] 34) := ⟨_, rfl⟩
 rw [← hE185]
 replace V := dB V (aB hE185)
 replace Y := dB Y (aB hE185)
 replace hb179 := dT hb179 (aB hE185)
 have Z := aM hE185 (aZ hE183 (aZ hE181 rfl))
 obtain ⟨wd186, hE187⟩ : ∃ ww, ww = wd184.alloc (.cells #[.int .i64 0, .bool false, .int .i64 0, .string ⟨#[]⟩, .int .i64 0, .slice none 0 0, .slice none 0 0, .slice none 0 0] 34) := ⟨_, rfl⟩
 rw [← hE187]
 replace V := dB V (aB hE187)
 replace Y := dB Y (aB hE187)
 replace Z := dB Z (aB hE187)
 replace hb179 := dT hb179 (aB hE187)
 have R := aM hE187 (aZ hE185 (aZ hE183 (aZ hE181 rfl)))
 clear hE181 hE183 hE185 hE187
 have hw188 := hb179
 clear hb179
 go_wp2_with fail
 refine wp_loop_rounds 1 ?_
 rw [rounds_succ]
 go_upto_region 2 with fail
 have cV_5 : wd186.cell? ⟨w.heap.size, 5, none⟩ = some (.slice none 0 0) := V.out.cell 5
 refine wp_region_held_drew (S := (fun w' => w'.cell? ⟨w.heap.size, 5, none⟩ = some (.slice none 0 0))) (by kernel_rfl) cV_5 (fun hHeld => ?_)
 clear cV_5
 have hb189 : Below wd186.heap.size wd186 (wd186.drew) := (Below.refl _ _).drew
 replace V := dB V hb189
 replace Y := dB Y hb189
 replace Z := dB Z hb189
 replace R := dB R hb189
 replace hw188 := dT hw188 hb189
 clear hb189
 generalize wd186.drew = wd190 at *
 refine tk (i := 0) (v := ?k191) ?_
 simp only [put_laws2]
 refine tk (i := 1) (v := ?k192) ?_
 simp only [put_laws2]
 refine tk (i := 2) (v := ?k193) ?_
 simp only [put_laws2]
 refine tk (i := 3) (v := ?k194) ?_
 simp only [put_laws2]
 refine tk (i := 4) (v := ?k195) ?_
 simp only [put_laws2]
 refine tk (i := 5) (v := ?k196) ?_
 simp only [put_laws2]
 refine tks (i := 6) ?_
 simp only [put_laws2]
 refine tks (i := 7) ?_
 simp only [put_laws2]
 refine tks (i := 8) ?_
 simp only [put_laws2]
 refine tks (i := 9) ?_
 simp only [put_laws2]
 refine tks (i := 10) ?_
 simp only [put_laws2]
 refine tks (i := 11) ?_
 simp only [put_laws2]
 refine tks (i := 12) ?_
 simp only [put_laws2]
 refine tks (i := 13) ?_
 simp only [put_laws2]
 refine tk (i := 14) (v := ?k197) ?_
 simp only [put_laws2]
 refine wpAnyH_done (by kernel_rfl) ?_ _
 try clear hHeld
 go_upto_region 4 with fail
 have cV_5 : wd190.cell? ⟨w.heap.size, 5, none⟩ = some (.slice none 0 0) := V.out.cell 5
 refine wp_region_held_drew (S := (fun w' => w'.cell? ⟨w.heap.size, 5, none⟩ = some (.slice none 0 0))) (by kernel_rfl) cV_5 (fun hHeld => ?_)
 clear cV_5
 have hb198 : Below wd190.heap.size wd190 (wd190.drew) := (Below.refl _ _).drew
 replace V := dB V hb198
 replace Y := dB Y hb198
 replace Z := dB Z hb198
 replace R := dB R hb198
 replace hw188 := dT hw188 hb198
 clear hb198
 generalize wd190.drew = wd199 at *
 refine tk (i := 0) (v := ?k200) ?_
 simp only [put_laws2]
 refine tk (i := 1) (v := ?k201) ?_
 simp only [put_laws2]
 refine tk (i := 2) (v := ?k202) ?_
 simp only [put_laws2]
 refine tk (i := 3) (v := ?k203) ?_
 simp only [put_laws2]
 refine tk (i := 4) (v := ?k204) ?_
 simp only [put_laws2]
 refine tk (i := 5) (v := ?k205) ?_
 simp only [put_laws2]
 refine tks (i := 6) ?_
 simp only [put_laws2]
 refine tks (i := 7) ?_
 simp only [put_laws2]
 refine tks (i := 8) ?_
 simp only [put_laws2]
 refine tks (i := 9) ?_
 simp only [put_laws2]
 refine tks (i := 10) ?_
 simp only [put_laws2]
 refine tks (i := 11) ?_
 simp only [put_laws2]
 refine tks (i := 12) ?_
 simp only [put_laws2]
 refine tks (i := 13) ?_
 simp only [put_laws2]
 refine tk (i := 14) (v := ?k206) ?_
 simp only [put_laws2]
 refine wpAnyH_done (by kernel_rfl) ?_ _
 try clear hHeld
 go_upto_region 6 with fail
 go_cut [] from 41 to 55 (fun wx => ∃ (A : Option Addr) (c : Nat), Has wx w.heap.size 34 #[.int .i64 v.kind, .bool v.bool, .int .i64 v.num, .string ⟨v.str.toArray⟩, .int .i64 v.id, .slice A 1 c, .slice none 0 0, .slice A3 v.rest.length c3] ∧ Has wx (w.heap.size + 1) 34 #[.int .i64 k.kind, .bool k.bool, .int .i64 k.num, .string ⟨k.str.toArray⟩, .int .i64 k.id, .slice K1 k.keys.length d1, .slice K2 k.items.length d2, .slice K3 k.rest.length d3] ∧ Has wx (w.heap.size + 1 + 1) 34 #[.int .i64 t.kind, .bool t.bool, .int .i64 t.num, .string ⟨t.str.toArray⟩, .int .i64 t.id, .slice T1 t.keys.length e1, .slice T2 t.items.length e2, .slice T3 t.rest.length e3] ∧ Has wx (w.heap.size + 1 + 1 + 1) 34 #[.int .i64 0, .bool false, .int .i64 0, .string ⟨#[]⟩, .int .i64 0, .slice none 0 0, .slice none 0 0, .slice none 0 0] ∧ Kept (OVs w (w.heap.size + 4) (fun b => False ∨ S b) (.slice A 1 c) [k]) wx (w.heap.size + 4) wx.heap.size ∧ Below w.heap.size w wx)
 case first =>
  have cV_5 : wd199.cell? ⟨w.heap.size, 5, none⟩ = some (.slice none 0 0) := V.out.cell 5
  obtain ⟨cY_0, cY_1, cY_2, cY_3, cY_4, cY_5, cY_6, cY_7⟩ := Y.out.c8
  refine wp_region_T (S := (fun w' => w'.cell? ⟨w.heap.size, 5, none⟩ = some (.slice none 0 0) ∧ w'.cell? ⟨w.heap.size + 1, 0, none⟩ = some (.int .i64 k.kind) ∧ w'.cell? ⟨w.heap.size + 1, 1, none⟩ = some (.bool k.bool) ∧ w'.cell? ⟨w.heap.size + 1, 2, none⟩ = some (.int .i64 k.num) ∧ w'.cell? ⟨w.heap.size + 1, 3, none⟩ = some (.string ⟨k.str.toArray⟩) ∧ w'.cell? ⟨w.heap.size + 1, 4, none⟩ = some (.int .i64 k.id) ∧ w'.cell? ⟨w.heap.size + 1, 5, none⟩ = some (.slice K1 k.keys.length d1) ∧ w'.cell? ⟨w.heap.size + 1, 6, none⟩ = some (.slice K2 k.items.length d2) ∧ w'.cell? ⟨w.heap.size + 1, 7, none⟩ = some (.slice K3 k.rest.length d3) ∧ (∀ (b o : Nat), b < w.heap.size → w'.cell? ⟨b, o, none⟩ = w.cell? ⟨b, o, none⟩))) (fun j => j == 15) (by kernel_rfl) ⟨cV_5, cY_0, cY_1, cY_2, cY_3, cY_4, cY_5, cY_6, cY_7, (fun b o hlt => hw188.cell (p := ⟨b, o, none⟩) hlt)⟩ (fun hHeld => ?_)
  clear cV_5 cY_0 cY_1 cY_2 cY_3 cY_4 cY_5 cY_6 cY_7
  have hb207 : Below wd199.heap.size wd199 (wd199.drew) := (Below.refl _ _).drew
  replace V := dB V hb207
  replace Y := dB Y hb207
  replace Z := dB Z hb207
  replace R := dB R hb207
  replace hw188 := dT hw188 hb207
  clear hb207
  generalize wd199.drew = wd208 at *
  refine tkT (i := 1) (v := ?k209) ?_
  simp only [put_laws2]
  refine tkT (i := 2) (v := ?k210) ?_
  simp only [put_laws2]
  refine tkT (i := 3) (v := ?k211) ?_
  simp only [put_laws2]
  refine tkT (i := 4) (v := ?k212) ?_
  simp only [put_laws2]
  refine tkT (i := 6) (v := ?k213) ?_
  simp only [put_laws2]
  refine tkT (i := 9) (v := ?k214) ?_
  simp only [put_laws2]
  refine tkT (i := 10) (v := ?k215) ?_
  simp only [put_laws2]
  refine tkT (i := 11) (v := ?k216) ?_
  simp only [put_laws2]
  refine tkT (i := 12) (v := ?k217) ?_
  simp only [put_laws2]
  refine wpAnyT_ready (rs := [0, 7]) (by kernel_rfl) (by simp) ?_
  refine AllReadyT.cons rfl (fun K hK => ?_) (AllReadyT.cons rfl (fun K hK => ?_) (AllReadyT.nil))
  ·
   skip
   go_simp
   have hO0 := OwnVals.empty wd208 (w.heap.size + 4) (by have := R.out.here; omega)
   obtain ⟨gE, hgE⟩ : ∃ g, g = wd208.heap.size := ⟨_, rfl⟩
   rw [← hgE] at hO0
   have hb218 : Below wd208.heap.size wd208 (wd208.alloc (.cells #[] 34)) := (below_al (Below.refl _ _) (Nat.le_refl _) _)
   replace V := dB V hb218
   replace Y := dB Y hb218
   replace Z := dB Z hb218
   replace R := dB R hb218
   replace hw188 := dT hw188 hb218
   clear hb218
   generalize wd208.alloc (.cells #[] 34) = wd219 at *
   have hZE : ∀ q, (Value.slice (some ⟨gE, 0, none⟩) 0 0).ownBlock = some q → q = gE := fun q h => by injection h with h; exact h.symm
   have hgL := (hO0.lt gE rfl).1
   have O := Lib.hid (OwnVals.kept0 hO0 (fun _ hq => hq.elim) hw188)
   clear hO0
   simp only [← hgE]
   clear hgE
   try clear hHeld
   refine hK.out _ _ (⟨V.out.cell 5, d8 Y ((fun b o hlt => hw188.cell (p := ⟨b, o, none⟩) hlt))⟩) (fun hHeld => ?_)
   clear hK K
   refine wpAnyT_ready (rs := [5, 7]) (by kernel_rfl) (by simp) ?_
   refine AllReadyT.cons rfl (fun K hK => ?_) (AllReadyT.cons rfl (fun K hK => ?_) (AllReadyT.nil))
   ·
    skip
    refine step_append_none (by rfl) _ _ (by rfl) (O.out.now (fun q hq => (hw188).block q hq)) (by rfl) (by rfl) ?_
    try clear hHeld
    refine hK.out _ _ (⟨V.out.cell 5, d8 Y ((fun b o hlt => hw188.cell (p := ⟨b, o, none⟩) hlt))⟩) (fun hHeld => ?_)
    clear hK K
    refine rdT1 (i := 7) (fun K hK => ?_)
    go_simp
    obtain ⟨wd221, hE222⟩ : ∃ ww, ww = wd219.alloc (.cells #[.int .i64 k.kind, .bool k.bool, .int .i64 k.num, .string ⟨k.str.toArray⟩, .int .i64 k.id, .slice K1 k.keys.length d1, .slice K2 k.items.length d2, .slice K3 k.rest.length d3] 34) := ⟨_, rfl⟩
    rw [← hE222]
    have hb220 := aB hE222
    have N := aN hE222
    clear hE222
    have hl224 := V.out.here
    have hl225 := Y.out.here
    have hl226 := Z.out.here
    have hl227 := R.out.here
    have hl228 := O.out.le
    have hl229 := hw188.size
    replace V := dB V hb220
    replace Y := dB Y hb220
    replace Z := dB Z hb220
    replace R := dB R hb220
    replace O := dK O hb220
    replace hw188 := dT hw188 hb220
    clear hb220
    generalize wd219.heap.size = g223 at *
    try clear hHeld
    refine hK.out _ _ (⟨V.out.cell 5, d8 Y ((fun b o hlt => hw188.cell (p := ⟨b, o, none⟩) hlt))⟩) (fun hHeld => ?_)
    clear hK K
    refine rdT1 (i := 8) (fun K hK => ?_)
    refine step_append_vals (by rfl) _ _ (by rfl) (O.out.now (fun q hq => (hw188).block q hq)) (by rfl) N.out (by rfl) (HY.out.on0 HS.out hw188).rd (fun q hq => ⟨Nat.lt_of_lt_of_le (HS.out q hq) (hw188).size, fun e => by have := HS.out q hq; have := (O.out.now (fun q hq => (hw188).block q hq)).lt q e; omega⟩) (by simp) (by have := R.out.here; omega) ?_
    intro v1 w1O hO1 hat hbB hkk
    obtain ⟨AqO, cqO, rfl⟩ := hO1.form
    simp only [List.nil_append, List.length_singleton] at hO1
    clear O
    clear N
    replace V := dG V hkk (fun hh => by have := hZE _ hh; omega)
    replace Y := dG Y hkk (fun hh => by have := hZE _ hh; omega)
    replace Z := dG Z hkk (fun hh => by have := hZE _ hh; omega)
    replace R := dG R hkk (fun hh => by have := hZE _ hh; omega)
    replace hw188 := hw188.trans (hbB.mono (show w.heap.size ≤ w.heap.size + 4 by omega))
    have O := Lib.hid (OwnVals.kept0 hO1 (fun q hq => .inl (hq.elim False.elim (HS.out q))) hw188)
    clear hO1 hat hbB hkk hZE hgL
    try clear hHeld
    refine hK.out _ _ (⟨V.out.cell 5, d8 Y ((fun b o hlt => hw188.cell (p := ⟨b, o, none⟩) hlt))⟩) (fun hHeld => ?_)
    clear hK K
    refine rdT1 (i := 13) (fun K hK => ?_)
    refine step_append_none (by rfl) _ _ (by rfl) (O.out.now (fun q hq => (hw188).block q hq)) (by rfl) (by rfl) ?_
    try clear hHeld
    refine hK.out _ _ (⟨V.out.cell 5, d8 Y ((fun b o hlt => hw188.cell (p := ⟨b, o, none⟩) hlt))⟩) (fun hHeld => ?_)
    clear hK K
    refine tkT (i := 14) (v := ?k230) ?_
    simp only [put_laws2]
    refine rdTL (i := 15) (fun K hK => ?_)
    have cV_5 : w1O.cell? ⟨w.heap.size, 5, none⟩ = some (.slice none 0 0) := V.out.cell 5
    have fV_5 := V.out.free 5
    go_simp
    clear cV_5 fV_5
    obtain ⟨wd231, hE232⟩ : ∃ ww, ww = w1O.setCell ⟨w.heap.size, 5, none⟩ (.slice AqO 1 cqO) := ⟨_, rfl⟩
    rw [← hE232]
    replace Y := dF Y hE232 (by omega)
    replace Z := dF Z hE232 (by omega)
    replace R := dF R hE232 (by omega)
    replace V : Hid (Has wd231 (w.heap.size) 34 #[.int .i64 v.kind, .bool v.bool, .int .i64 v.num, .string ⟨v.str.toArray⟩, .int .i64 v.id, .slice AqO 1 cqO, .slice none 0 0, .slice A3 v.rest.length c3]) := Lib.hid (by simpa using dS V hE232)
    replace O := kF O hE232 (by omega)
    replace hw188 := tF hw188 hE232 (by omega)
    clear hE232
    try clear hHeld
    refine hK.out _ _ ?_
    clear hK K
    refine wpAnyT_done (by kernel_rfl) ?_ _
    try clear hHeld
    go_wp2_with fail
    go_meet
    exact ⟨AqO, cqO, V.out, Y.out, Z.out, R.out, OwnVals.kept0 (O.out.now (fun q hq => (hw188).block q hq)) (fun q hq => .inl (hq.elim False.elim (HS.out q))) hw188, hw188⟩
   skip
   go_simp
   obtain ⟨wd234, hE235⟩ : ∃ ww, ww = wd219.alloc (.cells #[.int .i64 k.kind, .bool k.bool, .int .i64 k.num, .string ⟨k.str.toArray⟩, .int .i64 k.id, .slice K1 k.keys.length d1, .slice K2 k.items.length d2, .slice K3 k.rest.length d3] 34) := ⟨_, rfl⟩
   rw [← hE235]
   have hb233 := aB hE235
   have N := aN hE235
   clear hE235
   have hl237 := V.out.here
   have hl238 := Y.out.here
   have hl239 := Z.out.here
   have hl240 := R.out.here
   have hl241 := O.out.le
   have hl242 := hw188.size
   replace V := dB V hb233
   replace Y := dB Y hb233
   replace Z := dB Z hb233
   replace R := dB R hb233
   replace O := dK O hb233
   replace hw188 := dT hw188 hb233
   clear hb233
   generalize wd219.heap.size = g236 at *
   try clear hHeld
   refine hK.out _ _ (⟨V.out.cell 5, d8 Y ((fun b o hlt => hw188.cell (p := ⟨b, o, none⟩) hlt))⟩) (fun hHeld => ?_)
   clear hK K
   refine rdT1 (i := 5) (fun K hK => ?_)
   refine step_append_none (by rfl) _ _ (by rfl) (O.out.now (fun q hq => (hw188).block q hq)) (by rfl) (by rfl) ?_
   try clear hHeld
   refine hK.out _ _ (⟨V.out.cell 5, d8 Y ((fun b o hlt => hw188.cell (p := ⟨b, o, none⟩) hlt))⟩) (fun hHeld => ?_)
   clear hK K
   refine rdT1 (i := 8) (fun K hK => ?_)
   refine step_append_vals (by rfl) _ _ (by rfl) (O.out.now (fun q hq => (hw188).block q hq)) (by rfl) N.out (by rfl) (HY.out.on0 HS.out hw188).rd (fun q hq => ⟨Nat.lt_of_lt_of_le (HS.out q hq) (hw188).size, fun e => by have := HS.out q hq; have := (O.out.now (fun q hq => (hw188).block q hq)).lt q e; omega⟩) (by simp) (by have := R.out.here; omega) ?_
   intro v1 w1O hO1 hat hbB hkk
   obtain ⟨AqO, cqO, rfl⟩ := hO1.form
   simp only [List.nil_append, List.length_singleton] at hO1
   clear O
   clear N
   replace V := dG V hkk (fun hh => by have := hZE _ hh; omega)
   replace Y := dG Y hkk (fun hh => by have := hZE _ hh; omega)
   replace Z := dG Z hkk (fun hh => by have := hZE _ hh; omega)
   replace R := dG R hkk (fun hh => by have := hZE _ hh; omega)
   replace hw188 := hw188.trans (hbB.mono (show w.heap.size ≤ w.heap.size + 4 by omega))
   have O := Lib.hid (OwnVals.kept0 hO1 (fun q hq => .inl (hq.elim False.elim (HS.out q))) hw188)
   clear hO1 hat hbB hkk hZE hgL
   try clear hHeld
   refine hK.out _ _ (⟨V.out.cell 5, d8 Y ((fun b o hlt => hw188.cell (p := ⟨b, o, none⟩) hlt))⟩) (fun hHeld => ?_)
   clear hK K
   refine rdT1 (i := 13) (fun K hK => ?_)
   refine step_append_none (by rfl) _ _ (by rfl) (O.out.now (fun q hq => (hw188).block q hq)) (by rfl) (by rfl) ?_
   try clear hHeld
   refine hK.out _ _ (⟨V.out.cell 5, d8 Y ((fun b o hlt => hw188.cell (p := ⟨b, o, none⟩) hlt))⟩) (fun hHeld => ?_)
   clear hK K
   refine tkT (i := 14) (v := ?k243) ?_
   simp only [put_laws2]
   refine rdTL (i := 15) (fun K hK => ?_)
   have cV_5 : w1O.cell? ⟨w.heap.size, 5, none⟩ = some (.slice none 0 0) := V.out.cell 5
   have fV_5 := V.out.free 5
   go_simp
   clear cV_5 fV_5
   obtain ⟨wd244, hE245⟩ : ∃ ww, ww = w1O.setCell ⟨w.heap.size, 5, none⟩ (.slice AqO 1 cqO) := ⟨_, rfl⟩
   rw [← hE245]
   replace Y := dF Y hE245 (by omega)
   replace Z := dF Z hE245 (by omega)
   replace R := dF R hE245 (by omega)
   replace V : Hid (Has wd244 (w.heap.size) 34 #[.int .i64 v.kind, .bool v.bool, .int .i64 v.num, .string ⟨v.str.toArray⟩, .int .i64 v.id, .slice AqO 1 cqO, .slice none 0 0, .slice A3 v.rest.length c3]) := Lib.hid (by simpa using dS V hE245)
   replace O := kF O hE245 (by omega)
   replace hw188 := tF hw188 hE245 (by omega)
   clear hE245
   try clear hHeld
   refine hK.out _ _ ?_
   clear hK K
   refine wpAnyT_done (by kernel_rfl) ?_ _
   try clear hHeld
   go_wp2_with fail
   go_meet
   exact ⟨AqO, cqO, V.out, Y.out, Z.out, R.out, OwnVals.kept0 (O.out.now (fun q hq => (hw188).block q hq)) (fun q hq => .inl (hq.elim False.elim (HS.out q))) hw188, hw188⟩
  skip
  go_simp
  obtain ⟨wd247, hE248⟩ : ∃ ww, ww = wd208.alloc (.cells #[.int .i64 k.kind, .bool k.bool, .int .i64 k.num, .string ⟨k.str.toArray⟩, .int .i64 k.id, .slice K1 k.keys.length d1, .slice K2 k.items.length d2, .slice K3 k.rest.length d3] 34) := ⟨_, rfl⟩
  rw [← hE248]
  have hb246 := aB hE248
  have N := aN hE248
  clear hE248
  have hl250 := V.out.here
  have hl251 := Y.out.here
  have hl252 := Z.out.here
  have hl253 := R.out.here
  have hl254 := hw188.size
  replace V := dB V hb246
  replace Y := dB Y hb246
  replace Z := dB Z hb246
  replace R := dB R hb246
  replace hw188 := dT hw188 hb246
  clear hb246
  generalize wd208.heap.size = g249 at *
  try clear hHeld
  refine hK.out _ _ (⟨V.out.cell 5, d8 Y ((fun b o hlt => hw188.cell (p := ⟨b, o, none⟩) hlt))⟩) (fun hHeld => ?_)
  clear hK K
  refine rdT1 (i := 0) (fun K hK => ?_)
  go_simp
  have hO0 := OwnVals.empty wd247 (w.heap.size + 4) (by have := R.out.here; omega)
  obtain ⟨gE, hgE⟩ : ∃ g, g = wd247.heap.size := ⟨_, rfl⟩
  rw [← hgE] at hO0
  have hb255 : Below wd247.heap.size wd247 (wd247.alloc (.cells #[] 34)) := (below_al (Below.refl _ _) (Nat.le_refl _) _)
  replace V := dB V hb255
  replace Y := dB Y hb255
  replace Z := dB Z hb255
  replace R := dB R hb255
  replace N := dB N hb255
  replace hw188 := dT hw188 hb255
  clear hb255
  generalize wd247.alloc (.cells #[] 34) = wd256 at *
  have hZE : ∀ q, (Value.slice (some ⟨gE, 0, none⟩) 0 0).ownBlock = some q → q = gE := fun q h => by injection h with h; exact h.symm
  have hgL := (hO0.lt gE rfl).1
  have O := Lib.hid (OwnVals.kept0 hO0 (fun _ hq => hq.elim) hw188)
  clear hO0
  simp only [← hgE]
  clear hgE
  try clear hHeld
  refine hK.out _ _ (⟨V.out.cell 5, d8 Y ((fun b o hlt => hw188.cell (p := ⟨b, o, none⟩) hlt))⟩) (fun hHeld => ?_)
  clear hK K
  refine rdT1 (i := 5) (fun K hK => ?_)
  refine step_append_none (by rfl) _ _ (by rfl) (O.out.now (fun q hq => (hw188).block q hq)) (by rfl) (by rfl) ?_
  try clear hHeld
  refine hK.out _ _ (⟨V.out.cell 5, d8 Y ((fun b o hlt => hw188.cell (p := ⟨b, o, none⟩) hlt))⟩) (fun hHeld => ?_)
  clear hK K
  refine rdT1 (i := 8) (fun K hK => ?_)
  refine step_append_vals (by rfl) _ _ (by rfl) (O.out.now (fun q hq => (hw188).block q hq)) (by rfl) N.out (by rfl) (HY.out.on0 HS.out hw188).rd (fun q hq => ⟨Nat.lt_of_lt_of_le (HS.out q hq) (hw188).size, fun e => by have := HS.out q hq; have := (O.out.now (fun q hq => (hw188).block q hq)).lt q e; omega⟩) (by simp) (by have := R.out.here; omega) ?_
  intro v1 w1O hO1 hat hbB hkk
  obtain ⟨AqO, cqO, rfl⟩ := hO1.form
  simp only [List.nil_append, List.length_singleton] at hO1
  clear O
  clear N
  replace V := dG V hkk (fun hh => by have := hZE _ hh; omega)
  replace Y := dG Y hkk (fun hh => by have := hZE _ hh; omega)
  replace Z := dG Z hkk (fun hh => by have := hZE _ hh; omega)
  replace R := dG R hkk (fun hh => by have := hZE _ hh; omega)
  replace hw188 := hw188.trans (hbB.mono (show w.heap.size ≤ w.heap.size + 4 by omega))
  have O := Lib.hid (OwnVals.kept0 hO1 (fun q hq => .inl (hq.elim False.elim (HS.out q))) hw188)
  clear hO1 hat hbB hkk hZE hgL
  try clear hHeld
  refine hK.out _ _ (⟨V.out.cell 5, d8 Y ((fun b o hlt => hw188.cell (p := ⟨b, o, none⟩) hlt))⟩) (fun hHeld => ?_)
  clear hK K
  refine rdT1 (i := 13) (fun K hK => ?_)
  refine step_append_none (by rfl) _ _ (by rfl) (O.out.now (fun q hq => (hw188).block q hq)) (by rfl) (by rfl) ?_
  try clear hHeld
  refine hK.out _ _ (⟨V.out.cell 5, d8 Y ((fun b o hlt => hw188.cell (p := ⟨b, o, none⟩) hlt))⟩) (fun hHeld => ?_)
  clear hK K
  refine tkT (i := 14) (v := ?k257) ?_
  simp only [put_laws2]
  refine rdTL (i := 15) (fun K hK => ?_)
  have cV_5 : w1O.cell? ⟨w.heap.size, 5, none⟩ = some (.slice none 0 0) := V.out.cell 5
  have fV_5 := V.out.free 5
  go_simp
  clear cV_5 fV_5
  obtain ⟨wd258, hE259⟩ : ∃ ww, ww = w1O.setCell ⟨w.heap.size, 5, none⟩ (.slice AqO 1 cqO) := ⟨_, rfl⟩
  rw [← hE259]
  replace Y := dF Y hE259 (by omega)
  replace Z := dF Z hE259 (by omega)
  replace R := dF R hE259 (by omega)
  replace V : Hid (Has wd258 (w.heap.size) 34 #[.int .i64 v.kind, .bool v.bool, .int .i64 v.num, .string ⟨v.str.toArray⟩, .int .i64 v.id, .slice AqO 1 cqO, .slice none 0 0, .slice A3 v.rest.length c3]) := Lib.hid (by simpa using dS V hE259)
  replace O := kF O hE259 (by omega)
  replace hw188 := tF hw188 hE259 (by omega)
  clear hE259
  try clear hHeld
  refine hK.out _ _ ?_
  clear hK K
  refine wpAnyT_done (by kernel_rfl) ?_ _
  try clear hHeld
  go_wp2_with fail
  go_meet
  exact ⟨AqO, cqO, V.out, Y.out, Z.out, R.out, OwnVals.kept0 (O.out.now (fun q hq => (hw188).block q hq)) (fun q hq => .inl (hq.elim False.elim (HS.out q))) hw188, hw188⟩
 case rest =>
  clear V Y Z R
  obtain ⟨AqO, cqO, V, Y, Z, R, hO, hb⟩ := hcut
  replace V := Lib.hid V
  replace Y := Lib.hid Y
  replace Z := Lib.hid Z
  replace R := Lib.hid R
  have O := Lib.hid (hO)
  clear hO
  obtain ⟨L7, hL1, hL2, hL3⟩ : ∃ L, wc.heap.size ≤ L ∧ w.heap.size + 4 ≤ L ∧ L ≤ wc.heap.size := ⟨wc.heap.size, Nat.le_refl _, by have := R.out.here; omega, Nat.le_refl _⟩
  have LL := Lib.hid ((show Kept (fun _ => True) wc L7 L7 from ⟨trivial, fun _ _ => trivial, hL3⟩))
  clear hL3
  go_upto_region 7 with fail
  go_cut [] from 56 to 70 (fun wx => ∃ (A : Option Addr) (c : Nat), Has wx w.heap.size 34 #[.int .i64 v.kind, .bool v.bool, .int .i64 v.num, .string ⟨v.str.toArray⟩, .int .i64 v.id, .slice AqO 1 cqO, .slice A 1 c, .slice A3 v.rest.length c3] ∧ Has wx (w.heap.size + 1) 34 #[.int .i64 k.kind, .bool k.bool, .int .i64 k.num, .string ⟨k.str.toArray⟩, .int .i64 k.id, .slice K1 k.keys.length d1, .slice K2 k.items.length d2, .slice K3 k.rest.length d3] ∧ Has wx (w.heap.size + 1 + 1) 34 #[.int .i64 t.kind, .bool t.bool, .int .i64 t.num, .string ⟨t.str.toArray⟩, .int .i64 t.id, .slice T1 t.keys.length e1, .slice T2 t.items.length e2, .slice T3 t.rest.length e3] ∧ Has wx (w.heap.size + 1 + 1 + 1) 34 #[.int .i64 0, .bool false, .int .i64 0, .string ⟨#[]⟩, .int .i64 0, .slice none 0 0, .slice none 0 0, .slice none 0 0] ∧ (OVs w (w.heap.size + 4) (fun b => False ∨ S b) (.slice AqO 1 cqO) [k] wx ∧ OVs w L7 (fun b => False ∨ S b) (.slice A 1 c) [t] wx) ∧ Below w.heap.size w wx)
  case first =>
   have cV_6 : wc.cell? ⟨w.heap.size, 6, none⟩ = some (.slice none 0 0) := V.out.cell 6
   obtain ⟨cZ_0, cZ_1, cZ_2, cZ_3, cZ_4, cZ_5, cZ_6, cZ_7⟩ := Z.out.c8
   refine wp_region_T (S := (fun w' => w'.cell? ⟨w.heap.size, 6, none⟩ = some (.slice none 0 0) ∧ w'.cell? ⟨w.heap.size + 1 + 1, 0, none⟩ = some (.int .i64 t.kind) ∧ w'.cell? ⟨w.heap.size + 1 + 1, 1, none⟩ = some (.bool t.bool) ∧ w'.cell? ⟨w.heap.size + 1 + 1, 2, none⟩ = some (.int .i64 t.num) ∧ w'.cell? ⟨w.heap.size + 1 + 1, 3, none⟩ = some (.string ⟨t.str.toArray⟩) ∧ w'.cell? ⟨w.heap.size + 1 + 1, 4, none⟩ = some (.int .i64 t.id) ∧ w'.cell? ⟨w.heap.size + 1 + 1, 5, none⟩ = some (.slice T1 t.keys.length e1) ∧ w'.cell? ⟨w.heap.size + 1 + 1, 6, none⟩ = some (.slice T2 t.items.length e2) ∧ w'.cell? ⟨w.heap.size + 1 + 1, 7, none⟩ = some (.slice T3 t.rest.length e3) ∧ (∀ (b o : Nat), b < w.heap.size → w'.cell? ⟨b, o, none⟩ = w.cell? ⟨b, o, none⟩))) (fun j => j == 15) (by kernel_rfl) ⟨cV_6, cZ_0, cZ_1, cZ_2, cZ_3, cZ_4, cZ_5, cZ_6, cZ_7, (fun b o hlt => hb.cell (p := ⟨b, o, none⟩) hlt)⟩ (fun hHeld => ?_)
   clear cV_6 cZ_0 cZ_1 cZ_2 cZ_3 cZ_4 cZ_5 cZ_6 cZ_7
   have hb260 : Below wc.heap.size wc (wc.drew) := (Below.refl _ _).drew
   replace V := dB V hb260
   replace Y := dB Y hb260
   replace Z := dB Z hb260
   replace R := dB R hb260
   replace O := dK O hb260
   replace LL := dK LL hb260
   replace hb := dT hb hb260
   clear hb260
   generalize wc.drew = wd261 at *
   refine tkT (i := 1) (v := ?k262) ?_
   simp only [put_laws2]
   refine tkT (i := 2) (v := ?k263) ?_
   simp only [put_laws2]
   refine tkT (i := 3) (v := ?k264) ?_
   simp only [put_laws2]
   refine tkT (i := 4) (v := ?k265) ?_
   simp only [put_laws2]
   refine tkT (i := 6) (v := ?k266) ?_
   simp only [put_laws2]
   refine tkT (i := 9) (v := ?k267) ?_
   simp only [put_laws2]
   refine tkT (i := 10) (v := ?k268) ?_
   simp only [put_laws2]
   refine tkT (i := 11) (v := ?k269) ?_
   simp only [put_laws2]
   refine tkT (i := 12) (v := ?k270) ?_
   simp only [put_laws2]
   refine wpAnyT_ready (rs := [0, 7]) (by kernel_rfl) (by simp) ?_
   refine AllReadyT.cons rfl (fun K hK => ?_) (AllReadyT.cons rfl (fun K hK => ?_) (AllReadyT.nil))
   ·
    skip
    go_simp
    have hO0 := OwnVals.empty wd261 (L7) (LL.out.le)
    obtain ⟨gE, hgE⟩ : ∃ g, g = wd261.heap.size := ⟨_, rfl⟩
    rw [← hgE] at hO0
    have hb271 : Below wd261.heap.size wd261 (wd261.alloc (.cells #[] 34)) := (below_al (Below.refl _ _) (Nat.le_refl _) _)
    replace V := dB V hb271
    replace Y := dB Y hb271
    replace Z := dB Z hb271
    replace R := dB R hb271
    replace O := dK O hb271
    replace LL := dK LL hb271
    replace hb := dT hb hb271
    clear hb271
    generalize wd261.alloc (.cells #[] 34) = wd272 at *
    have hZE : ∀ q, (Value.slice (some ⟨gE, 0, none⟩) 0 0).ownBlock = some q → q = gE := fun q h => by injection h with h; exact h.symm
    have hgL := (hO0.lt gE rfl).1
    have P := Lib.hid (OwnVals.kept0 hO0 (fun _ hq => hq.elim) hb)
    clear hO0
    simp only [← hgE]
    clear hgE
    try clear hHeld
    refine hK.out _ _ (⟨V.out.cell 6, d8 Z ((fun b o hlt => hb.cell (p := ⟨b, o, none⟩) hlt))⟩) (fun hHeld => ?_)
    clear hK K
    refine wpAnyT_ready (rs := [5, 7]) (by kernel_rfl) (by simp) ?_
    refine AllReadyT.cons rfl (fun K hK => ?_) (AllReadyT.cons rfl (fun K hK => ?_) (AllReadyT.nil))
    ·
     skip
     refine step_append_none (by rfl) _ _ (by rfl) (P.out.now (fun q hq => (hb).block q hq)) (by rfl) (by rfl) ?_
     try clear hHeld
     refine hK.out _ _ (⟨V.out.cell 6, d8 Z ((fun b o hlt => hb.cell (p := ⟨b, o, none⟩) hlt))⟩) (fun hHeld => ?_)
     clear hK K
     refine rdT1 (i := 7) (fun K hK => ?_)
     go_simp
     obtain ⟨wd274, hE275⟩ : ∃ ww, ww = wd272.alloc (.cells #[.int .i64 t.kind, .bool t.bool, .int .i64 t.num, .string ⟨t.str.toArray⟩, .int .i64 t.id, .slice T1 t.keys.length e1, .slice T2 t.items.length e2, .slice T3 t.rest.length e3] 34) := ⟨_, rfl⟩
     rw [← hE275]
     have hb273 := aB hE275
     have N := aN hE275
     clear hE275
     have hl277 := V.out.here
     have hl278 := Y.out.here
     have hl279 := Z.out.here
     have hl280 := R.out.here
     have hl281 := O.out.le
     have hl282 := LL.out.le
     have hl283 := P.out.le
     have hl284 := hb.size
     replace V := dB V hb273
     replace Y := dB Y hb273
     replace Z := dB Z hb273
     replace R := dB R hb273
     replace O := dK O hb273
     replace LL := dK LL hb273
     replace P := dK P hb273
     replace hb := dT hb hb273
     clear hb273
     generalize wd272.heap.size = g276 at *
     try clear hHeld
     refine hK.out _ _ (⟨V.out.cell 6, d8 Z ((fun b o hlt => hb.cell (p := ⟨b, o, none⟩) hlt))⟩) (fun hHeld => ?_)
     clear hK K
     refine rdT1 (i := 8) (fun K hK => ?_)
     refine step_append_vals (by rfl) _ _ (by rfl) (P.out.now (fun q hq => (hb).block q hq)) (by rfl) N.out (by rfl) (HZ.out.on0 HS.out hb).rd (fun q hq => ⟨Nat.lt_of_lt_of_le (HS.out q hq) (hb).size, fun e => by have := HS.out q hq; have := (P.out.now (fun q hq => (hb).block q hq)).lt q e; omega⟩) (by simp) (LL.out.le) ?_
     intro v1 w1P hO1 hat hbB hkk
     obtain ⟨AqP, cqP, rfl⟩ := hO1.form
     simp only [List.nil_append, List.length_singleton] at hO1
     clear P
     clear N
     replace V := dG V hkk (fun hh => by have := hZE _ hh; omega)
     replace Y := dG Y hkk (fun hh => by have := hZE _ hh; omega)
     replace Z := dG Z hkk (fun hh => by have := hZE _ hh; omega)
     replace R := dG R hkk (fun hh => by have := hZE _ hh; omega)
     replace O := Lib.hid (O.out.from0 hbB (show wc.heap.size ≤ L7 by omega))
     replace LL := Lib.hid (LL.out.from0 hbB (show L7 ≤ L7 by omega))
     replace hb := hb.trans (hbB.mono (show w.heap.size ≤ L7 by omega))
     have P := Lib.hid (OwnVals.kept0 hO1 (fun q hq => .inl (hq.elim False.elim (HS.out q))) hb)
     clear hO1 hat hbB hkk hZE hgL
     try clear hHeld
     refine hK.out _ _ (⟨V.out.cell 6, d8 Z ((fun b o hlt => hb.cell (p := ⟨b, o, none⟩) hlt))⟩) (fun hHeld => ?_)
     clear hK K
     refine rdT1 (i := 13) (fun K hK => ?_)
     refine step_append_none (by rfl) _ _ (by rfl) (P.out.now (fun q hq => (hb).block q hq)) (by rfl) (by rfl) ?_
     try clear hHeld
     refine hK.out _ _ (⟨V.out.cell 6, d8 Z ((fun b o hlt => hb.cell (p := ⟨b, o, none⟩) hlt))⟩) (fun hHeld => ?_)
     clear hK K
     refine tkT (i := 14) (v := ?k285) ?_
     simp only [put_laws2]
     refine rdTL (i := 15) (fun K hK => ?_)
     have cV_6 : w1P.cell? ⟨w.heap.size, 6, none⟩ = some (.slice none 0 0) := V.out.cell 6
     have fV_6 := V.out.free 6
     go_simp
     clear cV_6 fV_6
     obtain ⟨wd286, hE287⟩ : ∃ ww, ww = w1P.setCell ⟨w.heap.size, 6, none⟩ (.slice AqP 1 cqP) := ⟨_, rfl⟩
     rw [← hE287]
     replace Y := dF Y hE287 (by omega)
     replace Z := dF Z hE287 (by omega)
     replace R := dF R hE287 (by omega)
     replace V : Hid (Has wd286 (w.heap.size) 34 #[.int .i64 v.kind, .bool v.bool, .int .i64 v.num, .string ⟨v.str.toArray⟩, .int .i64 v.id, .slice AqO 1 cqO, .slice AqP 1 cqP, .slice A3 v.rest.length c3]) := Lib.hid (by simpa using dS V hE287)
     replace O := kF O hE287 (by omega)
     replace LL := kF LL hE287 (by omega)
     replace P := kF P hE287 (by omega)
     replace hb := tF hb hE287 (by omega)
     clear hE287
     try clear hHeld
     refine hK.out _ _ ?_
     clear hK K
     refine wpAnyT_done (by kernel_rfl) ?_ _
     try clear hHeld
     go_wp2_with fail
     go_meet
     exact ⟨AqP, cqP, V.out, Y.out, Z.out, R.out, ⟨O.out.now, P.out.now⟩, hb⟩
    skip
    go_simp
    obtain ⟨wd289, hE290⟩ : ∃ ww, ww = wd272.alloc (.cells #[.int .i64 t.kind, .bool t.bool, .int .i64 t.num, .string ⟨t.str.toArray⟩, .int .i64 t.id, .slice T1 t.keys.length e1, .slice T2 t.items.length e2, .slice T3 t.rest.length e3] 34) := ⟨_, rfl⟩
    rw [← hE290]
    have hb288 := aB hE290
    have N := aN hE290
    clear hE290
    have hl292 := V.out.here
    have hl293 := Y.out.here
    have hl294 := Z.out.here
    have hl295 := R.out.here
    have hl296 := O.out.le
    have hl297 := LL.out.le
    have hl298 := P.out.le
    have hl299 := hb.size
    replace V := dB V hb288
    replace Y := dB Y hb288
    replace Z := dB Z hb288
    replace R := dB R hb288
    replace O := dK O hb288
    replace LL := dK LL hb288
    replace P := dK P hb288
    replace hb := dT hb hb288
    clear hb288
    generalize wd272.heap.size = g291 at *
    try clear hHeld
    refine hK.out _ _ (⟨V.out.cell 6, d8 Z ((fun b o hlt => hb.cell (p := ⟨b, o, none⟩) hlt))⟩) (fun hHeld => ?_)
    clear hK K
    refine rdT1 (i := 5) (fun K hK => ?_)
    refine step_append_none (by rfl) _ _ (by rfl) (P.out.now (fun q hq => (hb).block q hq)) (by rfl) (by rfl) ?_
    try clear hHeld
    refine hK.out _ _ (⟨V.out.cell 6, d8 Z ((fun b o hlt => hb.cell (p := ⟨b, o, none⟩) hlt))⟩) (fun hHeld => ?_)
    clear hK K
    refine rdT1 (i := 8) (fun K hK => ?_)
    refine step_append_vals (by rfl) _ _ (by rfl) (P.out.now (fun q hq => (hb).block q hq)) (by rfl) N.out (by rfl) (HZ.out.on0 HS.out hb).rd (fun q hq => ⟨Nat.lt_of_lt_of_le (HS.out q hq) (hb).size, fun e => by have := HS.out q hq; have := (P.out.now (fun q hq => (hb).block q hq)).lt q e; omega⟩) (by simp) (LL.out.le) ?_
    intro v1 w1P hO1 hat hbB hkk
    obtain ⟨AqP, cqP, rfl⟩ := hO1.form
    simp only [List.nil_append, List.length_singleton] at hO1
    clear P
    clear N
    replace V := dG V hkk (fun hh => by have := hZE _ hh; omega)
    replace Y := dG Y hkk (fun hh => by have := hZE _ hh; omega)
    replace Z := dG Z hkk (fun hh => by have := hZE _ hh; omega)
    replace R := dG R hkk (fun hh => by have := hZE _ hh; omega)
    replace O := Lib.hid (O.out.from0 hbB (show wc.heap.size ≤ L7 by omega))
    replace LL := Lib.hid (LL.out.from0 hbB (show L7 ≤ L7 by omega))
    replace hb := hb.trans (hbB.mono (show w.heap.size ≤ L7 by omega))
    have P := Lib.hid (OwnVals.kept0 hO1 (fun q hq => .inl (hq.elim False.elim (HS.out q))) hb)
    clear hO1 hat hbB hkk hZE hgL
    try clear hHeld
    refine hK.out _ _ (⟨V.out.cell 6, d8 Z ((fun b o hlt => hb.cell (p := ⟨b, o, none⟩) hlt))⟩) (fun hHeld => ?_)
    clear hK K
    refine rdT1 (i := 13) (fun K hK => ?_)
    refine step_append_none (by rfl) _ _ (by rfl) (P.out.now (fun q hq => (hb).block q hq)) (by rfl) (by rfl) ?_
    try clear hHeld
    refine hK.out _ _ (⟨V.out.cell 6, d8 Z ((fun b o hlt => hb.cell (p := ⟨b, o, none⟩) hlt))⟩) (fun hHeld => ?_)
    clear hK K
    refine tkT (i := 14) (v := ?k300) ?_
    simp only [put_laws2]
    refine rdTL (i := 15) (fun K hK => ?_)
    have cV_6 : w1P.cell? ⟨w.heap.size, 6, none⟩ = some (.slice none 0 0) := V.out.cell 6
    have fV_6 := V.out.free 6
    go_simp
    clear cV_6 fV_6
    obtain ⟨wd301, hE302⟩ : ∃ ww, ww = w1P.setCell ⟨w.heap.size, 6, none⟩ (.slice AqP 1 cqP) := ⟨_, rfl⟩
    rw [← hE302]
    replace Y := dF Y hE302 (by omega)
    replace Z := dF Z hE302 (by omega)
    replace R := dF R hE302 (by omega)
    replace V : Hid (Has wd301 (w.heap.size) 34 #[.int .i64 v.kind, .bool v.bool, .int .i64 v.num, .string ⟨v.str.toArray⟩, .int .i64 v.id, .slice AqO 1 cqO, .slice AqP 1 cqP, .slice A3 v.rest.length c3]) := Lib.hid (by simpa using dS V hE302)
    replace O := kF O hE302 (by omega)
    replace LL := kF LL hE302 (by omega)
    replace P := kF P hE302 (by omega)
    replace hb := tF hb hE302 (by omega)
    clear hE302
    try clear hHeld
    refine hK.out _ _ ?_
    clear hK K
    refine wpAnyT_done (by kernel_rfl) ?_ _
    try clear hHeld
    go_wp2_with fail
    go_meet
    exact ⟨AqP, cqP, V.out, Y.out, Z.out, R.out, ⟨O.out.now, P.out.now⟩, hb⟩
   skip
   go_simp
   obtain ⟨wd304, hE305⟩ : ∃ ww, ww = wd261.alloc (.cells #[.int .i64 t.kind, .bool t.bool, .int .i64 t.num, .string ⟨t.str.toArray⟩, .int .i64 t.id, .slice T1 t.keys.length e1, .slice T2 t.items.length e2, .slice T3 t.rest.length e3] 34) := ⟨_, rfl⟩
   rw [← hE305]
   have hb303 := aB hE305
   have N := aN hE305
   clear hE305
   have hl307 := V.out.here
   have hl308 := Y.out.here
   have hl309 := Z.out.here
   have hl310 := R.out.here
   have hl311 := O.out.le
   have hl312 := LL.out.le
   have hl313 := hb.size
   replace V := dB V hb303
   replace Y := dB Y hb303
   replace Z := dB Z hb303
   replace R := dB R hb303
   replace O := dK O hb303
   replace LL := dK LL hb303
   replace hb := dT hb hb303
   clear hb303
   generalize wd261.heap.size = g306 at *
   try clear hHeld
   refine hK.out _ _ (⟨V.out.cell 6, d8 Z ((fun b o hlt => hb.cell (p := ⟨b, o, none⟩) hlt))⟩) (fun hHeld => ?_)
   clear hK K
   refine rdT1 (i := 0) (fun K hK => ?_)
   go_simp
   have hO0 := OwnVals.empty wd304 (L7) (LL.out.le)
   obtain ⟨gE, hgE⟩ : ∃ g, g = wd304.heap.size := ⟨_, rfl⟩
   rw [← hgE] at hO0
   have hb314 : Below wd304.heap.size wd304 (wd304.alloc (.cells #[] 34)) := (below_al (Below.refl _ _) (Nat.le_refl _) _)
   replace V := dB V hb314
   replace Y := dB Y hb314
   replace Z := dB Z hb314
   replace R := dB R hb314
   replace N := dB N hb314
   replace O := dK O hb314
   replace LL := dK LL hb314
   replace hb := dT hb hb314
   clear hb314
   generalize wd304.alloc (.cells #[] 34) = wd315 at *
   have hZE : ∀ q, (Value.slice (some ⟨gE, 0, none⟩) 0 0).ownBlock = some q → q = gE := fun q h => by injection h with h; exact h.symm
   have hgL := (hO0.lt gE rfl).1
   have P := Lib.hid (OwnVals.kept0 hO0 (fun _ hq => hq.elim) hb)
   clear hO0
   simp only [← hgE]
   clear hgE
   try clear hHeld
   refine hK.out _ _ (⟨V.out.cell 6, d8 Z ((fun b o hlt => hb.cell (p := ⟨b, o, none⟩) hlt))⟩) (fun hHeld => ?_)
   clear hK K
   refine rdT1 (i := 5) (fun K hK => ?_)
   refine step_append_none (by rfl) _ _ (by rfl) (P.out.now (fun q hq => (hb).block q hq)) (by rfl) (by rfl) ?_
   try clear hHeld
   refine hK.out _ _ (⟨V.out.cell 6, d8 Z ((fun b o hlt => hb.cell (p := ⟨b, o, none⟩) hlt))⟩) (fun hHeld => ?_)
   clear hK K
   refine rdT1 (i := 8) (fun K hK => ?_)
   refine step_append_vals (by rfl) _ _ (by rfl) (P.out.now (fun q hq => (hb).block q hq)) (by rfl) N.out (by rfl) (HZ.out.on0 HS.out hb).rd (fun q hq => ⟨Nat.lt_of_lt_of_le (HS.out q hq) (hb).size, fun e => by have := HS.out q hq; have := (P.out.now (fun q hq => (hb).block q hq)).lt q e; omega⟩) (by simp) (LL.out.le) ?_
   intro v1 w1P hO1 hat hbB hkk
   obtain ⟨AqP, cqP, rfl⟩ := hO1.form
   simp only [List.nil_append, List.length_singleton] at hO1
   clear P
   clear N
   replace V := dG V hkk (fun hh => by have := hZE _ hh; omega)
   replace Y := dG Y hkk (fun hh => by have := hZE _ hh; omega)
   replace Z := dG Z hkk (fun hh => by have := hZE _ hh; omega)
   replace R := dG R hkk (fun hh => by have := hZE _ hh; omega)
   replace O := Lib.hid (O.out.from0 hbB (show wc.heap.size ≤ L7 by omega))
   replace LL := Lib.hid (LL.out.from0 hbB (show L7 ≤ L7 by omega))
   replace hb := hb.trans (hbB.mono (show w.heap.size ≤ L7 by omega))
   have P := Lib.hid (OwnVals.kept0 hO1 (fun q hq => .inl (hq.elim False.elim (HS.out q))) hb)
   clear hO1 hat hbB hkk hZE hgL
   try clear hHeld
   refine hK.out _ _ (⟨V.out.cell 6, d8 Z ((fun b o hlt => hb.cell (p := ⟨b, o, none⟩) hlt))⟩) (fun hHeld => ?_)
   clear hK K
   refine rdT1 (i := 13) (fun K hK => ?_)
   refine step_append_none (by rfl) _ _ (by rfl) (P.out.now (fun q hq => (hb).block q hq)) (by rfl) (by rfl) ?_
   try clear hHeld
   refine hK.out _ _ (⟨V.out.cell 6, d8 Z ((fun b o hlt => hb.cell (p := ⟨b, o, none⟩) hlt))⟩) (fun hHeld => ?_)
   clear hK K
   refine tkT (i := 14) (v := ?k316) ?_
   simp only [put_laws2]
   refine rdTL (i := 15) (fun K hK => ?_)
   have cV_6 : w1P.cell? ⟨w.heap.size, 6, none⟩ = some (.slice none 0 0) := V.out.cell 6
   have fV_6 := V.out.free 6
   go_simp
   clear cV_6 fV_6
   obtain ⟨wd317, hE318⟩ : ∃ ww, ww = w1P.setCell ⟨w.heap.size, 6, none⟩ (.slice AqP 1 cqP) := ⟨_, rfl⟩
   rw [← hE318]
   replace Y := dF Y hE318 (by omega)
   replace Z := dF Z hE318 (by omega)
   replace R := dF R hE318 (by omega)
   replace V : Hid (Has wd317 (w.heap.size) 34 #[.int .i64 v.kind, .bool v.bool, .int .i64 v.num, .string ⟨v.str.toArray⟩, .int .i64 v.id, .slice AqO 1 cqO, .slice AqP 1 cqP, .slice A3 v.rest.length c3]) := Lib.hid (by simpa using dS V hE318)
   replace O := kF O hE318 (by omega)
   replace LL := kF LL hE318 (by omega)
   replace P := kF P hE318 (by omega)
   replace hb := tF hb hE318 (by omega)
   clear hE318
   try clear hHeld
   refine hK.out _ _ ?_
   clear hK K
   refine wpAnyT_done (by kernel_rfl) ?_ _
   try clear hHeld
   go_wp2_with fail
   go_meet
   exact ⟨AqP, cqP, V.out, Y.out, Z.out, R.out, ⟨O.out.now, P.out.now⟩, hb⟩
  case rest =>
   clear V Y Z R O LL
   obtain ⟨AqP, cqP, V, Y, Z, R, ⟨hO, hP⟩, hb⟩ := hcut
   replace V := Lib.hid V
   replace R := Lib.hid R
   have O := Lib.hid (OwnVals.kept0 (hO (fun q hq => (hb).block q hq)) (fun q hq => .inl (hq.elim False.elim (HS.out q))) hb)
   have P := Lib.hid (OwnVals.kept0 (OwnVals.low (hP (fun q hq => (hb).block q hq)) hL2) (fun q hq => .inl (hq.elim False.elim (HS.out q))) hb)
   clear hO hP hL1 hL2
   obtain ⟨cV_0, cV_1, cV_2, cV_3, cV_4, cV_5, cV_6, cV_7⟩ := V.out.c8
   go_upto_region 8 with fail
   go_wp2_with (refine wpList_store_row rfl 34 _ _ rfl (w.heap.size + 1 + 1 + 1) _ rfl rfl 34 _ R.out (by kernel_rfl) rfl (by simp [Value.oneCell']) ?_)
   clear cV_0 cV_1 cV_2 cV_3 cV_4 cV_5 cV_6 cV_7
   obtain ⟨wd319, hE320⟩ : ∃ ww, ww = wc.setRow (w.heap.size + 1 + 1 + 1) #[.int .i64 v.kind, .bool v.bool, .int .i64 v.num, .string ⟨v.str.toArray⟩, .int .i64 v.id, .slice AqO 1 cqO, .slice AqP 1 cqP, .slice A3 v.rest.length c3] := ⟨_, rfl⟩
   rw [← hE320]
   replace V := dR V hE320 (by omega)
   replace R := dO R hE320
   replace O := kR O hE320 (by omega)
   replace P := kR P hE320 (by omega)
   replace hb := tR hb hE320 (by omega)
   clear hE320
   obtain ⟨cR_0, cR_1, cR_2, cR_3, cR_4, cR_5, cR_6, cR_7⟩ := R.out.c8
   exact bodyPost_ret (v := .agg #[.int .i64 v.kind, .bool v.bool, .int .i64 v.num, .string ⟨v.str.toArray⟩, .int .i64 v.id, .slice AqO 1 cqO, .slice AqP 1 cqP, .slice A3 v.rest.length c3]) (by simp [results, Try.results68, go_sem, cR_0, cR_1, cR_2, cR_3, cR_4, cR_5, cR_6, cR_7]) rfl (⟨_, _, _, by rw [Hp.out]; rfl, by rw [Hp.out]; exact putP (HV.out.on0 HS.out hb) (O.out.now (fun q hq => (hb).block q hq)) (P.out.now (fun q hq => (hb).block q hq)) (by omega) (by omega) (fun q hq => hq.elim False.elim id) (fun q hq => hq.elim False.elim id) (by simp), hb⟩)
end Go.Proofs.Ytgeapglanckjpaa

/- Plain: what fits a type fits its equals; a canonical root is valid. Plain: the unknown parts of a value that fits. Plain: the canonical bytes of a root; that they tell the root. A region that draws whose last operations may spoil what its loads read: loads first, S shown anew behind all but those last ones. No condition. -/
import Derived.Test.YtlamhkffnlgofaaGreatDoorHAJ
import Derived.Test.YtlamhkffnlgofaaGreatDoorHAD
import Derived.Test.YtlamhkffnlgofaaGreatDoorHAC
import Derived.Test.YtlamhkffnlgofaaGreatDoorHAA
import Derived.Test.YtlamhkffnlgofaaGreatDoorHAF
set_option maxHeartbeats 1600000
namespace Go.Proofs.YtlamhkffnlgofaaGreatDoor
theorem ctypAt_nat (ts : List Typ) (k : Nat) : typAt ts (k : Int) = ts[k]? := by unfold typAt; rw [if_pos (by omega), Int.toNat_natCast]
structure Alike0 (x y : Typ) : Prop where
 kind : x.kind = y.kind
 low : x.low = y.low
 high : x.high = y.high
 max : x.max = y.max
 opn : x.opn = y.opn
 syms : x.syms.map Prod.fst = y.syms.map Prod.fst
 mems : x.mems.map Mem.id = y.mems.map Mem.id
theorem Alike.zero {x y : Typ} (h : Alike x y) : Alike0 x y := ⟨h.1, h.2, h.3, h.4, h.5, h.6, by
 have := congrArg (List.map (fun q : Int × Bool × Bool × Val => q.1)) h.mems
 simpa [memK, List.map_map, Function.comp_def] using this⟩
theorem Alike0.len {x y : Typ} (h : Alike0 x y) : x.mems.length = y.mems.length := by have := congrArg List.length h.mems; simpa using this
def Closed0 (ts us : List Typ) (R : Nat → Nat → Prop) : Prop :=
 ∀ i k, R i k → ∃ x y, ts[i]? = some x ∧ us[k]? = some y ∧ Alike0 x y ∧ ∀ (j a b : Nat), (outs x)[j]? = some a → (outs y)[j]? = some b → R a b
theorem closed_zero {ts us : List Typ} {R : Nat → Nat → Prop} (h : Closed ts us R) : Closed0 ts us R := fun i k hr => by
 obtain ⟨x, y, hx, hy, ha, hj⟩ := h i k hr
 exact ⟨x, y, hx, hy, ha.zero, hj⟩
theorem memIdx_alike {x y : Typ} (h : Alike0 x y) (id : Int) : memIdx x id = memIdx y id := by unfold memIdx; rw [h.mems]
theorem symIdx_alike {x y : Typ} (h : Alike0 x y) (id : Int) : symIdx x id = symIdx y id := by unfold symIdx; rw [h.syms]
theorem restB_alike {x y : Typ} (h : Alike0 x y) : ∀ (rs : List Raw) (p : Option Int), restB x rs p = restB y rs p
 | [], p => by rw [restB, restB]
 | r :: rs, p => by rw [restB, restB, memIdx_alike h, restB_alike h rs]
def Held (ts : List Typ) : Prop := ∀ x ∈ ts, x.kind ≤ 9 ∧ 1 ≤ x.kind ∧ ∀ u ∈ usesL x, ∃ k : Nat, u = k ∧ k < ts.length
theorem held_of {ts : List Typ} (h : validE ts = 0) : Held ts := fun x hx => by
 obtain ⟨h1, h2, _⟩ := (valid_all h).2 x hx
 refine ⟨(form_kind h1).2, (form_kind h1).1, fun u hu => ?_⟩
 rw [List.all_eq_true] at h2
 exact inB_nat (h2 u hu)
theorem mem_uses (x : Typ) (m : Mem) (h : m ∈ x.mems) : m.ty ∈ usesL x := by unfold usesL; exact List.mem_append_left _ (List.mem_map_of_mem h)
theorem key_uses (x : Typ) (h : x.kind = 8) : x.key ∈ usesL x := by unfold usesL; simp [h]
theorem elem_uses (x : Typ) (h : 7 ≤ x.kind) : x.elem ∈ usesL x := by unfold usesL; simp [h]
structure Uses2 (R : Nat → Nat → Prop) (x y : Typ) : Prop where
 mem : ∀ (j : Nat) (m n : Mem), x.mems[j]? = some m → y.mems[j]? = some n → ∃ a b : Nat, m.ty = a ∧ n.ty = b ∧ R a b
 key : x.kind = 8 → ∃ a b : Nat, x.key = a ∧ y.key = b ∧ R a b
 elem : 7 ≤ x.kind → ∃ a b : Nat, x.elem = a ∧ y.elem = b ∧ R a b
theorem uses2 {ts us : List Typ} {R : Nat → Nat → Prop} (gt : Held ts) (gu : Held us) {a b : Nat} {x y : Typ} (hx : ts[a]? = some x) (hy : us[b]? = some y) (ha : Alike0 x y) (hj : ∀ (j p q : Nat), (outs x)[j]? = some p → (outs y)[j]? = some q → R p q) : Uses2 R x y := by
 obtain ⟨kx, _, ux⟩ := gt x (List.mem_of_getElem? hx)
 obtain ⟨ky, _, uy⟩ := gu y (List.mem_of_getElem? hy)
 have hl : x.mems.length = y.mems.length := ha.len
 refine ⟨fun j m n hm hn => ?_, fun h8 => ?_, fun h7 => ?_⟩
 ·
  obtain ⟨p, hp, _⟩ := ux m.ty (mem_uses x m (List.mem_of_getElem? hm))
  obtain ⟨q, hq, _⟩ := uy n.ty (mem_uses y n (List.mem_of_getElem? hn))
  refine ⟨p, q, hp, hq, hj j p q ?_ ?_⟩
  ·
   rw [outs_eq kx]; unfold usesL
   rw [List.map_append, List.getElem?_append_left (by have := (List.getElem?_eq_some_iff.1 hm).1; simpa using this), List.map_map, List.getElem?_map, hm]
   simp [hp]
  rw [outs_eq ky]; unfold usesL
  rw [List.map_append, List.getElem?_append_left (by have := (List.getElem?_eq_some_iff.1 hn).1; simpa using this), List.map_map, List.getElem?_map, hn]
  simp [hq]
 ·
  have h8' : y.kind = 8 := ha.kind ▸ h8
  obtain ⟨p, hp, _⟩ := ux _ (key_uses x h8)
  obtain ⟨q, hq, _⟩ := uy _ (key_uses y h8')
  refine ⟨p, q, hp, hq, hj x.mems.length p q ?_ ?_⟩
  ·
   rw [outs_eq kx]; unfold usesL; rw [List.map_append, List.getElem?_append_right (by simp), if_pos h8]; simp [hp]
  rw [outs_eq ky, hl]; unfold usesL; rw [List.map_append, List.getElem?_append_right (by simp), if_pos h8']; simp [hq]
 have h7' : 7 ≤ y.kind := ha.kind ▸ h7
 obtain ⟨p, hp, _⟩ := ux _ (elem_uses x h7)
 obtain ⟨q, hq, _⟩ := uy _ (elem_uses y h7')
 refine ⟨p, q, hp, hq, hj (x.mems.length + (if x.kind = 8 then 1 else 0)) p q ?_ ?_⟩
 ·
  rw [outs_eq kx]; unfold usesL; rw [List.map_append, List.getElem?_append_right (by simp), if_pos h7]
  by_cases h8 : x.kind = 8 <;> simp [h8, hp]
 rw [outs_eq ky, hl, ha.kind]; unfold usesL; rw [List.map_append, List.getElem?_append_right (by simp), if_pos h7']
 by_cases h8 : y.kind = 8 <;> simp [h8, hq]
theorem fitZ_bis {ts us : List Typ} {pl : Bool} : ∀ (is : List Val) (ms ns : List Mem), ms.length = ns.length → (∀ (j : Nat) (m n : Mem), ms[j]? = some m → ns[j]? = some n → ∀ v ∈ is, fitV ts pl v m.ty = fitV us pl v n.ty) → fitZ ts pl is ms = fitZ us pl is ns
 | [], [], [], _, _ => by rw [fitZ, fitZ]
 | [], _ :: _, _ :: _, _, _ => by rw [fitZ, fitZ]
 | _ :: _, [], [], _, _ => by rw [fitZ, fitZ]
 | v :: is, m :: ms, n :: ns, hl, h => by
  rw [fitZ, fitZ, h 0 m n rfl rfl v (by simp), fitZ_bis is ms ns (by simpa using hl) fun j m' n' h1 h2 w hw => h (j + 1) m' n' (by simpa using h1) (by simpa using h2) w (by simp [hw])]
 | _, [], _ :: _, hl, _ => by simp at hl
 | _, _ :: _, [], hl, _ => by simp at hl
theorem fitH_bis {ts us : List Typ} {pl : Bool} (is : List Val) (t u : Int) (h : ∀ v ∈ is, fitV ts pl v t = fitV us pl v u) : fitH ts pl is t = fitH us pl is u := by
 cases is with
 | nil => rw [fitH, fitH]
 | cons v r => rw [fitH, fitH]; exact h v (by simp)
theorem fitL_bis {ts us : List Typ} {pl : Bool} (is : List Val) (t u : Int) (h : ∀ v ∈ is, fitV ts pl v t = fitV us pl v u) : fitL ts pl is t = fitL us pl is u := by
 rw [fitL_all, fitL_all, Bool.eq_iff_iff, List.all_eq_true, List.all_eq_true]
 exact ⟨fun h1 v hv => by rw [← h v hv]; exact h1 v hv, fun h1 v hv => by rw [h v hv]; exact h1 v hv⟩
theorem nodes_keys (v : Val) : nodesL v.keys < nodes v ∧ nodesL v.items < nodes v := by cases v; rw [nodes]; simp only [Val.keys, Val.items]; omega
theorem fit_rel {ts us : List Typ} {R : Nat → Nat → Prop} (gt : Held ts) (gu : Held us) (hR : Closed0 ts us R) (pl : Bool) : ∀ (n : Nat) (v : Val) (a b : Nat), nodes v ≤ n → R a b → fitV ts pl v a = fitV us pl v b
 | 0, v, a, b, hn, _ => by have := nodes_pos v; omega
 | n + 1, v, a, b, hn, h => by
  obtain ⟨x, y, hx, hy, ha, hj⟩ := hR a b h
  have hu := uses2 gt gu hx hy ha hj
  have hlt := nodes_keys v
  have ihk : ∀ w ∈ v.keys, ∀ c d : Nat, R c d → fitV ts pl w c = fitV us pl w d := fun w hw c d hb => fit_rel gt gu hR pl n w c d (by have := nodesL_mem _ w hw; omega) hb
  have ihi : ∀ w ∈ v.items, ∀ c d : Nat, R c d → fitV ts pl w c = fitV us pl w d := fun w hw c d hb => fit_rel gt gu hR pl n w c d (by have := nodesL_mem _ w hw; omega) hb
  have hL : 7 ≤ x.kind → fitL ts pl v.items x.elem = fitL us pl v.items y.elem := fun h7 => by
   obtain ⟨c, d, hc, hd, hcd⟩ := hu.elem h7
   rw [hc, hd]; exact fitL_bis _ _ _ fun w hw => ihi w hw c d hcd
  have hK : x.kind = 8 → fitL ts pl v.keys x.key = fitL us pl v.keys y.key := fun h8 => by
   obtain ⟨c, d, hc, hd, hcd⟩ := hu.key h8
   rw [hc, hd]; exact fitL_bis _ _ _ fun w hw => ihk w hw c d hcd
  have hZ : fitZ ts pl v.items x.mems = fitZ us pl v.items y.mems := fitZ_bis _ _ _ ha.len fun j m n hm hn w hw => by
   obtain ⟨c, d, hc, hd, hcd⟩ := hu.mem j m n hm hn
   rw [hc, hd]; exact ihi w hw c d hcd
  have hH : ∀ i : Nat, (match x.mems[i]? with | some m => fitH ts pl v.items m.ty | none => false) = (match y.mems[i]? with | some m => fitH us pl v.items m.ty | none => false) := fun i => by
   cases hm : x.mems[i]? with
   | none => rw [show y.mems[i]? = none by rw [List.getElem?_eq_none_iff] at hm ⊢; rw [← ha.len]; exact hm]
   | some m =>
    have hl : i < y.mems.length := by rw [← ha.len]; exact (List.getElem?_eq_some_iff.1 hm).1
    rw [List.getElem?_eq_getElem hl]
    obtain ⟨c, d, hc, hd, hcd⟩ := hu.mem i m _ hm (List.getElem?_eq_getElem hl)
    simp only
    rw [hc, hd]; exact fitH_bis _ _ _ fun w hw => ihi w hw c d hcd
  rw [fitV_eq, fitV_eq, ctypAt_nat, ctypAt_nat, hx, hy]
  simp only
  rw [ha.kind]
  congr 2
  unfold bodyR
  rw [ha.kind]
  dsimp only
  have hk9 := (gu y (List.mem_of_getElem? hy)).1
  by_cases h2 : y.kind = 2
  ·
   rw [if_pos h2, if_pos h2, ha.low, ha.high]
  rw [if_neg h2, if_neg h2]
  by_cases h3 : y.kind = 3
  ·
   rw [if_pos h3, if_pos h3, ha.max]
  rw [if_neg h3, if_neg h3]
  by_cases h4 : y.kind = 4
  ·
   rw [if_pos h4, if_pos h4, symIdx_alike ha, ha.opn]
  rw [if_neg h4, if_neg h4]
  by_cases h5 : y.kind = 5
  ·
   rw [if_pos h5, if_pos h5, ha.len, restB_alike ha, hZ]
  rw [if_neg h5, if_neg h5]
  by_cases h6 : y.kind = 6
  ·
   rw [if_pos h6, if_pos h6, memIdx_alike ha, ha.opn]
   cases memIdx y v.id with
   | none => rfl
   | some i => dsimp only; congr 2; exact hH i
  rw [if_neg h6, if_neg h6]
  by_cases h7 : y.kind = 7
  ·
   rw [if_pos h7, if_pos h7, ha.max, hL (by rw [ha.kind]; omega)]
  rw [if_neg h7, if_neg h7]
  by_cases h8 : y.kind = 8
  ·
   rw [if_pos h8, if_pos h8, ha.max, hL (by rw [ha.kind]; omega), hK (by rw [ha.kind]; exact h8)]
  rw [if_neg h8, if_neg h8]
  by_cases h9 : y.kind = 9
  ·
   rw [if_pos h9, if_pos h9, hL (by rw [ha.kind]; omega)]
  rw [if_neg h9, if_neg h9]
theorem fit_bis {ts us : List Typ} (gt : Held ts) (gu : Held us) (pl : Bool) (v : Val) {a b : Nat} (h : Bis ts us a b) : fitV ts pl v a = fitV us pl v b := fit_rel gt gu (closed_zero (bis_closed ts us)) pl (nodes v) v a b (Nat.le_refl _) h
/-! the canonical root is valid -/
theorem idsG_ren {c : UInt8} (hc : letB c = true) : ∀ (l : List Raw) (p : Option Int) (S S' : List (List UInt8)), idsG l p S = true → (∀ s ∈ S', ∃ j a : Int, p = some a ∧ 0 ≤ j ∧ j ≤ a ∧ s = nmC c j) → idsG (l.map fun s => (s.1, nmC c s.1)) p S' = true
 | [], p, S, S', _, _ => by simp [idsG]
 | r :: l, p, S, S', h, hS => by
  rw [idsG] at h
  simp only [Bool.and_eq_true] at h
  obtain ⟨h1, h2, _, _, h5⟩ := h
  have hr : 1 ≤ r.1 ∧ r.1 ≤ 1000 := by unfold freeB at h1; simpa using h1
  rw [List.map_cons, idsG]
  simp only [Bool.and_eq_true]
  refine ⟨h1, h2, ?_, nmC_name hc (by omega) (by omega), idsG_ren hc l _ _ _ h5 fun s hs => ?_⟩
  ·
   cases hcn : S'.contains (nmC c r.1) with
   | false => rfl
   | true =>
    obtain ⟨j, a, hp, hj, hja, he⟩ := hS _ (by simpa using hcn)
    have := nmC_inj (by omega) hj he
    subst hp
    unfold ltP at h2
    simp at h2
    omega
  rcases List.mem_append.1 hs with hs | hs
  ·
   obtain ⟨j, a, hp, hj, hja, he⟩ := hS s hs
   refine ⟨j, r.1, rfl, hj, ?_, he⟩
   subst hp
   unfold ltP at h2
   simp at h2
   omega
  rw [List.mem_singleton] at hs
  exact ⟨r.1, r.1, rfl, by omega, Int.le_refl _, hs⟩
theorem idsB_ren {c : UInt8} (hc : letB c = true) {l : List Raw} (h : idsB l = true) : idsB (l.map fun s => (s.1, nmC c s.1)) = true := by
 unfold idsB at h ⊢
 simp only [Bool.and_eq_true] at h
 rw [idsG_ren hc l none [] [] h.1 (by simp), List.length_map]
 simpa using h.2
theorem form_nil {x : Typ} (h : formB x = true) : (x.kind ≠ 2 → x.low = 0 ∧ x.high = 0) ∧ (¬ (x.kind = 3 ∨ x.kind = 7 ∨ x.kind = 8) → x.max = 0) ∧ (¬ (x.kind = 4 ∨ x.kind = 6) → x.opn = false) := by
 have hr := form_rest h
 have hk := form_kind h
 have e1 := congrArg Typ.low hr
 have e2 := congrArg Typ.high hr
 have e3 := congrArg Typ.max hr
 have e4 := congrArg Typ.opn hr
 unfold restT at e1 e2 e3 e4
 have hc : x.kind = 1 ∨ x.kind = 2 ∨ x.kind = 3 ∨ x.kind = 4 ∨ x.kind = 5 ∨ x.kind = 6 ∨ x.kind = 7 ∨ x.kind = 8 ∨ x.kind = 9 := by omega
 refine ⟨fun h1 => ?_, fun h1 => ?_, fun h1 => ?_⟩
 all_goals rcases hc with hk | hk | hk | hk | hk | hk | hk | hk | hk <;> simp [hk, typZ] at h1 e1 e2 e3 e4 ⊢ <;> first | assumption | exact ⟨e1, e2⟩
theorem sameZ_0C {x : Typ} (h : x = typZ) : sameZ x typZ = true := by subst h; decide
theorem form_ren {x : Typ} (h : formB x = true) (n : Nat) (ix : Nat → Nat) (hn : n ≤ 1000) : formB (renT n ix x) = true := by
 have hz := form_zero h
 have hk := form_kind h
 have hr := form_rest h
 have hf := h
 unfold formB at hf ⊢
 simp only [Bool.and_eq_true] at hf ⊢
 have hnm : nameB (nmC 84 (n : Int)) = true := nmC_name (by decide) (by omega) (by omega)
 have hname : (x.kind = 4 ∨ x.kind = 5 ∨ x.kind = 6) → (renT n ix x).name = nmC 84 n := fun hk4 => by
  show (if x.name = [] then [] else nmC 84 n) = _
  rw [if_neg (fun e => (hz.1.1 e) hk4)]
 refine ⟨hf.1, ?_, sameZ_0C ?_⟩
 ·
  have ho := hf.2.1
  unfold okT at ho ⊢
  show (if x.kind = 2 then _ else if x.kind = 3 then _ else if x.kind = 4 then nameB (renT n ix x).name && symB (x.syms.map renS) else if x.kind = 5 ∨ x.kind = 6 then nameB (renT n ix x).name && membersB (renT n ix x) else if x.kind = 7 ∨ x.kind = 8 then _ else _) = true
  by_cases h2 : x.kind = 2
  ·
   rw [if_pos h2] at ho ⊢; exact ho
  rw [if_neg h2] at ho ⊢
  by_cases h3 : x.kind = 3
  ·
   rw [if_pos h3] at ho ⊢; exact ho
  rw [if_neg h3] at ho ⊢
  by_cases h4 : x.kind = 4
  ·
   rw [if_pos h4] at ho ⊢
   rw [hname (.inl h4), hnm]
   unfold symB at ho ⊢
   simp only [Bool.and_eq_true] at ho ⊢
   exact ⟨trivial, by simpa using ho.2.1, idsB_ren (by decide) ho.2.2⟩
  rw [if_neg h4] at ho ⊢
  by_cases h5 : x.kind = 5 ∨ x.kind = 6
  ·
   rw [if_pos h5] at ho ⊢
   rw [hname (.inr h5), hnm]
   unfold membersB at ho ⊢
   simp only [Bool.and_eq_true] at ho ⊢
   have e1 : (renT n ix x).mems = x.mems.map (renM ix) := rfl
   have e2 : (renT n ix x).kind = x.kind := rfl
   rw [e1, e2, List.length_map, List.all_map]
   refine ⟨trivial, ?_, ho.2.2.1, ?_⟩
   ·
    exact ho.2.1
   have := idsB_ren (c := 102) (by decide) ho.2.2.2
   rw [List.map_map] at this ⊢
   exact this
  rw [if_neg h5] at ho ⊢
  exact ho
 obtain ⟨z1, z2, z3, z4, z5⟩ := hz
 have hc : x.kind = 1 ∨ x.kind = 2 ∨ x.kind = 3 ∨ x.kind = 4 ∨ x.kind = 5 ∨ x.kind = 6 ∨ x.kind = 7 ∨ x.kind = 8 ∨ x.kind = 9 := by omega
 have e1 := congrArg Typ.low hr
 have e2 := congrArg Typ.high hr
 have e3 := congrArg Typ.max hr
 have e4 := congrArg Typ.opn hr
 unfold restT at e1 e2 e3 e4 ⊢
 have e2k : (renT n ix x).kind = x.kind := rfl
 rw [e2k]
 rcases hc with hk | hk | hk | hk | hk | hk | hk | hk | hk
 all_goals
  simp [hk, typZ] at e1 e2 e3 e4 z1 z2 z3 z4 z5 ⊢
  simp [renT, hk, z1, z2, z3, z4, z5, e1, e2, e3, e4]
section
variable {ts : List Typ} (hv : validE ts = 0) {t : Nat} (ht : t < ts.length)
include hv ht
theorem can_at {n : Nat} {y : Typ} (h : (canT ts t)[n]? = some y) : ∃ a x, (ordN ts t)[n]? = some a ∧ ts[a]? = some x ∧ y = renT n (ixN ts t) x := by
 obtain ⟨hr, _, _⟩ := ord_spec (inside_of hv) ht
 have hl : n < (ordN ts t).length := by rw [← can_len]; exact (List.getElem?_eq_some_iff.1 h).1
 have hg := List.getElem?_eq_getElem hl
 have ha := (hr.lt _ (List.getElem_mem hl)).1
 rw [can_get ts t n _ hg] at h
 injection h with h
 refine ⟨_, ts[(ordN ts t)[n]], hg, List.getElem?_eq_getElem ha, ?_⟩
 rw [← h, List.getD_eq_getElem?_getD, List.getElem?_eq_getElem ha]; rfl
theorem ix_lt {a u : Nat} (ha : a ∈ ordN ts t) (hu : u ∈ outsAt ts a) : ixN ts t u < (canT ts t).length := by
 obtain ⟨_, _, hd⟩ := ord_spec (inside_of hv) ht
 rw [can_len]
 exact List.idxOf_lt_length_of_mem (hd a ha u hu)
theorem can_small : (canT ts t).length ≤ 32 := by
 obtain ⟨hr, _, _⟩ := ord_spec (inside_of hv) ht
 rw [can_len]
 have := hr.len
 have := (valid_all hv).1
 omega
theorem can_valid : validE (canT ts t) = 0 := by
 have hin := inside_of hv
 obtain ⟨hr, _, hd⟩ := ord_spec hin ht
 unfold validE
 rw [if_neg (by have := can_small hv ht; omega)]
 refine validK_ofC _ _ _ (fun y hy => ?_) (fun _ _ _ h => by simp at h) ?_
 ·
  obtain ⟨n, hn⟩ := List.getElem?_of_mem hy
  obtain ⟨a, x, ha, hx, rfl⟩ := can_at hv ht hn
  have hln : n < (canT ts t).length := (List.getElem?_eq_some_iff.1 hn).1
  have hsm := can_small hv ht
  obtain ⟨hf, _, hk8⟩ := (valid_all hv).2 x (List.mem_of_getElem? hx)
  have hf2 := form_ren hf n (ixN ts t) (by omega)
  have hoa : outsAt ts a = outs x := by unfold outsAt; rw [hx]
  refine ⟨hf2, ?_, ?_⟩
  ·
   rw [List.all_eq_true]
   intro u hu
   have h9 : (renT n (ixN ts t) x).kind ≤ 9 := (form_kind hf2).2
   have h1 : u.toNat ∈ outs (renT n (ixN ts t) x) := by rw [outs_eq h9]; exact List.mem_map_of_mem hu
   rw [ren_outs] at h1
   obtain ⟨v, hv1, hv2⟩ := List.mem_map.1 h1
   have h2 := ix_lt hv ht (List.mem_of_getElem? ha) (u := v) (by rw [hoa]; exact hv1)
   have h3 : 0 ≤ u := by
    have hs := (valid_all hv).2 x (List.mem_of_getElem? hx)
    unfold usesL at hu
    rcases List.mem_append.1 hu with h | h
    ·
     obtain ⟨m, hm, rfl⟩ := List.mem_map.1 h
     obtain ⟨m', _, rfl⟩ := List.mem_map.1 hm
     exact Int.natCast_nonneg _
    rcases List.mem_append.1 h with h | h
    ·
     split at h
     ·
      next h8 =>
      rw [List.mem_singleton] at h; subst h
      show 0 ≤ (if x.kind = 8 then ((ixN ts t x.key.toNat : Nat) : Int) else x.key)
      rw [if_pos (show x.kind = 8 from h8)]; exact Int.natCast_nonneg _
     simp at h
    split at h
    ·
     next h7 =>
     rw [List.mem_singleton] at h; subst h
     have h7' : 7 ≤ x.kind := h7
     have := (form_kind hf).2
     show 0 ≤ (if x.kind = 7 ∨ x.kind = 8 ∨ x.kind = 9 then ((ixN ts t x.elem.toNat : Nat) : Int) else x.elem)
     rw [if_pos (by omega)]; exact Int.natCast_nonneg _
    simp at h
   unfold inB; simp; omega
  rintro ⟨h8, hk⟩
  have h8' : x.kind = 8 := h8
  have hkx : keyOk ts x = true := by
   cases h : keyOk ts x with
   | true => rfl
   | false => exact absurd ⟨h8', h⟩ hk8
  obtain ⟨k, hk1, hk2⟩ := (held_of hv x (List.mem_of_getElem? hx)).2.2 _ (key_uses x h8')
  have hku : k ∈ outsAt ts a := by rw [hoa, outs_eq (form_kind hf).2]; have := List.mem_map_of_mem (f := Int.toNat) (key_uses x h8'); rwa [hk1, Int.toNat_natCast] at this
  have hbk := can_bis hin ht hk2 (idx_getC (hd a (List.mem_of_getElem? ha) k hku))
  obtain ⟨z, z', hz, hz', hal, _⟩ := bis_closed _ _ _ _ hbk
  unfold keyOk at hk hkx
  rw [hk1, ctypAt_nat, hz] at hkx
  have e : (renT n (ixN ts t) x).key = ((ixN ts t k : Nat) : Int) := by
   show (if x.kind = 8 then ((ixN ts t x.key.toNat : Nat) : Int) else x.key) = _
   rw [if_pos h8', hk1, Int.toNat_natCast]
  rw [e, ctypAt_nat] at hk
  unfold ixN at hk
  rw [hz'] at hk
  dsimp only at hk hkx
  rw [← hal.kind, hkx] at hk
  cases hk
 rw [List.pairwise_iff_getElem]
 intro i j hi hj hij hne he
 have h1 := List.getElem?_eq_getElem hi
 have h2 := List.getElem?_eq_getElem hj
 obtain ⟨a, x, _, _, e1⟩ := can_at hv ht h1
 obtain ⟨b, y, _, _, e2⟩ := can_at hv ht h2
 rw [e1, e2] at he
 rw [e2] at hne
 have n2 : (renT j (ixN ts t) y).name = nmC 84 j := by
  show (if y.name = [] then [] else nmC 84 (j : Int)) = _
  split
  ·
   next h => exact absurd (show (if y.name = [] then [] else nmC 84 (j : Int)) = [] by rw [if_pos h]) hne
  rfl
 rw [n2] at he
 have n1 : (renT i (ixN ts t) x).name = nmC 84 i := by
  show (if x.name = [] then [] else nmC 84 (i : Int)) = _
  split
  ·
   next h =>
   have : (renT i (ixN ts t) x).name = [] := show (if x.name = [] then [] else nmC 84 (i : Int)) = [] by rw [if_pos h]
   rw [this] at he
   exact absurd he.symm (nmC_ne _ _)
  rfl
 rw [n1] at he
 have := nmC_inj (Int.natCast_nonneg i) (Int.natCast_nonneg j) he
 omega
end
end Go.Proofs.YtlamhkffnlgofaaGreatDoor
namespace Go.Proofs.YtlamhkffnlgofaaGreatDoor
open Go.ChangeShapes Go.WideShapes Go.ChangeAt Go.RowKit
def partB (x : Typ) (id : Int) (K I : Int → Int) (Z : List Mem → Int) (H : Int → Int) : Int :=
 if x.kind = 4 then (if (symIdx x id).isSome then 0 else 1)
 else if x.kind = 5 then Z x.mems
 else if x.kind = 6 then (match memIdx x id with
  | some i => (match x.mems[i]? with | some m => H m.ty | none => 0)
  | none => 0)
 else if x.kind = 7 ∨ x.kind = 8 ∨ x.kind = 9 then K x.key + I x.elem
 else 0
mutual
def partsV (ts : List Typ) : Val → Int → Int
 | .mk _ _ _ _ id ks is rs, t => match typAt ts t with
  | none => 0
  | some x => (rs.length : Int) + partB x id (fun t => partsL ts ks t) (fun t => partsL ts is t) (fun ms => partsZ ts is ms) (fun t => partsH ts is t)
def partsL (ts : List Typ) : List Val → Int → Int
 | [], _ => 0
 | y :: r, t => partsV ts y t + partsL ts r t
def partsZ (ts : List Typ) : List Val → List Mem → Int
 | y :: r, m :: ms => partsV ts y m.ty + partsZ ts r ms
 | [], _ => 0
 | _ :: _, [] => 0
def partsH (ts : List Typ) : List Val → Int → Int
 | [], _ => 0
 | y :: _, t => partsV ts y t
end
/-! what a value that fits has -/
theorem fit_split {ts : List Typ} {pl : Bool} {v : Val} {t : Int} {x : Typ} (hx : typAt ts t = some x) (h : fitV ts pl v t = true) : v.kind = x.kind ∧ properB v = true ∧ bodyV ts pl x v = true := by
 rw [fitV_eq, hx] at h
 simp only [Bool.and_eq_true, decide_eq_true_eq] at h
 exact h
end Go.Proofs.YtlamhkffnlgofaaGreatDoor
namespace Go.Proofs.YtlamhkffnlgofaaGreatDoor
open Go.ChangeShapes Go.WideShapes Go.ChangeAt Go.RowKit
def flagB (b : Bool) : List UInt8 := putF 9 (if b then 1 else 0)
def markN (m : Mem) : Nat := if m.crit then 1 else if m.hasDef then 2 else 0
def memB9 (m : Mem) : List UInt8 := putF 9 m.id.toNat ++ (putF 9 (markN m) ++ putF 9 m.ty.toNat)
def zigB (n : Int) : List UInt8 := putF 9 (zig n).toNat
def singT (x : Typ) : List UInt8 := putF 9 x.kind.toNat ++
 (if x.kind = 2 then zigB x.low ++ zigB x.high
 else if x.kind = 3 then putF 9 x.max.toNat
 else if x.kind = 4 then flagB x.opn ++ (putF 9 x.syms.length ++ x.syms.flatMap fun s => putF 9 s.1.toNat)
 else if x.kind = 5 then putF 9 x.mems.length ++ x.mems.flatMap memB9
 else if x.kind = 6 then flagB x.opn ++ (putF 9 x.mems.length ++ x.mems.flatMap memB9)
 else if x.kind = 7 then putF 9 x.max.toNat ++ putF 9 x.elem.toNat
 else if x.kind = 8 then putF 9 x.max.toNat ++ (putF 9 x.key.toNat ++ putF 9 x.elem.toNat)
 else if x.kind = 9 then putF 9 x.elem.toNat
 else [])
def zipB : List (List UInt8) → List (List UInt8) → List UInt8
 | a :: r, b :: s => a ++ (b ++ zipB r s)
 | _, _ => []
def fullR (x : Typ) (v : Val) (K I : Int → List (List UInt8)) (Z : List Mem → List UInt8) (H : Int → List UInt8) : List UInt8 :=
 if x.kind = 1 then flagB v.bool
 else if x.kind = 2 then zigB v.num
 else if x.kind = 3 then putF 9 v.str.length ++ v.str
 else if x.kind = 4 then putF 9 v.id.toNat
 else if x.kind = 5 then Z x.mems
 else if x.kind = 6 then putF 9 v.id.toNat ++ (match memIdx x v.id with
  | some i => (match x.mems[i]? with | some m => H m.ty | none => [])
  | none => [])
 else putF 9 v.items.length ++ (if x.kind = 8 then zipB (K x.key) (I x.elem) else (I x.elem).flatten)
mutual
def fullV (ts : List Typ) : Val → Int → List UInt8
 | .mk k b n s id ks is rs, t => match typAt ts t with
  | none => []
  | some x => fullR x (.mk k b n s id ks is rs) (fun t => fullL ts ks t) (fun t => fullL ts is t) (fun ms => fullZ ts is ms) (fun t => fullH ts is t)
def fullL (ts : List Typ) : List Val → Int → List (List UInt8)
 | [], _ => []
 | y :: r, t => fullV ts y t :: fullL ts r t
def fullZ (ts : List Typ) : List Val → List Mem → List UInt8
 | y :: r, m :: ms => fullV ts y m.ty ++ fullZ ts r ms
 | [], _ => []
 | _ :: _, [] => []
def fullH (ts : List Typ) : List Val → Int → List UInt8
 | [], _ => []
 | y :: _, t => fullV ts y t
end
theorem fullV_eq (ts : List Typ) (v : Val) (t : Int) (x : Typ) (h : typAt ts t = some x) : fullV ts v t = fullR x v (fun t => fullL ts v.keys t) (fun t => fullL ts v.items t) (fun ms => fullZ ts v.items ms) (fun t => fullH ts v.items t) := by
 cases v; rw [fullV, h]; rfl
def dfltM (ts : List Typ) (m : Mem) : List UInt8 := if m.hasDef then fullV ts m.dflt m.ty else []
def dfltB (ts : List Typ) (x : Typ) : List UInt8 := x.mems.flatMap (dfltM ts)
def bytesT (ts : List Typ) : List UInt8 := putF 9 ts.length ++ (ts.flatMap singT ++ ts.flatMap (dfltB ts))
theorem bmk_eq {v w : Val} (h1 : v.kind = w.kind) (h2 : v.bool = w.bool) (h3 : v.num = w.num) (h4 : v.str = w.str) (h5 : v.id = w.id) (h6 : v.keys = w.keys) (h7 : v.items = w.items) (h8 : v.rest = w.rest) : v = w := by
 cases v; cases w; simp only [Val.kind, Val.bool, Val.num, Val.str, Val.id, Val.keys, Val.items, Val.rest] at *; subst h1 h2 h3 h4 h5 h6 h7 h8; rfl
theorem btypAt_mem {ts : List Typ} {t : Int} {x : Typ} (h : typAt ts t = some x) : x ∈ ts := by
 unfold typAt at h
 split at h
 ·
  exact List.mem_of_getElem? h
 cases h
theorem maxB_of {ts : List Typ} (hv : validE ts = 0) {x : Typ} (hx : x ∈ ts) : (x.kind = 3 → 0 ≤ x.max ∧ x.max ≤ 200) ∧ (x.kind = 7 ∨ x.kind = 8 → 0 ≤ x.max ∧ x.max ≤ 50) := by
 have hf := ((valid_all hv).2 x hx).1
 unfold formB at hf
 simp only [Bool.and_eq_true] at hf
 have ho := hf.2.1
 unfold okT at ho
 constructor
 ·
  intro h; rw [if_neg (by omega), if_pos h] at ho; simpa using ho
 intro h; rw [if_neg (by omega), if_neg (by omega), if_neg (by omega), if_neg (by omega), if_pos h] at ho; simpa using ho
theorem idsG_in : ∀ (l : List Raw) (p : Option Int) (S : List (List UInt8)), idsG l p S = true → ∀ r ∈ l, 1 ≤ r.1 ∧ r.1 ≤ 1000
 | [], _, _, _, r, hr => by simp at hr
 | a :: l, p, S, h, r, hr => by
  rw [idsG] at h
  simp only [Bool.and_eq_true] at h
  rcases List.mem_cons.1 hr with rfl | hr
  ·
   have := h.1; unfold freeB at this; simpa using this
  exact idsG_in l _ _ h.2.2.2.2 r hr
theorem idsB_in {l : List Raw} (h : idsB l = true) : l.length ≤ 16 ∧ ∀ r ∈ l, 1 ≤ r.1 ∧ r.1 ≤ 1000 := by
 unfold idsB at h
 simp only [Bool.and_eq_true, decide_eq_true_eq] at h
 exact ⟨h.2, idsG_in l _ _ h.1⟩
theorem symsB_in {x : Typ} (h : formB x = true) (hk : x.kind = 4) : x.syms.length ≤ 16 ∧ ∀ r ∈ x.syms, 1 ≤ r.1 ∧ r.1 ≤ 1000 := by
 unfold formB okT at h
 rw [if_neg (by omega), if_neg (by omega), if_pos hk] at h
 simp only [Bool.and_eq_true] at h
 have := h.2.1.2
 unfold symB at this
 rw [Bool.and_eq_true] at this
 exact idsB_in this.2
theorem memsB_in {x : Typ} (h : formB x = true) (hk : x.kind = 5 ∨ x.kind = 6) : x.mems.length ≤ 16 ∧ ∀ m ∈ x.mems, (1 ≤ m.id ∧ m.id ≤ 1000) ∧ ¬ (m.crit = true ∧ m.hasDef = true) := by
 unfold formB okT at h
 rw [if_neg (by omega), if_neg (by omega), if_neg (by omega), if_pos hk] at h
 simp only [Bool.and_eq_true] at h
 have := h.2.1.2
 unfold membersB at this
 simp only [Bool.and_eq_true] at this
 obtain ⟨h1, h2⟩ := idsB_in this.2.2
 refine ⟨by simpa using h1, fun m hm => ⟨h2 (pairM m) (List.mem_map_of_mem hm), fun hc => ?_⟩⟩
 have h3 := List.all_eq_true.1 this.1 m hm
 unfold memB at h3
 rw [hc.1, hc.2] at h3
 simp at h3
theorem idx_in : ∀ (l : List Int) (id : Int) (k j : Nat), idxF l id k = some j → id ∈ l
 | [], id, k, j, h => by simp [idxF] at h
 | a :: r, id, k, j, h => by
  rw [idxF] at h
  split at h
  ·
   next e => rw [e]; simp
  exact List.mem_cons_of_mem _ (idx_in r id (k + 1) j h)
theorem symB_id {ts : List Typ} (hv : validE ts = 0) {x : Typ} (hx : x ∈ ts) (hk : x.kind = 4) {id : Int} (h : (symIdx x id).isSome = true) : 1 ≤ id ∧ id ≤ 1000 := by
 cases hs : symIdx x id with
 | none => rw [hs] at h; cases h
 | some i =>
  unfold symIdx at hs
  obtain ⟨s, hm, rfl⟩ := List.mem_map.1 (idx_in _ _ _ _ hs)
  exact (symsB_in ((valid_all hv).2 x hx).1 hk).2 s hm
/-! full bytes do not depend on names, flags and defaults -/
/-! the bytes of a type tell it, but for names and defaults -/
def coreM (m : Mem) : Int × Bool × Bool × Int := (m.id, m.crit, m.hasDef, m.ty)
structure CoreT (x y : Typ) : Prop where
 kind : x.kind = y.kind
 low : x.low = y.low
 high : x.high = y.high
 max : x.max = y.max
 opn : x.opn = y.opn
 key : x.key = y.key
 elem : x.elem = y.elem
 syms : x.syms.map Prod.fst = y.syms.map Prod.fst
 mems : x.mems.map coreM = y.mems.map coreM
def MemIn (m : Mem) : Prop := (1 ≤ m.id ∧ m.id ≤ 1000) ∧ (0 ≤ m.ty ∧ m.ty ≤ 1000) ∧ ¬ (m.crit = true ∧ m.hasDef = true)
structure TypIn (x : Typ) : Prop where
 form : formB x = true
 ints : I64 x.low ∧ I64 x.high
 max : 0 ≤ x.max ∧ x.max ≤ 200
 syms : x.syms.length ≤ 16 ∧ ∀ q ∈ x.syms, 1 ≤ q.1 ∧ q.1 ≤ 1000
 mems : x.mems.length ≤ 16 ∧ ∀ q ∈ x.mems, MemIn q
 key : 0 ≤ x.key ∧ x.key ≤ 1000
 elem : 0 ≤ x.elem ∧ x.elem ≤ 1000
end Go.Proofs.YtlamhkffnlgofaaGreatDoor
namespace Go.Proofs.YtlamhkffnlgofaaGreatDoor
open Go.ChangeShapes Go.WideShapes Go.ChangeAt Go.RowKit
section
variable {P : Program} {ops : Array Oper} {Q : Exit → Act → World → Prop} {md : Region.Mode} {S : World → Prop} {T : Nat → Bool}
def wpAnyT (P : Program) (md : Region.Mode) (ops : Array Oper) (Q : Exit → Act → World → Prop) (S : World → Prop) (T : Nat → Bool) : Nat → Array Bool → Act → World → Prop
 | 0, listed, a, w => Region.ready md ops listed = [] ∧ Q .normal a w
 | f + 1, listed, a, w => (Region.ready md ops listed = [] → Q .normal a w) ∧
  ∀ i ∈ Region.ready md ops listed, wpOp P ops Q i (fun a' w' => (T i = false → S w') ∧ wpAnyT P md ops Q S T f (listed.setIfInBounds i true) a' w') a w
theorem wpAnyT_any : ∀ (f : Nat) (listed : Array Bool) (a : Act) (w : World), wpAnyT P md ops Q S T f listed a w → wpAny P md ops Q f listed a w
 | 0, _, _, _, h => h
 | f + 1, _, _, _, h => ⟨h.1, fun i hi => wpOp_mono (fun a' w' h' => wpAnyT_any f _ a' w' h'.2) (h.2 i hi)⟩
theorem listed_of {i j : Nat} {listed : Array Bool} (hr : i ∈ Region.ready md ops listed) (hj : j ∈ Region.ready md ops listed) {oj : Oper} (hoj : ops[j]? = some oj) : ∀ e ∈ oj.after, Region.binds md e = true → e.on ≠ i := fun e he hb heq => by
 obtain ⟨_, o2, ho2, hall⟩ := mem_ready.1 hj
 obtain rfl : oj = o2 := by rw [hoj] at ho2; injection ho2
 have h1 := hall e he hb
 have h0 := (mem_ready.1 hr).1
 rw [heq] at h1
 rcases Nat.lt_or_ge i listed.size with h' | h'
 ·
  simp [h'] at h0 h1; rw [h0] at h1; cases h1
 simp [Array.getElem?_eq_none h'] at h1
theorem wpAnyT_first {i : Nat} {oi : Oper} {v : Value} (hi : ops[i]? = some oi) (hsel : ∀ (j : Nat) (o : Oper) cs b, ops[j]? = some o → o.op ≠ .select cs b)
  (hQ : ∀ c a w, Q (.panic c) (a.put oi.dst v) w → Q (.panic c) a w) (hT : ∀ j oj, ops[j]? = some oj → T j = true → ∃ e ∈ oj.after, Region.binds md e = true ∧ e.on = i) :
  ∀ (f : Nat) (listed : Array Bool) (a : Act) (w : World),
   (∀ j oj, ops[j]? = some oj → j ≠ i → listed.getD j true = false → (∀ e ∈ oj.after, Region.binds md e = true → e.on ≠ i) → oi.apart ops oj = true) →
   i ∈ Region.ready md ops listed → YieldsIf P ops S oi v a → S w →
   wpAnyT P md ops Q S T f (listed.setIfInBounds i true) (a.put oi.dst v) w → wpAnyT P md ops Q S T (f + 1) listed a w := by
 intro f
 induction f with
 | zero =>
  intro listed a w _ hr hy hS H
  refine ⟨fun h => (by rw [h] at hr; cases hr), fun j hj => ?_⟩
  by_cases hji : j = i
  ·
   subst hji; exact hy.wpOp hi hS ⟨fun _ => hS, H⟩
  have := ready_mono hj hji
  rw [H.1] at this; cases this
 | succ f ih =>
  intro listed a w hfree hr hy hS H
  refine ⟨fun h => (by rw [h] at hr; cases hr), fun j hj => ?_⟩
  by_cases hji : j = i
  ·
   subst hji; exact hy.wpOp hi hS ⟨fun _ => hS, H⟩
  have h1 := H.2 j (ready_mono hj hji)
  obtain ⟨hjun, oj, hoj, _⟩ := mem_ready.1 hj
  have hnot := listed_of hr hj hoj
  have hTj : T j = false := by
   cases hq : T j with
   | false => rfl
   | true => obtain ⟨e, he, hb, hon⟩ := hT j oj hoj hq; exact absurd hon (hnot e he hb)
  have h2 := wpOp_putIf hoj (hfree j oj hoj hji hjun hnot) (fun cs b => hsel i oi cs b hi) (fun cs b => hsel j oj cs b hoj) hQ hy h1
  have hfree' : ∀ k ok, ops[k]? = some ok → k ≠ i → (listed.setIfInBounds j true).getD k true = false → (∀ e ∈ ok.after, Region.binds md e = true → e.on ≠ i) → oi.apart ops ok = true := fun k ok hk hki hun hno => by
   refine hfree k ok hk hki ?_ hno
   by_cases hjk : j = k
   ·
    subst hjk; exact hjun
   rw [getD_set_ne true hjk] at hun; exact hun
  refine wpOp_mono (fun a' w' h3 => ⟨h3.2.1, ih (listed.setIfInBounds j true) a' w' hfree' (ready_mono hr (Ne.symm hji)) h3.1 (h3.2.1 hTj) ?_⟩) h2
  rw [Array.setIfInBounds_comm _ _ hji]
  exact h3.2.2
def lastB (md : Region.Mode) (ops : Array Oper) (T : Nat → Bool) (i : Nat) : Bool :=
 (List.range ops.size).all fun j => !T j || match ops[j]? with | some oj => oj.after.any (fun e => Region.binds md e && e.on == i) | none => true
theorem lastB_spec {i : Nat} (h : lastB md ops T i = true) : ∀ j oj, ops[j]? = some oj → T j = true → ∃ e ∈ oj.after, Region.binds md e = true ∧ e.on = i := fun j oj hj hT => by
 simp only [lastB, List.all_eq_true, List.mem_range] at h
 have h1 := h j (Array.getElem?_eq_some_iff.1 hj).1
 simp only [hT, hj, Bool.not_true, Bool.false_or] at h1
 obtain ⟨e, he, hb⟩ := Array.any_eq_true'.1 h1
 simp only [Bool.and_eq_true, beq_iff_eq] at hb
 exact ⟨e, he, hb.1, hb.2⟩
theorem wp_region_T {id : Nat} {a : Act} {w : World} (T : Nat → Bool) (hm : P.follows .mixedOrders = true) (hS : S w.drew)
  (h : S w.drew → wpAnyT P .any ops Q S T ops.size (Array.replicate ops.size false) a w.drew) : (Code.region id ops true).wp P Q a w :=
 wp_region_any hm (wpAnyT_any _ _ _ _ (h hS))
variable {f : Nat} {listed : Array Bool} {a : Act} {w : World} {oi : Oper}
theorem tkT (i : Nat) {v : Value} {a2 : Act} (r : wpAnyT P md ops Q S T f (listed.setIfInBounds i true) a2 w) (hi : ops[i]? = some oi := by rfl) (y : ∀ w, S w → (execOp a.eval oi).run P w = .ok (.value v) w := by (intro w hS; (try dsimp only at hS); go_simp; (first | done | with_reducible rfl)))
  (h1 : Region.noSelect ops = true := by kernel_rfl) (h2 : Region.free md ops listed i = true := by kernel_rfl) (h3 : (Region.ready md ops listed).contains i = true := by kernel_rfl) (h7 : lastB md ops T i = true := by kernel_rfl)
  (h4 : ∀ c a w, Q (.panic c) (a.put oi.dst v) w → Q (.panic c) a w := by exact fun _ _ _ h => h) (h5 : Region.wanted oi (yielded ops a.tmps) = true := by rfl) (h6 : S w := by assumption) (e : a.put oi.dst v = a2 := by simp only [put_laws2]; exact rfl) : wpAnyT P md ops Q S T (f + 1) listed a w :=
 wpAnyT_first hi (Region.noSelect_spec h1) h4 (lastB_spec h7) f listed a w (Region.free_spec hi h2) (by simpa using h3) (.inl ⟨h5, y⟩) h6 (e ▸ r)
def AllReadyT (P : Program) (md : Region.Mode) (ops : Array Oper) (Q : Exit → Act → World → Prop) (S : World → Prop) (T : Nat → Bool) (f : Nat) (listed : Array Bool) (a : Act) (w : World) (rs : List Nat) : Prop :=
 ∀ i ∈ rs, wpOp P ops Q i (fun a' w' => (T i = false → S w') ∧ wpAnyT P md ops Q S T f (listed.setIfInBounds i true) a' w') a w
theorem AllReadyT.nil : AllReadyT P md ops Q S T f listed a w [] := fun _ h => by cases h
theorem AllReadyT.cons {i : Nat} {o : Oper} {rs : List Nat} (ho : ops[i]? = some o)
  (h : ∀ K' : Act → World → Prop, Shut (∀ a w, S w → (S w → wpAnyT P md ops Q S T f (listed.setIfInBounds i true) a w) → K' a w) → if Region.wanted o (yielded ops a.tmps) = true then Oper.wp P o a w K' Q else K' (a.put o.dst undef) w)
  (hs : AllReadyT P md ops Q S T f listed a w rs) : AllReadyT P md ops Q S T f listed a w (i :: rs) := fun j hj => by
 rcases List.mem_cons.1 hj with rfl | hj
 ·
  exact wpOp_step ho (fun K' hK => h K' (fun a w hS hW => hK a w ⟨fun _ => hS, hW hS⟩))
 exact hs j hj
theorem AllReadyT.last {i : Nat} {o : Oper} (hT : T i = true) (ho : ops[i]? = some o)
  (h : ∀ K' : Act → World → Prop, Shut (∀ a w, wpAnyT P md ops Q S T f (listed.setIfInBounds i true) a w → K' a w) → if Region.wanted o (yielded ops a.tmps) = true then Oper.wp P o a w K' Q else K' (a.put o.dst undef) w) :
  AllReadyT P md ops Q S T f listed a w [i] := fun j hj => by
 rcases List.mem_cons.1 hj with rfl | hj
 ·
  exact wpOp_step ho (fun K' hK => h K' (fun a w hW => hK a w ⟨(fun h0 => by rw [hT] at h0; cases h0), hW⟩))
 cases hj
theorem wpAnyT_ready {rs : List Nat} (hr : Region.ready md ops listed = rs) (hne : rs ≠ []) (h : AllReadyT P md ops Q S T f listed a w rs) : wpAnyT P md ops Q S T (f + 1) listed a w :=
 ⟨fun h0 => absurd (hr ▸ h0) hne, hr ▸ h⟩
theorem wpAnyT_done (hr : Region.ready md ops listed = []) (h : Q .normal a w) : ∀ f, wpAnyT P md ops Q S T f listed a w
 | 0 => ⟨hr, h⟩
 | _ + 1 => ⟨fun _ => h, by rw [hr]; simp⟩
theorem rdT1 (i : Nat) {o : Oper} (h : ∀ K' : Act → World → Prop, Shut (∀ a w, S w → (S w → wpAnyT P md ops Q S T f (listed.setIfInBounds i true) a w) → K' a w) → if Region.wanted o (yielded ops a.tmps) = true then Oper.wp P o a w K' Q else K' (a.put o.dst undef) w) (hr : Region.ready md ops listed = [i] := by kernel_rfl) (ho : ops[i]? = some o := by rfl) : wpAnyT P md ops Q S T (f + 1) listed a w :=
 wpAnyT_ready hr (by simp) (AllReadyT.cons ho h AllReadyT.nil)
theorem rdTL (i : Nat) {o : Oper} (h : ∀ K' : Act → World → Prop, Shut (∀ a w, wpAnyT P md ops Q S T f (listed.setIfInBounds i true) a w → K' a w) → if Region.wanted o (yielded ops a.tmps) = true then Oper.wp P o a w K' Q else K' (a.put o.dst undef) w) (hr : Region.ready md ops listed = [i] := by kernel_rfl) (hT : T i = true := by rfl) (ho : ops[i]? = some o := by rfl) : wpAnyT P md ops Q S T (f + 1) listed a w :=
 wpAnyT_ready hr (by simp) (AllReadyT.last hT ho h)
end
end Go.Proofs.YtlamhkffnlgofaaGreatDoor

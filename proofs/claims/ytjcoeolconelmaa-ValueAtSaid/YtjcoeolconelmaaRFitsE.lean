/- What fit, Fits and Plain of the reference compute. No condition. -/
import Derived.Test.YtjcoeolconelmaaRFitsB
import Derived.Test.YtjcoeolconelmaaRFitsC
import Derived.Test.YtjcoeolconelmaaRFitsD
import Derived.Test.YtjcoeolconelmaaFitsE
namespace Go.Proofs.Ytjcoeolconelmaa
open Go.ChangeShapes Go.WideShapes Go.ChangeAt Go.RowKit

theorem rzero_any (x : Val) (A1 A2 A3 : Option Addr) (n1 n2 n3 : Nat) (w : World) (hk : KindIn x.kind) :
    Calls Try.prog 72 #[valA x (.slice A1 x.keys.length n1) (.slice A2 x.items.length n2) (.slice A3 x.rest.length n3)] w fun e w' => e = .returned (.bool (properB x)) ∧ Below w.heap.size w w' := by
  rcases kind_cases hk with h | h | h | h | h | h | h | h | h
  · exact rzero1_any x A1 A2 A3 n1 n2 n3 w h
  · exact rzero2_any x A1 A2 A3 n1 n2 n3 w h
  · exact rzero3_any x A1 A2 A3 n1 n2 n3 w h
  · exact rzero4_any x A1 A2 A3 n1 n2 n3 w h
  · exact rzero5_any x A1 A2 A3 n1 n2 n3 w h
  · exact rzero6_any x A1 A2 A3 n1 n2 n3 w h
  · exact rzero7_any x A1 A2 A3 n1 n2 n3 w h
  · exact rzero8_any x A1 A2 A3 n1 n2 n3 w h
  · exact rzero9_any x A1 A2 A3 n1 n2 n3 w h

theorem body_rest (ts : List Typ) (x : Typ) (v : Val) (hp : properB v = true) (hkk : v.kind = x.kind) (hr : 0 < v.rest.length) : bodyV ts true x v = false := by
  simp only [properB, Bool.and_eq_true, Bool.or_eq_true, decide_eq_true_eq] at hp
  rcases hp.2.2.2.2.2.2 with (h | h) | h
  · rw [hkk] at h
    have hd : decide (0 < v.rest.length) = true := decide_eq_true hr
    unfold bodyV bodyR
    rw [if_neg (by omega), if_neg (by omega), if_neg (by omega), if_pos h, hd]
    simp
  · rw [hkk] at h
    have hd : decide (v.rest.length = 0) = false := decide_eq_false (by omega)
    unfold bodyV bodyR
    rw [if_neg (by omega), if_neg (by omega), if_neg (by omega), if_neg (by omega), if_pos h]
    cases memIdx x v.id with
    | none => simp
    | some i => simp only [hd]; simp
  · omega
set_option maxRecDepth 100000 in
set_option maxHeartbeats 800000 in
theorem rfit_out (ts : List Typ) (A : Option Addr) (c : Nat) (t : Int) (v : Val) (pl : Bool) (vk vi vr : Value) (w : World) (hn : typAt ts t = none) (hv : ValAt w w.heap.size v vk vi vr) :
    Calls Try.prog 46 #[.agg #[.slice A ts.length c], .int .i64 t, valA v vk vi vr, .bool pl] w fun e w' => e = .returned (.bool false) ∧ Below w.heap.size w w' := by
  obtain ⟨A1, n1, A2, n2, A3, n3, rfl, rfl, rfl, -, -, -⟩ := hv.forms
  have h2b := fun (o1 o2 : Obj) => ((Below.refl w.heap.size w).alloc (Nat.le_refl _) o1).alloc (show w.heap.size ≤ (w.alloc o1).heap.size by simp) o2
  clear hv
  by_cases h0 : t < 0
  · clear hn
    go_enter Try.func46, Try.ntmps46
    go_wp2_with fail
    go_ret
    exact ⟨rfl, h2b _ _⟩
  · obtain ⟨n, rfl⟩ : ∃ n : Nat, t = n := ⟨t.toNat, by omega⟩
    have hlt : ts.length ≤ n := by
      simpa [typAt] using hn
    have hd0 : decide ((n : Int) < 0) = false := by simp
    have hd1 : decide (ts.length ≤ n) = true := by simpa using hlt
    clear hn h0
    go_enter Try.func46, Try.ntmps46
    go_wp2_with fail
    go_ret
    exact ⟨rfl, h2b _ _⟩

set_option maxRecDepth 100000 in
set_option maxHeartbeats 800000 in
theorem rfit_no (ts : List Typ) (A : Option Addr) (c n : Nat) (v : Val) (pl : Bool) (A1 A2 A3 : Option Addr) (n1 n2 n3 : Nat) (w : World) (hn : n < ts.length) (hk : KindIn ts[n].kind) (hno : (decide (v.kind = ts[n].kind) && properB v) = false)
    (ht : RdTyps w w.heap.size (.slice A ts.length c) ts) :
    Calls Try.prog 46 #[.agg #[.slice A ts.length c], .int .i64 n, valA v (.slice A1 v.keys.length n1) (.slice A2 v.items.length n2) (.slice A3 v.rest.length n3), .bool pl] w fun e w' => e = .returned (.bool false) ∧ Below w.heap.size w w' := by
  have h3b := fun (o1 o2 o3 : Obj) => (((Below.refl w.heap.size w).alloc (Nat.le_refl _) o1).alloc (show w.heap.size ≤ (w.alloc o1).heap.size by simp) o2).alloc (show w.heap.size ≤ ((w.alloc o1).alloc o2).heap.size by simp; omega) o3
  obtain ⟨b, o, rfl, hbb, hel⟩ := ht.elem (by omega)
  obtain ⟨vs, vm, hcells, hx⟩ := hel n hn
  clear hel
  generalize ts[n] = x at *
  obtain ⟨C1, l1, C2, l2, rfl, rfl, -, -⟩ := hx.forms
  obtain ⟨c0, c1, c2, c3, c4, c5, c6, c7, c8, c9⟩ := hcells
  have hlt : (n : Int) < ts.length := by omega
  have hd0 : decide ((n : Int) < 0) = false := by simp
  have hd1 : decide (ts.length ≤ n) = false := by simpa using hn
  by_cases hkk : v.kind = x.kind
  · rw [decide_eq_true hkk, Bool.true_and] at hno
    have HP := Lib.hid (fun W => rzero_any v A1 A2 A3 n1 n2 n3 W (by rw [hkk]; exact hk))
    have hne : (v.kind != x.kind) = false := by simp [hkk]
    simp only [valA, hno] at HP ⊢
    clear ht hx hno hkk hk
    go_enter Try.func46, Try.ntmps46
    go_wp2_with fail
    refine (HP.out _).mono ?_
    rintro e w2 ⟨rfl, hb2⟩
    go_wp2_with fail
    go_ret
    exact ⟨rfl, (h3b _ _ _).trans (hb2.mono (h3b _ _ _).size)⟩
  · have hne : (v.kind != x.kind) = true := by simpa using hkk
    clear ht hx hno hkk hk
    go_enter Try.func46, Try.ntmps46
    go_wp2_with fail
    go_ret
    exact ⟨rfl, h3b _ _ _⟩

set_option maxRecDepth 100000 in
set_option maxHeartbeats 800000 in
theorem rfit_pr (ts : List Typ) (A : Option Addr) (c n : Nat) (v : Val) (A1 A2 A3 : Option Addr) (n1 n2 n3 : Nat) (w : World) (hn : n < ts.length) (hk : KindIn ts[n].kind) (hkk : v.kind = ts[n].kind) (hp : properB v = true) (hr : 0 < v.rest.length)
    (ht : RdTyps w w.heap.size (.slice A ts.length c) ts) :
    Calls Try.prog 46 #[.agg #[.slice A ts.length c], .int .i64 n, valA v (.slice A1 v.keys.length n1) (.slice A2 v.items.length n2) (.slice A3 v.rest.length n3), .bool true] w fun e w' => e = .returned (.bool false) ∧ Below w.heap.size w w' := by
  have h3b := fun (o1 o2 o3 : Obj) => (((Below.refl w.heap.size w).alloc (Nat.le_refl _) o1).alloc (show w.heap.size ≤ (w.alloc o1).heap.size by simp) o2).alloc (show w.heap.size ≤ ((w.alloc o1).alloc o2).heap.size by simp; omega) o3
  obtain ⟨b, o, rfl, hbb, hel⟩ := ht.elem (by omega)
  obtain ⟨vs, vm, hcells, hx⟩ := hel n hn
  clear hel
  generalize ts[n] = x at *
  obtain ⟨C1, l1, C2, l2, rfl, rfl, -, -⟩ := hx.forms
  obtain ⟨c0, c1, c2, c3, c4, c5, c6, c7, c8, c9⟩ := hcells
  have hlt : (n : Int) < ts.length := by omega
  have hd0 : decide ((n : Int) < 0) = false := by simp
  have hd1 : decide (ts.length ≤ n) = false := by simpa using hn
  have HP := Lib.hid (fun W => rzero_any v A1 A2 A3 n1 n2 n3 W (by rw [hkk]; exact hk))
  have hne : (v.kind != x.kind) = false := by simp [hkk]
  have hr5 : decide (0 < v.rest.length) = true := decide_eq_true hr
  have hr4 : decide ((0 : Int) < v.rest.length) = true := decide_eq_true (by omega)
  have hW0 := (Has.made (w.alloc (.cells #[.slice (some ⟨b, o, none⟩) ts.length c] 31)) 28 #[.int .i64 v.kind, .bool v.bool, .int .i64 v.num, .string ⟨v.str.toArray⟩, .int .i64 v.id, .slice A1 v.keys.length n1, .slice A2 v.items.length n2, .slice A3 v.rest.length n3]).alloc (.cells #[.int .i64 x.kind, .string ⟨x.name.toArray⟩, .int .i64 x.low, .int .i64 x.high, .int .i64 x.max, .slice C1 x.syms.length l1, .slice C2 x.mems.length l2, .int .i64 x.key, .int .i64 x.elem, .bool x.opn] 67)
  rw [alloc_hs] at hW0
  simp only [valA, hp] at HP ⊢
  clear ht hx hp hkk hk
  go_enter Try.func46, Try.ntmps46
  go_wp2_with fail
  refine (HP.out _).mono ?_
  rintro e w2 ⟨rfl, hb2⟩
  have c7 := (hW0.below hb2 (by simp)).cell 7
  simp only [List.getElem?_toArray, List.getElem?_cons_succ, List.getElem?_cons_zero] at c7
  have h02 := (h3b _ _ _).trans (hb2.mono (h3b _ _ _).size)
  clear hb2 hW0
  go_wp2_with fail
  go_ret
  exact ⟨rfl, h02⟩
theorem rfit_any : ∀ (N : Nat) (v : Val), nodes v ≤ N → ∀ (ts : List Typ) (A : Option Addr) (c : Nat) (t : Int) (pl : Bool) (vk vi vr : Value) (w : World), Kinds ts →
    RdTyps w w.heap.size (.slice A ts.length c) ts → ValAt w w.heap.size v vk vi vr →
    Calls Try.prog 46 #[.agg #[.slice A ts.length c], .int .i64 t, valA v vk vi vr, .bool pl] w fun e w' => e = .returned (.bool (fitV ts pl v t)) ∧ Below w.heap.size w w' := by
  intro N
  induction N with
  | zero => intro v h; have := nodes_pos v; omega
  | succ N ih =>
    intro v hN ts A c t pl vk vi vr w hk ht hv
    cases hta : typAt ts t with
    | none =>
      rw [show fitV ts pl v t = false by rw [fitV_eq, hta]]
      exact rfit_out ts A c t v pl vk vi vr w hta hv
    | some x =>
      obtain ⟨n, rfl, hn, rfl⟩ : ∃ n : Nat, t = n ∧ ∃ hn : n < ts.length, ts[n] = x := by
        unfold typAt at hta
        split at hta
        · obtain ⟨h1, h2⟩ := List.getElem?_eq_some_iff.1 hta
          exact ⟨t.toNat, by omega, h1, h2⟩
        · cases hta
      have hkn : KindIn ts[n].kind := hk _ (List.getElem_mem hn)
      obtain ⟨A1, n1, A2, n2, A3, n3, rfl, rfl, rfl, -, -, -⟩ := hv.forms
      have heq : fitV ts pl v n = ((decide (v.kind = ts[n].kind) && properB v) && bodyV ts pl ts[n] v) := by
        rw [fitV_eq, hta, Bool.and_assoc]
      rw [heq]
      cases hno : (decide (v.kind = ts[n].kind) && properB v) with
      | false =>
        rw [Bool.false_and]
        exact rfit_no ts A c n v pl A1 A2 A3 n1 n2 n3 w hn hkn hno ht
      | true =>
        rw [Bool.true_and]
        simp only [Bool.and_eq_true, decide_eq_true_eq] at hno
        obtain ⟨hkk, hp⟩ := hno
        by_cases hpr : pl = true ∧ 0 < v.rest.length
        · obtain ⟨rfl, hpr⟩ := hpr
          rw [body_rest ts _ v hp hkk hpr]
          exact rfit_pr ts A c n v A1 A2 A3 n1 n2 n3 w hn hkn hkk hp hpr ht
        have hrl : pl = true → v.rest.length = 0 := fun h => by
          rcases Nat.eq_zero_or_pos v.rest.length with h2 | h2
          · exact h2
          · exact absurd ⟨h, h2⟩ hpr
        have hne := nodes_eq v
        have hf : ∀ t, FitsOn 46 ts (.slice A ts.length c) t pl (fun y => fitV ts pl y t) (v.keys ++ v.items) := by
          intro t y yk yi yr W hy hya hts
          have hm : nodes y ≤ N := by
            rcases List.mem_append.1 hy with h | h
            · have := nodesL_mem _ _ h; omega
            · have := nodesL_mem _ _ h; omega
          exact ih y hm ts A c t pl yk yi yr W hk hts hya
        rcases kind_cases hkn with h | h | h | h | h | h | h | h | h
        · cases pl with
          | true => exact rfit1true_any ts A c n v A1 A2 A3 n1 n2 n3 w hn h (hkk.trans h) hp (hrl rfl) ht hv hf
          | false => exact rfit1false_any ts A c n v A1 A2 A3 n1 n2 n3 w hn h (hkk.trans h) hp ht hv hf
        · cases pl with
          | true => exact rfit2true_any ts A c n v A1 A2 A3 n1 n2 n3 w hn h (hkk.trans h) hp (hrl rfl) ht hv hf
          | false => exact rfit2false_any ts A c n v A1 A2 A3 n1 n2 n3 w hn h (hkk.trans h) hp ht hv hf
        · cases pl with
          | true => exact rfit3true_any ts A c n v A1 A2 A3 n1 n2 n3 w hn h (hkk.trans h) hp (hrl rfl) ht hv hf
          | false => exact rfit3false_any ts A c n v A1 A2 A3 n1 n2 n3 w hn h (hkk.trans h) hp ht hv hf
        · cases pl with
          | true => exact rfit4true_any ts A c n v A1 A2 A3 n1 n2 n3 w hn h (hkk.trans h) hp (hrl rfl) ht hv hf
          | false => exact rfit4false_any ts A c n v A1 A2 A3 n1 n2 n3 w hn h (hkk.trans h) hp ht hv hf
        · cases pl with
          | true => exact rfit5true_any ts A c n v A1 A2 A3 n1 n2 n3 w hn h (hkk.trans h) hp (hrl rfl) ht hv hf
          | false => exact rfit5false_any ts A c n v A1 A2 A3 n1 n2 n3 w hn h (hkk.trans h) hp ht hv hf
        · cases pl with
          | true => exact rfit6true_any ts A c n v A1 A2 A3 n1 n2 n3 w hn h (hkk.trans h) hp (hrl rfl) ht hv hf
          | false => exact rfit6false_any ts A c n v A1 A2 A3 n1 n2 n3 w hn h (hkk.trans h) hp ht hv hf
        · cases pl with
          | true => exact rfit7true_any ts A c n v A1 A2 A3 n1 n2 n3 w hn h (hkk.trans h) hp (hrl rfl) ht hv hf
          | false => exact rfit7false_any ts A c n v A1 A2 A3 n1 n2 n3 w hn h (hkk.trans h) hp ht hv hf
        · cases pl with
          | true => exact rfit8true_any ts A c n v A1 A2 A3 n1 n2 n3 w hn h (hkk.trans h) hp (hrl rfl) ht hv hf
          | false => exact rfit8false_any ts A c n v A1 A2 A3 n1 n2 n3 w hn h (hkk.trans h) hp ht hv hf
        · cases pl with
          | true => exact rfit9true_any ts A c n v A1 A2 A3 n1 n2 n3 w hn h (hkk.trans h) hp (hrl rfl) ht hv hf
          | false => exact rfit9false_any ts A c n v A1 A2 A3 n1 n2 n3 w hn h (hkk.trans h) hp ht hv hf

set_option maxRecDepth 100000 in
set_option maxHeartbeats 400000 in
theorem rfits_any (v : Val) (ts : List Typ) (A : Option Addr) (c : Nat) (t : Int) (vk vi vr : Value) (w : World) (hk : Kinds ts) (ht : RdTyps w w.heap.size (.slice A ts.length c) ts) (hv : ValAt w w.heap.size v vk vi vr) :
    Calls Try.prog 16 #[.agg #[.slice A ts.length c], .int .i64 t, valA v vk vi vr] w fun e w' => e = .returned (.bool (fitV ts false v t)) ∧ Below w.heap.size w w' := by
  obtain ⟨A1, n1, A2, n2, A3, n3, rfl, rfl, rfl, -, -, -⟩ := hv.forms
  have h2b := fun (o1 o2 : Obj) => ((Below.refl w.heap.size w).alloc (Nat.le_refl _) o1).alloc (show w.heap.size ≤ (w.alloc o1).heap.size by simp) o2
  have HF := Lib.hid (fun W => rfit_any (nodes v) v (Nat.le_refl _) ts A c t false (.slice A1 v.keys.length n1) (.slice A2 v.items.length n2) (.slice A3 v.rest.length n3) W hk)
  have HV := Lib.hid hv
  have HT := Lib.hid ht
  clear hv ht hk
  go_enter Try.func16, Try.ntmps16
  go_wp2_with fail
  refine (HF.out _ (HT.out.on (h2b _ _)) (HV.out.on (h2b _ _))).mono ?_
  rintro e w2 ⟨rfl, hb2⟩
  go_wp2_with fail
  go_ret
  exact ⟨rfl, (h2b _ _).trans (hb2.mono (h2b _ _).size)⟩
set_option maxRecDepth 100000 in
set_option maxHeartbeats 400000 in
theorem rplain_any (v : Val) (ts : List Typ) (A : Option Addr) (c : Nat) (t : Int) (vk vi vr : Value) (w : World) (hk : Kinds ts) (ht : RdTyps w w.heap.size (.slice A ts.length c) ts) (hv : ValAt w w.heap.size v vk vi vr) :
    Calls Try.prog 17 #[.agg #[.slice A ts.length c], .int .i64 t, valA v vk vi vr] w fun e w' => e = .returned (.bool (fitV ts true v t)) ∧ Below w.heap.size w w' := by
  obtain ⟨A1, n1, A2, n2, A3, n3, rfl, rfl, rfl, -, -, -⟩ := hv.forms
  have h2b := fun (o1 o2 : Obj) => ((Below.refl w.heap.size w).alloc (Nat.le_refl _) o1).alloc (show w.heap.size ≤ (w.alloc o1).heap.size by simp) o2
  have HF := Lib.hid (fun W => rfit_any (nodes v) v (Nat.le_refl _) ts A c t true (.slice A1 v.keys.length n1) (.slice A2 v.items.length n2) (.slice A3 v.rest.length n3) W hk)
  have HV := Lib.hid hv
  have HT := Lib.hid ht
  clear hv ht hk
  go_enter Try.func17, Try.ntmps17
  go_wp2_with fail
  refine (HF.out _ (HT.out.on (h2b _ _)) (HV.out.on (h2b _ _))).mono ?_
  rintro e w2 ⟨rfl, hb2⟩
  go_wp2_with fail
  go_ret
  exact ⟨rfl, (h2b _ _).trans (hb2.mono (h2b _ _).size)⟩
end Go.Proofs.Ytjcoeolconelmaa

/- What fits, Fits and Plain of the program compute. What rest of the reference computes. No condition. -/
import Derived.Test.YtgeapglanckjpaaFitsB
import Derived.Test.YtgeapglanckjpaaGF
import Derived.Test.YtgeapglanckjpaaFitsD
import Derived.Deep.RegionHeld3
import Derived.Deep.Cut
import Derived.Deep.CutRange
set_option maxHeartbeats 1600000
namespace Go.Proofs.Ytgeapglanckjpaa
open Go.ChangeShapes Go.WideShapes Go.ChangeAt Go.RowKit
def KindIn (k : Int) : Prop := 1 ≤ k ∧ k ≤ 9
theorem kind_cases {k : Int} (h : KindIn k) : k = 1 ∨ k = 2 ∨ k = 3 ∨ k = 4 ∨ k = 5 ∨ k = 6 ∨ k = 7 ∨ k = 8 ∨ k = 9 := by
 unfold KindIn at h; omega
theorem proper_any (x : Val) (A1 A2 A3 : Option Addr) (n1 n2 n3 : Nat) (w : World) (hk : KindIn x.kind) :
  Calls Try.prog 46 #[valA x (.slice A1 x.keys.length n1) (.slice A2 x.items.length n2) (.slice A3 x.rest.length n3)] w fun e w' => e = .returned (.bool (properB x)) ∧ Below w.heap.size w w' := by
 rcases kind_cases hk with h | h | h | h | h | h | h | h | h
 ·
  exact proper1_any x A1 A2 A3 n1 n2 n3 w h
 ·
  exact proper2_any x A1 A2 A3 n1 n2 n3 w h
 ·
  exact proper3_any x A1 A2 A3 n1 n2 n3 w h
 ·
  exact proper4_any x A1 A2 A3 n1 n2 n3 w h
 ·
  exact proper5_any x A1 A2 A3 n1 n2 n3 w h
 ·
  exact proper6_any x A1 A2 A3 n1 n2 n3 w h
 ·
  exact proper7_any x A1 A2 A3 n1 n2 n3 w h
 ·
  exact proper8_any x A1 A2 A3 n1 n2 n3 w h
 exact proper9_any x A1 A2 A3 n1 n2 n3 w h
set_option maxRecDepth 100000 in
theorem fits_out (ts : List Typ) (A : Option Addr) (c : Nat) (t : Int) (v : Val) (pl : Bool) (vk vi vr : Value) (w : World) (hn : typAt ts t = none) (hv : ValAt w w.heap.size v vk vi vr) :
  Calls Try.prog 26 #[.agg #[.slice A ts.length c], .int .i64 t, valA v vk vi vr, .bool pl] w fun e w' => e = .returned (.bool false) ∧ Below w.heap.size w w' := by
 obtain ⟨A1, n1, A2, n2, A3, n3, rfl, rfl, rfl, -, -, -⟩ := hv.forms
 have h2b := al2 w
 clear hv
 by_cases h0 : t < 0
 ·
  clear hn
  go_enter Try.func26, Try.ntmps26
  go_wp2_with fail
  go_ret
  exact ⟨rfl, h2b _ _⟩
 obtain ⟨n, rfl⟩ : ∃ n : Nat, t = n := ⟨t.toNat, by omega⟩
 have hlt : ts.length ≤ n := by
  simpa [typAt] using hn
 have hd0 : decide ((n : Int) < 0) = false := by simp
 have hd1 : decide (ts.length ≤ n) = true := by simpa using hlt
 clear hn h0
 go_enter Try.func26, Try.ntmps26
 go_wp2_with fail
 go_ret
 exact ⟨rfl, h2b _ _⟩
set_option maxRecDepth 100000 in
theorem fits_no (ts : List Typ) (A : Option Addr) (c n : Nat) (v : Val) (pl : Bool) (A1 A2 A3 : Option Addr) (n1 n2 n3 : Nat) (w : World) (hn : n < ts.length) (hk : KindIn ts[n].kind) (hno : (decide (v.kind = ts[n].kind) && properB v) = false)
  (ht : RdTyps w w.heap.size (.slice A ts.length c) ts) :
  Calls Try.prog 26 #[.agg #[.slice A ts.length c], .int .i64 n, valA v (.slice A1 v.keys.length n1) (.slice A2 v.items.length n2) (.slice A3 v.rest.length n3), .bool pl] w fun e w' => e = .returned (.bool false) ∧ Below w.heap.size w w' := by
 have h3b := al3 w
 obtain ⟨b, o, rfl, hbb, hel⟩ := ht.elem (by omega)
 obtain ⟨vs, vm, hcells, hx⟩ := hel n hn
 clear hel
 generalize ts[n] = x at *
 obtain ⟨C1, l1, C2, l2, rfl, rfl, -, -⟩ := hx.forms
 obtain ⟨c0, c1, c2, c3, c4, c5, c6, c7, c8, c9⟩ := hcells
 have hlt : (n : Int) < ts.length := by omega
 have hd0 : decide ((n : Int) < 0) = false := by simp
 have hd1 : decide (ts.length ≤ n) = false := by simpa using hn
 by_cases hkk : v.kind = x.kind
 ·
  rw [decide_eq_true hkk, Bool.true_and] at hno
  have HP := Lib.hid (fun W => proper_any v A1 A2 A3 n1 n2 n3 W (by rw [hkk]; exact hk))
  have hne : (v.kind != x.kind) = false := by simp [hkk]
  simp only [valA, hno] at HP ⊢
  clear ht hx hno hkk hk
  go_enter Try.func26, Try.ntmps26
  go_wp2_with fail
  refine (HP.out _).mono ?_
  rintro e w2 ⟨rfl, hb2⟩
  go_wp2_with fail
  go_ret
  exact ⟨rfl, (h3b _ _ _).trans (hb2.mono (h3b _ _ _).size)⟩
 have hne : (v.kind != x.kind) = true := by simpa using hkk
 clear ht hx hno hkk hk
 go_enter Try.func26, Try.ntmps26
 go_wp2_with fail
 go_ret
 exact ⟨rfl, h3b _ _ _⟩
def Kinds (ts : List Typ) : Prop := ∀ x ∈ ts, KindIn x.kind
theorem fits_any : ∀ (N : Nat) (v : Val), nodes v ≤ N → ∀ (ts : List Typ) (A : Option Addr) (c : Nat) (t : Int) (pl : Bool) (vk vi vr : Value) (w : World), Kinds ts →
  RdTyps w w.heap.size (.slice A ts.length c) ts → ValAt w w.heap.size v vk vi vr →
  Calls Try.prog 26 #[.agg #[.slice A ts.length c], .int .i64 t, valA v vk vi vr, .bool pl] w fun e w' => e = .returned (.bool (fitV ts pl v t)) ∧ Below w.heap.size w w' := by
 intro N
 induction N with
 | zero => intro v h; have := nodes_pos v; omega
 | succ N ih =>
  intro v hN ts A c t pl vk vi vr w hk ht hv
  cases hta : typAt ts t with
  | none =>
   rw [show fitV ts pl v t = false by rw [fitV_eq, hta]]
   exact fits_out ts A c t v pl vk vi vr w hta hv
  | some x =>
   obtain ⟨n, rfl, hn, rfl⟩ : ∃ n : Nat, t = n ∧ ∃ hn : n < ts.length, ts[n] = x := by
    unfold typAt at hta
    split at hta
    ·
     obtain ⟨h1, h2⟩ := List.getElem?_eq_some_iff.1 hta
     exact ⟨t.toNat, by omega, h1, h2⟩
    cases hta
   have hkn : KindIn ts[n].kind := hk _ (List.getElem_mem hn)
   obtain ⟨A1, n1, A2, n2, A3, n3, rfl, rfl, rfl, -, -, -⟩ := hv.forms
   have heq : fitV ts pl v n = ((decide (v.kind = ts[n].kind) && properB v) && bodyV ts pl ts[n] v) := by
    rw [fitV_eq, hta, Bool.and_assoc]
   rw [heq]
   cases hno : (decide (v.kind = ts[n].kind) && properB v) with
   | false =>
    rw [Bool.false_and]
    exact fits_no ts A c n v pl A1 A2 A3 n1 n2 n3 w hn hkn hno ht
   | true =>
    rw [Bool.true_and]
    simp only [Bool.and_eq_true, decide_eq_true_eq] at hno
    obtain ⟨hkk, hp⟩ := hno
    have hne := nodes_eq v
    have hf : ∀ t, FitsOn 26 ts (.slice A ts.length c) t pl (fun y => fitV ts pl y t) (v.keys ++ v.items) := by
     intro t y yk yi yr W hy hya hts
     have hm : nodes y ≤ N := by
      rcases List.mem_append.1 hy with h | h
      ·
       have := nodesL_mem _ _ h; omega
      have := nodesL_mem _ _ h; omega
     exact ih y hm ts A c t pl yk yi yr W hk hts hya
    rcases kind_cases hkn with h | h | h | h | h | h | h | h | h
    ·
     exact fits1_any ts A c n v pl A1 A2 A3 n1 n2 n3 w hn h (hkk.trans h) hp ht hv hf
    ·
     exact fits2_any ts A c n v pl A1 A2 A3 n1 n2 n3 w hn h (hkk.trans h) hp ht hv hf
    ·
     exact fits3_any ts A c n v pl A1 A2 A3 n1 n2 n3 w hn h (hkk.trans h) hp ht hv hf
    ·
     exact fits4_any ts A c n v pl A1 A2 A3 n1 n2 n3 w hn h (hkk.trans h) hp ht hv hf
    ·
     cases pl with
     | true => exact fits5true_any ts A c n v A1 A2 A3 n1 n2 n3 w hn h (hkk.trans h) hp ht hv hf
     | false => exact fits5false_any ts A c n v A1 A2 A3 n1 n2 n3 w hn h (hkk.trans h) hp ht hv hf
    ·
     exact fits6_any ts A c n v pl A1 A2 A3 n1 n2 n3 w hn h (hkk.trans h) hp ht hv hf
    ·
     exact fits7_any ts A c n v pl A1 A2 A3 n1 n2 n3 w hn h (hkk.trans h) hp ht hv hf
    ·
     exact fits8_any ts A c n v pl A1 A2 A3 n1 n2 n3 w hn h (hkk.trans h) hp ht hv hf
    exact fits9_any ts A c n v pl A1 A2 A3 n1 n2 n3 w hn h (hkk.trans h) hp ht hv hf
set_option maxRecDepth 100000 in
theorem vfits_any (v : Val) (ts : List Typ) (A : Option Addr) (c : Nat) (t : Int) (vk vi vr : Value) (w : World) (hk : Kinds ts) (ht : RdTyps w w.heap.size (.slice A ts.length c) ts) (hv : ValAt w w.heap.size v vk vi vr) :
  Calls Try.prog 9 #[.agg #[.slice A ts.length c], .int .i64 t, valA v vk vi vr] w fun e w' => e = .returned (.bool (fitV ts false v t)) ∧ Below w.heap.size w w' := by
 obtain ⟨A1, n1, A2, n2, A3, n3, rfl, rfl, rfl, -, -, -⟩ := hv.forms
 have h2b := al2 w
 have HF := Lib.hid (fun W => fits_any (nodes v) v (Nat.le_refl _) ts A c t false (.slice A1 v.keys.length n1) (.slice A2 v.items.length n2) (.slice A3 v.rest.length n3) W hk)
 have HV := Lib.hid hv
 have HT := Lib.hid ht
 clear hv ht hk
 go_enter Try.func9, Try.ntmps9
 go_wp2_with fail
 refine (HF.out _ (HT.out.on (h2b _ _)) (HV.out.on (h2b _ _))).mono ?_
 rintro e w2 ⟨rfl, hb2⟩
 go_wp2_with fail
 go_ret
 exact ⟨rfl, (h2b _ _).trans (hb2.mono (h2b _ _).size)⟩
set_option maxRecDepth 100000 in
theorem vplain_any (v : Val) (ts : List Typ) (A : Option Addr) (c : Nat) (t : Int) (vk vi vr : Value) (w : World) (hk : Kinds ts) (ht : RdTyps w w.heap.size (.slice A ts.length c) ts) (hv : ValAt w w.heap.size v vk vi vr) :
  Calls Try.prog 8 #[.agg #[.slice A ts.length c], .int .i64 t, valA v vk vi vr] w fun e w' => e = .returned (.bool (fitV ts true v t)) ∧ Below w.heap.size w w' := by
 obtain ⟨A1, n1, A2, n2, A3, n3, rfl, rfl, rfl, -, -, -⟩ := hv.forms
 have h2b := al2 w
 have HF := Lib.hid (fun W => fits_any (nodes v) v (Nat.le_refl _) ts A c t true (.slice A1 v.keys.length n1) (.slice A2 v.items.length n2) (.slice A3 v.rest.length n3) W hk)
 have HV := Lib.hid hv
 have HT := Lib.hid ht
 clear hv ht hk
 go_enter Try.func8, Try.ntmps8
 go_wp2_with fail
 refine (HF.out _ (HT.out.on (h2b _ _)) (HV.out.on (h2b _ _))).mono ?_
 rintro e w2 ⟨rfl, hb2⟩
 go_wp2_with fail
 go_ret
 exact ⟨rfl, (h2b _ _).trans (hb2.mono (h2b _ _).size)⟩
end Go.Proofs.Ytgeapglanckjpaa
namespace Go.Proofs.Ytgeapglanckjpaa
open Go.ChangeShapes Go.WideShapes Go.ChangeAt Go.RowKit
def optI (o : Option Nat) : Int := match o with | some k => k | none => 0
theorem pairV_eq (o : Option Nat) : pairV o = .tuple #[.int .i64 (optI o), .bool o.isSome] := by cases o <;> rfl
set_option maxRecDepth 100000 in
theorem rrest_any (x : Typ) (vs vm : Value) (l : List Raw) (vl : Value) (w : World) (hl : l.length ≤ 140737488351232) (hx : TypAt w w.heap.size x vs vm) (hr : Rd w w.heap.size 2 vl l.length (rawsV l)) :
  Calls Try.prog 53 #[typA x vs vm, vl] w fun e w' => e = .returned (.bool (restB x l none)) ∧ Below w.heap.size w w' := by
 obtain ⟨C1, m1, C2, m2, rfl, rfl, -, -⟩ := hx.forms
 obtain ⟨A, cap, rfl, hcap⟩ := hr.form
 have h01 := (Below.refl w.heap.size w).alloc (Nat.le_refl _) (.cells #[.int .i64 x.kind, .string ⟨x.name.toArray⟩, .int .i64 x.low, .int .i64 x.high, .int .i64 x.max, .slice C1 x.syms.length m1, .slice C2 x.mems.length m2, .int .i64 x.key, .int .i64 x.elem, .bool x.opn] 64)
 have hY := Has.made w 64 #[.int .i64 x.kind, .string ⟨x.name.toArray⟩, .int .i64 x.low, .int .i64 x.high, .int .i64 x.max, .slice C1 x.syms.length m1, .slice C2 x.mems.length m2, .int .i64 x.key, .int .i64 x.elem, .bool x.opn]
 have HX := Lib.hid (hx.on h01)
 have HR := Lib.hid ((hr.below h01).mono h01.size)
 clear hx hr
 go_enter Try.func53, Try.ntmps53
 go_wp2_with fail
 generalize w.alloc (.cells #[.int .i64 x.kind, .string ⟨x.name.toArray⟩, .int .i64 x.low, .int .i64 x.high, .int .i64 x.max, .slice C1 x.syms.length m1, .slice C2 x.mems.length m2, .int .i64 x.key, .int .i64 x.elem, .bool x.opn] 64) = w1 at *
 have hz1 := hY.here
 have HY := Lib.hid hY
 clear hY
 go_loopw [5] (fun i wr => ∃ k : Nat, i = .int .i64 k ∧ k ≤ l.length ∧ restB x l none = restB x (l.drop k) (prevOf l k) ∧ Below w1.heap.size w1 wr) (fun i _ => l.length - (intOf i).toNat)
 case atStart => exact ⟨0, rfl, by omega, rfl, Below.refl _ _⟩
 case round =>
  obtain ⟨k, rfl, hk, hix, hb⟩ := hrel
  have q0 := (HY.out.below hb hz1).cell 0
  have q1 := (HY.out.below hb hz1).cell 1
  have q2 := (HY.out.below hb hz1).cell 2
  have q3 := (HY.out.below hb hz1).cell 3
  have q4 := (HY.out.below hb hz1).cell 4
  have q5 := (HY.out.below hb hz1).cell 5
  have q6 := (HY.out.below hb hz1).cell 6
  have q7 := (HY.out.below hb hz1).cell 7
  have q8 := (HY.out.below hb hz1).cell 8
  have q9 := (HY.out.below hb hz1).cell 9
  simp only [gl3] at q0 q1 q2 q3 q4 q5 q6 q7 q8 q9
  have h0r := h01.trans (hb.mono h01.size)
  by_cases hlt : k < l.length
  ·
   obtain ⟨br, or, rfl, hbr0, her⟩ := (HR.out.below hb).at_ (by omega)
   have hbr : br < wr.heap.size := Nat.lt_of_lt_of_le hbr0 hb.size
   obtain ⟨r0, r1⟩ := rawV_at her k hlt
   rw [restB_at x l k hlt, ← prevOf_succ l k hlt] at hix
   rcases k with _ | j
   ·
    generalize l[0].1 = q at *
    generalize l[0].2 = z at *
    simp only [Nat.zero_mul, Nat.add_zero] at r0 r1
    have hi1 : (0 : Int) < l.length := by omega
    have Hix := Lib.hid hix
    clear her hix r1
    have hzw : w.heap.size < wr.heap.size := Nat.lt_of_lt_of_le hz1 hb.size
    have HM := Lib.hid (fun W h => rmember_any x (.slice C1 x.syms.length m1) (.slice C2 x.mems.length m2) q W h)
    simp only [typA, pairV_eq] at HM
    have HXr := Lib.hid (HX.out.on hb)
    have r0' : wr.cell? ⟨br, or, none⟩ = some (.int .i64 q) := by simpa using r0
    obtain ⟨wo, rfl⟩ : ∃ wo : World, wo = wr := ⟨_, rfl⟩
    go_upto_region 4 with (fail)
    go_cut [6, 7] from 8 to 49 (fun s6 s7 wx => s6 = .int .i64 (optI (memIdx x q)) ∧ s7 = .bool (memIdx x q).isSome ∧ Below wo.heap.size wo wx)
    case first =>
     go_region_held3 (fun w' => w'.cell? ⟨w.heap.size, 0, none⟩ = some (.int .i64 x.kind) ∧ w'.cell? ⟨w.heap.size, 1, none⟩ = some (.string ⟨x.name.toArray⟩) ∧ w'.cell? ⟨w.heap.size, 2, none⟩ = some (.int .i64 x.low) ∧ w'.cell? ⟨w.heap.size, 3, none⟩ = some (.int .i64 x.high) ∧ w'.cell? ⟨w.heap.size, 4, none⟩ = some (.int .i64 x.max) ∧ w'.cell? ⟨w.heap.size, 5, none⟩ = some (.slice C1 x.syms.length m1) ∧ w'.cell? ⟨w.heap.size, 6, none⟩ = some (.slice C2 x.mems.length m2) ∧ w'.cell? ⟨w.heap.size, 7, none⟩ = some (.int .i64 x.key) ∧ w'.cell? ⟨w.heap.size, 8, none⟩ = some (.int .i64 x.elem) ∧ w'.cell? ⟨w.heap.size, 9, none⟩ = some (.bool x.opn) ∧ w'.cell? ⟨br, or, none⟩ = some (.int .i64 q)) (first | (go_keep; done) | exact ⟨p0, p1, p2, p3, p4, p5, p6, p7, p8, p9, pr⟩)
      (first
       | (go_at_call 28; (with_reducible refine (HM.out _ (HXr.out.on (w' := wo.drew) (Below.refl _ _).drew)).mono ?_); rintro e wn ⟨rfl, hbn⟩; have hbn' : Below wo.heap.size wo wn := ((Below.refl wo.heap.size wo).drew).trans hbn; have p0 := (hbn'.cell (p := ⟨w.heap.size, 0, none⟩) hzw).trans q0; have p1 := (hbn'.cell (p := ⟨w.heap.size, 1, none⟩) hzw).trans q1; have p2 := (hbn'.cell (p := ⟨w.heap.size, 2, none⟩) hzw).trans q2; have p3 := (hbn'.cell (p := ⟨w.heap.size, 3, none⟩) hzw).trans q3; have p4 := (hbn'.cell (p := ⟨w.heap.size, 4, none⟩) hzw).trans q4; have p5 := (hbn'.cell (p := ⟨w.heap.size, 5, none⟩) hzw).trans q5; have p6 := (hbn'.cell (p := ⟨w.heap.size, 6, none⟩) hzw).trans q6; have p7 := (hbn'.cell (p := ⟨w.heap.size, 7, none⟩) hzw).trans q7; have p8 := (hbn'.cell (p := ⟨w.heap.size, 8, none⟩) hzw).trans q8; have p9 := (hbn'.cell (p := ⟨w.heap.size, 9, none⟩) hzw).trans q9; have pr := (hbn'.cell (p := ⟨br, or, none⟩) hbr).trans r0'; clear hbn))
     all_goals
      go_wp2_with fail
      go_meet
      exact ⟨rfl, rfl, hbn'⟩
    case rest =>
     obtain ⟨rfl, rfl, hb5⟩ := hcut
     obtain ⟨w5, rfl⟩ : ∃ w5 : World, w5 = wc := ⟨_, rfl⟩
     have hb05 := hb.trans (hb5.mono hb.size)
     have h05 := h0r.trans (hb5.mono h0r.size)
     have p0 := (hb5.cell (p := ⟨br, or, none⟩) hbr).trans r0'
     skip
     clear hb5 hb h0r r0 r0' q0 q1 q2 q3 q4 q5 q6 q7 q8 q9 HXr HM
     cases hmi : memIdx x q with
     | some i =>
      rw [hmi] at Hix
      simp only [Option.isSome_some]
      have HIq := fun (n : Nat) => Calls.quiet_of_same (n := n) ((rid_any q true (w5.drewN n)).mono fun _ _ ⟨h1, h2⟩ => ⟨h1, h2.symm⟩)
      simp only [Bool.not_true, Bool.false_and] at HIq
      have HIq := Lib.hid HIq
      clear hmi
      go_wp2_with fail
      go_quiet ((go_at_call 52; exact HIq.out _))
      go_wp2_with fail
      go_ret
      exact ⟨ret_bool (by rw [Hix.out]; rfl), below_drewN h05 _⟩
     | none =>
      rw [hmi] at Hix
      simp only [Option.isSome_none]
      have HIq := fun (n : Nat) => Calls.quiet_of_same (n := n) ((rid_any q false (w5.drewN n)).mono fun _ _ ⟨h1, h2⟩ => ⟨h1, h2.symm⟩)
      simp only [Bool.not_false, Bool.true_and] at HIq
      clear hmi
      cases hfr : freeB q
      ·
       rw [hfr] at HIq Hix
       have HIq := Lib.hid HIq
       clear hfr
       go_wp2_with fail
       go_quiet ((go_at_call 52; exact HIq.out _))
       go_wp2_with fail
       go_ret
       exact ⟨ret_bool (by rw [Hix.out]; rfl), below_drewN h05 _⟩
      rw [hfr] at HIq Hix
      have HIq := Lib.hid HIq
      clear hfr
      go_wp2_with fail
      go_quiet ((go_at_call 52; exact HIq.out _))
      go_wp2_with fail
      go_roundw
      case rel => exact ⟨1, by go_num, by omega, by rw [Hix.out]; simp [prevOf, ltP], below_drewN hb05 _⟩
      case measure => simp [intOf]; omega
   obtain ⟨s0, -⟩ := rawV_at her j (by omega)
   have Hpp : Hid (prevOf l (j+1) = some l[j].1) := prevOf_succ l j (by omega)
   generalize l[j+1].1 = q at *
   generalize l[j+1].2 = z at *
   generalize l[j].1 = u at *
   have hi1 : (j : Int) + 1 < l.length := by omega
   have hi2 : (j : Int) < l.length := by omega
   have hw0 : IntKind.i64.wrap (j : Int) = j := IntWalk.i64_in _ (by omega)
   have hw1 : IntKind.i64.wrap ((j : Int) + 1 - 1) = j := by rw [Int.add_sub_cancel]; exact hw0
   have hw2 : ((j : Int) + 1).toNat = j + 1 := by omega
   have hw3 : 0 ≤ (j : Int) + 1 := by omega
   have hw4 : decide ((0 : Int) < (j : Int) + 1) = true := decide_eq_true (by omega)
   rw [Hpp.out] at hix
   have Hix := Lib.hid hix
   clear her hix r1
   have hzw : w.heap.size < wr.heap.size := Nat.lt_of_lt_of_le hz1 hb.size
   have HM := Lib.hid (fun W h => rmember_any x (.slice C1 x.syms.length m1) (.slice C2 x.mems.length m2) q W h)
   simp only [typA, pairV_eq] at HM
   have HXr := Lib.hid (HX.out.on hb)
   have r0' : wr.cell? ⟨br, or + (j + 1) * 2, none⟩ = some (.int .i64 q) := by simpa using r0
   obtain ⟨wo, rfl⟩ : ∃ wo : World, wo = wr := ⟨_, rfl⟩
   go_upto_region 4 with (fail)
   go_cut [6, 7] from 8 to 49 (fun s6 s7 wx => s6 = .int .i64 (optI (memIdx x q)) ∧ s7 = .bool (memIdx x q).isSome ∧ Below wo.heap.size wo wx)
   case first =>
    go_region_held3 (fun w' => w'.cell? ⟨w.heap.size, 0, none⟩ = some (.int .i64 x.kind) ∧ w'.cell? ⟨w.heap.size, 1, none⟩ = some (.string ⟨x.name.toArray⟩) ∧ w'.cell? ⟨w.heap.size, 2, none⟩ = some (.int .i64 x.low) ∧ w'.cell? ⟨w.heap.size, 3, none⟩ = some (.int .i64 x.high) ∧ w'.cell? ⟨w.heap.size, 4, none⟩ = some (.int .i64 x.max) ∧ w'.cell? ⟨w.heap.size, 5, none⟩ = some (.slice C1 x.syms.length m1) ∧ w'.cell? ⟨w.heap.size, 6, none⟩ = some (.slice C2 x.mems.length m2) ∧ w'.cell? ⟨w.heap.size, 7, none⟩ = some (.int .i64 x.key) ∧ w'.cell? ⟨w.heap.size, 8, none⟩ = some (.int .i64 x.elem) ∧ w'.cell? ⟨w.heap.size, 9, none⟩ = some (.bool x.opn) ∧ w'.cell? ⟨br, or + (j + 1) * 2, none⟩ = some (.int .i64 q)) (first | (go_keep; done) | exact ⟨p0, p1, p2, p3, p4, p5, p6, p7, p8, p9, pr⟩)
     (first
      | (go_at_call 28; (with_reducible refine (HM.out _ (HXr.out.on (w' := wo.drew) (Below.refl _ _).drew)).mono ?_); rintro e wn ⟨rfl, hbn⟩; have hbn' : Below wo.heap.size wo wn := ((Below.refl wo.heap.size wo).drew).trans hbn; have p0 := (hbn'.cell (p := ⟨w.heap.size, 0, none⟩) hzw).trans q0; have p1 := (hbn'.cell (p := ⟨w.heap.size, 1, none⟩) hzw).trans q1; have p2 := (hbn'.cell (p := ⟨w.heap.size, 2, none⟩) hzw).trans q2; have p3 := (hbn'.cell (p := ⟨w.heap.size, 3, none⟩) hzw).trans q3; have p4 := (hbn'.cell (p := ⟨w.heap.size, 4, none⟩) hzw).trans q4; have p5 := (hbn'.cell (p := ⟨w.heap.size, 5, none⟩) hzw).trans q5; have p6 := (hbn'.cell (p := ⟨w.heap.size, 6, none⟩) hzw).trans q6; have p7 := (hbn'.cell (p := ⟨w.heap.size, 7, none⟩) hzw).trans q7; have p8 := (hbn'.cell (p := ⟨w.heap.size, 8, none⟩) hzw).trans q8; have p9 := (hbn'.cell (p := ⟨w.heap.size, 9, none⟩) hzw).trans q9; have pr := (hbn'.cell (p := ⟨br, or + (j + 1) * 2, none⟩) hbr).trans r0'; clear hbn))
    all_goals
     go_wp2_with fail
     go_meet
     exact ⟨rfl, rfl, hbn'⟩
   case rest =>
    obtain ⟨rfl, rfl, hb5⟩ := hcut
    obtain ⟨w5, rfl⟩ : ∃ w5 : World, w5 = wc := ⟨_, rfl⟩
    have hb05 := hb.trans (hb5.mono hb.size)
    have h05 := h0r.trans (hb5.mono h0r.size)
    have p0 := (hb5.cell (p := ⟨br, or + (j + 1) * 2, none⟩) hbr).trans r0'
    have ps := (hb5.cell (p := ⟨br, or + j * 2, none⟩) hbr).trans s0
    clear hb5 hb h0r r0 r0' q0 q1 q2 q3 q4 q5 q6 q7 q8 q9 HXr HM
    cases hmi : memIdx x q with
    | some i =>
     rw [hmi] at Hix
     simp only [Option.isSome_some]
     have HIq := fun (n : Nat) => Calls.quiet_of_same (n := n) ((rid_any q true (w5.drewN n)).mono fun _ _ ⟨h1, h2⟩ => ⟨h1, h2.symm⟩)
     simp only [Bool.not_true, Bool.false_and] at HIq
     have HIq := Lib.hid HIq
     clear hmi
     go_wp2_with fail
     go_quiet ((go_at_call 52; exact HIq.out _))
     go_wp2_with fail
     go_ret
     exact ⟨ret_bool (by rw [Hix.out]; rfl), below_drewN h05 _⟩
    | none =>
     rw [hmi] at Hix
     simp only [Option.isSome_none]
     have HIq := fun (n : Nat) => Calls.quiet_of_same (n := n) ((rid_any q false (w5.drewN n)).mono fun _ _ ⟨h1, h2⟩ => ⟨h1, h2.symm⟩)
     simp only [Bool.not_false, Bool.true_and] at HIq
     clear hmi
     cases hfr : freeB q
     ·
      rw [hfr] at HIq Hix
      have HIq := Lib.hid HIq
      clear hfr
      go_wp2_with fail
      go_quiet ((go_at_call 52; exact HIq.out _))
      go_wp2_with fail
      go_ret
      exact ⟨ret_bool (by rw [Hix.out]; rfl), below_drewN h05 _⟩
     rw [hfr] at HIq Hix
     have HIq := Lib.hid HIq
     clear hfr
     by_cases hlq : u < q
     ·
      have hd : decide (q ≤ u) = false := decide_eq_false (by omega)
      simp only [ltP, decide_eq_true hlq, Option.isSome_none, Bool.not_false, Bool.true_and] at Hix
      go_wp2_with fail
      go_quiet ((go_at_call 52; exact HIq.out _))
      clear hw0 hw1 hw2 hw3 hw4
      go_wp2_with fail
      go_roundw
      case rel => exact ⟨j + 1 + 1, by go_num, by omega, Hix.out, below_drewN hb05 _⟩
      case measure => simp [intOf]; omega
     have hd : decide (q ≤ u) = true := decide_eq_true (by omega)
     simp only [ltP, decide_eq_false hlq, Bool.false_and, Bool.and_false] at Hix
     go_wp2_with fail
     go_quiet ((go_at_call 52; exact HIq.out _))
     clear hw0 hw1 hw2 hw3 hw4
     go_wp2_with fail
     go_ret
     exact ⟨ret_bool (by rw [Hix.out]), below_drewN h05 _⟩
  rw [List.drop_eq_nil_of_le (by omega), restB] at hix
  have Hix := Lib.hid hix
  clear hix
  go_wp2_with fail
  go_ret
  exact ⟨ret_bool (by rw [Hix.out]), h0r⟩
end Go.Proofs.Ytgeapglanckjpaa

/- What sheaveref07.Valid computes. What value.Defaults and its reference compute. No condition. -/
import Derived.Test.YtjajgclchapllaaOwn
import Derived.Test.YtjajgclchapllaaGK
import Derived.Test.YtjajgclchapllaaValid
import Derived.Test.YtjajgclchapllaaGS
import Derived.Test.YtjajgclchapllaaGA
import Derived.Test.YtjajgclchapllaaGI
import Derived.Test.YtjajgclchapllaaGQ
namespace Go.Proofs.Ytjajgclchapllaa
open Go.ChangeShapes Go.WideShapes Go.ChangeAt Go.RowKit
theorem form_kind {x : Typ} (h : formB x = true) : KindIn x.kind := by
 unfold formB at h; unfold KindIn
 simp only [Bool.and_eq_true, decide_eq_true_eq] at h
 exact h.1
theorem name_ne {l : List UInt8} (h : nameB l = true) : l ≠ [] := by
 rintro rfl
 rw [name_no [] (.inl rfl)] at h; cases h
theorem form_name {x : Typ} (h : formB x = true) : namedI x.kind = true ↔ x.name ≠ [] := by
 have hk := form_kind h
 rw [form_of x hk] at h
 simp only [Bool.and_eq_true] at h
 obtain ⟨h1, h2⟩ := h
 unfold okT at h1
 unfold sameZ restT at h2
 unfold namedI
 rcases kind_cases hk with k | k | k | k | k | k | k | k | k <;> simp [k] at h1 h2 ⊢ <;> first | exact name_ne h1.1 | (simp [typZ] at h2; simp [h2])
theorem not_in_succ2 (L : List (List UInt8)) (q : Nat) (h : q < L.length) (n : List UInt8) (h1 : (L.take q).contains n = false) (h2 : ¬ L[q] = n) : (L.take (q + 1)).contains n = false := by
 rw [List.take_succ_eq_append_getElem h, List.contains_eq_mem] at *
 simp only [List.mem_append, List.mem_singleton, decide_eq_false_iff_not] at *
 rintro (h3 | h3)
 ·
  exact h1 h3
 ·
  exact h2 h3.symm
theorem in_take2 (L : List (List UInt8)) (q k : Nat) (h : q < L.length) (hk : q < k) (n : List UInt8) (h2 : L[q] = n) : (L.take k).contains n = true := by
 rw [List.contains_eq_mem, decide_eq_true_eq, ← h2]
 rw [List.mem_take_iff_getElem]
 exact ⟨q, by omega, rfl⟩
set_option maxRecDepth 100000 in
set_option maxHeartbeats 4000000 in
theorem rvalid_any (ts : List Typ) (A : Option Addr) (c : Nat) (w : World) (hs : Sizes ts) (ht : RdTyps w w.heap.size (.slice A ts.length c) ts) :
  Calls Try.prog 39 #[.agg #[.slice A ts.length c]] w fun e w' => e = .returned (.int .i64 (validE ts)) ∧ Below w.heap.size w w' := by
 have HT := Lib.hid ht
 have HS := Lib.hid hs
 by_cases h32 : 32 < ts.length
 ·
  have Hv : Hid (validE ts = 3) := by show _ = _; unfold validE; rw [if_pos h32]
  have hd : (32 : Int) < ts.length := by omega
  have hd2 : decide ((32 : Int) < ts.length) = true := decide_eq_true hd
  clear ht hs
  go_enter Try.func39, Try.ntmps39
  go_upto_region 1 with fail
  have hb61 := below_al (Below.refl w.heap.size w) (Nat.le_refl _) (.cells #[.slice A ts.length c] 30)
  have S := Has.made w 30 #[.slice A ts.length c]
  have hw62 := hb61
  replace S := Lib.hid S
  clear hb61
  generalize (w.alloc (.cells #[.slice A ts.length c] 30)) = wd63 at *
  have cS_0 : wd63.cell? ⟨w.heap.size, 0, none⟩ = some (.slice A ts.length c) := S.out.cell 0
  go_wp2_with fail
  go_ret
  exact ⟨ret_int (Hv.out.symm), hw62⟩
 have Hv : Hid (validE ts = validK ts ts []) := by show _ = _; unfold validE; rw [if_neg h32]
 have hd : (ts.length : Int) ≤ 32 := by omega
 have hd2 : decide ((32 : Int) < ts.length) = false := decide_eq_false (by omega)
 clear hs h32
 by_cases hz : ts.length = 0
 ·
  have Hv0 : Hid (validE ts = 0) := by show _ = _; rw [Hv.out, List.eq_nil_of_length_eq_zero hz, validK]
  rw [hz]
  clear ht hd hd2
  go_enter Try.func39, Try.ntmps39
  go_upto_region 1 with fail
  have hb64 := below_al (Below.refl w.heap.size w) (Nat.le_refl _) (.cells #[.slice A 0 c] 30)
  have S := Has.made w 30 #[.slice A 0 c]
  have hw65 := hb64
  replace S := Lib.hid S
  clear hb64
  generalize (w.alloc (.cells #[.slice A 0 c] 30)) = wd66 at *
  have cS_0 : wd66.cell? ⟨w.heap.size, 0, none⟩ = some (.slice A 0 c) := S.out.cell 0
  go_wp2_with fail
  refine wp_loop_rounds 1 ?_
  rw [rounds_succ]
  go_wp2_with fail
  go_ret
  exact ⟨ret_int Hv0.out.symm, hw65⟩
 obtain ⟨b, o, rfl, hbb, hel⟩ := ht.elem (by omega)
 have HEL := Lib.hid hel
 clear ht hel
 go_enter Try.func39, Try.ntmps39
 go_upto_region 1 with fail
 have hb67 := below_al (Below.refl w.heap.size w) (Nat.le_refl _) (.cells #[.slice (some ⟨b, o, none⟩) ts.length c] 30)
 have S := Has.made w 30 #[.slice (some ⟨b, o, none⟩) ts.length c]
 have hw68 := hb67
 replace S := Lib.hid S
 clear hb67
 generalize (w.alloc (.cells #[.slice (some ⟨b, o, none⟩) ts.length c] 30)) = wd69 at *
 have cS_0 : wd69.cell? ⟨w.heap.size, 0, none⟩ = some (.slice (some ⟨b, o, none⟩) ts.length c) := S.out.cell 0
 have HS0 := Lib.hid S.out
 have hB0 := hw68
 go_wp2_with fail
 clear cS_0
 go_loopw [3] (fun i wr => ∃ k : Nat, k ≤ ts.length ∧ i = .int .i64 k ∧ Has wr w.heap.size 30 #[.slice (some ⟨b, o, none⟩) ts.length c] ∧ validK ts ts [] = validK ts (ts.drop k) ((ts.take k).map Typ.name) ∧ Below w.heap.size w wr) (fun i _ => ts.length - (intOf i).toNat)
 case atStart => exact ⟨0, by omega, rfl, HS0.out, rfl, hB0⟩
 case round =>
  clear S hB0 HS0
  obtain ⟨k, hk, rfl, S, hvk, hw⟩ := hrel
  replace S := Lib.hid S
  by_cases hlt : k < ts.length
  ·
   obtain ⟨vs, vm, hcells, hxa⟩ := HEL.out k hlt
   have hsz := HS.out _ (List.getElem_mem hlt)
   have Hxn := Lib.hid (tnames_succ ts k hlt)
   rw [List.drop_eq_getElem_cons hlt] at hvk
   obtain ⟨x, hxq⟩ : ∃ x, ts[k] = x := ⟨_, rfl⟩
   rw [hxq] at hcells hxa hsz Hxn hvk
   clear hxq
   obtain ⟨C1, m1, C2, m2, rfl, rfl, -, -⟩ := hxa.forms
   obtain ⟨c0, c1, c2, c3, c4, c5, c6, c7, c8, c9⟩ := hcells.below hw hbb
   have HXA := Lib.hid hxa
   have Hvk := Lib.hid hvk
   have hi1 : (k : Int) < ts.length := by omega
   have hi0 : (0 : Int) ≤ (k : Int) := by omega
   have hnl := hxa.namel
   clear hxa hvk hcells
   have cS_0 : wr.cell? ⟨w.heap.size, 0, none⟩ = some (.slice (some ⟨b, o, none⟩) ts.length c) := S.out.cell 0
   go_upto_region 7 with fail
   clear cS_0
   have hb70 := below_al (Below.refl wr.heap.size wr) (Nat.le_refl _) (.cells #[.int .i64 x.kind, .string ⟨x.name.toArray⟩, .int .i64 x.low, .int .i64 x.high, .int .i64 x.max, .slice C1 x.syms.length m1, .slice C2 x.mems.length m2, .int .i64 x.key, .int .i64 x.elem, .bool x.opn] 67)
   have X := Has.made wr 67 #[.int .i64 x.kind, .string ⟨x.name.toArray⟩, .int .i64 x.low, .int .i64 x.high, .int .i64 x.max, .slice C1 x.syms.length m1, .slice C2 x.mems.length m2, .int .i64 x.key, .int .i64 x.elem, .bool x.opn]
   have hl72 := S.out.here
   have hl73 := hw.size
   replace S := Lib.hid (S.out.below hb70 S.out.here)
   replace hw := hw.trans (hb70.mono hw.size)
   replace X := Lib.hid X
   clear hb70
   generalize (wr.alloc (.cells #[.int .i64 x.kind, .string ⟨x.name.toArray⟩, .int .i64 x.low, .int .i64 x.high, .int .i64 x.max, .slice C1 x.syms.length m1, .slice C2 x.mems.length m2, .int .i64 x.key, .int .i64 x.elem, .bool x.opn] 67)) = wd74 at *
   generalize wr.heap.size = g71 at *
   clear c0 c1 c2 c3 c4 c5 c6 c7 c8 c9
   obtain ⟨cX_0, cX_1, cX_2, cX_3, cX_4, cX_5, cX_6, cX_7, cX_8, cX_9⟩ := X.out.c10
   go_wp2_with fail
   clear cX_0 cX_1 cX_2 cX_3 cX_4 cX_5 cX_6 cX_7 cX_8 cX_9
   ((with_reducible refine (own_any x _ _ _ (HXA.out.on hw)).mono ?_); rintro e wd75 ⟨rfl, hb76⟩)
   replace S := Lib.hid (S.out.below hb76 S.out.here)
   replace X := Lib.hid (X.out.below hb76 X.out.here)
   replace hw := hw.trans (hb76.mono hw.size)
   clear hb76
   cases hf : formB x with
   | false =>
    have Hr : Hid (validE ts = 1) := by show _ = _; rw [Hv.out, Hvk.out, vk1 ts _ x _ (.inl hf)]
    clear hf
    go_wp2_with fail
    go_ret
    exact ⟨ret_int (Hr.out.symm), hw⟩
   | true =>
    have hfn := form_name hf
    have HKI := Lib.hid (form_kind hf)
    have Hf := Lib.hid hf
    clear hf
    cases hnm : namedI x.kind with
    | false =>
     have hnn : x.name = [] := by
      rcases Classical.em (x.name = []) with h | h
      ·
       exact h
      ·
       rw [hfn.2 h] at hnm; cases hnm
     have HNB : Hid (¬ (formB x = false ∨ (x.name ≠ [] ∧ ((ts.take k).map Typ.name).contains x.name = true))) := fun h => by
      rcases h with h | h
      ·
       rw [Hf.out] at h; cases h
      ·
       exact h.1 hnn
     clear hnn hfn
     have HN := Lib.hid (fun W => named2_any x.kind W)
     rw [hnm] at HN
     have HX0 := Lib.hid X.out
     have HS0 := Lib.hid S.out
     have hB0 := hw
     obtain ⟨gX, hgX⟩ : ∃ g, g = g71 := ⟨_, rfl⟩
     subst hgX
     go_wp2_with fail
     go_loopw [5] (fun j ws => ∃ q : Nat, q ≤ k ∧ j = .int .i64 q ∧ True ∧ Has ws w.heap.size 30 #[.slice (some ⟨b, o, none⟩) ts.length c] ∧ Has ws gX 67 #[.int .i64 x.kind, .string ⟨x.name.toArray⟩, .int .i64 x.low, .int .i64 x.high, .int .i64 x.max, .slice C1 x.syms.length m1, .slice C2 x.mems.length m2, .int .i64 x.key, .int .i64 x.elem, .bool x.opn] ∧ Below w.heap.size w ws) (fun j _ => k - (intOf j).toNat)
     case atStart => exact ⟨0, by omega, rfl, trivial, HS0.out, HX0.out, hB0⟩
     case round =>
      clear X S HX0 HS0 hB0
      obtain ⟨q, hq, rfl, hnc, S, X, hb⟩ := hrel
      replace S := Lib.hid S
      replace X := Lib.hid X
      by_cases hqk : q < k
      ·
       have hql : q < ts.length := by omega
       have hq1 : (q : Int) < k := by omega
       have hq2 : (q : Int) < ts.length := by omega
       have hq0 : (0 : Int) ≤ (q : Int) := by omega
       have cX_0 : wr.cell? ⟨gX, 0, none⟩ = some (.int .i64 x.kind) := X.out.cell 0
       go_upto_region 12 with fail
       refine wp_region_held_drew (S := (fun w' => w'.cell? ⟨gX, 0, none⟩ = some (.int .i64 x.kind) ∧ (∀ (b o : Nat), b < w.heap.size → w'.cell? ⟨b, o, none⟩ = w.cell? ⟨b, o, none⟩))) (by kernel_rfl) ⟨cX_0, (fun b o hlt => hb.cell (p := ⟨b, o, none⟩) hlt)⟩ (fun hHeld => ?_)
       clear cX_0
       have hb77 : Below wr.heap.size wr (wr.drew) := (Below.refl _ _).drew
       replace S := Lib.hid (S.out.below hb77 S.out.here)
       replace X := Lib.hid (X.out.below hb77 X.out.here)
       replace hb := hb.trans (hb77.mono hb.size)
       clear hb77
       generalize wr.drew = wd78 at *
       refine tk (i := 0) (v := ?vk79) ?hk79 ?_
       case hk79 => intro w hS; (try dsimp only at hS); go_simp; (first | done | with_reducible rfl)
       simp only [put_laws2]
       refine tk (i := 1) (v := ?vk80) ?hk80 ?_
       case hk80 => intro w hS; (try dsimp only at hS); go_simp; (first | done | with_reducible rfl)
       simp only [put_laws2]
       refine wpAnyH_ready (rs := [2]) (by kernel_rfl) (by simp) ?_
       refine AllReadyH.cons rfl (fun K hK => ?_) (AllReadyH.nil)
       go_simp
       ((with_reducible refine (HN.out _).mono ?_); rintro e wd81 ⟨rfl, rfl⟩)
       try clear hHeld
       refine hK.out _ _ ⟨X.out.cell 0, (fun b o hlt => hb.cell (p := ⟨b, o, none⟩) hlt)⟩ (fun hHeld => ?_)
       clear hK K
       refine tk (i := 3) (v := ?vk83) ?hk83 ?_
       case hk83 => intro w hS; (try dsimp only at hS); go_simp; (first | done | with_reducible rfl)
       simp only [put_laws2]
       refine tks (i := 4) ?_
       simp only [put_laws2]
       refine tks (i := 5) ?_
       simp only [put_laws2]
       refine tks (i := 6) ?_
       simp only [put_laws2]
       refine tks (i := 7) ?_
       simp only [put_laws2]
       refine tks (i := 8) ?_
       simp only [put_laws2]
       refine tks (i := 9) ?_
       simp only [put_laws2]
       refine tks (i := 10) ?_
       simp only [put_laws2]
       refine tks (i := 11) ?_
       simp only [put_laws2]
       refine tks (i := 12) ?_
       simp only [put_laws2]
       refine tk (i := 13) (v := ?vk84) ?hk84 ?_
       case hk84 => intro w hS; (try dsimp only at hS); go_simp; (first | done | with_reducible rfl)
       simp only [put_laws2]
       refine wpAnyH_done (by kernel_rfl) ?_ _
       try clear hHeld
       go_wp2_with fail
       go_roundw
       case rel => exact ⟨q + 1, by omega, by go_num, trivial, S.out, X.out, hb⟩
       case measure => simp [intOf]; omega
      ·
       obtain rfl : k = q := by omega
       clear hnc
       obtain ⟨cX_0, cX_1, cX_2, cX_3, cX_4, cX_5, cX_6, cX_7, cX_8, cX_9⟩ := X.out.c10
       go_wp2_with fail
       clear cX_0 cX_1 cX_2 cX_3 cX_4 cX_5 cX_6 cX_7 cX_8 cX_9
       ((with_reducible refine (ruses_any x _ _ _ HKI.out hsz.2 (HXA.out.on hb)).mono ?_); rintro e wd85 ⟨vu, rfl, hru, hb86⟩)
       replace S := Lib.hid (S.out.below hb86 S.out.here)
       replace X := Lib.hid (X.out.below hb86 X.out.here)
       replace hb := hb.trans (hb86.mono hb.size)
       clear hb86
       have hul := uses_len x hsz.2
       have HIN := Lib.hid (key_in x)
       obtain ⟨l, hlq⟩ : ∃ l, usesL x = l := ⟨_, rfl⟩
       rw [hlq] at hru hul HIN
       have Hlq := Lib.hid hlq
       obtain ⟨Au, cu, rfl, _⟩ := hru.form
       clear hlq
       have HX0 := Lib.hid X.out
       have HS0 := Lib.hid S.out
       have hB0 := hb
       have HU0 := Lib.hid hru
       clear hru
       go_wp2_with fail
       go_loopw [7] (fun j ws => ∃ q : Nat, q ≤ l.length ∧ j = .int .i64 q ∧ (l.take q).all (inB ts.length) = true ∧ Has ws w.heap.size 30 #[.slice (some ⟨b, o, none⟩) ts.length c] ∧ Has ws gX 67 #[.int .i64 x.kind, .string ⟨x.name.toArray⟩, .int .i64 x.low, .int .i64 x.high, .int .i64 x.max, .slice C1 x.syms.length m1, .slice C2 x.mems.length m2, .int .i64 x.key, .int .i64 x.elem, .bool x.opn] ∧ Rd ws ws.heap.size 1 (.slice Au l.length cu) l.length (l.map (Value.int .i64)) ∧ Below w.heap.size w ws) (fun j _ => l.length - (intOf j).toNat)
       case atStart => exact ⟨0, by omega, rfl, rfl, HS0.out, HX0.out, HU0.out, hB0⟩
       case round =>
        clear X S HX0 HS0 HU0 hB0
        obtain ⟨q, hq, rfl, hall, S, X, hru, hb⟩ := hrel
        replace S := Lib.hid S
        replace X := Lib.hid X
        by_cases hql : q < l.length
        ·
         obtain ⟨bu, ou, rfl, hbu, hcu⟩ := hru.at_ (by omega)
         have cu0 := ints_at hcu q hql
         have hmem := List.getElem_mem hql
         have htk : (l.take (q + 1)).all (inB ts.length) = ((l.take q).all (inB ts.length) && inB ts.length l[q]) := by rw [List.take_succ_eq_append_getElem hql, List.all_append]; simp
         have hq1 : (q : Int) < l.length := by omega
         have hq0 : (0 : Int) ≤ (q : Int) := by omega
         generalize l[q] = u at *
         clear hcu
         cases hin : inB ts.length u with
         | true =>
          obtain ⟨un, rfl, hun⟩ := inB_nat hin
          have Hall : Hid ((l.take (q + 1)).all (inB ts.length) = true) := by show _ = _; rw [htk, hall, hin]; rfl
          have hu0 : decide ((un : Int) < 0) = false := decide_eq_false (by omega)
          have hu1 : decide (ts.length ≤ un) = false := decide_eq_false (by omega)
          have hu2 : decide ((ts.length : Int) ≤ (un : Int)) = false := decide_eq_false (by omega)
          have HRU := Lib.hid hru
          clear hall htk hin hmem hru
          have cS_0 : wr.cell? ⟨w.heap.size, 0, none⟩ = some (.slice (some ⟨b, o, none⟩) ts.length c) := S.out.cell 0
          go_upto_region 18 with fail
          go_quiet (fail)
          go_wp2_with fail
          go_roundw
          case rel => exact ⟨q + 1, by omega, by go_num, Hall.out, S.out.drewN _, X.out.drewN _, HRU.out.keep (fun _ _ => rfl), below_drewN hb _⟩
          case measure => simp [intOf]; omega
         | false =>
          have Hr : Hid (validE ts = 4) := by show _ = _; rw [Hv.out, Hvk.out, vk4 ts _ x _ HNB.out (by rw [Hlq.out]; exact bad_use l _ u hmem hin)]
          by_cases hu0 : u < 0
          ·
           have hu1 : decide (u < 0) = true := decide_eq_true hu0
           clear hall htk hin hmem hru
           have cS_0 : wr.cell? ⟨w.heap.size, 0, none⟩ = some (.slice (some ⟨b, o, none⟩) ts.length c) := S.out.cell 0
           go_upto_region 18 with fail
           go_quiet (fail)
           go_wp2_with fail
           go_ret
           exact ⟨ret_int Hr.out.symm, below_drewN hb _⟩
          ·
           obtain ⟨un, rfl⟩ : ∃ un : Nat, u = un := ⟨u.toNat, by omega⟩
           have hu2 : ts.length ≤ un := by
            rcases Nat.lt_or_ge un ts.length with h | h
            ·
             exfalso; unfold inB at hin; simp at hin; omega
            ·
             exact h
           have hu1 : decide ((un : Int) < 0) = false := decide_eq_false (by omega)
           have hu3 : decide (ts.length ≤ un) = true := decide_eq_true hu2
           have hu4 : decide ((ts.length : Int) ≤ (un : Int)) = true := decide_eq_true (by omega)
           clear hall htk hin hmem hu0 hru
           have cS_0 : wr.cell? ⟨w.heap.size, 0, none⟩ = some (.slice (some ⟨b, o, none⟩) ts.length c) := S.out.cell 0
           go_upto_region 18 with fail
           go_quiet (fail)
           go_wp2_with fail
           go_ret
           exact ⟨ret_int Hr.out.symm, below_drewN hb _⟩
        ·
         obtain rfl : q = l.length := by omega
         rw [List.take_of_length_le (Nat.le_refl _)] at hall
         have HALL : Hid ((usesL x).all (inB ts.length) = true) := by show _ = _; rw [Hlq.out]; exact hall
         clear hru
         by_cases h8 : x.kind = 8
         ·
          have t8 : (x.kind == 8) = true := by simp [h8]
          obtain ⟨kn, hkn, hkl⟩ := inB_nat (List.all_eq_true.1 hall x.key (HIN.out h8))
          have hko := keyOk_at ts x kn hkl hkn
          obtain ⟨ys, ym, hyc, -⟩ := HEL.out kn hkl
          have d0 := ((hb).cell (p := ⟨b, _, none⟩) hbb).trans hyc.1
          have hkn0 : (kn : Int) < ts.length := by omega
          have hkn1 : (0 : Int) ≤ (kn : Int) := by omega
          have H8 := Lib.hid h8
          have cS_0 : wr.cell? ⟨w.heap.size, 0, none⟩ = some (.slice (some ⟨b, o, none⟩) ts.length c) := S.out.cell 0
          have cX_0 : wr.cell? ⟨gX, 0, none⟩ = some (.int .i64 x.kind) := X.out.cell 0
          have cX_7 : wr.cell? ⟨gX, 7, none⟩ = some (.int .i64 x.key) := X.out.cell 7
          rw [hkn] at cX_7
          have HK := fun W => keykind_any ts[kn].kind W
          generalize ts[kn].kind = yk at *
          have HK := Lib.hid HK
          clear hall h8 hyc hkn
          cases hy : (decide (1 ≤ yk) && decide (yk ≤ 4)) with
          | false =>
           have Hr : Hid (validE ts = 1) := by show _ = _; rw [Hv.out, Hvk.out, vk1' ts _ x _ HNB.out HALL.out ⟨H8.out, by rw [hko, hy]⟩]
           rw [hy] at HK
           clear hko hy
           go_wp2_with fail
           clear cS_0 cX_0 cX_7
           ((with_reducible refine (HK.out _).mono ?_); rintro e wd87 ⟨rfl, rfl⟩)
           go_wp2_with fail
           go_ret
           exact ⟨ret_int Hr.out.symm, hb⟩
          | true =>
           have HK8 : Hid (¬ (x.kind = 8 ∧ keyOk ts x = false)) := fun h => by
            have h2 := h.2
            rw [hko, hy] at h2
            cases h2
           rw [hy] at HK
           clear hko hy
           go_wp2_with fail
           clear cS_0 cX_0 cX_7
           ((with_reducible refine (HK.out _).mono ?_); rintro e wd89 ⟨rfl, rfl⟩)
           go_wp2_with fail
           go_roundw
           case rel => exact ⟨k + 1, by omega, by go_num, S.out, by rw [Hvk.out, vk0 ts _ x _ HNB.out HALL.out HK8.out, Hxn.out], hb⟩
           case measure => simp [intOf]; omega
         ·
          have t8 : (x.kind == 8) = false := by simpa using h8
          have HK8 : Hid (¬ (x.kind = 8 ∧ keyOk ts x = false)) := fun h => h8 h.1
          clear hall h8
          have cX_0 : wr.cell? ⟨gX, 0, none⟩ = some (.int .i64 x.kind) := X.out.cell 0
          go_wp2_with fail
          go_roundw
          case rel => exact ⟨k + 1, by omega, by go_num, S.out, by rw [Hvk.out, vk0 ts _ x _ HNB.out HALL.out HK8.out, Hxn.out], hb⟩
          case measure => simp [intOf]; omega
    | true =>
     have hne := hfn.1 hnm
     clear hfn
     have HN := Lib.hid (fun W => named2_any x.kind W)
     rw [hnm] at HN
     have HX0 := Lib.hid X.out
     have HS0 := Lib.hid S.out
     have hB0 := hw
     obtain ⟨gX, hgX⟩ : ∃ g, g = g71 := ⟨_, rfl⟩
     subst hgX
     go_wp2_with fail
     go_loopw [5] (fun j ws => ∃ q : Nat, q ≤ k ∧ j = .int .i64 q ∧ ((ts.map Typ.name).take q).contains x.name = false ∧ Has ws w.heap.size 30 #[.slice (some ⟨b, o, none⟩) ts.length c] ∧ Has ws gX 67 #[.int .i64 x.kind, .string ⟨x.name.toArray⟩, .int .i64 x.low, .int .i64 x.high, .int .i64 x.max, .slice C1 x.syms.length m1, .slice C2 x.mems.length m2, .int .i64 x.key, .int .i64 x.elem, .bool x.opn] ∧ Below w.heap.size w ws) (fun j _ => k - (intOf j).toNat)
     case atStart => exact ⟨0, by omega, rfl, rfl, HS0.out, HX0.out, hB0⟩
     case round =>
      clear X S HX0 HS0 hB0
      obtain ⟨q, hq, rfl, hnc, S, X, hb⟩ := hrel
      replace S := Lib.hid S
      replace X := Lib.hid X
      by_cases hqk : q < k
      ·
       have hql : q < ts.length := by omega
       have hq1 : (q : Int) < k := by omega
       have hq2 : (q : Int) < ts.length := by omega
       have hq0 : (0 : Int) ≤ (q : Int) := by omega
       obtain ⟨ys, ym, hyc, -⟩ := HEL.out q hql
       have y1 := hyc.2.1
       obtain ⟨p, hp⟩ : ∃ p, ts[q].name = p := ⟨_, rfl⟩
       rw [hp] at y1
       clear hyc
       by_cases hps : p = x.name
       ·
        have tps : (p == x.name) = true := by simp [hps]
        have hin := in_take2 (ts.map Typ.name) q k (by simpa using hql) hqk x.name (by simpa [hp] using hps)
        rw [← List.map_take] at hin
        have Hr : Hid (validE ts = 1) := by show _ = _; rw [Hv.out, Hvk.out, vk1 ts _ x _ (.inr ⟨hne, hin⟩)]
        have Hp := Lib.hid hp
        clear hin hps hnc hp
        have cS_0 : wr.cell? ⟨w.heap.size, 0, none⟩ = some (.slice (some ⟨b, o, none⟩) ts.length c) := S.out.cell 0
        have cX_0 : wr.cell? ⟨gX, 0, none⟩ = some (.int .i64 x.kind) := X.out.cell 0
        have cX_1 : wr.cell? ⟨gX, 1, none⟩ = some (.string ⟨x.name.toArray⟩) := X.out.cell 1
        go_upto_region 12 with fail
        refine wp_region_held_drew (S := (fun w' => w'.cell? ⟨w.heap.size, 0, none⟩ = some (.slice (some ⟨b, o, none⟩) ts.length c) ∧ w'.cell? ⟨gX, 0, none⟩ = some (.int .i64 x.kind) ∧ w'.cell? ⟨gX, 1, none⟩ = some (.string ⟨x.name.toArray⟩) ∧ (∀ (b o : Nat), b < w.heap.size → w'.cell? ⟨b, o, none⟩ = w.cell? ⟨b, o, none⟩))) (by kernel_rfl) ⟨cS_0, cX_0, cX_1, (fun b o hlt => hb.cell (p := ⟨b, o, none⟩) hlt)⟩ (fun hHeld => ?_)
        clear cS_0 cX_0 cX_1
        have hb91 : Below wr.heap.size wr (wr.drew) := (Below.refl _ _).drew
        replace S := Lib.hid (S.out.below hb91 S.out.here)
        replace X := Lib.hid (X.out.below hb91 X.out.here)
        replace hb := hb.trans (hb91.mono hb.size)
        clear hb91
        generalize wr.drew = wd92 at *
        refine tk (i := 0) (v := ?vk93) ?hk93 ?_
        case hk93 => intro w hS; (try dsimp only at hS); go_simp; (first | done | with_reducible rfl)
        simp only [put_laws2]
        refine tk (i := 1) (v := ?vk94) ?hk94 ?_
        case hk94 => intro w hS; (try dsimp only at hS); go_simp; (first | done | with_reducible rfl)
        simp only [put_laws2]
        refine wpAnyH_ready (rs := [2]) (by kernel_rfl) (by simp) ?_
        refine AllReadyH.cons rfl (fun K hK => ?_) (AllReadyH.nil)
        go_simp
        ((with_reducible refine (HN.out _).mono ?_); rintro e wd95 ⟨rfl, rfl⟩)
        try clear hHeld
        refine hK.out _ _ ⟨S.out.cell 0, X.out.cell 0, X.out.cell 1, (fun b o hlt => hb.cell (p := ⟨b, o, none⟩) hlt)⟩ (fun hHeld => ?_)
        clear hK K
        refine tk (i := 3) (v := ?vk97) ?hk97 ?_
        case hk97 => intro w hS; (try dsimp only at hS); go_simp; (first | done | with_reducible rfl)
        simp only [put_laws2]
        refine tk (i := 4) (v := ?vk98) ?hk98 ?_
        case hk98 => intro w hS; (try dsimp only at hS); go_simp; (first | done | with_reducible rfl)
        simp only [put_laws2]
        refine tk (i := 5) (v := ?vk99) ?hk99 ?_
        case hk99 => intro w hS; (try dsimp only at hS); go_simp; (first | done | with_reducible rfl)
        simp only [put_laws2]
        refine tk (i := 6) (v := ?vk100) ?hk100 ?_
        case hk100 => intro w hS; (try dsimp only at hS); go_simp; (first | done | with_reducible rfl)
        simp only [put_laws2]
        refine tk (i := 7) (v := ?vk101) ?hk101 ?_
        case hk101 => intro w hS; (try dsimp only at hS); go_simp; (first | done | with_reducible rfl)
        simp only [put_laws2]
        refine tk (i := 8) (v := ?vk102) ?hk102 ?_
        case hk102 => intro w hS; (try dsimp only at hS); go_simp; (first | done | with_reducible rfl)
        simp only [put_laws2]
        refine tk (i := 9) (v := ?vk103) ?hk103 ?_
        case hk103 => intro w hS; (try dsimp only at hS); go_simp; (first | done | with_reducible rfl)
        simp only [put_laws2]
        refine tk (i := 10) (v := ?vk104) ?hk104 ?_
        case hk104 => intro w hS; (try dsimp only at hS); go_simp; (first | done | with_reducible rfl)
        simp only [put_laws2]
        refine tk (i := 11) (v := ?vk105) ?hk105 ?_
        case hk105 => intro w hS; (try dsimp only at hS); go_simp; (first | done | with_reducible rfl)
        simp only [put_laws2]
        refine tk (i := 12) (v := ?vk106) ?hk106 ?_
        case hk106 => intro w hS; (try dsimp only at hS); go_simp; (first | done | with_reducible rfl)
        simp only [put_laws2]
        refine tk (i := 13) (v := ?vk107) ?hk107 ?_
        case hk107 => intro w hS; (try dsimp only at hS); go_simp; (first | done | with_reducible rfl)
        simp only [put_laws2]
        refine wpAnyH_done (by kernel_rfl) ?_ _
        try clear hHeld
        clear y1
        go_wp2_with fail
        go_ret
        exact ⟨ret_int Hr.out.symm, hb⟩
       ·
        have tps : (p == x.name) = false := by simpa using hps
        have Hnc : Hid (((ts.map Typ.name).take (q + 1)).contains x.name = false) := not_in_succ2 (ts.map Typ.name) q (by simpa using hql) x.name hnc (by simpa [hp] using hps)
        have Hp := Lib.hid hp
        clear hps hnc hp
        have cS_0 : wr.cell? ⟨w.heap.size, 0, none⟩ = some (.slice (some ⟨b, o, none⟩) ts.length c) := S.out.cell 0
        have cX_0 : wr.cell? ⟨gX, 0, none⟩ = some (.int .i64 x.kind) := X.out.cell 0
        have cX_1 : wr.cell? ⟨gX, 1, none⟩ = some (.string ⟨x.name.toArray⟩) := X.out.cell 1
        go_upto_region 12 with fail
        refine wp_region_held_drew (S := (fun w' => w'.cell? ⟨w.heap.size, 0, none⟩ = some (.slice (some ⟨b, o, none⟩) ts.length c) ∧ w'.cell? ⟨gX, 0, none⟩ = some (.int .i64 x.kind) ∧ w'.cell? ⟨gX, 1, none⟩ = some (.string ⟨x.name.toArray⟩) ∧ (∀ (b o : Nat), b < w.heap.size → w'.cell? ⟨b, o, none⟩ = w.cell? ⟨b, o, none⟩))) (by kernel_rfl) ⟨cS_0, cX_0, cX_1, (fun b o hlt => hb.cell (p := ⟨b, o, none⟩) hlt)⟩ (fun hHeld => ?_)
        clear cS_0 cX_0 cX_1
        have hb108 : Below wr.heap.size wr (wr.drew) := (Below.refl _ _).drew
        replace S := Lib.hid (S.out.below hb108 S.out.here)
        replace X := Lib.hid (X.out.below hb108 X.out.here)
        replace hb := hb.trans (hb108.mono hb.size)
        clear hb108
        generalize wr.drew = wd109 at *
        refine tk (i := 0) (v := ?vk110) ?hk110 ?_
        case hk110 => intro w hS; (try dsimp only at hS); go_simp; (first | done | with_reducible rfl)
        simp only [put_laws2]
        refine tk (i := 1) (v := ?vk111) ?hk111 ?_
        case hk111 => intro w hS; (try dsimp only at hS); go_simp; (first | done | with_reducible rfl)
        simp only [put_laws2]
        refine wpAnyH_ready (rs := [2]) (by kernel_rfl) (by simp) ?_
        refine AllReadyH.cons rfl (fun K hK => ?_) (AllReadyH.nil)
        go_simp
        ((with_reducible refine (HN.out _).mono ?_); rintro e wd112 ⟨rfl, rfl⟩)
        try clear hHeld
        refine hK.out _ _ ⟨S.out.cell 0, X.out.cell 0, X.out.cell 1, (fun b o hlt => hb.cell (p := ⟨b, o, none⟩) hlt)⟩ (fun hHeld => ?_)
        clear hK K
        refine tk (i := 3) (v := ?vk114) ?hk114 ?_
        case hk114 => intro w hS; (try dsimp only at hS); go_simp; (first | done | with_reducible rfl)
        simp only [put_laws2]
        refine tk (i := 4) (v := ?vk115) ?hk115 ?_
        case hk115 => intro w hS; (try dsimp only at hS); go_simp; (first | done | with_reducible rfl)
        simp only [put_laws2]
        refine tk (i := 5) (v := ?vk116) ?hk116 ?_
        case hk116 => intro w hS; (try dsimp only at hS); go_simp; (first | done | with_reducible rfl)
        simp only [put_laws2]
        refine tk (i := 6) (v := ?vk117) ?hk117 ?_
        case hk117 => intro w hS; (try dsimp only at hS); go_simp; (first | done | with_reducible rfl)
        simp only [put_laws2]
        refine tk (i := 7) (v := ?vk118) ?hk118 ?_
        case hk118 => intro w hS; (try dsimp only at hS); go_simp; (first | done | with_reducible rfl)
        simp only [put_laws2]
        refine tk (i := 8) (v := ?vk119) ?hk119 ?_
        case hk119 => intro w hS; (try dsimp only at hS); go_simp; (first | done | with_reducible rfl)
        simp only [put_laws2]
        refine tk (i := 9) (v := ?vk120) ?hk120 ?_
        case hk120 => intro w hS; (try dsimp only at hS); go_simp; (first | done | with_reducible rfl)
        simp only [put_laws2]
        refine tk (i := 10) (v := ?vk121) ?hk121 ?_
        case hk121 => intro w hS; (try dsimp only at hS); go_simp; (first | done | with_reducible rfl)
        simp only [put_laws2]
        refine tk (i := 11) (v := ?vk122) ?hk122 ?_
        case hk122 => intro w hS; (try dsimp only at hS); go_simp; (first | done | with_reducible rfl)
        simp only [put_laws2]
        refine tk (i := 12) (v := ?vk123) ?hk123 ?_
        case hk123 => intro w hS; (try dsimp only at hS); go_simp; (first | done | with_reducible rfl)
        simp only [put_laws2]
        refine tk (i := 13) (v := ?vk124) ?hk124 ?_
        case hk124 => intro w hS; (try dsimp only at hS); go_simp; (first | done | with_reducible rfl)
        simp only [put_laws2]
        refine wpAnyH_done (by kernel_rfl) ?_ _
        try clear hHeld
        clear y1
        go_wp2_with fail
        go_roundw
        case rel => exact ⟨q + 1, by omega, by go_num, Hnc.out, S.out, X.out, hb⟩
        case measure => simp [intOf]; omega
      ·
       obtain rfl : k = q := by omega
       have HNB : Hid (¬ (formB x = false ∨ (x.name ≠ [] ∧ ((ts.take k).map Typ.name).contains x.name = true))) := fun h => by
        rcases h with h | h
        ·
         rw [Hf.out] at h; cases h
        ·
         rw [List.map_take, hnc] at h; cases h.2
       clear hnc
       obtain ⟨cX_0, cX_1, cX_2, cX_3, cX_4, cX_5, cX_6, cX_7, cX_8, cX_9⟩ := X.out.c10
       go_wp2_with fail
       clear cX_0 cX_1 cX_2 cX_3 cX_4 cX_5 cX_6 cX_7 cX_8 cX_9
       ((with_reducible refine (ruses_any x _ _ _ HKI.out hsz.2 (HXA.out.on hb)).mono ?_); rintro e wd125 ⟨vu, rfl, hru, hb126⟩)
       replace S := Lib.hid (S.out.below hb126 S.out.here)
       replace X := Lib.hid (X.out.below hb126 X.out.here)
       replace hb := hb.trans (hb126.mono hb.size)
       clear hb126
       have hul := uses_len x hsz.2
       have HIN := Lib.hid (key_in x)
       obtain ⟨l, hlq⟩ : ∃ l, usesL x = l := ⟨_, rfl⟩
       rw [hlq] at hru hul HIN
       have Hlq := Lib.hid hlq
       obtain ⟨Au, cu, rfl, _⟩ := hru.form
       clear hlq
       have HX0 := Lib.hid X.out
       have HS0 := Lib.hid S.out
       have hB0 := hb
       have HU0 := Lib.hid hru
       clear hru
       go_wp2_with fail
       go_loopw [7] (fun j ws => ∃ q : Nat, q ≤ l.length ∧ j = .int .i64 q ∧ (l.take q).all (inB ts.length) = true ∧ Has ws w.heap.size 30 #[.slice (some ⟨b, o, none⟩) ts.length c] ∧ Has ws gX 67 #[.int .i64 x.kind, .string ⟨x.name.toArray⟩, .int .i64 x.low, .int .i64 x.high, .int .i64 x.max, .slice C1 x.syms.length m1, .slice C2 x.mems.length m2, .int .i64 x.key, .int .i64 x.elem, .bool x.opn] ∧ Rd ws ws.heap.size 1 (.slice Au l.length cu) l.length (l.map (Value.int .i64)) ∧ Below w.heap.size w ws) (fun j _ => l.length - (intOf j).toNat)
       case atStart => exact ⟨0, by omega, rfl, rfl, HS0.out, HX0.out, HU0.out, hB0⟩
       case round =>
        clear X S HX0 HS0 HU0 hB0
        obtain ⟨q, hq, rfl, hall, S, X, hru, hb⟩ := hrel
        replace S := Lib.hid S
        replace X := Lib.hid X
        by_cases hql : q < l.length
        ·
         obtain ⟨bu, ou, rfl, hbu, hcu⟩ := hru.at_ (by omega)
         have cu0 := ints_at hcu q hql
         have hmem := List.getElem_mem hql
         have htk : (l.take (q + 1)).all (inB ts.length) = ((l.take q).all (inB ts.length) && inB ts.length l[q]) := by rw [List.take_succ_eq_append_getElem hql, List.all_append]; simp
         have hq1 : (q : Int) < l.length := by omega
         have hq0 : (0 : Int) ≤ (q : Int) := by omega
         generalize l[q] = u at *
         clear hcu
         cases hin : inB ts.length u with
         | true =>
          obtain ⟨un, rfl, hun⟩ := inB_nat hin
          have Hall : Hid ((l.take (q + 1)).all (inB ts.length) = true) := by show _ = _; rw [htk, hall, hin]; rfl
          have hu0 : decide ((un : Int) < 0) = false := decide_eq_false (by omega)
          have hu1 : decide (ts.length ≤ un) = false := decide_eq_false (by omega)
          have hu2 : decide ((ts.length : Int) ≤ (un : Int)) = false := decide_eq_false (by omega)
          have HRU := Lib.hid hru
          clear hall htk hin hmem hru
          have cS_0 : wr.cell? ⟨w.heap.size, 0, none⟩ = some (.slice (some ⟨b, o, none⟩) ts.length c) := S.out.cell 0
          go_upto_region 18 with fail
          go_quiet (fail)
          go_wp2_with fail
          go_roundw
          case rel => exact ⟨q + 1, by omega, by go_num, Hall.out, S.out.drewN _, X.out.drewN _, HRU.out.keep (fun _ _ => rfl), below_drewN hb _⟩
          case measure => simp [intOf]; omega
         | false =>
          have Hr : Hid (validE ts = 4) := by show _ = _; rw [Hv.out, Hvk.out, vk4 ts _ x _ HNB.out (by rw [Hlq.out]; exact bad_use l _ u hmem hin)]
          by_cases hu0 : u < 0
          ·
           have hu1 : decide (u < 0) = true := decide_eq_true hu0
           clear hall htk hin hmem hru
           have cS_0 : wr.cell? ⟨w.heap.size, 0, none⟩ = some (.slice (some ⟨b, o, none⟩) ts.length c) := S.out.cell 0
           go_upto_region 18 with fail
           go_quiet (fail)
           go_wp2_with fail
           go_ret
           exact ⟨ret_int Hr.out.symm, below_drewN hb _⟩
          ·
           obtain ⟨un, rfl⟩ : ∃ un : Nat, u = un := ⟨u.toNat, by omega⟩
           have hu2 : ts.length ≤ un := by
            rcases Nat.lt_or_ge un ts.length with h | h
            ·
             exfalso; unfold inB at hin; simp at hin; omega
            ·
             exact h
           have hu1 : decide ((un : Int) < 0) = false := decide_eq_false (by omega)
           have hu3 : decide (ts.length ≤ un) = true := decide_eq_true hu2
           have hu4 : decide ((ts.length : Int) ≤ (un : Int)) = true := decide_eq_true (by omega)
           clear hall htk hin hmem hu0 hru
           have cS_0 : wr.cell? ⟨w.heap.size, 0, none⟩ = some (.slice (some ⟨b, o, none⟩) ts.length c) := S.out.cell 0
           go_upto_region 18 with fail
           go_quiet (fail)
           go_wp2_with fail
           go_ret
           exact ⟨ret_int Hr.out.symm, below_drewN hb _⟩
        ·
         obtain rfl : q = l.length := by omega
         rw [List.take_of_length_le (Nat.le_refl _)] at hall
         have HALL : Hid ((usesL x).all (inB ts.length) = true) := by show _ = _; rw [Hlq.out]; exact hall
         clear hru
         by_cases h8 : x.kind = 8
         ·
          have t8 : (x.kind == 8) = true := by simp [h8]
          obtain ⟨kn, hkn, hkl⟩ := inB_nat (List.all_eq_true.1 hall x.key (HIN.out h8))
          have hko := keyOk_at ts x kn hkl hkn
          obtain ⟨ys, ym, hyc, -⟩ := HEL.out kn hkl
          have d0 := ((hb).cell (p := ⟨b, _, none⟩) hbb).trans hyc.1
          have hkn0 : (kn : Int) < ts.length := by omega
          have hkn1 : (0 : Int) ≤ (kn : Int) := by omega
          have H8 := Lib.hid h8
          have cS_0 : wr.cell? ⟨w.heap.size, 0, none⟩ = some (.slice (some ⟨b, o, none⟩) ts.length c) := S.out.cell 0
          have cX_0 : wr.cell? ⟨gX, 0, none⟩ = some (.int .i64 x.kind) := X.out.cell 0
          have cX_7 : wr.cell? ⟨gX, 7, none⟩ = some (.int .i64 x.key) := X.out.cell 7
          rw [hkn] at cX_7
          have HK := fun W => keykind_any ts[kn].kind W
          generalize ts[kn].kind = yk at *
          have HK := Lib.hid HK
          clear hall h8 hyc hkn
          cases hy : (decide (1 ≤ yk) && decide (yk ≤ 4)) with
          | false =>
           have Hr : Hid (validE ts = 1) := by show _ = _; rw [Hv.out, Hvk.out, vk1' ts _ x _ HNB.out HALL.out ⟨H8.out, by rw [hko, hy]⟩]
           rw [hy] at HK
           clear hko hy
           go_wp2_with fail
           clear cS_0 cX_0 cX_7
           ((with_reducible refine (HK.out _).mono ?_); rintro e wd127 ⟨rfl, rfl⟩)
           go_wp2_with fail
           go_ret
           exact ⟨ret_int Hr.out.symm, hb⟩
          | true =>
           have HK8 : Hid (¬ (x.kind = 8 ∧ keyOk ts x = false)) := fun h => by
            have h2 := h.2
            rw [hko, hy] at h2
            cases h2
           rw [hy] at HK
           clear hko hy
           go_wp2_with fail
           clear cS_0 cX_0 cX_7
           ((with_reducible refine (HK.out _).mono ?_); rintro e wd129 ⟨rfl, rfl⟩)
           go_wp2_with fail
           go_roundw
           case rel => exact ⟨k + 1, by omega, by go_num, S.out, by rw [Hvk.out, vk0 ts _ x _ HNB.out HALL.out HK8.out, Hxn.out], hb⟩
           case measure => simp [intOf]; omega
         ·
          have t8 : (x.kind == 8) = false := by simpa using h8
          have HK8 : Hid (¬ (x.kind = 8 ∧ keyOk ts x = false)) := fun h => h8 h.1
          clear hall h8
          have cX_0 : wr.cell? ⟨gX, 0, none⟩ = some (.int .i64 x.kind) := X.out.cell 0
          go_wp2_with fail
          go_roundw
          case rel => exact ⟨k + 1, by omega, by go_num, S.out, by rw [Hvk.out, vk0 ts _ x _ HNB.out HALL.out HK8.out, Hxn.out], hb⟩
          case measure => simp [intOf]; omega
  ·
   obtain rfl : k = ts.length := by omega
   have Hr : Hid (validE ts = 0) := by show _ = _; rw [Hv.out, hvk, List.drop_eq_nil_of_le (Nat.le_refl _), validK]
   clear hvk
   have cS_0 : wr.cell? ⟨w.heap.size, 0, none⟩ = some (.slice (some ⟨b, o, none⟩) ts.length c) := S.out.cell 0
   go_wp2_with fail
   go_ret
   exact ⟨ret_int Hr.out.symm, hw⟩
end Go.Proofs.Ytjajgclchapllaa
namespace Go.Proofs.Ytjajgclchapllaa
open Go.ChangeShapes Go.WideShapes Go.ChangeAt Go.RowKit
def defM (ts : List Typ) : List Mem → Option Int
 | [] => none
 | m :: r => if m.hasDef = true ∧ fitV ts true m.dflt m.ty = false then some m.id else defM ts r
def defT (ts : List Typ) : List Typ → Nat → Int × Int × Int
 | [], _ => (0, 0, 0)
 | x :: r, i => match defM ts x.mems with
  | some id => ((i : Int), id, 1)
  | none => defT ts r (i + 1)
def defE (ts : List Typ) : Int × Int × Int := if validE ts = 0 then defT ts ts 0 else (0, 0, validE ts)
theorem validK_form (ts : List Typ) : ∀ (l : List Typ) (S : List (List UInt8)), validK ts l S = 0 → ∀ x ∈ l, formB x = true ∧ (usesL x).all (inB ts.length) = true ∧ ¬ (x.kind = 8 ∧ keyOk ts x = false) := by
 intro l
 induction l with
 | nil => intro S _ x hx; simp at hx
 | cons y r ih =>
  intro S h x hx
  by_cases h1 : formB y = false ∨ (y.name ≠ [] ∧ S.contains y.name = true)
  ·
   rw [vk1 ts r y S h1] at h; cases h
  ·
   cases h2 : (usesL y).all (inB ts.length) with
   | false => rw [vk4 ts r y S h1 h2] at h; cases h
   | true =>
    by_cases h3 : y.kind = 8 ∧ keyOk ts y = false
    ·
     rw [vk1' ts r y S h1 h2 h3] at h; cases h
    ·
     rw [vk0 ts r y S h1 h2 h3] at h
     rcases List.mem_cons.1 hx with rfl | hx
     ·
      refine ⟨?_, h2, h3⟩
      cases hf : formB x with
      | true => rfl
      | false => exact absurd (.inl hf) h1
     ·
      exact ih _ h x hx
theorem valid_all {ts : List Typ} (h : validE ts = 0) : ts.length ≤ 32 ∧ ∀ x ∈ ts, formB x = true ∧ (usesL x).all (inB ts.length) = true ∧ ¬ (x.kind = 8 ∧ keyOk ts x = false) := by
 unfold validE at h
 by_cases h32 : 32 < ts.length
 ·
  rw [if_pos h32] at h; cases h
 ·
  rw [if_neg h32] at h
  exact ⟨by omega, validK_form ts ts [] h⟩
theorem valid_kinds {ts : List Typ} (h : validE ts = 0) : Kinds ts := fun x hx => form_kind ((valid_all h).2 x hx).1
theorem defM_no (ts _r : List Typ) (m : Mem) (l : List Mem) (h : m.hasDef = false ∨ fitV ts true m.dflt m.ty = true) : defM ts (m :: l) = defM ts l := by
 rw [defM, if_neg]
 rintro ⟨h1, h2⟩
 rcases h with h | h
 ·
  rw [h1] at h; cases h
 ·
  rw [h2] at h; cases h
theorem defM_yes (ts : List Typ) (m : Mem) (l : List Mem) (h1 : m.hasDef = true) (h2 : fitV ts true m.dflt m.ty = false) : defM ts (m :: l) = some m.id := by
 rw [defM, if_pos ⟨h1, h2⟩]
theorem defT_some (ts r : List Typ) (x : Typ) (k : Nat) (id : Int) (h : defM ts x.mems = some id) : defT ts (x :: r) k = ((k : Int), id, 1) := by rw [defT, h]
theorem defT_none (ts r : List Typ) (x : Typ) (k : Nat) (h : defM ts x.mems = none) : defT ts (x :: r) k = defT ts r (k + 1) := by rw [defT, h]
def DefPost (ts : List Typ) (w : World) (e : Ending) (w' : World) : Prop := e = .returned (.tuple #[.int .i64 (defE ts).1, .int .i64 (defE ts).2.1, .int .i64 (defE ts).2.2]) ∧ Below w.heap.size w w'
theorem DefPost.mk {ts : List Typ} {w w' : World} {a b c : Int} (h : defE ts = (a, b, c)) (hb : Below w.heap.size w w') : DefPost ts w (.returned (.tuple #[.int .i64 a, .int .i64 b, .int .i64 c])) w' := by
 refine ⟨?_, hb⟩; rw [h]
set_option maxRecDepth 100000 in
set_option maxHeartbeats 4000000 in
theorem vdefs_any (ts : List Typ) (A : Option Addr) (c : Nat) (w : World) (hs : Sizes ts) (ht : RdTyps w w.heap.size (.slice A ts.length c) ts) :
  Calls Try.prog 18 #[.agg #[.slice A ts.length c]] w (DefPost ts w) := by
 have HT := Lib.hid ht
 have HS := Lib.hid hs
 obtain ⟨ve, hve⟩ : ∃ ve, validE ts = ve := ⟨_, rfl⟩
 have hV := fun W h => valid_any ts A c W hs h
 simp only [hve] at hV
 have HV := Lib.hid hV
 clear hs ht hV
 by_cases hv0 : ve = 0
 case neg =>
  have t1 : (ve == 0) = false := by simpa using hv0
  have t2 : (ve != 0) = true := by simpa using hv0
  have Hd : Hid (defE ts = (0, 0, ve)) := by show _ = _; unfold defE; rw [hve, if_neg hv0]
  clear hve hv0
  go_enter Try.func18, Try.ntmps18
  go_upto_region 1 with fail
  have hb131 := below_al (Below.refl w.heap.size w) (Nat.le_refl _) (.cells #[.slice A ts.length c] 30)
  have S := Has.made w 30 #[.slice A ts.length c]
  have hw132 := hb131
  replace S := Lib.hid S
  clear hb131
  generalize (w.alloc (.cells #[.slice A ts.length c] 30)) = wd133 at *
  have cS_0 : wd133.cell? ⟨w.heap.size, 0, none⟩ = some (.slice A ts.length c) := S.out.cell 0
  go_wp2_with fail
  clear cS_0
  ((with_reducible refine (HV.out _ (HT.out.on hw132)).mono ?_); rintro e wd134 ⟨rfl, hb135⟩)
  replace S := Lib.hid (S.out.below hb135 S.out.here)
  replace hw132 := hw132.trans (hb135.mono hw132.size)
  clear hb135
  go_wp2_with fail
  go_ret3
  exact DefPost.mk Hd.out hw132
 subst hv0
 have HK := Lib.hid (valid_kinds hve)
 have h32 := (valid_all hve).1
 have h32i : (ts.length : Int) ≤ 32 := by omega
 have Hd : Hid (defE ts = defT ts ts 0) := by show _ = _; unfold defE; rw [hve]; rfl
 clear hve
 go_enter Try.func18, Try.ntmps18
 go_upto_region 1 with fail
 have hb136 := below_al (Below.refl w.heap.size w) (Nat.le_refl _) (.cells #[.slice A ts.length c] 30)
 have S := Has.made w 30 #[.slice A ts.length c]
 have hw137 := hb136
 replace S := Lib.hid S
 clear hb136
 generalize (w.alloc (.cells #[.slice A ts.length c] 30)) = wd138 at *
 have cS_0 : wd138.cell? ⟨w.heap.size, 0, none⟩ = some (.slice A ts.length c) := S.out.cell 0
 go_wp2_with fail
 clear cS_0
 ((with_reducible refine (HV.out _ (HT.out.on hw137)).mono ?_); rintro e wd139 ⟨rfl, hb140⟩)
 replace S := Lib.hid (S.out.below hb140 S.out.here)
 replace hw137 := hw137.trans (hb140.mono hw137.size)
 clear hb140
 have cS_0 : wd139.cell? ⟨w.heap.size, 0, none⟩ = some (.slice A ts.length c) := S.out.cell 0
 have HS0 := Lib.hid S.out
 have hB0 := hw137
 go_upto_region 5 with fail
 clear cS_0
 go_loopw [18] (fun i wr => ∃ k : Nat, k ≤ ts.length ∧ i = .int .i64 k ∧ Has wr w.heap.size 30 #[.slice A ts.length c] ∧ defT ts ts 0 = defT ts (ts.drop k) k ∧ Below w.heap.size w wr) (fun i _ => ts.length - (intOf i).toNat)
 case atStart => exact ⟨0, by omega, rfl, HS0.out, rfl, hB0⟩
 case round =>
  clear S hB0 HS0
  obtain ⟨k, hk, rfl, S, hdt, hw⟩ := hrel
  replace S := Lib.hid S
  by_cases hlt : k < ts.length
  ·
   obtain ⟨b, o, rfl, hbb, hel⟩ := HT.out.elem (by omega)
   obtain ⟨vs, vm, hcells, hxa⟩ := hel k hlt
   rw [List.drop_eq_getElem_cons hlt] at hdt
   generalize ts[k] = x at *
   obtain ⟨C1, m1, C2, m2, rfl, rfl, -, -⟩ := hxa.forms
   have HXA := Lib.hid hxa
   have Hdt := Lib.hid hdt
   have hi1 : (k : Int) < ts.length := by omega
   have hi0 : (0 : Int) ≤ (k : Int) := by omega
   have hls := hxa.lens
   obtain ⟨c0, c1, c2, c3, c4, c5, c6, c7, c8, c9⟩ := hcells.below hw hbb
   clear hxa hdt hcells hel
   have cS_0 : wr.cell? ⟨w.heap.size, 0, none⟩ = some (.slice (some ⟨b, o, none⟩) ts.length c) := S.out.cell 0
   go_upto_region 7 with fail
   clear cS_0
   have hb141 := below_al (Below.refl wr.heap.size wr) (Nat.le_refl _) (.cells #[.int .i64 x.kind, .string ⟨x.name.toArray⟩, .int .i64 x.low, .int .i64 x.high, .int .i64 x.max, .slice C1 x.syms.length m1, .slice C2 x.mems.length m2, .int .i64 x.key, .int .i64 x.elem, .bool x.opn] 67)
   have X := Has.made wr 67 #[.int .i64 x.kind, .string ⟨x.name.toArray⟩, .int .i64 x.low, .int .i64 x.high, .int .i64 x.max, .slice C1 x.syms.length m1, .slice C2 x.mems.length m2, .int .i64 x.key, .int .i64 x.elem, .bool x.opn]
   have hl143 := S.out.here
   have hl144 := hw.size
   replace S := Lib.hid (S.out.below hb141 S.out.here)
   replace hw := hw.trans (hb141.mono hw.size)
   replace X := Lib.hid X
   clear hb141
   generalize (wr.alloc (.cells #[.int .i64 x.kind, .string ⟨x.name.toArray⟩, .int .i64 x.low, .int .i64 x.high, .int .i64 x.max, .slice C1 x.syms.length m1, .slice C2 x.mems.length m2, .int .i64 x.key, .int .i64 x.elem, .bool x.opn] 67)) = wd145 at *
   generalize wr.heap.size = g142 at *
   clear c0 c1 c2 c3 c4 c5 c6 c7 c8 c9
   have cX_6 : wd145.cell? ⟨g142, 6, none⟩ = some (.slice C2 x.mems.length m2) := X.out.cell 6
   go_upto_region 8 with fail
   have HS0 := Lib.hid S.out
   have hB0 := hw
   clear cX_6
   go_loopw [26] (fun j ws => ∃ q : Nat, q ≤ x.mems.length ∧ j = .int .i64 q ∧ Has ws w.heap.size 30 #[.slice (some ⟨b, o, none⟩) ts.length c] ∧ defM ts x.mems = defM ts (x.mems.drop q) ∧ Below w.heap.size w ws) (fun j _ => x.mems.length - (intOf j).toNat)
   case atStart => exact ⟨0, by omega, rfl, HS0.out, rfl, hB0⟩
   case round =>
    clear X S HS0 hB0
    obtain ⟨q, hq, rfl, S, hdm, hb⟩ := hrel
    replace S := Lib.hid S
    by_cases hlq : q < x.mems.length
    ·
     skip
     obtain ⟨b1, o1, rfl, hb1, hel⟩ := HXA.out.mems.elem (by omega)
     obtain ⟨dk, di, dr, hcells, hma⟩ := hel q hlq
     have hq1 : (q : Int) < x.mems.length := by omega
     have hq0 : (0 : Int) ≤ (q : Int) := by omega
     rw [List.drop_eq_getElem_cons hlq] at hdm
     generalize x.mems[q] = m at *
     obtain ⟨D1, d1, D2, d2, D3, d3, rfl, rfl, rfl, -, -, -⟩ := hma.dflt.forms
     have HDF := Lib.hid hma.dflt
     have Hdm := Lib.hid hdm
     clear hel hma hdm
     obtain ⟨y0, y1, y2, y3, y4, y5, y6, y7, y8, y9, y10, y11, y12⟩ := hcells
     have x0 := ((hb).cell (p := ⟨b1, _, none⟩) hb1).trans y0
     have x1 := ((hb).cell (p := ⟨b1, _, none⟩) hb1).trans y1
     have x2 := ((hb).cell (p := ⟨b1, _, none⟩) hb1).trans y2
     have x3 := ((hb).cell (p := ⟨b1, _, none⟩) hb1).trans y3
     have x4 := ((hb).cell (p := ⟨b1, _, none⟩) hb1).trans y4
     have x5 := ((hb).cell (p := ⟨b1, _, none⟩) hb1).trans y5
     have x6 := ((hb).cell (p := ⟨b1, _, none⟩) hb1).trans y6
     have x7 := ((hb).cell (p := ⟨b1, _, none⟩) hb1).trans y7
     have x8 := ((hb).cell (p := ⟨b1, _, none⟩) hb1).trans y8
     have x9 := ((hb).cell (p := ⟨b1, _, none⟩) hb1).trans y9
     have x10 := ((hb).cell (p := ⟨b1, _, none⟩) hb1).trans y10
     have x11 := ((hb).cell (p := ⟨b1, _, none⟩) hb1).trans y11
     have x12 := ((hb).cell (p := ⟨b1, _, none⟩) hb1).trans y12
     clear y0 y1 y2 y3 y4 y5 y6 y7 y8 y9 y10 y11 y12
     go_upto_region 10 with fail
     have hb146 := below_al (Below.refl wr.heap.size wr) (Nat.le_refl _) (.cells #[.int .i64 m.id, .string ⟨m.name.toArray⟩, .int .i64 m.ty, .bool m.crit, .bool m.hasDef, .int .i64 m.dflt.kind, .bool m.dflt.bool, .int .i64 m.dflt.num, .string ⟨m.dflt.str.toArray⟩, .int .i64 m.dflt.id, .slice D1 m.dflt.keys.length d1, .slice D2 m.dflt.items.length d2, .slice D3 m.dflt.rest.length d3] 69)
     have M := Has.made wr 69 #[.int .i64 m.id, .string ⟨m.name.toArray⟩, .int .i64 m.ty, .bool m.crit, .bool m.hasDef, .int .i64 m.dflt.kind, .bool m.dflt.bool, .int .i64 m.dflt.num, .string ⟨m.dflt.str.toArray⟩, .int .i64 m.dflt.id, .slice D1 m.dflt.keys.length d1, .slice D2 m.dflt.items.length d2, .slice D3 m.dflt.rest.length d3]
     have hl148 := S.out.here
     have hl149 := hb.size
     replace S := Lib.hid (S.out.below hb146 S.out.here)
     replace hb := hb.trans (hb146.mono hb.size)
     replace M := Lib.hid M
     clear hb146
     generalize (wr.alloc (.cells #[.int .i64 m.id, .string ⟨m.name.toArray⟩, .int .i64 m.ty, .bool m.crit, .bool m.hasDef, .int .i64 m.dflt.kind, .bool m.dflt.bool, .int .i64 m.dflt.num, .string ⟨m.dflt.str.toArray⟩, .int .i64 m.dflt.id, .slice D1 m.dflt.keys.length d1, .slice D2 m.dflt.items.length d2, .slice D3 m.dflt.rest.length d3] 69)) = wd150 at *
     generalize wr.heap.size = g147 at *
     clear x0 x1 x2 x3 x4 x5 x6 x7 x8 x9 x10 x11 x12
     cases hhd : m.hasDef with
     | false =>
      have Hdm2 : Hid (defM ts x.mems = defM ts (x.mems.drop (q + 1))) := by show _ = _; rw [Hdm.out, defM_no ts [] m _ (.inl hhd)]
      have cM_4 := M.out.cell 4
      simp only [List.getElem?_toArray, List.getElem?_cons_succ, List.getElem?_cons_zero, hhd] at cM_4
      clear hhd
      go_wp2_with fail
      go_roundw
      case rel => exact ⟨q + 1, by omega, by go_num, S.out, Hdm2.out, hb⟩
      case measure => simp [intOf]; omega
     | true =>
      have cM_4 := M.out.cell 4
      simp only [List.getElem?_toArray, List.getElem?_cons_succ, List.getElem?_cons_zero, hhd] at cM_4
      have hfp := fun W h1 h2 => vplain_any m.dflt ts (some ⟨b, o, none⟩) c m.ty (.slice D1 m.dflt.keys.length d1) (.slice D2 m.dflt.items.length d2) (.slice D3 m.dflt.rest.length d3) W HK.out h1 h2
      obtain ⟨fv, hfv⟩ : ∃ fv, fitV ts true m.dflt m.ty = fv := ⟨_, rfl⟩
      simp only [hfv] at hfp
      have HFP := Lib.hid hfp
      clear hfp
      cases fv with
      | false =>
       have Hr : Hid (defE ts = ((k : Int), m.id, 1)) := by show _ = _; rw [Hd.out, Hdt.out, defT_some ts _ x k m.id (by rw [Hdm.out, defM_yes ts m _ hhd hfv])]
       clear hhd hfv
       have cS_0 : wd150.cell? ⟨w.heap.size, 0, none⟩ = some (.slice (some ⟨b, o, none⟩) ts.length c) := S.out.cell 0
       obtain ⟨cM_0, -, cM_2, -, -, cM_5, cM_6, cM_7, cM_8, cM_9, cM_10, cM_11, cM_12⟩ := M.out.c13
       go_wp2_with fail
       clear cS_0 cM_0 cM_2 cM_5 cM_6 cM_7 cM_8 cM_9 cM_10 cM_11 cM_12
       ((with_reducible refine (HFP.out _ (HT.out.on hb) (HDF.out.on hb)).mono ?_); rintro e wd151 ⟨rfl, hb152⟩)
       replace S := Lib.hid (S.out.below hb152 S.out.here)
       replace M := Lib.hid (M.out.below hb152 M.out.here)
       replace hb := hb.trans (hb152.mono hb.size)
       clear hb152
       have cM_0 : wd151.cell? ⟨g147, 0, none⟩ = some (.int .i64 m.id) := M.out.cell 0
       go_wp2_with fail
       go_quiet (fail)
       go_wp2_with fail
       go_ret3
       exact DefPost.mk Hr.out (below_drewN hb _)
      | true =>
       have Hdm2 : Hid (defM ts x.mems = defM ts (x.mems.drop (q + 1))) := by show _ = _; rw [Hdm.out, defM_no ts [] m _ (.inr hfv)]
       clear hhd hfv
       have cS_0 : wd150.cell? ⟨w.heap.size, 0, none⟩ = some (.slice (some ⟨b, o, none⟩) ts.length c) := S.out.cell 0
       obtain ⟨-, -, cM_2, -, -, cM_5, cM_6, cM_7, cM_8, cM_9, cM_10, cM_11, cM_12⟩ := M.out.c13
       go_wp2_with fail
       clear cS_0 cM_2 cM_5 cM_6 cM_7 cM_8 cM_9 cM_10 cM_11 cM_12
       ((with_reducible refine (HFP.out _ (HT.out.on hb) (HDF.out.on hb)).mono ?_); rintro e wd153 ⟨rfl, hb154⟩)
       replace S := Lib.hid (S.out.below hb154 S.out.here)
       replace M := Lib.hid (M.out.below hb154 M.out.here)
       replace hb := hb.trans (hb154.mono hb.size)
       clear hb154
       go_wp2_with fail
       go_roundw
       case rel => exact ⟨q + 1, by omega, by go_num, S.out, Hdm2.out, hb⟩
       case measure => simp [intOf]; omega
    ·
     obtain rfl : q = x.mems.length := by omega
     have Hn : Hid (defT ts ts 0 = defT ts (ts.drop (k + 1)) (k + 1)) := by show _ = _; rw [Hdt.out, defT_none ts _ x k (by rw [hdm, List.drop_eq_nil_of_le (Nat.le_refl _), defM])]
     clear hdm
     go_wp2_with fail
     go_roundw
     case rel => exact ⟨k + 1, by omega, by go_num, S.out, Hn.out, hb⟩
     case measure => simp [intOf]; omega
  ·
   obtain rfl : k = ts.length := by omega
   have Hr : Hid (defE ts = (0, 0, 0)) := by show _ = _; rw [Hd.out, hdt, List.drop_eq_nil_of_le (Nat.le_refl _), defT]
   clear hdt
   have cS_0 : wr.cell? ⟨w.heap.size, 0, none⟩ = some (.slice A ts.length c) := S.out.cell 0
   go_wp2_with fail
   go_ret3
   exact DefPost.mk Hr.out hw
set_option maxRecDepth 100000 in
set_option maxHeartbeats 4000000 in
theorem rdefs_any (ts : List Typ) (A : Option Addr) (c : Nat) (w : World) (hs : Sizes ts) (ht : RdTyps w w.heap.size (.slice A ts.length c) ts) :
  Calls Try.prog 19 #[.agg #[.slice A ts.length c]] w (DefPost ts w) := by
 have HT := Lib.hid ht
 have HS := Lib.hid hs
 obtain ⟨ve, hve⟩ : ∃ ve, validE ts = ve := ⟨_, rfl⟩
 have hV := fun W h => rvalid_any ts A c W hs h
 simp only [hve] at hV
 have HV := Lib.hid hV
 clear hs ht hV
 by_cases hv0 : ve = 0
 case neg =>
  have t1 : (ve == 0) = false := by simpa using hv0
  have t2 : (ve != 0) = true := by simpa using hv0
  have Hd : Hid (defE ts = (0, 0, ve)) := by show _ = _; unfold defE; rw [hve, if_neg hv0]
  clear hve hv0
  go_enter Try.func19, Try.ntmps19
  go_upto_region 1 with fail
  have hb155 := below_al (Below.refl w.heap.size w) (Nat.le_refl _) (.cells #[.slice A ts.length c] 30)
  have S := Has.made w 30 #[.slice A ts.length c]
  have hw156 := hb155
  replace S := Lib.hid S
  clear hb155
  generalize (w.alloc (.cells #[.slice A ts.length c] 30)) = wd157 at *
  have cS_0 : wd157.cell? ⟨w.heap.size, 0, none⟩ = some (.slice A ts.length c) := S.out.cell 0
  go_wp2_with fail
  clear cS_0
  ((with_reducible refine (HV.out _ (HT.out.on hw156)).mono ?_); rintro e wd158 ⟨rfl, hb159⟩)
  replace S := Lib.hid (S.out.below hb159 S.out.here)
  replace hw156 := hw156.trans (hb159.mono hw156.size)
  clear hb159
  go_wp2_with fail
  go_ret3
  exact DefPost.mk Hd.out hw156
 subst hv0
 have HK := Lib.hid (valid_kinds hve)
 have h32 := (valid_all hve).1
 have h32i : (ts.length : Int) ≤ 32 := by omega
 have Hd : Hid (defE ts = defT ts ts 0) := by show _ = _; unfold defE; rw [hve]; rfl
 clear hve
 go_enter Try.func19, Try.ntmps19
 go_upto_region 1 with fail
 have hb160 := below_al (Below.refl w.heap.size w) (Nat.le_refl _) (.cells #[.slice A ts.length c] 30)
 have S := Has.made w 30 #[.slice A ts.length c]
 have hw161 := hb160
 replace S := Lib.hid S
 clear hb160
 generalize (w.alloc (.cells #[.slice A ts.length c] 30)) = wd162 at *
 have cS_0 : wd162.cell? ⟨w.heap.size, 0, none⟩ = some (.slice A ts.length c) := S.out.cell 0
 go_wp2_with fail
 clear cS_0
 ((with_reducible refine (HV.out _ (HT.out.on hw161)).mono ?_); rintro e wd163 ⟨rfl, hb164⟩)
 replace S := Lib.hid (S.out.below hb164 S.out.here)
 replace hw161 := hw161.trans (hb164.mono hw161.size)
 clear hb164
 have cS_0 : wd163.cell? ⟨w.heap.size, 0, none⟩ = some (.slice A ts.length c) := S.out.cell 0
 have HS0 := Lib.hid S.out
 have hB0 := hw161
 go_upto_region 5 with fail
 clear cS_0
 go_loopw [6] (fun i wr => ∃ k : Nat, k ≤ ts.length ∧ i = .int .i64 k ∧ Has wr w.heap.size 30 #[.slice A ts.length c] ∧ defT ts ts 0 = defT ts (ts.drop k) k ∧ Below w.heap.size w wr) (fun i _ => ts.length - (intOf i).toNat)
 case atStart => exact ⟨0, by omega, rfl, HS0.out, rfl, hB0⟩
 case round =>
  clear S hB0 HS0
  obtain ⟨k, hk, rfl, S, hdt, hw⟩ := hrel
  replace S := Lib.hid S
  by_cases hlt : k < ts.length
  ·
   obtain ⟨b, o, rfl, hbb, hel⟩ := HT.out.elem (by omega)
   obtain ⟨vs, vm, hcells, hxa⟩ := hel k hlt
   rw [List.drop_eq_getElem_cons hlt] at hdt
   generalize ts[k] = x at *
   obtain ⟨C1, m1, C2, m2, rfl, rfl, -, -⟩ := hxa.forms
   have HXA := Lib.hid hxa
   have Hdt := Lib.hid hdt
   have hi1 : (k : Int) < ts.length := by omega
   have hi0 : (0 : Int) ≤ (k : Int) := by omega
   have hls := hxa.lens
   obtain ⟨c0, c1, c2, c3, c4, c5, c6, c7, c8, c9⟩ := hcells.below hw hbb
   clear hxa hdt hcells hel
   have HS1 := Lib.hid S.out
   have cS_0 : wr.cell? ⟨w.heap.size, 0, none⟩ = some (.slice (some ⟨b, o, none⟩) ts.length c) := S.out.cell 0
   go_upto_region 8 with fail
   have hB0 := hw
   have HS0 := Lib.hid S.out
   clear cS_0
   clear c0 c1 c2 c3 c4 c5 c6 c7 c8 c9
   go_wp2_with fail
   go_loopw [8] (fun j ws => ∃ q : Nat, q ≤ x.mems.length ∧ j = .int .i64 q ∧ Has ws w.heap.size 30 #[.slice (some ⟨b, o, none⟩) ts.length c] ∧ defM ts x.mems = defM ts (x.mems.drop q) ∧ Below w.heap.size w ws) (fun j _ => x.mems.length - (intOf j).toNat)
   case atStart => exact ⟨0, by omega, rfl, HS0.out, rfl, hB0⟩
   case round =>
    clear S HS0 HS1 hB0
    obtain ⟨q, hq, rfl, S, hdm, hb⟩ := hrel
    replace S := Lib.hid S
    by_cases hlq : q < x.mems.length
    ·
     skip
     obtain ⟨b1, o1, rfl, hb1, hel⟩ := HXA.out.mems.elem (by omega)
     obtain ⟨dk, di, dr, hcells, hma⟩ := hel q hlq
     have hq1 : (q : Int) < x.mems.length := by omega
     have hq0 : (0 : Int) ≤ (q : Int) := by omega
     rw [List.drop_eq_getElem_cons hlq] at hdm
     generalize x.mems[q] = m at *
     obtain ⟨D1, d1, D2, d2, D3, d3, rfl, rfl, rfl, -, -, -⟩ := hma.dflt.forms
     have HDF := Lib.hid hma.dflt
     have Hdm := Lib.hid hdm
     clear hel hma hdm
     obtain ⟨y0, y1, y2, y3, y4, y5, y6, y7, y8, y9, y10, y11, y12⟩ := hcells
     cases hhd : m.hasDef with
     | false =>
      have Hdm2 : Hid (defM ts x.mems = defM ts (x.mems.drop (q + 1))) := by show _ = _; rw [Hdm.out, defM_no ts [] m _ (.inl hhd)]
      have x4 := ((hb).cell (p := ⟨b1, _, none⟩) hb1).trans y4
      rw [hhd] at x4
      clear hhd y0 y1 y2 y3 y4 y5 y6 y7 y8 y9 y10 y11 y12
      go_upto_region 11 with fail
      go_quiet (fail)
      clear x4
      go_wp2_with fail
      go_roundw
      case rel => exact ⟨q + 1, by omega, by go_num, S.out.drewN _, Hdm2.out, below_drewN hb _⟩
      case measure => simp [intOf]; omega
     | true =>
      rw [hhd] at y4
      have hfp := fun W h1 h2 => rplain_any m.dflt ts (some ⟨b, o, none⟩) c m.ty (.slice D1 m.dflt.keys.length d1) (.slice D2 m.dflt.items.length d2) (.slice D3 m.dflt.rest.length d3) W HK.out h1 h2
      obtain ⟨fv, hfv⟩ : ∃ fv, fitV ts true m.dflt m.ty = fv := ⟨_, rfl⟩
      simp only [hfv] at hfp
      have HFP := Lib.hid hfp
      clear hfp
      cases fv with
      | false =>
       have Hr : Hid (defE ts = ((k : Int), m.id, 1)) := by show _ = _; rw [Hd.out, Hdt.out, defT_some ts _ x k m.id (by rw [Hdm.out, defM_yes ts m _ hhd hfv])]
       clear hhd hfv
       clear y1 y3
       go_upto_region 11 with fail
       have cS_0 : wr.cell? ⟨w.heap.size, 0, none⟩ = some (.slice (some ⟨b, o, none⟩) ts.length c) := S.out.cell 0
       refine wp_region_held_drew (S := (fun w' => w'.cell? ⟨w.heap.size, 0, none⟩ = some (.slice (some ⟨b, o, none⟩) ts.length c) ∧ (∀ (b o : Nat), b < w.heap.size → w'.cell? ⟨b, o, none⟩ = w.cell? ⟨b, o, none⟩))) (by kernel_rfl) ⟨cS_0, (fun b o hlt => hb.cell (p := ⟨b, o, none⟩) hlt)⟩ (fun hHeld => ?_)
       clear cS_0
       have hb165 : Below wr.heap.size wr (wr.drew) := (Below.refl _ _).drew
       replace S := Lib.hid (S.out.below hb165 S.out.here)
       replace hb := hb.trans (hb165.mono hb.size)
       clear hb165
       generalize wr.drew = wd166 at *
       refine tk (i := 0) (v := ?vk167) ?hk167 ?_
       case hk167 => intro w hS; (try dsimp only at hS); go_simp; (first | done | with_reducible rfl)
       simp only [put_laws2]
       refine tk (i := 1) (v := ?vk168) ?hk168 ?_
       case hk168 => intro w hS; (try dsimp only at hS); go_simp; (first | done | with_reducible rfl)
       simp only [put_laws2]
       refine tk (i := 2) (v := ?vk169) ?hk169 ?_
       case hk169 => intro w hS; (try dsimp only at hS); go_simp; (first | done | with_reducible rfl)
       simp only [put_laws2]
       refine tk (i := 3) (v := ?vk170) ?hk170 ?_
       case hk170 => intro w hS; (try dsimp only at hS); go_simp; (first | done | with_reducible rfl)
       simp only [put_laws2]
       refine tk (i := 4) (v := ?vk171) ?hk171 ?_
       case hk171 => intro w hS; (try dsimp only at hS); go_simp; (first | done | with_reducible rfl)
       simp only [put_laws2]
       refine tk (i := 5) (v := ?vk172) ?hk172 ?_
       case hk172 => intro w hS; (try dsimp only at hS); go_simp; (first | done | with_reducible rfl)
       simp only [put_laws2]
       refine tk (i := 6) (v := ?vk173) ?hk173 ?_
       case hk173 => intro w hS; (try dsimp only at hS); go_simp; (first | done | with_reducible rfl)
       simp only [put_laws2]
       refine tk (i := 7) (v := ?vk174) ?hk174 ?_
       case hk174 => intro w hS; (try dsimp only at hS); go_simp; (first | done | with_reducible rfl)
       simp only [put_laws2]
       refine tk (i := 8) (v := ?vk175) ?hk175 ?_
       case hk175 => intro w hS; (try dsimp only at hS); go_simp; (first | done | with_reducible rfl)
       simp only [put_laws2]
       refine tk (i := 9) (v := ?vk176) ?hk176 ?_
       case hk176 => intro w hS; (try dsimp only at hS); go_simp; (first | done | with_reducible rfl)
       simp only [put_laws2]
       refine tk (i := 10) (v := ?vk177) ?hk177 ?_
       case hk177 => intro w hS; (try dsimp only at hS); go_simp; (first | done | with_reducible rfl)
       simp only [put_laws2]
       refine tk (i := 11) (v := ?vk178) ?hk178 ?_
       case hk178 => intro w hS; (try dsimp only at hS); go_simp; (first | done | with_reducible rfl)
       simp only [put_laws2]
       refine tk (i := 12) (v := ?vk179) ?hk179 ?_
       case hk179 => intro w hS; (try dsimp only at hS); go_simp; (first | done | with_reducible rfl)
       simp only [put_laws2]
       refine tk (i := 13) (v := ?vk180) ?hk180 ?_
       case hk180 => intro w hS; (try dsimp only at hS); go_simp; (first | done | with_reducible rfl)
       simp only [put_laws2]
       refine tk (i := 14) (v := ?vk181) ?hk181 ?_
       case hk181 => intro w hS; (try dsimp only at hS); go_simp; (first | done | with_reducible rfl)
       simp only [put_laws2]
       refine tk (i := 15) (v := ?vk182) ?hk182 ?_
       case hk182 => intro w hS; (try dsimp only at hS); go_simp; (first | done | with_reducible rfl)
       simp only [put_laws2]
       refine tk (i := 16) (v := ?vk183) ?hk183 ?_
       case hk183 => intro w hS; (try dsimp only at hS); go_simp; (first | done | with_reducible rfl)
       simp only [put_laws2]
       refine wpAnyH_ready (rs := [17]) (by kernel_rfl) (by simp) ?_
       refine AllReadyH.cons rfl (fun K hK => ?_) (AllReadyH.nil)
       go_simp
       ((with_reducible refine (HFP.out _ (HT.out.on hb) (HDF.out.on hb)).mono ?_); rintro e wd184 ⟨rfl, hb185⟩)
       replace S := Lib.hid (S.out.below hb185 S.out.here)
       replace hb := hb.trans (hb185.mono hb.size)
       clear hb185
       try clear hHeld
       refine hK.out _ _ ⟨S.out.cell 0, (fun b o hlt => hb.cell (p := ⟨b, o, none⟩) hlt)⟩ (fun hHeld => ?_)
       clear hK K
       refine tk (i := 18) (v := ?vk186) ?hk186 ?_
       case hk186 => intro w hS; (try dsimp only at hS); go_simp; (first | done | with_reducible rfl)
       simp only [put_laws2]
       refine tk (i := 19) (v := ?vk187) ?hk187 ?_
       case hk187 => intro w hS; (try dsimp only at hS); go_simp; (first | done | with_reducible rfl)
       simp only [put_laws2]
       refine wpAnyH_done (by kernel_rfl) ?_ _
       try clear hHeld
       have x0 := ((hb).cell (p := ⟨b1, _, none⟩) hb1).trans y0
       clear y0 y2 y4 y5 y6 y7 y8 y9 y10 y11 y12
       go_wp2_with fail
       go_quiet (fail)
       go_wp2_with fail
       go_ret3
       exact DefPost.mk Hr.out (below_drewN hb _)
      | true =>
       have Hdm2 : Hid (defM ts x.mems = defM ts (x.mems.drop (q + 1))) := by show _ = _; rw [Hdm.out, defM_no ts [] m _ (.inr hfv)]
       clear hhd hfv
       clear y1 y3
       go_upto_region 11 with fail
       have cS_0 : wr.cell? ⟨w.heap.size, 0, none⟩ = some (.slice (some ⟨b, o, none⟩) ts.length c) := S.out.cell 0
       refine wp_region_held_drew (S := (fun w' => w'.cell? ⟨w.heap.size, 0, none⟩ = some (.slice (some ⟨b, o, none⟩) ts.length c) ∧ (∀ (b o : Nat), b < w.heap.size → w'.cell? ⟨b, o, none⟩ = w.cell? ⟨b, o, none⟩))) (by kernel_rfl) ⟨cS_0, (fun b o hlt => hb.cell (p := ⟨b, o, none⟩) hlt)⟩ (fun hHeld => ?_)
       clear cS_0
       have hb188 : Below wr.heap.size wr (wr.drew) := (Below.refl _ _).drew
       replace S := Lib.hid (S.out.below hb188 S.out.here)
       replace hb := hb.trans (hb188.mono hb.size)
       clear hb188
       generalize wr.drew = wd189 at *
       refine tk (i := 0) (v := ?vk190) ?hk190 ?_
       case hk190 => intro w hS; (try dsimp only at hS); go_simp; (first | done | with_reducible rfl)
       simp only [put_laws2]
       refine tk (i := 1) (v := ?vk191) ?hk191 ?_
       case hk191 => intro w hS; (try dsimp only at hS); go_simp; (first | done | with_reducible rfl)
       simp only [put_laws2]
       refine tk (i := 2) (v := ?vk192) ?hk192 ?_
       case hk192 => intro w hS; (try dsimp only at hS); go_simp; (first | done | with_reducible rfl)
       simp only [put_laws2]
       refine tk (i := 3) (v := ?vk193) ?hk193 ?_
       case hk193 => intro w hS; (try dsimp only at hS); go_simp; (first | done | with_reducible rfl)
       simp only [put_laws2]
       refine tk (i := 4) (v := ?vk194) ?hk194 ?_
       case hk194 => intro w hS; (try dsimp only at hS); go_simp; (first | done | with_reducible rfl)
       simp only [put_laws2]
       refine tk (i := 5) (v := ?vk195) ?hk195 ?_
       case hk195 => intro w hS; (try dsimp only at hS); go_simp; (first | done | with_reducible rfl)
       simp only [put_laws2]
       refine tk (i := 6) (v := ?vk196) ?hk196 ?_
       case hk196 => intro w hS; (try dsimp only at hS); go_simp; (first | done | with_reducible rfl)
       simp only [put_laws2]
       refine tk (i := 7) (v := ?vk197) ?hk197 ?_
       case hk197 => intro w hS; (try dsimp only at hS); go_simp; (first | done | with_reducible rfl)
       simp only [put_laws2]
       refine tk (i := 8) (v := ?vk198) ?hk198 ?_
       case hk198 => intro w hS; (try dsimp only at hS); go_simp; (first | done | with_reducible rfl)
       simp only [put_laws2]
       refine tk (i := 9) (v := ?vk199) ?hk199 ?_
       case hk199 => intro w hS; (try dsimp only at hS); go_simp; (first | done | with_reducible rfl)
       simp only [put_laws2]
       refine tk (i := 10) (v := ?vk200) ?hk200 ?_
       case hk200 => intro w hS; (try dsimp only at hS); go_simp; (first | done | with_reducible rfl)
       simp only [put_laws2]
       refine tk (i := 11) (v := ?vk201) ?hk201 ?_
       case hk201 => intro w hS; (try dsimp only at hS); go_simp; (first | done | with_reducible rfl)
       simp only [put_laws2]
       refine tk (i := 12) (v := ?vk202) ?hk202 ?_
       case hk202 => intro w hS; (try dsimp only at hS); go_simp; (first | done | with_reducible rfl)
       simp only [put_laws2]
       refine tk (i := 13) (v := ?vk203) ?hk203 ?_
       case hk203 => intro w hS; (try dsimp only at hS); go_simp; (first | done | with_reducible rfl)
       simp only [put_laws2]
       refine tk (i := 14) (v := ?vk204) ?hk204 ?_
       case hk204 => intro w hS; (try dsimp only at hS); go_simp; (first | done | with_reducible rfl)
       simp only [put_laws2]
       refine tk (i := 15) (v := ?vk205) ?hk205 ?_
       case hk205 => intro w hS; (try dsimp only at hS); go_simp; (first | done | with_reducible rfl)
       simp only [put_laws2]
       refine tk (i := 16) (v := ?vk206) ?hk206 ?_
       case hk206 => intro w hS; (try dsimp only at hS); go_simp; (first | done | with_reducible rfl)
       simp only [put_laws2]
       refine wpAnyH_ready (rs := [17]) (by kernel_rfl) (by simp) ?_
       refine AllReadyH.cons rfl (fun K hK => ?_) (AllReadyH.nil)
       go_simp
       ((with_reducible refine (HFP.out _ (HT.out.on hb) (HDF.out.on hb)).mono ?_); rintro e wd207 ⟨rfl, hb208⟩)
       replace S := Lib.hid (S.out.below hb208 S.out.here)
       replace hb := hb.trans (hb208.mono hb.size)
       clear hb208
       try clear hHeld
       refine hK.out _ _ ⟨S.out.cell 0, (fun b o hlt => hb.cell (p := ⟨b, o, none⟩) hlt)⟩ (fun hHeld => ?_)
       clear hK K
       refine tk (i := 18) (v := ?vk209) ?hk209 ?_
       case hk209 => intro w hS; (try dsimp only at hS); go_simp; (first | done | with_reducible rfl)
       simp only [put_laws2]
       refine tk (i := 19) (v := ?vk210) ?hk210 ?_
       case hk210 => intro w hS; (try dsimp only at hS); go_simp; (first | done | with_reducible rfl)
       simp only [put_laws2]
       refine wpAnyH_done (by kernel_rfl) ?_ _
       try clear hHeld
       clear y0 y2 y4 y5 y6 y7 y8 y9 y10 y11 y12
       go_wp2_with fail
       go_roundw
       case rel => exact ⟨q + 1, by omega, by go_num, S.out, Hdm2.out, hb⟩
       case measure => simp [intOf]; omega
    ·
     obtain rfl : q = x.mems.length := by omega
     have Hn : Hid (defT ts ts 0 = defT ts (ts.drop (k + 1)) (k + 1)) := by show _ = _; rw [Hdt.out, defT_none ts _ x k (by rw [hdm, List.drop_eq_nil_of_le (Nat.le_refl _), defM])]
     clear hdm
     go_wp2_with fail
     go_roundw
     case rel => exact ⟨k + 1, by omega, by go_num, S.out, Hn.out, hb⟩
     case measure => simp [intOf]; omega
  ·
   obtain rfl : k = ts.length := by omega
   have Hr : Hid (defE ts = (0, 0, 0)) := by show _ = _; rw [Hd.out, hdt, List.drop_eq_nil_of_le (Nat.le_refl _), defT]
   clear hdt
   have cS_0 : wr.cell? ⟨w.heap.size, 0, none⟩ = some (.slice A ts.length c) := S.out.cell 0
   go_wp2_with fail
   go_ret3
   exact DefPost.mk Hr.out hw
end Go.Proofs.Ytjajgclchapllaa

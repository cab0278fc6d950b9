/- The statement DecodeReason: Reason returns the text of any failure, as the reference does. No condition. -/
import Derived.Test.YtccmmibkihbobaaDoorAwk
import Derived.Test.YtccmmibkihbobaaDoorTabs
set_option maxHeartbeats 1600000
namespace Go.Proofs.YtccmmibkihbobaaDoor
open Go.ChangeShapes Go.WideShapes Go.ChangeAt Go.RowKit
theorem join_take (path : List Int) (k : Nat) (h : k < path.length) : Lib.join ((path.take (k + 1)).map Lib.itoa) [46] = (if k = 0 then [] else Lib.join ((path.take k).map Lib.itoa) [46] ++ [46]) ++ Lib.itoa path[k] := by
 cases path with
 | nil => simp at h
 | cons z r =>
  cases k with
  | zero => simp [Lib.join_one]
  | succ k =>
   have h2 : k < r.length := by simpa using h
   rw [if_neg (by omega), List.take_succ_cons, List.take_succ_cons, List.map_cons, Lib.join_cons, List.map_cons, Lib.join_cons, List.take_succ_eq_append_getElem h2]
   simp only [Lib.joinTail, List.map_append, List.map_cons, List.map_nil, List.flatten_append, List.flatten_cons, List.flatten_nil, List.append_nil, List.append_assoc, List.getElem_cons_succ]
theorem join_take_le (path : List Int) (h : ∀ z ∈ path, I64 z) (k : Nat) : (Lib.join ((path.take k).map Lib.itoa) [46]).length ≤ 22 * path.length := by
 have h1 := join_le (path.take k) (fun z hz => h z (List.mem_of_mem_take hz))
 have h2 : (path.take k).length ≤ path.length := by rw [List.length_take]; omega
 omega
set_option maxRecDepth 100000 in
theorem rword_any (n : Int) (w : World) : Calls Tryd.prog 17 #[.int .i64 n] w fun e w' => e = .returned (.string ⟨(wordT n).toArray⟩) ∧ Below w.heap.size w w' := by
 go_enter Tryd.func17, Tryd.ntmps17
 go_upto_region 2 with fail
 obtain ⟨wd2, hE3⟩ : ∃ ww, ww = w.alloc (.cells #[.string ⟨#[109, 97, 108, 102, 111, 114, 109, 101, 100]⟩, .string ⟨#[114, 97, 110, 103, 101]⟩, .string ⟨#[108, 111, 110, 103]⟩, .string ⟨#[115, 121, 109, 98, 111, 108]⟩, .string ⟨#[97, 114, 109]⟩, .string ⟨#[99, 114, 105, 116, 105, 99, 97, 108]⟩, .string ⟨#[109, 105, 115, 115, 105, 110, 103]⟩, .string ⟨#[100, 101, 101, 112]⟩, .string ⟨#[107, 105, 110, 100]⟩, .string ⟨#[100, 101, 102, 97, 117, 108, 116]⟩] 9) := ⟨_, rfl⟩
 rw [← hE3]
 have hb1 := aB hE3
 have L := aN hE3
 clear hE3
 have hw4 := hb1
 clear hb1
 by_cases h1 : n < 1
 ·
  have hw : Hid (wordT n = [117, 110, 107, 110, 111, 119, 110]) := by show _ = _; unfold wordT; rw [if_pos (.inl h1)]
  go_wp2_with fail
  go_ret
  exact ⟨ret_strB (by rw [hw.out]), hw4⟩
 by_cases h2 : 10 < n
 ·
  have hw : Hid (wordT n = [117, 110, 107, 110, 111, 119, 110]) := by show _ = _; unfold wordT; rw [if_pos (.inr h2)]
  go_wp2_with fail
  go_ret
  exact ⟨ret_strB (by rw [hw.out]), hw4⟩
 have hc : wd2.cell? ⟨w.heap.size, n.toNat - 1, none⟩ = some (.string ⟨(wordT n).toArray⟩) := by
  have h3 := L.out.cell (n.toNat - 1)
  rw [h3]
  obtain ⟨k, rfl, hk⟩ : ∃ k : Nat, n = k + 1 ∧ k < 10 := ⟨(n - 1).toNat, by omega, by omega⟩
  rw [show ((k : Int) + 1).toNat - 1 = k by omega]
  match k, hk with
  | 0, _ => rfl
  | 1, _ => rfl
  | 2, _ => rfl
  | 3, _ => rfl
  | 4, _ => rfl
  | 5, _ => rfl
  | 6, _ => rfl
  | 7, _ => rfl
  | 8, _ => rfl
  | 9, _ => rfl
 have hw0 : IntKind.i64.wrap (n - 1) = n - 1 := IntWalk.i64_in _ (by omega)
 have hd0 : decide (n - 1 < 0) = false := decide_eq_false (by omega)
 have hd1 : decide (10 ≤ (n - 1).toNat) = false := decide_eq_false (by omega)
 generalize hwt : wordT n = wt at hc
 replace hwt := Lib.hid hwt
 go_wp2_with fail
 go_ret
 exact ⟨ret_strB (by rw [hwt.out]), hw4⟩
set_option maxRecDepth 100000 in
theorem rreason_any (path : List Int) (vp : Value) (n : Int) (w : World) (hl : path.length ≤ 1000) (hpi : ∀ z ∈ path, I64 z) (hp : Rd w w.heap.size 1 vp path.length (path.map V64i)) (hT : TabsR w) :
  Calls Tryd.prog 8 #[.agg #[vp, .int .i64 n]] w fun e w' => e = .returned (.string ⟨(reasonT path n).toArray⟩) ∧ Below w.heap.size w w' := by
 obtain ⟨Ap, cp, rfl, -⟩ := hp.form
 have HP := Lib.hid hp
 have HT := Lib.hid hT
 have HI := Lib.hid hpi
 clear hp hT hpi
 go_enter Tryd.func8, Tryd.ntmps8
 go_upto_region 1 with fail
 obtain ⟨wd6, hE7⟩ : ∃ ww, ww = w.alloc (.cells #[.slice Ap path.length cp, .int .i64 n] 26) := ⟨_, rfl⟩
 rw [← hE7]
 have hb5 := aB hE7
 have F := aN hE7
 clear hE7
 have hw8 := hb5
 clear hb5
 have hl0 : Hid (Has wd6 w.heap.size _ _ ∧ Below w.heap.size w wd6) := Lib.hid ⟨F.out, hw8⟩
 go_upto_region 3 with fail
 clear F
 go_loopw [4, 3] (fun i s wr => ∃ k : Nat, k ≤ path.length ∧ i = .int .i64 (k : Int) ∧ s = .string ⟨(Lib.join ((path.take k).map Lib.itoa) [46]).toArray⟩ ∧ Has wr w.heap.size 26 #[.slice Ap path.length cp, .int .i64 n] ∧ Below w.heap.size w wr) (fun i _ _ => path.length - (intOf i).toNat)
 case atStart => exact ⟨0, by omega, rfl, rfl, hl0.out⟩
 case round =>
  clear hl0
  obtain ⟨k, hk, rfl, rfl, F, hbr⟩ := hrel
  replace F := Lib.hid F
  by_cases hlt : k < path.length
  ·
   obtain ⟨b, o, rfl, hbb, hcell⟩ := HP.out.at_ (by omega)
   have a0 : wr.cell? ⟨b, o + k, none⟩ = some (.int .i64 path[k]) := ((hbr).cell (p := ⟨b, o + k, none⟩) hbb).trans (hcell k _ (by simp [hlt, V64i]))
   have hiz := HI.out path[k] (List.getElem_mem hlt)
   have Htk := Lib.hid (join_take path k hlt)
   have hjl := join_take_le path HI.out k
   have hil := Lib.itoa_length_le path[k] hiz.1 hiz.2
   have hlti : (k : Int) < path.length := by omega
   have hd0 : decide ((k : Int) < 0) = false := by simp
   have hd1 : decide (path.length ≤ k) = false := by simpa using hlt
   clear hcell
   generalize path[k] = z at *
   have hj0 : k = 0 → Lib.join ((path.take k).map Lib.itoa) [46] = [] := fun h => by subst h; rfl
   generalize Lib.join ((path.take k).map Lib.itoa) [46] = J at *
   generalize hq : Lib.itoa z = iz at *
   replace hq := Lib.hid hq
   have cF_0 : wr.cell? ⟨w.heap.size, 0, none⟩ = some (.slice (some ⟨b, o, none⟩) path.length cp) := F.out.cell 0
   by_cases hk0 : k = 0
   ·
    subst hk0
    rw [if_pos rfl, List.nil_append] at Htk
    simp only [Nat.add_zero] at a0
    have hk0i : ¬ (0 : Int) < ((0 : Nat) : Int) := by omega
    obtain rfl := hj0 rfl
    clear hj0
    go_wp2_with fail
    clear cF_0
    ((with_reducible refine (itoa_any z hiz _ (HT.out.on hbr)).mono ?_); rintro e wd9 ⟨rfl, hb10⟩)
    replace F := dB F hb10
    replace hbr := dT hbr hb10
    clear hb10
    rw [hq.out]
    go_wp2_with fail
    go_roundw
    case rel => exact ⟨0 + 1, by omega, by go_num, by rw [Htk.out]; exact congrArg Value.string (ba_app [] iz), F.out, hbr⟩
    case measure => simp [intOf]; omega
   have hk0i : (0 : Int) < (k : Int) := by omega
   rw [if_neg hk0] at Htk
   clear hk0 hj0
   go_wp2_with fail
   clear cF_0
   ((with_reducible refine (itoa_any z hiz _ (HT.out.on hbr)).mono ?_); rintro e wd11 ⟨rfl, hb12⟩)
   replace F := dB F hb12
   replace hbr := dT hbr hb12
   clear hb12
   rw [hq.out]
   go_wp2_with fail
   go_roundw
   case rel => exact ⟨k + 1, by omega, by go_num, by rw [Htk.out]; exact congrArg Value.string ((congrArg (· ++ _) (ba_app J [46])).trans (ba_app _ _)), F.out, hbr⟩
   case measure => simp [intOf]; omega
  obtain rfl : k = path.length := by omega
  rw [List.take_length]
  have hlti : ¬ (path.length : Int) < path.length := by omega
  have HR : Hid (reasonT path n = pathT path ++ 32 :: wordT n) := Lib.hid rfl
  have hpt : Hid (pathT path = if path = [] then [45] else Lib.join (path.map Lib.itoa) [46]) := Lib.hid rfl
  have hjl := join_le path HI.out
  have hwl := wordT_len n
  generalize Lib.join (path.map Lib.itoa) [46] = J at *
  have cF_0 : wr.cell? ⟨w.heap.size, 0, none⟩ = some (.slice Ap path.length cp) := F.out.cell 0
  have cF_1 : wr.cell? ⟨w.heap.size, 1, none⟩ = some (.int .i64 n) := F.out.cell 1
  by_cases h0 : path.length = 0
  ·
   have hpt : Hid (pathT path = [45]) := by show _ = _; rw [hpt.out, if_pos (List.eq_nil_of_length_eq_zero h0)]
   have h0i : (path.length : Int) = 0 := by omega
   have h0b : ((path.length : Int) == 0) = true := by simpa using h0
   clear h0
   go_wp2_with fail
   clear cF_0 cF_1
   ((with_reducible refine (rword_any n _).mono ?_); rintro e wd13 ⟨rfl, hb14⟩)
   replace F := dB F hb14
   replace hbr := dT hbr hb14
   clear hb14
   go_wp2_with fail
   go_ret
   exact ⟨ret_strB (by rw [HR.out, hpt.out]; exact (congrArg (· ++ _) (ba_app [45] [32])).trans ((ba_app _ _).trans (by simp))), hbr⟩
  have hpt : Hid (pathT path = J) := by show _ = _; rw [hpt.out, if_neg (fun e => h0 (by rw [e]; rfl))]
  have h0i : ¬ (path.length : Int) = 0 := by omega
  have h0b : ((path.length : Int) == 0) = false := by simpa using h0
  clear h0
  go_wp2_with fail
  clear cF_0 cF_1
  ((with_reducible refine (rword_any n _).mono ?_); rintro e wd15 ⟨rfl, hb16⟩)
  replace F := dB F hb16
  replace hbr := dT hbr hb16
  clear hb16
  go_wp2_with fail
  go_ret
  exact ⟨ret_strB (by rw [HR.out, hpt.out]; exact (congrArg (· ++ _) (ba_app J [32])).trans ((ba_app _ _).trans (by simp))), hbr⟩
theorem clone_rd {W : World} {n : Nat} {v : Value} {xs : List Value} (h : Rd W W.heap.size 1 v n xs) (hn : n ≤ 1000000) (h1 : ∀ u ∈ xs, u.oneCell' = true) :
  Calls Tryd.prog 6 #[v] W (ClonedV W 3 1 n xs) := by
 obtain ⟨hl, A, c, rfl, hc, h2⟩ := h
 refine clonei_any n A c xs W hn ?_ hl ?_ ?_ h1
 ·
  rintro rfl
  rcases h2 with rfl | ⟨b, o, h3, _⟩
  ·
   simp
  cases h3
 ·
  rintro a rfl j u hu
  rcases h2 with rfl | ⟨b, o, h3, hb, hcell⟩
  ·
   have hx : xs = [] := List.eq_nil_of_length_eq_zero (by omega)
   subst hx; simp at hu
  cases h3; rw [add_plain]; exact hcell j u hu
 rintro a rfl hp
 rcases h2 with rfl | ⟨b, o, h3, hb, hcell⟩
 ·
  omega
 cases h3; exact hb
set_option maxRecDepth 100000 in
theorem walk_DecodeReason (v : Value) (zs : List Int) (hzl : zs.length ≤ maxLen) (hzw : ∀ z ∈ zs, (Lit.int .i64 z).wf = true) (n : Int) (_ : I64 n) (w : World) (hL : TabsR w) (hp : Rd w w.heap.size 1 v zs.length (zs.map (Value.int .i64))) :
  Calls Tryd.prog 3 #[v, .int .i64 n] w fun e w' => e = .returned (.bool true) ∧ Below w.heap.size w w' := by
 unfold maxLen at hzl
 have HI : Hid (∀ z ∈ zs, I64 z) := Lib.hid (fun z hz => wf_i64 (hzw z hz))
 obtain ⟨A, c, rfl, -⟩ := hp.form
 have HP : Hid (Rd w w.heap.size 1 (.slice A zs.length c) zs.length (zs.map V64i)) := Lib.hid hp
 have HL := Lib.hid hL
 clear hL hp hzw
 go_enter Tryd.func3, Tryd.ntmps3
 go_wp2_with fail
 ((with_reducible refine (awake_any _ HL.out).mono ?_); rintro e wd17 ⟨rfl, hb18⟩)
 have hw19 := hb18
 clear hb18
 by_cases h50 : 50 < zs.length
 ·
  have h50i : (50 : Int) < zs.length := by omega
  go_wp2_with fail
  ((with_reducible refine (awake_any _ (HL.out.on hw19)).mono ?_); rintro e wd20 ⟨rfl, hb21⟩)
  replace hw19 := dT hw19 hb21
  clear hb21
  go_wp2_with fail
  go_ret
  exact ⟨rfl, hw19⟩
 have h50i : ¬ (50 : Int) < zs.length := by omega
 go_wp2_with fail
 obtain ⟨LX, hLX⟩ : ∃ n, n = (wd17).heap.size := ⟨_, rfl⟩
 have hzl := (hw19).size
 rw [← hLX] at hzl
 ((with_reducible refine (clone_rd ((HP.out.below hw19).mono (hw19).size) (by omega) (fun u hu => by obtain ⟨z, _, rfl⟩ := List.mem_map.1 hu; simp [V64i, Value.oneCell'])).mono ?_); rintro e wd22 ⟨v', rfl, hown, hb23⟩)
 replace hw19 := dT hw19 hb23
 clear hb23
 obtain ⟨A2, c2, rfl⟩ := own_form hown
 rw [← hLX] at hown
 clear hLX
 obtain ⟨BX, hBX⟩ : ∃ n, n = (wd22).heap.size := ⟨_, rfl⟩
 have OW := Lib.hid (Kept.own_at hown hBX)
 clear hown hBX
 go_upto_region 4 with fail
 obtain ⟨wd25, hE26⟩ : ∃ ww, ww = wd22.alloc (.cells #[.slice A2 zs.length c2, .int .i64 n] 26) := ⟨_, rfl⟩
 rw [← hE26]
 have hb24 := aB hE26
 have F := aN hE26
 clear hE26
 have hl28 := OW.out.le
 have hl29 := hw19.size
 replace OW := dK OW hb24
 replace hw19 := dT hw19 hb24
 clear hb24
 generalize wd22.heap.size = g27 at *
 have cF_0 : wd25.cell? ⟨g27, 0, none⟩ = some (.slice A2 zs.length c2) := F.out.cell 0
 have cF_1 : wd25.cell? ⟨g27, 1, none⟩ = some (.int .i64 n) := F.out.cell 1
 refine wp_region_held_drew (S := (fun w' => w'.cell? ⟨g27, 0, none⟩ = some (.slice A2 zs.length c2) ∧ w'.cell? ⟨g27, 1, none⟩ = some (.int .i64 n))) (by kernel_rfl) ⟨cF_0, cF_1⟩ (fun hHeld => ?_)
 clear cF_0 cF_1
 have hb30 : Below wd25.heap.size wd25 (wd25.drew) := (Below.refl _ _).drew
 replace F := dB F hb30
 replace OW := dK OW hb30
 replace hw19 := dT hw19 hb30
 clear hb30
 generalize wd25.drew = wd31 at *
 refine tk (i := 0) (v := ?k32) ?_
 simp only [put_laws2]
 refine tk (i := 2) (v := ?k33) ?_
 simp only [put_laws2]
 refine rd1 (i := 1) (fun K hK => ?_)
 go_simp
 ((with_reducible refine (reason_any zs _ n _ (by omega) HI.out (Rd.of_own OW.out.now) (HL.out.on hw19)).mono ?_); rintro e wd34 ⟨rfl, hb35⟩)
 replace F := dB F hb35
 replace OW := dK OW hb35
 replace hw19 := dT hw19 hb35
 clear hb35
 try clear hHeld
 refine hK.out _ _ (⟨F.out.cell 0, F.out.cell 1⟩) (fun hHeld => ?_)
 clear hK K
 refine rd1 (i := 3) (fun K hK => ?_)
 go_simp
 ((with_reducible refine (rreason_any zs _ n _ (by omega) HI.out (Rd.of_own OW.out.now) (HL.out.on hw19)).mono ?_); rintro e wd36 ⟨rfl, hb37⟩)
 replace F := dB F hb37
 replace OW := dK OW hb37
 replace hw19 := dT hw19 hb37
 clear hb37
 try clear hHeld
 refine hK.out _ _ (⟨F.out.cell 0, F.out.cell 1⟩) (fun hHeld => ?_)
 clear hK K
 refine tk (i := 4) (v := ?k38) ?_
 simp only [put_laws2]
 refine tk (i := 5) (v := ?k39) ?_
 simp only [put_laws2]
 refine wpAnyH_done (by kernel_rfl) ?_ _
 try clear hHeld
 go_wp2_with fail
 go_ret
 exact ⟨ret_bool (by simp), hw19⟩

namespace fr_DecodeReason
set_option maxRecDepth 100000 in
theorem lifted (os : Os) (started : os.Started) (H : Type) (enc : TypeId × Value → H) :
    ReturnsInHanded {} Tryd.checked os 3 .any (fun w args => (Rows.decodeReasonSpec.pre enc Tryd.prog Tryd.f3 [] false w args ∧ laidMetH Tryd.prog laid4 w) ∧ sizedMet enc Tryd.prog Tryd.f3 (OpenSpec.ofChange Rows.decodeReasonSpec) false w args) (Rows.decodeReasonSpec.post enc Tryd.prog Tryd.f3 false true false false) := by
  refine returnsInHanded_of_change_and (C := Tryd.checked) (X := fun w _ => laidMetH Tryd.prog laid4 w) (fun _ _ _ hh h => h.of_heap hh) own_knob started (by kernel_rfl) Tryd.func3
    (ChangeSpec.witness_shaped (enc := enc) (C := Tryd.checked) (os := os) (X := fun w _ => laidMetH Tryd.prog laid4 w) false (World.doorLaid Tryd.prog 400 os) #[.slice none 0 0, .int .i64 0] 8 rfl (World.shaped_of_RefB (by kernel_rfl) (by kernel_rfl)) (by kernel_rfl) (by kernel_rfl) (by kernel_rfl) (door_met os _)) ?_
  intro W base args ds gs before hval0 hW hcnd hsz0 hLd _
  have hsz : (DataW.weightsEach Tryd.prog (Tryd.f3.params.toList ++ Rows.decodeReasonSpec.plain.varTypes Tryd.prog) (ds ++ gs)).all (· ≤ reachBytes) = true := hsz0
  have hval : ∀ (j : Nat) t v, Tryd.f3.params[j]? = some t → args[j]? = some v → Value.okWide Tryd.prog W .any base t v := hval0
  have hW' := hW
  have hlt : ∀ p ∈ before, p.block < W.heap.size := fun p hp => hW.lt p hp
  obtain ⟨p, q, hA0, hV, rfl, hfz, hnd⟩ := hW
  have hA : DataW.TrodAll enc Tryd.prog W 0 (fun _ => true) true Tryd.f3.params.toList args.toList ds p := hA0
  have hA2 := hA
  rw [Tryd.params3] at hA hval hsz
  obtain ⟨v0, vs0, d0, ds0, p0, q0, hargs, rfl, hpq, h0, r0⟩ := trodAll_cons hA
  obtain ⟨v1, vs1, d1, ds1, p1, q1, rfl, rfl, rfl, h1, r1⟩ := trodAll_cons r0
  obtain ⟨rfl, rfl, rfl⟩ := trodAll_nil r1
  obtain rfl : args = #[v0, v1] := by cases args; simp_all
  obtain ⟨rfl, rfl⟩ := trodVars_none hV
  obtain ⟨a0, m0, u0, w0⟩ := open_ints_rd Tryd.underlying22 Tryd.underlying3 (by kernel_rfl) (hval 0 22 v0 rfl rfl) h0
  obtain ⟨a1, rfl, rfl, rfl, w1⟩ := open_int Tryd.underlying3 (hval 1 3 v1 rfl rfl) h1
  have u1 := wf_i64 w1
  clear hA0 hval0
  refine (walk_DecodeReason v0 a0 m0 u0 a1 u1 W (tabs_of hLd) w0).mono fun e W' ⟨he, bel⟩ => ?_
  subst he
  exact ⟨_, rfl, _, _, _, [], _, [], hW', trodAll_mk1 (shut_bool Tryd.underlying4 _), trodAll_below laid_out bel _ _ _ _ (by kernel_rfl) hA2 (fun x hx => hlt x (by simpa using hx)), rfl, bel.frame _, fun h => by cases h⟩
theorem proved : Rows.DecodeReasonSaid :=
  OpenClaim.holds_of_wide 3 Tryd.f3 rfl rfl rfl rfl rfl rfl rfl ⟨rfl, rfl, rfl, rfl, rfl⟩ rfl rfl rfl rfl rfl (by kernel_rfl) Tryd.func3 (by kernel_rfl)
    (of_decide_eq_true (by kernel_rfl)) (by unfold Func.isWrapper; first | (rw [if_pos (by decide +kernel)]; kernel_rfl) | (rw [if_neg (by decide +kernel)]; exact ⟨rfl, rfl⟩))
    (fun os started H enc _ => lifted os started H enc)
#print axioms proved
theorem card : Rows.DecodeReasonCardSaid :=
  Claim7.holds_tied_plain_at .later [] [.data, .data, .data, .data] true _ false proved (fun _ h => by cases h) (by kernel_rfl) (fun _ h => by cases h) decodeReason_row_tie rfl ⟨rfl, rfl⟩ (by kernel_rfl) rfl
    (fun f fn hf hfn => by
      obtain rfl : f = 3 := Option.some.inj ((show Tryd.prog.funcNamed "sheave/sheavelaw10.DecodeReason" = some 3 by kernel_rfl).symm.trans hf) |>.symm
      obtain rfl : fn = Tryd.f3 := (Option.some.inj (Tryd.func3.symm.trans hfn)).symm
      exact ⟨by kernel_rfl, fun j t ht => by
        rw [Tryd.params3] at ht
        have hm : t ∈ [22, 3] := by simpa using Array.mem_of_getElem? ht
        have hall : ([22, 3].all fun u => !Tryd.prog.wantsStandIn u) = true := by kernel_rfl
        exact (show Tryd.prog.wantsStandIn t = false by simpa using List.all_eq_true.1 hall t hm)⟩)
    (by kernel_rfl)
#print axioms card
end fr_DecodeReason
end Go.Proofs.YtccmmibkihbobaaDoor

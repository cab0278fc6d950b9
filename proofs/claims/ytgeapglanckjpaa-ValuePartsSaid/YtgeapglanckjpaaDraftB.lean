/- What ids, key and target compute for a draft. No condition. -/
import Derived.Test.YtgeapglanckjpaaGS
import Derived.Test.YtgeapglanckjpaaGD
import Derived.Test.YtgeapglanckjpaaGA
set_option maxHeartbeats 1000000
namespace Go.Proofs.Ytgeapglanckjpaa
open Go.ChangeShapes Go.WideShapes Go.ChangeAt Go.RowKit
def IdsPost (x : Nod) (w : World) (e : Ending) (w' : World) : Prop := ∃ v, e = .returned v ∧ w'.ownsRow w.heap.size 3 1 v (idsN x).length ((idsN x).map (Value.int .i64)) ∧ Below w.heap.size w w'
set_option maxRecDepth 100000 in
theorem ids_any (x : Nod) (vp : Value) (w : World) : Calls Try.prog 37 #[nodA x vp] w (IdsPost x w) := by
 have hX := Has.made w 74 #[.int .u8 x.kind, .int .u8 x.a, .int .u8 x.b, .int .u8 x.c, vp]
 have h01 := (Below.refl w.heap.size w).alloc (Nat.le_refl _) (.cells #[.int .u8 x.kind, .int .u8 x.a, .int .u8 x.b, .int .u8 x.c, vp] 74)
 have HX := Lib.hid hX
 clear hX
 go_enter Try.func37, Try.ntmps37
 go_wp2_with fail
 go_loopw [3, 4] (fun v i wr => ∃ k : Nat, k ≤ 6 ∧ i = .int .i64 k ∧ wr.ownsRow (w.heap.size + 1) 3 1 v (idsK x k).length ((idsK x k).map (Value.int .i64)) ∧ Below w.heap.size w wr ∧ Has wr w.heap.size 74 #[.int .u8 x.kind, .int .u8 x.a, .int .u8 x.b, .int .u8 x.c, vp])
  (fun _ i _ => 6 - (intOf i).toNat)
 case atStart => exact ⟨0, by omega, rfl, World.ownsRow_nil _ _ _ _, h01, HX.out⟩
 case round =>
  obtain ⟨k, hk, rfl, hown, hb, hc⟩ := hrel
  have c1 := hc.cell 1
  simp only [gl3] at c1
  have hpw : ((x.a : Int) / 2 ^ k) = ((x.a / 2 ^ k : Nat) : Int) := by push_cast; rfl
  have ht : (((x.a : Int) / 2 ^ k).tmod 2 == 1) = idB x k := by
   rw [hpw]
   unfold idB
   generalize x.a / 2 ^ k = q
   rw [Int.tmod_eq_emod_of_nonneg (by omega), Bool.eq_iff_iff]; simp; omega
  have hstep : idsK x (k + 1) = idsK x k ++ (if idB x k then [((k + 1 : Nat) : Int)] else []) := rfl
  have hkl := idsK_len x k
  clear hpw
  by_cases hlt : k < 6
  ·
   cases hbit : idB x k with
   | true =>
    rw [hbit] at ht
    rw [hbit, if_pos rfl] at hstep
    have Hs := Lib.hid hstep
    have Hb := Lib.hid hbit
    clear hbit hstep
    go_wp2_with (at_builtin; refine wpList_append_at rfl _ _ _ rfl (w.heap.size + 1) 3 _ 1 8 Try.underlying44 info_intC rfl (by decide) _ (idsK x k).length ((idsK x k).map (Value.int .i64)) rfl hown [_] _ 1 _ rfl rfl rfl (by simp [Value.oneCell']) (by omega) (by omega) hc.here ?_; intro v' w3 hown3 hb3)
    have hc3 := hc.below hb3 (by omega)
    go_roundw
    case rel =>
     refine ⟨k + 1, by omega, by go_num, ?_, hb.trans (hb3.mono (by omega)), hc3⟩
     rw [Hs.out, List.length_append, List.map_append]; exact hown3
    case measure => simp [intOf]; omega
   | false =>
    rw [hbit] at ht
    rw [hbit, if_neg (by simp)] at hstep
    have Hs := Lib.hid hstep
    clear hbit hstep
    go_wp2_with fail
    go_roundw
    case rel =>
     refine ⟨k + 1, by omega, by go_num, ?_, hb, hc⟩
     rw [Hs.out, List.append_nil]; exact hown
    case measure => simp [intOf]; omega
  obtain rfl : k = 6 := by omega
  clear hstep ht
  by_cases he : (idsK x 6).isEmpty = true
  ·
   have hi : idsN x = [1] := by unfold idsN; rw [if_pos he]
   have h6 : idsK x 6 = [] := List.isEmpty_iff.1 he
   rw [h6] at hown
   have Hi := Lib.hid hi
   have Hl : Hid ((idsK x 6).length = 0) := by rw [h6]; rfl
   clear hi h6 he
   obtain ⟨A, cp, rfl⟩ := own_form hown
   go_wp2_with (at_builtin; refine wpList_append_at rfl _ _ _ rfl (w.heap.size + 1) 3 _ 1 8 Try.underlying44 info_intC rfl (by decide) _ 0 [] rfl hown [_] _ 1 _ rfl rfl rfl (by simp [Value.oneCell']) (by omega) (by omega) hc.here ?_; intro v' w3 hown3 hb3)
   go_ret
   refine ⟨_, rfl, ?_, hb.trans (hb3.mono (by omega))⟩
   rw [Hi.out]
   exact own_base hown3 (by omega)
  have hi : idsN x = idsK x 6 := by unfold idsN; rw [if_neg he]
  have hl : 0 < (idsK x 6).length := by
   cases h2 : idsK x 6 with
   | nil => rw [h2] at he; simp at he
   | cons a r => simp
  have h0 : (((idsK x 6).length : Int) == 0) = false := beq_eq_false_iff_ne.2 (by omega)
  have Hi := Lib.hid hi
  clear hi he
  obtain ⟨A, cp, rfl⟩ := own_form hown
  go_wp2_with fail
  go_ret
  refine ⟨_, rfl, ?_, hb⟩
  rw [Hi.out]
  exact own_base hown (by omega)
theorem firstF_step (p : Nat → Bool) (f k : Nat) : firstF p (f + 1) k = if p k then some k else firstF p f (k + 1) := rfl
set_option maxRecDepth 100000 in
theorem key_any (xs : List Nod) (vn : Value) (code : Nat) (w : World) (hc : code < 256) (h5 : 0 < xs.length ∧ xs.length ≤ 5) (hr : RdNods w w.heap.size vn xs) :
  Calls Try.prog 39 #[.agg #[vn], .int .u8 code] w fun e w' => e = .returned (.int .i64 (natI (keyN xs code))) ∧ Below w.heap.size w w' := by
 obtain ⟨A, c, rfl, hcap⟩ := hr.form
 have hX := Has.made w 24 #[.slice A xs.length c]
 have h01 := (Below.refl w.heap.size w).alloc (Nat.le_refl _) (.cells #[.slice A xs.length c] 24)
 have HX := Lib.hid hX
 have HR := Lib.hid hr
 have Hk : Hid (keyN xs code = (firstF (fun k => keyKindN (kindAt xs (keyPlace xs code k))) xs.length 0).map (keyPlace xs code)) := rfl
 generalize keyN xs code = r at *
 clear hX hr
 have hz : ((xs.length : Int) == 0) = false := beq_eq_false_iff_ne.2 (by omega)
 have hzl : (1 : Int) ≤ xs.length := by omega
 have hpl : (xs.length : Int) ≤ 5 := by omega
 have hcc : (code : Int) < 256 := by omega
 go_enter Try.func39, Try.ntmps39
 have c0 := HX.out.cell 0
 simp only [gl3] at c0
 go_wp2_with fail
 clear c0
 go_loopw [6] (fun i wr => ∃ k : Nat, k ≤ xs.length ∧ i = .int .i64 k ∧ Hid (r = (firstF (fun k => keyKindN (kindAt xs (keyPlace xs code k))) (xs.length - k) k).map (keyPlace xs code)) ∧ Below w.heap.size w wr ∧ Has wr w.heap.size 24 #[.slice A xs.length c])
  (fun i _ => 5 - (intOf i).toNat)
 case atStart => exact ⟨0, by omega, rfl, Hk, h01, HX.out⟩
 case round =>
  obtain ⟨k, hk, rfl, HK, hb, hx⟩ := hrel
  clear Hk HX h01
  have c0 := hx.cell 0
  simp only [gl3] at c0
  by_cases hlt : k < xs.length
  ·
   have hnx := HK.out
   obtain ⟨d, hd⟩ : ∃ d, xs.length - k = d + 1 := ⟨xs.length - k - 1, by omega⟩
   rw [hd, firstF_step] at hnx
   have hd2 : d = xs.length - (k + 1) := by omega
   rw [hd2] at hnx
   have hpl2 : keyPlace xs code k < xs.length := Nat.mod_lt _ h5.1
   have hki := fun W h => kind_any xs (.slice A xs.length c) (keyPlace xs code k) W hpl2 h
   have hkr := kindN_in xs[keyPlace xs code k]
   rw [kindAt_get _ _ hpl2] at hnx
   have hplv : ((code : Int) + k) % xs.length = (keyPlace xs code k : Int) := by unfold keyPlace; push_cast; rfl
   generalize kindN xs[keyPlace xs code k] = q at *
   have hkk : keyKindN q = (decide (1 ≤ (q : Int)) && decide ((q : Int) ≤ 4)) := by unfold keyKindN; rw [show decide (1 ≤ (q : Int)) = decide (1 ≤ q) from decide_eq_decide.2 (by omega), show decide ((q : Int) ≤ 4) = decide (q ≤ 4) from decide_eq_decide.2 (by omega)]
   cases hq : keyKindN q with
   | true =>
    rw [hq, if_pos rfl] at hnx
    rw [hq] at hkk
    have HN := Lib.hid hnx
    have HKK := Lib.hid hkk.symm
    have HI := Lib.hid hki
    clear hnx hd hd2 hkk hki HK hq
    go_wp2_with fail
    refine (HI.out _ (HR.out.on hb)).mono ?_
    rintro e w1 ⟨rfl, hb1⟩
    go_wp2_with fail
    refine (keykind_any _ _).mono ?_
    rintro e w2 ⟨rfl, rfl⟩
    rw [HKK.out]
    go_wp2_with fail
    go_ret
    exact ⟨ret_int (by rw [HN.out]; rfl), hb.trans (hb1.mono hb.size)⟩
   | false =>
    rw [hq, if_neg (by simp)] at hnx
    rw [hq] at hkk
    have HN := Lib.hid hnx
    have HKK := Lib.hid hkk.symm
    have HI := Lib.hid hki
    clear hnx hd hd2 hkk hki HK hq
    go_wp2_with fail
    refine (HI.out _ (HR.out.on hb)).mono ?_
    rintro e w1 ⟨rfl, hb1⟩
    have hx1 := hx.below hb1 hx.here
    clear c0
    go_wp2_with fail
    refine (keykind_any _ _).mono ?_
    rintro e w2 ⟨rfl, rfl⟩
    rw [HKK.out]
    go_wp2_with fail
    go_roundw
    case rel => exact ⟨k + 1, by omega, by go_num, HN, hb.trans (hb1.mono hb.size), hx1⟩
    case measure => simp [intOf]; omega
  obtain rfl : k = xs.length := by omega
  have hr0 := HK.out
  rw [Nat.sub_self] at hr0
  have HN := Lib.hid hr0
  clear hr0 HK
  go_wp2_with fail
  go_ret
  exact ⟨ret_int (by rw [HN.out]; rfl), hb⟩
set_option maxRecDepth 100000 in
theorem target_any (xs : List Nod) (vn : Value) (i code : Nat) (w : World) (hc : code < 256) (h5 : 0 < xs.length ∧ xs.length ≤ 5) (hr : RdNods w w.heap.size vn xs) :
  Calls Try.prog 60 #[.agg #[vn], .int .i64 i, .int .u8 code] w fun e w' => e = .returned (.int .i64 (natI (targetN xs i code))) ∧ Below w.heap.size w w' := by
 obtain ⟨A, c, rfl, hcap⟩ := hr.form
 have hX := Has.made w 24 #[.slice A xs.length c]
 have h01 := (Below.refl w.heap.size w).alloc (Nat.le_refl _) (.cells #[.slice A xs.length c] 24)
 have hr1 := hr.on h01
 have HX := Lib.hid hX
 have Ht : Hid (targetN xs i code = if hollowN (kindAt xs (code % xs.length)) || decide (code % xs.length < i) then some (code % xs.length) else if 0 < i then some (code % xs.length % i) else firstF (fun k => hollowN (kindAt xs k)) xs.length 0) := rfl
 have hm : code % xs.length < xs.length := Nat.mod_lt _ h5.1
 have hkA := fun i hi W h => kind_any xs (.slice A xs.length c) i W hi h
 have hki := fun W h => kind_any xs (.slice A xs.length c) (code % xs.length) W hm h
 have hkr := kindN_in xs[code % xs.length]
 have hkat := kindAt_get xs _ hm
 rw [hkat] at Ht
 have hmod : (code : Int) % xs.length = ((code % xs.length : Nat) : Int) := by push_cast; rfl
 generalize kindN xs[code % xs.length] = q at *
 generalize code % xs.length = tt at *
 generalize targetN xs i code = r at *
 have HI := Lib.hid hki
 have HA := Lib.hid hkA
 have HR := Lib.hid hr1
 clear hX hr hr1 hkat hki hkA
 have hz : ((xs.length : Int) == 0) = false := beq_eq_false_iff_ne.2 (by omega)
 have hzl : (1 : Int) ≤ xs.length := by omega
 have hpl : (xs.length : Int) ≤ 5 := by omega
 have hcc : (code : Int) < 256 := by omega
 have hho : hollowN q = decide (7 ≤ (q : Int)) := by unfold hollowN; exact decide_eq_decide.2 (by omega)
 cases hq : hollowN q with
 | true =>
  have hr := Ht.out
  rw [hq, Bool.true_or, if_pos rfl] at hr
  rw [hq] at hho
  have HN := Lib.hid hr
  have HH := Lib.hid hho.symm
  clear hr hho Ht hq
  go_enter Try.func60, Try.ntmps60
  have c0 := HX.out.cell 0
  simp only [gl3] at c0
  go_wp2_with fail
  refine (HI.out _ HR.out).mono ?_
  rintro e w1 ⟨rfl, hb1⟩
  clear c0
  go_wp2_with fail
  refine (hollow_any _ _).mono ?_
  rintro e w2 ⟨rfl, rfl⟩
  rw [HH.out]
  go_wp2_with fail
  go_ret
  exact ⟨ret_int (by rw [HN.out]; rfl), h01.trans (hb1.mono h01.size)⟩
 | false =>
  have hr := Ht.out
  rw [hq, Bool.false_or] at hr
  rw [hq] at hho
  have HH := Lib.hid hho.symm
  clear hho hq Ht
  by_cases hti : tt < i
  ·
   rw [if_pos (by simpa using hti)] at hr
   have HN := Lib.hid hr
   have hlt : (tt : Int) < i := by omega
   clear hr
   go_enter Try.func60, Try.ntmps60
   have c0 := HX.out.cell 0
   simp only [gl3] at c0
   go_wp2_with fail
   refine (HI.out _ HR.out).mono ?_
   rintro e w1 ⟨rfl, hb1⟩
   clear c0
   go_wp2_with fail
   refine (hollow_any _ _).mono ?_
   rintro e w2 ⟨rfl, rfl⟩
   rw [HH.out]
   go_wp2_with fail
   go_ret
   exact ⟨ret_int (by rw [HN.out]; rfl), h01.trans (hb1.mono h01.size)⟩
  rw [if_neg (by simpa using hti)] at hr
  by_cases hi0 : 0 < i
  ·
   rw [if_pos hi0] at hr
   have HN := Lib.hid hr
   clear hr
   have hi1 : (1 : Int) ≤ i := by omega
   have hiz : ((i : Int) == 0) = false := beq_eq_false_iff_ne.2 (by omega)
   have hmi : (tt : Int) % i = ((tt % i : Nat) : Int) := by push_cast; rfl
   go_enter Try.func60, Try.ntmps60
   have c0 := HX.out.cell 0
   simp only [gl3] at c0
   go_wp2_with fail
   refine (HI.out _ HR.out).mono ?_
   rintro e w1 ⟨rfl, hb1⟩
   clear c0
   go_wp2_with fail
   refine (hollow_any _ _).mono ?_
   rintro e w2 ⟨rfl, rfl⟩
   rw [HH.out]
   go_wp2_with fail
   go_ret
   exact ⟨ret_int (by rw [HN.out]; rfl), h01.trans (hb1.mono h01.size)⟩
  rw [if_neg hi0] at hr
  have HN := Lib.hid hr
  clear hr
  go_enter Try.func60, Try.ntmps60
  have c0 := HX.out.cell 0
  simp only [gl3] at c0
  go_wp2_with fail
  refine (HI.out _ HR.out).mono ?_
  rintro e w1 ⟨rfl, hb1⟩
  have hx1 := HX.out.below hb1 HX.out.here
  have h1 := h01.trans (hb1.mono h01.size)
  have HR1 := Lib.hid (HR.out.on hb1)
  clear c0
  go_wp2_with fail
  refine (hollow_any _ _).mono ?_
  rintro e w2 ⟨rfl, rfl⟩
  rw [HH.out]
  go_wp2_with fail
  clear HH HI hkr
  go_loopw [9] (fun i wr => ∃ k : Nat, k ≤ xs.length ∧ i = .int .i64 k ∧ Hid (r = firstF (fun k => hollowN (kindAt xs k)) (xs.length - k) k) ∧ Below w1.heap.size w1 wr ∧ Has wr w.heap.size 24 #[.slice A xs.length c])
   (fun i _ => 5 - (intOf i).toNat)
  case atStart => exact ⟨0, by omega, rfl, HN, Below.refl _ _, hx1⟩
  case round =>
   obtain ⟨k, hk, rfl, HK, hb, hx⟩ := hrel
   clear HN HX
   have c0 := hx.cell 0
   simp only [gl3] at c0
   by_cases hlt : k < xs.length
   ·
    have hnx := HK.out
    obtain ⟨d, hd⟩ : ∃ d, xs.length - k = d + 1 := ⟨xs.length - k - 1, by omega⟩
    rw [hd, firstF_step] at hnx
    have hd2 : d = xs.length - (k + 1) := by omega
    rw [hd2] at hnx
    have hki := fun W h => HA.out k hlt W h
    have hkr := kindN_in xs[k]
    rw [kindAt_get _ _ hlt] at hnx
    generalize kindN xs[k] = q at *
    have hho : hollowN q = decide (7 ≤ (q : Int)) := by unfold hollowN; exact decide_eq_decide.2 (by omega)
    cases hq : hollowN q with
    | true =>
     rw [hq, if_pos rfl] at hnx
     rw [hq] at hho
     have HN := Lib.hid hnx
     have HH := Lib.hid hho.symm
     have HI := Lib.hid hki
     clear hnx hd hd2 hki hho HK hq
     go_wp2_with fail
     refine (HI.out _ (HR1.out.on hb)).mono ?_
     rintro e w2 ⟨rfl, hb2⟩
     go_wp2_with fail
     refine (hollow_any _ _).mono ?_
     rintro e w3 ⟨rfl, rfl⟩
     rw [HH.out]
     go_wp2_with fail
     go_ret
     exact ⟨ret_int (by rw [HN.out]; rfl), h1.trans ((hb.trans (hb2.mono hb.size)).mono h1.size)⟩
    | false =>
     rw [hq, if_neg (by simp)] at hnx
     rw [hq] at hho
     have HN := Lib.hid hnx
     have HH := Lib.hid hho.symm
     have HI := Lib.hid hki
     clear hnx hd hd2 hki hho HK hq
     go_wp2_with fail
     refine (HI.out _ (HR1.out.on hb)).mono ?_
     rintro e w2 ⟨rfl, hb2⟩
     have hx2 := hx.below hb2 hx.here
     clear c0
     go_wp2_with fail
     refine (hollow_any _ _).mono ?_
     rintro e w3 ⟨rfl, rfl⟩
     rw [HH.out]
     go_wp2_with fail
     go_roundw
     case rel => exact ⟨k + 1, by omega, by go_num, HN, hb.trans (hb2.mono hb.size), hx2⟩
     case measure => simp [intOf]; omega
   obtain rfl : k = xs.length := by omega
   have hr0 := HK.out
   rw [Nat.sub_self] at hr0
   have HN := Lib.hid hr0
   clear hr0 HK
   go_wp2_with fail
   go_ret
   exact ⟨ret_int (by rw [HN.out]; rfl), h1.trans (hb.mono h1.size)⟩
end Go.Proofs.Ytgeapglanckjpaa

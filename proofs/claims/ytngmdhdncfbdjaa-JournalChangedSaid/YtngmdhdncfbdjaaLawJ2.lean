/- The laws JournalRead and JournalAppend hold for every input. No condition. -/
import Derived.Test.YtngmdhdncfbdjaaJourAwake
import Derived.Test.YtngmdhdncfbdjaaJourLaws
import Derived.Test.YtngmdhdncfbdjaaLawJ1
import Derived.Test.YtngmdhdncfbdjaaShelf
namespace Go.Proofs.Ytngmdhdncfbdjaa
open Go.ChangeShapes Go.WideShapes Go.ChangeAt Go.RowKit Go.Joins
open Go.ChangeMaps (open_string shut_string)

theorem Rd.on {w w' : World} {size n : Nat} {v : Value} {xs : List Value} (h : Rd w w.heap.size size v n xs) (hb : Below w.heap.size w w') : Rd w' w'.heap.size size v n xs := (h.below hb).mono hb.size

set_option maxRecDepth 100000 in
set_option maxHeartbeats 400000 in
theorem walk_JournalRead (l : List UInt8) (hl : l.length ≤ maxLen) (w : World) :
    Calls Try.prog 10 #[.string ⟨l.toArray⟩] w fun e w' => e = .returned (.bool true) ∧ Below w.heap.size w w' := by
  have hm : l.length ≤ 9223372036854775807 := hl
  clear hl
  by_cases h600 : 600 < (l.length : Int)
  · go_enter Try.func10, Try.ntmps10
    go_wp2_with fail
    refine (awake_any _).mono ?_
    rintro e w1 ⟨rfl, hb1⟩
    go_wp2_with fail
    refine (awake_any w1).mono ?_
    rintro e w2 ⟨rfl, hb2⟩
    go_wp2_with fail
    go_ret
    exact ⟨rfl, hb1.trans (hb2.mono hb1.size)⟩
  · have hr := Lib.hid (fun W => read_any l (by omega) W)
    have hrr := Lib.hid (fun W => rread_any l (by omega) W)
    have hp := Lib.hid (fun W => repair_any l (by omega) W)
    have hrp := Lib.hid (fun W => rrepair_any l (by omega) W)
    have hle := readJ_le l
    have hrl : (repairJ l).length ≤ l.length := by unfold repairJ; rw [List.length_take]; omega
    have hag := fun W => read_any (repairJ l) (by omega) W
    rw [repair_read] at hag
    have HAG := Lib.hid hag
    clear hag
    generalize readJ l = x at *
    generalize repairJ l = r at *
    obtain ⟨es, n, e⟩ := x
    simp only at hr hrr HAG hle
    have hsm := fun va vb W h1 h2 => same_any es es va vb W (by omega) (by omega) h1 h2
    simp only [decide_true] at hsm
    have HS := Lib.hid hsm
    have HT := Lib.hid (fun v W h => token_any es v W (by omega) h)
    have HRT := Lib.hid (fun v W h => rtoken_any es v W (by omega) h)
    generalize tokenJ es = m at *
    clear hsm hle hrl
    go_enter Try.func10, Try.ntmps10
    go_wp2_with fail
    refine (awake_any _).mono ?_
    rintro e w1 ⟨rfl, hb1⟩
    go_wp2_with fail
    refine (hr.out _).mono ?_
    rintro e w2 ⟨v1, rfl, hown, hb2⟩
    have h02 := hb1.trans (hb2.mono hb1.size)
    have R1 := Lib.hid (Rd.of_own hown)
    clear hown hb1 hb2
    go_wp2_with fail
    refine (hrr.out _).mono ?_
    rintro e w3 ⟨v2, rfl, hown, hb3⟩
    have h03 := h02.trans (hb3.mono h02.size)
    have R2 := Lib.hid (Rd.of_own hown)
    have R1 := Lib.hid (R1.out.on hb3)
    clear hown hb3 h02
    go_wp2_with fail
    refine (hp.out _).mono ?_
    rintro e w4 ⟨rfl, hb4⟩
    have h04 := h03.trans (hb4.mono h03.size)
    have R1 := Lib.hid (R1.out.on hb4)
    have R2 := Lib.hid (R2.out.on hb4)
    clear hb4 h03
    go_wp2_with fail
    refine (HAG.out _).mono ?_
    rintro e w5 ⟨v3, rfl, hown, hb5⟩
    have h05 := h04.trans (hb5.mono h04.size)
    have R3 := Lib.hid (Rd.of_own hown)
    have R1 := Lib.hid (R1.out.on hb5)
    have R2 := Lib.hid (R2.out.on hb5)
    clear hown hb5 h04
    go_wp2_with fail
    refine (HS.out _ _ _ R1.out R2.out).mono ?_
    rintro e w6 ⟨rfl, hb6⟩
    have h06 := h05.trans (hb6.mono h05.size)
    have R1 := Lib.hid (R1.out.on hb6)
    have R2 := Lib.hid (R2.out.on hb6)
    have R3 := Lib.hid (R3.out.on hb6)
    clear hb6 h05
    go_wp2_with fail
    refine (hp.out _).mono ?_
    rintro e w7 ⟨rfl, hb7⟩
    have h07 := h06.trans (hb7.mono h06.size)
    have R1 := Lib.hid (R1.out.on hb7)
    have R2 := Lib.hid (R2.out.on hb7)
    have R3 := Lib.hid (R3.out.on hb7)
    clear hb7 h06
    go_wp2_with fail
    refine (hrp.out _).mono ?_
    rintro e w8 ⟨rfl, hb8⟩
    have h08 := h07.trans (hb8.mono h07.size)
    have R1 := Lib.hid (R1.out.on hb8)
    have R2 := Lib.hid (R2.out.on hb8)
    have R3 := Lib.hid (R3.out.on hb8)
    clear hb8 h07
    go_wp2_with fail
    refine (HT.out _ _ R1.out).mono ?_
    rintro e w9 ⟨rfl, hb9⟩
    have h09 := h08.trans (hb9.mono h08.size)
    have R2 := Lib.hid (R2.out.on hb9)
    have R3 := Lib.hid (R3.out.on hb9)
    clear hb9 h08 R1
    go_wp2_with fail
    refine (HRT.out _ _ R2.out).mono ?_
    rintro e w10 ⟨rfl, hb10⟩
    have h10 := h09.trans (hb10.mono h09.size)
    have R2 := Lib.hid (R2.out.on hb10)
    have R3 := Lib.hid (R3.out.on hb10)
    clear hb10 h09
    go_wp2_with fail
    refine (HS.out _ _ _ R3.out R2.out).mono ?_
    rintro e w11 ⟨rfl, hb11⟩
    go_wp2_with fail
    go_ret
    exact ⟨ret_bool (by first | rfl | simp), h10.trans (hb11.mono h10.size)⟩

namespace fr_JournalRead
set_option maxRecDepth 100000 in
theorem lifted (os : Os) (started : os.Started) (H : Type) (enc : TypeId × Value → H) :
    ReturnsInHanded {} Try.checked os 10 .any (Rows.journalReadSpec.pre6 enc Try.prog Try.f10 Rows.journalReadRow.domain false) (Rows.journalReadSpec.post enc Try.prog Try.f10 false true false false) := by
  refine returnsInHanded_of_change (C := Try.checked) own_knob started (by kernel_rfl) Try.func10
    (ChangeSpec.witness6 (enc := enc) (C := Try.checked) false ⟨#[], #[.string ByteArray.empty], []⟩ 8 (by kernel_rfl) (by kernel_rfl) (by kernel_rfl) (by kernel_rfl)) ?_
  intro W base args ds gs before hval0 hW hcnd _
  have hval : ∀ (j : Nat) t v, Try.f10.params[j]? = some t → args[j]? = some v → Value.okWide Try.prog W .any base t v := hval0
  have hW' := hW
  have hlt : ∀ p ∈ before, p.block < W.heap.size := fun p hp => hW.lt p hp
  obtain ⟨p, q, hA0, hV, rfl, hfz, hnd⟩ := hW
  have hA : DataW.TrodAll enc Try.prog W 0 (fun _ => true) true Try.f10.params.toList args.toList ds p := hA0
  have hA2 := hA
  rw [Try.params10] at hA hval
  obtain ⟨v0, vs0, d0, ds0, p0, q0, hargs, rfl, hpq, h0, r0⟩ := trodAll_cons hA
  obtain ⟨rfl, rfl, rfl⟩ := trodAll_nil r0
  obtain rfl : args = #[v0] := by cases args; simp_all
  obtain ⟨rfl, rfl⟩ := trodVars_none hV
  obtain ⟨x0, rfl, rfl, rfl, w0⟩ := open_string Try.underlying9 (hval 0 9 v0 rfl rfl) h0
  obtain ⟨a0, rfl, u0⟩ := str_list x0
  rw [u0] at w0
  clear hA0 hval0
  refine (walk_JournalRead a0 w0 W).mono fun e W' ⟨he, bel⟩ => ?_
  subst he
  exact ⟨_, rfl, _, _, _, [], _, [], hW', trodAll_mk1 (shut_bool Try.underlying4 _), trodAll_below laid_out bel _ _ _ _ (by kernel_rfl) hA2 (fun x hx => hlt x (by simpa using hx)), rfl, bel.frame _, fun h => by cases h⟩
theorem proved : Rows.JournalReadSaid :=
  OpenClaim.holds_of_wide 10 Try.f10 rfl rfl rfl rfl rfl rfl rfl ⟨rfl, rfl, rfl, rfl, rfl⟩ rfl rfl rfl rfl rfl (by kernel_rfl) Try.func10 (by kernel_rfl)
    (of_decide_eq_true (by kernel_rfl)) (by unfold Func.isWrapper; first | (rw [if_pos (by decide +kernel)]; kernel_rfl) | (rw [if_neg (by decide +kernel)]; exact ⟨rfl, rfl⟩))
    (fun os started H enc _ => lifted os started H enc)
#print axioms proved
end fr_JournalRead


theorem wf_u16 {a : Int} (h : (Lit.int .u16 a).wf = true) : ∃ n : Nat, a = (n : Int) ∧ n < 65536 := by
  simp [Lit.wf, IntKind.min, IntKind.max, IntKind.bits, IntKind.signed] at h
  exact ⟨a.toNat, by omega, by omega⟩
theorem repeat_any (l : List UInt8) (c : Nat) (w : World) (hc : c < 65536) (hlen : l.length * c ≤ 140737488355328) :
    Calls Try.prog 29 #[.string ⟨l.toArray⟩, .int .i64 c] w fun e w' => e = .returned (.string ⟨(Lib.repeatL l c).toArray⟩) ∧ Below w.heap.size w w' :=
  Try.strings_Repeat ⟨l.toArray⟩ c w (by omega) (by simpa [ByteArray.size] using hlen)

set_option maxRecDepth 100000 in
set_option maxHeartbeats 400000 in
theorem walk_JournalAppend (l : List UInt8) (hl : l.length ≤ maxLen) (k t i : Int) (d : List UInt8) (hin : EntIn (k, t, i, d)) (c : Nat) (hcb : c < 65536) (w : World) :
    Calls Try.prog 11 #[.string ⟨l.toArray⟩, .agg #[.int .i64 k, .int .i64 t, .int .i64 i, .string ⟨d.toArray⟩], .int .u16 c] w fun e w' => e = .returned (.bool true) ∧ Below w.heap.size w w' := by
  have hm : l.length ≤ 9223372036854775807 := hl
  clear hl
  obtain ⟨hx, hd⟩ := hin
  simp only at hd
  have HX := Lib.hid hx
  clear hx
  by_cases h600 : 600 < (l.length : Int)
  · go_enter Try.func11, Try.ntmps11
    go_wp2_with fail
    refine (awake_any _).mono ?_
    rintro e w1 ⟨rfl, hb1⟩
    have h01 := ((Below.refl w.heap.size w).alloc (Nat.le_refl _) _).trans (hb1.mono (by simp))
    clear hb1
    go_wp2_with fail
    refine (awake_any w1).mono ?_
    rintro e w2 ⟨rfl, hb2⟩
    go_wp2_with fail
    go_ret
    exact ⟨rfl, h01.trans (hb2.mono h01.size)⟩
  by_cases h500 : 500 < (d.length : Int)
  · go_enter Try.func11, Try.ntmps11
    go_wp2_with fail
    refine (awake_any _).mono ?_
    rintro e w1 ⟨rfl, hb1⟩
    have h01 := ((Below.refl w.heap.size w).alloc (Nat.le_refl _) _).trans (hb1.mono (by simp))
    obtain ⟨c0, c1, c2, c3⟩ := has4 ((Has.made w 23 #[.int .i64 k, .int .i64 t, .int .i64 i, .string ⟨d.toArray⟩]).below hb1 (by simp))
    clear hb1
    go_wp2_with fail
    refine (awake_any w1).mono ?_
    rintro e w2 ⟨rfl, hb2⟩
    go_wp2_with fail
    go_ret
    exact ⟨rfl, h01.trans (hb2.mono h01.size)⟩
  have hle : d.length * c ≤ 500 * 65536 := Nat.mul_le_mul (by omega) (Nat.le_of_lt hcb)
  obtain ⟨p, hpe⟩ : ∃ p : Nat, d.length * c = p := ⟨_, rfl⟩
  have hpi : (d.length : Int) * (c : Int) = (p : Int) := by rw [← hpe]; simp
  rw [hpe] at hle
  by_cases h7 : 70000 < (p : Int)
  · clear hpe
    go_enter Try.func11, Try.ntmps11
    go_wp2_with fail
    refine (awake_any _).mono ?_
    rintro e w1 ⟨rfl, hb1⟩
    have h01 := ((Below.refl w.heap.size w).alloc (Nat.le_refl _) _).trans (hb1.mono (by simp))
    obtain ⟨c0, c1, c2, c3⟩ := has4 ((Has.made w 23 #[.int .i64 k, .int .i64 t, .int .i64 i, .string ⟨d.toArray⟩]).below hb1 (by simp))
    clear hb1
    go_wp2_with fail
    refine (awake_any w1).mono ?_
    rintro e w2 ⟨rfl, hb2⟩
    go_wp2_with fail
    go_ret
    exact ⟨rfl, h01.trans (hb2.mono h01.size)⟩
  have hrep := Lib.hid (fun W => repeat_any d c W hcb (by omega))
  have hRl : (Lib.repeatL d c).length ≤ 70000 := by rw [Lib.repeatL_length, Nat.mul_comm]; omega
  clear hpe
  generalize Lib.repeatL d c = R at *
  have hxR : EntOk (k, t, i, R) := HX.out
  have A1 := Lib.hid (fun W => append_any l k t i R hxR (by omega) (by omega) W)
  have A2 := Lib.hid (fun W => rappend_any l k t i R hxR (by omega) (by omega) W)
  have A3 := Lib.hid (fun W => write_any l k t i R hxR (by omega) (by omega) W)
  have A4 := Lib.hid (fun W => rwrite_any l k t i R hxR (by omega) (by omega) W)
  clear hxR
  generalize appendJ l (k, t, i, R) = q at *
  generalize writeJ l (k, t, i, R) = z at *
  obtain ⟨q, qe⟩ := q
  obtain ⟨z, ze⟩ := z
  simp only at A1 A2 A3 A4
  go_enter Try.func11, Try.ntmps11
  go_wp2_with fail
  refine (awake_any _).mono ?_
  rintro e w1 ⟨rfl, hb1⟩
  have h01 := ((Below.refl w.heap.size w).alloc (Nat.le_refl _) _).trans (hb1.mono (by simp))
  have H1 := (Has.made w 23 #[.int .i64 k, .int .i64 t, .int .i64 i, .string ⟨d.toArray⟩]).below hb1 (by simp)
  have hz1 : w.heap.size < w1.heap.size := by have := hb1.size; simp at this; omega
  obtain ⟨c0, c1, c2, c3⟩ := has4 H1
  have H1 := Lib.hid H1
  clear hb1
  go_wp2_with fail
  refine (hrep.out _).mono ?_
  rintro e w2 ⟨rfl, hb2⟩
  have h02 := h01.trans (hb2.mono h01.size)
  have H2 := H1.out.below hb2 hz1
  have hz2 : w.heap.size < w2.heap.size := Nat.lt_of_lt_of_le hz1 hb2.size
  clear hb2 h01 c0 c1 c2 c3 H1
  obtain ⟨c0, c1, c2, c3⟩ := has4 H2
  have f3 := H2.free 3
  have H2 := Lib.hid H2
  go_wp2_with fail
  refine (A1.out _).mono ?_
  have H2s := H2.out.set 3 (.string ⟨R.toArray⟩)
  have h02s := h02.setCell (p := ⟨w.heap.size, 3, none⟩) (Nat.le_refl _) (.string ⟨R.toArray⟩)
  have hz2s : w.heap.size < (w2.setCell ⟨w.heap.size, 3, none⟩ (.string ⟨R.toArray⟩)).heap.size := by simpa [World.setCell] using hz2
  clear c0 c1 c2 c3 f3 H2 h02 hz2
  generalize w2.setCell ⟨w.heap.size, 3, none⟩ (.string ⟨R.toArray⟩) = w3 at *
  have H3 : Has w3 w.heap.size 23 #[.int .i64 k, .int .i64 t, .int .i64 i, .string ⟨R.toArray⟩] := H2s
  clear H2s
  rintro e w4 ⟨rfl, hb4⟩
  have h04 := h02s.trans (hb4.mono h02s.size)
  have H4 := H3.below hb4 hz2s
  have hz4 : w.heap.size < w4.heap.size := Nat.lt_of_lt_of_le hz2s hb4.size
  clear hb4 h02s H3
  obtain ⟨c0, c1, c2, c3⟩ := has4 H4
  have H4 := Lib.hid H4
  go_wp2_with fail
  refine (A2.out _).mono ?_
  rintro e w5 ⟨rfl, hb5⟩
  have h05 := h04.trans (hb5.mono h04.size)
  have H5 := H4.out.below hb5 hz4
  have hz5 : w.heap.size < w5.heap.size := Nat.lt_of_lt_of_le hz4 hb5.size
  clear hb5 h04 H4 c0 c1 c2 c3
  obtain ⟨c0, c1, c2, c3⟩ := has4 H5
  have H5 := Lib.hid H5
  go_wp2_with fail
  refine (A3.out _).mono ?_
  rintro e w6 ⟨rfl, hb6⟩
  have h06 := h05.trans (hb6.mono h05.size)
  have H6 := H5.out.below hb6 hz5
  clear hb6 h05 H5 c0 c1 c2 c3
  obtain ⟨c0, c1, c2, c3⟩ := has4 H6
  have H6 := Lib.hid H6
  go_wp2_with fail
  refine (A4.out _).mono ?_
  rintro e w7 ⟨rfl, hb7⟩
  go_wp2_with fail
  go_ret
  exact ⟨ret_bool (by first | rfl | simp), h06.trans (hb7.mono h06.size)⟩

namespace fr_JournalAppend
set_option maxRecDepth 100000 in
theorem lifted (os : Os) (started : os.Started) (H : Type) (enc : TypeId × Value → H) :
    ReturnsInHanded {} Try.checked os 11 .any (Rows.journalAppendSpec.pre6 enc Try.prog Try.f11 Rows.journalAppendRow.domain false) (Rows.journalAppendSpec.post enc Try.prog Try.f11 false true false false) := by
  refine returnsInHanded_of_change_sized (C := Try.checked) own_knob started (by kernel_rfl) Try.func11
    (ChangeSpec.witness6 (enc := enc) (C := Try.checked) false ⟨#[], #[.string ByteArray.empty, .agg #[.int .i64 0, .int .i64 0, .int .i64 0, .string ByteArray.empty], .int .u16 0], []⟩ 8 (by kernel_rfl) (by kernel_rfl) (by kernel_rfl) (by kernel_rfl)) ?_
  intro W base args ds gs before hval0 hW hcnd hsz0 _
  have hsz : (DataW.weightsEach Try.prog (Try.f11.params.toList ++ Rows.journalAppendSpec.plain.varTypes Try.prog) (ds ++ gs)).all (· ≤ reachBytes) = true := hsz0
  have hval : ∀ (j : Nat) t v, Try.f11.params[j]? = some t → args[j]? = some v → Value.okWide Try.prog W .any base t v := hval0
  have hW' := hW
  have hlt : ∀ p ∈ before, p.block < W.heap.size := fun p hp => hW.lt p hp
  obtain ⟨p, q, hA0, hV, rfl, hfz, hnd⟩ := hW
  have hA : DataW.TrodAll enc Try.prog W 0 (fun _ => true) true Try.f11.params.toList args.toList ds p := hA0
  have hA2 := hA
  rw [Try.params11] at hA hval hsz
  obtain ⟨v0, vs0, d0, ds0, p0, q0, hargs, rfl, hpq, h0, r0⟩ := trodAll_cons hA
  obtain ⟨v1, vs1, d1, ds1, p1, q1, rfl, rfl, rfl, h1, r1⟩ := trodAll_cons r0
  obtain ⟨v2, vs2, d2, ds2, p2, q2, rfl, rfl, rfl, h2, r2⟩ := trodAll_cons r1
  obtain ⟨rfl, rfl, rfl⟩ := trodAll_nil r2
  obtain rfl : args = #[v0, v1, v2] := by cases args; simp_all
  obtain ⟨rfl, rfl⟩ := trodVars_none hV
  obtain ⟨x0, rfl, rfl, rfl, w0⟩ := open_string Try.underlying9 (hval 0 9 v0 rfl rfl) h0
  obtain ⟨a0, rfl, u0⟩ := str_list x0
  rw [u0] at w0
  obtain ⟨k1, t1, i1, l1, rfl, e1⟩ := open_ent (hval 1 23 v1 rfl rfl) h1 (sz_of_each hsz (j := 1) rfl (by simp))
  obtain ⟨x2, rfl, rfl, rfl, w2⟩ := open_int Try.underlying34 (hval 2 34 v2 rfl rfl) h2
  obtain ⟨a2, rfl, u2⟩ := wf_u16 w2
  clear hA0 hval0
  refine (walk_JournalAppend a0 w0 k1 t1 i1 l1 e1 a2 u2 W).mono fun e W' ⟨he, bel⟩ => ?_
  subst he
  exact ⟨_, rfl, _, _, _, [], _, [], hW', trodAll_mk1 (shut_bool Try.underlying4 _), trodAll_below laid_out bel _ _ _ _ (by kernel_rfl) hA2 (fun x hx => hlt x (by simpa using hx)), rfl, bel.frame _, fun h => by cases h⟩
theorem proved : Rows.JournalAppendSaid :=
  OpenClaim.holds_of_wide 11 Try.f11 rfl rfl rfl rfl rfl rfl rfl ⟨rfl, rfl, rfl, rfl, rfl⟩ rfl rfl rfl rfl rfl (by kernel_rfl) Try.func11 (by kernel_rfl)
    (of_decide_eq_true (by kernel_rfl)) (by unfold Func.isWrapper; first | (rw [if_pos (by decide +kernel)]; kernel_rfl) | (rw [if_neg (by decide +kernel)]; exact ⟨rfl, rfl⟩))
    (fun os started H enc _ => lifted os started H enc)
#print axioms proved
end fr_JournalAppend

end Go.Proofs.Ytngmdhdncfbdjaa

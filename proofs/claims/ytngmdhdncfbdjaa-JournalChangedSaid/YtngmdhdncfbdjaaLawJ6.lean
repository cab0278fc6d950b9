/- The law JournalChanged holds for every input. No condition. -/
import Derived.Test.YtngmdhdncfbdjaaLawJ5
import Derived.Lib.ConvBytes
namespace Go.Proofs.Ytngmdhdncfbdjaa
open Go.ChangeShapes Go.WideShapes Go.ChangeAt Go.RowKit Go.Joins
open Go.ChangeMaps (open_string shut_string)

theorem wf_u8 {a : Int} (h : (Lit.int .u8 a).wf = true) : ∃ n : Nat, a = (n : Int) ∧ n < 256 := by
  simp [Lit.wf, IntKind.min, IntKind.max, IntKind.bits, IntKind.signed] at h
  exact ⟨a.toNat, by omega, by omega⟩
theorem bytes_below (w : World) (e : TypeId) (s : ByteArray) : Below w.heap.size w (Lib.bytesWorld w e s) := by
  refine ⟨?_, ?_, ?_, by rw [Lib.bytesWorld_size]; omega, fun k hk => Lib.bytesWorld_at_old w e s k hk⟩
  all_goals (unfold Lib.bytesWorld World.freeze; split <;> rfl)
theorem jour_nil (es : List Ent) (h : ∀ x ∈ es, Gd x) (hj : jour es = []) : es = [] := by
  cases es with
  | nil => rfl
  | cons x r =>
    have := frm_pos x (h x (by simp))
    have e : jour (x :: r) = frm x ++ jour r := rfl
    rw [e] at hj
    have h2 := congrArg List.length hj
    rw [List.length_append, List.length_nil] at h2
    omega
theorem xor_same (a b : Nat) (h : a ^^^ b = a) : b = 0 := by
  have h2 : a ^^^ (a ^^^ b) = a ^^^ a := by rw [h]
  rwa [← Nat.xor_assoc, Nat.xor_self, Nat.zero_xor] at h2

/-- the cells at which the frames end -/
def EndsAt (w : World) (b o : Nat) (es : List Ent) : Prop := ∀ i, i ≤ es.length → w.cell? ⟨b, o + i, none⟩ = some (.int .i64 ((jour (es.take i)).length : Nat))
theorem EndsAt.below {w w' : World} {b o B : Nat} {es : List Ent} (h : EndsAt w b o es) (hb : Below B w w') (hlt : b < B) : EndsAt w' b o es := fun i hi => (hb.cell (p := ⟨b, o + i, none⟩) hlt).trans (h i hi)

set_option maxRecDepth 100000 in
set_option maxHeartbeats 1600000 in
theorem walk_JournalChanged (v : Value) (xs : List Ent) (hlen : xs.length ≤ 140737488351232) (hin : ∀ x ∈ xs, EntIn x) (c : Nat) (hc : c < 65536) (ch : Nat) (hch : ch < 256) (w : World) (hr : Rd w w.heap.size 4 v xs.length (entsV xs)) :
    Calls Try.prog 7 #[v, .int .u16 c, .int .u8 ch] w fun e w' => e = .returned (.bool true) ∧ Below w.heap.size w w' := by
  have Hr := Lib.hid hr
  have Hin := Lib.hid hin
  have hfw := fun W h => few_any xs v W hlen hin h
  clear hr
  cases hb : fewB xs with
  | false =>
    rw [hb] at hfw
    have HF := Lib.hid hfw
    clear hfw hb hin
    go_enter Try.func7, Try.ntmps7
    go_wp2_with fail
    refine (awake_any _).mono ?_
    rintro e w1 ⟨rfl, hb1⟩
    have HR1 := Lib.hid (Hr.out.on hb1)
    go_wp2_with fail
    refine (HF.out _ HR1.out).mono ?_
    rintro e w2 ⟨rfl, hb2⟩
    have h02 := hb1.trans (hb2.mono hb1.size)
    clear hb1 hb2
    go_wp2_with fail
    refine (awake_any _).mono ?_
    rintro e w3 ⟨rfl, hb3⟩
    go_wp2_with fail
    go_ret
    exact ⟨rfl, h02.trans (hb3.mono h02.size)⟩
  | true =>
    rw [hb] at hfw
    have HF := Lib.hid hfw
    have hfl := (few_le xs hb).1
    have hlo := fun W h => log_any xs v W hfl hin h
    have hgo := fun W h => good_any xs v W (by omega) hin h
    rw [logJ_eq xs hin] at hlo
    have hgd := good_gd xs hin
    have hgl := goodJ_le xs
    have hjl := jour_len _ hgd
    generalize goodJ xs = es at *
    have HLo := Lib.hid hlo
    have HGo := Lib.hid hgo
    have Hgd := Lib.hid hgd
    clear hfw hb hlo hgo hin
    by_cases hJ : jour es = []
    · rw [hJ] at HLo
      clear hJ hgd hjl
      generalize ends es = E at *
      go_enter Try.func7, Try.ntmps7
      go_wp2_with fail
      refine (awake_any _).mono ?_
      rintro e w1 ⟨rfl, hb1⟩
      have HR1 := Lib.hid (Hr.out.on hb1)
      go_wp2_with fail
      refine (HF.out _ HR1.out).mono ?_
      rintro e w2 ⟨rfl, hb2⟩
      have h02 := hb1.trans (hb2.mono hb1.size)
      have HR2 := Lib.hid (HR1.out.on hb2)
      clear hb1 hb2
      go_wp2_with fail
      refine (HLo.out _ HR2.out).mono ?_
      rintro e w3 ⟨vE, rfl, hown, hb3⟩
      clear hown
      go_wp2_with fail
      go_ret
      exact ⟨rfl, h02.trans (hb3.mono h02.size)⟩
    have hJl : 0 < (jour es).length := List.length_pos_iff.2 hJ
    have hj6 : (jour es).length ≤ 656000 := by omega
    have hJe : (jour es).isEmpty = false := by cases h : jour es with
      | nil => exact absurd h hJ
      | cons a r => rfl
    have hkl : c % (jour es).length < (jour es).length := Nat.mod_lt c hJl
    obtain ⟨k, hku, Hku⟩ : ∃ k : Nat, (c : Int) % ((jour es).length) = (k : Int) ∧ k < (jour es).length := ⟨c % (jour es).length, rfl, hkl⟩
    clear hkl hJ hjl
    obtain ⟨b0, hb0⟩ : ∃ b, (jour es)[k]? = some b := ⟨_, List.getElem?_eq_getElem Hku⟩
    have hbx : (b0.toNat : Int) < 256 := by have := b0.toNat_lt; omega
    obtain ⟨x, hx, Hx⟩ : ∃ x : UInt8, bits .xor .u8 (b0.toNat : Int) (ch : Int) = (x.toNat : Int) ∧ Hid (x.toNat = b0.toNat ^^^ ch) := by
      have hl : b0.toNat ^^^ ch < 256 := Nat.xor_lt_two_pow (n := 8) b0.toNat_lt hch
      refine ⟨UInt8.ofNat (b0.toNat ^^^ ch), ?_, ?_⟩
      · rw [u8_xor_nat _ _ b0.toNat_lt hch, UInt8.toNat_ofNat', Nat.mod_eq_of_lt hl]
      · show _ = _; rw [UInt8.toNat_ofNat', Nat.mod_eq_of_lt hl]
    have hre := fun W => read_any ((jour es).set k x) (by rw [List.length_set]; omega) W
    have hchl : ∀ i, i ≤ es.length → (jour (es.take i)).length ≤ k → i ≤ (readJ ((jour es).set k x)).1.length ∧ (jour (es.take i)).length ≤ (readJ ((jour es).set k x)).2.1 ∧ (readJ ((jour es).set k x)).1.take i = es.take i := fun i hi hik =>
      changed_law es hgd ((jour es).set k x) i hi (by rw [List.take_set_of_le hik]; exact (jour_take es i).1)
    have hzero : ch = 0 → (readJ ((jour es).set k x)).1 = es := fun h0 => by
      have hxb : x = b0 := UInt8.toNat_inj.1 (by rw [Hx.out, h0, Nat.xor_zero])
      have hset : (jour es).set k x = jour es := by
        rw [hxb]
        apply List.ext_getElem?
        intro i
        rw [List.getElem?_set]
        split
        · next he => rw [← he, hb0]
        · rfl
      rw [hset, readJ_jour es hgd]
    have hrl := (readJ_le ((jour es).set k x))
    have hGl : ((jour es).set k x).length = (jour es).length := List.length_set
    generalize readJ ((jour es).set k x) = R at *
    obtain ⟨got, n, e⟩ := R
    simp only at hre hchl hzero hrl
    have hgotl : got.length ≤ 656000 := by omega
    have HRe := Lib.hid hre
    have HChl := Lib.hid hchl
    have Hzero := Lib.hid hzero
    have HB0 := Lib.hid hb0
    clear hre hchl hzero hgd hb0 hrl hGl
    have hends := ends_get es
    have hendl := ends_len es
    generalize ends es = E at *
    generalize jour es = J at *
    have Hends := Lib.hid hends
    have Hendl := Lib.hid hendl
    clear hends hendl
    go_enter Try.func7, Try.ntmps7
    go_wp2_with fail
    refine (awake_any _).mono ?_
    rintro e w1 ⟨rfl, hb1⟩
    have HR1 := Lib.hid (Hr.out.on hb1)
    go_wp2_with fail
    refine (HF.out _ HR1.out).mono ?_
    rintro e w2 ⟨rfl, hb2⟩
    have h02 := hb1.trans (hb2.mono hb1.size)
    have HR2 := Lib.hid (HR1.out.on hb2)
    clear hb1 hb2
    go_wp2_with fail
    refine (HLo.out _ HR2.out).mono ?_
    rintro e w3 ⟨vE, rfl, hown, hb3⟩
    have h03 := h02.trans (hb3.mono h02.size)
    have HR3 := Lib.hid (HR2.out.on hb3)
    have RE := Lib.hid (Rd.of_own hown)
    have hElen : 0 < E.length := by rw [Hendl.out]; omega
    obtain ⟨AE, cE, rfl, hcE⟩ := RE.out.form
    obtain ⟨bE, oE, rfl, hbE, hcellE⟩ := RE.out.at_ hElen
    have HcE : Hid (EndsAt w3 bE oE es) := fun i hi => hcellE i _ (by rw [List.getElem?_map, Hends.out i hi]; rfl)
    clear hcellE hElen hb3 hown h02
    go_wp2_with fail
    rw [Lib.run_convert_string_bytes w3 9 43 5 { data := J.toArray } Try.underlying9 Try.underlying43 Try.underlying5]
    have hbB := bytes_below w3 5 { data := J.toArray }
    have hblk := Lib.bytesWorld_at_new w3 5 { data := J.toArray }
    have hszB := Lib.bytesWorld_size w3 5 { data := J.toArray }
    have hcsz : J.length ≤ (Lib.bytesCells w3 5 { data := J.toArray }).size := by simp [Lib.bytesCells, ByteArray.size]
    have hcs : ∀ (i : Nat) (x : UInt8), J[i]? = some x → (Lib.bytesCells w3 5 { data := J.toArray })[i]? = some (B8 x) := by
      intro i x h
      have hi := (List.getElem?_eq_some_iff.1 h).1
      have hx := (List.getElem?_eq_some_iff.1 h).2
      simp [Lib.bytesCells, Array.getElem?_append, hi, hx, B8]
    generalize Lib.bytesWorld w3 5 { data := J.toArray } = wB at *
    generalize Lib.bytesCells w3 5 { data := J.toArray } = cs at *
    have hsF : ({ data := J.toArray } : ByteArray).size = J.length := by simp [ByteArray.size]
    rw [hsF]
    generalize grownCap w3 J.length 0 5 = cap
    have hcb : wB.cell? ⟨w3.heap.size, k, none⟩ = some (.int .u8 (b0.toNat : Int)) := by
      simp only [World.cell?, hblk]
      exact hcs _ _ HB0.out
    have hfz : wB.frozen? ⟨w3.heap.size, k, none⟩ = false := by
      simp only [World.frozen?, hblk]
      simp; omega
    have hz3 : w3.heap.size < wB.heap.size := by omega
    have hbE3 : bE < w3.heap.size := hbE
    have hkJ : (k : Int) < J.length := by omega
    have HB := Lib.hid hblk
    have HCS := Lib.hid hcs
    clear hblk hcs hsF
    go_wp2_with fail
    simp only [hku]
    have h3T : Below w3.heap.size w3 (wB.setCell ⟨w3.heap.size, k, none⟩ (.int .u8 (x.toNat : Int))) := hbB.setCell (p := ⟨w3.heap.size, k, none⟩) (Nat.le_refl _) _
    have hblkT : (wB.setCell ⟨w3.heap.size, k, none⟩ (.int .u8 (x.toNat : Int))).heap[w3.heap.size]? = some (.cells (cs.setIfInBounds k (B8 x)) 5 (cs.size, cs.size + 1)) := by
      simp [World.setCell, Array.getElem?_modify, HB.out, B8]
    clear hcb hfz hbB hszB HB hz3
    generalize wB.setCell ⟨w3.heap.size, k, none⟩ (.int .u8 (x.toNat : Int)) = wT at *
    have h0T := h03.trans (h3T.mono h03.size)
    have HRT := Lib.hid (HR3.out.on h3T)
    have HET := Lib.hid (HcE.out.below h3T hbE)
    have hbET : bE < wT.heap.size := Nat.lt_of_lt_of_le hbE h3T.size
    have HconvT : Hid (∀ x', (convert 43 9 (.slice (some ⟨w3.heap.size, 0, none⟩) J.length x')).run Try.prog wT = .ok (.string ⟨(J.set k x).toArray⟩) wT) := fun cap' =>
      conv_bytes 43 9 5 Try.underlying43 Try.underlying5 Try.underlying9 wT _ 0 J.length cap' _ _ _ (J.set k x) hblkT (by simp) (fun i y h => by
        rw [Nat.zero_add]
        have hi := (List.getElem?_eq_some_iff.1 h).1
        rw [List.length_set] at hi
        rw [List.getElem?_set] at h
        rw [Array.getElem?_setIfInBounds]
        split at h
        · next he =>
          rw [if_pos he, if_pos (by omega)]
          injection h with h
          rw [h]
        · next he =>
          rw [if_neg he]
          exact HCS.out i y h)
    have hle1 : (E.length : Int) = es.length + 1 := by rw [Hendl.out]; simp
    clear h3T hblkT HCS HcE hcsz hbE3 hku hx HR3 h03
    go_loop [11] (fun s => ∃ i : Nat, s = .int .i64 i ∧ i ≤ es.length ∧ (jour (es.take i)).length ≤ k) (fun s => es.length - (intOf s).toNat)
    case atStart => exact ⟨0, rfl, by omega, by simp [jour]⟩
    case round =>
      obtain ⟨i, rfl, hi, hic⟩ := hrel
      have hci := HET.out i hi
      by_cases hgo : i < es.length ∧ (jour (es.take (i + 1))).length ≤ k
      · obtain ⟨hin, hlc⟩ := hgo
        have hci1 := HET.out (i + 1) hin
        generalize hm1 : (jour (es.take (i + 1))).length = m1 at *
        generalize (jour (es.take i)).length = m0 at *
        have hi2 : (i : Int) + 1 < E.length := by omega
        have Hm1 := Lib.hid hm1
        clear hm1 hle1
        go_wp2
        go_round
        case rel => exact ⟨i + 1, by go_num, by omega, by rw [Hm1.out]; exact hlc⟩
        case measure => simp [intOf]; omega
      · obtain ⟨q1, q2, q3⟩ := HChl.out i hi hic
        have hi3 : (i : Int) < E.length := by omega
        have hlast : (E.length : Int) ≤ (i : Int) + 1 ∨ ((i : Int) + 1 < E.length ∧ ∃ m1 : Nat, (k : Int) < m1 ∧ wT.cell? ⟨bE, oE + (i + 1), none⟩ = some (.int .i64 (m1 : Nat))) := by
          by_cases hin : i < es.length
          · right
            refine ⟨by omega, _, ?_, HET.out (i + 1) hin⟩
            have := fun h2 => hgo ⟨hin, h2⟩
            omega
          · left; omega
        have hsm := fun va vb W h1 h2 => same_any (es.take i) (es.take i) va vb W (by rw [List.length_take]; omega) (by rw [List.length_take]; omega) h1 h2
        simp only [decide_true] at hsm
        have HS := Lib.hid hsm
        have hti : (es.take i).length = i := by rw [List.length_take]; omega
        have Hti := Lib.hid hti
        have Q3 := Lib.hid q3
        generalize (jour (es.take i)).length = m0 at *
        have hzs : (((ch : Int) != 0) = true) ∨ (((ch : Int) != 0) = false ∧ got = es) := by
          by_cases h0 : ch = 0
          · exact .inr ⟨by simp [h0], Hzero.out h0⟩
          · exact .inl (by rw [bne_iff_ne]; omega)
        clear hsm hti hgo q3
        rcases hlast with hlast | ⟨hi2, m1, hm1, hci1⟩
        all_goals
          clear hle1
          go_wp2_with fail
          rw [HconvT.out]
          go_wp2_with fail
          refine (HRe.out _).mono ?_
          rintro e4 w4 ⟨vR, rfl, hown, hb4⟩
          have h04 := h0T.trans (hb4.mono h0T.size)
          have HR4 := Lib.hid (HRT.out.on hb4)
          have hrR := Rd.of_own hown
          obtain ⟨AR, cR, rfl, hcR⟩ := hrR.form
          have RR := Lib.hid hrR
          have hci4 := (hb4.cell (p := ⟨bE, oE + i, none⟩) hbET).trans hci
          have hbE4 : bE < w4.heap.size := Nat.lt_of_lt_of_le hbET hb4.size
          clear hb4 hown hci hrR
          go_wp2_with fail
          refine (HGo.out _ HR4.out).mono ?_
          rintro e5 w5 ⟨vG, rfl, hown5, hb5⟩
          have h05 := h04.trans (hb5.mono h04.size)
          have hrG := Rd.of_own hown5
          obtain ⟨AG, cG, rfl, hcG⟩ := hrG.form
          have RG := Lib.hid hrG
          have RR5 := Lib.hid (RR.out.on hb5)
          have hs1 : Rd w5 w5.heap.size 4 (.slice AR i cR) (es.take i).length (entsV (es.take i)) := by rw [Hti.out, ← Q3.out, ← entsV_take got i q1]; exact RR5.out.take i q1
          have hs2 : Rd w5 w5.heap.size 4 (.slice AG i cG) (es.take i).length (entsV (es.take i)) := by rw [Hti.out, ← entsV_take es i hi]; exact hrG.take i hi
          have RS1 := Lib.hid hs1
          have RS2 := Lib.hid hs2
          have hci5 := (hb5.cell (p := ⟨bE, oE + i, none⟩) hbE4).trans hci4
          have hicG : (i : Int) ≤ cG := by omega
          have hicR : (i : Int) ≤ cR := by omega
          have hq1 : (i : Int) ≤ got.length := by omega
          have hq2 : (m0 : Int) ≤ n := by omega
          have hb5z := hb5.size
          clear hb5 hown5 hrG hs1 hs2 hci4
          have hbE5 : bE < w5.heap.size := Nat.lt_of_lt_of_le hbE4 hb5z
          have hd1 : decide ((got.length : Int) < (i : Int)) = false := by simp; omega
          have hd3 : decide (got.length < i) = false := by simp; omega
          have hd4 : decide (n < m0) = false := by simp; omega
          have hd2 : decide ((n : Int) < (m0 : Int)) = false := by simp; omega
          go_wp2_with fail
          go_region_held3 (fun w' => w'.cell? ⟨bE, oE + i, none⟩ = some (.int .i64 (m0 : Nat))) (first | go_keep | exact q0)
            (first
              | (go_at_call 23; refine (HS.out _ _ _ (by exact RS1.out) (by exact RS2.out)).mono ?_; rintro e6 w6 ⟨rfl, hb6⟩; have q0 : w6.cell? ⟨bE, oE + i, none⟩ = some (.int .i64 (m0 : Nat)) := (hb6.cell (p := ⟨bE, oE + i, none⟩) hbE5).trans hci5))
          have h06 := h05.drew.trans (hb6.mono h05.size)
          have RR6 := Lib.hid (RR5.out.on (w := w5) (Below.refl _ _ |>.drew |>.trans hb6))
          have RG6 := Lib.hid (RG.out.on (w := w5) (Below.refl _ _ |>.drew |>.trans hb6))
          clear hb6 q0 hci5
          rcases hzs with hz | ⟨hz, rfl⟩
          · go_wp2_with fail
            go_ret
            exact ⟨rfl, h06⟩
          · have hsm2 := fun va vb W h1 h2 => same_any got got va vb W (by omega) (by omega) h1 h2
            simp only [decide_true] at hsm2
            have HS2 := Lib.hid hsm2
            clear hsm2
            go_wp2_with fail
            refine (HS2.out _ _ _ RR6.out RG6.out).mono ?_
            rintro e7 w7 ⟨rfl, hb7⟩
            go_wp2_with fail
            go_ret
            exact ⟨ret_bool (by first | rfl | simp), h06.trans (hb7.mono h06.size)⟩

namespace fr_JournalChanged
set_option maxRecDepth 100000 in
theorem lifted (os : Os) (started : os.Started) (H : Type) (enc : TypeId × Value → H) :
    ReturnsInHanded {} Try.checked os 7 .any (Rows.journalChangedSpec.pre6 enc Try.prog Try.f7 Rows.journalChangedRow.domain false) (Rows.journalChangedSpec.post enc Try.prog Try.f7 false true false false) := by
  refine returnsInHanded_of_change_sized (C := Try.checked) own_knob started (by kernel_rfl) Try.func7
    (ChangeSpec.witness6 (enc := enc) (C := Try.checked) false ⟨#[], #[.slice none 0 0, .int .u16 0, .int .u8 0], []⟩ 8 (by kernel_rfl) (by kernel_rfl) (by kernel_rfl) (by kernel_rfl)) ?_
  intro W base args ds gs before hval0 hW hcnd hsz0 _
  have hsz : (DataW.weightsEach Try.prog (Try.f7.params.toList ++ Rows.journalChangedSpec.plain.varTypes Try.prog) (ds ++ gs)).all (· ≤ reachBytes) = true := hsz0
  have hval : ∀ (j : Nat) t v, Try.f7.params[j]? = some t → args[j]? = some v → Value.okWide Try.prog W .any base t v := hval0
  have hW' := hW
  have hlt : ∀ p ∈ before, p.block < W.heap.size := fun p hp => hW.lt p hp
  obtain ⟨p, q, hA0, hV, rfl, hfz, hnd⟩ := hW
  have hA : DataW.TrodAll enc Try.prog W 0 (fun _ => true) true Try.f7.params.toList args.toList ds p := hA0
  have hA2 := hA
  rw [Try.params7] at hA hval hsz
  obtain ⟨v0, vs0, d0, ds0, p0, q0, hargs, rfl, hpq, h0, r0⟩ := trodAll_cons hA
  obtain ⟨v1, vs1, d1, ds1, p1, q1, rfl, rfl, rfl, h1, r1⟩ := trodAll_cons r0
  obtain ⟨v2, vs2, d2, ds2, p2, q2, rfl, rfl, rfl, h2, r2⟩ := trodAll_cons r1
  obtain ⟨rfl, rfl, rfl⟩ := trodAll_nil r2
  obtain rfl : args = #[v0, v1, v2] := by cases args; simp_all
  obtain ⟨rfl, rfl⟩ := trodVars_none hV
  obtain ⟨a0, m0, u0, w0⟩ := open_ents (hval 0 31 v0 rfl rfl) h0 (sz_of_each hsz (j := 0) rfl (by simp))
  obtain ⟨x1, rfl, rfl, rfl, w1⟩ := open_int Try.underlying34 (hval 1 34 v1 rfl rfl) h1
  obtain ⟨a1, rfl, u1⟩ := wf_u16 w1
  obtain ⟨x2, rfl, rfl, rfl, w2⟩ := open_int Try.underlying5 (hval 2 5 v2 rfl rfl) h2
  obtain ⟨a2, rfl, u2⟩ := wf_u8 w2
  clear hA0 hval0
  refine (walk_JournalChanged v0 a0 m0 u0 a1 u1 a2 u2 W w0).mono fun e W' ⟨he, bel⟩ => ?_
  subst he
  exact ⟨_, rfl, _, _, _, [], _, [], hW', trodAll_mk1 (shut_bool Try.underlying4 _), trodAll_below laid_out bel _ _ _ _ (by kernel_rfl) hA2 (fun x hx => hlt x (by simpa using hx)), rfl, bel.frame _, fun h => by cases h⟩
theorem proved : Rows.JournalChangedSaid :=
  OpenClaim.holds_of_wide 7 Try.f7 rfl rfl rfl rfl rfl rfl rfl ⟨rfl, rfl, rfl, rfl, rfl⟩ rfl rfl rfl rfl rfl (by kernel_rfl) Try.func7 (by kernel_rfl)
    (of_decide_eq_true (by kernel_rfl)) (by unfold Func.isWrapper; first | (rw [if_pos (by decide +kernel)]; kernel_rfl) | (rw [if_neg (by decide +kernel)]; exact ⟨rfl, rfl⟩))
    (fun os started H enc _ => lifted os started H enc)
#print axioms proved
end fr_JournalChanged

end Go.Proofs.Ytngmdhdncfbdjaa

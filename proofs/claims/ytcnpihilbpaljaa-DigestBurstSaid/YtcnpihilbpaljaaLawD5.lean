/- The law DigestBurst holds for every input. No condition. -/
import Derived.Test.YtcnpihilbpaljaaLawD4
namespace Go.Proofs.Ytcnpihilbpaljaa
open Go.ChangeShapes Go.WideShapes Go.ChangeAt Go.RowKit Go.Joins
open Go.ChangeMaps (open_string shut_string)

/-- the string after k of the four changes, from place p on -/
def burst (l : List UInt8) (p : Nat) (ch : Nat → Nat) : Nat → List UInt8
  | 0 => l
  | k+1 => if p + k < l.length then (burst l p ch k).set (p + k) (UInt8.ofNat (((burst l p ch k).getD (p + k) 0).toNat ^^^ ch k)) else burst l p ch k
theorem burst_len (l : List UInt8) (p : Nat) (ch : Nat → Nat) (k : Nat) : (burst l p ch k).length = l.length := by
  induction k with
  | zero => rfl
  | succ k ih => rw [burst]; split <;> simp [ih]

def chf (c0 c1 c2 c3 : Nat) : Nat → Nat
  | 0 => c0 | 1 => c1 | 2 => c2 | _ => c3
theorem burst_out (l : List UInt8) (p : Nat) (ch : Nat → Nat) (k i : Nat) (h : i < p ∨ p + k ≤ i) : (burst l p ch k)[i]? = l[i]? := by
  induction k with
  | zero => rfl
  | succ k ih =>
    rw [burst]
    split
    · rw [List.getElem?_set_ne (by omega), ih (by omega)]
    · exact ih (by omega)
theorem burst_crc (l : List UInt8) (p : Nat) (ch : Nat → Nat) : crc l = crc (burst l p ch 4) ↔ l = burst l p ch 4 := by
  constructor
  · intro h
    have hlen := burst_len l p ch 4
    have ho := fun i h => burst_out l p ch 4 i h
    generalize burst l p ch 4 = M at *
    have e1 : M.take p = l.take p := by
      apply List.ext_getElem?
      intro i
      rw [List.getElem?_take, List.getElem?_take]
      split
      · exact ho i (by omega)
      · rfl
    have e2 : M.drop (p + 4) = l.drop (p + 4) := by
      apply List.ext_getElem?
      intro i
      rw [List.getElem?_drop, List.getElem?_drop]
      exact ho _ (by omega)
    have d : ∀ L : List UInt8, L = L.take p ++ ((L.drop p).take 4 ++ L.drop (p + 4)) := by
      intro L
      have : L.drop (p + 4) = (L.drop p).drop 4 := by rw [List.drop_drop]
      rw [this, List.take_append_drop, List.take_append_drop]
    have h2 : crc (l.take p ++ ((l.drop p).take 4 ++ l.drop (p + 4))) = crc (l.take p ++ ((M.drop p).take 4 ++ l.drop (p + 4))) := by
      rw [← d l, h]
      have h9 := d M
      rw [e1, e2] at h9
      rw [← h9]
    have h3 := crc_burst _ _ _ _ (by rw [List.length_take]; omega) (by rw [List.length_take, List.length_take, List.length_drop, List.length_drop, hlen]) h2
    have h8 := d l
    have h9 := d M
    rw [e1, e2, ← h3, ← h8] at h9
    exact h9.symm
  · intro h
    rw [← h]
/-- block b holds the string L, with a frozen cell behind it -/
def BurstRel (b z : Nat) (L : List UInt8) (wr : World) : Prop :=
  ∃ cs', wr.heap[b]? = some (.cells cs' 5 (z, z + 1)) ∧ cs'.size = z ∧ ∀ (i : Nat) (y : UInt8), L[i]? = some y → cs'[i]? = some (B8 y)
theorem burst_set {b z : Nat} {L : List UInt8} {wr : World} {cs' : Array Value} {b0 x : UInt8} {j c : Nat} (hb : wr.heap[b]? = some (.cells cs' 5 (z, z + 1))) (hs : cs'.size = z) (hc : ∀ (i : Nat) (y : UInt8), L[i]? = some y → cs'[i]? = some (B8 y)) (hj : j < L.length) (hx : x = UInt8.ofNat (b0.toNat ^^^ c)) :
    BurstRel b z (L.set j (UInt8.ofNat (((some b0).getD 0).toNat ^^^ c))) (wr.setCell ⟨b, j, none⟩ (.int .u8 (x.toNat : Int))) := by
  refine ⟨cs'.setIfInBounds j (B8 x), ?_, by simp [hs], fun i y h => ?_⟩
  · simp [World.setCell, Array.getElem?_modify, hb, B8]
  · have hjz : j < cs'.size := by
      have := hc j L[j] (List.getElem?_eq_getElem hj)
      exact (Array.getElem?_eq_some_iff.1 this).1
    rw [List.getElem?_set] at h
    rw [Array.getElem?_setIfInBounds]
    split at h
    · next he =>
      rw [if_pos he, if_pos (by omega)]
      injection h with h
      rw [← h, hx]
      rfl
    · next he =>
      rw [if_neg he]
      exact hc i y h

set_option maxRecDepth 100000 in
set_option maxHeartbeats 400000 in
theorem walk_DigestBurst (l : List UInt8) (hl : l.length ≤ maxLen) (at_ : Nat) (hat : at_ < 65536) (c0 c1 c2 c3 : Nat) (h0 : c0 < 256) (h1 : c1 < 256) (h2 : c2 < 256) (h3 : c3 < 256) (w : World) :
    Calls Try.prog 5 #[.string ⟨l.toArray⟩, .int .u16 at_, .agg #[.int .u8 c0, .int .u8 c1, .int .u8 c2, .int .u8 c3]] w fun e w' => e = .returned (.bool true) ∧ Below w.heap.size w w' := by
  have hm : l.length ≤ 9223372036854775807 := hl
  by_cases h300 : l.length = 0 ∨ 300 < (l.length : Int)
  · clear hl
    by_cases hz : l.length = 0
    · have hl0 : ((l.length : Int) == 0) = true := beq_iff_eq.2 (by omega)
      clear h300 hz
      go_enter Try.func5, Try.ntmps5
      go_wp2_with fail
      refine (awake_any _).mono ?_
      rintro e w1 ⟨rfl, hb1⟩
      go_wp2_with fail
      refine (awake_any w1).mono ?_
      rintro e w2 ⟨rfl, hb2⟩
      go_wp2_with fail
      go_ret
      have hb01 := ((Below.refl w.heap.size w).alloc (Nat.le_refl _) _).trans (hb1.mono (by simp))
      exact ⟨rfl, hb01.trans (hb2.mono hb01.size)⟩
    · have h3 : 300 < (l.length : Int) := by omega
      have hl0 : ((l.length : Int) == 0) = false := beq_eq_false_iff_ne.2 (by omega)
      clear h300 hz
      go_enter Try.func5, Try.ntmps5
      go_wp2_with fail
      refine (awake_any _).mono ?_
      rintro e w1 ⟨rfl, hb1⟩
      go_wp2_with fail
      refine (awake_any w1).mono ?_
      rintro e w2 ⟨rfl, hb2⟩
      go_wp2_with fail
      go_ret
      have hb01 := ((Below.refl w.heap.size w).alloc (Nat.le_refl _) _).trans (hb1.mono (by simp))
      exact ⟨rfl, hb01.trans (hb2.mono hb01.size)⟩
  · clear hl
    have hl1 : (l.length : Int) ≤ 300 := by omega
    have hl0 : ((l.length : Int) == 0) = false := beq_eq_false_iff_ne.2 (by omega)
    have hlp : 0 < (l.length : Int) := by omega
    clear h300 hm
    go_enter Try.func5, Try.ntmps5
    go_wp2_with fail
    refine (awake_any _).mono ?_
    rintro e w1 ⟨rfl, hb1⟩
    go_wp2_with fail
    have hcell : ∀ i v, (#[Value.int .u8 (c0 : Int), .int .u8 c1, .int .u8 c2, .int .u8 c3])[i]? = some v → w1.cell? ⟨w.heap.size, i, none⟩ = some v := by
      intro i v h
      rw [hb1.cell (by simp), new_cell]; exact h
    have hb01 : Below w.heap.size w w1 := ((Below.refl w.heap.size w).alloc (Nat.le_refl _) _).trans (hb1.mono (by simp))
    have hsz1 : w.heap.size < w1.heap.size := by have h := hb1.size; simp at h; omega
    rw [Lib.run_convert_string_bytes w1 9 30 5 { data := l.toArray } Try.underlying9 Try.underlying30 Try.underlying5]
    have hbB := bytes_below w1 5 { data := l.toArray }
    have hblk := Lib.bytesWorld_at_new w1 5 { data := l.toArray }
    have hszB := Lib.bytesWorld_size w1 5 { data := l.toArray }
    have hcsz : l.length ≤ (Lib.bytesCells w1 5 { data := l.toArray }).size := by simp [Lib.bytesCells, ByteArray.size]
    have hcs : ∀ (i : Nat) (x : UInt8), l[i]? = some x → (Lib.bytesCells w1 5 { data := l.toArray })[i]? = some (B8 x) := by
      intro i x h
      have hi := (List.getElem?_eq_some_iff.1 h).1
      have hx := (List.getElem?_eq_some_iff.1 h).2
      simp [Lib.bytesCells, Array.getElem?_append, hi, hx, B8]
    generalize Lib.bytesWorld w1 5 { data := l.toArray } = wB at *
    generalize Lib.bytesCells w1 5 { data := l.toArray } = cs at *
    have hsF : ({ data := l.toArray } : ByteArray).size = l.length := by simp [ByteArray.size]
    rw [hsF]
    generalize grownCap w1 l.length 0 5 = cap
    have hk0 : wB.cell? ⟨w.heap.size, 0, none⟩ = some (.int .u8 c0) := (hbB.cell hsz1).trans (hcell 0 _ rfl)
    have hk1 : wB.cell? ⟨w.heap.size, 1, none⟩ = some (.int .u8 c1) := (hbB.cell hsz1).trans (hcell 1 _ rfl)
    have hk2 : wB.cell? ⟨w.heap.size, 2, none⟩ = some (.int .u8 c2) := (hbB.cell hsz1).trans (hcell 2 _ rfl)
    have hk3 : wB.cell? ⟨w.heap.size, 3, none⟩ = some (.int .u8 c3) := (hbB.cell hsz1).trans (hcell 3 _ rfl)
    have hb0B := hb01.trans (hbB.mono (Nat.le_of_lt hsz1))
    clear hcell hbB hsF hb01 hb1
    have HB := Lib.hid hblk
    have HCS := Lib.hid hcs
    clear hblk hcs
    obtain ⟨p, hp, hpl⟩ : ∃ p : Nat, (at_ : Int) % (l.length : Int) = (p : Int) ∧ p < l.length := ⟨at_ % l.length, rfl, Nat.mod_lt _ (by omega)⟩
    go_wp2_with fail
    clear hk0 hk1 hk2 hk3
    go_loopw [27] (fun i wr => ∃ k : Nat, k ≤ 4 ∧ i = .int .i64 k ∧ Below w.heap.size w wr ∧ Hid (BurstRel w1.heap.size cs.size (burst l p (chf c0 c1 c2 c3) k) wr)) (fun i _ => 4 - (intOf i).toNat)
    case atStart => exact ⟨0, by omega, rfl, hb0B, cs, HB.out, rfl, HCS.out⟩
    case round =>
      obtain ⟨k, hk, rfl, hbr, hrel⟩ := hrel
      have hbul := burst_len l p (chf c0 c1 c2 c3) k
      by_cases hk4 : k < 4
      · obtain ⟨ck, hck, hix, Hck⟩ : ∃ ck : Nat, ck < 256 ∧ (∀ W : World, (Instr.index 29 (.agg #[.int .u8 c0, .int .u8 c1, .int .u8 c2, .int .u8 c3]) (.int .i64 (k : Int))).run Try.prog W = .ok (.int .u8 (ck : Int)) W) ∧ Hid (ck = chf c0 c1 c2 c3 k) := by
          match k, hk4 with
          | 0, _ => exact ⟨c0, h0, fun _ => by kernel_rfl, rfl⟩
          | 1, _ => exact ⟨c1, h1, fun _ => by kernel_rfl, rfl⟩
          | 2, _ => exact ⟨c2, h2, fun _ => by kernel_rfl, rfl⟩
          | 3, _ => exact ⟨c3, h3, fun _ => by kernel_rfl, rfl⟩
        have Hstep : Hid (burst l p (chf c0 c1 c2 c3) (k+1) = if p + k < l.length then (burst l p (chf c0 c1 c2 c3) k).set (p + k) (UInt8.ofNat (((burst l p (chf c0 c1 c2 c3) k).getD (p + k) 0).toNat ^^^ chf c0 c1 c2 c3 k)) else burst l p (chf c0 c1 c2 c3) k) := rfl
        generalize burst l p (chf c0 c1 c2 c3) k = L at *
        by_cases hin : p + k < l.length
        · obtain ⟨cs', hb', hs', hc'⟩ := hrel.out
          obtain ⟨b0, hb0⟩ : ∃ b, L[p + k]? = some b := ⟨_, List.getElem?_eq_getElem (by omega)⟩
          have hcb : wr.cell? ⟨w1.heap.size, p + k, none⟩ = some (.int .u8 (b0.toNat : Int)) := by
            simp only [World.cell?, hb']
            exact hc' _ _ hb0
          have hfz : wr.frozen? ⟨w1.heap.size, p + k, none⟩ = false := by
            simp only [World.frozen?, hb']
            simp; omega
          obtain ⟨x, hx, Hx⟩ : ∃ x : UInt8, bits .xor .u8 (b0.toNat : Int) (ck : Int) = (x.toNat : Int) ∧ Hid (x = UInt8.ofNat (b0.toNat ^^^ ck)) := by
            have hl : b0.toNat ^^^ ck < 256 := Nat.xor_lt_two_pow (n := 8) b0.toNat_lt hck
            refine ⟨UInt8.ofNat (b0.toNat ^^^ ck), ?_, rfl⟩
            rw [u8_xor_nat _ _ b0.toNat_lt hck, UInt8.toNat_ofNat', Nat.mod_eq_of_lt hl]
          have hnext : Hid (BurstRel w1.heap.size cs.size (burst l p (chf c0 c1 c2 c3) (k+1)) (wr.setCell ⟨w1.heap.size, p + k, none⟩ (.int .u8 (x.toNat : Int)))) := by
            show BurstRel _ _ _ _
            rw [Hstep.out, if_pos hin, List.getD_eq_getElem?_getD, hb0, ← Hck.out]
            exact burst_set hb' hs' hc' (by omega) Hx.out
          have HB0 := Lib.hid hb0
          have HB' := Lib.hid hb'
          have HC' := Lib.hid hc'
          clear hb0 hb' hc' hs' hrel
          go_wp2
          go_roundw
          case rel => exact ⟨k + 1, by omega, by go_num, hbr.setCell (p := ⟨w1.heap.size, p + k, none⟩) (Nat.le_of_lt hsz1) _, hnext⟩
          case measure => simp [intOf]; omega
        · have hnext : Hid (BurstRel w1.heap.size cs.size (burst l p (chf c0 c1 c2 c3) (k+1)) wr) := by
            show BurstRel _ _ _ _
            rw [Hstep.out, if_neg hin]
            exact hrel.out
          go_wp2
          go_roundw
          case rel => exact ⟨k + 1, by omega, by go_num, hbr, hnext⟩
          case measure => simp [intOf]; omega
      · obtain rfl : k = 4 := by omega
        obtain ⟨cs', hb', hs', hc'⟩ := hrel.out
        have hiff := burst_crc l p (chf c0 c1 c2 c3)
        generalize burst l p (chf c0 c1 c2 c3) 4 = M at *
        have hcv : ∀ nq, (convert 30 9 (.slice (some ⟨w1.heap.size, 0, none⟩) l.length cap)).run Try.prog (wr.drewN nq) = .ok (.string ⟨M.toArray⟩) (wr.drewN nq) := fun nq =>
          conv_bytes 30 9 5 Try.underlying30 Try.underlying5 Try.underlying9 (wr.drewN nq) _ 0 l.length cap _ _ _ M hb' hbul (fun i y h => by rw [Nat.zero_add]; exact hc' i y h)
        have h1c := Lib.hid (fun W => (dcrc_any l (by omega) W).mono (fun e w' (h : e = _ ∧ W = w') => (⟨h.1, h.2.symm⟩ : e = _ ∧ w' = W)))
        have h2c := Lib.hid (fun W => (dcrc_any M (by omega) W).mono (fun e w' (h : e = _ ∧ W = w') => (⟨h.1, h.2.symm⟩ : e = _ ∧ w' = W)))
        have HI := Lib.hid hiff
        clear hiff hb' hc' hs' hrel HCS HB hbul
        generalize crc l = x at *
        generalize crc M = y at *
        go_wp2_with fail
        go_quiet ((first | (go_at_call_of 12 ({ data := l.toArray } : ByteArray); exact Calls.quiet_of_same (h1c.out _)) | (go_at_call_of 12 ({ data := M.toArray } : ByteArray); exact Calls.quiet_of_same (h2c.out _))))
        go_wp2
        go_ret
        refine ⟨ret_bool ?_, below_drewN hbr _⟩
        rw [beq_iff_eq, Bool.eq_iff_iff]
        have hI := HI.out
        constructor
        · intro h
          have h : (x : Int) = y := by simpa using h
          have h : x = y := by omega
          have h := hI.1 h
          simp [h]
        · intro h
          have h : l = M := by simpa using h
          have h := hI.2 h
          simp [h]

theorem open_arr4 {H : Type} {enc : TypeId × Value → H} {W : World} {base0 : Nat} {v : Value} {d : DataW H} {p : List MemPlace} (hv : Value.okWide Try.prog W .any base0 29 v) (h : DataW.Trod enc Try.prog W 0 (fun _ => true) true 29 v d p) :
    ∃ a b c e : Nat, v = .agg #[.int .u8 (a : Int), .int .u8 (b : Int), .int .u8 (c : Int), .int .u8 (e : Int)] ∧ a < 256 ∧ b < 256 ∧ c < 256 ∧ e < 256 := by
  have hC : Try.prog.cellsOf 29 = 4 := by kernel_rfl
  have hE : Try.prog.cellsOf 5 = 1 := by kernel_rfl
  have hv' := hv
  simp only [Value.okWide, Try.underlying29] at hv'
  obtain ⟨cs, rfl, hsz, _⟩ := hv'
  rw [hC] at hsz
  obtain ⟨fuel, hf⟩ := h
  obtain ⟨xs, m, _, _, hlen, hxl, hg⟩ := DataW.trod_array Try.underlying29 hf
  rw [hE] at hg
  obtain ⟨cl⟩ := cs
  match cl, hsz with
  | [x0, x1, x2, x3], _ =>
    match xs, hxl with
    | [y0, y1, y2, y3], _ =>
      have g0 := hg 0 (by omega)
      have g1 := hg 1 (by omega)
      have g2 := hg 2 (by omega)
      have g3 := hg 3 (by omega)
      simp [Value.cells] at g0 g1 g2 g3
      obtain ⟨n0, e0, _, w0⟩ := DataW.trod_int Try.underlying5 g0
      obtain ⟨n1, e1, _, w1⟩ := DataW.trod_int Try.underlying5 g1
      obtain ⟨n2, e2, _, w2⟩ := DataW.trod_int Try.underlying5 g2
      obtain ⟨n3, e3, _, w3⟩ := DataW.trod_int Try.underlying5 g3
      simp only [List.cons.injEq, and_true] at e0 e1 e2 e3
      subst e0 e1 e2 e3
      obtain ⟨a, rfl, ha⟩ := wf_u8 w0
      obtain ⟨b, rfl, hb⟩ := wf_u8 w1
      obtain ⟨c, rfl, hc⟩ := wf_u8 w2
      obtain ⟨e, rfl, he⟩ := wf_u8 w3
      exact ⟨a, b, c, e, rfl, ha, hb, hc, he⟩

namespace fr_DigestBurst
set_option maxRecDepth 100000 in
theorem lifted (os : Os) (started : os.Started) (H : Type) (enc : TypeId × Value → H) :
    ReturnsInHanded {} Try.checked os 5 .any (Rows.digestBurstSpec.pre6 enc Try.prog Try.f5 Rows.digestBurstRow.domain false) (Rows.digestBurstSpec.post enc Try.prog Try.f5 false true false false) := by
  refine returnsInHanded_of_change (C := Try.checked) own_knob started (by kernel_rfl) Try.func5
    (ChangeSpec.witness6 (enc := enc) (C := Try.checked) false ⟨#[], #[.string ByteArray.empty, .int .u16 0, .agg #[.int .u8 0, .int .u8 0, .int .u8 0, .int .u8 0]], []⟩ 8 (by kernel_rfl) (by kernel_rfl) (by kernel_rfl) (by kernel_rfl)) ?_
  intro W base args ds gs before hval0 hW hcnd _
  have hval : ∀ (j : Nat) t v, Try.f5.params[j]? = some t → args[j]? = some v → Value.okWide Try.prog W .any base t v := hval0
  have hW' := hW
  have hlt : ∀ p ∈ before, p.block < W.heap.size := fun p hp => hW.lt p hp
  obtain ⟨p, q, hA0, hV, rfl, hfz, hnd⟩ := hW
  have hA : DataW.TrodAll enc Try.prog W 0 (fun _ => true) true Try.f5.params.toList args.toList ds p := hA0
  have hA2 := hA
  rw [Try.params5] at hA hval
  obtain ⟨v0, vs0, d0, ds0, p0, q0, hargs, rfl, hpq, h0, r0⟩ := trodAll_cons hA
  obtain ⟨v1, vs1, d1, ds1, p1, q1, rfl, rfl, rfl, h1, r1⟩ := trodAll_cons r0
  obtain ⟨v2, vs2, d2, ds2, p2, q2, rfl, rfl, rfl, h2, r2⟩ := trodAll_cons r1
  obtain ⟨rfl, rfl, rfl⟩ := trodAll_nil r2
  obtain rfl : args = #[v0, v1, v2] := by cases args; simp_all
  obtain ⟨rfl, rfl⟩ := trodVars_none hV
  obtain ⟨x0, rfl, rfl, rfl, w0⟩ := open_string Try.underlying9 (hval 0 9 v0 rfl rfl) h0
  obtain ⟨a0, rfl, u0⟩ := str_list x0
  rw [u0] at w0
  obtain ⟨x1, rfl, rfl, rfl, w1⟩ := open_int Try.underlying28 (hval 1 28 v1 rfl rfl) h1
  obtain ⟨a1, rfl, u1⟩ := wf_u16 w1
  obtain ⟨a2, b2, c2, e2, rfl, u2, t2, z2, y2⟩ := open_arr4 (hval 2 29 v2 rfl rfl) h2
  clear hA0 hval0
  refine (walk_DigestBurst a0 w0 a1 u1 a2 b2 c2 e2 u2 t2 z2 y2 W).mono fun e W' ⟨he, bel⟩ => ?_
  subst he
  exact ⟨_, rfl, _, _, _, [], _, [], hW', trodAll_mk1 (shut_bool Try.underlying4 _), trodAll_below laid_out bel _ _ _ _ (by kernel_rfl) hA2 (fun x hx => hlt x (by simpa using hx)), rfl, bel.frame _, fun h => by cases h⟩
theorem proved : Rows.DigestBurstSaid :=
  OpenClaim.holds_of_wide 5 Try.f5 rfl rfl rfl rfl rfl rfl rfl ⟨rfl, rfl, rfl, rfl, rfl⟩ rfl rfl rfl rfl rfl (by kernel_rfl) Try.func5 (by kernel_rfl)
    (of_decide_eq_true (by kernel_rfl)) (by unfold Func.isWrapper; first | (rw [if_pos (by decide +kernel)]; kernel_rfl) | (rw [if_neg (by decide +kernel)]; exact ⟨rfl, rfl⟩))
    (fun os started H enc _ => lifted os started H enc)
#print axioms proved
end fr_DigestBurst

end Go.Proofs.Ytcnpihilbpaljaa

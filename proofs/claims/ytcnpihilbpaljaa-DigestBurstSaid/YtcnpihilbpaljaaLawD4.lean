/- The law DigestTorn holds for every input. No condition. -/
import Derived.Test.YtcnpihilbpaljaaDigAwake
import Derived.Test.YtcnpihilbpaljaaTornPlain
import Derived.Lib.ConvBytes
import Derived.Lib.SmallJoins
import Derived.StillTailTactics
namespace Go.Proofs.Ytcnpihilbpaljaa
open Go.ChangeShapes Go.WideShapes Go.ChangeAt Go.RowKit Go.Joins
open Go.ChangeMaps (open_string shut_string)

theorem wf_u16 {a : Int} (h : (Lit.int .u16 a).wf = true) : ∃ n : Nat, a = (n : Int) ∧ n < 65536 := by
  simp [Lit.wf, IntKind.min, IntKind.max, IntKind.bits, IntKind.signed] at h
  exact ⟨a.toNat, by omega, by omega⟩
theorem wf_u8 {a : Int} (h : (Lit.int .u8 a).wf = true) : ∃ n : Nat, a = (n : Int) ∧ n < 256 := by
  simp [Lit.wf, IntKind.min, IntKind.max, IntKind.bits, IntKind.signed] at h
  exact ⟨a.toNat, by omega, by omega⟩

theorem new_cell (w : World) (cs : Array Value) (t : TypeId) (i : Nat) : (w.alloc (.cells cs t)).cell? ⟨w.heap.size, i, none⟩ = cs[i]? := by
  unfold World.cell?
  rw [new_block]
  rfl
theorem bytes_below (w : World) (e : TypeId) (s : ByteArray) : Below w.heap.size w (Lib.bytesWorld w e s) := by
  refine ⟨?_, ?_, ?_, by rw [Lib.bytesWorld_size]; omega, fun k hk => Lib.bytesWorld_at_old w e s k hk⟩
  all_goals (unfold Lib.bytesWorld World.freeze; split <;> rfl)

set_option maxRecDepth 100000 in
set_option maxHeartbeats 400000 in
theorem walk_DigestTorn (l : List UInt8) (hl : l.length ≤ maxLen) (cut at_ ch : Nat) (hcut : cut < 65536) (hat : at_ < 65536) (hch : ch < 256) (w : World) :
    Calls Try.prog 8 #[.string ⟨l.toArray⟩, .agg #[.int .u16 cut, .int .u16 at_, .int .u8 ch]] w fun e w' => e = .returned (.bool true) ∧ Below w.heap.size w w' := by
  have hm : l.length ≤ 9223372036854775807 := hl
  by_cases h300 : 300 < (l.length : Int)
  · clear hl
    go_enter Try.func8, Try.ntmps8
    go_wp2_with fail
    refine (awake_any _).mono ?_
    rintro e w1 ⟨rfl, hb1⟩
    go_wp2_with fail
    refine (awake_any w1).mono ?_
    rintro e w2 ⟨rfl, hb2⟩
    go_wp2_with fail
    go_ret
    have hb01 := ((Below.refl w.heap.size w).alloc (Nat.le_refl _) _).trans (hb1.mono (by simp))
    exact ⟨rfl, hb01.trans (hb2.mono hb01.size)⟩
  · clear hl
    have hd := fun W => dframe_any l hm W
    have hfe : (frame l).2 = 0 := by rw [frame, if_neg (by omega)]
    have hfl : (frame l).1.length = (putF 9 l.length).length + 4 + l.length := by rw [frame, if_neg (by omega)]; simp [be4_len]; omega
    have hk : 1 ≤ (putF 9 l.length).length ∧ (putF 9 l.length).length ≤ 10 := ⟨by rw [putF]; split <;> simp, putF_len 9 _⟩
    have hcutr := fun c hc => unframe_cut l (by omega) c hc
    have hsetr := fun p h1 h2 x hx => unframe_set l (by omega) p h1 h2 x hx
    have hwhole := unframe_frame l [] (by omega)
    rw [List.append_nil] at hwhole
    rw [hfe] at hd
    generalize (frame l).1 = F at *
    generalize (putF 9 l.length).length = k at *
    have HD := Lib.hid hd
    have HC := Lib.hid hcutr
    have HS := Lib.hid hsetr
    have HW := Lib.hid hwhole
    have hF1 : F.length ≤ 400 := by omega
    have hF2 : l.length + 5 ≤ F.length := by omega
    have hF3 : F.length ≤ l.length + 14 := by omega
    have HK := Lib.hid hfl
    clear hd hcutr hsetr hwhole hfe hfl
    go_enter Try.func8, Try.ntmps8
    go_wp2_with fail
    refine (awake_any _).mono ?_
    rintro e w1 ⟨rfl, hb1⟩
    obtain ⟨bc, bf⟩ := bcell hb1
    go_wp2_with fail
    refine (HD.out w1).mono ?_
    rintro e w2 ⟨rfl, hb2⟩
    have hc0 : w2.cell? ⟨w.heap.size, 0, none⟩ = some (.int .u16 cut) := by rw [hb2.cell (by have := hb1.size; simp at this; show w.heap.size < _; omega), bc _ _ (by simp)]; rw [new_cell]; rfl
    have hc1 : w2.cell? ⟨w.heap.size, 1, none⟩ = some (.int .u16 at_) := by rw [hb2.cell (by have := hb1.size; simp at this; show w.heap.size < _; omega), bc _ _ (by simp)]; rw [new_cell]; rfl
    have hc2 : w2.cell? ⟨w.heap.size, 2, none⟩ = some (.int .u8 ch) := by rw [hb2.cell (by have := hb1.size; simp at this; show w.heap.size < _; omega), bc _ _ (by simp)]; rw [new_cell]; rfl
    have hb02 : Below w.heap.size w w2 := (((Below.refl w.heap.size w).alloc (Nat.le_refl _) _).trans (hb1.mono (by simp))).trans (hb2.mono (by have := hb1.size; simp at this; omega))
    have hsz2 : w.heap.size < w2.heap.size := by have h1 := hb1.size; have h2 := hb2.size; simp at h1; omega
    clear bc bf hb1 hb2
    have hcm : 0 ≤ (cut : Int) % F.length ∧ (cut : Int) % F.length ≤ F.length := ⟨Int.emod_nonneg _ (by omega), Int.le_of_lt (Int.emod_lt_of_pos _ (by omega))⟩
    have hcm1 := hcm.1
    have hcm2 := hcm.2
    go_wp2_with fail
    rw [str_cut, List.drop_zero]
    have hu1 := dunframe_any (F.take (cut % F.length)) (by rw [List.length_take]; omega) w2
    rw [HC.out _ (Nat.mod_lt _ (by omega))] at hu1
    refine hu1.mono ?_
    rintro e w3 ⟨rfl, hb3⟩
    clear hu1
    have hc0 : w3.cell? ⟨w.heap.size, 0, none⟩ = some (.int .u16 cut) := (hb3.cell hsz2).trans hc0
    have hc1 : w3.cell? ⟨w.heap.size, 1, none⟩ = some (.int .u16 at_) := (hb3.cell hsz2).trans hc1
    have hc2 : w3.cell? ⟨w.heap.size, 2, none⟩ = some (.int .u8 ch) := (hb3.cell hsz2).trans hc2
    have hb03 := hb02.trans (hb3.mono (Nat.le_of_lt hsz2))
    have hsz3 : w.heap.size < w3.heap.size := Nat.lt_of_lt_of_le hsz2 hb3.size
    have hk1 : (F.length : Int) - l.length - 4 = (k : Int) := by have := HK.out; omega
    clear hb3 hb02 hsz2
    go_wp2_with fail
    rw [Lib.run_convert_string_bytes w3 9 30 5 { data := F.toArray } Try.underlying9 Try.underlying30 Try.underlying5]
    have hbB := bytes_below w3 5 { data := F.toArray }
    have hblk := Lib.bytesWorld_at_new w3 5 { data := F.toArray }
    have hszB := Lib.bytesWorld_size w3 5 { data := F.toArray }
    have hcsz : F.length ≤ (Lib.bytesCells w3 5 { data := F.toArray }).size := by simp [Lib.bytesCells, ByteArray.size]
    have hcs : ∀ (i : Nat) (x : UInt8), F[i]? = some x → (Lib.bytesCells w3 5 { data := F.toArray })[i]? = some (B8 x) := by
      intro i x h
      have hi := (List.getElem?_eq_some_iff.1 h).1
      have hx := (List.getElem?_eq_some_iff.1 h).2
      simp [Lib.bytesCells, Array.getElem?_append, hi, hx, B8]
    generalize Lib.bytesWorld w3 5 { data := F.toArray } = wB at *
    generalize Lib.bytesCells w3 5 { data := F.toArray } = cs at *
    have hsF : ({ data := F.toArray } : ByteArray).size = F.length := by simp [ByteArray.size]
    rw [hsF]
    generalize grownCap w3 F.length 0 5 = cap
    have hc1 : wB.cell? ⟨w.heap.size, 1, none⟩ = some (.int .u16 at_) := (hbB.cell hsz3).trans hc1
    have hc2 : wB.cell? ⟨w.heap.size, 2, none⟩ = some (.int .u8 ch) := (hbB.cell hsz3).trans hc2
    have hb0B := hb03.trans (hbB.mono (Nat.le_of_lt hsz3))
    clear hc0 hb03 hbB hsF
    obtain ⟨q, hq, hq2⟩ : ∃ q : Nat, (at_ : Int) % ((F.length : Int) - k) = (q : Int) ∧ k + q < F.length := by
      refine ⟨at_ % (F.length - k), by rw [show (F.length : Int) - k = ((F.length - k : Nat) : Int) from by omega]; rfl, ?_⟩
      have := Nat.mod_lt at_ (show 0 < F.length - k by omega)
      omega
    obtain ⟨b0, hb0⟩ : ∃ b, F[k + q]? = some b := ⟨_, List.getElem?_eq_getElem hq2⟩
    have hcb : wB.cell? ⟨w3.heap.size, k + q, none⟩ = some (.int .u8 (b0.toNat : Int)) := by
      simp only [World.cell?, hblk]
      exact hcs _ _ hb0
    have hfz : wB.frozen? ⟨w3.heap.size, k + q, none⟩ = false := by
      simp only [World.frozen?, hblk]
      simp; omega
    have hbx : (b0.toNat : Int) < 256 := by have := b0.toNat_lt; omega
    obtain ⟨x, hx, Hx⟩ : ∃ x : UInt8, bits .xor .u8 (b0.toNat : Int) (ch : Int) = (x.toNat : Int) ∧ Hid (x.toNat = b0.toNat ^^^ ch) := by
      have hl : b0.toNat ^^^ ch < 256 := Nat.xor_lt_two_pow (n := 8) b0.toNat_lt hch
      refine ⟨UInt8.ofNat (b0.toNat ^^^ ch), ?_, ?_⟩
      · rw [u8_xor_nat _ _ b0.toNat_lt hch, UInt8.toNat_ofNat', Nat.mod_eq_of_lt hl]
      · show _ = _; rw [UInt8.toNat_ofNat', Nat.mod_eq_of_lt hl]
    have hfk : (k : Int) + q < F.length := by omega
    have HB := Lib.hid hblk
    have HCS := Lib.hid hcs
    have HB0 := Lib.hid hb0
    have HZB := Lib.hid hszB
    clear hblk hcs hb0 hszB
    go_wp2_with fail
    have i1 : IntKind.i64.wrap ((F.length : Int) - k) = (F.length : Int) - k := by rw [IntKind.wrap_i64]; omega
    have i2 : IntKind.i64.wrap ((k : Int) + q) = (k : Int) + q := by rw [IntKind.wrap_i64]; omega
    have i3 : ((k : Int) + q).toNat = k + q := by omega
    have i4 : 0 ≤ (k : Int) + q := by omega
    have i5 : (at_ : Int).tmod ((F.length : Int) - k) = (q : Int) := by rw [← hq]; exact Int.tmod_eq_emod_of_nonneg (by omega)
    have i6 : ((F.length : Int) - k == 0) = false := beq_eq_false_iff_ne.2 (by omega)
    go_region
    go_wp2_with fail
    have hne : (⟨w3.heap.size, k + q, none⟩ : Addr) ≠ ⟨w.heap.size, 2, none⟩ := by intro h; injection h with h1; omega
    have hcT : (wB.setCell ⟨w3.heap.size, k + q, none⟩ (.int .u8 (x.toNat : Int))).drew.cell? ⟨w.heap.size, 2, none⟩ = some (.int .u8 ch) := (World.cell?_setCell_other wB _ _ _ hne).trans hc2
    have hbT : Below w.heap.size w (wB.setCell ⟨w3.heap.size, k + q, none⟩ (.int .u8 (x.toNat : Int))).drew := (hb0B.setCell (p := ⟨w3.heap.size, k + q, none⟩) (Nat.le_of_lt hsz3) _).drew
    have hzT : w.heap.size < (wB.setCell ⟨w3.heap.size, k + q, none⟩ (.int .u8 (x.toNat : Int))).drew.heap.size := by
      have := HZB.out
      show w.heap.size < (wB.setCell _ _).heap.size
      simp [World.setCell]; omega
    have hblkT : (wB.setCell ⟨w3.heap.size, k + q, none⟩ (.int .u8 (x.toNat : Int))).drew.heap[w3.heap.size]? = some (.cells (cs.setIfInBounds (k + q) (B8 x)) 5 (cs.size, cs.size + 1)) := by
      show (wB.setCell _ _).heap[w3.heap.size]? = _
      simp [World.setCell, Array.getElem?_modify, HB.out, B8]
    generalize (wB.setCell ⟨w3.heap.size, k + q, none⟩ (.int .u8 (x.toNat : Int))).drew = wT at *
    rw [conv_bytes 30 9 5 Try.underlying30 Try.underlying5 Try.underlying9 wT _ 0 F.length cap _ _ _ (F.set (k + q) x) hblkT (by simp) (fun i y h => by
      rw [Nat.zero_add]
      have hi := (List.getElem?_eq_some_iff.1 h).1
      rw [List.length_set] at hi
      rw [List.getElem?_set] at h
      rw [Array.getElem?_setIfInBounds]
      split at h
      · next he =>
        rw [if_pos he, if_pos (by omega)]
        injection h with h
        rw [h]
      · next he =>
        rw [if_neg he]
        exact HCS.out i y h)]
    clear hblkT hne hcb hfz hc1 hc2 hb0B hcsz i1 i2 i3 i4 i5 i6
    have hdu := fun W => dunframe_any (F.set (k + q) x) (by rw [List.length_set]; omega) W
    by_cases hc0 : ch = 0
    · have hxb : x = b0 := UInt8.toNat_inj.1 (by rw [Hx.out, hc0, Nat.xor_zero])
      have hset : F.set (k + q) x = F := by
        rw [hxb]
        apply List.ext_getElem?
        intro i
        rw [List.getElem?_set]
        split
        · next he => rw [← he, HB0.out]
        · rfl
      have hch0 : ((ch : Int) != 0) = false := by simp [hc0]
      rw [hset, HW.out] at hdu
      simp only [hset]
      have HDU := Lib.hid hdu
      clear hdu hset hxb hc0
      go_wp2_with fail
      refine (HDU.out _).mono ?_
      rintro e w5 ⟨rfl, hb5⟩
      have hc5 : w5.cell? ⟨w.heap.size, 2, none⟩ = some (.int .u8 ch) := (hb5.cell hzT).trans hcT
      have hb05 := hbT.trans (hb5.mono (Nat.le_of_lt hzT))
      clear hcT hbT hzT hb5
      go_wp2_with fail
      go_ret
      exact ⟨ret_bool (by first | rfl | simp), hb05⟩
    · have hxb : x ≠ b0 := by
        intro h
        have h1 := Hx.out
        rw [h] at h1
        have h2 : b0.toNat ^^^ ch = b0.toNat ^^^ 0 := by rw [Nat.xor_zero]; exact h1.symm
        exact hc0 (xor_cancel_left h2)
      have h17 := HS.out (k + q) (by omega) hq2 x (by rw [HB0.out]; intro h; injection h with h; exact hxb h.symm)
      have hch0 : ((ch : Int) != 0) = true := by rw [bne_iff_ne]; omega
      generalize F.set (k + q) x = G at *
      generalize unframe G = u at *
      obtain ⟨u1, u2, u3⟩ := u
      simp only at h17 hdu
      subst h17
      have HDU := Lib.hid hdu
      clear hdu hxb hc0
      go_wp2_with fail
      refine (HDU.out _).mono ?_
      rintro e w5 ⟨rfl, hb5⟩
      have hc5 : w5.cell? ⟨w.heap.size, 2, none⟩ = some (.int .u8 ch) := (hb5.cell hzT).trans hcT
      have hb05 := hbT.trans (hb5.mono (Nat.le_of_lt hzT))
      clear hcT hbT hzT hb5
      go_wp2_with fail
      go_ret
      exact ⟨ret_bool (by first | rfl | simp), hb05⟩

theorem open_damage {H : Type} {enc : TypeId × Value → H} {W : World} {base0 : Nat} {v : Value} {d : DataW H} {p : List MemPlace} (hv : Value.okWide Try.prog W .any base0 43 v) (h : DataW.Trod enc Try.prog W 0 (fun _ => true) true 43 v d p) :
    ∃ a b c : Nat, v = .agg #[.int .u16 (a : Int), .int .u16 (b : Int), .int .u8 (c : Int)] ∧ a < 65536 ∧ b < 65536 ∧ c < 256 := by
  obtain ⟨v0, v1, v2, y0, y1, y2, m, rfl, rfl, rfl, h0, h1, h2⟩ := open_agg3 Try.underlying43 (by kernel_rfl) (by kernel_rfl) hv h
  obtain ⟨n0, e0, _, w0⟩ := DataW.trod_int Try.underlying28 h0
  obtain ⟨n1, e1, _, w1⟩ := DataW.trod_int Try.underlying28 h1
  obtain ⟨n2, e2, _, w2⟩ := DataW.trod_int Try.underlying5 h2
  simp only [List.cons.injEq, and_true] at e0 e1 e2
  subst e0 e1 e2
  obtain ⟨a, rfl, ha⟩ := wf_u16 w0
  obtain ⟨b, rfl, hb⟩ := wf_u16 w1
  obtain ⟨c, rfl, hc⟩ := wf_u8 w2
  exact ⟨a, b, c, rfl, ha, hb, hc⟩

namespace fr_DigestTorn
set_option maxRecDepth 100000 in
theorem lifted (os : Os) (started : os.Started) (H : Type) (enc : TypeId × Value → H) :
    ReturnsInHanded {} Try.checked os 8 .any (Rows.digestTornSpec.pre6 enc Try.prog Try.f8 Rows.digestTornRow.domain false) (Rows.digestTornSpec.post enc Try.prog Try.f8 false true false false) := by
  refine returnsInHanded_of_change (C := Try.checked) own_knob started (by kernel_rfl) Try.func8
    (ChangeSpec.witness6 (enc := enc) (C := Try.checked) false ⟨#[], #[.string ByteArray.empty, .agg #[.int .u16 0, .int .u16 0, .int .u8 0]], []⟩ 8 (by kernel_rfl) (by kernel_rfl) (by kernel_rfl) (by kernel_rfl)) ?_
  intro W base args ds gs before hval0 hW hcnd _
  have hval : ∀ (j : Nat) t v, Try.f8.params[j]? = some t → args[j]? = some v → Value.okWide Try.prog W .any base t v := hval0
  have hW' := hW
  have hlt : ∀ p ∈ before, p.block < W.heap.size := fun p hp => hW.lt p hp
  obtain ⟨p, q, hA0, hV, rfl, hfz, hnd⟩ := hW
  have hA : DataW.TrodAll enc Try.prog W 0 (fun _ => true) true Try.f8.params.toList args.toList ds p := hA0
  have hA2 := hA
  rw [Try.params8] at hA hval
  obtain ⟨v0, vs0, d0, ds0, p0, q0, hargs, rfl, hpq, h0, r0⟩ := trodAll_cons hA
  obtain ⟨v1, vs1, d1, ds1, p1, q1, rfl, rfl, rfl, h1, r1⟩ := trodAll_cons r0
  obtain ⟨rfl, rfl, rfl⟩ := trodAll_nil r1
  obtain rfl : args = #[v0, v1] := by cases args; simp_all
  obtain ⟨rfl, rfl⟩ := trodVars_none hV
  obtain ⟨x0, rfl, rfl, rfl, w0⟩ := open_string Try.underlying9 (hval 0 9 v0 rfl rfl) h0
  obtain ⟨a0, rfl, u0⟩ := str_list x0
  rw [u0] at w0
  obtain ⟨a1, b1, c1, rfl, u1, t1, z1⟩ := open_damage (hval 1 43 v1 rfl rfl) h1
  clear hA0 hval0
  refine (walk_DigestTorn a0 w0 a1 b1 c1 u1 t1 z1 W).mono fun e W' ⟨he, bel⟩ => ?_
  subst he
  exact ⟨_, rfl, _, _, _, [], _, [], hW', trodAll_mk1 (shut_bool Try.underlying4 _), trodAll_below laid_out bel _ _ _ _ (by kernel_rfl) hA2 (fun x hx => hlt x (by simpa using hx)), rfl, bel.frame _, fun h => by cases h⟩
theorem proved : Rows.DigestTornSaid :=
  OpenClaim.holds_of_wide 8 Try.f8 rfl rfl rfl rfl rfl rfl rfl ⟨rfl, rfl, rfl, rfl, rfl⟩ rfl rfl rfl rfl rfl (by kernel_rfl) Try.func8 (by kernel_rfl)
    (of_decide_eq_true (by kernel_rfl)) (by unfold Func.isWrapper; first | (rw [if_pos (by decide +kernel)]; kernel_rfl) | (rw [if_neg (by decide +kernel)]; exact ⟨rfl, rfl⟩))
    (fun os started H enc _ => lifted os started H enc)
#print axioms proved
end fr_DigestTorn

end Go.Proofs.Ytcnpihilbpaljaa

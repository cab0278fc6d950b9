/- read, Decode, Explain, Accepts. No condition. -/
import Derived.Test.YtccmmibkihbobaaDoorDecS
import Derived.Test.YtccmmibkihbobaaDoorValid
set_option maxHeartbeats 1600000
namespace Go.Proofs.YtccmmibkihbobaaDoor
open Go.ChangeShapes Go.WideShapes Go.ChangeAt Go.RowKit
theorem validK_allD (ts : List Typ) : ∀ (l : List Typ) (S : List (List UInt8)), validK ts l S = 0 → ∀ x ∈ l, formB x = true ∧ (usesL x).all (inB ts.length) = true
 | [], _, _, x, hx => by simp at hx
 | y :: r, S, h, x, hx => by
  by_cases h1 : formB y = false ∨ (y.name ≠ [] ∧ S.contains y.name = true)
  ·
   rw [vk1 ts r y S h1] at h; cases h
  cases h2 : (usesL y).all (inB ts.length) with
  | false => rw [vk4 ts r y S h1 h2] at h; cases h
  | true =>
   by_cases h3 : y.kind = 8 ∧ keyOk ts y = false
   ·
    rw [vk1' ts r y S h1 h2 h3] at h; cases h
   rw [vk0 ts r y S h1 h2 h3] at h
   rcases List.mem_cons.1 hx with rfl | hx
   ·
    refine ⟨?_, h2⟩
    cases hf : formB x with
    | true => rfl
    | false => exact absurd (.inl hf) h1
   exact validK_allD ts r _ h x hx
theorem typAt_in {ts : List Typ} {u : Int} (h : inB ts.length u = true) : (typAt ts u).isSome = true := by
 obtain ⟨k, rfl, hk⟩ := inB_nat h
 unfold typAt; simp [hk]
theorem sch_ok {ts : List Typ} (h : validE ts = 0) : SchOK ts := by
 intro x hx
 unfold validE at h
 by_cases h32 : 32 < ts.length
 ·
  rw [if_pos h32] at h; cases h
 rw [if_neg h32] at h
 obtain ⟨hf, hu⟩ := validK_allD ts ts [] h x hx
 rw [List.all_eq_true] at hu
 have hk : 1 ≤ x.kind ∧ x.kind ≤ 9 := by
  unfold formB at hf; simp only [Bool.and_eq_true, decide_eq_true_eq] at hf; exact hf.1
 refine ⟨hk, fun h5 => ?_, fun m hm => typAt_in (hu m.ty ?_), fun h' => typAt_in (hu x.elem ?_), fun h' => typAt_in (hu x.key ?_)⟩
 ·
  have hm : membersB x = true := by
   unfold formB okT at hf
   rw [if_neg (by omega), if_neg (by omega), if_neg (by omega), if_pos (.inl h5)] at hf
   simp only [Bool.and_eq_true, decide_eq_true_eq] at hf
   exact hf.2.1.2
  unfold membersB idsB at hm
  simp at hm
  omega
 ·
  unfold usesL; exact List.mem_append.2 (.inl (List.mem_map.2 ⟨m, hm, rfl⟩))
 ·
  unfold usesL; rw [if_pos (show 7 ≤ x.kind by omega)]; simp
 exact key_in x h'
def zero8 : Value := .agg #[.int .i64 0, .bool false, .int .i64 0, .string ⟨#[]⟩, .int .i64 0, .slice none 0 0, .slice none 0 0, .slice none 0 0]
def NewB (w w' : World) (b : Nat) : Prop := w.heap.size ≤ b ∧ b < w'.heap.size
def ReadPost (w : World) (r : Except Int Res) (e : Ending) (w' : World) : Prop := Below w.heap.size w w' ∧ match r with
 | .error er => e = .returned (.tuple #[zero8, .agg #[.slice none 0 0, .int .i64 0], .int .i64 er])
 | .ok (.ok v) => ∃ vk vi vr, e = .returned (.tuple #[valA v vk vi vr, .agg #[.slice none 0 0, .int .i64 0], .int .i64 0]) ∧ ValP w' (NewB w w') v vk vi vr
 | .ok (.error (p, n)) => ∃ fp, e = .returned (.tuple #[zero8, .agg #[fp, .int .i64 n], .int .i64 12]) ∧ w'.ownsRow w.heap.size 3 1 fp p.length (p.map V64i)
theorem KeptN.plain {P : World → Prop} {w : World} {L B : Nat} (h : KeptN P w L B) : Kept P w L B := ⟨h.now, fun w' hk => h.st w' (fun k h1 h2 _ => hk k h1 h2), h.le⟩
set_option maxRecDepth 100000 in
theorem read_any (ts : List Typ) (A : Option Addr) (c : Nat) (t : Int) (m : List UInt8) (w : World) (hs : Sizes ts) (hT : RdTyps w w.heap.size (.slice A ts.length c) ts) :
  Calls Tryd.prog 18 #[.agg #[.slice A ts.length c], .int .i64 t, .string ⟨m.toArray⟩] w (ReadPost w (readE ts t m)) := by
 have HT := Lib.hid hT
 have HSz := Lib.hid hs
 clear hT hs
 go_enter Tryd.func18, Tryd.ntmps18
 go_upto_region 1 with fail
 obtain ⟨wd2, hE3⟩ : ∃ ww, ww = w.alloc (.cells #[.slice A ts.length c] 36) := ⟨_, rfl⟩
 rw [← hE3]
 have hb1 := aB hE3
 have S := aN hE3
 obtain ⟨wd4, hE5⟩ : ∃ ww, ww = wd2.alloc (.cells #[.int .i64 0, .bool false, .int .i64 0, .string ⟨#[]⟩, .int .i64 0, .slice none 0 0, .slice none 0 0, .slice none 0 0] 45) := ⟨_, rfl⟩
 rw [← hE5]
 replace S := dB S (aB hE5)
 replace hb1 := dT hb1 (aB hE5)
 have Z := aM hE5 (aZ hE3 rfl)
 obtain ⟨wd6, hE7⟩ : ∃ ww, ww = wd4.alloc (.cells #[.slice none 0 0, .int .i64 0] 26) := ⟨_, rfl⟩
 rw [← hE7]
 replace S := dB S (aB hE7)
 replace Z := dB Z (aB hE7)
 replace hb1 := dT hb1 (aB hE7)
 have F := aM hE7 (aZ hE5 (aZ hE3 rfl))
 clear hE3 hE5 hE7
 have hw8 := hb1
 clear hb1
 have cS_0 : wd6.cell? ⟨w.heap.size, 0, none⟩ = some (.slice A ts.length c) := S.out.cell 0
 go_wp2_with fail
 clear cS_0
 ((with_reducible refine (valid_any ts A c _ HSz.out (HT.out.on hw8)).mono ?_); rintro e wd9 ⟨rfl, hb10⟩)
 replace S := dB S hb10
 replace Z := dB Z hb10
 replace F := dB F hb10
 replace hw8 := dT hw8 hb10
 clear hb10
 by_cases h0 : validE ts = 0
 ·
  have Hv0 := Lib.hid h0
  rw [h0]
  clear h0
  by_cases h1 : (typAt ts t).isSome = true
  ·
   obtain ⟨n, rfl, hn, hx⟩ := typAt_get h1
   have H1 := Lib.hid h1
   clear h1 hx
   have hni : (n : Int) < ts.length := by omega
   have hnf : decide (ts.length ≤ n) = false := by simpa using hn
   by_cases h2 : 4096 < m.length
   ·
    have HR : Hid (readE ts n m = .ok (.error ([], 3))) := by
     show _ = _; unfold readE; rw [if_neg (by simp [Hv0.out]), if_neg (by intro e; have h := H1.out; rw [Option.isNone_iff_eq_none] at e; rw [e] at h; cases h), if_pos h2]
    have h2i : (4096 : Int) < m.length := by omega
    have cS_0 : wd9.cell? ⟨w.heap.size, 0, none⟩ = some (.slice A ts.length c) := S.out.cell 0
    go_upto_region 7 with fail
    go_wp2_with (first | (refine wpList_store_row rfl 45 _ _ rfl (w.heap.size + 1) _ rfl rfl 45 _ Z.out (by kernel_rfl) rfl (by first | assumption | simp [Value.oneCell']) ?_) | (refine wpList_store_row rfl 26 _ _ rfl (w.heap.size + 1 + 1) _ rfl rfl 26 _ (has_row (cs' := #[.int .i64 0, .bool false, .int .i64 0, .string ⟨#[]⟩, .int .i64 0, .slice none 0 0, .slice none 0 0, .slice none 0 0]) F.out (show w.heap.size + 1 + 1 ≠ w.heap.size + 1 by omega)) (by kernel_rfl) rfl (by first | assumption | simp [Value.oneCell']) ?_))
    clear cS_0
    obtain ⟨wd11, hE12⟩ : ∃ ww, ww = wd9.setRow (w.heap.size + 1) #[.int .i64 0, .bool false, .int .i64 0, .string ⟨#[]⟩, .int .i64 0, .slice none 0 0, .slice none 0 0, .slice none 0 0] := ⟨_, rfl⟩
    rw [← hE12]
    replace S := dR S hE12 (by omega)
    replace F := dR F hE12 (by omega)
    replace Z := dO Z hE12
    replace hw8 := tR hw8 hE12 (by omega)
    clear hE12
    obtain ⟨wd13, hE14⟩ : ∃ ww, ww = wd11.setRow (w.heap.size + 1 + 1) #[.slice none 0 0, .int .i64 3] := ⟨_, rfl⟩
    rw [← hE14]
    replace S := dR S hE14 (by omega)
    replace Z := dR Z hE14 (by omega)
    replace F := dO F hE14
    replace hw8 := tR hw8 hE14 (by omega)
    clear hE14
    obtain ⟨cZ_0, cZ_1, cZ_2, cZ_3, cZ_4, cZ_5, cZ_6, cZ_7⟩ := Z.out.c8
    have cF_0 : wd13.cell? ⟨w.heap.size + 1 + 1, 0, none⟩ = some (.slice none 0 0) := F.out.cell 0
    have cF_1 : wd13.cell? ⟨w.heap.size + 1 + 1, 1, none⟩ = some (.int .i64 3) := F.out.cell 1
    exact bodyPost_ret (v := .tuple #[.agg #[.int .i64 0, .bool false, .int .i64 0, .string ⟨#[]⟩, .int .i64 0, .slice none 0 0, .slice none 0 0, .slice none 0 0], .agg #[.slice none 0 0, .int .i64 3], .int .i64 12]) (by simp [results, Tryd.results18, go_sem, cZ_0, cZ_1, cZ_2, cZ_3, cZ_4, cZ_5, cZ_6, cZ_7, cF_0, cF_1]) rfl ((by rw [HR.out]; exact ⟨hw8, _, rfl, World.ownsRow_nil _ _ _ _⟩))
   have HR : Hid (readE ts n m = .ok (decP ts 200 n m [])) := by
    show _ = _; unfold readE; rw [if_neg (by simp [Hv0.out]), if_neg (by intro e; have h := H1.out; rw [Option.isNone_iff_eq_none] at e; rw [e] at h; cases h), if_neg h2]
   have h2i : ¬ (4096 : Int) < m.length := by omega
   have cS_0 : wd9.cell? ⟨w.heap.size, 0, none⟩ = some (.slice A ts.length c) := S.out.cell 0
   go_upto_region 9 with fail
   clear h2i
   clear cS_0
   obtain ⟨wd16, hE17⟩ : ∃ ww, ww = wd9.alloc (.cells #[.slice A ts.length c, .slice none 0 0, .slice none 0 0, .int .i64 0] 78) := ⟨_, rfl⟩
   rw [← hE17]
   have hb15 := aB hE17
   have G := aN hE17
   clear hE17
   have hl19 := S.out.here
   have hl20 := Z.out.here
   have hl21 := F.out.here
   have hl22 := hw8.size
   replace S := dB S hb15
   replace Z := dB Z hb15
   replace F := dB F hb15
   replace hw8 := dT hw8 hb15
   clear hb15
   generalize wd9.heap.size = g18 at *
   obtain ⟨gr, rfl⟩ : ∃ g, g = g18 := ⟨_, rfl⟩
   have hgr := G.out.here
   have hwg := (hw8).size
   have HPay := Lib.hid (pay_all ts A c gr (sch_ok Hv0.out) 200 [] n m wd16 _ _ rfl H1.out (by omega) ⟨_, G.out, World.ownsRow_nil _ _ _ _⟩ (HT.out.keep (fun _ hp => (hw8).cell hp) (by omega)))
   generalize decP ts 200 n m [] = q at *
   obtain ⟨LX, hLX⟩ : ∃ n, n = (wd16).heap.size := ⟨_, rfl⟩
   go_wp2_with fail
   refine HPay.out.mono ?_
   rintro e wx hq
   obtain ⟨fpx, fnx, c0N, c1N, c2N, c3N, c4N, c5N, c6N, c7N, bbN, h1N, rfl, RX, KX, NN⟩ := hq.take
   rw [← hLX] at NN hgr
   have hkl := KX.low
   have hsx := KX.size
   rw [← hLX] at hsx
   obtain ⟨⟨pv, hrow, -⟩, hfail⟩ := RX
   have h1aN : (#[c0N, c1N, c2N, c3N, c4N, c5N, c6N, c7N] : Array Value).all (·.oneCell') = true := by simpa using h1N
   have Hfail := Lib.hid hfail
   clear hq HPay KX hLX hfail
   clear G
   replace S := Lib.hid (S.out.below hkl (show w.heap.size < gr by omega))
   replace Z := Lib.hid (Z.out.below hkl (show w.heap.size + 1 < gr by omega))
   replace F := Lib.hid (F.out.below hkl (show w.heap.size + 1 + 1 < gr by omega))
   replace hw8 := hw8.trans (hkl.mono (show w.heap.size ≤ gr by omega))
   clear hkl
   replace hrow := Lib.hid hrow
   obtain ⟨BX, hBX⟩ : ∃ n, n = (wx).heap.size := ⟨_, rfl⟩
   rw [← hBX] at NN hsx
   have N := Lib.hid (NN.plain)
   clear NN
   cases q with
   | error pn =>
    obtain ⟨p', n'⟩ := pn
    obtain ⟨rfl, rfl⟩ := N.out.now
    have hfo := Hfail.out p' rfl
    obtain ⟨Af, cf, rfl⟩ := own_form hfo
    have FP := Lib.hid (Kept.own_at hfo hBX)
    clear hfo hBX Hfail
    have M5 := Has.made wx 45 #[.int .i64 0, .bool false, .int .i64 0, .string ⟨#[]⟩, .int .i64 0, .slice none 0 0, .slice none 0 0, .slice none 0 0]
    go_upto_region 10 with (refine wpList_store_row rfl 45 _ _ rfl wx.heap.size _ rfl rfl 45 _ M5 (by kernel_rfl) rfl h1aN ?_)
    clear M5
    obtain ⟨wd24, hE25⟩ : ∃ ww, ww = wx.alloc (.cells #[.int .i64 0, .bool false, .int .i64 0, .string ⟨#[]⟩, .int .i64 0, .slice none 0 0, .slice none 0 0, .slice none 0 0] 45) := ⟨_, rfl⟩
    rw [← hE25]
    have hb23 := aB hE25
    have I := aN hE25
    clear hE25
    have hl27 := S.out.here
    have hl28 := Z.out.here
    have hl29 := F.out.here
    have hl30 := hrow.out.here
    have hl31 := N.out.le
    have hl32 := FP.out.le
    have hl33 := hw8.size
    replace S := dB S hb23
    replace Z := dB Z hb23
    replace F := dB F hb23
    replace hrow := dB hrow hb23
    replace N := dK N hb23
    replace FP := dK FP hb23
    replace hw8 := dT hw8 hb23
    clear hb23
    generalize wx.heap.size = g26 at *
    obtain ⟨wd34, hE35⟩ : ∃ ww, ww = wd24.setRow (g26) #[c0N, c1N, c2N, c3N, c4N, c5N, c6N, c7N] := ⟨_, rfl⟩
    rw [← hE35]
    replace S := dR S hE35 (by omega)
    replace Z := dR Z hE35 (by omega)
    replace F := dR F hE35 (by omega)
    replace hrow := dR hrow hE35 (by omega)
    replace I := dO I hE35
    replace N := kR N hE35 (by omega)
    replace FP := kR FP hE35 (by omega)
    replace hw8 := tR hw8 hE35 (by omega)
    clear hE35
    go_upto_region 11 with fail
    have chrow_2 : wd34.cell? ⟨gr, 2, none⟩ = some ((.slice Af p'.length cf)) := hrow.out.cell 2
    have chrow_3 : wd34.cell? ⟨gr, 3, none⟩ = some (.int .i64 fnx) := hrow.out.cell 3
    refine wp_region_held_drew (S := (fun w' => w'.cell? ⟨gr, 2, none⟩ = some ((.slice Af p'.length cf)) ∧ w'.cell? ⟨gr, 3, none⟩ = some (.int .i64 fnx))) (by kernel_rfl) ⟨chrow_2, chrow_3⟩ (fun hHeld => ?_)
    clear chrow_2 chrow_3
    have hb36 : Below wd34.heap.size wd34 (wd34.drew) := (Below.refl _ _).drew
    replace S := dB S hb36
    replace Z := dB Z hb36
    replace F := dB F hb36
    replace hrow := dB hrow hb36
    replace I := dB I hb36
    replace N := dK N hb36
    replace FP := dK FP hb36
    replace hw8 := dT hw8 hb36
    clear hb36
    generalize wd34.drew = wd37 at *
    refine tk (i := 0) (v := ?k38) ?_
    simp only [put_laws2]
    refine tk (i := 1) (v := ?k39) ?_
    simp only [put_laws2]
    refine wpAnyH_ready (rs := [2, 5]) (by kernel_rfl) (by simp) ?_
    refine AllReadyH.cons rfl (fun K hK => ?_) (AllReadyH.cons rfl (fun K hK => ?_) (AllReadyH.nil))
    ·
     skip
     go_simp
     try clear hHeld
     refine hK.out _ _ (⟨hrow.out.cell 2, hrow.out.cell 3⟩) (fun hHeld => ?_)
     clear hK K
     refine wpAnyH_ready (rs := [3, 5]) (by kernel_rfl) (by simp) ?_
     refine AllReadyH.cons rfl (fun K hK => ?_) (AllReadyH.cons rfl (fun K hK => ?_) (AllReadyH.nil))
     ·
      skip
      go_simp
      try clear hHeld
      refine hK.out _ _ (⟨hrow.out.cell 2, hrow.out.cell 3⟩) (fun hHeld => ?_)
      clear hK K
      refine wpAnyH_ready (rs := [4, 5]) (by kernel_rfl) (by simp) ?_
      refine AllReadyH.cons rfl (fun K hK => ?_) (AllReadyH.cons rfl (fun K hK => ?_) (AllReadyH.nil))
      ·
       skip
       go_simp
       try clear hHeld
       refine hK.out _ _ (⟨hrow.out.cell 2, hrow.out.cell 3⟩) (fun hHeld => ?_)
       clear hK K
       refine rd1 (i := 5) (fun K hK => ?_)
       refine step_store_row (by rfl) 45 _ _ (by rfl) (w.heap.size + 1) #[.int .i64 0, .bool false, .int .i64 0, .string ⟨#[]⟩, .int .i64 0, .slice none 0 0, .slice none 0 0, .slice none 0 0] (by rfl) (by rfl) 45 _ Z.out (by kernel_rfl) rfl (by first | assumption | simp [Value.oneCell']) ?_
       obtain ⟨wd40, hE41⟩ : ∃ ww, ww = wd37.setRow (w.heap.size + 1) #[.int .i64 0, .bool false, .int .i64 0, .string ⟨#[]⟩, .int .i64 0, .slice none 0 0, .slice none 0 0, .slice none 0 0] := ⟨_, rfl⟩
       rw [← hE41]
       replace S := dR S hE41 (by omega)
       replace F := dR F hE41 (by omega)
       replace hrow := dR hrow hE41 (by omega)
       replace I := dR I hE41 (by omega)
       replace Z := dO Z hE41
       replace N := kR N hE41 (by omega)
       replace FP := kR FP hE41 (by omega)
       replace hw8 := tR hw8 hE41 (by omega)
       clear hE41
       try clear hHeld
       refine hK.out _ _ (⟨hrow.out.cell 2, hrow.out.cell 3⟩) (fun hHeld => ?_)
       clear hK K
       refine rd1 (i := 6) (fun K hK => ?_)
       refine step_store_row (by rfl) 26 _ _ (by rfl) (w.heap.size + 1 + 1) #[.slice Af p'.length cf, .int .i64 fnx] (by rfl) (by rfl) 26 _ F.out (by kernel_rfl) rfl (by first | assumption | simp [Value.oneCell']) ?_
       obtain ⟨wd42, hE43⟩ : ∃ ww, ww = wd40.setRow (w.heap.size + 1 + 1) #[.slice Af p'.length cf, .int .i64 fnx] := ⟨_, rfl⟩
       rw [← hE43]
       replace S := dR S hE43 (by omega)
       replace Z := dR Z hE43 (by omega)
       replace hrow := dR hrow hE43 (by omega)
       replace I := dR I hE43 (by omega)
       replace F := dO F hE43
       replace N := kR N hE43 (by omega)
       replace FP := kR FP hE43 (by omega)
       replace hw8 := tR hw8 hE43 (by omega)
       clear hE43
       try clear hHeld
       refine hK.out _ _ (⟨hrow.out.cell 2, hrow.out.cell 3⟩) (fun hHeld => ?_)
       clear hK K
       refine tk (i := 7) (v := ?k44) ?_
       simp only [put_laws2]
       refine wpAnyH_done (by kernel_rfl) ?_ _
       try clear hHeld
       go_wp2_with fail
       obtain ⟨cZ_0, cZ_1, cZ_2, cZ_3, cZ_4, cZ_5, cZ_6, cZ_7⟩ := Z.out.c8
       have cF_0 : wd42.cell? ⟨w.heap.size + 1 + 1, 0, none⟩ = some (.slice Af p'.length cf) := F.out.cell 0
       have cF_1 : wd42.cell? ⟨w.heap.size + 1 + 1, 1, none⟩ = some (.int .i64 fnx) := F.out.cell 1
       exact bodyPost_ret (v := .tuple #[.agg #[.int .i64 0, .bool false, .int .i64 0, .string ⟨#[]⟩, .int .i64 0, .slice none 0 0, .slice none 0 0, .slice none 0 0], .agg #[.slice Af p'.length cf, .int .i64 fnx], .int .i64 12]) (by simp [results, Tryd.results18, go_sem, cZ_0, cZ_1, cZ_2, cZ_3, cZ_4, cZ_5, cZ_6, cZ_7, cF_0, cF_1]) rfl ((by rw [HR.out]; exact ⟨hw8, _, rfl, own_baseD FP.out.now (by omega)⟩))
      skip
      refine step_store_row (by rfl) 45 _ _ (by rfl) (w.heap.size + 1) #[.int .i64 0, .bool false, .int .i64 0, .string ⟨#[]⟩, .int .i64 0, .slice none 0 0, .slice none 0 0, .slice none 0 0] (by rfl) (by rfl) 45 _ Z.out (by kernel_rfl) rfl (by first | assumption | simp [Value.oneCell']) ?_
      obtain ⟨wd45, hE46⟩ : ∃ ww, ww = wd37.setRow (w.heap.size + 1) #[.int .i64 0, .bool false, .int .i64 0, .string ⟨#[]⟩, .int .i64 0, .slice none 0 0, .slice none 0 0, .slice none 0 0] := ⟨_, rfl⟩
      rw [← hE46]
      replace S := dR S hE46 (by omega)
      replace F := dR F hE46 (by omega)
      replace hrow := dR hrow hE46 (by omega)
      replace I := dR I hE46 (by omega)
      replace Z := dO Z hE46
      replace N := kR N hE46 (by omega)
      replace FP := kR FP hE46 (by omega)
      replace hw8 := tR hw8 hE46 (by omega)
      clear hE46
      try clear hHeld
      refine hK.out _ _ (⟨hrow.out.cell 2, hrow.out.cell 3⟩) (fun hHeld => ?_)
      clear hK K
      refine tk (i := 4) (v := ?k47) ?_
      simp only [put_laws2]
      refine rd1 (i := 6) (fun K hK => ?_)
      refine step_store_row (by rfl) 26 _ _ (by rfl) (w.heap.size + 1 + 1) #[.slice Af p'.length cf, .int .i64 fnx] (by rfl) (by rfl) 26 _ F.out (by kernel_rfl) rfl (by first | assumption | simp [Value.oneCell']) ?_
      obtain ⟨wd48, hE49⟩ : ∃ ww, ww = wd45.setRow (w.heap.size + 1 + 1) #[.slice Af p'.length cf, .int .i64 fnx] := ⟨_, rfl⟩
      rw [← hE49]
      replace S := dR S hE49 (by omega)
      replace Z := dR Z hE49 (by omega)
      replace hrow := dR hrow hE49 (by omega)
      replace I := dR I hE49 (by omega)
      replace F := dO F hE49
      replace N := kR N hE49 (by omega)
      replace FP := kR FP hE49 (by omega)
      replace hw8 := tR hw8 hE49 (by omega)
      clear hE49
      try clear hHeld
      refine hK.out _ _ (⟨hrow.out.cell 2, hrow.out.cell 3⟩) (fun hHeld => ?_)
      clear hK K
      refine tk (i := 7) (v := ?k50) ?_
      simp only [put_laws2]
      refine wpAnyH_done (by kernel_rfl) ?_ _
      try clear hHeld
      go_wp2_with fail
      obtain ⟨cZ_0, cZ_1, cZ_2, cZ_3, cZ_4, cZ_5, cZ_6, cZ_7⟩ := Z.out.c8
      have cF_0 : wd48.cell? ⟨w.heap.size + 1 + 1, 0, none⟩ = some (.slice Af p'.length cf) := F.out.cell 0
      have cF_1 : wd48.cell? ⟨w.heap.size + 1 + 1, 1, none⟩ = some (.int .i64 fnx) := F.out.cell 1
      exact bodyPost_ret (v := .tuple #[.agg #[.int .i64 0, .bool false, .int .i64 0, .string ⟨#[]⟩, .int .i64 0, .slice none 0 0, .slice none 0 0, .slice none 0 0], .agg #[.slice Af p'.length cf, .int .i64 fnx], .int .i64 12]) (by simp [results, Tryd.results18, go_sem, cZ_0, cZ_1, cZ_2, cZ_3, cZ_4, cZ_5, cZ_6, cZ_7, cF_0, cF_1]) rfl ((by rw [HR.out]; exact ⟨hw8, _, rfl, own_baseD FP.out.now (by omega)⟩))
     skip
     refine step_store_row (by rfl) 45 _ _ (by rfl) (w.heap.size + 1) #[.int .i64 0, .bool false, .int .i64 0, .string ⟨#[]⟩, .int .i64 0, .slice none 0 0, .slice none 0 0, .slice none 0 0] (by rfl) (by rfl) 45 _ Z.out (by kernel_rfl) rfl (by first | assumption | simp [Value.oneCell']) ?_
     obtain ⟨wd51, hE52⟩ : ∃ ww, ww = wd37.setRow (w.heap.size + 1) #[.int .i64 0, .bool false, .int .i64 0, .string ⟨#[]⟩, .int .i64 0, .slice none 0 0, .slice none 0 0, .slice none 0 0] := ⟨_, rfl⟩
     rw [← hE52]
     replace S := dR S hE52 (by omega)
     replace F := dR F hE52 (by omega)
     replace hrow := dR hrow hE52 (by omega)
     replace I := dR I hE52 (by omega)
     replace Z := dO Z hE52
     replace N := kR N hE52 (by omega)
     replace FP := kR FP hE52 (by omega)
     replace hw8 := tR hw8 hE52 (by omega)
     clear hE52
     try clear hHeld
     refine hK.out _ _ (⟨hrow.out.cell 2, hrow.out.cell 3⟩) (fun hHeld => ?_)
     clear hK K
     refine tk (i := 3) (v := ?k53) ?_
     simp only [put_laws2]
     refine tk (i := 4) (v := ?k54) ?_
     simp only [put_laws2]
     refine rd1 (i := 6) (fun K hK => ?_)
     refine step_store_row (by rfl) 26 _ _ (by rfl) (w.heap.size + 1 + 1) #[.slice Af p'.length cf, .int .i64 fnx] (by rfl) (by rfl) 26 _ F.out (by kernel_rfl) rfl (by first | assumption | simp [Value.oneCell']) ?_
     obtain ⟨wd55, hE56⟩ : ∃ ww, ww = wd51.setRow (w.heap.size + 1 + 1) #[.slice Af p'.length cf, .int .i64 fnx] := ⟨_, rfl⟩
     rw [← hE56]
     replace S := dR S hE56 (by omega)
     replace Z := dR Z hE56 (by omega)
     replace hrow := dR hrow hE56 (by omega)
     replace I := dR I hE56 (by omega)
     replace F := dO F hE56
     replace N := kR N hE56 (by omega)
     replace FP := kR FP hE56 (by omega)
     replace hw8 := tR hw8 hE56 (by omega)
     clear hE56
     try clear hHeld
     refine hK.out _ _ (⟨hrow.out.cell 2, hrow.out.cell 3⟩) (fun hHeld => ?_)
     clear hK K
     refine tk (i := 7) (v := ?k57) ?_
     simp only [put_laws2]
     refine wpAnyH_done (by kernel_rfl) ?_ _
     try clear hHeld
     go_wp2_with fail
     obtain ⟨cZ_0, cZ_1, cZ_2, cZ_3, cZ_4, cZ_5, cZ_6, cZ_7⟩ := Z.out.c8
     have cF_0 : wd55.cell? ⟨w.heap.size + 1 + 1, 0, none⟩ = some (.slice Af p'.length cf) := F.out.cell 0
     have cF_1 : wd55.cell? ⟨w.heap.size + 1 + 1, 1, none⟩ = some (.int .i64 fnx) := F.out.cell 1
     exact bodyPost_ret (v := .tuple #[.agg #[.int .i64 0, .bool false, .int .i64 0, .string ⟨#[]⟩, .int .i64 0, .slice none 0 0, .slice none 0 0, .slice none 0 0], .agg #[.slice Af p'.length cf, .int .i64 fnx], .int .i64 12]) (by simp [results, Tryd.results18, go_sem, cZ_0, cZ_1, cZ_2, cZ_3, cZ_4, cZ_5, cZ_6, cZ_7, cF_0, cF_1]) rfl ((by rw [HR.out]; exact ⟨hw8, _, rfl, own_baseD FP.out.now (by omega)⟩))
    skip
    refine step_store_row (by rfl) 45 _ _ (by rfl) (w.heap.size + 1) #[.int .i64 0, .bool false, .int .i64 0, .string ⟨#[]⟩, .int .i64 0, .slice none 0 0, .slice none 0 0, .slice none 0 0] (by rfl) (by rfl) 45 _ Z.out (by kernel_rfl) rfl (by first | assumption | simp [Value.oneCell']) ?_
    obtain ⟨wd58, hE59⟩ : ∃ ww, ww = wd37.setRow (w.heap.size + 1) #[.int .i64 0, .bool false, .int .i64 0, .string ⟨#[]⟩, .int .i64 0, .slice none 0 0, .slice none 0 0, .slice none 0 0] := ⟨_, rfl⟩
    rw [← hE59]
    replace S := dR S hE59 (by omega)
    replace F := dR F hE59 (by omega)
    replace hrow := dR hrow hE59 (by omega)
    replace I := dR I hE59 (by omega)
    replace Z := dO Z hE59
    replace N := kR N hE59 (by omega)
    replace FP := kR FP hE59 (by omega)
    replace hw8 := tR hw8 hE59 (by omega)
    clear hE59
    try clear hHeld
    refine hK.out _ _ (⟨hrow.out.cell 2, hrow.out.cell 3⟩) (fun hHeld => ?_)
    clear hK K
    refine tk (i := 2) (v := ?k60) ?_
    simp only [put_laws2]
    refine tk (i := 3) (v := ?k61) ?_
    simp only [put_laws2]
    refine tk (i := 4) (v := ?k62) ?_
    simp only [put_laws2]
    refine rd1 (i := 6) (fun K hK => ?_)
    refine step_store_row (by rfl) 26 _ _ (by rfl) (w.heap.size + 1 + 1) #[.slice Af p'.length cf, .int .i64 fnx] (by rfl) (by rfl) 26 _ F.out (by kernel_rfl) rfl (by first | assumption | simp [Value.oneCell']) ?_
    obtain ⟨wd63, hE64⟩ : ∃ ww, ww = wd58.setRow (w.heap.size + 1 + 1) #[.slice Af p'.length cf, .int .i64 fnx] := ⟨_, rfl⟩
    rw [← hE64]
    replace S := dR S hE64 (by omega)
    replace Z := dR Z hE64 (by omega)
    replace hrow := dR hrow hE64 (by omega)
    replace I := dR I hE64 (by omega)
    replace F := dO F hE64
    replace N := kR N hE64 (by omega)
    replace FP := kR FP hE64 (by omega)
    replace hw8 := tR hw8 hE64 (by omega)
    clear hE64
    try clear hHeld
    refine hK.out _ _ (⟨hrow.out.cell 2, hrow.out.cell 3⟩) (fun hHeld => ?_)
    clear hK K
    refine tk (i := 7) (v := ?k65) ?_
    simp only [put_laws2]
    refine wpAnyH_done (by kernel_rfl) ?_ _
    try clear hHeld
    go_wp2_with fail
    obtain ⟨cZ_0, cZ_1, cZ_2, cZ_3, cZ_4, cZ_5, cZ_6, cZ_7⟩ := Z.out.c8
    have cF_0 : wd63.cell? ⟨w.heap.size + 1 + 1, 0, none⟩ = some (.slice Af p'.length cf) := F.out.cell 0
    have cF_1 : wd63.cell? ⟨w.heap.size + 1 + 1, 1, none⟩ = some (.int .i64 fnx) := F.out.cell 1
    exact bodyPost_ret (v := .tuple #[.agg #[.int .i64 0, .bool false, .int .i64 0, .string ⟨#[]⟩, .int .i64 0, .slice none 0 0, .slice none 0 0, .slice none 0 0], .agg #[.slice Af p'.length cf, .int .i64 fnx], .int .i64 12]) (by simp [results, Tryd.results18, go_sem, cZ_0, cZ_1, cZ_2, cZ_3, cZ_4, cZ_5, cZ_6, cZ_7, cF_0, cF_1]) rfl ((by rw [HR.out]; exact ⟨hw8, _, rfl, own_baseD FP.out.now (by omega)⟩))
   | ok v =>
    obtain ⟨rfl, _⟩ := N.out.now
    clear hBX Hfail
    have M5 := Has.made wx 45 #[.int .i64 0, .bool false, .int .i64 0, .string ⟨#[]⟩, .int .i64 0, .slice none 0 0, .slice none 0 0, .slice none 0 0]
    go_upto_region 10 with (refine wpList_store_row rfl 45 _ _ rfl wx.heap.size _ rfl rfl 45 _ M5 (by kernel_rfl) rfl h1aN ?_)
    clear M5
    obtain ⟨wd67, hE68⟩ : ∃ ww, ww = wx.alloc (.cells #[.int .i64 0, .bool false, .int .i64 0, .string ⟨#[]⟩, .int .i64 0, .slice none 0 0, .slice none 0 0, .slice none 0 0] 45) := ⟨_, rfl⟩
    rw [← hE68]
    have hb66 := aB hE68
    have I := aN hE68
    clear hE68
    have hl70 := S.out.here
    have hl71 := Z.out.here
    have hl72 := F.out.here
    have hl73 := hrow.out.here
    have hl74 := N.out.le
    have hl75 := hw8.size
    replace S := dB S hb66
    replace Z := dB Z hb66
    replace F := dB F hb66
    replace hrow := dB hrow hb66
    replace N := dK N hb66
    replace hw8 := dT hw8 hb66
    clear hb66
    generalize wx.heap.size = g69 at *
    obtain ⟨wd76, hE77⟩ : ∃ ww, ww = wd67.setRow (g69) #[c0N, c1N, c2N, c3N, c4N, c5N, c6N, c7N] := ⟨_, rfl⟩
    rw [← hE77]
    replace S := dR S hE77 (by omega)
    replace Z := dR Z hE77 (by omega)
    replace F := dR F hE77 (by omega)
    replace hrow := dR hrow hE77 (by omega)
    replace I := dO I hE77
    replace N := kR N hE77 (by omega)
    replace hw8 := tR hw8 hE77 (by omega)
    clear hE77
    obtain ⟨cI_0, cI_1, cI_2, cI_3, cI_4, cI_5, cI_6, cI_7⟩ := I.out.c8
    go_upto_region 12 with fail
    go_wp2_with (first | (refine wpList_store_row rfl 45 _ _ rfl (w.heap.size + 1) _ rfl rfl 45 _ Z.out (by kernel_rfl) rfl (by first | assumption | simp [Value.oneCell']) ?_) | (refine wpList_store_row rfl 26 _ _ rfl (w.heap.size + 1 + 1) _ rfl rfl 26 _ (has_row (cs' := #[c0N, c1N, c2N, c3N, c4N, c5N, c6N, c7N]) F.out (show w.heap.size + 1 + 1 ≠ w.heap.size + 1 by omega)) (by kernel_rfl) rfl (by first | assumption | simp [Value.oneCell']) ?_))
    clear cI_0 cI_1 cI_2 cI_3 cI_4 cI_5 cI_6 cI_7
    obtain ⟨wd78, hE79⟩ : ∃ ww, ww = wd76.setRow (w.heap.size + 1) #[c0N, c1N, c2N, c3N, c4N, c5N, c6N, c7N] := ⟨_, rfl⟩
    rw [← hE79]
    replace S := dR S hE79 (by omega)
    replace F := dR F hE79 (by omega)
    replace hrow := dR hrow hE79 (by omega)
    replace I := dR I hE79 (by omega)
    replace Z := dO Z hE79
    replace N := kR N hE79 (by omega)
    replace hw8 := tR hw8 hE79 (by omega)
    clear hE79
    obtain ⟨wd80, hE81⟩ : ∃ ww, ww = wd78.setRow (w.heap.size + 1 + 1) #[.slice none 0 0, .int .i64 0] := ⟨_, rfl⟩
    rw [← hE81]
    replace S := dR S hE81 (by omega)
    replace Z := dR Z hE81 (by omega)
    replace hrow := dR hrow hE81 (by omega)
    replace I := dR I hE81 (by omega)
    replace F := dO F hE81
    replace N := kR N hE81 (by omega)
    replace hw8 := tR hw8 hE81 (by omega)
    clear hE81
    have HF : Hid (ReadPost w (readE ts n m) (.returned (.tuple #[.agg #[c0N, c1N, c2N, c3N, c4N, c5N, c6N, c7N], .agg #[.slice none 0 0, .int .i64 0], .int .i64 0])) wd80) := by
     show ReadPost _ _ _ _
     obtain ⟨_, vk, vi, vr, hc, S, hv, hS⟩ := N.out.now
     have hle := N.out.le
     rw [HR.out]
     refine ⟨hw8, vk, vi, vr, ?_, hv.keep (fun _ _ => rfl) (fun b hb => ⟨by have := (hS b hb).1; omega, by have := (hS b hb).2.1; omega⟩)⟩
     simp only [valV, List.cons.injEq, and_true] at hc
     obtain ⟨rfl, rfl, rfl, rfl, rfl, rfl, rfl, rfl⟩ := hc
     rfl
    obtain ⟨cZ_0, cZ_1, cZ_2, cZ_3, cZ_4, cZ_5, cZ_6, cZ_7⟩ := Z.out.c8
    have cF_0 : wd80.cell? ⟨w.heap.size + 1 + 1, 0, none⟩ = some (.slice none 0 0) := F.out.cell 0
    have cF_1 : wd80.cell? ⟨w.heap.size + 1 + 1, 1, none⟩ = some (.int .i64 0) := F.out.cell 1
    exact bodyPost_ret (v := .tuple #[.agg #[c0N, c1N, c2N, c3N, c4N, c5N, c6N, c7N], .agg #[.slice none 0 0, .int .i64 0], .int .i64 0]) (by simp [results, Tryd.results18, go_sem, cZ_0, cZ_1, cZ_2, cZ_3, cZ_4, cZ_5, cZ_6, cZ_7, cF_0, cF_1]) rfl (HF.out)
  have HR : Hid (readE ts t m = .error 4) := by
   show _ = _; unfold readE; rw [if_neg (by simp [Hv0.out]), if_pos (by cases hq : typAt ts t <;> simp_all)]
  have h1b : t < 0 ∨ (ts.length : Int) ≤ t := by
   unfold typAt at h1
   by_cases h3 : 0 ≤ t
   ·
    rw [if_pos h3] at h1
    have : ts.length ≤ t.toNat := by simpa using h1
    omega
   omega
  clear h1
  by_cases h3 : t < 0
  ·
   clear h1b
   have cS_0 : wd9.cell? ⟨w.heap.size, 0, none⟩ = some (.slice A ts.length c) := S.out.cell 0
   go_upto_region 5 with fail
   go_wp2_with (first | (refine wpList_store_row rfl 45 _ _ rfl (w.heap.size + 1) _ rfl rfl 45 _ Z.out (by kernel_rfl) rfl (by first | assumption | simp [Value.oneCell']) ?_) | (refine wpList_store_row rfl 26 _ _ rfl (w.heap.size + 1 + 1) _ rfl rfl 26 _ (has_row (cs' := #[.int .i64 0, .bool false, .int .i64 0, .string ⟨#[]⟩, .int .i64 0, .slice none 0 0, .slice none 0 0, .slice none 0 0]) F.out (show w.heap.size + 1 + 1 ≠ w.heap.size + 1 by omega)) (by kernel_rfl) rfl (by first | assumption | simp [Value.oneCell']) ?_))
   clear cS_0
   obtain ⟨wd82, hE83⟩ : ∃ ww, ww = wd9.setRow (w.heap.size + 1) #[.int .i64 0, .bool false, .int .i64 0, .string ⟨#[]⟩, .int .i64 0, .slice none 0 0, .slice none 0 0, .slice none 0 0] := ⟨_, rfl⟩
   rw [← hE83]
   replace S := dR S hE83 (by omega)
   replace F := dR F hE83 (by omega)
   replace Z := dO Z hE83
   replace hw8 := tR hw8 hE83 (by omega)
   clear hE83
   obtain ⟨wd84, hE85⟩ : ∃ ww, ww = wd82.setRow (w.heap.size + 1 + 1) #[.slice none 0 0, .int .i64 0] := ⟨_, rfl⟩
   rw [← hE85]
   replace S := dR S hE85 (by omega)
   replace Z := dR Z hE85 (by omega)
   replace F := dO F hE85
   replace hw8 := tR hw8 hE85 (by omega)
   clear hE85
   obtain ⟨cZ_0, cZ_1, cZ_2, cZ_3, cZ_4, cZ_5, cZ_6, cZ_7⟩ := Z.out.c8
   have cF_0 : wd84.cell? ⟨w.heap.size + 1 + 1, 0, none⟩ = some (.slice none 0 0) := F.out.cell 0
   have cF_1 : wd84.cell? ⟨w.heap.size + 1 + 1, 1, none⟩ = some (.int .i64 0) := F.out.cell 1
   exact bodyPost_ret (v := .tuple #[.agg #[.int .i64 0, .bool false, .int .i64 0, .string ⟨#[]⟩, .int .i64 0, .slice none 0 0, .slice none 0 0, .slice none 0 0], .agg #[.slice none 0 0, .int .i64 0], .int .i64 4]) (by simp [results, Tryd.results18, go_sem, cZ_0, cZ_1, cZ_2, cZ_3, cZ_4, cZ_5, cZ_6, cZ_7, cF_0, cF_1]) rfl ((by rw [HR.out]; exact ⟨hw8, rfl⟩))
  have h4 : (ts.length : Int) ≤ t := by omega
  clear h1b
  have cS_0 : wd9.cell? ⟨w.heap.size, 0, none⟩ = some (.slice A ts.length c) := S.out.cell 0
  go_upto_region 5 with fail
  go_wp2_with (first | (refine wpList_store_row rfl 45 _ _ rfl (w.heap.size + 1) _ rfl rfl 45 _ Z.out (by kernel_rfl) rfl (by first | assumption | simp [Value.oneCell']) ?_) | (refine wpList_store_row rfl 26 _ _ rfl (w.heap.size + 1 + 1) _ rfl rfl 26 _ (has_row (cs' := #[.int .i64 0, .bool false, .int .i64 0, .string ⟨#[]⟩, .int .i64 0, .slice none 0 0, .slice none 0 0, .slice none 0 0]) F.out (show w.heap.size + 1 + 1 ≠ w.heap.size + 1 by omega)) (by kernel_rfl) rfl (by first | assumption | simp [Value.oneCell']) ?_))
  clear cS_0
  obtain ⟨wd86, hE87⟩ : ∃ ww, ww = wd9.setRow (w.heap.size + 1) #[.int .i64 0, .bool false, .int .i64 0, .string ⟨#[]⟩, .int .i64 0, .slice none 0 0, .slice none 0 0, .slice none 0 0] := ⟨_, rfl⟩
  rw [← hE87]
  replace S := dR S hE87 (by omega)
  replace F := dR F hE87 (by omega)
  replace Z := dO Z hE87
  replace hw8 := tR hw8 hE87 (by omega)
  clear hE87
  obtain ⟨wd88, hE89⟩ : ∃ ww, ww = wd86.setRow (w.heap.size + 1 + 1) #[.slice none 0 0, .int .i64 0] := ⟨_, rfl⟩
  rw [← hE89]
  replace S := dR S hE89 (by omega)
  replace Z := dR Z hE89 (by omega)
  replace F := dO F hE89
  replace hw8 := tR hw8 hE89 (by omega)
  clear hE89
  obtain ⟨cZ_0, cZ_1, cZ_2, cZ_3, cZ_4, cZ_5, cZ_6, cZ_7⟩ := Z.out.c8
  have cF_0 : wd88.cell? ⟨w.heap.size + 1 + 1, 0, none⟩ = some (.slice none 0 0) := F.out.cell 0
  have cF_1 : wd88.cell? ⟨w.heap.size + 1 + 1, 1, none⟩ = some (.int .i64 0) := F.out.cell 1
  exact bodyPost_ret (v := .tuple #[.agg #[.int .i64 0, .bool false, .int .i64 0, .string ⟨#[]⟩, .int .i64 0, .slice none 0 0, .slice none 0 0, .slice none 0 0], .agg #[.slice none 0 0, .int .i64 0], .int .i64 4]) (by simp [results, Tryd.results18, go_sem, cZ_0, cZ_1, cZ_2, cZ_3, cZ_4, cZ_5, cZ_6, cZ_7, cF_0, cF_1]) rfl ((by rw [HR.out]; exact ⟨hw8, rfl⟩))
 have HR : Hid (readE ts t m = .error (validE ts)) := by show _ = _; unfold readE; rw [if_pos h0]
 have cS_0 : wd9.cell? ⟨w.heap.size, 0, none⟩ = some (.slice A ts.length c) := S.out.cell 0
 go_upto_region 3 with fail
 go_wp2_with (first | (refine wpList_store_row rfl 45 _ _ rfl (w.heap.size + 1) _ rfl rfl 45 _ Z.out (by kernel_rfl) rfl (by first | assumption | simp [Value.oneCell']) ?_) | (refine wpList_store_row rfl 26 _ _ rfl (w.heap.size + 1 + 1) _ rfl rfl 26 _ (has_row (cs' := #[.int .i64 0, .bool false, .int .i64 0, .string ⟨#[]⟩, .int .i64 0, .slice none 0 0, .slice none 0 0, .slice none 0 0]) F.out (show w.heap.size + 1 + 1 ≠ w.heap.size + 1 by omega)) (by kernel_rfl) rfl (by first | assumption | simp [Value.oneCell']) ?_))
 clear cS_0
 obtain ⟨wd90, hE91⟩ : ∃ ww, ww = wd9.setRow (w.heap.size + 1) #[.int .i64 0, .bool false, .int .i64 0, .string ⟨#[]⟩, .int .i64 0, .slice none 0 0, .slice none 0 0, .slice none 0 0] := ⟨_, rfl⟩
 rw [← hE91]
 replace S := dR S hE91 (by omega)
 replace F := dR F hE91 (by omega)
 replace Z := dO Z hE91
 replace hw8 := tR hw8 hE91 (by omega)
 clear hE91
 obtain ⟨wd92, hE93⟩ : ∃ ww, ww = wd90.setRow (w.heap.size + 1 + 1) #[.slice none 0 0, .int .i64 0] := ⟨_, rfl⟩
 rw [← hE93]
 replace S := dR S hE93 (by omega)
 replace Z := dR Z hE93 (by omega)
 replace F := dO F hE93
 replace hw8 := tR hw8 hE93 (by omega)
 clear hE93
 obtain ⟨cZ_0, cZ_1, cZ_2, cZ_3, cZ_4, cZ_5, cZ_6, cZ_7⟩ := Z.out.c8
 have cF_0 : wd92.cell? ⟨w.heap.size + 1 + 1, 0, none⟩ = some (.slice none 0 0) := F.out.cell 0
 have cF_1 : wd92.cell? ⟨w.heap.size + 1 + 1, 1, none⟩ = some (.int .i64 0) := F.out.cell 1
 exact bodyPost_ret (v := .tuple #[.agg #[.int .i64 0, .bool false, .int .i64 0, .string ⟨#[]⟩, .int .i64 0, .slice none 0 0, .slice none 0 0, .slice none 0 0], .agg #[.slice none 0 0, .int .i64 0], .int .i64 (validE ts)]) (by simp [results, Tryd.results18, go_sem, cZ_0, cZ_1, cZ_2, cZ_3, cZ_4, cZ_5, cZ_6, cZ_7, cF_0, cF_1]) rfl ((by rw [HR.out]; exact ⟨hw8, rfl⟩))
end Go.Proofs.YtccmmibkihbobaaDoor

/- What the maker's value leaves, kind 6. No condition. -/
import Derived.Test.YtgeapglanckjpaaValueB
set_option maxHeartbeats 3200000
namespace Go.Proofs.Ytgeapglanckjpaa
open Go.ChangeShapes Go.WideShapes Go.ChangeAt Go.RowKit
theorem idxF_nodup : ∀ (l : List Int) (k j : Nat) (hj : j < l.length), l.Nodup → idxF l l[j] k = some (k + j)
 | [], _, j, hj, _ => absurd hj (Nat.not_lt_zero _)
 | a :: r, k, 0, _, _ => by rw [List.getElem_cons_zero, idxF_cons, if_pos rfl, Nat.add_zero]
 | a :: r, k, j + 1, hj, h => by
  rw [List.getElem_cons_succ, idxF_cons]
  have h1 := List.nodup_cons.1 h
  rw [if_neg (fun e => h1.1 (by rw [e]; exact List.getElem_mem _)), idxF_nodup r (k + 1) j _ h1.2]
  congr 1; omega
theorem memIdx_nodup (x : Typ) (h : (x.mems.map Mem.id).Nodup) (k : Nat) (hk : k < x.mems.length) : memIdx x x.mems[k].id = some k := by
 have := idxF_nodup (x.mems.map Mem.id) 0 k (by simpa using hk) h
 rw [List.getElem_map] at this
 rw [memIdx, this, Nat.zero_add]
theorem raw_row {w : World} {g : Nat} {T : TypeId} {S : Nat → Prop} {n : Int} {s : List UInt8} (hN : Has w g T #[.int .i64 n, .string ⟨s.toArray⟩]) (hg : S g) : RdP w S 2 (.slice (some ⟨g, 0, none⟩) 1 1) 1 (rawsV [(n, s)]) :=
 ⟨rfl, _, _, rfl, Nat.le_refl _, .inr ⟨g, 0, rfl, hg, fun j u hu => by
  have := hN.cell j
  rw [show 0 + j = j by omega, this]
  simpa [rawsV, rawV] using hu⟩⟩
theorem hold6 {w : World} {S : Nat → Prop} (k : Int) (id : Int) (rs : List Raw) (v : Value) (hk : I64 k) (hid : I64 id) (hl : rs.length ≤ 140737488351232) (hr : ∀ r ∈ rs, RawIn r) (h : RdP w S 2 v rs.length (rawsV rs)) : ValP w S (.mk k false 0 [] id [] [] rs) (.slice none 0 0) (.slice none 0 0) v :=
 ⟨⟨hk, by simp [Val.num, I64], hid⟩, by simp [Val.str], ⟨by simp [Val.keys], by simp [Val.items], by simpa [Val.rest] using hl⟩, hr,
  ⟨fun _ => [], ⟨none, 0, rfl, Nat.le_refl _, .inl rfl⟩, fun i h => by simp [Val.keys] at h⟩, ⟨fun _ => [], ⟨none, 0, rfl, Nat.le_refl _, .inl rfl⟩, fun i h => by simp [Val.items] at h⟩, h⟩
def MemIH (B gm : Nat) (vt : Value) (odd : Bool) (ts : List Typ) (ms : List Mem) (n : Nat) : Prop := ∀ m ∈ ms, ∀ (l : List UInt8) (w : World), l.length ≤ n → MkAt w B gm vt odd l → RdTyps w B vt ts →
  Calls Try.prog 40 #[.pointer (some ⟨gm, 0, none⟩), .int .i64 m.ty] w (MadePost w B gm vt odd l fun x => fitV ts (!odd) x m.ty = true)
theorem MadeIH.mem {B gm : Nat} {vt : Value} {odd : Bool} {ts : List Typ} {n i : Nat} (hi : i < ts.length) (hk : ¬ 7 ≤ ts[i].kind) (h : MadeIH B gm vt odd ts (7 * n + rankT ts i)) (hd : ∀ m ∈ ts[i].mems, Down ts i m.ty) : MemIH B gm vt odd ts ts[i].mems n := by
 intro m hm l W hl h1 h2
 obtain ⟨j, he, hj, hji⟩ := hd m hm
 refine h.as j hj _ he l W ?_ h1 h2
 rw [rank_solid ts i hi hk]
 rcases hji with hji | hji
 ·
  have : rankT ts j ≤ j + 1 := by
   unfold rankT
   rw [List.getElem?_eq_getElem hj]
   show (if 7 ≤ ts[j].kind then 0 else j + 1) ≤ _
   split <;> omega
  omega
 rw [rank_hollow ts j hj hji]; omega
set_option maxRecDepth 100000 in
theorem value6_any (B gm : Nat) (A : Option Addr) (c : Nat) (odd : Bool) (l : List UInt8) (ts : List Typ) (i : Nat) (hi : i < ts.length) (w : World) (hk : ts[i].kind = 6) (hml : 1 ≤ ts[i].mems.length ∧ ts[i].mems.length ≤ 12) (hid : ∀ m ∈ ts[i].mems, 1 ≤ m.id ∧ m.id ≤ 12) (hnd : (ts[i].mems.map Mem.id).Nodup) (hu : ∀ n : Nat, 15 ≤ n → usedB ts[i] n = false)
  (him : MemIH B gm (.slice A ts.length c) odd ts ts[i].mems l.length) (hM : MkAt w B gm (.slice A ts.length c) odd l) (hT : RdTyps w B (.slice A ts.length c) ts) :
  Calls Try.prog 40 #[.pointer (some ⟨gm, 0, none⟩), .int .i64 i] w (MadePost w B gm (.slice A ts.length c) odd l fun x => fitV ts (!odd) x i = true) := by
 have HU := Lib.hid hu
 have HIM := Lib.hid him
 have HND := Lib.hid hnd
 have HID := Lib.hid hid
 clear hu him hnd hid
 have hgw := hM.here
 have hBg := hM.le
 obtain ⟨b, o, rfl, hb, hcs⟩ := hT.elem (by omega)
 obtain ⟨vs, vm, ⟨y0, y1, y2, y3, y4, y5, y6, y7, y8, y9⟩, hty⟩ := hcs i hi
 obtain ⟨C1, m1, C2, m2, rfl, rfl, -, -⟩ := hty.forms
 have hi1 : (i : Int) < ts.length := by omega
 have hi0 : (0 : Int) ≤ (i : Int) := by omega
 rw [hk] at y0
 have HM := Lib.hid hM
 have HTY := Lib.hid hty
 have HT := Lib.hid hT
 clear hcs hty hT
 obtain ⟨⟨A1, c1, M, _⟩, _, _⟩ := hM
 replace M := Lib.hid M
 have cM_0 : w.cell? ⟨gm, 0, none⟩ = some (.slice (some ⟨b, o, none⟩) ts.length c) := M.out.cell 0
 have cM_1 : w.cell? ⟨gm, 1, none⟩ = some (.slice A1 l.length c1) := M.out.cell 1
 have cM_2 : w.cell? ⟨gm, 2, none⟩ = some (.bool odd) := M.out.cell 2
 go_enter Try.func40, Try.ntmps40
 go_upto_region 1 with fail
 clear cM_0 cM_1 cM_2
 obtain ⟨wd765, hE766⟩ : ∃ ww, ww = w.alloc (.cells #[.int .i64 0, .bool false, .int .i64 0, .string ⟨#[]⟩, .int .i64 0, .slice none 0 0, .slice none 0 0, .slice none 0 0] 34) := ⟨_, rfl⟩
 rw [← hE766]
 have hb764 := aB hE766
 have R := aN hE766
 clear hE766
 replace M := dB M hb764
 have hw767 := hb764
 clear hb764
 have hbl : b < w.heap.size := by omega
 have z0 := ((hw767).cell (p := ⟨b, o + i * 10, none⟩) hbl).trans y0
 have z1 := ((hw767).cell (p := ⟨b, o + i * 10 + 1, none⟩) hbl).trans y1
 have z2 := ((hw767).cell (p := ⟨b, o + i * 10 + 2, none⟩) hbl).trans y2
 have z3 := ((hw767).cell (p := ⟨b, o + i * 10 + 3, none⟩) hbl).trans y3
 have z4 := ((hw767).cell (p := ⟨b, o + i * 10 + 4, none⟩) hbl).trans y4
 have z5 := ((hw767).cell (p := ⟨b, o + i * 10 + 5, none⟩) hbl).trans y5
 have z6 := ((hw767).cell (p := ⟨b, o + i * 10 + 6, none⟩) hbl).trans y6
 have z7 := ((hw767).cell (p := ⟨b, o + i * 10 + 7, none⟩) hbl).trans y7
 have z8 := ((hw767).cell (p := ⟨b, o + i * 10 + 8, none⟩) hbl).trans y8
 have z9 := ((hw767).cell (p := ⟨b, o + i * 10 + 9, none⟩) hbl).trans y9
 have cM_0 : wd765.cell? ⟨gm, 0, none⟩ = some (.slice (some ⟨b, o, none⟩) ts.length c) := M.out.cell 0
 have cM_1 : wd765.cell? ⟨gm, 1, none⟩ = some (.slice A1 l.length c1) := M.out.cell 1
 have cM_2 : wd765.cell? ⟨gm, 2, none⟩ = some (.bool odd) := M.out.cell 2
 go_upto_region 2 with fail
 clear cM_0 cM_1 cM_2
 obtain ⟨wd769, hE770⟩ : ∃ ww, ww = wd765.alloc (.cells #[.int .i64 6, .string ⟨ts[i].name.toArray⟩, .int .i64 ts[i].low, .int .i64 ts[i].high, .int .i64 ts[i].max, .slice C1 ts[i].syms.length m1, .slice C2 ts[i].mems.length m2, .int .i64 ts[i].key, .int .i64 ts[i].elem, .bool ts[i].opn] 64) := ⟨_, rfl⟩
 rw [← hE770]
 have hb768 := aB hE770
 have X := aN hE770
 clear hE770
 have hl772 := M.out.here
 have hl773 := R.out.here
 have hl774 := hw767.size
 replace M := dB M hb768
 replace R := dB R hb768
 replace hw767 := dT hw767 hb768
 clear hb768
 generalize wd765.heap.size = g771 at *
 clear y0 y1 y2 y3 y4 y5 y6 y7 y8 y9 z0 z1 z2 z3 z4 z5 z6 z7 z8 z9
 have cX_0 : wd769.cell? ⟨g771, 0, none⟩ = some (.int .i64 6) := X.out.cell 0
 go_upto_region 3 with fail
 clear cX_0
 obtain ⟨wd776, hE777⟩ : ∃ ww, ww = wd769.alloc (.cells #[.int .i64 6, .bool false, .int .i64 0, .string ⟨#[]⟩, .int .i64 0, .slice none 0 0, .slice none 0 0, .slice none 0 0] 34) := ⟨_, rfl⟩
 rw [← hE777]
 have hb775 := aB hE777
 have V := aN hE777
 clear hE777
 have hl779 := M.out.here
 have hl780 := R.out.here
 have hl781 := X.out.here
 have hl782 := hw767.size
 replace M := dB M hb775
 replace R := dB R hb775
 replace X := dB X hb775
 replace hw767 := dT hw767 hb775
 clear hb775
 generalize wd769.heap.size = g778 at *
 have cX_0 : wd776.cell? ⟨g771, 0, none⟩ = some (.int .i64 6) := X.out.cell 0
 clear M
 have hTK := Took.below (Took.refl HM.out) (hw767)
 have TK := Lib.hid (hTK)
 clear HM hTK
 obtain ⟨b2, o2, rfl, hb2, hmc⟩ := HTY.out.mems.elem (by omega)
 have HMC := Lib.hid hmc
 clear hmc
 have cX_9 : wd776.cell? ⟨g771, 9, none⟩ = some (.bool ts[i].opn) := X.out.cell 9
 cases hop : ts[i].opn with
 | false =>
  rw [hop] at cX_9
  go_upto_region 30 with fail
  have cX_6 : wd776.cell? ⟨g771, 6, none⟩ = some (.slice (some ⟨b2, o2, none⟩) ts[i].mems.length m2) := X.out.cell 6
  refine wp_region_held_drew (S := (fun w' => w'.cell? ⟨g771, 6, none⟩ = some (.slice (some ⟨b2, o2, none⟩) ts[i].mems.length m2) ∧ (∀ (b o : Nat), b < B → w'.cell? ⟨b, o, none⟩ = w.cell? ⟨b, o, none⟩))) (by kernel_rfl) ⟨cX_6, (fun b o hlt => TK.out.low (p := ⟨b, o, none⟩) hlt)⟩ (fun hHeld => ?_)
  clear cX_0 cX_9 cX_6
  have hb783 : Below wd776.heap.size wd776 (wd776.drew) := (Below.refl _ _).drew
  replace R := dB R hb783
  replace X := dB X hb783
  replace V := dB V hb783
  replace TK := Lib.hid (TK.out.below hb783)
  clear hb783
  generalize wd776.drew = wd784 at *
  refine tk (i := 0) (v := ?k785) ?_
  simp only [put_laws2]
  refine tk (i := 1) (v := ?k786) ?_
  simp only [put_laws2]
  refine tk (i := 2) (v := ?k787) ?_
  simp only [put_laws2]
  refine tk (i := 3) (v := ?k788) ?_
  simp only [put_laws2]
  refine tk (i := 4) (v := ?k789) ?_
  simp only [put_laws2]
  refine tk (i := 5) (v := ?k790) ?_
  simp only [put_laws2]
  refine wpAnyH_ready (rs := [6, 9]) (by kernel_rfl) (by simp) ?_
  refine AllReadyH.cons rfl (fun K hK => ?_) (AllReadyH.cons rfl (fun K hK => ?_) (AllReadyH.nil))
  ·
   skip
   go_simp
   ((with_reducible refine (next_any B gm (.slice (some ⟨b, o, none⟩) ts.length c) odd l ts[i].mems.length ts[i].mems.length _ rfl (by omega) (by omega) TK.out.at_).mono ?_); rintro e wd791 ⟨k, l', hk2, hk0, hkl, rfl, hT⟩)
   have hTl := hT.len
   clear hk0 hkl
   replace R := Lib.hid (R.out.gr hT.gr (show w.heap.size ≠ gm by omega))
   replace X := Lib.hid (X.out.gr hT.gr (show g771 ≠ gm by omega))
   replace V := Lib.hid (V.out.gr hT.gr (show g778 ≠ gm by omega))
   replace TK := Lib.hid (TK.out.trans hT)
   clear hT
   have hk1 : (k : Int) < ts[i].mems.length := by omega
   obtain ⟨dk, di, dr, hc13, hma⟩ := HMC.out k hk2
   obtain ⟨c0, c1', c2, c3, c4, c5, c6, c7, c8, c9, c10, c11, c12⟩ := hc13
   obtain ⟨D1, f1, D2, f2, D3, f3, rfl, rfl, rfl, -, -, -⟩ := hma.dflt.forms
   have HMI := Lib.hid hma.ints
   have hmi := memIdx_nodup ts[i] HND.out k hk2
   have hmg := List.getElem?_eq_getElem hk2
   have hmm := List.getElem_mem hk2
   have hic := HIM.out _ hmm
   have hid1 := HID.out _ hmm
   generalize ts[i].mems[k] = y at *
   have HMX := Lib.hid hmi
   have HMG := Lib.hid hmg
   have HIC := Lib.hid hic
   have HID1 := Lib.hid hid1
   clear hma hmi hmg hmm hic hid1
   try clear hHeld
   refine hK.out _ _ (⟨X.out.cell 6, (fun b o hlt => TK.out.low (p := ⟨b, o, none⟩) hlt)⟩) (fun hHeld => ?_)
   clear hK K
   refine tk (i := 7) (v := ?k793) ?_
   simp only [put_laws2]
   refine tk (i := 8) (v := ?k794) ?_
   simp only [put_laws2]
   refine rd1 (i := 9) (fun K hK => ?_)
   go_simp
   obtain ⟨wd796, hE797⟩ : ∃ ww, ww = wd791.alloc (.cells #[.int .i64 0, .string ⟨#[]⟩, .int .i64 0, .bool false, .bool false, .int .i64 0, .bool false, .int .i64 0, .string ⟨#[]⟩, .int .i64 0, .slice none 0 0, .slice none 0 0, .slice none 0 0] 66) := ⟨_, rfl⟩
   rw [← hE797]
   have hb795 := aB hE797
   have A := aN hE797
   clear hE797
   have hl799 := R.out.here
   have hl800 := X.out.here
   have hl801 := V.out.here
   have hl802 := TK.out.gr.size
   replace R := dB R hb795
   replace X := dB X hb795
   replace V := dB V hb795
   replace TK := Lib.hid (TK.out.below hb795)
   clear hb795
   generalize wd791.heap.size = g798 at *
   try clear hHeld
   refine hK.out _ _ (⟨X.out.cell 6, (fun b o hlt => TK.out.low (p := ⟨b, o, none⟩) hlt)⟩) (fun hHeld => ?_)
   clear hK K
   refine rd1 (i := 10) (fun K hK => ?_)
   refine step_store_row (by rfl) 66 _ _ (by rfl) (g798) #[.int .i64 y.id, .string ⟨y.name.toArray⟩, .int .i64 y.ty, .bool y.crit, .bool y.hasDef, .int .i64 y.dflt.kind, .bool y.dflt.bool, .int .i64 y.dflt.num, .string ⟨y.dflt.str.toArray⟩, .int .i64 y.dflt.id, .slice D1 y.dflt.keys.length f1, .slice D2 y.dflt.items.length f2, .slice D3 y.dflt.rest.length f3] (by rfl) (by rfl) 66 _ A.out (by kernel_rfl) rfl (by simp [Value.oneCell']) ?_
   obtain ⟨wd803, hE804⟩ : ∃ ww, ww = wd796.setRow (g798) #[.int .i64 y.id, .string ⟨y.name.toArray⟩, .int .i64 y.ty, .bool y.crit, .bool y.hasDef, .int .i64 y.dflt.kind, .bool y.dflt.bool, .int .i64 y.dflt.num, .string ⟨y.dflt.str.toArray⟩, .int .i64 y.dflt.id, .slice D1 y.dflt.keys.length f1, .slice D2 y.dflt.items.length f2, .slice D3 y.dflt.rest.length f3] := ⟨_, rfl⟩
   rw [← hE804]
   replace R := dR R hE804 (by omega)
   replace X := dR X hE804 (by omega)
   replace V := dR V hE804 (by omega)
   replace A := dO A hE804
   replace TK := Lib.hid (TK.out.belowL (hE804 ▸ below_rowL (g798) wd796 #[.int .i64 y.id, .string ⟨y.name.toArray⟩, .int .i64 y.ty, .bool y.crit, .bool y.hasDef, .int .i64 y.dflt.kind, .bool y.dflt.bool, .int .i64 y.dflt.num, .string ⟨y.dflt.str.toArray⟩, .int .i64 y.dflt.id, .slice D1 y.dflt.keys.length f1, .slice D2 y.dflt.items.length f2, .slice D3 y.dflt.rest.length f3]) (show w.heap.size ≤ g798 by omega))
   clear hE804
   try clear hHeld
   refine hK.out _ _ (⟨X.out.cell 6, (fun b o hlt => TK.out.low (p := ⟨b, o, none⟩) hlt)⟩) (fun hHeld => ?_)
   clear hK K
   refine wpAnyH_done (by kernel_rfl) ?_ _
   try clear hHeld
   clear c0 c1' c2 c3 c4 c5 c6 c7 c8 c9 c10 c11 c12
   have cA_0 : wd803.cell? ⟨g798, 0, none⟩ = some (.int .i64 y.id) := A.out.cell 0
   have cA_2 : wd803.cell? ⟨g798, 2, none⟩ = some (.int .i64 y.ty) := A.out.cell 2
   have cV_4 : wd803.cell? ⟨g778, 4, none⟩ = some (.int .i64 0) := V.out.cell 4
   have fV_4 := V.out.free 4
   go_upto_region 32 with fail
   clear cA_0 cA_2 cV_4 fV_4
   obtain ⟨wd805, hE806⟩ : ∃ ww, ww = wd803.setCell ⟨g778, 4, none⟩ (.int .i64 y.id) := ⟨_, rfl⟩
   rw [← hE806]
   replace R := dF R hE806 (by omega)
   replace X := dF X hE806 (by omega)
   replace A := dF A hE806 (by omega)
   replace V : Hid (Has wd805 (g778) 34 #[.int .i64 6, .bool false, .int .i64 0, .string ⟨#[]⟩, .int .i64 y.id, .slice none 0 0, .slice none 0 0, .slice none 0 0]) := Lib.hid (by simpa using dS V hE806)
   replace TK := Lib.hid (TK.out.belowL (hE806 ▸ below_set (Below.refl (g778) wd803) (Nat.le_refl _) 4 (.int .i64 y.id)) (show w.heap.size ≤ g778 by omega))
   clear hE806
   have cA_2 : wd805.cell? ⟨g798, 2, none⟩ = some (.int .i64 y.ty) := A.out.cell 2
   go_wp2_with fail
   have hty : y.ty = y.ty := rfl
   obtain ⟨L0, hL0⟩ : ∃ L, L = wd805.heap.size := ⟨_, rfl⟩
   skip
   have hLX0 : g771 < L0 := hL0 ▸ X.out.here
   have hLV0 : g778 < L0 := hL0 ▸ V.out.here
   have hLR0 : w.heap.size < L0 := hL0 ▸ R.out.here
   have hLg0 : gm < L0 := by have := R.out.here; omega
   clear cA_2
   ((with_reducible refine (HIC.out l' _ (by omega) TK.out.at_ (HT.out.keep (fun p hp => TK.out.low hp) (Nat.le_refl _))).mono ?_); rintro e wd807 ⟨y0, yk0, yi0, yr0, l20, rfl, hyp0, hyF0, hT⟩)
   rw [← hL0] at hyp0
   have hTL0 := hT.len
   replace R := Lib.hid (R.out.gr hT.gr (show w.heap.size ≠ gm by omega))
   replace X := Lib.hid (X.out.gr hT.gr (show g771 ≠ gm by omega))
   replace V := Lib.hid (V.out.gr hT.gr (show g778 ≠ gm by omega))
   replace A := Lib.hid (A.out.gr hT.gr (show g798 ≠ gm by omega))
   replace TK := Lib.hid (TK.out.trans hT)
   clear hT
   obtain ⟨Y10, z10, Y20, z20, Y30, z30, rfl, rfl, rfl, -, -, -⟩ := hyp0.forms
   have hyk0 := hyp0.keptB (w0 := w) (B := B) (L := L0) (fun _ h => .inr h) TK.out.lowh
   have HYF0 := Lib.hid hyF0
   have Y0 := Lib.hid (hyk0)
   clear hyp0 hyk0 hL0 hyF0
   have aV6 : ∀ ob, (wd807.alloc ob).cell? ⟨g778, 6, none⟩ = some (.slice none 0 0) := fun ob => (V.out.alloc ob).cell 6
   have bV6 : ∀ ob, (wd807.alloc ob).frozen? ⟨g778, 6, none⟩ = false := fun ob => (V.out.alloc ob).free 6
   go_upto_region 44 with fail
   clear aV6 bV6
   obtain ⟨wd810, hE811⟩ : ∃ ww, ww = wd807.alloc (.cells #[.int .i64 y0.kind, .bool y0.bool, .int .i64 y0.num, .string ⟨y0.str.toArray⟩, .int .i64 y0.id, .slice Y10 y0.keys.length z10, .slice Y20 y0.items.length z20, .slice Y30 y0.rest.length z30] 34) := ⟨_, rfl⟩
   rw [← hE811]
   have hb809 := aB hE811
   have N := aN hE811
   clear hE811
   have hl813 := R.out.here
   have hl814 := X.out.here
   have hl815 := V.out.here
   have hl816 := A.out.here
   have hl817 := Y0.out.le
   have hl818 := TK.out.gr.size
   replace R := dB R hb809
   replace X := dB X hb809
   replace V := dB V hb809
   replace A := dB A hb809
   replace Y0 := dK Y0 hb809
   replace TK := Lib.hid (TK.out.below hb809)
   clear hb809
   generalize wd807.heap.size = g812 at *
   obtain ⟨wd819, hE820⟩ : ∃ ww, ww = wd810.setCell ⟨g778, 6, none⟩ (.slice (some ⟨g812, 0, none⟩) 1 1) := ⟨_, rfl⟩
   rw [← hE820]
   replace R := dF R hE820 (by omega)
   replace X := dF X hE820 (by omega)
   replace A := dF A hE820 (by omega)
   replace N := dF N hE820 (by omega)
   replace V : Hid (Has wd819 (g778) 34 #[.int .i64 6, .bool false, .int .i64 0, .string ⟨#[]⟩, .int .i64 y.id, .slice none 0 0, .slice (some ⟨g812, 0, none⟩) 1 1, .slice none 0 0]) := Lib.hid (by simpa using dS V hE820)
   replace Y0 := kF Y0 hE820 (by omega)
   replace TK := Lib.hid (TK.out.belowL (hE820 ▸ below_set (Below.refl (g778) wd810) (Nat.le_refl _) 6 (.slice (some ⟨g812, 0, none⟩) 1 1)) (show w.heap.size ≤ g778 by omega))
   clear hE820
   obtain ⟨cV_0, cV_1, cV_2, cV_3, cV_4, cV_5, cV_6, cV_7⟩ := V.out.c8
   go_wp2_with (refine wpList_store_row rfl 34 _ _ rfl (w.heap.size) _ rfl rfl 34 _ R.out (by kernel_rfl) rfl (by simp [Value.oneCell']) ?_)
   clear cV_0 cV_1 cV_2 cV_3 cV_4 cV_5 cV_6 cV_7
   obtain ⟨wd821, hE822⟩ : ∃ ww, ww = wd819.setRow (w.heap.size) #[.int .i64 6, .bool false, .int .i64 0, .string ⟨#[]⟩, .int .i64 y.id, .slice none 0 0, .slice (some ⟨g812, 0, none⟩) 1 1, .slice none 0 0] := ⟨_, rfl⟩
   rw [← hE822]
   replace X := dR X hE822 (by omega)
   replace V := dR V hE822 (by omega)
   replace A := dR A hE822 (by omega)
   replace N := dR N hE822 (by omega)
   replace R := dO R hE822
   replace Y0 := kR Y0 hE822 (by omega)
   replace TK := Lib.hid (TK.out.belowL (hE822 ▸ below_rowL (w.heap.size) wd819 #[.int .i64 6, .bool false, .int .i64 0, .string ⟨#[]⟩, .int .i64 y.id, .slice none 0 0, .slice (some ⟨g812, 0, none⟩) 1 1, .slice none 0 0]) (show w.heap.size ≤ w.heap.size by omega))
   clear hE822
   have hy := Y0.out.now TK.out.lowh
   have hgN := N.out.here
   obtain ⟨cR_0, cR_1, cR_2, cR_3, cR_4, cR_5, cR_6, cR_7⟩ := R.out.c8
   exact bodyPost_ret (v := .agg #[.int .i64 6, .bool false, .int .i64 0, .string ⟨#[]⟩, .int .i64 y.id, .slice none 0 0, .slice (some ⟨g812, 0, none⟩) 1 1, .slice none 0 0]) (by simp [results, Try.results40, go_sem, cR_0, cR_1, cR_2, cR_3, cR_4, cR_5, cR_6, cR_7]) rfl (⟨.mk 6 false 0 [] y.id [] [y0] [], .slice none 0 0, .slice (some ⟨g812, 0, none⟩) 1 1, .slice none 0 0, l20, rfl, hold9 _ _ _ _ (by simp [I64]) HMI.out.1 (by simp) (one_row N.out (hy.keep (fun _ _ => rfl) (fun q hq => by omega)) (by omega)), (by show fitV ts (!odd) _ _ = true; rw [fitV_eq, typAt_get ts i hi]; simp [hk, HMX.out, HMG.out, properB, bodyR, fitH, HYF0.out, Val.kind, Val.bool, Val.num, Val.str, Val.id, Val.keys, Val.items, Val.rest]), TK.out⟩)
  skip
  go_simp
  obtain ⟨wd824, hE825⟩ : ∃ ww, ww = wd784.alloc (.cells #[.int .i64 0, .string ⟨#[]⟩, .int .i64 0, .bool false, .bool false, .int .i64 0, .bool false, .int .i64 0, .string ⟨#[]⟩, .int .i64 0, .slice none 0 0, .slice none 0 0, .slice none 0 0] 66) := ⟨_, rfl⟩
  rw [← hE825]
  have hb823 := aB hE825
  have A := aN hE825
  clear hE825
  have hl827 := R.out.here
  have hl828 := X.out.here
  have hl829 := V.out.here
  have hl830 := TK.out.gr.size
  replace R := dB R hb823
  replace X := dB X hb823
  replace V := dB V hb823
  replace TK := Lib.hid (TK.out.below hb823)
  clear hb823
  generalize wd784.heap.size = g826 at *
  try clear hHeld
  refine hK.out _ _ (⟨X.out.cell 6, (fun b o hlt => TK.out.low (p := ⟨b, o, none⟩) hlt)⟩) (fun hHeld => ?_)
  clear hK K
  refine rd1 (i := 6) (fun K hK => ?_)
  go_simp
  ((with_reducible refine (next_any B gm (.slice (some ⟨b, o, none⟩) ts.length c) odd l ts[i].mems.length ts[i].mems.length _ rfl (by omega) (by omega) TK.out.at_).mono ?_); rintro e wd831 ⟨k, l', hk2, hk0, hkl, rfl, hT⟩)
  have hTl := hT.len
  clear hk0 hkl
  replace R := Lib.hid (R.out.gr hT.gr (show w.heap.size ≠ gm by omega))
  replace X := Lib.hid (X.out.gr hT.gr (show g771 ≠ gm by omega))
  replace V := Lib.hid (V.out.gr hT.gr (show g778 ≠ gm by omega))
  replace A := Lib.hid (A.out.gr hT.gr (show g826 ≠ gm by omega))
  replace TK := Lib.hid (TK.out.trans hT)
  clear hT
  have hk1 : (k : Int) < ts[i].mems.length := by omega
  obtain ⟨dk, di, dr, hc13, hma⟩ := HMC.out k hk2
  obtain ⟨c0, c1', c2, c3, c4, c5, c6, c7, c8, c9, c10, c11, c12⟩ := hc13
  obtain ⟨D1, f1, D2, f2, D3, f3, rfl, rfl, rfl, -, -, -⟩ := hma.dflt.forms
  have HMI := Lib.hid hma.ints
  have hmi := memIdx_nodup ts[i] HND.out k hk2
  have hmg := List.getElem?_eq_getElem hk2
  have hmm := List.getElem_mem hk2
  have hic := HIM.out _ hmm
  have hid1 := HID.out _ hmm
  generalize ts[i].mems[k] = y at *
  have HMX := Lib.hid hmi
  have HMG := Lib.hid hmg
  have HIC := Lib.hid hic
  have HID1 := Lib.hid hid1
  clear hma hmi hmg hmm hic hid1
  try clear hHeld
  refine hK.out _ _ (⟨X.out.cell 6, (fun b o hlt => TK.out.low (p := ⟨b, o, none⟩) hlt)⟩) (fun hHeld => ?_)
  clear hK K
  refine tk (i := 7) (v := ?k833) ?_
  simp only [put_laws2]
  refine tk (i := 8) (v := ?k834) ?_
  simp only [put_laws2]
  refine rd1 (i := 10) (fun K hK => ?_)
  refine step_store_row (by rfl) 66 _ _ (by rfl) (g826) #[.int .i64 y.id, .string ⟨y.name.toArray⟩, .int .i64 y.ty, .bool y.crit, .bool y.hasDef, .int .i64 y.dflt.kind, .bool y.dflt.bool, .int .i64 y.dflt.num, .string ⟨y.dflt.str.toArray⟩, .int .i64 y.dflt.id, .slice D1 y.dflt.keys.length f1, .slice D2 y.dflt.items.length f2, .slice D3 y.dflt.rest.length f3] (by rfl) (by rfl) 66 _ A.out (by kernel_rfl) rfl (by simp [Value.oneCell']) ?_
  obtain ⟨wd835, hE836⟩ : ∃ ww, ww = wd831.setRow (g826) #[.int .i64 y.id, .string ⟨y.name.toArray⟩, .int .i64 y.ty, .bool y.crit, .bool y.hasDef, .int .i64 y.dflt.kind, .bool y.dflt.bool, .int .i64 y.dflt.num, .string ⟨y.dflt.str.toArray⟩, .int .i64 y.dflt.id, .slice D1 y.dflt.keys.length f1, .slice D2 y.dflt.items.length f2, .slice D3 y.dflt.rest.length f3] := ⟨_, rfl⟩
  rw [← hE836]
  replace R := dR R hE836 (by omega)
  replace X := dR X hE836 (by omega)
  replace V := dR V hE836 (by omega)
  replace A := dO A hE836
  replace TK := Lib.hid (TK.out.belowL (hE836 ▸ below_rowL (g826) wd831 #[.int .i64 y.id, .string ⟨y.name.toArray⟩, .int .i64 y.ty, .bool y.crit, .bool y.hasDef, .int .i64 y.dflt.kind, .bool y.dflt.bool, .int .i64 y.dflt.num, .string ⟨y.dflt.str.toArray⟩, .int .i64 y.dflt.id, .slice D1 y.dflt.keys.length f1, .slice D2 y.dflt.items.length f2, .slice D3 y.dflt.rest.length f3]) (show w.heap.size ≤ g826 by omega))
  clear hE836
  try clear hHeld
  refine hK.out _ _ (⟨X.out.cell 6, (fun b o hlt => TK.out.low (p := ⟨b, o, none⟩) hlt)⟩) (fun hHeld => ?_)
  clear hK K
  refine wpAnyH_done (by kernel_rfl) ?_ _
  try clear hHeld
  clear c0 c1' c2 c3 c4 c5 c6 c7 c8 c9 c10 c11 c12
  have cA_0 : wd835.cell? ⟨g826, 0, none⟩ = some (.int .i64 y.id) := A.out.cell 0
  have cA_2 : wd835.cell? ⟨g826, 2, none⟩ = some (.int .i64 y.ty) := A.out.cell 2
  have cV_4 : wd835.cell? ⟨g778, 4, none⟩ = some (.int .i64 0) := V.out.cell 4
  have fV_4 := V.out.free 4
  go_upto_region 32 with fail
  clear cA_0 cA_2 cV_4 fV_4
  obtain ⟨wd837, hE838⟩ : ∃ ww, ww = wd835.setCell ⟨g778, 4, none⟩ (.int .i64 y.id) := ⟨_, rfl⟩
  rw [← hE838]
  replace R := dF R hE838 (by omega)
  replace X := dF X hE838 (by omega)
  replace A := dF A hE838 (by omega)
  replace V : Hid (Has wd837 (g778) 34 #[.int .i64 6, .bool false, .int .i64 0, .string ⟨#[]⟩, .int .i64 y.id, .slice none 0 0, .slice none 0 0, .slice none 0 0]) := Lib.hid (by simpa using dS V hE838)
  replace TK := Lib.hid (TK.out.belowL (hE838 ▸ below_set (Below.refl (g778) wd835) (Nat.le_refl _) 4 (.int .i64 y.id)) (show w.heap.size ≤ g778 by omega))
  clear hE838
  have cA_2 : wd837.cell? ⟨g826, 2, none⟩ = some (.int .i64 y.ty) := A.out.cell 2
  go_wp2_with fail
  have hty : y.ty = y.ty := rfl
  obtain ⟨L0, hL0⟩ : ∃ L, L = wd837.heap.size := ⟨_, rfl⟩
  skip
  have hLX0 : g771 < L0 := hL0 ▸ X.out.here
  have hLV0 : g778 < L0 := hL0 ▸ V.out.here
  have hLR0 : w.heap.size < L0 := hL0 ▸ R.out.here
  have hLg0 : gm < L0 := by have := R.out.here; omega
  clear cA_2
  ((with_reducible refine (HIC.out l' _ (by omega) TK.out.at_ (HT.out.keep (fun p hp => TK.out.low hp) (Nat.le_refl _))).mono ?_); rintro e wd839 ⟨y0, yk0, yi0, yr0, l20, rfl, hyp0, hyF0, hT⟩)
  rw [← hL0] at hyp0
  have hTL0 := hT.len
  replace R := Lib.hid (R.out.gr hT.gr (show w.heap.size ≠ gm by omega))
  replace X := Lib.hid (X.out.gr hT.gr (show g771 ≠ gm by omega))
  replace V := Lib.hid (V.out.gr hT.gr (show g778 ≠ gm by omega))
  replace A := Lib.hid (A.out.gr hT.gr (show g826 ≠ gm by omega))
  replace TK := Lib.hid (TK.out.trans hT)
  clear hT
  obtain ⟨Y10, z10, Y20, z20, Y30, z30, rfl, rfl, rfl, -, -, -⟩ := hyp0.forms
  have hyk0 := hyp0.keptB (w0 := w) (B := B) (L := L0) (fun _ h => .inr h) TK.out.lowh
  have HYF0 := Lib.hid hyF0
  have Y0 := Lib.hid (hyk0)
  clear hyp0 hyk0 hL0 hyF0
  have aV6 : ∀ ob, (wd839.alloc ob).cell? ⟨g778, 6, none⟩ = some (.slice none 0 0) := fun ob => (V.out.alloc ob).cell 6
  have bV6 : ∀ ob, (wd839.alloc ob).frozen? ⟨g778, 6, none⟩ = false := fun ob => (V.out.alloc ob).free 6
  go_upto_region 44 with fail
  clear aV6 bV6
  obtain ⟨wd842, hE843⟩ : ∃ ww, ww = wd839.alloc (.cells #[.int .i64 y0.kind, .bool y0.bool, .int .i64 y0.num, .string ⟨y0.str.toArray⟩, .int .i64 y0.id, .slice Y10 y0.keys.length z10, .slice Y20 y0.items.length z20, .slice Y30 y0.rest.length z30] 34) := ⟨_, rfl⟩
  rw [← hE843]
  have hb841 := aB hE843
  have N := aN hE843
  clear hE843
  have hl845 := R.out.here
  have hl846 := X.out.here
  have hl847 := V.out.here
  have hl848 := A.out.here
  have hl849 := Y0.out.le
  have hl850 := TK.out.gr.size
  replace R := dB R hb841
  replace X := dB X hb841
  replace V := dB V hb841
  replace A := dB A hb841
  replace Y0 := dK Y0 hb841
  replace TK := Lib.hid (TK.out.below hb841)
  clear hb841
  generalize wd839.heap.size = g844 at *
  obtain ⟨wd851, hE852⟩ : ∃ ww, ww = wd842.setCell ⟨g778, 6, none⟩ (.slice (some ⟨g844, 0, none⟩) 1 1) := ⟨_, rfl⟩
  rw [← hE852]
  replace R := dF R hE852 (by omega)
  replace X := dF X hE852 (by omega)
  replace A := dF A hE852 (by omega)
  replace N := dF N hE852 (by omega)
  replace V : Hid (Has wd851 (g778) 34 #[.int .i64 6, .bool false, .int .i64 0, .string ⟨#[]⟩, .int .i64 y.id, .slice none 0 0, .slice (some ⟨g844, 0, none⟩) 1 1, .slice none 0 0]) := Lib.hid (by simpa using dS V hE852)
  replace Y0 := kF Y0 hE852 (by omega)
  replace TK := Lib.hid (TK.out.belowL (hE852 ▸ below_set (Below.refl (g778) wd842) (Nat.le_refl _) 6 (.slice (some ⟨g844, 0, none⟩) 1 1)) (show w.heap.size ≤ g778 by omega))
  clear hE852
  obtain ⟨cV_0, cV_1, cV_2, cV_3, cV_4, cV_5, cV_6, cV_7⟩ := V.out.c8
  go_wp2_with (refine wpList_store_row rfl 34 _ _ rfl (w.heap.size) _ rfl rfl 34 _ R.out (by kernel_rfl) rfl (by simp [Value.oneCell']) ?_)
  clear cV_0 cV_1 cV_2 cV_3 cV_4 cV_5 cV_6 cV_7
  obtain ⟨wd853, hE854⟩ : ∃ ww, ww = wd851.setRow (w.heap.size) #[.int .i64 6, .bool false, .int .i64 0, .string ⟨#[]⟩, .int .i64 y.id, .slice none 0 0, .slice (some ⟨g844, 0, none⟩) 1 1, .slice none 0 0] := ⟨_, rfl⟩
  rw [← hE854]
  replace X := dR X hE854 (by omega)
  replace V := dR V hE854 (by omega)
  replace A := dR A hE854 (by omega)
  replace N := dR N hE854 (by omega)
  replace R := dO R hE854
  replace Y0 := kR Y0 hE854 (by omega)
  replace TK := Lib.hid (TK.out.belowL (hE854 ▸ below_rowL (w.heap.size) wd851 #[.int .i64 6, .bool false, .int .i64 0, .string ⟨#[]⟩, .int .i64 y.id, .slice none 0 0, .slice (some ⟨g844, 0, none⟩) 1 1, .slice none 0 0]) (show w.heap.size ≤ w.heap.size by omega))
  clear hE854
  have hy := Y0.out.now TK.out.lowh
  have hgN := N.out.here
  obtain ⟨cR_0, cR_1, cR_2, cR_3, cR_4, cR_5, cR_6, cR_7⟩ := R.out.c8
  exact bodyPost_ret (v := .agg #[.int .i64 6, .bool false, .int .i64 0, .string ⟨#[]⟩, .int .i64 y.id, .slice none 0 0, .slice (some ⟨g844, 0, none⟩) 1 1, .slice none 0 0]) (by simp [results, Try.results40, go_sem, cR_0, cR_1, cR_2, cR_3, cR_4, cR_5, cR_6, cR_7]) rfl (⟨.mk 6 false 0 [] y.id [] [y0] [], .slice none 0 0, .slice (some ⟨g844, 0, none⟩) 1 1, .slice none 0 0, l20, rfl, hold9 _ _ _ _ (by simp [I64]) HMI.out.1 (by simp) (one_row N.out (hy.keep (fun _ _ => rfl) (fun q hq => by omega)) (by omega)), (by show fitV ts (!odd) _ _ = true; rw [fitV_eq, typAt_get ts i hi]; simp [hk, HMX.out, HMG.out, properB, bodyR, fitH, HYF0.out, Val.kind, Val.bool, Val.num, Val.str, Val.id, Val.keys, Val.items, Val.rest]), TK.out⟩)
 | true =>
  rw [hop] at cX_9
  go_wp2_with fail
  clear cX_0 cX_9
  ((with_reducible refine (odd_any B gm (.slice (some ⟨b, o, none⟩) ts.length c) odd l _ TK.out.at_).mono ?_); rintro e wd855 ⟨bo, l1, hbo, rfl, hT⟩)
  have hTl1 := hT.len
  replace R := Lib.hid (R.out.gr hT.gr (show w.heap.size ≠ gm by omega))
  replace X := Lib.hid (X.out.gr hT.gr (show g771 ≠ gm by omega))
  replace V := Lib.hid (V.out.gr hT.gr (show g778 ≠ gm by omega))
  replace TK := Lib.hid (TK.out.trans hT)
  clear hT
  cases bo with
  | false =>
   go_upto_region 30 with fail
   have cX_6 : wd855.cell? ⟨g771, 6, none⟩ = some (.slice (some ⟨b2, o2, none⟩) ts[i].mems.length m2) := X.out.cell 6
   refine wp_region_held_drew (S := (fun w' => w'.cell? ⟨g771, 6, none⟩ = some (.slice (some ⟨b2, o2, none⟩) ts[i].mems.length m2) ∧ (∀ (b o : Nat), b < B → w'.cell? ⟨b, o, none⟩ = w.cell? ⟨b, o, none⟩))) (by kernel_rfl) ⟨cX_6, (fun b o hlt => TK.out.low (p := ⟨b, o, none⟩) hlt)⟩ (fun hHeld => ?_)
   clear cX_6
   have hb857 : Below wd855.heap.size wd855 (wd855.drew) := (Below.refl _ _).drew
   replace R := dB R hb857
   replace X := dB X hb857
   replace V := dB V hb857
   replace TK := Lib.hid (TK.out.below hb857)
   clear hb857
   generalize wd855.drew = wd858 at *
   refine tk (i := 0) (v := ?k859) ?_
   simp only [put_laws2]
   refine tk (i := 1) (v := ?k860) ?_
   simp only [put_laws2]
   refine tk (i := 2) (v := ?k861) ?_
   simp only [put_laws2]
   refine tk (i := 3) (v := ?k862) ?_
   simp only [put_laws2]
   refine tk (i := 4) (v := ?k863) ?_
   simp only [put_laws2]
   refine tk (i := 5) (v := ?k864) ?_
   simp only [put_laws2]
   refine wpAnyH_ready (rs := [6, 9]) (by kernel_rfl) (by simp) ?_
   refine AllReadyH.cons rfl (fun K hK => ?_) (AllReadyH.cons rfl (fun K hK => ?_) (AllReadyH.nil))
   ·
    skip
    go_simp
    ((with_reducible refine (next_any B gm (.slice (some ⟨b, o, none⟩) ts.length c) odd l1 ts[i].mems.length ts[i].mems.length _ rfl (by omega) (by omega) TK.out.at_).mono ?_); rintro e wd865 ⟨k, l', hk2, hk0, hkl, rfl, hT⟩)
    have hTl := hT.len
    clear hk0 hkl
    replace R := Lib.hid (R.out.gr hT.gr (show w.heap.size ≠ gm by omega))
    replace X := Lib.hid (X.out.gr hT.gr (show g771 ≠ gm by omega))
    replace V := Lib.hid (V.out.gr hT.gr (show g778 ≠ gm by omega))
    replace TK := Lib.hid (TK.out.trans hT)
    clear hT
    have hk1 : (k : Int) < ts[i].mems.length := by omega
    obtain ⟨dk, di, dr, hc13, hma⟩ := HMC.out k hk2
    obtain ⟨c0, c1', c2, c3, c4, c5, c6, c7, c8, c9, c10, c11, c12⟩ := hc13
    obtain ⟨D1, f1, D2, f2, D3, f3, rfl, rfl, rfl, -, -, -⟩ := hma.dflt.forms
    have HMI := Lib.hid hma.ints
    have hmi := memIdx_nodup ts[i] HND.out k hk2
    have hmg := List.getElem?_eq_getElem hk2
    have hmm := List.getElem_mem hk2
    have hic := HIM.out _ hmm
    have hid1 := HID.out _ hmm
    generalize ts[i].mems[k] = y at *
    have HMX := Lib.hid hmi
    have HMG := Lib.hid hmg
    have HIC := Lib.hid hic
    have HID1 := Lib.hid hid1
    clear hma hmi hmg hmm hic hid1
    try clear hHeld
    refine hK.out _ _ (⟨X.out.cell 6, (fun b o hlt => TK.out.low (p := ⟨b, o, none⟩) hlt)⟩) (fun hHeld => ?_)
    clear hK K
    refine tk (i := 7) (v := ?k867) ?_
    simp only [put_laws2]
    refine tk (i := 8) (v := ?k868) ?_
    simp only [put_laws2]
    refine rd1 (i := 9) (fun K hK => ?_)
    go_simp
    obtain ⟨wd870, hE871⟩ : ∃ ww, ww = wd865.alloc (.cells #[.int .i64 0, .string ⟨#[]⟩, .int .i64 0, .bool false, .bool false, .int .i64 0, .bool false, .int .i64 0, .string ⟨#[]⟩, .int .i64 0, .slice none 0 0, .slice none 0 0, .slice none 0 0] 66) := ⟨_, rfl⟩
    rw [← hE871]
    have hb869 := aB hE871
    have A := aN hE871
    clear hE871
    have hl873 := R.out.here
    have hl874 := X.out.here
    have hl875 := V.out.here
    have hl876 := TK.out.gr.size
    replace R := dB R hb869
    replace X := dB X hb869
    replace V := dB V hb869
    replace TK := Lib.hid (TK.out.below hb869)
    clear hb869
    generalize wd865.heap.size = g872 at *
    try clear hHeld
    refine hK.out _ _ (⟨X.out.cell 6, (fun b o hlt => TK.out.low (p := ⟨b, o, none⟩) hlt)⟩) (fun hHeld => ?_)
    clear hK K
    refine rd1 (i := 10) (fun K hK => ?_)
    refine step_store_row (by rfl) 66 _ _ (by rfl) (g872) #[.int .i64 y.id, .string ⟨y.name.toArray⟩, .int .i64 y.ty, .bool y.crit, .bool y.hasDef, .int .i64 y.dflt.kind, .bool y.dflt.bool, .int .i64 y.dflt.num, .string ⟨y.dflt.str.toArray⟩, .int .i64 y.dflt.id, .slice D1 y.dflt.keys.length f1, .slice D2 y.dflt.items.length f2, .slice D3 y.dflt.rest.length f3] (by rfl) (by rfl) 66 _ A.out (by kernel_rfl) rfl (by simp [Value.oneCell']) ?_
    obtain ⟨wd877, hE878⟩ : ∃ ww, ww = wd870.setRow (g872) #[.int .i64 y.id, .string ⟨y.name.toArray⟩, .int .i64 y.ty, .bool y.crit, .bool y.hasDef, .int .i64 y.dflt.kind, .bool y.dflt.bool, .int .i64 y.dflt.num, .string ⟨y.dflt.str.toArray⟩, .int .i64 y.dflt.id, .slice D1 y.dflt.keys.length f1, .slice D2 y.dflt.items.length f2, .slice D3 y.dflt.rest.length f3] := ⟨_, rfl⟩
    rw [← hE878]
    replace R := dR R hE878 (by omega)
    replace X := dR X hE878 (by omega)
    replace V := dR V hE878 (by omega)
    replace A := dO A hE878
    replace TK := Lib.hid (TK.out.belowL (hE878 ▸ below_rowL (g872) wd870 #[.int .i64 y.id, .string ⟨y.name.toArray⟩, .int .i64 y.ty, .bool y.crit, .bool y.hasDef, .int .i64 y.dflt.kind, .bool y.dflt.bool, .int .i64 y.dflt.num, .string ⟨y.dflt.str.toArray⟩, .int .i64 y.dflt.id, .slice D1 y.dflt.keys.length f1, .slice D2 y.dflt.items.length f2, .slice D3 y.dflt.rest.length f3]) (show w.heap.size ≤ g872 by omega))
    clear hE878
    try clear hHeld
    refine hK.out _ _ (⟨X.out.cell 6, (fun b o hlt => TK.out.low (p := ⟨b, o, none⟩) hlt)⟩) (fun hHeld => ?_)
    clear hK K
    refine wpAnyH_done (by kernel_rfl) ?_ _
    try clear hHeld
    clear c0 c1' c2 c3 c4 c5 c6 c7 c8 c9 c10 c11 c12
    have cA_0 : wd877.cell? ⟨g872, 0, none⟩ = some (.int .i64 y.id) := A.out.cell 0
    have cA_2 : wd877.cell? ⟨g872, 2, none⟩ = some (.int .i64 y.ty) := A.out.cell 2
    have cV_4 : wd877.cell? ⟨g778, 4, none⟩ = some (.int .i64 0) := V.out.cell 4
    have fV_4 := V.out.free 4
    go_upto_region 32 with fail
    clear cA_0 cA_2 cV_4 fV_4
    obtain ⟨wd879, hE880⟩ : ∃ ww, ww = wd877.setCell ⟨g778, 4, none⟩ (.int .i64 y.id) := ⟨_, rfl⟩
    rw [← hE880]
    replace R := dF R hE880 (by omega)
    replace X := dF X hE880 (by omega)
    replace A := dF A hE880 (by omega)
    replace V : Hid (Has wd879 (g778) 34 #[.int .i64 6, .bool false, .int .i64 0, .string ⟨#[]⟩, .int .i64 y.id, .slice none 0 0, .slice none 0 0, .slice none 0 0]) := Lib.hid (by simpa using dS V hE880)
    replace TK := Lib.hid (TK.out.belowL (hE880 ▸ below_set (Below.refl (g778) wd877) (Nat.le_refl _) 4 (.int .i64 y.id)) (show w.heap.size ≤ g778 by omega))
    clear hE880
    have cA_2 : wd879.cell? ⟨g872, 2, none⟩ = some (.int .i64 y.ty) := A.out.cell 2
    go_wp2_with fail
    have hty : y.ty = y.ty := rfl
    obtain ⟨L0, hL0⟩ : ∃ L, L = wd879.heap.size := ⟨_, rfl⟩
    skip
    have hLX0 : g771 < L0 := hL0 ▸ X.out.here
    have hLV0 : g778 < L0 := hL0 ▸ V.out.here
    have hLR0 : w.heap.size < L0 := hL0 ▸ R.out.here
    have hLg0 : gm < L0 := by have := R.out.here; omega
    clear cA_2
    ((with_reducible refine (HIC.out l' _ (by omega) TK.out.at_ (HT.out.keep (fun p hp => TK.out.low hp) (Nat.le_refl _))).mono ?_); rintro e wd881 ⟨y0, yk0, yi0, yr0, l20, rfl, hyp0, hyF0, hT⟩)
    rw [← hL0] at hyp0
    have hTL0 := hT.len
    replace R := Lib.hid (R.out.gr hT.gr (show w.heap.size ≠ gm by omega))
    replace X := Lib.hid (X.out.gr hT.gr (show g771 ≠ gm by omega))
    replace V := Lib.hid (V.out.gr hT.gr (show g778 ≠ gm by omega))
    replace A := Lib.hid (A.out.gr hT.gr (show g872 ≠ gm by omega))
    replace TK := Lib.hid (TK.out.trans hT)
    clear hT
    obtain ⟨Y10, z10, Y20, z20, Y30, z30, rfl, rfl, rfl, -, -, -⟩ := hyp0.forms
    have hyk0 := hyp0.keptB (w0 := w) (B := B) (L := L0) (fun _ h => .inr h) TK.out.lowh
    have HYF0 := Lib.hid hyF0
    have Y0 := Lib.hid (hyk0)
    clear hyp0 hyk0 hL0 hyF0
    have aV6 : ∀ ob, (wd881.alloc ob).cell? ⟨g778, 6, none⟩ = some (.slice none 0 0) := fun ob => (V.out.alloc ob).cell 6
    have bV6 : ∀ ob, (wd881.alloc ob).frozen? ⟨g778, 6, none⟩ = false := fun ob => (V.out.alloc ob).free 6
    go_upto_region 44 with fail
    clear aV6 bV6
    obtain ⟨wd884, hE885⟩ : ∃ ww, ww = wd881.alloc (.cells #[.int .i64 y0.kind, .bool y0.bool, .int .i64 y0.num, .string ⟨y0.str.toArray⟩, .int .i64 y0.id, .slice Y10 y0.keys.length z10, .slice Y20 y0.items.length z20, .slice Y30 y0.rest.length z30] 34) := ⟨_, rfl⟩
    rw [← hE885]
    have hb883 := aB hE885
    have N := aN hE885
    clear hE885
    have hl887 := R.out.here
    have hl888 := X.out.here
    have hl889 := V.out.here
    have hl890 := A.out.here
    have hl891 := Y0.out.le
    have hl892 := TK.out.gr.size
    replace R := dB R hb883
    replace X := dB X hb883
    replace V := dB V hb883
    replace A := dB A hb883
    replace Y0 := dK Y0 hb883
    replace TK := Lib.hid (TK.out.below hb883)
    clear hb883
    generalize wd881.heap.size = g886 at *
    obtain ⟨wd893, hE894⟩ : ∃ ww, ww = wd884.setCell ⟨g778, 6, none⟩ (.slice (some ⟨g886, 0, none⟩) 1 1) := ⟨_, rfl⟩
    rw [← hE894]
    replace R := dF R hE894 (by omega)
    replace X := dF X hE894 (by omega)
    replace A := dF A hE894 (by omega)
    replace N := dF N hE894 (by omega)
    replace V : Hid (Has wd893 (g778) 34 #[.int .i64 6, .bool false, .int .i64 0, .string ⟨#[]⟩, .int .i64 y.id, .slice none 0 0, .slice (some ⟨g886, 0, none⟩) 1 1, .slice none 0 0]) := Lib.hid (by simpa using dS V hE894)
    replace Y0 := kF Y0 hE894 (by omega)
    replace TK := Lib.hid (TK.out.belowL (hE894 ▸ below_set (Below.refl (g778) wd884) (Nat.le_refl _) 6 (.slice (some ⟨g886, 0, none⟩) 1 1)) (show w.heap.size ≤ g778 by omega))
    clear hE894
    obtain ⟨cV_0, cV_1, cV_2, cV_3, cV_4, cV_5, cV_6, cV_7⟩ := V.out.c8
    go_wp2_with (refine wpList_store_row rfl 34 _ _ rfl (w.heap.size) _ rfl rfl 34 _ R.out (by kernel_rfl) rfl (by simp [Value.oneCell']) ?_)
    clear cV_0 cV_1 cV_2 cV_3 cV_4 cV_5 cV_6 cV_7
    obtain ⟨wd895, hE896⟩ : ∃ ww, ww = wd893.setRow (w.heap.size) #[.int .i64 6, .bool false, .int .i64 0, .string ⟨#[]⟩, .int .i64 y.id, .slice none 0 0, .slice (some ⟨g886, 0, none⟩) 1 1, .slice none 0 0] := ⟨_, rfl⟩
    rw [← hE896]
    replace X := dR X hE896 (by omega)
    replace V := dR V hE896 (by omega)
    replace A := dR A hE896 (by omega)
    replace N := dR N hE896 (by omega)
    replace R := dO R hE896
    replace Y0 := kR Y0 hE896 (by omega)
    replace TK := Lib.hid (TK.out.belowL (hE896 ▸ below_rowL (w.heap.size) wd893 #[.int .i64 6, .bool false, .int .i64 0, .string ⟨#[]⟩, .int .i64 y.id, .slice none 0 0, .slice (some ⟨g886, 0, none⟩) 1 1, .slice none 0 0]) (show w.heap.size ≤ w.heap.size by omega))
    clear hE896
    have hy := Y0.out.now TK.out.lowh
    have hgN := N.out.here
    obtain ⟨cR_0, cR_1, cR_2, cR_3, cR_4, cR_5, cR_6, cR_7⟩ := R.out.c8
    exact bodyPost_ret (v := .agg #[.int .i64 6, .bool false, .int .i64 0, .string ⟨#[]⟩, .int .i64 y.id, .slice none 0 0, .slice (some ⟨g886, 0, none⟩) 1 1, .slice none 0 0]) (by simp [results, Try.results40, go_sem, cR_0, cR_1, cR_2, cR_3, cR_4, cR_5, cR_6, cR_7]) rfl (⟨.mk 6 false 0 [] y.id [] [y0] [], .slice none 0 0, .slice (some ⟨g886, 0, none⟩) 1 1, .slice none 0 0, l20, rfl, hold9 _ _ _ _ (by simp [I64]) HMI.out.1 (by simp) (one_row N.out (hy.keep (fun _ _ => rfl) (fun q hq => by omega)) (by omega)), (by show fitV ts (!odd) _ _ = true; rw [fitV_eq, typAt_get ts i hi]; simp [hk, HMX.out, HMG.out, properB, bodyR, fitH, HYF0.out, Val.kind, Val.bool, Val.num, Val.str, Val.id, Val.keys, Val.items, Val.rest]), TK.out⟩)
   skip
   go_simp
   obtain ⟨wd898, hE899⟩ : ∃ ww, ww = wd858.alloc (.cells #[.int .i64 0, .string ⟨#[]⟩, .int .i64 0, .bool false, .bool false, .int .i64 0, .bool false, .int .i64 0, .string ⟨#[]⟩, .int .i64 0, .slice none 0 0, .slice none 0 0, .slice none 0 0] 66) := ⟨_, rfl⟩
   rw [← hE899]
   have hb897 := aB hE899
   have A := aN hE899
   clear hE899
   have hl901 := R.out.here
   have hl902 := X.out.here
   have hl903 := V.out.here
   have hl904 := TK.out.gr.size
   replace R := dB R hb897
   replace X := dB X hb897
   replace V := dB V hb897
   replace TK := Lib.hid (TK.out.below hb897)
   clear hb897
   generalize wd858.heap.size = g900 at *
   try clear hHeld
   refine hK.out _ _ (⟨X.out.cell 6, (fun b o hlt => TK.out.low (p := ⟨b, o, none⟩) hlt)⟩) (fun hHeld => ?_)
   clear hK K
   refine rd1 (i := 6) (fun K hK => ?_)
   go_simp
   ((with_reducible refine (next_any B gm (.slice (some ⟨b, o, none⟩) ts.length c) odd l1 ts[i].mems.length ts[i].mems.length _ rfl (by omega) (by omega) TK.out.at_).mono ?_); rintro e wd905 ⟨k, l', hk2, hk0, hkl, rfl, hT⟩)
   have hTl := hT.len
   clear hk0 hkl
   replace R := Lib.hid (R.out.gr hT.gr (show w.heap.size ≠ gm by omega))
   replace X := Lib.hid (X.out.gr hT.gr (show g771 ≠ gm by omega))
   replace V := Lib.hid (V.out.gr hT.gr (show g778 ≠ gm by omega))
   replace A := Lib.hid (A.out.gr hT.gr (show g900 ≠ gm by omega))
   replace TK := Lib.hid (TK.out.trans hT)
   clear hT
   have hk1 : (k : Int) < ts[i].mems.length := by omega
   obtain ⟨dk, di, dr, hc13, hma⟩ := HMC.out k hk2
   obtain ⟨c0, c1', c2, c3, c4, c5, c6, c7, c8, c9, c10, c11, c12⟩ := hc13
   obtain ⟨D1, f1, D2, f2, D3, f3, rfl, rfl, rfl, -, -, -⟩ := hma.dflt.forms
   have HMI := Lib.hid hma.ints
   have hmi := memIdx_nodup ts[i] HND.out k hk2
   have hmg := List.getElem?_eq_getElem hk2
   have hmm := List.getElem_mem hk2
   have hic := HIM.out _ hmm
   have hid1 := HID.out _ hmm
   generalize ts[i].mems[k] = y at *
   have HMX := Lib.hid hmi
   have HMG := Lib.hid hmg
   have HIC := Lib.hid hic
   have HID1 := Lib.hid hid1
   clear hma hmi hmg hmm hic hid1
   try clear hHeld
   refine hK.out _ _ (⟨X.out.cell 6, (fun b o hlt => TK.out.low (p := ⟨b, o, none⟩) hlt)⟩) (fun hHeld => ?_)
   clear hK K
   refine tk (i := 7) (v := ?k907) ?_
   simp only [put_laws2]
   refine tk (i := 8) (v := ?k908) ?_
   simp only [put_laws2]
   refine rd1 (i := 10) (fun K hK => ?_)
   refine step_store_row (by rfl) 66 _ _ (by rfl) (g900) #[.int .i64 y.id, .string ⟨y.name.toArray⟩, .int .i64 y.ty, .bool y.crit, .bool y.hasDef, .int .i64 y.dflt.kind, .bool y.dflt.bool, .int .i64 y.dflt.num, .string ⟨y.dflt.str.toArray⟩, .int .i64 y.dflt.id, .slice D1 y.dflt.keys.length f1, .slice D2 y.dflt.items.length f2, .slice D3 y.dflt.rest.length f3] (by rfl) (by rfl) 66 _ A.out (by kernel_rfl) rfl (by simp [Value.oneCell']) ?_
   obtain ⟨wd909, hE910⟩ : ∃ ww, ww = wd905.setRow (g900) #[.int .i64 y.id, .string ⟨y.name.toArray⟩, .int .i64 y.ty, .bool y.crit, .bool y.hasDef, .int .i64 y.dflt.kind, .bool y.dflt.bool, .int .i64 y.dflt.num, .string ⟨y.dflt.str.toArray⟩, .int .i64 y.dflt.id, .slice D1 y.dflt.keys.length f1, .slice D2 y.dflt.items.length f2, .slice D3 y.dflt.rest.length f3] := ⟨_, rfl⟩
   rw [← hE910]
   replace R := dR R hE910 (by omega)
   replace X := dR X hE910 (by omega)
   replace V := dR V hE910 (by omega)
   replace A := dO A hE910
   replace TK := Lib.hid (TK.out.belowL (hE910 ▸ below_rowL (g900) wd905 #[.int .i64 y.id, .string ⟨y.name.toArray⟩, .int .i64 y.ty, .bool y.crit, .bool y.hasDef, .int .i64 y.dflt.kind, .bool y.dflt.bool, .int .i64 y.dflt.num, .string ⟨y.dflt.str.toArray⟩, .int .i64 y.dflt.id, .slice D1 y.dflt.keys.length f1, .slice D2 y.dflt.items.length f2, .slice D3 y.dflt.rest.length f3]) (show w.heap.size ≤ g900 by omega))
   clear hE910
   try clear hHeld
   refine hK.out _ _ (⟨X.out.cell 6, (fun b o hlt => TK.out.low (p := ⟨b, o, none⟩) hlt)⟩) (fun hHeld => ?_)
   clear hK K
   refine wpAnyH_done (by kernel_rfl) ?_ _
   try clear hHeld
   clear c0 c1' c2 c3 c4 c5 c6 c7 c8 c9 c10 c11 c12
   have cA_0 : wd909.cell? ⟨g900, 0, none⟩ = some (.int .i64 y.id) := A.out.cell 0
   have cA_2 : wd909.cell? ⟨g900, 2, none⟩ = some (.int .i64 y.ty) := A.out.cell 2
   have cV_4 : wd909.cell? ⟨g778, 4, none⟩ = some (.int .i64 0) := V.out.cell 4
   have fV_4 := V.out.free 4
   go_upto_region 32 with fail
   clear cA_0 cA_2 cV_4 fV_4
   obtain ⟨wd911, hE912⟩ : ∃ ww, ww = wd909.setCell ⟨g778, 4, none⟩ (.int .i64 y.id) := ⟨_, rfl⟩
   rw [← hE912]
   replace R := dF R hE912 (by omega)
   replace X := dF X hE912 (by omega)
   replace A := dF A hE912 (by omega)
   replace V : Hid (Has wd911 (g778) 34 #[.int .i64 6, .bool false, .int .i64 0, .string ⟨#[]⟩, .int .i64 y.id, .slice none 0 0, .slice none 0 0, .slice none 0 0]) := Lib.hid (by simpa using dS V hE912)
   replace TK := Lib.hid (TK.out.belowL (hE912 ▸ below_set (Below.refl (g778) wd909) (Nat.le_refl _) 4 (.int .i64 y.id)) (show w.heap.size ≤ g778 by omega))
   clear hE912
   have cA_2 : wd911.cell? ⟨g900, 2, none⟩ = some (.int .i64 y.ty) := A.out.cell 2
   go_wp2_with fail
   have hty : y.ty = y.ty := rfl
   obtain ⟨L0, hL0⟩ : ∃ L, L = wd911.heap.size := ⟨_, rfl⟩
   skip
   have hLX0 : g771 < L0 := hL0 ▸ X.out.here
   have hLV0 : g778 < L0 := hL0 ▸ V.out.here
   have hLR0 : w.heap.size < L0 := hL0 ▸ R.out.here
   have hLg0 : gm < L0 := by have := R.out.here; omega
   clear cA_2
   ((with_reducible refine (HIC.out l' _ (by omega) TK.out.at_ (HT.out.keep (fun p hp => TK.out.low hp) (Nat.le_refl _))).mono ?_); rintro e wd913 ⟨y0, yk0, yi0, yr0, l20, rfl, hyp0, hyF0, hT⟩)
   rw [← hL0] at hyp0
   have hTL0 := hT.len
   replace R := Lib.hid (R.out.gr hT.gr (show w.heap.size ≠ gm by omega))
   replace X := Lib.hid (X.out.gr hT.gr (show g771 ≠ gm by omega))
   replace V := Lib.hid (V.out.gr hT.gr (show g778 ≠ gm by omega))
   replace A := Lib.hid (A.out.gr hT.gr (show g900 ≠ gm by omega))
   replace TK := Lib.hid (TK.out.trans hT)
   clear hT
   obtain ⟨Y10, z10, Y20, z20, Y30, z30, rfl, rfl, rfl, -, -, -⟩ := hyp0.forms
   have hyk0 := hyp0.keptB (w0 := w) (B := B) (L := L0) (fun _ h => .inr h) TK.out.lowh
   have HYF0 := Lib.hid hyF0
   have Y0 := Lib.hid (hyk0)
   clear hyp0 hyk0 hL0 hyF0
   have aV6 : ∀ ob, (wd913.alloc ob).cell? ⟨g778, 6, none⟩ = some (.slice none 0 0) := fun ob => (V.out.alloc ob).cell 6
   have bV6 : ∀ ob, (wd913.alloc ob).frozen? ⟨g778, 6, none⟩ = false := fun ob => (V.out.alloc ob).free 6
   go_upto_region 44 with fail
   clear aV6 bV6
   obtain ⟨wd916, hE917⟩ : ∃ ww, ww = wd913.alloc (.cells #[.int .i64 y0.kind, .bool y0.bool, .int .i64 y0.num, .string ⟨y0.str.toArray⟩, .int .i64 y0.id, .slice Y10 y0.keys.length z10, .slice Y20 y0.items.length z20, .slice Y30 y0.rest.length z30] 34) := ⟨_, rfl⟩
   rw [← hE917]
   have hb915 := aB hE917
   have N := aN hE917
   clear hE917
   have hl919 := R.out.here
   have hl920 := X.out.here
   have hl921 := V.out.here
   have hl922 := A.out.here
   have hl923 := Y0.out.le
   have hl924 := TK.out.gr.size
   replace R := dB R hb915
   replace X := dB X hb915
   replace V := dB V hb915
   replace A := dB A hb915
   replace Y0 := dK Y0 hb915
   replace TK := Lib.hid (TK.out.below hb915)
   clear hb915
   generalize wd913.heap.size = g918 at *
   obtain ⟨wd925, hE926⟩ : ∃ ww, ww = wd916.setCell ⟨g778, 6, none⟩ (.slice (some ⟨g918, 0, none⟩) 1 1) := ⟨_, rfl⟩
   rw [← hE926]
   replace R := dF R hE926 (by omega)
   replace X := dF X hE926 (by omega)
   replace A := dF A hE926 (by omega)
   replace N := dF N hE926 (by omega)
   replace V : Hid (Has wd925 (g778) 34 #[.int .i64 6, .bool false, .int .i64 0, .string ⟨#[]⟩, .int .i64 y.id, .slice none 0 0, .slice (some ⟨g918, 0, none⟩) 1 1, .slice none 0 0]) := Lib.hid (by simpa using dS V hE926)
   replace Y0 := kF Y0 hE926 (by omega)
   replace TK := Lib.hid (TK.out.belowL (hE926 ▸ below_set (Below.refl (g778) wd916) (Nat.le_refl _) 6 (.slice (some ⟨g918, 0, none⟩) 1 1)) (show w.heap.size ≤ g778 by omega))
   clear hE926
   obtain ⟨cV_0, cV_1, cV_2, cV_3, cV_4, cV_5, cV_6, cV_7⟩ := V.out.c8
   go_wp2_with (refine wpList_store_row rfl 34 _ _ rfl (w.heap.size) _ rfl rfl 34 _ R.out (by kernel_rfl) rfl (by simp [Value.oneCell']) ?_)
   clear cV_0 cV_1 cV_2 cV_3 cV_4 cV_5 cV_6 cV_7
   obtain ⟨wd927, hE928⟩ : ∃ ww, ww = wd925.setRow (w.heap.size) #[.int .i64 6, .bool false, .int .i64 0, .string ⟨#[]⟩, .int .i64 y.id, .slice none 0 0, .slice (some ⟨g918, 0, none⟩) 1 1, .slice none 0 0] := ⟨_, rfl⟩
   rw [← hE928]
   replace X := dR X hE928 (by omega)
   replace V := dR V hE928 (by omega)
   replace A := dR A hE928 (by omega)
   replace N := dR N hE928 (by omega)
   replace R := dO R hE928
   replace Y0 := kR Y0 hE928 (by omega)
   replace TK := Lib.hid (TK.out.belowL (hE928 ▸ below_rowL (w.heap.size) wd925 #[.int .i64 6, .bool false, .int .i64 0, .string ⟨#[]⟩, .int .i64 y.id, .slice none 0 0, .slice (some ⟨g918, 0, none⟩) 1 1, .slice none 0 0]) (show w.heap.size ≤ w.heap.size by omega))
   clear hE928
   have hy := Y0.out.now TK.out.lowh
   have hgN := N.out.here
   obtain ⟨cR_0, cR_1, cR_2, cR_3, cR_4, cR_5, cR_6, cR_7⟩ := R.out.c8
   exact bodyPost_ret (v := .agg #[.int .i64 6, .bool false, .int .i64 0, .string ⟨#[]⟩, .int .i64 y.id, .slice none 0 0, .slice (some ⟨g918, 0, none⟩) 1 1, .slice none 0 0]) (by simp [results, Try.results40, go_sem, cR_0, cR_1, cR_2, cR_3, cR_4, cR_5, cR_6, cR_7]) rfl (⟨.mk 6 false 0 [] y.id [] [y0] [], .slice none 0 0, .slice (some ⟨g918, 0, none⟩) 1 1, .slice none 0 0, l20, rfl, hold9 _ _ _ _ (by simp [I64]) HMI.out.1 (by simp) (one_row N.out (hy.keep (fun _ _ => rfl) (fun q hq => by omega)) (by omega)), (by show fitV ts (!odd) _ _ = true; rw [fitV_eq, typAt_get ts i hi]; simp [hk, HMX.out, HMG.out, properB, bodyR, fitH, HYF0.out, Val.kind, Val.bool, Val.num, Val.str, Val.id, Val.keys, Val.items, Val.rest]), TK.out⟩)
  | true =>
   have ho : odd = true := by cases odd with | true => rfl | false => cases hbo rfl
   subst ho
   have hun := unknown_any B gm (.slice (some ⟨b, o, none⟩) ts.length c) true l1 ts[i] (.slice C1 ts[i].syms.length m1) (.slice (some ⟨b2, o2, none⟩) ts[i].mems.length m2)
   simp only [typA, hk, hop] at hun
   have HUN := Lib.hid hun
   clear hun
   obtain ⟨cX_0, cX_1, cX_2, cX_3, cX_4, cX_5, cX_6, cX_7, cX_8, cX_9⟩ := X.out.c10
   go_wp2_with fail
   clear cX_0 cX_1 cX_2 cX_3 cX_4 cX_5 cX_6 cX_7 cX_8 cX_9
   ((with_reducible refine (HUN.out _ HU.out TK.out.at_ (HTY.out.keep (fun p hp => TK.out.low hp) hBg)).mono ?_); rintro e wd929 ⟨n, l3, hn1, hn2, hnu, rfl, hT⟩)
   replace R := Lib.hid (R.out.gr hT.gr (show w.heap.size ≠ gm by omega))
   replace X := Lib.hid (X.out.gr hT.gr (show g771 ≠ gm by omega))
   replace V := Lib.hid (V.out.gr hT.gr (show g778 ≠ gm by omega))
   replace TK := Lib.hid (TK.out.trans hT)
   clear hT
   have HNU : Hid (usedB ts[i] n = false) := Lib.hid hnu
   clear hnu
   have cV_4 : wd929.cell? ⟨g778, 4, none⟩ = some (.int .i64 0) := V.out.cell 4
   have fV_4 := V.out.free 4
   go_upto_region 28 with fail
   clear cV_4 fV_4
   obtain ⟨wd931, hE932⟩ : ∃ ww, ww = wd929.setCell ⟨g778, 4, none⟩ (.int .i64 n) := ⟨_, rfl⟩
   rw [← hE932]
   replace R := dF R hE932 (by omega)
   replace X := dF X hE932 (by omega)
   replace V : Hid (Has wd931 (g778) 34 #[.int .i64 6, .bool false, .int .i64 0, .string ⟨#[]⟩, .int .i64 n, .slice none 0 0, .slice none 0 0, .slice none 0 0]) := Lib.hid (by simpa using dS V hE932)
   replace TK := Lib.hid (TK.out.belowL (hE932 ▸ below_set (Below.refl (g778) wd929) (Nat.le_refl _) 4 (.int .i64 n)) (show w.heap.size ≤ g778 by omega))
   clear hE932
   have cV_4 : wd931.cell? ⟨g778, 4, none⟩ = some (.int .i64 n) := V.out.cell 4
   go_wp2_with fail
   clear cV_4
   ((with_reducible refine (raw_any B gm (.slice (some ⟨b, o, none⟩) ts.length c) true l3 n _ TK.out.at_).mono ?_); rintro e wd933 ⟨s, l4, hs3, rfl, hT⟩)
   replace R := Lib.hid (R.out.gr hT.gr (show w.heap.size ≠ gm by omega))
   replace X := Lib.hid (X.out.gr hT.gr (show g771 ≠ gm by omega))
   replace V := Lib.hid (V.out.gr hT.gr (show g778 ≠ gm by omega))
   replace TK := Lib.hid (TK.out.trans hT)
   clear hT
   simp only [rawA]
   have aV7 : ∀ ob, (wd933.alloc ob).cell? ⟨g778, 7, none⟩ = some (.slice none 0 0) := fun ob => (V.out.alloc ob).cell 7
   have bV7 : ∀ ob, (wd933.alloc ob).frozen? ⟨g778, 7, none⟩ = false := fun ob => (V.out.alloc ob).free 7
   go_upto_region 29 with fail
   clear aV7 bV7
   obtain ⟨wd936, hE937⟩ : ∃ ww, ww = wd933.alloc (.cells #[.int .i64 n, .string ⟨s.toArray⟩] 56) := ⟨_, rfl⟩
   rw [← hE937]
   have hb935 := aB hE937
   have N := aN hE937
   clear hE937
   have hl939 := R.out.here
   have hl940 := X.out.here
   have hl941 := V.out.here
   have hl942 := TK.out.gr.size
   replace R := dB R hb935
   replace X := dB X hb935
   replace V := dB V hb935
   replace TK := Lib.hid (TK.out.below hb935)
   clear hb935
   generalize wd933.heap.size = g938 at *
   obtain ⟨wd943, hE944⟩ : ∃ ww, ww = wd936.setCell ⟨g778, 7, none⟩ (.slice (some ⟨g938, 0, none⟩) 1 1) := ⟨_, rfl⟩
   rw [← hE944]
   replace R := dF R hE944 (by omega)
   replace X := dF X hE944 (by omega)
   replace N := dF N hE944 (by omega)
   replace V : Hid (Has wd943 (g778) 34 #[.int .i64 6, .bool false, .int .i64 0, .string ⟨#[]⟩, .int .i64 n, .slice none 0 0, .slice none 0 0, .slice (some ⟨g938, 0, none⟩) 1 1]) := Lib.hid (by simpa using dS V hE944)
   replace TK := Lib.hid (TK.out.belowL (hE944 ▸ below_set (Below.refl (g778) wd936) (Nat.le_refl _) 7 (.slice (some ⟨g938, 0, none⟩) 1 1)) (show w.heap.size ≤ g778 by omega))
   clear hE944
   obtain ⟨cV_0, cV_1, cV_2, cV_3, cV_4, cV_5, cV_6, cV_7⟩ := V.out.c8
   go_wp2_with (refine wpList_store_row rfl 34 _ _ rfl (w.heap.size) _ rfl rfl 34 _ R.out (by kernel_rfl) rfl (by simp [Value.oneCell']) ?_)
   clear cV_0 cV_1 cV_2 cV_3 cV_4 cV_5 cV_6 cV_7
   obtain ⟨wd945, hE946⟩ : ∃ ww, ww = wd943.setRow (w.heap.size) #[.int .i64 6, .bool false, .int .i64 0, .string ⟨#[]⟩, .int .i64 n, .slice none 0 0, .slice none 0 0, .slice (some ⟨g938, 0, none⟩) 1 1] := ⟨_, rfl⟩
   rw [← hE946]
   replace X := dR X hE946 (by omega)
   replace V := dR V hE946 (by omega)
   replace N := dR N hE946 (by omega)
   replace R := dO R hE946
   replace TK := Lib.hid (TK.out.belowL (hE946 ▸ below_rowL (w.heap.size) wd943 #[.int .i64 6, .bool false, .int .i64 0, .string ⟨#[]⟩, .int .i64 n, .slice none 0 0, .slice none 0 0, .slice (some ⟨g938, 0, none⟩) 1 1]) (show w.heap.size ≤ w.heap.size by omega))
   clear hE946
   go_wp2_with fail
   have hgN := N.out.here
   have hnm : memIdx ts[i] n = none := by
    have := HNU.out
    unfold usedB at this
    cases h : memIdx ts[i] n with
    | none => rfl
    | some q => rw [h] at this; simp at this
   obtain ⟨cR_0, cR_1, cR_2, cR_3, cR_4, cR_5, cR_6, cR_7⟩ := R.out.c8
   exact bodyPost_ret (v := .agg #[.int .i64 6, .bool false, .int .i64 0, .string ⟨#[]⟩, .int .i64 n, .slice none 0 0, .slice none 0 0, .slice (some ⟨g938, 0, none⟩) 1 1]) (by simp [results, Try.results40, go_sem, cR_0, cR_1, cR_2, cR_3, cR_4, cR_5, cR_6, cR_7]) rfl (⟨.mk 6 false 0 [] n [] [] [((n : Int), s)], .slice none 0 0, .slice none 0 0, .slice (some ⟨g938, 0, none⟩) 1 1, l4, rfl, hold6 _ _ _ _ (by simp [I64]) (by simp [I64]; omega) (by simp) (by intro r hr; simp at hr; subst hr; exact ⟨by simp [I64]; omega, by show s.length ≤ _; omega⟩) (raw_row N.out (by omega)), (by show fitV ts (!true) _ _ = true; rw [fitV_eq, typAt_get ts i hi]; simp [hk, hop, hnm, properB, bodyR, freeB, oneRaw, Val.kind, Val.bool, Val.num, Val.str, Val.id, Val.keys, Val.items, Val.rest]; exact decide_eq_true (by omega)), TK.out⟩)
end Go.Proofs.Ytgeapglanckjpaa

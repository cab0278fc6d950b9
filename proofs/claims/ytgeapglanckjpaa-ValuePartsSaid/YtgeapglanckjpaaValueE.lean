/- What the maker's value leaves, kind 5. No condition. -/
import Derived.Test.YtgeapglanckjpaaValueD
set_option maxHeartbeats 3200000
namespace Go.Proofs.Ytgeapglanckjpaa
open Go.ChangeShapes Go.WideShapes Go.ChangeAt Go.RowKit
theorem fitZ_snoc (ts : List Typ) (pl : Bool) (y : Val) (m : Mem) (hy : fitV ts pl y m.ty = true) : ∀ (xs : List Val) (ms : List Mem), fitZ ts pl xs ms = true → fitZ ts pl (xs ++ [y]) (ms ++ [m]) = true
 | [], [], _ => by simp [fitZ, hy]
 | x :: xs, q :: ms, h => by
  rw [fitZ, Bool.and_eq_true] at h
  rw [List.cons_append, List.cons_append, fitZ, h.1, fitZ_snoc ts pl y m hy xs ms h.2]; rfl
 | [], _ :: _, h => by rw [fitZ] at h; cases h
 | _ :: _, [], h => by rw [fitZ] at h; cases h
theorem nil_vals (w : World) (S : Nat → Prop) (A : Option Addr) (c : Nat) : RdValsP w S (.slice A 0 c) [] := ⟨fun _ => [], ⟨A, c, rfl, Nat.zero_le _, .inl rfl⟩, fun i h => by simp at h⟩
theorem bare_of {w : World} {B : Nat} {x : Val} {vk vi vr : Value} (h : ValAt w B x vk vi vr) (hb : x.keys = [] ∧ x.items = [] ∧ x.rest = []) (W : World) : ValP W (fun _ => False) x vk vi vr := by
 obtain ⟨A1, c1, A2, c2, A3, c3, rfl, rfl, rfl, -, -, -⟩ := h.forms
 refine ⟨h.ints, h.strl, h.lens, h.raws, ?_, ?_, ?_⟩
 ·
  rw [hb.1]; exact nil_vals _ _ _ _
 ·
  rw [hb.2.1]; exact nil_vals _ _ _ _
 rw [hb.2.2]; exact ⟨rfl, A3, c3, rfl, Nat.zero_le _, .inl rfl⟩
theorem hold5 {w : World} {S : Nat → Prop} (xs : List Val) (v : Value) (rs : List Raw) (vr : Value) (hl : xs.length ≤ 140737488351232) (h : RdValsP w S v xs) (hrl : rs.length ≤ 140737488351232) (hr : ∀ r ∈ rs, RawIn r) (h2 : RdP w S 2 vr rs.length (rawsV rs)) : ValP w S (.mk 5 false 0 [] 0 [] xs rs) (.slice none 0 0) v vr :=
 ⟨⟨by simp [Val.kind, I64], by simp [Val.num, I64], by simp [Val.id, I64]⟩, by simp [Val.str], ⟨by simp [Val.keys], by simpa [Val.items] using hl, by simpa [Val.rest] using hrl⟩, hr,
  ⟨fun _ => [], ⟨none, 0, rfl, Nat.le_refl _, .inl rfl⟩, fun i h => by simp [Val.keys] at h⟩, h, h2⟩
def RecInv (w wr : World) (B gm gX gV : Nat) (vt : Value) (odd : Bool) (ts : List Typ) (l : List UInt8) (cx cr : Array Value) (ms : List Mem) (n : Value) : Prop :=
 ∃ (xs : List Val) (lc : List UInt8) (S : Nat → Prop) (AV : Option Addr) (cv : Nat), xs.length ≤ ms.length ∧ n = .int .i64 xs.length ∧ lc.length ≤ l.length ∧
  Has wr gV 34 #[.int .i64 5, .bool false, .int .i64 0, .string ⟨#[]⟩, .int .i64 0, .slice none 0 0, .slice AV xs.length cv, .slice none 0 0] ∧ Has wr gX 64 cx ∧ Has wr w.heap.size 34 cr ∧
  Took w B gm vt odd l lc wr ∧ OwnVals wr (gV + 1) S (.slice AV xs.length cv) xs ∧ (∀ b, S b → gV + 1 ≤ b) ∧ fitZ ts (!odd) xs (ms.take xs.length) = true
set_option maxRecDepth 100000 in
theorem value5_any (B gm : Nat) (A : Option Addr) (c : Nat) (odd : Bool) (l : List UInt8) (ts : List Typ) (i : Nat) (hi : i < ts.length) (w : World) (hk : ts[i].kind = 5) (hml : ts[i].mems.length ≤ 12) (hu : ∀ n : Nat, 15 ≤ n → usedB ts[i] n = false)
  (hdp : ∀ m ∈ ts[i].mems, m.dflt.keys = [] ∧ m.dflt.items = [] ∧ m.dflt.rest = []) (hdf : ∀ m ∈ ts[i].mems, m.hasDef = true → fitV ts (!odd) m.dflt m.ty = true) (him : MemIH B gm (.slice A ts.length c) odd ts ts[i].mems l.length) (hM : MkAt w B gm (.slice A ts.length c) odd l) (hT : RdTyps w B (.slice A ts.length c) ts) :
  Calls Try.prog 40 #[.pointer (some ⟨gm, 0, none⟩), .int .i64 i] w (MadePost w B gm (.slice A ts.length c) odd l fun x => fitV ts (!odd) x i = true) := by
 have HU := Lib.hid hu
 have HIM := Lib.hid him
 have HDF := Lib.hid hdf
 have HDP := Lib.hid hdp
 clear hu him hdf hdp
 have hgw := hM.here
 have hBg := hM.le
 obtain ⟨b, o, rfl, hb, hcs⟩ := hT.elem (by omega)
 obtain ⟨vs, vm, ⟨y0, y1, y2, y3, y4, y5, y6, y7, y8, y9⟩, hty⟩ := hcs i hi
 obtain ⟨C1, m1, C2, m2, rfl, rfl, -, -⟩ := hty.forms
 have hi1 : (i : Int) < ts.length := by omega
 have hi0 : (0 : Int) ≤ (i : Int) := by omega
 rw [hk] at y0
 have HM := Lib.hid hM
 have HTY := Lib.hid hty
 have HT := Lib.hid hT
 clear hcs hty hT
 obtain ⟨⟨A1, c1, M, _⟩, _, _⟩ := hM
 replace M := Lib.hid M
 have cM_0 : w.cell? ⟨gm, 0, none⟩ = some (.slice (some ⟨b, o, none⟩) ts.length c) := M.out.cell 0
 have cM_1 : w.cell? ⟨gm, 1, none⟩ = some (.slice A1 l.length c1) := M.out.cell 1
 have cM_2 : w.cell? ⟨gm, 2, none⟩ = some (.bool odd) := M.out.cell 2
 go_enter Try.func40, Try.ntmps40
 go_upto_region 1 with fail
 clear cM_0 cM_1 cM_2
 obtain ⟨wd948, hE949⟩ : ∃ ww, ww = w.alloc (.cells #[.int .i64 0, .bool false, .int .i64 0, .string ⟨#[]⟩, .int .i64 0, .slice none 0 0, .slice none 0 0, .slice none 0 0] 34) := ⟨_, rfl⟩
 rw [← hE949]
 have hb947 := aB hE949
 have R := aN hE949
 clear hE949
 replace M := dB M hb947
 have hw950 := hb947
 clear hb947
 have hbl : b < w.heap.size := by omega
 have z0 := ((hw950).cell (p := ⟨b, o + i * 10, none⟩) hbl).trans y0
 have z1 := ((hw950).cell (p := ⟨b, o + i * 10 + 1, none⟩) hbl).trans y1
 have z2 := ((hw950).cell (p := ⟨b, o + i * 10 + 2, none⟩) hbl).trans y2
 have z3 := ((hw950).cell (p := ⟨b, o + i * 10 + 3, none⟩) hbl).trans y3
 have z4 := ((hw950).cell (p := ⟨b, o + i * 10 + 4, none⟩) hbl).trans y4
 have z5 := ((hw950).cell (p := ⟨b, o + i * 10 + 5, none⟩) hbl).trans y5
 have z6 := ((hw950).cell (p := ⟨b, o + i * 10 + 6, none⟩) hbl).trans y6
 have z7 := ((hw950).cell (p := ⟨b, o + i * 10 + 7, none⟩) hbl).trans y7
 have z8 := ((hw950).cell (p := ⟨b, o + i * 10 + 8, none⟩) hbl).trans y8
 have z9 := ((hw950).cell (p := ⟨b, o + i * 10 + 9, none⟩) hbl).trans y9
 have cM_0 : wd948.cell? ⟨gm, 0, none⟩ = some (.slice (some ⟨b, o, none⟩) ts.length c) := M.out.cell 0
 have cM_1 : wd948.cell? ⟨gm, 1, none⟩ = some (.slice A1 l.length c1) := M.out.cell 1
 have cM_2 : wd948.cell? ⟨gm, 2, none⟩ = some (.bool odd) := M.out.cell 2
 go_upto_region 2 with fail
 clear cM_0 cM_1 cM_2
 obtain ⟨wd952, hE953⟩ : ∃ ww, ww = wd948.alloc (.cells #[.int .i64 5, .string ⟨ts[i].name.toArray⟩, .int .i64 ts[i].low, .int .i64 ts[i].high, .int .i64 ts[i].max, .slice C1 ts[i].syms.length m1, .slice C2 ts[i].mems.length m2, .int .i64 ts[i].key, .int .i64 ts[i].elem, .bool ts[i].opn] 64) := ⟨_, rfl⟩
 rw [← hE953]
 have hb951 := aB hE953
 have X := aN hE953
 clear hE953
 have hl955 := M.out.here
 have hl956 := R.out.here
 have hl957 := hw950.size
 replace M := dB M hb951
 replace R := dB R hb951
 replace hw950 := dT hw950 hb951
 clear hb951
 generalize wd948.heap.size = g954 at *
 clear y0 y1 y2 y3 y4 y5 y6 y7 y8 y9 z0 z1 z2 z3 z4 z5 z6 z7 z8 z9
 have cX_0 : wd952.cell? ⟨g954, 0, none⟩ = some (.int .i64 5) := X.out.cell 0
 go_upto_region 3 with fail
 clear cX_0
 obtain ⟨wd959, hE960⟩ : ∃ ww, ww = wd952.alloc (.cells #[.int .i64 5, .bool false, .int .i64 0, .string ⟨#[]⟩, .int .i64 0, .slice none 0 0, .slice none 0 0, .slice none 0 0] 34) := ⟨_, rfl⟩
 rw [← hE960]
 have hb958 := aB hE960
 have V := aN hE960
 clear hE960
 have hl962 := M.out.here
 have hl963 := R.out.here
 have hl964 := X.out.here
 have hl965 := hw950.size
 replace M := dB M hb958
 replace R := dB R hb958
 replace X := dB X hb958
 replace hw950 := dT hw950 hb958
 clear hb958
 generalize wd952.heap.size = g961 at *
 have cX_0 : wd959.cell? ⟨g954, 0, none⟩ = some (.int .i64 5) := X.out.cell 0
 clear M
 have hTK := Took.below (Took.refl HM.out) (hw950)
 have TK := Lib.hid (hTK)
 clear HM hTK
 have HR0 := Lib.hid R.out
 have HX0 := Lib.hid X.out
 have HV0 := Lib.hid V.out
 have HTK0 := Lib.hid TK.out
 have hXV : g954 < g961 := by omega
 have hRX : w.heap.size < g954 := by omega
 clear R X V TK
 generalize g954 = gX at *
 generalize g961 = gV at *
 go_wp2_with fail
 go_loopw [7] (fun n wr => RecInv w wr B gm gX gV (.slice (some ⟨b, o, none⟩) ts.length c) odd ts l #[.int .i64 5, .string ⟨ts[i].name.toArray⟩, .int .i64 ts[i].low, .int .i64 ts[i].high, .int .i64 ts[i].max, .slice C1 ts[i].syms.length m1, .slice C2 ts[i].mems.length m2, .int .i64 ts[i].key, .int .i64 ts[i].elem, .bool ts[i].opn] #[.int .i64 0, .bool false, .int .i64 0, .string ⟨#[]⟩, .int .i64 0, .slice none 0 0, .slice none 0 0, .slice none 0 0] ts[i].mems n) (fun n _ => ts[i].mems.length - (intOf n).toNat)
 case atStart => exact ⟨[], l, fun _ => False, none, 0, by simp, rfl, Nat.le_refl _, HV0.out, HX0.out, HR0.out, HTK0.out, OwnVals.nil _ _, fun _ h => h.elim, by simp [fitZ]⟩
 case round =>
  clear HV0 HX0 HR0 HTK0
  obtain ⟨xs, lc, S, AV, cv, hq, rfl, hlc, V, X, R, hK, hO, hS, hF⟩ := hrel
  have HF := Lib.hid hF
  clear hF
  replace R := Lib.hid R
  replace X := Lib.hid X
  replace V := Lib.hid V
  have TK := Lib.hid (hK)
  obtain ⟨U0, hU0⟩ : ∃ U, U = wr.heap.size := ⟨_, rfl⟩
  have O := Lib.hid ((show Kept (OVB w B (gV + 1) S (.slice AV xs.length cv) xs) wr (gV + 1) U0 from by rw [hU0]; exact hO.keptB (w0 := w) (B := B) (fun q hq => .inr (hS q hq)) TK.out.lowh))
  have HS := Lib.hid hS
  have hZ1 : ∀ q, (Value.slice AV xs.length cv).ownBlock = some q → gV + 1 ≤ q := fun q h => (hO.lt q h).1
  have hZ2 : ∀ q, (Value.slice AV xs.length cv).ownBlock = some q → q < U0 := fun q h => hU0 ▸ (hO.lt q h).2
  have HZ1 := Lib.hid hZ1
  have HZ2 := Lib.hid hZ2
  clear hK hO hS hU0 hZ1 hZ2
  have cX_6 : wr.cell? ⟨gX, 6, none⟩ = some (.slice C2 ts[i].mems.length m2) := X.out.cell 6
  by_cases hp : xs.length < ts[i].mems.length
  ·
   have hp1 : (xs.length : Int) < ts[i].mems.length := by omega
   have hp0 : (0 : Int) ≤ (xs.length : Int) := by omega
   obtain ⟨b2, o2, rfl, hb2, hmc⟩ := HTY.out.mems.elem (by omega)
   obtain ⟨dk, di, dr, hc13, hma⟩ := hmc _ hp
   obtain ⟨c0, c1', c2, c3, c4, c5, c6, c7, c8, c9, c10, c11, c12⟩ := hc13
   obtain ⟨D1, f1, D2, f2, D3, f3, rfl, rfl, rfl, -, -, -⟩ := hma.dflt.forms
   have hmg := List.getElem?_eq_getElem hp
   have hmm := List.getElem_mem hp
   have hic := HIM.out _ hmm
   have hdf1 := HDF.out _ hmm
   have hdp1 := fun {vk vi vr} (h : ValAt w B ts[i].mems[xs.length].dflt vk vi vr) W => (bare_of h (HDP.out _ hmm) W).rd
   generalize ts[i].mems[xs.length] = y at *
   have HMG : Hid (ts[i].mems[xs.length]?.toList = [y]) := Lib.hid (by rw [hmg]; rfl)
   have HIC := Lib.hid hic
   have HDF1 := Lib.hid hdf1
   have hda := hdp1 hma.dflt
   have HDA := Lib.hid hda
   clear hma hmg hmm hic hmc hdf1 hda hdp1
   have c4w := (TK.out.low (p := ⟨b2, o2 + xs.length * 13 + 4, none⟩) hb2).trans c4
   cases hd : y.hasDef with
   | false =>
    rw [hd] at c4w c4
    go_upto_region 22 with fail
    have cV_6 : wr.cell? ⟨gV, 6, none⟩ = some (.slice AV xs.length cv) := V.out.cell 6
    refine wp_region_T (S := (fun w' => w'.cell? ⟨gV, 6, none⟩ = some (.slice AV xs.length cv) ∧ w'.cell? ⟨gX, 6, none⟩ = some (.slice (some ⟨b2, o2, none⟩) ts[i].mems.length m2) ∧ (∀ (b o : Nat), b < B → w'.cell? ⟨b, o, none⟩ = w.cell? ⟨b, o, none⟩))) (fun j => j == 13) (by kernel_rfl) ⟨cV_6, cX_6, (fun b o hlt => TK.out.low (p := ⟨b, o, none⟩) hlt)⟩ (fun hHeld => ?_)
    clear cX_6 cV_6
    have hb966 : Below wr.heap.size wr (wr.drew) := (Below.refl _ _).drew
    replace R := dB R hb966
    replace X := dB X hb966
    replace V := dB V hb966
    replace O := dK O hb966
    replace TK := Lib.hid (TK.out.below hb966)
    clear hb966
    generalize wr.drew = wd967 at *
    refine tkT (i := 0) (v := ?k968) ?_
    simp only [put_laws2]
    refine tkT (i := 1) (v := ?k969) ?_
    simp only [put_laws2]
    refine tkT (i := 2) (v := ?k970) ?_
    simp only [put_laws2]
    refine tkT (i := 3) (v := ?k971) ?_
    simp only [put_laws2]
    refine tkT (i := 4) (v := ?k972) ?_
    simp only [put_laws2]
    refine tkT (i := 5) (v := ?k973) ?_
    simp only [put_laws2]
    refine tkT (i := 6) (v := ?k974) ?_
    simp only [put_laws2]
    refine tkT (i := 7) (v := ?k975) ?_
    simp only [put_laws2]
    refine tkT (i := 8) (v := ?k976) ?_
    simp only [put_laws2]
    refine rdT1 (i := 9) (fun K hK => ?_)
    go_simp
    have hUL := O.out.le
    obtain ⟨L0, hL0⟩ : ∃ L, L = wd967.heap.size := ⟨_, rfl⟩
    rw [← hL0] at hUL
    have hLX0 : gX < L0 := hL0 ▸ X.out.here
    have hLV0 : gV < L0 := hL0 ▸ V.out.here
    have hLR0 : w.heap.size < L0 := hL0 ▸ R.out.here
    have hLg0 : gm < L0 := by have := R.out.here; omega
    ((with_reducible refine (HIC.out lc _ (by omega) TK.out.at_ (HT.out.keep (fun p hp => TK.out.low hp) (Nat.le_refl _))).mono ?_); rintro e wd977 ⟨y0, yk0, yi0, yr0, l20, rfl, hyp0, hyF0, hT⟩)
    rw [← hL0] at hyp0
    have hTL0 := hT.len
    replace R := Lib.hid (R.out.gr hT.gr (show w.heap.size ≠ gm by omega))
    replace X := Lib.hid (X.out.gr hT.gr (show gX ≠ gm by omega))
    replace V := Lib.hid (V.out.gr hT.gr (show gV ≠ gm by omega))
    replace O := Lib.hid (O.out.gr hT.gr (show U0 ≤ gm ∨ gm < gV + 1 by omega))
    replace TK := Lib.hid (TK.out.trans hT)
    clear hT
    obtain ⟨Y10, z10, Y20, z20, Y30, z30, rfl, rfl, rfl, -, -, -⟩ := hyp0.forms
    have hyk0 := hyp0.keptB (w0 := w) (B := B) (L := L0) (fun _ h => .inr h) TK.out.lowh
    have HYF0 := Lib.hid hyF0
    have Y0 := Lib.hid (hyk0)
    clear hyp0 hyk0 hL0 hyF0
    try clear hHeld
    refine hK.out _ _ (⟨V.out.cell 6, ⟨X.out.cell 6, (fun b o hlt => TK.out.low (p := ⟨b, o, none⟩) hlt)⟩⟩) (fun hHeld => ?_)
    clear hK K
    refine rdT1 (i := 10) (fun K hK => ?_)
    go_simp
    obtain ⟨wd980, hE981⟩ : ∃ ww, ww = wd977.alloc (.cells #[.int .i64 y0.kind, .bool y0.bool, .int .i64 y0.num, .string ⟨y0.str.toArray⟩, .int .i64 y0.id, .slice Y10 y0.keys.length z10, .slice Y20 y0.items.length z20, .slice Y30 y0.rest.length z30] 34) := ⟨_, rfl⟩
    rw [← hE981]
    have hb979 := aB hE981
    have N := aN hE981
    clear hE981
    have hl983 := R.out.here
    have hl984 := X.out.here
    have hl985 := V.out.here
    have hl986 := O.out.le
    have hl987 := Y0.out.le
    have hl988 := TK.out.gr.size
    replace R := dB R hb979
    replace X := dB X hb979
    replace V := dB V hb979
    replace O := dK O hb979
    replace Y0 := dK Y0 hb979
    replace TK := Lib.hid (TK.out.below hb979)
    clear hb979
    generalize wd977.heap.size = g982 at *
    try clear hHeld
    refine hK.out _ _ (⟨V.out.cell 6, ⟨X.out.cell 6, (fun b o hlt => TK.out.low (p := ⟨b, o, none⟩) hlt)⟩⟩) (fun hHeld => ?_)
    clear hK K
    refine rdT1 (i := 11) (fun K hK => ?_)
    refine step_append_vals (by rfl) _ _ (by rfl) (O.out.now TK.out.lowh) (by rfl) N.out (by rfl) (Y0.out.now TK.out.lowh).rd (fun q hq => ⟨by have := N.out.here; omega, fun e => by have := HZ1.out q e; have := HZ2.out q e; omega⟩) (by omega) (by have := N.out.here; omega) ?_
    intro v1 w1 hO1 hat hbB hkk
    obtain ⟨Aq, cq, rfl⟩ := hO1.form
    have hS3 : ∀ q, (S q ∨ (fun q => L0 ≤ q ∧ q < g982) q) → gV + 1 ≤ q := fun q hq => hq.elim (HS.out q) (fun h => by omega)
    clear O
    clear N
    clear Y0
    replace R := dG R hkk (fun hh => by have := HZ1.out _ hh; omega)
    replace X := dG X hkk (fun hh => by have := HZ1.out _ hh; omega)
    replace V := dG V hkk (fun hh => by have := HZ1.out _ hh; omega)
    replace TK := Lib.hid (TK.out.belowL hbB (show w.heap.size ≤ gV + 1 by omega))
    have O := Lib.hid (hO1.keptB (w0 := w) (B := B) (fun q hq => .inr (hS3 q hq)) TK.out.lowh)
    have HS3 := Lib.hid hS3
    clear hO1 hbB hkk hat hS3
    try clear hHeld
    refine hK.out _ _ (⟨V.out.cell 6, ⟨X.out.cell 6, (fun b o hlt => TK.out.low (p := ⟨b, o, none⟩) hlt)⟩⟩) (fun hHeld => ?_)
    clear hK K
    refine tkT (i := 12) (v := ?k989) ?_
    simp only [put_laws2]
    refine rdTL (i := 13) (fun K hK => ?_)
    have cV_6 : w1.cell? ⟨gV, 6, none⟩ = some (.slice AV xs.length cv) := V.out.cell 6
    have fV_6 := V.out.free 6
    go_simp
    clear cV_6 fV_6
    obtain ⟨wd990, hE991⟩ : ∃ ww, ww = w1.setCell ⟨gV, 6, none⟩ (.slice Aq (xs.length + 1) cq) := ⟨_, rfl⟩
    rw [← hE991]
    replace R := dF R hE991 (by omega)
    replace X := dF X hE991 (by omega)
    replace V : Hid (Has wd990 (gV) 34 #[.int .i64 5, .bool false, .int .i64 0, .string ⟨#[]⟩, .int .i64 0, .slice none 0 0, .slice Aq (xs.length + 1) cq, .slice none 0 0]) := Lib.hid (by simpa using dS V hE991)
    replace O := kF O hE991 (by omega)
    replace TK := Lib.hid (TK.out.belowL (hE991 ▸ below_set (Below.refl (gV) w1) (Nat.le_refl _) 6 (.slice Aq (xs.length + 1) cq)) (show w.heap.size ≤ gV by omega))
    clear hE991
    try clear hHeld
    refine hK.out _ _ ?_
    clear hK K
    refine wpAnyT_done (by kernel_rfl) ?_ _
    try clear hHeld
    go_wp2_with fail
    go_roundw
    case rel =>
     refine ⟨xs ++ [y0], l20, _, Aq, cq, by rw [List.length_append]; exact hp, by simp, by omega, by simpa using V.out, X.out, R.out, TK.out, O.out.now TK.out.lowh, HS3.out, ?_⟩
     rw [show (xs ++ [y0]).length = xs.length + 1 by simp, List.take_add_one, HMG.out]
     exact fitZ_snoc ts _ y0 y (HYF0.out) xs _ HF.out
    case measure => simp [intOf]; omega
   | true =>
    rw [hd] at c4w c4
    go_wp2_with fail
    clear cX_6
    ((with_reducible refine (next_any B gm (.slice (some ⟨b, o, none⟩) ts.length c) odd lc 3 3 _ rfl (by omega) (by omega) TK.out.at_).mono ?_); rintro e wd992 ⟨k, l', hk2, hk0, hkl, rfl, hT⟩)
    have hTl := hT.len
    clear hk0 hkl c4w
    replace R := Lib.hid (R.out.gr hT.gr (show w.heap.size ≠ gm by omega))
    replace X := Lib.hid (X.out.gr hT.gr (show gX ≠ gm by omega))
    replace V := Lib.hid (V.out.gr hT.gr (show gV ≠ gm by omega))
    replace O := Lib.hid (O.out.gr hT.gr (show U0 ≤ gm ∨ gm < gV + 1 by omega))
    replace TK := Lib.hid (TK.out.trans hT)
    clear hT
    by_cases hkz : k = 0
    ·
     subst hkz
     have cX_6 : wd992.cell? ⟨gX, 6, none⟩ = some (.slice (some ⟨b2, o2, none⟩) ts[i].mems.length m2) := X.out.cell 6
     go_upto_region 21 with fail
     have cV_6 : wd992.cell? ⟨gV, 6, none⟩ = some (.slice AV xs.length cv) := V.out.cell 6
     refine wp_region_T (S := (fun w' => w'.cell? ⟨gV, 6, none⟩ = some (.slice AV xs.length cv) ∧ w'.cell? ⟨gX, 6, none⟩ = some (.slice (some ⟨b2, o2, none⟩) ts[i].mems.length m2) ∧ (∀ (b o : Nat), b < B → w'.cell? ⟨b, o, none⟩ = w.cell? ⟨b, o, none⟩))) (fun j => j == 11) (by kernel_rfl) ⟨cV_6, cX_6, (fun b o hlt => TK.out.low (p := ⟨b, o, none⟩) hlt)⟩ (fun hHeld => ?_)
     clear cX_6 cV_6
     have hb994 : Below wd992.heap.size wd992 (wd992.drew) := (Below.refl _ _).drew
     replace R := dB R hb994
     replace X := dB X hb994
     replace V := dB V hb994
     replace O := dK O hb994
     replace TK := Lib.hid (TK.out.below hb994)
     clear hb994
     generalize wd992.drew = wd995 at *
     refine tkT (i := 0) (v := ?k996) ?_
     simp only [put_laws2]
     refine tkT (i := 1) (v := ?k997) ?_
     simp only [put_laws2]
     refine tkT (i := 2) (v := ?k998) ?_
     simp only [put_laws2]
     refine tkT (i := 3) (v := ?k999) ?_
     simp only [put_laws2]
     refine tkT (i := 4) (v := ?k1000) ?_
     simp only [put_laws2]
     refine tkT (i := 5) (v := ?k1001) ?_
     simp only [put_laws2]
     refine tkT (i := 6) (v := ?k1002) ?_
     simp only [put_laws2]
     refine tkT (i := 7) (v := ?k1003) ?_
     simp only [put_laws2]
     refine rdT1 (i := 8) (fun K hK => ?_)
     have hUL := O.out.le
     go_simp
     obtain ⟨wd1005, hE1006⟩ : ∃ ww, ww = wd995.alloc (.cells #[.int .i64 y.dflt.kind, .bool y.dflt.bool, .int .i64 y.dflt.num, .string ⟨y.dflt.str.toArray⟩, .int .i64 y.dflt.id, .slice D1 y.dflt.keys.length f1, .slice D2 y.dflt.items.length f2, .slice D3 y.dflt.rest.length f3] 34) := ⟨_, rfl⟩
     rw [← hE1006]
     have hb1004 := aB hE1006
     have N := aN hE1006
     clear hE1006
     have hl1008 := R.out.here
     have hl1009 := X.out.here
     have hl1010 := V.out.here
     have hl1011 := O.out.le
     have hl1012 := TK.out.gr.size
     replace R := dB R hb1004
     replace X := dB X hb1004
     replace V := dB V hb1004
     replace O := dK O hb1004
     replace TK := Lib.hid (TK.out.below hb1004)
     clear hb1004
     generalize wd995.heap.size = g1007 at *
     try clear hHeld
     refine hK.out _ _ (⟨V.out.cell 6, ⟨X.out.cell 6, (fun b o hlt => TK.out.low (p := ⟨b, o, none⟩) hlt)⟩⟩) (fun hHeld => ?_)
     clear hK K
     refine rdT1 (i := 9) (fun K hK => ?_)
     refine step_append_vals (by rfl) _ _ (by rfl) (O.out.now TK.out.lowh) (by rfl) N.out (by rfl) (HDA.out wd1005) (fun q hq => hq.elim) (by omega) (by have := N.out.here; omega) ?_
     intro v1 w1 hO1 hat hbB hkk
     obtain ⟨Aq, cq, rfl⟩ := hO1.form
     have hS3 : ∀ q, (S q ∨ (fun (_ : Nat) => False) q) → gV + 1 ≤ q := fun q hq => hq.elim (HS.out q) (fun h => by exact h.elim)
     clear O
     clear N
     replace R := dG R hkk (fun hh => by have := HZ1.out _ hh; omega)
     replace X := dG X hkk (fun hh => by have := HZ1.out _ hh; omega)
     replace V := dG V hkk (fun hh => by have := HZ1.out _ hh; omega)
     replace TK := Lib.hid (TK.out.belowL hbB (show w.heap.size ≤ gV + 1 by omega))
     have O := Lib.hid (hO1.keptB (w0 := w) (B := B) (fun q hq => .inr (hS3 q hq)) TK.out.lowh)
     have HS3 := Lib.hid hS3
     clear hO1 hbB hkk hat hS3
     try clear hHeld
     refine hK.out _ _ (⟨V.out.cell 6, ⟨X.out.cell 6, (fun b o hlt => TK.out.low (p := ⟨b, o, none⟩) hlt)⟩⟩) (fun hHeld => ?_)
     clear hK K
     refine tkT (i := 10) (v := ?k1013) ?_
     simp only [put_laws2]
     refine rdTL (i := 11) (fun K hK => ?_)
     have cV_6 : w1.cell? ⟨gV, 6, none⟩ = some (.slice AV xs.length cv) := V.out.cell 6
     have fV_6 := V.out.free 6
     go_simp
     clear cV_6 fV_6
     obtain ⟨wd1014, hE1015⟩ : ∃ ww, ww = w1.setCell ⟨gV, 6, none⟩ (.slice Aq (xs.length + 1) cq) := ⟨_, rfl⟩
     rw [← hE1015]
     replace R := dF R hE1015 (by omega)
     replace X := dF X hE1015 (by omega)
     replace V : Hid (Has wd1014 (gV) 34 #[.int .i64 5, .bool false, .int .i64 0, .string ⟨#[]⟩, .int .i64 0, .slice none 0 0, .slice Aq (xs.length + 1) cq, .slice none 0 0]) := Lib.hid (by simpa using dS V hE1015)
     replace O := kF O hE1015 (by omega)
     replace TK := Lib.hid (TK.out.belowL (hE1015 ▸ below_set (Below.refl (gV) w1) (Nat.le_refl _) 6 (.slice Aq (xs.length + 1) cq)) (show w.heap.size ≤ gV by omega))
     clear hE1015
     try clear hHeld
     refine hK.out _ _ ?_
     clear hK K
     refine wpAnyT_done (by kernel_rfl) ?_ _
     try clear hHeld
     go_wp2_with fail
     go_roundw
     case rel =>
      refine ⟨xs ++ [y.dflt], l', _, Aq, cq, by rw [List.length_append]; exact hp, by simp, by omega, by simpa using V.out, X.out, R.out, TK.out, O.out.now TK.out.lowh, HS3.out, ?_⟩
      rw [show (xs ++ [y.dflt]).length = xs.length + 1 by simp, List.take_add_one, HMG.out]
      exact fitZ_snoc ts _ y.dflt y (HDF1.out hd) xs _ HF.out
     case measure => simp [intOf]; omega
    have hkf : ((k : Int) == 0) = false := by simpa using hkz
    have hkg : ¬ (k : Int) = 0 := by omega
    have cX_6 : wd992.cell? ⟨gX, 6, none⟩ = some (.slice (some ⟨b2, o2, none⟩) ts[i].mems.length m2) := X.out.cell 6
    go_upto_region 22 with fail
    have cV_6 : wd992.cell? ⟨gV, 6, none⟩ = some (.slice AV xs.length cv) := V.out.cell 6
    refine wp_region_T (S := (fun w' => w'.cell? ⟨gV, 6, none⟩ = some (.slice AV xs.length cv) ∧ w'.cell? ⟨gX, 6, none⟩ = some (.slice (some ⟨b2, o2, none⟩) ts[i].mems.length m2) ∧ (∀ (b o : Nat), b < B → w'.cell? ⟨b, o, none⟩ = w.cell? ⟨b, o, none⟩))) (fun j => j == 13) (by kernel_rfl) ⟨cV_6, cX_6, (fun b o hlt => TK.out.low (p := ⟨b, o, none⟩) hlt)⟩ (fun hHeld => ?_)
    clear cX_6 cV_6
    have hb1016 : Below wd992.heap.size wd992 (wd992.drew) := (Below.refl _ _).drew
    replace R := dB R hb1016
    replace X := dB X hb1016
    replace V := dB V hb1016
    replace O := dK O hb1016
    replace TK := Lib.hid (TK.out.below hb1016)
    clear hb1016
    generalize wd992.drew = wd1017 at *
    refine tkT (i := 0) (v := ?k1018) ?_
    simp only [put_laws2]
    refine tkT (i := 1) (v := ?k1019) ?_
    simp only [put_laws2]
    refine tkT (i := 2) (v := ?k1020) ?_
    simp only [put_laws2]
    refine tkT (i := 3) (v := ?k1021) ?_
    simp only [put_laws2]
    refine tkT (i := 4) (v := ?k1022) ?_
    simp only [put_laws2]
    refine tkT (i := 5) (v := ?k1023) ?_
    simp only [put_laws2]
    refine tkT (i := 6) (v := ?k1024) ?_
    simp only [put_laws2]
    refine tkT (i := 7) (v := ?k1025) ?_
    simp only [put_laws2]
    refine tkT (i := 8) (v := ?k1026) ?_
    simp only [put_laws2]
    refine rdT1 (i := 9) (fun K hK => ?_)
    go_simp
    have hUL := O.out.le
    obtain ⟨L0, hL0⟩ : ∃ L, L = wd1017.heap.size := ⟨_, rfl⟩
    rw [← hL0] at hUL
    have hLX0 : gX < L0 := hL0 ▸ X.out.here
    have hLV0 : gV < L0 := hL0 ▸ V.out.here
    have hLR0 : w.heap.size < L0 := hL0 ▸ R.out.here
    have hLg0 : gm < L0 := by have := R.out.here; omega
    ((with_reducible refine (HIC.out l' _ (by omega) TK.out.at_ (HT.out.keep (fun p hp => TK.out.low hp) (Nat.le_refl _))).mono ?_); rintro e wd1027 ⟨y0, yk0, yi0, yr0, l20, rfl, hyp0, hyF0, hT⟩)
    rw [← hL0] at hyp0
    have hTL0 := hT.len
    replace R := Lib.hid (R.out.gr hT.gr (show w.heap.size ≠ gm by omega))
    replace X := Lib.hid (X.out.gr hT.gr (show gX ≠ gm by omega))
    replace V := Lib.hid (V.out.gr hT.gr (show gV ≠ gm by omega))
    replace O := Lib.hid (O.out.gr hT.gr (show U0 ≤ gm ∨ gm < gV + 1 by omega))
    replace TK := Lib.hid (TK.out.trans hT)
    clear hT
    obtain ⟨Y10, z10, Y20, z20, Y30, z30, rfl, rfl, rfl, -, -, -⟩ := hyp0.forms
    have hyk0 := hyp0.keptB (w0 := w) (B := B) (L := L0) (fun _ h => .inr h) TK.out.lowh
    have HYF0 := Lib.hid hyF0
    have Y0 := Lib.hid (hyk0)
    clear hyp0 hyk0 hL0 hyF0
    try clear hHeld
    refine hK.out _ _ (⟨V.out.cell 6, ⟨X.out.cell 6, (fun b o hlt => TK.out.low (p := ⟨b, o, none⟩) hlt)⟩⟩) (fun hHeld => ?_)
    clear hK K
    refine rdT1 (i := 10) (fun K hK => ?_)
    go_simp
    obtain ⟨wd1030, hE1031⟩ : ∃ ww, ww = wd1027.alloc (.cells #[.int .i64 y0.kind, .bool y0.bool, .int .i64 y0.num, .string ⟨y0.str.toArray⟩, .int .i64 y0.id, .slice Y10 y0.keys.length z10, .slice Y20 y0.items.length z20, .slice Y30 y0.rest.length z30] 34) := ⟨_, rfl⟩
    rw [← hE1031]
    have hb1029 := aB hE1031
    have N := aN hE1031
    clear hE1031
    have hl1033 := R.out.here
    have hl1034 := X.out.here
    have hl1035 := V.out.here
    have hl1036 := O.out.le
    have hl1037 := Y0.out.le
    have hl1038 := TK.out.gr.size
    replace R := dB R hb1029
    replace X := dB X hb1029
    replace V := dB V hb1029
    replace O := dK O hb1029
    replace Y0 := dK Y0 hb1029
    replace TK := Lib.hid (TK.out.below hb1029)
    clear hb1029
    generalize wd1027.heap.size = g1032 at *
    try clear hHeld
    refine hK.out _ _ (⟨V.out.cell 6, ⟨X.out.cell 6, (fun b o hlt => TK.out.low (p := ⟨b, o, none⟩) hlt)⟩⟩) (fun hHeld => ?_)
    clear hK K
    refine rdT1 (i := 11) (fun K hK => ?_)
    refine step_append_vals (by rfl) _ _ (by rfl) (O.out.now TK.out.lowh) (by rfl) N.out (by rfl) (Y0.out.now TK.out.lowh).rd (fun q hq => ⟨by have := N.out.here; omega, fun e => by have := HZ1.out q e; have := HZ2.out q e; omega⟩) (by omega) (by have := N.out.here; omega) ?_
    intro v1 w1 hO1 hat hbB hkk
    obtain ⟨Aq, cq, rfl⟩ := hO1.form
    have hS3 : ∀ q, (S q ∨ (fun q => L0 ≤ q ∧ q < g1032) q) → gV + 1 ≤ q := fun q hq => hq.elim (HS.out q) (fun h => by omega)
    clear O
    clear N
    clear Y0
    replace R := dG R hkk (fun hh => by have := HZ1.out _ hh; omega)
    replace X := dG X hkk (fun hh => by have := HZ1.out _ hh; omega)
    replace V := dG V hkk (fun hh => by have := HZ1.out _ hh; omega)
    replace TK := Lib.hid (TK.out.belowL hbB (show w.heap.size ≤ gV + 1 by omega))
    have O := Lib.hid (hO1.keptB (w0 := w) (B := B) (fun q hq => .inr (hS3 q hq)) TK.out.lowh)
    have HS3 := Lib.hid hS3
    clear hO1 hbB hkk hat hS3
    try clear hHeld
    refine hK.out _ _ (⟨V.out.cell 6, ⟨X.out.cell 6, (fun b o hlt => TK.out.low (p := ⟨b, o, none⟩) hlt)⟩⟩) (fun hHeld => ?_)
    clear hK K
    refine tkT (i := 12) (v := ?k1039) ?_
    simp only [put_laws2]
    refine rdTL (i := 13) (fun K hK => ?_)
    have cV_6 : w1.cell? ⟨gV, 6, none⟩ = some (.slice AV xs.length cv) := V.out.cell 6
    have fV_6 := V.out.free 6
    go_simp
    clear cV_6 fV_6
    obtain ⟨wd1040, hE1041⟩ : ∃ ww, ww = w1.setCell ⟨gV, 6, none⟩ (.slice Aq (xs.length + 1) cq) := ⟨_, rfl⟩
    rw [← hE1041]
    replace R := dF R hE1041 (by omega)
    replace X := dF X hE1041 (by omega)
    replace V : Hid (Has wd1040 (gV) 34 #[.int .i64 5, .bool false, .int .i64 0, .string ⟨#[]⟩, .int .i64 0, .slice none 0 0, .slice Aq (xs.length + 1) cq, .slice none 0 0]) := Lib.hid (by simpa using dS V hE1041)
    replace O := kF O hE1041 (by omega)
    replace TK := Lib.hid (TK.out.belowL (hE1041 ▸ below_set (Below.refl (gV) w1) (Nat.le_refl _) 6 (.slice Aq (xs.length + 1) cq)) (show w.heap.size ≤ gV by omega))
    clear hE1041
    try clear hHeld
    refine hK.out _ _ ?_
    clear hK K
    refine wpAnyT_done (by kernel_rfl) ?_ _
    try clear hHeld
    go_wp2_with fail
    go_roundw
    case rel =>
     refine ⟨xs ++ [y0], l20, _, Aq, cq, by rw [List.length_append]; exact hp, by simp, by omega, by simpa using V.out, X.out, R.out, TK.out, O.out.now TK.out.lowh, HS3.out, ?_⟩
     rw [show (xs ++ [y0]).length = xs.length + 1 by simp, List.take_add_one, HMG.out]
     exact fitZ_snoc ts _ y0 y (HYF0.out) xs _ HF.out
    case measure => simp [intOf]; omega
  have he : xs.length = ts[i].mems.length := by omega
  have hcond : (xs.length : Int) = ts[i].mems.length := by omega
  clear hp hq
  have HFA : Hid (fitZ ts (!odd) xs ts[i].mems = true) := Lib.hid (by have := HF.out; rwa [he, List.take_length] at this)
  have HE := Lib.hid he
  have hnl : ¬ ((xs.length : Int) < ts[i].mems.length) := by omega
  clear he
  go_wp2_with fail
  clear cX_6
  ((with_reducible refine (odd_any B gm (.slice (some ⟨b, o, none⟩) ts.length c) odd lc _ TK.out.at_).mono ?_); rintro e wd1042 ⟨bo, l1, hbo, rfl, hT⟩)
  replace R := Lib.hid (R.out.gr hT.gr (show w.heap.size ≠ gm by omega))
  replace X := Lib.hid (X.out.gr hT.gr (show gX ≠ gm by omega))
  replace V := Lib.hid (V.out.gr hT.gr (show gV ≠ gm by omega))
  replace O := Lib.hid (O.out.gr hT.gr (show U0 ≤ gm ∨ gm < gV + 1 by omega))
  replace TK := Lib.hid (TK.out.trans hT)
  clear hT
  have hxl : xs.length ≤ 12 := by have := HE.out; omega
  cases bo with
  | false =>
   go_upto_region 44 with fail
   obtain ⟨cV_0, cV_1, cV_2, cV_3, cV_4, cV_5, cV_6, cV_7⟩ := V.out.c8
   go_wp2_with (refine wpList_store_row rfl 34 _ _ rfl (w.heap.size) _ rfl rfl 34 _ R.out (by kernel_rfl) rfl (by simp [Value.oneCell']) ?_)
   clear cV_0 cV_1 cV_2 cV_3 cV_4 cV_5 cV_6 cV_7
   obtain ⟨wd1044, hE1045⟩ : ∃ ww, ww = wd1042.setRow (w.heap.size) #[.int .i64 5, .bool false, .int .i64 0, .string ⟨#[]⟩, .int .i64 0, .slice none 0 0, .slice AV xs.length cv, .slice none 0 0] := ⟨_, rfl⟩
   rw [← hE1045]
   replace X := dR X hE1045 (by omega)
   replace V := dR V hE1045 (by omega)
   replace R := dO R hE1045
   replace O := kR O hE1045 (by omega)
   replace TK := Lib.hid (TK.out.belowL (hE1045 ▸ below_rowL (w.heap.size) wd1042 #[.int .i64 5, .bool false, .int .i64 0, .string ⟨#[]⟩, .int .i64 0, .slice none 0 0, .slice AV xs.length cv, .slice none 0 0]) (show w.heap.size ≤ w.heap.size by omega))
   clear hE1045
   have ho := O.out.now TK.out.lowh
   have hr := ho.row.keep (S' := fun q => w.heap.size ≤ q ∧ q < wd1044.heap.size) (fun _ _ => rfl) (fun q hq => hq.elim (fun hq => by have := HS.out q hq; have := (ho.sep q hq).1; omega) (fun hq => by have := ho.lt q hq; omega))
   obtain ⟨cR_0, cR_1, cR_2, cR_3, cR_4, cR_5, cR_6, cR_7⟩ := R.out.c8
   exact bodyPost_ret (v := .agg #[.int .i64 5, .bool false, .int .i64 0, .string ⟨#[]⟩, .int .i64 0, .slice none 0 0, .slice AV xs.length cv, .slice none 0 0]) (by simp [results, Try.results40, go_sem, cR_0, cR_1, cR_2, cR_3, cR_4, cR_5, cR_6, cR_7]) rfl (⟨.mk 5 false 0 [] 0 [] xs [], .slice none 0 0, .slice AV xs.length cv, .slice none 0 0, l1, rfl, hold5 _ _ [] _ (by omega) hr (by simp) (by simp) ⟨rfl, none, 0, rfl, Nat.le_refl _, .inl rfl⟩, (by show fitV ts (!odd) _ _ = true; rw [fitV_eq, typAt_get ts i hi]; simp [hk, HE.out, HFA.out, restB, properB, bodyR, Val.kind, Val.bool, Val.num, Val.str, Val.id, Val.keys, Val.items, Val.rest]), TK.out⟩)
  | true =>
   have ho : odd = true := by cases odd with | true => rfl | false => cases hbo rfl
   subst ho
   have hun := unknown_any B gm (.slice (some ⟨b, o, none⟩) ts.length c) true l1 ts[i] (.slice C1 ts[i].syms.length m1) (.slice C2 ts[i].mems.length m2)
   simp only [typA, hk] at hun
   have HUN := Lib.hid hun
   clear hun
   obtain ⟨cX_0, cX_1, cX_2, cX_3, cX_4, cX_5, cX_6, cX_7, cX_8, cX_9⟩ := X.out.c10
   go_wp2_with fail
   clear cX_0 cX_1 cX_2 cX_3 cX_4 cX_5 cX_6 cX_7 cX_8 cX_9
   ((with_reducible refine (HUN.out _ HU.out TK.out.at_ (HTY.out.keep (fun p hp => TK.out.low hp) hBg)).mono ?_); rintro e wd1046 ⟨n, l3, hn1, hn2, hnu, rfl, hT⟩)
   replace R := Lib.hid (R.out.gr hT.gr (show w.heap.size ≠ gm by omega))
   replace X := Lib.hid (X.out.gr hT.gr (show gX ≠ gm by omega))
   replace V := Lib.hid (V.out.gr hT.gr (show gV ≠ gm by omega))
   replace O := Lib.hid (O.out.gr hT.gr (show U0 ≤ gm ∨ gm < gV + 1 by omega))
   replace TK := Lib.hid (TK.out.trans hT)
   clear hT
   have HNU : Hid (usedB ts[i] n = false) := Lib.hid hnu
   clear hnu
   go_wp2_with fail
   ((with_reducible refine (raw_any B gm (.slice (some ⟨b, o, none⟩) ts.length c) true l3 n _ TK.out.at_).mono ?_); rintro e wd1048 ⟨s, l4, hs3, rfl, hT⟩)
   replace R := Lib.hid (R.out.gr hT.gr (show w.heap.size ≠ gm by omega))
   replace X := Lib.hid (X.out.gr hT.gr (show gX ≠ gm by omega))
   replace V := Lib.hid (V.out.gr hT.gr (show gV ≠ gm by omega))
   replace O := Lib.hid (O.out.gr hT.gr (show U0 ≤ gm ∨ gm < gV + 1 by omega))
   replace TK := Lib.hid (TK.out.trans hT)
   clear hT
   simp only [rawA]
   have aV7 : ∀ ob, (wd1048.alloc ob).cell? ⟨gV, 7, none⟩ = some (.slice none 0 0) := fun ob => (V.out.alloc ob).cell 7
   have bV7 : ∀ ob, (wd1048.alloc ob).frozen? ⟨gV, 7, none⟩ = false := fun ob => (V.out.alloc ob).free 7
   go_upto_region 44 with fail
   clear aV7 bV7
   have hZ3 : ∀ q, (Value.slice AV xs.length cv).ownBlock = some q → q < wd1048.heap.size := fun q h => ((O.out.now TK.out.lowh).lt q h).2
   obtain ⟨wd1051, hE1052⟩ : ∃ ww, ww = wd1048.alloc (.cells #[.int .i64 n, .string ⟨s.toArray⟩] 56) := ⟨_, rfl⟩
   rw [← hE1052]
   have hb1050 := aB hE1052
   have N := aN hE1052
   clear hE1052
   have hl1054 := R.out.here
   have hl1055 := X.out.here
   have hl1056 := V.out.here
   have hl1057 := O.out.le
   have hl1058 := TK.out.gr.size
   replace R := dB R hb1050
   replace X := dB X hb1050
   replace V := dB V hb1050
   replace O := dK O hb1050
   replace TK := Lib.hid (TK.out.below hb1050)
   clear hb1050
   generalize wd1048.heap.size = g1053 at *
   obtain ⟨wd1059, hE1060⟩ : ∃ ww, ww = wd1051.setCell ⟨gV, 7, none⟩ (.slice (some ⟨g1053, 0, none⟩) 1 1) := ⟨_, rfl⟩
   rw [← hE1060]
   replace R := dF R hE1060 (by omega)
   replace X := dF X hE1060 (by omega)
   replace N := dF N hE1060 (by omega)
   replace V : Hid (Has wd1059 (gV) 34 #[.int .i64 5, .bool false, .int .i64 0, .string ⟨#[]⟩, .int .i64 0, .slice none 0 0, .slice AV xs.length cv, .slice (some ⟨g1053, 0, none⟩) 1 1]) := Lib.hid (by simpa using dS V hE1060)
   replace O := kF O hE1060 (by omega)
   replace TK := Lib.hid (TK.out.belowL (hE1060 ▸ below_set (Below.refl (gV) wd1051) (Nat.le_refl _) 7 (.slice (some ⟨g1053, 0, none⟩) 1 1)) (show w.heap.size ≤ gV by omega))
   clear hE1060
   obtain ⟨cV_0, cV_1, cV_2, cV_3, cV_4, cV_5, cV_6, cV_7⟩ := V.out.c8
   go_wp2_with (refine wpList_store_row rfl 34 _ _ rfl (w.heap.size) _ rfl rfl 34 _ R.out (by kernel_rfl) rfl (by simp [Value.oneCell']) ?_)
   clear cV_0 cV_1 cV_2 cV_3 cV_4 cV_5 cV_6 cV_7
   obtain ⟨wd1061, hE1062⟩ : ∃ ww, ww = wd1059.setRow (w.heap.size) #[.int .i64 5, .bool false, .int .i64 0, .string ⟨#[]⟩, .int .i64 0, .slice none 0 0, .slice AV xs.length cv, .slice (some ⟨g1053, 0, none⟩) 1 1] := ⟨_, rfl⟩
   rw [← hE1062]
   replace X := dR X hE1062 (by omega)
   replace V := dR V hE1062 (by omega)
   replace N := dR N hE1062 (by omega)
   replace R := dO R hE1062
   replace O := kR O hE1062 (by omega)
   replace TK := Lib.hid (TK.out.belowL (hE1062 ▸ below_rowL (w.heap.size) wd1059 #[.int .i64 5, .bool false, .int .i64 0, .string ⟨#[]⟩, .int .i64 0, .slice none 0 0, .slice AV xs.length cv, .slice (some ⟨g1053, 0, none⟩) 1 1]) (show w.heap.size ≤ w.heap.size by omega))
   clear hE1062
   have hgN := N.out.here
   have hnm : memIdx ts[i] n = none := by
    have := HNU.out
    unfold usedB at this
    cases h : memIdx ts[i] n with
    | none => rfl
    | some q => rw [h] at this; simp at this
   have ho := O.out.now TK.out.lowh
   have hr := ho.row.keep (S' := fun q => w.heap.size ≤ q ∧ q < wd1061.heap.size) (fun _ _ => rfl) (fun q hq => hq.elim (fun hq => by have := HS.out q hq; have := (ho.sep q hq).1; omega) (fun hq => by have := ho.lt q hq; omega))
   have hfr : decide (1 ≤ (n : Int) ∧ (n : Int) ≤ 1000) = true := decide_eq_true (by omega)
   obtain ⟨cR_0, cR_1, cR_2, cR_3, cR_4, cR_5, cR_6, cR_7⟩ := R.out.c8
   exact bodyPost_ret (v := .agg #[.int .i64 5, .bool false, .int .i64 0, .string ⟨#[]⟩, .int .i64 0, .slice none 0 0, .slice AV xs.length cv, .slice (some ⟨g1053, 0, none⟩) 1 1]) (by simp [results, Try.results40, go_sem, cR_0, cR_1, cR_2, cR_3, cR_4, cR_5, cR_6, cR_7]) rfl (⟨.mk 5 false 0 [] 0 [] xs [((n : Int), s)], .slice none 0 0, .slice AV xs.length cv, .slice (some ⟨g1053, 0, none⟩) 1 1, l4, rfl, hold5 _ _ [((n : Int), s)] _ (by omega) hr (by simp) (by intro r hr; simp at hr; subst hr; exact ⟨by simp [I64]; omega, by show s.length ≤ _; omega⟩) (raw_row N.out (by omega)), (by show fitV ts (!true) _ _ = true; rw [fitV_eq, typAt_get ts i hi]; have hz := HFA.out; simp only [Bool.not_true] at hz; simp [hk, HE.out, hz, restB, ltP, freeB, hnm, hfr, properB, bodyR, Val.kind, Val.bool, Val.num, Val.str, Val.id, Val.keys, Val.items, Val.rest]), TK.out⟩)
end Go.Proofs.Ytgeapglanckjpaa

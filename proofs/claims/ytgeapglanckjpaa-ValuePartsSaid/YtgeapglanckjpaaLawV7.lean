/- The statement ValueParts: each path of a value leads to a part that fits its type, and may be cut anywhere and continued. No condition. -/
import Derived.Test.YtgeapglanckjpaaAwake8
import Derived.Test.YtgeapglanckjpaaGI
import Derived.Test.YtgeapglanckjpaaPlainP
import Derived.Test.YtgeapglanckjpaaOf8
import Derived.Test.YtgeapglanckjpaaPaths
import Derived.Test.YtgeapglanckjpaaGC
set_option maxHeartbeats 3200000
namespace Go.Proofs.Ytgeapglanckjpaa
open Go.ChangeShapes Go.WideShapes Go.ChangeAt Go.RowKit
theorem ofN_path (xs : List Nod) : PathTyps (ofN xs) := by
 have hx : ∀ x ∈ ofN xs, ∃ i, ∃ h : i < xs.length, x = typN xs i xs[i] := fun x hx => by
  unfold ofN at hx
  obtain ⟨i, hi, rfl⟩ := List.mem_mapIdx.1 hx
  exact ⟨i, hi, rfl⟩
 refine ⟨fun x h => ?_, fun x h k hk => ?_, fun x h m hm => ?_⟩
 ·
  obtain ⟨i, hi, rfl⟩ := hx x h
  exact typN_kind xs i xs[i]
 ·
  obtain ⟨i, hi, rfl⟩ := hx x h
  exact memIdx_nodup _ (typN_nodup xs i hi) k hk
 obtain ⟨i, hi, rfl⟩ := hx x h
 have := (typN_make xs i hi).mems.2 m hm
 omega
def AtOk (z : Val) (i : Int) (w : World) (e : Ending) (w' : World) : Prop :=
 ∃ zk zi zr, e = .returned (.tuple #[valA z zk zi zr, .int .i64 i, .int .i64 0]) ∧ ValP w' (fun b => w.heap.size ≤ b ∧ b < w'.heap.size) z zk zi zr ∧ Below w.heap.size w w'
theorem vat_ok (ts : List Typ) (A : Option Addr) (c : Nat) (t : Int) (v : Val) (path : List Int) (vk vi vr vp : Value) (w : World) (z : Val) (i : Int) (hk : Kinds ts) (hwt : wt v ≤ 5000) (hpl : path.length ≤ 100000) (hpi : ∀ n ∈ path, 0 ≤ n ∧ n ≤ 2000) (hf : fitV ts false v t = true) (ha : atV ts path v t = some (z, i))
  (ht : RdTyps w w.heap.size (.slice A ts.length c) ts) (hv : ValAt w w.heap.size v vk vi vr) (hp : Rd w w.heap.size 1 vp path.length (iV path)) :
  Calls Try.prog 13 #[.agg #[.slice A ts.length c], .int .i64 t, valA v vk vi vr, vp] w (AtOk z i w) := by
 have h := vat_fresh ts A c t v path vk vi vr vp w hk hwt (by omega) (fun n hn => by have := hpi n hn; unfold I64; omega) ht hv hp
 have he : atE ts path v t = .ok (z, i) := by unfold atE; rw [if_pos hf, ha]
 rw [he] at h
 exact h.mono fun e w' ⟨⟨vk, vi, vr, h1, h2⟩, h3⟩ => ⟨vk, vi, vr, h1, h2, h3⟩
theorem path_take {w : World} {S : Nat → Prop} {B n c : Nat} {A : Option Addr} {q : List Int} (h : RdP w S 1 (.slice A n c) n (iV q)) (hn : n = q.length) (m : Nat) (hm : m ≤ n) (hS : ∀ b, S b → b < B) : Rd w B 1 (.slice A m c) m (iV (q.take m)) := by
 obtain ⟨_, A', c', hv, hc, h2⟩ := h
 injection hv with h3 h4 h5
 subst h3 h5
 refine ⟨by simp; omega, _, _, rfl, by omega, ?_⟩
 rcases h2 with h2 | ⟨b, o, hA, hb, hcell⟩
 ·
  exact .inl (by omega)
 refine .inr ⟨b, o, hA, hS b hb, fun j u hu => hcell j u ?_⟩
 have hj : j < m := by
  have := (List.getElem?_eq_some_iff.1 hu).1
  simp at this; omega
 unfold iV at hu ⊢
 rw [List.map_take, List.getElem?_take_of_lt hj] at hu
 exact hu
theorem path_drop {w : World} {S : Nat → Prop} {B n c : Nat} {A : Option Addr} {q : List Int} (h : RdP w S 1 (.slice A n c) n (iV q)) (hn : n = q.length) (m : Nat) (hm : m ≤ n) (hS : ∀ b, S b → b < B) (A2 : Option Addr) (c2 : Nat) (hc2 : n - m ≤ c2) (hA2 : m < n → A2 = A.map (·.add m)) : Rd w B 1 (.slice A2 (n - m) c2) (n - m) (iV (q.drop m)) := by
 obtain ⟨_, A', c', hv, hc, h2⟩ := h
 injection hv with h3 h4 h5
 subst h3 h5
 refine ⟨by simp; omega, _, _, rfl, hc2, ?_⟩
 by_cases hmn : m < n
 ·
  rcases h2 with h2 | ⟨b, o, rfl, hb, hcell⟩
  ·
   exact .inl (by omega)
  refine .inr ⟨b, o + m, by rw [hA2 hmn]; simp [addr_add], hS b hb, fun j u hu => ?_⟩
  have := hcell (m + j) u (by unfold iV at hu ⊢; rw [List.map_drop, List.getElem?_drop] at hu; exact hu)
  rw [show o + m + j = o + (m + j) by omega]; exact this
 exact .inl (by omega)
theorem wf_u8 {a : Int} (h : (Lit.int .u8 a).wf = true) : ∃ n : Nat, a = (n : Int) ∧ n < 256 := wf_u8n h
def PartsInv (w wr : World) (gS gU : Nat) (cs cu : Array Value) (n : Nat) (s : Value) : Prop := ∃ k : Nat, k ≤ n ∧ s = .int .i64 k ∧ Has wr gS 30 cs ∧ Has wr gU 34 cu ∧ Below w.heap.size w wr
/- a call of At that leads to the part %v% -/
set_option maxRecDepth 100000 in
theorem walk_ValueParts (xs : List Nod) (vn : Value) (t0 : Nat) (ht0 : t0 < 256) (l : List UInt8) (hl : l.length ≤ 140737488351232) (vl : Value) (_ : xs.length ≤ 140737488351232) (c0 : Nat) (hc0 : c0 < 256) (w : World) (hr : RdNods w w.heap.size vn xs) (hb : Rd w w.heap.size 1 vl l.length (l.map B8)) :
  Calls Try.prog 4 #[.agg #[vn, .int .u8 t0, vl], .int .u8 c0] w fun e w' => e = .returned (.bool true) ∧ Below w.heap.size w w' := by
 obtain ⟨A, c, rfl, hcap⟩ := hr.form
 obtain ⟨A2, c2, rfl, hcap2⟩ := hb.form
 have HR := Lib.hid hr
 have HB0 := Lib.hid hb
 clear hr hb
 go_enter Try.func4, Try.ntmps4
 go_upto_region 1 with fail
 obtain ⟨wd1994, hE1995⟩ : ∃ ww, ww = w.alloc (.cells #[.slice A xs.length c, .int .u8 t0, .slice A2 l.length c2] 27) := ⟨_, rfl⟩
 rw [← hE1995]
 have hb1993 := aB hE1995
 have D := aN hE1995
 clear hE1995
 have hw1996 := hb1993
 clear hb1993
 have cD_0 : wd1994.cell? ⟨w.heap.size, 0, none⟩ = some (.slice A xs.length c) := D.out.cell 0
 have cD_1 : wd1994.cell? ⟨w.heap.size, 1, none⟩ = some (.int .u8 t0) := D.out.cell 1
 have cD_2 : wd1994.cell? ⟨w.heap.size, 2, none⟩ = some (.slice A2 l.length c2) := D.out.cell 2
 go_wp2_with fail
 cases hok : ofOk xs with
 | false =>
  have hno := fun W h1 h2 => of8_no xs (.slice A xs.length c) t0 l (.slice A2 l.length c2) W hok h1 h2
  have HNO := Lib.hid hno
  clear hno hok
  clear cD_0 cD_1 cD_2
  ((with_reducible refine (HNO.out _ (HR.out.on hw1996) ((HB0.out.below hw1996).mono (hw1996).size)).mono ?_); rintro e wd1997 ⟨rfl, hb1998⟩)
  replace D := dB D hb1998
  replace hw1996 := dT hw1996 hb1998
  clear hb1998
  go_upto_region 2 with fail
  obtain ⟨wd2000, hE2001⟩ : ∃ ww, ww = wd1997.alloc (.cells #[.slice none 0 0] 30) := ⟨_, rfl⟩
  rw [← hE2001]
  have hb1999 := aB hE2001
  have S := aN hE2001
  obtain ⟨wd2002, hE2003⟩ : ∃ ww, ww = wd2000.alloc (.cells #[.int .i64 0, .bool false, .int .i64 0, .string ⟨#[]⟩, .int .i64 0, .slice none 0 0, .slice none 0 0, .slice none 0 0] 34) := ⟨_, rfl⟩
  rw [← hE2003]
  replace S := dB S (aB hE2003)
  replace hb1999 := dT hb1999 (aB hE2003)
  have V := aM hE2003 (aZ hE2001 rfl)
  obtain ⟨wd2004, hE2005⟩ : ∃ ww, ww = wd2002.alloc (.cells #[.int .i64 0, .bool false, .int .i64 0, .string ⟨#[]⟩, .int .i64 0, .slice none 0 0, .slice none 0 0, .slice none 0 0] 34) := ⟨_, rfl⟩
  rw [← hE2005]
  replace S := dB S (aB hE2005)
  replace V := dB V (aB hE2005)
  replace hb1999 := dT hb1999 (aB hE2005)
  have U := aM hE2005 (aZ hE2003 (aZ hE2001 rfl))
  clear hE2001 hE2003 hE2005
  have hl2007 := D.out.here
  have hl2008 := hw1996.size
  replace D := dB D hb1999
  replace hw1996 := dT hw1996 hb1999
  clear hb1999
  generalize wd1997.heap.size = g2006 at *
  go_wp2_with fail
  ((with_reducible refine (awake_any _).mono ?_); rintro e wd2009 ⟨rfl, hb2010⟩)
  replace D := dB D hb2010
  replace S := dB S hb2010
  replace V := dB V hb2010
  replace U := dB U hb2010
  replace hw1996 := dT hw1996 hb2010
  clear hb2010
  go_wp2_with fail
  ((with_reducible refine (awake_any _).mono ?_); rintro e wd2011 ⟨rfl, hb2012⟩)
  replace D := dB D hb2012
  replace S := dB S hb2012
  replace V := dB V hb2012
  replace U := dB U hb2012
  replace hw1996 := dT hw1996 hb2012
  clear hb2012
  go_wp2_with fail
  go_ret
  exact ⟨rfl, hw1996⟩
 | true =>
  have hok2 : 0 < xs.length ∧ xs.length ≤ 5 := by unfold ofOk at hok; simp at hok; omega
  have hyes := fun W h1 h2 => of8_yes xs (.slice A xs.length c) t0 ht0 l hl (.slice A2 l.length c2) W hok2 h1 h2
  unfold Of8Post at hyes
  have hkn := ofN_kinds xs
  have hpt := ofN_path xs
  generalize ofN xs = ts at *
  generalize t0 % xs.length = t at *
  have HYES := Lib.hid hyes
  have HKN := Lib.hid hkn
  have HPT := Lib.hid hpt
  clear hyes hok hok2 hkn hpt
  clear cD_0 cD_1 cD_2
  ((with_reducible refine (HYES.out _ (HR.out.on hw1996) ((HB0.out.below hw1996).mono (hw1996).size)).mono ?_); rintro e wd2013 ⟨vt, x, xk, xi, xr, y, yk, yi, yr, rfl, htr, hx, hy, -, hyf, hb2014⟩)
  replace D := dB D hb2014
  replace hw1996 := dT hw1996 hb2014
  clear hb2014
  obtain ⟨At, ct, rfl, _⟩ := htr.form
  obtain ⟨X1, d1, X2, d2, X3, d3, rfl, rfl, rfl, -, -, -⟩ := hx.forms
  obtain ⟨Y1, g1, Y2, g2, Y3, g3, rfl, rfl, rfl, -, -, -⟩ := hy.forms
  have HYF := Lib.hid hyf
  clear hyf
  have HT := Lib.hid (Kept.rd (P := fun w B => RdTyps w B (.slice At ts.length ct) ts) htr (Nat.le_refl _) (fun _ hk => htr.keep hk (Nat.le_refl _)))
  have HY := Lib.hid (Kept.rd (P := fun w B => ValAt w B y (.slice Y1 y.keys.length g1) (.slice Y2 y.items.length g2) (.slice Y3 y.rest.length g3)) hy (Nat.le_refl _) (fun _ hk => hy.keep hk (Nat.le_refl _)))
  clear htr hx hy
  go_upto_region 2 with fail
  obtain ⟨wd2016, hE2017⟩ : ∃ ww, ww = wd2013.alloc (.cells #[.slice At ts.length ct] 30) := ⟨_, rfl⟩
  rw [← hE2017]
  have hb2015 := aB hE2017
  have S := aN hE2017
  obtain ⟨wd2018, hE2019⟩ : ∃ ww, ww = wd2016.alloc (.cells #[.int .i64 x.kind, .bool x.bool, .int .i64 x.num, .string ⟨x.str.toArray⟩, .int .i64 x.id, .slice X1 x.keys.length d1, .slice X2 x.items.length d2, .slice X3 x.rest.length d3] 34) := ⟨_, rfl⟩
  rw [← hE2019]
  replace S := dB S (aB hE2019)
  replace hb2015 := dT hb2015 (aB hE2019)
  have V := aM hE2019 (aZ hE2017 rfl)
  obtain ⟨wd2020, hE2021⟩ : ∃ ww, ww = wd2018.alloc (.cells #[.int .i64 y.kind, .bool y.bool, .int .i64 y.num, .string ⟨y.str.toArray⟩, .int .i64 y.id, .slice Y1 y.keys.length g1, .slice Y2 y.items.length g2, .slice Y3 y.rest.length g3] 34) := ⟨_, rfl⟩
  rw [← hE2021]
  replace S := dB S (aB hE2021)
  replace V := dB V (aB hE2021)
  replace hb2015 := dT hb2015 (aB hE2021)
  have U := aM hE2021 (aZ hE2019 (aZ hE2017 rfl))
  clear hE2017 hE2019 hE2021
  have hl2023 := D.out.here
  have hl2024 := HT.out.le
  have hl2025 := HY.out.le
  have hl2026 := hw1996.size
  replace D := dB D hb2015
  replace HT := dK HT hb2015
  replace HY := dK HY hb2015
  replace hw1996 := dT hw1996 hb2015
  clear hb2015
  generalize wd2013.heap.size = g2022 at *
  go_wp2_with fail
  ((with_reducible refine (awake_any _).mono ?_); rintro e wd2027 ⟨rfl, hb2028⟩)
  replace D := dB D hb2028
  replace S := dB S hb2028
  replace V := dB V hb2028
  replace U := dB U hb2028
  replace HT := dK HT hb2028
  replace HY := dK HY hb2028
  replace hw1996 := dT hw1996 hb2028
  clear hb2028
  obtain ⟨cU_0, cU_1, cU_2, cU_3, cU_4, cU_5, cU_6, cU_7⟩ := U.out.c8
  go_wp2_with fail
  clear cU_0 cU_1 cU_2 cU_3 cU_4 cU_5 cU_6 cU_7
  ((with_reducible refine (small_any y _ _ _ _ (HY.out.now.keep (fun _ _ => rfl) HY.out.le)).mono ?_); rintro e wd2029 ⟨rfl, hb2030⟩)
  replace D := dB D hb2030
  replace S := dB S hb2030
  replace V := dB V hb2030
  replace U := dB U hb2030
  replace HT := dK HT hb2030
  replace HY := dK HY hb2030
  replace hw1996 := dT hw1996 hb2030
  clear hb2030
  cases hs : smallB y with
  | false =>
   clear hs
   go_wp2_with fail
   ((with_reducible refine (awake_any _).mono ?_); rintro e wd2031 ⟨rfl, hb2032⟩)
   replace D := dB D hb2032
   replace S := dB S hb2032
   replace V := dB V hb2032
   replace U := dB U hb2032
   replace HT := dK HT hb2032
   replace HY := dK HY hb2032
   replace hw1996 := dT hw1996 hb2032
   clear hb2032
   go_wp2_with fail
   go_ret
   exact ⟨rfl, hw1996⟩
  | true =>
   have hwt : wt y ≤ 3000 := small_wt y hs
   have hnd := small_nodes y hs
   clear hs
   obtain ⟨cU_0, cU_1, cU_2, cU_3, cU_4, cU_5, cU_6, cU_7⟩ := U.out.c8
   go_wp2_with fail
   clear cU_0 cU_1 cU_2 cU_3 cU_4 cU_5 cU_6 cU_7
   ((with_reducible refine (rnodes_any (nodes y) y _ _ _ _ (Nat.le_refl _) (by omega) (HY.out.now.keep (fun _ _ => rfl) HY.out.le)).mono ?_); rintro e wd2033 ⟨rfl, hb2034⟩)
   replace D := dB D hb2034
   replace S := dB S hb2034
   replace V := dB V hb2034
   replace U := dB U hb2034
   replace HT := dK HT hb2034
   replace HY := dK HY hb2034
   replace hw1996 := dT hw1996 hb2034
   clear hb2034
   by_cases h60 : 60 < nodes y
   ·
    have h61 : (60 : Int) < (nodes y : Nat) := by omega
    go_wp2_with fail
    ((with_reducible refine (awake_any _).mono ?_); rintro e wd2035 ⟨rfl, hb2036⟩)
    replace D := dB D hb2036
    replace S := dB S hb2036
    replace V := dB V hb2036
    replace U := dB U hb2036
    replace HT := dK HT hb2036
    replace HY := dK HY hb2036
    replace hw1996 := dT hw1996 hb2036
    clear hb2036
    go_wp2_with fail
    go_ret
    exact ⟨rfl, hw1996⟩
   have h61 : ¬ (60 : Int) < (nodes y : Nat) := by omega
   have cS_0 : wd2033.cell? ⟨g2022, 0, none⟩ = some (.slice At ts.length ct) := S.out.cell 0
   obtain ⟨cU_0, cU_1, cU_2, cU_3, cU_4, cU_5, cU_6, cU_7⟩ := U.out.c8
   go_upto_region 4 with fail
   clear h61
   go_wp2_with fail
   clear cS_0 cU_0 cU_1 cU_2 cU_3 cU_4 cU_5 cU_6 cU_7
   ((with_reducible refine (paths_any ts HPT.out At ct (nodes y) y t _ _ _ _ (Nat.le_refl _) (by omega) HYF.out (HT.out.now.keep (fun _ _ => rfl) HT.out.le) (HY.out.now.keep (fun _ _ => rfl) HY.out.le)).mono ?_); rintro e wd2037 ⟨vp, rfl, hps, hb2038⟩)
   replace D := dB D hb2038
   replace S := dB S hb2038
   replace V := dB V hb2038
   replace U := dB U hb2038
   replace HT := dK HT hb2038
   replace HY := dK HY hb2038
   replace hw1996 := dT hw1996 hb2038
   clear hb2038
   have hall := paths_at ts HPT.out (nodes y) y t (Nat.le_refl _) HYF.out
   have hpn := paths_num ts y t
   obtain ⟨Al, cl, rfl, -⟩ := hps.form
   generalize pathsV ts y t = ps at *
   have HPS := Lib.hid (hps.keep (S' := fun b => b < wd2037.heap.size) (fun _ _ => rfl) (fun _ h => h.2))
   have HAL := Lib.hid hall
   have HTL := Lib.hid (HT.out.now.keep (fun _ _ => rfl) HT.out.le)
   have HYL := Lib.hid (HY.out.now.keep (fun _ _ => rfl) HY.out.le)
   have HW0 := Lib.hid hw1996
   have HSL := Lib.hid S.out
   have HUL := Lib.hid U.out
   clear hps hall S V U HT HY D
   generalize g2022 = gS at *
   generalize hwL : wd2037 = wL at *
   go_wp2_with fail
   go_loopw [52] (fun s wr => PartsInv wL wr gS (gS + 1 + 1) #[.slice At ts.length ct] #[.int .i64 y.kind, .bool y.bool, .int .i64 y.num, .string ⟨y.str.toArray⟩, .int .i64 y.id, .slice Y1 y.keys.length g1, .slice Y2 y.items.length g2, .slice Y3 y.rest.length g3] ps.length s) (fun s _ => ps.length - (intOf s).toNat)
   case atStart => exact ⟨0, by omega, rfl, HSL.out, HUL.out, Below.refl _ _⟩
   case round =>
    clear HSL HUL
    obtain ⟨k, hk, rfl, S, U, hw⟩ := hrel
    replace S := Lib.hid S
    replace U := Lib.hid U
    by_cases hlt : k < ps.length
    ·
     have hlt1 : (k : Int) < ps.length := by omega
     have hk0 : (0 : Int) ≤ (k : Int) := by omega
     obtain ⟨b4, o4, rfl, hb4, hel⟩ := HPS.out.at_ (by omega)
     obtain ⟨u, hu, hpu⟩ := hel k hlt
     obtain ⟨⟨z, i, hat, hfz⟩, hin, hql⟩ := HAL.out _ (List.getElem_mem hlt)
     generalize ps[k] = q at *
     obtain ⟨⟨hp1, Au, cu, rfl, hcu, hp2⟩, -⟩ := hpu
     have hq0 : RdP wL (fun b => b < wL.heap.size) 1 (.slice Au q.length cu) q.length (iV q) := ⟨hp1, Au, cu, rfl, hcu, hp2⟩
     have hq60 : q.length ≤ 60 := by omega
     obtain ⟨m, hm⟩ : ∃ m, m = c0 % (q.length + 1) := ⟨_, rfl⟩
     have hmq : m ≤ q.length := by have := Nat.mod_lt c0 (show 0 < q.length + 1 by omega); omega
     obtain ⟨z1, i1, hat1, hat2⟩ := paths_cut ts q m y t z i hat
     obtain ⟨hf1, hw1⟩ := at_fits ts HPT.out _ y t z1 i1 HYF.out hat1
     have hin2 : ∀ n ∈ q, 0 ≤ n ∧ n ≤ 2000 := fun n hn => by have := hin n hn; omega
     have HQ := Lib.hid (hq0.rd (fun _ h => h))
     have HC := Lib.hid (path_take hq0 rfl m hmq (fun _ h => h))
     have HQ0 := Lib.hid hq0
     have ha1 := vat_ok ts At ct t y q (.slice Y1 y.keys.length g1) (.slice Y2 y.items.length g2) (.slice Y3 y.rest.length g3) (.slice Au q.length cu)
     have HA1 := Lib.hid (fun W => ha1 W z i HKN.out (by omega) (by omega) hin2 HYF.out hat)
     have hl2 : (q.take m).length = m := by rw [List.length_take]; omega
     have ha2 := vat_ok ts At ct t y (q.take m) (.slice Y1 y.keys.length g1) (.slice Y2 y.items.length g2) (.slice Y3 y.rest.length g3) (.slice Au m cu)
     rw [hl2] at ha2
     have HA2 := Lib.hid (fun W => ha2 W z1 i1 HKN.out (by omega) (by omega) (fun n hn => hin2 n (List.mem_of_mem_take hn)) HYF.out hat1)
     have hl3 : (q.drop m).length = q.length - m := List.length_drop
     have HA3 := Lib.hid (fun vk vi vr vp W h1 h2 (h3 : Rd W W.heap.size 1 vp (q.length - m) (iV (q.drop m))) => vat_ok ts At ct i1 z1 (q.drop m) vk vi vr vp W z i HKN.out (by omega) (by omega) (fun n hn => hin2 n (List.mem_of_mem_drop hn)) hf1 hat2 h1 h2 (by rw [hl3]; exact h3))
     have HZZ := Lib.hid ((sameV_iff z z).2 rfl)
     have HFZ := Lib.hid hfz
     have HM := Lib.hid hm
     have HT := HTL
     have hur := (hw.cell (p := ⟨b4, o4 + k, none⟩) hb4).trans hu
     clear hp1 hp2 hq0 ha1 ha2 hl2 hl3 hat hfz hin hin2 hat1 hat2 hf1 hw1 hm hel hu
     have cS_0 : wr.cell? ⟨gS, 0, none⟩ = some (.slice At ts.length ct) := S.out.cell 0
     obtain ⟨cU_0, cU_1, cU_2, cU_3, cU_4, cU_5, cU_6, cU_7⟩ := U.out.c8
     go_upto_region 7 with fail
     go_wp2_with fail
     obtain ⟨LX, hLX⟩ : ∃ L, L = wr.heap.size := ⟨_, rfl⟩
     skip
     clear cS_0 cU_0 cU_1 cU_2 cU_3 cU_4 cU_5 cU_6 cU_7
     ((with_reducible refine (HA1.out _ (HT.out.on hw) (HYL.out.on hw) ((HQ.out.below hw).mono (hw).size)).mono ?_); rintro e wd2039 ⟨Xk, Xi, Xr, rfl, hX, hb2040⟩)
     replace S := dB S hb2040
     replace U := dB U hb2040
     replace hw := dT hw hb2040
     clear hb2040
     obtain ⟨X1, gX1, X2, gX2, X3, gX3, rfl, rfl, rfl, -, -, -⟩ := hX.forms
     rw [← hLX] at hX
     have KX := Lib.hid (hX.keptN)
     clear hX hLX
     go_upto_region 8 with fail
     obtain ⟨wd2042, hE2043⟩ : ∃ ww, ww = wd2039.alloc (.cells #[.int .i64 z.kind, .bool z.bool, .int .i64 z.num, .string ⟨z.str.toArray⟩, .int .i64 z.id, .slice X1 z.keys.length gX1, .slice X2 z.items.length gX2, .slice X3 z.rest.length gX3] 34) := ⟨_, rfl⟩
     rw [← hE2043]
     have hb2041 := aB hE2043
     have X := aN hE2043
     clear hE2043
     have hl2045 := S.out.here
     have hl2046 := U.out.here
     have hl2047 := KX.out.le
     have hl2048 := hw.size
     replace S := dB S hb2041
     replace U := dB U hb2041
     replace KX := dK KX hb2041
     replace hw := dT hw hb2041
     clear hb2041
     generalize wd2039.heap.size = g2044 at *
     have cS_0 : wd2042.cell? ⟨gS, 0, none⟩ = some (.slice At ts.length ct) := S.out.cell 0
     obtain ⟨cX_0, cX_1, cX_2, cX_3, cX_4, cX_5, cX_6, cX_7⟩ := X.out.c8
     go_wp2_with fail
     clear cS_0 cX_0 cX_1 cX_2 cX_3 cX_4 cX_5 cX_6 cX_7
     ((with_reducible refine (rfits_any z ts At ct i _ _ _ _ HKN.out (HT.out.on hw) (KX.out.now.at_ (fun q hq => by have := KX.out.le; omega))).mono ?_); rintro e wd2049 ⟨rfl, hb2050⟩)
     replace S := dB S hb2050
     replace U := dB U hb2050
     replace X := dB X hb2050
     replace KX := dK KX hb2050
     replace hw := dT hw hb2050
     clear hb2050
     rw [HFZ.out]
     have cS_0 : wd2049.cell? ⟨gS, 0, none⟩ = some (.slice At ts.length ct) := S.out.cell 0
     obtain ⟨cX_0, cX_1, cX_2, cX_3, cX_4, cX_5, cX_6, cX_7⟩ := X.out.c8
     go_wp2_with fail
     clear cS_0 cX_0 cX_1 cX_2 cX_3 cX_4 cX_5 cX_6 cX_7
     ((with_reducible refine (vfits_any z ts At ct i _ _ _ _ HKN.out (HT.out.on hw) (KX.out.now.at_ (fun q hq => by have := KX.out.le; omega))).mono ?_); rintro e wd2051 ⟨rfl, hb2052⟩)
     replace S := dB S hb2052
     replace U := dB U hb2052
     replace X := dB X hb2052
     replace KX := dK KX hb2052
     replace hw := dT hw hb2052
     clear hb2052
     rw [HFZ.out]
     have e1 : IntKind.i64.wrap (c0 : Int) = c0 := IntWalk.i64_in _ (by omega)
     have e2 : ¬ ((q.length : Int) + 1 = 0) := by omega
     have e3 : (c0 : Int).tmod ((q.length : Int) + 1) = (m : Int) := by rw [Int.tmod_eq_emod_of_nonneg (by omega), HM.out]; push_cast; rfl
     have e4 : IntKind.i64.wrap (m : Int) = m := IntWalk.i64_in _ (by omega)
     go_upto_region 11 with fail
     clear e1 e2 e3 e4
     have f1 : (m : Int) ≤ cu := by omega
     have f2 : (0 : Int) ≤ (m : Int) := by omega
     have f3 : (m : Int) ≤ q.length := by omega
     obtain ⟨A5, hA5, hA6⟩ : ∃ A5, (if cu = m then Au else Option.map (fun x => x.add m) Au) = A5 ∧ (m < q.length → A5 = Au.map (·.add m)) := ⟨_, rfl, fun h => if_neg (by omega)⟩
     have HD := Lib.hid (path_drop HQ0.out rfl m hmq (fun _ h => h) A5 (cu - m) (by omega) hA6)
     clear hA6
     have cS_0 : wd2051.cell? ⟨gS, 0, none⟩ = some (.slice At ts.length ct) := S.out.cell 0
     obtain ⟨cU_0, cU_1, cU_2, cU_3, cU_4, cU_5, cU_6, cU_7⟩ := U.out.c8
     refine wp_region_held_drew (S := (fun w' => w'.cell? ⟨gS, 0, none⟩ = some (.slice At ts.length ct) ∧ w'.cell? ⟨gS + 1 + 1, 0, none⟩ = some (.int .i64 y.kind) ∧ w'.cell? ⟨gS + 1 + 1, 1, none⟩ = some (.bool y.bool) ∧ w'.cell? ⟨gS + 1 + 1, 2, none⟩ = some (.int .i64 y.num) ∧ w'.cell? ⟨gS + 1 + 1, 3, none⟩ = some (.string ⟨y.str.toArray⟩) ∧ w'.cell? ⟨gS + 1 + 1, 4, none⟩ = some (.int .i64 y.id) ∧ w'.cell? ⟨gS + 1 + 1, 5, none⟩ = some (.slice Y1 y.keys.length g1) ∧ w'.cell? ⟨gS + 1 + 1, 6, none⟩ = some (.slice Y2 y.items.length g2) ∧ w'.cell? ⟨gS + 1 + 1, 7, none⟩ = some (.slice Y3 y.rest.length g3))) (by kernel_rfl) ⟨cS_0, cU_0, cU_1, cU_2, cU_3, cU_4, cU_5, cU_6, cU_7⟩ (fun hHeld => ?_)
     clear cS_0 cU_0 cU_1 cU_2 cU_3 cU_4 cU_5 cU_6 cU_7
     have hb2053 : Below wd2051.heap.size wd2051 (wd2051.drew) := (Below.refl _ _).drew
     replace S := dB S hb2053
     replace U := dB U hb2053
     replace X := dB X hb2053
     replace KX := dK KX hb2053
     replace hw := dT hw hb2053
     clear hb2053
     generalize wd2051.drew = wd2054 at *
     refine tk (i := 0) (v := ?k2055) ?_
     simp only [put_laws2]
     refine tk (i := 1) (v := ?k2056) ?_
     simp only [put_laws2]
     refine tk (i := 2) (v := ?k2057) ?_
     simp only [put_laws2]
     refine tk (i := 3) (v := ?k2058) ?_
     simp only [put_laws2]
     refine tk (i := 4) (v := ?k2059) ?_
     simp only [put_laws2]
     refine tk (i := 5) (v := ?k2060) ?_
     simp only [put_laws2]
     refine wpAnyH_ready (rs := [6, 11]) (by kernel_rfl) (by simp) ?_
     refine AllReadyH.cons rfl (fun K hK => ?_) (AllReadyH.cons rfl (fun K hK => ?_) (AllReadyH.nil))
     ·
      skip
      go_simp
      obtain ⟨LF, hLF⟩ : ∃ L, L = wd2054.heap.size := ⟨_, rfl⟩
      skip
      ((with_reducible refine (HA2.out _ (HT.out.on hw) (HYL.out.on hw) ((HC.out.below hw).mono (hw).size)).mono ?_); rintro e wd2061 ⟨Fk, Fi, Fr, rfl, hF, hb2062⟩)
      replace S := dB S hb2062
      replace U := dB U hb2062
      replace X := dB X hb2062
      replace KX := dK KX hb2062
      replace hw := dT hw hb2062
      clear hb2062
      obtain ⟨F1, gF1, F2, gF2, F3, gF3, rfl, rfl, rfl, -, -, -⟩ := hF.forms
      rw [← hLF] at hF
      have KF := Lib.hid (hF.keptN)
      clear hF hLF
      try clear hHeld
      refine hK.out _ _ (⟨S.out.cell 0, U.out.c8⟩) (fun hHeld => ?_)
      clear hK K
      refine tk (i := 7) (v := ?k2063) ?_
      simp only [put_laws2]
      refine tk (i := 8) (v := ?k2064) ?_
      simp only [put_laws2]
      refine tk (i := 9) (v := ?k2065) ?_
      simp only [put_laws2]
      refine tk (i := 10) (v := ?k2066) ?_
      simp only [put_laws2]
      refine rd1 (i := 11) (fun K hK => ?_)
      go_simp
      obtain ⟨wd2068, hE2069⟩ : ∃ ww, ww = wd2061.alloc (.cells #[.int .i64 0, .bool false, .int .i64 0, .string ⟨#[]⟩, .int .i64 0, .slice none 0 0, .slice none 0 0, .slice none 0 0] 34) := ⟨_, rfl⟩
      rw [← hE2069]
      have hb2067 := aB hE2069
      have F := aN hE2069
      clear hE2069
      have hl2071 := S.out.here
      have hl2072 := U.out.here
      have hl2073 := X.out.here
      have hl2074 := KX.out.le
      have hl2075 := KF.out.le
      have hl2076 := hw.size
      replace S := dB S hb2067
      replace U := dB U hb2067
      replace X := dB X hb2067
      replace KX := dK KX hb2067
      replace KF := dK KF hb2067
      replace hw := dT hw hb2067
      clear hb2067
      generalize wd2061.heap.size = g2070 at *
      try clear hHeld
      refine hK.out _ _ (⟨S.out.cell 0, U.out.c8⟩) (fun hHeld => ?_)
      clear hK K
      refine rd1 (i := 12) (fun K hK => ?_)
      refine step_store_row (by rfl) 34 _ _ (by rfl) (g2070) #[.int .i64 z1.kind, .bool z1.bool, .int .i64 z1.num, .string ⟨z1.str.toArray⟩, .int .i64 z1.id, .slice F1 z1.keys.length gF1, .slice F2 z1.items.length gF2, .slice F3 z1.rest.length gF3] (by rfl) (by rfl) 34 _ F.out (by kernel_rfl) rfl (by simp [Value.oneCell']) ?_
      obtain ⟨wd2077, hE2078⟩ : ∃ ww, ww = wd2068.setRow (g2070) #[.int .i64 z1.kind, .bool z1.bool, .int .i64 z1.num, .string ⟨z1.str.toArray⟩, .int .i64 z1.id, .slice F1 z1.keys.length gF1, .slice F2 z1.items.length gF2, .slice F3 z1.rest.length gF3] := ⟨_, rfl⟩
      rw [← hE2078]
      replace S := dR S hE2078 (by omega)
      replace U := dR U hE2078 (by omega)
      replace X := dR X hE2078 (by omega)
      replace F := dO F hE2078
      replace KX := kR KX hE2078 (by omega)
      replace KF := kR KF hE2078 (by omega)
      replace hw := tR hw hE2078 (by omega)
      clear hE2078
      try clear hHeld
      refine hK.out _ _ (⟨S.out.cell 0, U.out.c8⟩) (fun hHeld => ?_)
      clear hK K
      refine tk (i := 13) (v := ?k2079) ?_
      simp only [put_laws2]
      refine tk (i := 14) (v := ?k2080) ?_
      simp only [put_laws2]
      refine wpAnyH_done (by kernel_rfl) ?_ _
      try clear hHeld
      go_upto_region 14 with fail
      have cS_0 : wd2077.cell? ⟨gS, 0, none⟩ = some (.slice At ts.length ct) := S.out.cell 0
      obtain ⟨cF_0, cF_1, cF_2, cF_3, cF_4, cF_5, cF_6, cF_7⟩ := F.out.c8
      refine wp_region_held_drew (S := (fun w' => w'.cell? ⟨gS, 0, none⟩ = some (.slice At ts.length ct) ∧ w'.cell? ⟨g2070, 0, none⟩ = some (.int .i64 z1.kind) ∧ w'.cell? ⟨g2070, 1, none⟩ = some (.bool z1.bool) ∧ w'.cell? ⟨g2070, 2, none⟩ = some (.int .i64 z1.num) ∧ w'.cell? ⟨g2070, 3, none⟩ = some (.string ⟨z1.str.toArray⟩) ∧ w'.cell? ⟨g2070, 4, none⟩ = some (.int .i64 z1.id) ∧ w'.cell? ⟨g2070, 5, none⟩ = some (.slice F1 z1.keys.length gF1) ∧ w'.cell? ⟨g2070, 6, none⟩ = some (.slice F2 z1.items.length gF2) ∧ w'.cell? ⟨g2070, 7, none⟩ = some (.slice F3 z1.rest.length gF3))) (by kernel_rfl) ⟨cS_0, cF_0, cF_1, cF_2, cF_3, cF_4, cF_5, cF_6, cF_7⟩ (fun hHeld => ?_)
      clear cS_0 cF_0 cF_1 cF_2 cF_3 cF_4 cF_5 cF_6 cF_7
      have hb2081 : Below wd2077.heap.size wd2077 (wd2077.drew) := (Below.refl _ _).drew
      replace S := dB S hb2081
      replace U := dB U hb2081
      replace X := dB X hb2081
      replace F := dB F hb2081
      replace KX := dK KX hb2081
      replace KF := dK KF hb2081
      replace hw := dT hw hb2081
      clear hb2081
      generalize wd2077.drew = wd2082 at *
      refine tk (i := 0) (v := ?k2083) ?_
      simp only [put_laws2]
      refine tk (i := 1) (v := ?k2084) ?_
      simp only [put_laws2]
      refine tk (i := 2) (v := ?k2085) ?_
      simp only [put_laws2]
      refine tk (i := 3) (v := ?k2086) ?_
      simp only [put_laws2]
      refine tk (i := 4) (v := ?k2087) ?_
      simp only [put_laws2]
      refine tk (i := 5) (v := ?k2088) ?_
      simp only [put_laws2]
      refine wpAnyH_ready (rs := [6, 11]) (by kernel_rfl) (by simp) ?_
      refine AllReadyH.cons rfl (fun K hK => ?_) (AllReadyH.cons rfl (fun K hK => ?_) (AllReadyH.nil))
      ·
       skip
       go_simp
       obtain ⟨LE, hLE⟩ : ∃ L, L = wd2082.heap.size := ⟨_, rfl⟩
       skip
       ((with_reducible refine (HA3.out _ _ _ _ _ (HT.out.on hw) (KF.out.now.at_ (fun q hq => by have := KF.out.le; omega)) ((HD.out.below hw).mono (hw).size)).mono ?_); rintro e wd2089 ⟨Ek, Ei, Er, rfl, hE, hb2090⟩)
       replace S := dB S hb2090
       replace U := dB U hb2090
       replace X := dB X hb2090
       replace F := dB F hb2090
       replace KX := dK KX hb2090
       replace KF := dK KF hb2090
       replace hw := dT hw hb2090
       clear hb2090
       obtain ⟨E1, gE1, E2, gE2, E3, gE3, rfl, rfl, rfl, -, -, -⟩ := hE.forms
       rw [← hLE] at hE
       have KE := Lib.hid (hE.keptN)
       clear hE hLE
       try clear hHeld
       refine hK.out _ _ (⟨S.out.cell 0, F.out.c8⟩) (fun hHeld => ?_)
       clear hK K
       refine tk (i := 7) (v := ?k2091) ?_
       simp only [put_laws2]
       refine tk (i := 8) (v := ?k2092) ?_
       simp only [put_laws2]
       refine tk (i := 9) (v := ?k2093) ?_
       simp only [put_laws2]
       refine tk (i := 10) (v := ?k2094) ?_
       simp only [put_laws2]
       refine rd1 (i := 11) (fun K hK => ?_)
       go_simp
       obtain ⟨wd2096, hE2097⟩ : ∃ ww, ww = wd2089.alloc (.cells #[.int .i64 0, .bool false, .int .i64 0, .string ⟨#[]⟩, .int .i64 0, .slice none 0 0, .slice none 0 0, .slice none 0 0] 34) := ⟨_, rfl⟩
       rw [← hE2097]
       have hb2095 := aB hE2097
       have E := aN hE2097
       clear hE2097
       have hl2099 := S.out.here
       have hl2100 := U.out.here
       have hl2101 := X.out.here
       have hl2102 := F.out.here
       have hl2103 := KX.out.le
       have hl2104 := KF.out.le
       have hl2105 := KE.out.le
       have hl2106 := hw.size
       replace S := dB S hb2095
       replace U := dB U hb2095
       replace X := dB X hb2095
       replace F := dB F hb2095
       replace KX := dK KX hb2095
       replace KF := dK KF hb2095
       replace KE := dK KE hb2095
       replace hw := dT hw hb2095
       clear hb2095
       generalize wd2089.heap.size = g2098 at *
       try clear hHeld
       refine hK.out _ _ (⟨S.out.cell 0, F.out.c8⟩) (fun hHeld => ?_)
       clear hK K
       refine rd1 (i := 12) (fun K hK => ?_)
       refine step_store_row (by rfl) 34 _ _ (by rfl) (g2098) #[.int .i64 z.kind, .bool z.bool, .int .i64 z.num, .string ⟨z.str.toArray⟩, .int .i64 z.id, .slice E1 z.keys.length gE1, .slice E2 z.items.length gE2, .slice E3 z.rest.length gE3] (by rfl) (by rfl) 34 _ E.out (by kernel_rfl) rfl (by simp [Value.oneCell']) ?_
       obtain ⟨wd2107, hE2108⟩ : ∃ ww, ww = wd2096.setRow (g2098) #[.int .i64 z.kind, .bool z.bool, .int .i64 z.num, .string ⟨z.str.toArray⟩, .int .i64 z.id, .slice E1 z.keys.length gE1, .slice E2 z.items.length gE2, .slice E3 z.rest.length gE3] := ⟨_, rfl⟩
       rw [← hE2108]
       replace S := dR S hE2108 (by omega)
       replace U := dR U hE2108 (by omega)
       replace X := dR X hE2108 (by omega)
       replace F := dR F hE2108 (by omega)
       replace E := dO E hE2108
       replace KX := kR KX hE2108 (by omega)
       replace KF := kR KF hE2108 (by omega)
       replace KE := kR KE hE2108 (by omega)
       replace hw := tR hw hE2108 (by omega)
       clear hE2108
       try clear hHeld
       refine hK.out _ _ (⟨S.out.cell 0, F.out.c8⟩) (fun hHeld => ?_)
       clear hK K
       refine tk (i := 13) (v := ?k2109) ?_
       simp only [put_laws2]
       refine tk (i := 14) (v := ?k2110) ?_
       simp only [put_laws2]
       refine wpAnyH_done (by kernel_rfl) ?_ _
       try clear hHeld
       obtain ⟨cE_0, cE_1, cE_2, cE_3, cE_4, cE_5, cE_6, cE_7⟩ := E.out.c8
       obtain ⟨cX_0, cX_1, cX_2, cX_3, cX_4, cX_5, cX_6, cX_7⟩ := X.out.c8
       go_wp2_with fail
       clear cE_0 cE_1 cE_2 cE_3 cE_4 cE_5 cE_6 cE_7 cX_0 cX_1 cX_2 cX_3 cX_4 cX_5 cX_6 cX_7
       ((with_reducible refine (vequal_any (nodes z + 1) z z _ _ _ _ _ _ _ (Nat.lt_succ_self _) (KE.out.now.at_ (fun q hq => by have := KE.out.le; omega)) (KX.out.now.at_ (fun q hq => by have := KX.out.le; omega))).mono ?_); rintro e wd2111 ⟨rfl, hb2112⟩)
       replace S := dB S hb2112
       replace U := dB U hb2112
       replace X := dB X hb2112
       replace F := dB F hb2112
       replace E := dB E hb2112
       replace KX := dK KX hb2112
       replace KF := dK KF hb2112
       replace KE := dK KE hb2112
       replace hw := dT hw hb2112
       clear hb2112
       rw [HZZ.out]
       go_wp2_with fail
       go_roundw
       case rel => exact ⟨k + 1, by omega, by go_num, S.out, U.out, hw⟩
       case measure => simp [intOf]; omega
      skip
      go_simp
      obtain ⟨wd2114, hE2115⟩ : ∃ ww, ww = wd2082.alloc (.cells #[.int .i64 0, .bool false, .int .i64 0, .string ⟨#[]⟩, .int .i64 0, .slice none 0 0, .slice none 0 0, .slice none 0 0] 34) := ⟨_, rfl⟩
      rw [← hE2115]
      have hb2113 := aB hE2115
      have E := aN hE2115
      clear hE2115
      have hl2117 := S.out.here
      have hl2118 := U.out.here
      have hl2119 := X.out.here
      have hl2120 := F.out.here
      have hl2121 := KX.out.le
      have hl2122 := KF.out.le
      have hl2123 := hw.size
      replace S := dB S hb2113
      replace U := dB U hb2113
      replace X := dB X hb2113
      replace F := dB F hb2113
      replace KX := dK KX hb2113
      replace KF := dK KF hb2113
      replace hw := dT hw hb2113
      clear hb2113
      generalize wd2082.heap.size = g2116 at *
      try clear hHeld
      refine hK.out _ _ (⟨S.out.cell 0, F.out.c8⟩) (fun hHeld => ?_)
      clear hK K
      refine rd1 (i := 6) (fun K hK => ?_)
      go_simp
      obtain ⟨LE, hLE⟩ : ∃ L, L = wd2114.heap.size := ⟨_, rfl⟩
      have hgE : g2116 < LE := hLE ▸ E.out.here
      ((with_reducible refine (HA3.out _ _ _ _ _ (HT.out.on hw) (KF.out.now.at_ (fun q hq => by have := KF.out.le; omega)) ((HD.out.below hw).mono (hw).size)).mono ?_); rintro e wd2124 ⟨Ek, Ei, Er, rfl, hE, hb2125⟩)
      replace S := dB S hb2125
      replace U := dB U hb2125
      replace X := dB X hb2125
      replace F := dB F hb2125
      replace E := dB E hb2125
      replace KX := dK KX hb2125
      replace KF := dK KF hb2125
      replace hw := dT hw hb2125
      clear hb2125
      obtain ⟨E1, gE1, E2, gE2, E3, gE3, rfl, rfl, rfl, -, -, -⟩ := hE.forms
      rw [← hLE] at hE
      have KE := Lib.hid (hE.keptN)
      clear hE hLE
      try clear hHeld
      refine hK.out _ _ (⟨S.out.cell 0, F.out.c8⟩) (fun hHeld => ?_)
      clear hK K
      refine tk (i := 7) (v := ?k2126) ?_
      simp only [put_laws2]
      refine tk (i := 8) (v := ?k2127) ?_
      simp only [put_laws2]
      refine tk (i := 9) (v := ?k2128) ?_
      simp only [put_laws2]
      refine tk (i := 10) (v := ?k2129) ?_
      simp only [put_laws2]
      refine rd1 (i := 12) (fun K hK => ?_)
      refine step_store_row (by rfl) 34 _ _ (by rfl) (g2116) #[.int .i64 z.kind, .bool z.bool, .int .i64 z.num, .string ⟨z.str.toArray⟩, .int .i64 z.id, .slice E1 z.keys.length gE1, .slice E2 z.items.length gE2, .slice E3 z.rest.length gE3] (by rfl) (by rfl) 34 _ E.out (by kernel_rfl) rfl (by simp [Value.oneCell']) ?_
      obtain ⟨wd2130, hE2131⟩ : ∃ ww, ww = wd2124.setRow (g2116) #[.int .i64 z.kind, .bool z.bool, .int .i64 z.num, .string ⟨z.str.toArray⟩, .int .i64 z.id, .slice E1 z.keys.length gE1, .slice E2 z.items.length gE2, .slice E3 z.rest.length gE3] := ⟨_, rfl⟩
      rw [← hE2131]
      replace S := dR S hE2131 (by omega)
      replace U := dR U hE2131 (by omega)
      replace X := dR X hE2131 (by omega)
      replace F := dR F hE2131 (by omega)
      replace E := dO E hE2131
      replace KX := kR KX hE2131 (by omega)
      replace KF := kR KF hE2131 (by omega)
      replace KE := kR KE hE2131 (by omega)
      replace hw := tR hw hE2131 (by omega)
      clear hE2131
      try clear hHeld
      refine hK.out _ _ (⟨S.out.cell 0, F.out.c8⟩) (fun hHeld => ?_)
      clear hK K
      refine tk (i := 13) (v := ?k2132) ?_
      simp only [put_laws2]
      refine tk (i := 14) (v := ?k2133) ?_
      simp only [put_laws2]
      refine wpAnyH_done (by kernel_rfl) ?_ _
      try clear hHeld
      obtain ⟨cE_0, cE_1, cE_2, cE_3, cE_4, cE_5, cE_6, cE_7⟩ := E.out.c8
      obtain ⟨cX_0, cX_1, cX_2, cX_3, cX_4, cX_5, cX_6, cX_7⟩ := X.out.c8
      go_wp2_with fail
      clear cE_0 cE_1 cE_2 cE_3 cE_4 cE_5 cE_6 cE_7 cX_0 cX_1 cX_2 cX_3 cX_4 cX_5 cX_6 cX_7
      ((with_reducible refine (vequal_any (nodes z + 1) z z _ _ _ _ _ _ _ (Nat.lt_succ_self _) (KE.out.now.at_ (fun q hq => by have := KE.out.le; omega)) (KX.out.now.at_ (fun q hq => by have := KX.out.le; omega))).mono ?_); rintro e wd2134 ⟨rfl, hb2135⟩)
      replace S := dB S hb2135
      replace U := dB U hb2135
      replace X := dB X hb2135
      replace F := dB F hb2135
      replace E := dB E hb2135
      replace KX := dK KX hb2135
      replace KF := dK KF hb2135
      replace KE := dK KE hb2135
      replace hw := dT hw hb2135
      clear hb2135
      rw [HZZ.out]
      go_wp2_with fail
      go_roundw
      case rel => exact ⟨k + 1, by omega, by go_num, S.out, U.out, hw⟩
      case measure => simp [intOf]; omega
     skip
     go_simp
     obtain ⟨wd2137, hE2138⟩ : ∃ ww, ww = wd2054.alloc (.cells #[.int .i64 0, .bool false, .int .i64 0, .string ⟨#[]⟩, .int .i64 0, .slice none 0 0, .slice none 0 0, .slice none 0 0] 34) := ⟨_, rfl⟩
     rw [← hE2138]
     have hb2136 := aB hE2138
     have F := aN hE2138
     clear hE2138
     have hl2140 := S.out.here
     have hl2141 := U.out.here
     have hl2142 := X.out.here
     have hl2143 := KX.out.le
     have hl2144 := hw.size
     replace S := dB S hb2136
     replace U := dB U hb2136
     replace X := dB X hb2136
     replace KX := dK KX hb2136
     replace hw := dT hw hb2136
     clear hb2136
     generalize wd2054.heap.size = g2139 at *
     try clear hHeld
     refine hK.out _ _ (⟨S.out.cell 0, U.out.c8⟩) (fun hHeld => ?_)
     clear hK K
     refine rd1 (i := 6) (fun K hK => ?_)
     go_simp
     obtain ⟨LF, hLF⟩ : ∃ L, L = wd2137.heap.size := ⟨_, rfl⟩
     have hgF : g2139 < LF := hLF ▸ F.out.here
     ((with_reducible refine (HA2.out _ (HT.out.on hw) (HYL.out.on hw) ((HC.out.below hw).mono (hw).size)).mono ?_); rintro e wd2145 ⟨Fk, Fi, Fr, rfl, hF, hb2146⟩)
     replace S := dB S hb2146
     replace U := dB U hb2146
     replace X := dB X hb2146
     replace F := dB F hb2146
     replace KX := dK KX hb2146
     replace hw := dT hw hb2146
     clear hb2146
     obtain ⟨F1, gF1, F2, gF2, F3, gF3, rfl, rfl, rfl, -, -, -⟩ := hF.forms
     rw [← hLF] at hF
     have KF := Lib.hid (hF.keptN)
     clear hF hLF
     try clear hHeld
     refine hK.out _ _ (⟨S.out.cell 0, U.out.c8⟩) (fun hHeld => ?_)
     clear hK K
     refine tk (i := 7) (v := ?k2147) ?_
     simp only [put_laws2]
     refine tk (i := 8) (v := ?k2148) ?_
     simp only [put_laws2]
     refine tk (i := 9) (v := ?k2149) ?_
     simp only [put_laws2]
     refine tk (i := 10) (v := ?k2150) ?_
     simp only [put_laws2]
     refine rd1 (i := 12) (fun K hK => ?_)
     refine step_store_row (by rfl) 34 _ _ (by rfl) (g2139) #[.int .i64 z1.kind, .bool z1.bool, .int .i64 z1.num, .string ⟨z1.str.toArray⟩, .int .i64 z1.id, .slice F1 z1.keys.length gF1, .slice F2 z1.items.length gF2, .slice F3 z1.rest.length gF3] (by rfl) (by rfl) 34 _ F.out (by kernel_rfl) rfl (by simp [Value.oneCell']) ?_
     obtain ⟨wd2151, hE2152⟩ : ∃ ww, ww = wd2145.setRow (g2139) #[.int .i64 z1.kind, .bool z1.bool, .int .i64 z1.num, .string ⟨z1.str.toArray⟩, .int .i64 z1.id, .slice F1 z1.keys.length gF1, .slice F2 z1.items.length gF2, .slice F3 z1.rest.length gF3] := ⟨_, rfl⟩
     rw [← hE2152]
     replace S := dR S hE2152 (by omega)
     replace U := dR U hE2152 (by omega)
     replace X := dR X hE2152 (by omega)
     replace F := dO F hE2152
     replace KX := kR KX hE2152 (by omega)
     replace KF := kR KF hE2152 (by omega)
     replace hw := tR hw hE2152 (by omega)
     clear hE2152
     try clear hHeld
     refine hK.out _ _ (⟨S.out.cell 0, U.out.c8⟩) (fun hHeld => ?_)
     clear hK K
     refine tk (i := 13) (v := ?k2153) ?_
     simp only [put_laws2]
     refine tk (i := 14) (v := ?k2154) ?_
     simp only [put_laws2]
     refine wpAnyH_done (by kernel_rfl) ?_ _
     try clear hHeld
     go_upto_region 14 with fail
     have cS_0 : wd2151.cell? ⟨gS, 0, none⟩ = some (.slice At ts.length ct) := S.out.cell 0
     obtain ⟨cF_0, cF_1, cF_2, cF_3, cF_4, cF_5, cF_6, cF_7⟩ := F.out.c8
     refine wp_region_held_drew (S := (fun w' => w'.cell? ⟨gS, 0, none⟩ = some (.slice At ts.length ct) ∧ w'.cell? ⟨g2139, 0, none⟩ = some (.int .i64 z1.kind) ∧ w'.cell? ⟨g2139, 1, none⟩ = some (.bool z1.bool) ∧ w'.cell? ⟨g2139, 2, none⟩ = some (.int .i64 z1.num) ∧ w'.cell? ⟨g2139, 3, none⟩ = some (.string ⟨z1.str.toArray⟩) ∧ w'.cell? ⟨g2139, 4, none⟩ = some (.int .i64 z1.id) ∧ w'.cell? ⟨g2139, 5, none⟩ = some (.slice F1 z1.keys.length gF1) ∧ w'.cell? ⟨g2139, 6, none⟩ = some (.slice F2 z1.items.length gF2) ∧ w'.cell? ⟨g2139, 7, none⟩ = some (.slice F3 z1.rest.length gF3))) (by kernel_rfl) ⟨cS_0, cF_0, cF_1, cF_2, cF_3, cF_4, cF_5, cF_6, cF_7⟩ (fun hHeld => ?_)
     clear cS_0 cF_0 cF_1 cF_2 cF_3 cF_4 cF_5 cF_6 cF_7
     have hb2155 : Below wd2151.heap.size wd2151 (wd2151.drew) := (Below.refl _ _).drew
     replace S := dB S hb2155
     replace U := dB U hb2155
     replace X := dB X hb2155
     replace F := dB F hb2155
     replace KX := dK KX hb2155
     replace KF := dK KF hb2155
     replace hw := dT hw hb2155
     clear hb2155
     generalize wd2151.drew = wd2156 at *
     refine tk (i := 0) (v := ?k2157) ?_
     simp only [put_laws2]
     refine tk (i := 1) (v := ?k2158) ?_
     simp only [put_laws2]
     refine tk (i := 2) (v := ?k2159) ?_
     simp only [put_laws2]
     refine tk (i := 3) (v := ?k2160) ?_
     simp only [put_laws2]
     refine tk (i := 4) (v := ?k2161) ?_
     simp only [put_laws2]
     refine tk (i := 5) (v := ?k2162) ?_
     simp only [put_laws2]
     refine wpAnyH_ready (rs := [6, 11]) (by kernel_rfl) (by simp) ?_
     refine AllReadyH.cons rfl (fun K hK => ?_) (AllReadyH.cons rfl (fun K hK => ?_) (AllReadyH.nil))
     ·
      skip
      go_simp
      obtain ⟨LE, hLE⟩ : ∃ L, L = wd2156.heap.size := ⟨_, rfl⟩
      skip
      ((with_reducible refine (HA3.out _ _ _ _ _ (HT.out.on hw) (KF.out.now.at_ (fun q hq => by have := KF.out.le; omega)) ((HD.out.below hw).mono (hw).size)).mono ?_); rintro e wd2163 ⟨Ek, Ei, Er, rfl, hE, hb2164⟩)
      replace S := dB S hb2164
      replace U := dB U hb2164
      replace X := dB X hb2164
      replace F := dB F hb2164
      replace KX := dK KX hb2164
      replace KF := dK KF hb2164
      replace hw := dT hw hb2164
      clear hb2164
      obtain ⟨E1, gE1, E2, gE2, E3, gE3, rfl, rfl, rfl, -, -, -⟩ := hE.forms
      rw [← hLE] at hE
      have KE := Lib.hid (hE.keptN)
      clear hE hLE
      try clear hHeld
      refine hK.out _ _ (⟨S.out.cell 0, F.out.c8⟩) (fun hHeld => ?_)
      clear hK K
      refine tk (i := 7) (v := ?k2165) ?_
      simp only [put_laws2]
      refine tk (i := 8) (v := ?k2166) ?_
      simp only [put_laws2]
      refine tk (i := 9) (v := ?k2167) ?_
      simp only [put_laws2]
      refine tk (i := 10) (v := ?k2168) ?_
      simp only [put_laws2]
      refine rd1 (i := 11) (fun K hK => ?_)
      go_simp
      obtain ⟨wd2170, hE2171⟩ : ∃ ww, ww = wd2163.alloc (.cells #[.int .i64 0, .bool false, .int .i64 0, .string ⟨#[]⟩, .int .i64 0, .slice none 0 0, .slice none 0 0, .slice none 0 0] 34) := ⟨_, rfl⟩
      rw [← hE2171]
      have hb2169 := aB hE2171
      have E := aN hE2171
      clear hE2171
      have hl2173 := S.out.here
      have hl2174 := U.out.here
      have hl2175 := X.out.here
      have hl2176 := F.out.here
      have hl2177 := KX.out.le
      have hl2178 := KF.out.le
      have hl2179 := KE.out.le
      have hl2180 := hw.size
      replace S := dB S hb2169
      replace U := dB U hb2169
      replace X := dB X hb2169
      replace F := dB F hb2169
      replace KX := dK KX hb2169
      replace KF := dK KF hb2169
      replace KE := dK KE hb2169
      replace hw := dT hw hb2169
      clear hb2169
      generalize wd2163.heap.size = g2172 at *
      try clear hHeld
      refine hK.out _ _ (⟨S.out.cell 0, F.out.c8⟩) (fun hHeld => ?_)
      clear hK K
      refine rd1 (i := 12) (fun K hK => ?_)
      refine step_store_row (by rfl) 34 _ _ (by rfl) (g2172) #[.int .i64 z.kind, .bool z.bool, .int .i64 z.num, .string ⟨z.str.toArray⟩, .int .i64 z.id, .slice E1 z.keys.length gE1, .slice E2 z.items.length gE2, .slice E3 z.rest.length gE3] (by rfl) (by rfl) 34 _ E.out (by kernel_rfl) rfl (by simp [Value.oneCell']) ?_
      obtain ⟨wd2181, hE2182⟩ : ∃ ww, ww = wd2170.setRow (g2172) #[.int .i64 z.kind, .bool z.bool, .int .i64 z.num, .string ⟨z.str.toArray⟩, .int .i64 z.id, .slice E1 z.keys.length gE1, .slice E2 z.items.length gE2, .slice E3 z.rest.length gE3] := ⟨_, rfl⟩
      rw [← hE2182]
      replace S := dR S hE2182 (by omega)
      replace U := dR U hE2182 (by omega)
      replace X := dR X hE2182 (by omega)
      replace F := dR F hE2182 (by omega)
      replace E := dO E hE2182
      replace KX := kR KX hE2182 (by omega)
      replace KF := kR KF hE2182 (by omega)
      replace KE := kR KE hE2182 (by omega)
      replace hw := tR hw hE2182 (by omega)
      clear hE2182
      try clear hHeld
      refine hK.out _ _ (⟨S.out.cell 0, F.out.c8⟩) (fun hHeld => ?_)
      clear hK K
      refine tk (i := 13) (v := ?k2183) ?_
      simp only [put_laws2]
      refine tk (i := 14) (v := ?k2184) ?_
      simp only [put_laws2]
      refine wpAnyH_done (by kernel_rfl) ?_ _
      try clear hHeld
      obtain ⟨cE_0, cE_1, cE_2, cE_3, cE_4, cE_5, cE_6, cE_7⟩ := E.out.c8
      obtain ⟨cX_0, cX_1, cX_2, cX_3, cX_4, cX_5, cX_6, cX_7⟩ := X.out.c8
      go_wp2_with fail
      clear cE_0 cE_1 cE_2 cE_3 cE_4 cE_5 cE_6 cE_7 cX_0 cX_1 cX_2 cX_3 cX_4 cX_5 cX_6 cX_7
      ((with_reducible refine (vequal_any (nodes z + 1) z z _ _ _ _ _ _ _ (Nat.lt_succ_self _) (KE.out.now.at_ (fun q hq => by have := KE.out.le; omega)) (KX.out.now.at_ (fun q hq => by have := KX.out.le; omega))).mono ?_); rintro e wd2185 ⟨rfl, hb2186⟩)
      replace S := dB S hb2186
      replace U := dB U hb2186
      replace X := dB X hb2186
      replace F := dB F hb2186
      replace E := dB E hb2186
      replace KX := dK KX hb2186
      replace KF := dK KF hb2186
      replace KE := dK KE hb2186
      replace hw := dT hw hb2186
      clear hb2186
      rw [HZZ.out]
      go_wp2_with fail
      go_roundw
      case rel => exact ⟨k + 1, by omega, by go_num, S.out, U.out, hw⟩
      case measure => simp [intOf]; omega
     skip
     go_simp
     obtain ⟨wd2188, hE2189⟩ : ∃ ww, ww = wd2156.alloc (.cells #[.int .i64 0, .bool false, .int .i64 0, .string ⟨#[]⟩, .int .i64 0, .slice none 0 0, .slice none 0 0, .slice none 0 0] 34) := ⟨_, rfl⟩
     rw [← hE2189]
     have hb2187 := aB hE2189
     have E := aN hE2189
     clear hE2189
     have hl2191 := S.out.here
     have hl2192 := U.out.here
     have hl2193 := X.out.here
     have hl2194 := F.out.here
     have hl2195 := KX.out.le
     have hl2196 := KF.out.le
     have hl2197 := hw.size
     replace S := dB S hb2187
     replace U := dB U hb2187
     replace X := dB X hb2187
     replace F := dB F hb2187
     replace KX := dK KX hb2187
     replace KF := dK KF hb2187
     replace hw := dT hw hb2187
     clear hb2187
     generalize wd2156.heap.size = g2190 at *
     try clear hHeld
     refine hK.out _ _ (⟨S.out.cell 0, F.out.c8⟩) (fun hHeld => ?_)
     clear hK K
     refine rd1 (i := 6) (fun K hK => ?_)
     go_simp
     obtain ⟨LE, hLE⟩ : ∃ L, L = wd2188.heap.size := ⟨_, rfl⟩
     have hgE : g2190 < LE := hLE ▸ E.out.here
     ((with_reducible refine (HA3.out _ _ _ _ _ (HT.out.on hw) (KF.out.now.at_ (fun q hq => by have := KF.out.le; omega)) ((HD.out.below hw).mono (hw).size)).mono ?_); rintro e wd2198 ⟨Ek, Ei, Er, rfl, hE, hb2199⟩)
     replace S := dB S hb2199
     replace U := dB U hb2199
     replace X := dB X hb2199
     replace F := dB F hb2199
     replace E := dB E hb2199
     replace KX := dK KX hb2199
     replace KF := dK KF hb2199
     replace hw := dT hw hb2199
     clear hb2199
     obtain ⟨E1, gE1, E2, gE2, E3, gE3, rfl, rfl, rfl, -, -, -⟩ := hE.forms
     rw [← hLE] at hE
     have KE := Lib.hid (hE.keptN)
     clear hE hLE
     try clear hHeld
     refine hK.out _ _ (⟨S.out.cell 0, F.out.c8⟩) (fun hHeld => ?_)
     clear hK K
     refine tk (i := 7) (v := ?k2200) ?_
     simp only [put_laws2]
     refine tk (i := 8) (v := ?k2201) ?_
     simp only [put_laws2]
     refine tk (i := 9) (v := ?k2202) ?_
     simp only [put_laws2]
     refine tk (i := 10) (v := ?k2203) ?_
     simp only [put_laws2]
     refine rd1 (i := 12) (fun K hK => ?_)
     refine step_store_row (by rfl) 34 _ _ (by rfl) (g2190) #[.int .i64 z.kind, .bool z.bool, .int .i64 z.num, .string ⟨z.str.toArray⟩, .int .i64 z.id, .slice E1 z.keys.length gE1, .slice E2 z.items.length gE2, .slice E3 z.rest.length gE3] (by rfl) (by rfl) 34 _ E.out (by kernel_rfl) rfl (by simp [Value.oneCell']) ?_
     obtain ⟨wd2204, hE2205⟩ : ∃ ww, ww = wd2198.setRow (g2190) #[.int .i64 z.kind, .bool z.bool, .int .i64 z.num, .string ⟨z.str.toArray⟩, .int .i64 z.id, .slice E1 z.keys.length gE1, .slice E2 z.items.length gE2, .slice E3 z.rest.length gE3] := ⟨_, rfl⟩
     rw [← hE2205]
     replace S := dR S hE2205 (by omega)
     replace U := dR U hE2205 (by omega)
     replace X := dR X hE2205 (by omega)
     replace F := dR F hE2205 (by omega)
     replace E := dO E hE2205
     replace KX := kR KX hE2205 (by omega)
     replace KF := kR KF hE2205 (by omega)
     replace KE := kR KE hE2205 (by omega)
     replace hw := tR hw hE2205 (by omega)
     clear hE2205
     try clear hHeld
     refine hK.out _ _ (⟨S.out.cell 0, F.out.c8⟩) (fun hHeld => ?_)
     clear hK K
     refine tk (i := 13) (v := ?k2206) ?_
     simp only [put_laws2]
     refine tk (i := 14) (v := ?k2207) ?_
     simp only [put_laws2]
     refine wpAnyH_done (by kernel_rfl) ?_ _
     try clear hHeld
     obtain ⟨cE_0, cE_1, cE_2, cE_3, cE_4, cE_5, cE_6, cE_7⟩ := E.out.c8
     obtain ⟨cX_0, cX_1, cX_2, cX_3, cX_4, cX_5, cX_6, cX_7⟩ := X.out.c8
     go_wp2_with fail
     clear cE_0 cE_1 cE_2 cE_3 cE_4 cE_5 cE_6 cE_7 cX_0 cX_1 cX_2 cX_3 cX_4 cX_5 cX_6 cX_7
     ((with_reducible refine (vequal_any (nodes z + 1) z z _ _ _ _ _ _ _ (Nat.lt_succ_self _) (KE.out.now.at_ (fun q hq => by have := KE.out.le; omega)) (KX.out.now.at_ (fun q hq => by have := KX.out.le; omega))).mono ?_); rintro e wd2208 ⟨rfl, hb2209⟩)
     replace S := dB S hb2209
     replace U := dB U hb2209
     replace X := dB X hb2209
     replace F := dB F hb2209
     replace E := dB E hb2209
     replace KX := dK KX hb2209
     replace KF := dK KF hb2209
     replace KE := dK KE hb2209
     replace hw := dT hw hb2209
     clear hb2209
     rw [HZZ.out]
     go_wp2_with fail
     go_roundw
     case rel => exact ⟨k + 1, by omega, by go_num, S.out, U.out, hw⟩
     case measure => simp [intOf]; omega
    obtain rfl : k = ps.length := by omega
    go_wp2_with fail
    go_ret
    exact ⟨rfl, HW0.out.trans ((hw).mono HW0.out.size)⟩

namespace fr_ValueParts
set_option maxRecDepth 100000 in
theorem lifted (os : Os) (started : os.Started) (H : Type) (enc : TypeId × Value → H) :
    ReturnsInHanded {} Try.checked os 4 .any (Rows.valuePartsSpec.pre6 enc Try.prog Try.f4 Rows.valuePartsRow.domain false) (Rows.valuePartsSpec.post enc Try.prog Try.f4 false true false false) := by
  refine returnsInHanded_of_change_sized (C := Try.checked) own_knob started (by kernel_rfl) Try.func4
    (ChangeSpec.witness6 (enc := enc) (C := Try.checked) false ⟨#[], #[.agg #[.slice none 0 0, .int .u8 0, .slice none 0 0], .int .u8 0], []⟩ 8 (by kernel_rfl) (by kernel_rfl) (by kernel_rfl) (by kernel_rfl)) ?_
  intro W base args ds gs before hval0 hW hcnd hsz0 _
  have hsz : (DataW.weightsEach Try.prog (Try.f4.params.toList ++ Rows.valuePartsSpec.plain.varTypes Try.prog) (ds ++ gs)).all (· ≤ reachBytes) = true := hsz0
  have hval : ∀ (j : Nat) t v, Try.f4.params[j]? = some t → args[j]? = some v → Value.okWide Try.prog W .any base t v := hval0
  have hW' := hW
  have hlt : ∀ p ∈ before, p.block < W.heap.size := fun p hp => hW.lt p hp
  obtain ⟨p, q, hA0, hV, rfl, hfz, hnd⟩ := hW
  have hA : DataW.TrodAll enc Try.prog W 0 (fun _ => true) true Try.f4.params.toList args.toList ds p := hA0
  have hA2 := hA
  rw [Try.params4] at hA hval hsz
  obtain ⟨v0, vs0, d0, ds0, p0, q0, hargs, rfl, hpq, h0, r0⟩ := trodAll_cons hA
  obtain ⟨v1, vs1, d1, ds1, p1, q1, rfl, rfl, rfl, h1, r1⟩ := trodAll_cons r0
  obtain ⟨rfl, rfl, rfl⟩ := trodAll_nil r1
  obtain rfl : args = #[v0, v1] := by cases args; simp_all
  obtain ⟨rfl, rfl⟩ := trodVars_none hV
  obtain ⟨a0, n0, t0, b0, c0, rfl, s0, m0, k0, u0, z0⟩ := open_draft8 (hval 0 27 v0 rfl rfl) h0 (sz_of_each hsz (j := 0) rfl (by simp))
  obtain ⟨x1, rfl, rfl, rfl, w1⟩ := open_int Try.underlying5 (hval 1 5 v1 rfl rfl) h1
  obtain ⟨a1, rfl, u1⟩ := wf_u8 w1
  clear hA0 hval0
  refine (walk_ValueParts a0 n0 t0 s0 b0 m0 c0 k0 a1 u1 W u0 z0).mono fun e W' ⟨he, bel⟩ => ?_
  subst he
  exact ⟨_, rfl, _, _, _, [], _, [], hW', trodAll_mk1 (shut_bool Try.underlying4 _), trodAll_below laid_out bel _ _ _ _ (by kernel_rfl) hA2 (fun x hx => hlt x (by simpa using hx)), rfl, bel.frame _, fun h => by cases h⟩
theorem proved : Rows.ValuePartsSaid :=
  OpenClaim.holds_of_wide 4 Try.f4 rfl rfl rfl rfl rfl rfl rfl ⟨rfl, rfl, rfl, rfl, rfl⟩ rfl rfl rfl rfl rfl (by kernel_rfl) Try.func4 (by kernel_rfl)
    (of_decide_eq_true (by kernel_rfl)) (by unfold Func.isWrapper; first | (rw [if_pos (by decide +kernel)]; kernel_rfl) | (rw [if_neg (by decide +kernel)]; exact ⟨rfl, rfl⟩))
    (fun os started H enc _ => lifted os started H enc)
#print axioms proved
end fr_ValueParts
end Go.Proofs.Ytgeapglanckjpaa

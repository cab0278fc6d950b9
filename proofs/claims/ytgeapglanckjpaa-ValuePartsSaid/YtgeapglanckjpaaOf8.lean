/- What Of of sheaveref08 leaves. No condition. -/
import Derived.Test.YtgeapglanckjpaaMake
import Derived.Test.YtgeapglanckjpaaDraftG
set_option maxHeartbeats 1600000
namespace Go.Proofs.Ytgeapglanckjpaa
open Go.ChangeShapes Go.WideShapes Go.ChangeAt Go.RowKit
theorem ValP.keptN {w : World} {L : Nat} {x : Val} {vk vi vr : Value} (h : ValP w (fun b => L ≤ b ∧ b < w.heap.size) x vk vi vr) : Kept (fun W => ValP W (fun b => L ≤ b ∧ b < w.heap.size) x vk vi vr) w L w.heap.size :=
 ⟨h, fun _ hk => h.keep (fun p hp => World.cell?_of_block (hk p.block hp.1 hp.2)) (fun _ h => h), Nat.le_refl _⟩
def Of8Post (w : World) (ts : List Typ) (t : Nat) (e : Ending) (w' : World) : Prop :=
 ∃ (vt : Value) (x : Val) (xk xi xr : Value) (y : Val) (yk yi yr : Value), e = .returned (.tuple #[.agg #[vt], .int .i64 t, valA x xk xi xr, valA y yk yi yr, .bool true]) ∧ RdTyps w' w'.heap.size vt ts ∧
  ValAt w' w'.heap.size x xk xi xr ∧ ValAt w' w'.heap.size y yk yi yr ∧ fitV ts true x t = true ∧ fitV ts false y t = true ∧ Below w.heap.size w w'
set_option maxRecDepth 100000 in
theorem of8_no (xs : List Nod) (vn : Value) (t0 : Nat) (l : List UInt8) (vl : Value) (w : World) (hno : ofOk xs = false) (hr : RdNods w w.heap.size vn xs) (hb : Rd w w.heap.size 1 vl l.length (l.map B8)) :
  Calls Try.prog 5 #[.agg #[vn, .int .u8 t0, vl]] w fun e w' => e = .returned (.tuple #[.agg #[.slice none 0 0], .int .i64 0, .agg #[.int .i64 0, .bool false, .int .i64 0, .string ⟨#[]⟩, .int .i64 0, .slice none 0 0, .slice none 0 0, .slice none 0 0], .agg #[.int .i64 0, .bool false, .int .i64 0, .string ⟨#[]⟩, .int .i64 0, .slice none 0 0, .slice none 0 0, .slice none 0 0], .bool false]) ∧ Below w.heap.size w w' := by
 have hn := fun vn W h => of_no xs vn W hno h
 have HNO := Lib.hid hn
 clear hn hno
 obtain ⟨A, c, rfl, hcap⟩ := hr.form
 obtain ⟨A2, c2, rfl, hcap2⟩ := hb.form
 have HN := Lib.hid hr
 have HB0 := Lib.hid hb
 clear hr hb
 go_enter Try.func5, Try.ntmps5
 go_upto_region 1 with fail
 obtain ⟨wd1827, hE1828⟩ : ∃ ww, ww = w.alloc (.cells #[.slice A xs.length c, .int .u8 t0, .slice A2 l.length c2] 27) := ⟨_, rfl⟩
 rw [← hE1828]
 have hb1826 := aB hE1828
 have D := aN hE1828
 obtain ⟨wd1829, hE1830⟩ : ∃ ww, ww = wd1827.alloc (.cells #[.slice none 0 0] 30) := ⟨_, rfl⟩
 rw [← hE1830]
 replace D := dB D (aB hE1830)
 replace hb1826 := dT hb1826 (aB hE1830)
 have S2 := aM hE1830 (aZ hE1828 rfl)
 obtain ⟨wd1831, hE1832⟩ : ∃ ww, ww = wd1829.alloc (.cells #[.int .i64 0, .bool false, .int .i64 0, .string ⟨#[]⟩, .int .i64 0, .slice none 0 0, .slice none 0 0, .slice none 0 0] 34) := ⟨_, rfl⟩
 rw [← hE1832]
 replace D := dB D (aB hE1832)
 replace S2 := dB S2 (aB hE1832)
 replace hb1826 := dT hb1826 (aB hE1832)
 have V4 := aM hE1832 (aZ hE1830 (aZ hE1828 rfl))
 obtain ⟨wd1833, hE1834⟩ : ∃ ww, ww = wd1831.alloc (.cells #[.int .i64 0, .bool false, .int .i64 0, .string ⟨#[]⟩, .int .i64 0, .slice none 0 0, .slice none 0 0, .slice none 0 0] 34) := ⟨_, rfl⟩
 rw [← hE1834]
 replace D := dB D (aB hE1834)
 replace S2 := dB S2 (aB hE1834)
 replace V4 := dB V4 (aB hE1834)
 replace hb1826 := dT hb1826 (aB hE1834)
 have V5 := aM hE1834 (aZ hE1832 (aZ hE1830 (aZ hE1828 rfl)))
 clear hE1828 hE1830 hE1832 hE1834
 have hw1835 := hb1826
 clear hb1826
 have cD_0 : wd1833.cell? ⟨w.heap.size, 0, none⟩ = some (.slice A xs.length c) := D.out.cell 0
 go_wp2_with fail
 clear cD_0
 ((with_reducible refine (HNO.out _ _ (HN.out.on hw1835)).mono ?_); rintro e wd1836 ⟨rfl, hb1837⟩)
 replace D := dB D hb1837
 replace S2 := dB S2 hb1837
 replace V4 := dB V4 hb1837
 replace V5 := dB V5 hb1837
 replace hw1835 := dT hw1835 hb1837
 clear hb1837
 go_upto_region 2 with fail
 obtain ⟨wd1839, hE1840⟩ : ∃ ww, ww = wd1836.alloc (.cells #[.slice none 0 0] 30) := ⟨_, rfl⟩
 rw [← hE1840]
 have hb1838 := aB hE1840
 have S := aN hE1840
 clear hE1840
 have hl1842 := D.out.here
 have hl1843 := S2.out.here
 have hl1844 := V4.out.here
 have hl1845 := V5.out.here
 have hl1846 := hw1835.size
 replace D := dB D hb1838
 replace S2 := dB S2 hb1838
 replace V4 := dB V4 hb1838
 replace V5 := dB V5 hb1838
 replace hw1835 := dT hw1835 hb1838
 clear hb1838
 generalize wd1836.heap.size = g1841 at *
 have cS_0 : wd1839.cell? ⟨g1841, 0, none⟩ = some (.slice none 0 0) := S.out.cell 0
 go_upto_region 3 with fail
 go_wp2_with (first | (refine wpList_store_row rfl 30 _ _ rfl (w.heap.size + 1) _ rfl rfl 30 _ S2.out (by kernel_rfl) rfl (by simp [Value.oneCell']) ?_) | (refine wpList_store_row rfl 34 _ _ rfl (w.heap.size + 1 + 1) _ rfl rfl 34 _ (has_row (cs' := #[.slice none 0 0]) V4.out (show w.heap.size + 1 + 1 ≠ w.heap.size + 1 by omega)) (by kernel_rfl) rfl (by simp [Value.oneCell']) ?_) | (refine wpList_store_row rfl 34 _ _ rfl (w.heap.size + 1 + 1 + 1) _ rfl rfl 34 _ (has_row (cs' := #[.int .i64 0, .bool false, .int .i64 0, .string ⟨#[]⟩, .int .i64 0, .slice none 0 0, .slice none 0 0, .slice none 0 0]) (has_row (cs' := #[.slice none 0 0]) V5.out (show w.heap.size + 1 + 1 + 1 ≠ w.heap.size + 1 by omega)) (show w.heap.size + 1 + 1 + 1 ≠ w.heap.size + 1 + 1 by omega)) (by kernel_rfl) rfl (by simp [Value.oneCell']) ?_))
 clear cS_0
 obtain ⟨wd1847, hE1848⟩ : ∃ ww, ww = wd1839.setRow (w.heap.size + 1) #[.slice none 0 0] := ⟨_, rfl⟩
 rw [← hE1848]
 replace D := dR D hE1848 (by omega)
 replace V4 := dR V4 hE1848 (by omega)
 replace V5 := dR V5 hE1848 (by omega)
 replace S := dR S hE1848 (by omega)
 replace S2 := dO S2 hE1848
 replace hw1835 := tR hw1835 hE1848 (by omega)
 clear hE1848
 obtain ⟨wd1849, hE1850⟩ : ∃ ww, ww = wd1847.setRow (w.heap.size + 1 + 1) #[.int .i64 0, .bool false, .int .i64 0, .string ⟨#[]⟩, .int .i64 0, .slice none 0 0, .slice none 0 0, .slice none 0 0] := ⟨_, rfl⟩
 rw [← hE1850]
 replace D := dR D hE1850 (by omega)
 replace S2 := dR S2 hE1850 (by omega)
 replace V5 := dR V5 hE1850 (by omega)
 replace S := dR S hE1850 (by omega)
 replace V4 := dO V4 hE1850
 replace hw1835 := tR hw1835 hE1850 (by omega)
 clear hE1850
 obtain ⟨wd1851, hE1852⟩ : ∃ ww, ww = wd1849.setRow (w.heap.size + 1 + 1 + 1) #[.int .i64 0, .bool false, .int .i64 0, .string ⟨#[]⟩, .int .i64 0, .slice none 0 0, .slice none 0 0, .slice none 0 0] := ⟨_, rfl⟩
 rw [← hE1852]
 replace D := dR D hE1852 (by omega)
 replace S2 := dR S2 hE1852 (by omega)
 replace V4 := dR V4 hE1852 (by omega)
 replace S := dR S hE1852 (by omega)
 replace V5 := dO V5 hE1852
 replace hw1835 := tR hw1835 hE1852 (by omega)
 clear hE1852
 have cS2_0 : wd1851.cell? ⟨w.heap.size + 1, 0, none⟩ = some (.slice none 0 0) := S2.out.cell 0
 obtain ⟨cV4_0, cV4_1, cV4_2, cV4_3, cV4_4, cV4_5, cV4_6, cV4_7⟩ := V4.out.c8
 obtain ⟨cV5_0, cV5_1, cV5_2, cV5_3, cV5_4, cV5_5, cV5_6, cV5_7⟩ := V5.out.c8
 exact bodyPost_ret (v := .tuple #[.agg #[.slice none 0 0], .int .i64 0, .agg #[.int .i64 0, .bool false, .int .i64 0, .string ⟨#[]⟩, .int .i64 0, .slice none 0 0, .slice none 0 0, .slice none 0 0], .agg #[.int .i64 0, .bool false, .int .i64 0, .string ⟨#[]⟩, .int .i64 0, .slice none 0 0, .slice none 0 0, .slice none 0 0], .bool false]) (by simp [results, Try.results5, go_sem, cS2_0, cV4_0, cV4_1, cV4_2, cV4_3, cV4_4, cV4_5, cV4_6, cV4_7, cV5_0, cV5_1, cV5_2, cV5_3, cV5_4, cV5_5, cV5_6, cV5_7]) rfl (⟨rfl, hw1835⟩)
set_option maxRecDepth 100000 in
theorem of8_yes (xs : List Nod) (vn : Value) (t0 : Nat) (ht0 : t0 < 256) (l : List UInt8) (hl : l.length ≤ 140737488351232) (vl : Value) (w : World) (h5 : 0 < xs.length ∧ xs.length ≤ 5) (hr : RdNods w w.heap.size vn xs) (hb : Rd w w.heap.size 1 vl l.length (l.map B8)) :
  Calls Try.prog 5 #[.agg #[vn, .int .u8 t0, vl]] w (Of8Post w (ofN xs) (t0 % xs.length)) := by
 have hyes := fun vn W h => of_yes xs vn W h5 h
 unfold OfPost at hyes
 have hmk := make_any xs h5.2
 have hfo := foreign_any xs h5.2
 have hlen : (ofN xs).length = xs.length := ofN_len xs
 rw [← hlen] at h5 ⊢
 generalize ofN xs = ts at *
 have HYES := Lib.hid hyes
 have HMK := Lib.hid hmk
 have HFO := Lib.hid hfo
 have HLEN := Lib.hid hlen
 clear hyes hmk hfo hlen
 obtain ⟨A, c, rfl, hcap⟩ := hr.form
 obtain ⟨A2, c2, rfl, hcap2⟩ := hb.form
 have HN := Lib.hid hr
 have HB0 := Lib.hid hb
 clear hr hb
 go_enter Try.func5, Try.ntmps5
 go_upto_region 1 with fail
 obtain ⟨wd1854, hE1855⟩ : ∃ ww, ww = w.alloc (.cells #[.slice A xs.length c, .int .u8 t0, .slice A2 l.length c2] 27) := ⟨_, rfl⟩
 rw [← hE1855]
 have hb1853 := aB hE1855
 have D := aN hE1855
 obtain ⟨wd1856, hE1857⟩ : ∃ ww, ww = wd1854.alloc (.cells #[.slice none 0 0] 30) := ⟨_, rfl⟩
 rw [← hE1857]
 replace D := dB D (aB hE1857)
 replace hb1853 := dT hb1853 (aB hE1857)
 have S2 := aM hE1857 (aZ hE1855 rfl)
 obtain ⟨wd1858, hE1859⟩ : ∃ ww, ww = wd1856.alloc (.cells #[.int .i64 0, .bool false, .int .i64 0, .string ⟨#[]⟩, .int .i64 0, .slice none 0 0, .slice none 0 0, .slice none 0 0] 34) := ⟨_, rfl⟩
 rw [← hE1859]
 replace D := dB D (aB hE1859)
 replace S2 := dB S2 (aB hE1859)
 replace hb1853 := dT hb1853 (aB hE1859)
 have V4 := aM hE1859 (aZ hE1857 (aZ hE1855 rfl))
 obtain ⟨wd1860, hE1861⟩ : ∃ ww, ww = wd1858.alloc (.cells #[.int .i64 0, .bool false, .int .i64 0, .string ⟨#[]⟩, .int .i64 0, .slice none 0 0, .slice none 0 0, .slice none 0 0] 34) := ⟨_, rfl⟩
 rw [← hE1861]
 replace D := dB D (aB hE1861)
 replace S2 := dB S2 (aB hE1861)
 replace V4 := dB V4 (aB hE1861)
 replace hb1853 := dT hb1853 (aB hE1861)
 have V5 := aM hE1861 (aZ hE1859 (aZ hE1857 (aZ hE1855 rfl)))
 clear hE1855 hE1857 hE1859 hE1861
 have hw1862 := hb1853
 clear hb1853
 have cD_0 : wd1860.cell? ⟨w.heap.size, 0, none⟩ = some (.slice A xs.length c) := D.out.cell 0
 go_wp2_with fail
 obtain ⟨L0, hL0⟩ : ∃ L, L = wd1860.heap.size := ⟨_, rfl⟩
 have hL5 : w.heap.size + 1 + 1 + 1 < L0 := hL0 ▸ V5.out.here
 clear cD_0
 ((with_reducible refine (HYES.out _ _ (HN.out.on hw1862)).mono ?_); rintro e wd1863 ⟨vt, rfl, htr, hb1864⟩)
 replace D := dB D hb1864
 replace S2 := dB S2 hb1864
 replace V4 := dB V4 hb1864
 replace V5 := dB V5 hb1864
 replace hw1862 := dT hw1862 hb1864
 clear hb1864
 obtain ⟨At, ct, rfl, _⟩ := htr.now.form
 rw [← hL0] at htr
 have HT := Lib.hid (htr)
 clear htr hL0
 go_upto_region 2 with fail
 obtain ⟨wd1866, hE1867⟩ : ∃ ww, ww = wd1863.alloc (.cells #[.slice At ts.length ct] 30) := ⟨_, rfl⟩
 rw [← hE1867]
 have hb1865 := aB hE1867
 have S := aN hE1867
 clear hE1867
 have hl1869 := D.out.here
 have hl1870 := S2.out.here
 have hl1871 := V4.out.here
 have hl1872 := V5.out.here
 have hl1873 := HT.out.le
 have hl1874 := hw1862.size
 replace D := dB D hb1865
 replace S2 := dB S2 hb1865
 replace V4 := dB V4 hb1865
 replace V5 := dB V5 hb1865
 replace HT := dK HT hb1865
 replace hw1862 := dT hw1862 hb1865
 clear hb1865
 generalize wd1863.heap.size = g1868 at *
 have cD_1 : wd1866.cell? ⟨w.heap.size, 1, none⟩ = some (.int .u8 t0) := D.out.cell 1
 have cS_0 : wd1866.cell? ⟨g1868, 0, none⟩ = some (.slice At ts.length ct) := S.out.cell 0
 have e1 : IntKind.i64.wrap (t0 : Int) = t0 := IntWalk.i64_in _ (by omega)
 have e2 : ¬ (ts.length : Int) = 0 := by omega
 have e3 : ¬ ts = [] := fun h => by rw [h] at e2; simp at e2
 have e4 : (t0 : Int).tmod (ts.length : Int) = ((t0 % ts.length : Nat) : Int) := by rw [Int.tmod_eq_emod_of_nonneg (by omega)]; push_cast; rfl
 have hmod : t0 % ts.length < ts.length := Nat.mod_lt _ (by omega)
 generalize t0 % ts.length = t at *
 have e5 : IntKind.i64.wrap (t : Int) = t := IntWalk.i64_in _ (by omega)
 go_upto_region 5 with fail
 clear e1 e2 e3 e4 e5
 have cD_2 : wd1866.cell? ⟨w.heap.size, 2, none⟩ = some (.slice A2 l.length c2) := D.out.cell 2
 refine wp_region_held_drew (S := (fun w' => w'.cell? ⟨g1868, 0, none⟩ = some (.slice At ts.length ct) ∧ w'.cell? ⟨w.heap.size, 2, none⟩ = some (.slice A2 l.length c2))) (by kernel_rfl) ⟨cS_0, cD_2⟩ (fun hHeld => ?_)
 clear cD_1 cS_0 cD_2
 have hb1875 : Below wd1866.heap.size wd1866 (wd1866.drew) := (Below.refl _ _).drew
 replace D := dB D hb1875
 replace S2 := dB S2 hb1875
 replace V4 := dB V4 hb1875
 replace V5 := dB V5 hb1875
 replace S := dB S hb1875
 replace HT := dK HT hb1875
 replace hw1862 := dT hw1862 hb1875
 clear hb1875
 generalize wd1866.drew = wd1876 at *
 refine tk (i := 0) (v := ?k1877) ?_
 simp only [put_laws2]
 refine tk (i := 1) (v := ?k1878) ?_
 simp only [put_laws2]
 refine tk (i := 2) (v := ?k1879) ?_
 simp only [put_laws2]
 refine tk (i := 3) (v := ?k1880) ?_
 simp only [put_laws2]
 refine tk (i := 4) (v := ?k1881) ?_
 simp only [put_laws2]
 refine tk (i := 5) (v := ?k1882) ?_
 simp only [put_laws2]
 refine tk (i := 7) (v := ?k1883) ?_
 simp only [put_laws2]
 refine tk (i := 8) (v := ?k1884) ?_
 simp only [put_laws2]
 refine tk (i := 9) (v := ?k1885) ?_
 simp only [put_laws2]
 refine tk (i := 10) (v := ?k1886) ?_
 simp only [put_laws2]
 refine rd1 (i := 6) (fun K hK => ?_)
 go_simp
 obtain ⟨L1, hL1⟩ : ∃ L, L = wd1876.heap.size := ⟨_, rfl⟩
 have hL6 : g1868 < L1 := hL1 ▸ S.out.here
 ((with_reducible refine (HMK.out At ct t hmod l _ _ hl ((HB0.out.below hw1862).mono (hw1862).size) HT.out.now).mono ?_); rintro e wd1887 ⟨x, xk, xi, xr, rfl, hx, hxf, hb1888⟩)
 replace D := dB D hb1888
 replace S2 := dB S2 hb1888
 replace V4 := dB V4 hb1888
 replace V5 := dB V5 hb1888
 replace S := dB S hb1888
 replace HT := dK HT hb1888
 replace hw1862 := dT hw1862 hb1888
 clear hb1888
 obtain ⟨X1, d1, X2, d2, X3, d3, rfl, rfl, rfl, -, -, -⟩ := hx.forms
 rw [← hL1] at hx
 have hxk := hx.keptN
 have HXF := Lib.hid hxf
 have X := Lib.hid (hxk)
 clear hx hxk hL1 hxf
 try clear hHeld
 refine hK.out _ _ (⟨S.out.cell 0, D.out.cell 2⟩) (fun hHeld => ?_)
 clear hK K
 refine rd1 (i := 11) (fun K hK => ?_)
 go_simp
 obtain ⟨L2, hL2⟩ : ∃ L, L = wd1887.heap.size := ⟨_, rfl⟩
 have hL7 : g1868 < L2 := hL2 ▸ S.out.here
 ((with_reducible refine (HFO.out At ct t hmod l _ _ hl ((HB0.out.below hw1862).mono (hw1862).size) HT.out.now).mono ?_); rintro e wd1889 ⟨y, yk, yi, yr, rfl, hy, hyf, hb1890⟩)
 replace D := dB D hb1890
 replace S2 := dB S2 hb1890
 replace V4 := dB V4 hb1890
 replace V5 := dB V5 hb1890
 replace S := dB S hb1890
 replace HT := dK HT hb1890
 replace X := dK X hb1890
 replace hw1862 := dT hw1862 hb1890
 clear hb1890
 obtain ⟨Y1, g1, Y2, g2, Y3, g3, rfl, rfl, rfl, -, -, -⟩ := hy.forms
 rw [← hL2] at hy
 have hyk := hy.keptN
 have HYF := Lib.hid hyf
 have Y := Lib.hid (hyk)
 clear hy hyk hL2 hyf
 try clear hHeld
 refine hK.out _ _ (⟨S.out.cell 0, D.out.cell 2⟩) (fun hHeld => ?_)
 clear hK K
 refine rd1 (i := 12) (fun K hK => ?_)
 refine step_store_row (by rfl) 30 _ _ (by rfl) (w.heap.size + 1) #[.slice At ts.length ct] (by rfl) (by rfl) 30 _ S2.out (by kernel_rfl) rfl (by simp [Value.oneCell']) ?_
 obtain ⟨wd1891, hE1892⟩ : ∃ ww, ww = wd1889.setRow (w.heap.size + 1) #[.slice At ts.length ct] := ⟨_, rfl⟩
 rw [← hE1892]
 replace D := dR D hE1892 (by omega)
 replace V4 := dR V4 hE1892 (by omega)
 replace V5 := dR V5 hE1892 (by omega)
 replace S := dR S hE1892 (by omega)
 replace S2 := dO S2 hE1892
 replace HT := kR HT hE1892 (by omega)
 replace X := kR X hE1892 (by omega)
 replace Y := kR Y hE1892 (by omega)
 replace hw1862 := tR hw1862 hE1892 (by omega)
 clear hE1892
 try clear hHeld
 refine hK.out _ _ (⟨S.out.cell 0, D.out.cell 2⟩) (fun hHeld => ?_)
 clear hK K
 refine tk (i := 13) (v := ?k1893) ?_
 simp only [put_laws2]
 refine rd1 (i := 14) (fun K hK => ?_)
 refine step_store_row (by rfl) 34 _ _ (by rfl) (w.heap.size + 1 + 1) #[.int .i64 x.kind, .bool x.bool, .int .i64 x.num, .string ⟨x.str.toArray⟩, .int .i64 x.id, .slice X1 x.keys.length d1, .slice X2 x.items.length d2, .slice X3 x.rest.length d3] (by rfl) (by rfl) 34 _ V4.out (by kernel_rfl) rfl (by simp [Value.oneCell']) ?_
 obtain ⟨wd1894, hE1895⟩ : ∃ ww, ww = wd1891.setRow (w.heap.size + 1 + 1) #[.int .i64 x.kind, .bool x.bool, .int .i64 x.num, .string ⟨x.str.toArray⟩, .int .i64 x.id, .slice X1 x.keys.length d1, .slice X2 x.items.length d2, .slice X3 x.rest.length d3] := ⟨_, rfl⟩
 rw [← hE1895]
 replace D := dR D hE1895 (by omega)
 replace S2 := dR S2 hE1895 (by omega)
 replace V5 := dR V5 hE1895 (by omega)
 replace S := dR S hE1895 (by omega)
 replace V4 := dO V4 hE1895
 replace HT := kR HT hE1895 (by omega)
 replace X := kR X hE1895 (by omega)
 replace Y := kR Y hE1895 (by omega)
 replace hw1862 := tR hw1862 hE1895 (by omega)
 clear hE1895
 try clear hHeld
 refine hK.out _ _ (⟨S.out.cell 0, D.out.cell 2⟩) (fun hHeld => ?_)
 clear hK K
 refine rd1 (i := 15) (fun K hK => ?_)
 refine step_store_row (by rfl) 34 _ _ (by rfl) (w.heap.size + 1 + 1 + 1) #[.int .i64 y.kind, .bool y.bool, .int .i64 y.num, .string ⟨y.str.toArray⟩, .int .i64 y.id, .slice Y1 y.keys.length g1, .slice Y2 y.items.length g2, .slice Y3 y.rest.length g3] (by rfl) (by rfl) 34 _ V5.out (by kernel_rfl) rfl (by simp [Value.oneCell']) ?_
 obtain ⟨wd1896, hE1897⟩ : ∃ ww, ww = wd1894.setRow (w.heap.size + 1 + 1 + 1) #[.int .i64 y.kind, .bool y.bool, .int .i64 y.num, .string ⟨y.str.toArray⟩, .int .i64 y.id, .slice Y1 y.keys.length g1, .slice Y2 y.items.length g2, .slice Y3 y.rest.length g3] := ⟨_, rfl⟩
 rw [← hE1897]
 replace D := dR D hE1897 (by omega)
 replace S2 := dR S2 hE1897 (by omega)
 replace V4 := dR V4 hE1897 (by omega)
 replace S := dR S hE1897 (by omega)
 replace V5 := dO V5 hE1897
 replace HT := kR HT hE1897 (by omega)
 replace X := kR X hE1897 (by omega)
 replace Y := kR Y hE1897 (by omega)
 replace hw1862 := tR hw1862 hE1897 (by omega)
 clear hE1897
 try clear hHeld
 refine hK.out _ _ (⟨S.out.cell 0, D.out.cell 2⟩) (fun hHeld => ?_)
 clear hK K
 refine tk (i := 16) (v := ?k1898) ?_
 simp only [put_laws2]
 refine wpAnyH_done (by kernel_rfl) ?_ _
 try clear hHeld
 have hxn := X.out.now
 have hxl := X.out.le
 have hyn := Y.out.now
 have hyl := Y.out.le
 go_wp2_with fail
 have cS2_0 : wd1896.cell? ⟨w.heap.size + 1, 0, none⟩ = some (.slice At ts.length ct) := S2.out.cell 0
 obtain ⟨cV4_0, cV4_1, cV4_2, cV4_3, cV4_4, cV4_5, cV4_6, cV4_7⟩ := V4.out.c8
 obtain ⟨cV5_0, cV5_1, cV5_2, cV5_3, cV5_4, cV5_5, cV5_6, cV5_7⟩ := V5.out.c8
 exact bodyPost_ret (v := .tuple #[.agg #[.slice At ts.length ct], .int .i64 t, valA x (.slice X1 x.keys.length d1) (.slice X2 x.items.length d2) (.slice X3 x.rest.length d3), valA y (.slice Y1 y.keys.length g1) (.slice Y2 y.items.length g2) (.slice Y3 y.rest.length g3), .bool true]) (by simp [results, Try.results5, go_sem, cS2_0, cV4_0, cV4_1, cV4_2, cV4_3, cV4_4, cV4_5, cV4_6, cV4_7, cV5_0, cV5_1, cV5_2, cV5_3, cV5_4, cV5_5, cV5_6, cV5_7]) rfl (⟨_, x, _, _, _, y, _, _, _, rfl, HT.out.now, hxn.at_ (fun q hq => by omega), hyn.at_ (fun q hq => by omega), HXF.out, HYF.out, hw1862⟩)
end Go.Proofs.Ytgeapglanckjpaa

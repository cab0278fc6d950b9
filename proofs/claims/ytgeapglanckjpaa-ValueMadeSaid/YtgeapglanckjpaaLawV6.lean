/- The statement ValueMade: plain values are accepted as plain, and values with unknown parts fit, and are plain as the reference says. No condition. -/
import Derived.Test.YtgeapglanckjpaaAwake8
import Derived.Test.YtgeapglanckjpaaGI
import Derived.Test.YtgeapglanckjpaaPlainP
import Derived.Test.YtgeapglanckjpaaOf8
namespace Go.Proofs.Ytgeapglanckjpaa
open Go.ChangeShapes Go.WideShapes Go.ChangeAt Go.RowKit
set_option maxRecDepth 100000 in
set_option maxHeartbeats 1600000 in
theorem walk_ValueMade (xs : List Nod) (vn : Value) (t0 : Nat) (ht0 : t0 < 256) (l : List UInt8) (hl : l.length ≤ 140737488351232) (vl : Value) (_ : xs.length ≤ 140737488351232) (w : World) (hr : RdNods w w.heap.size vn xs) (hb : Rd w w.heap.size 1 vl l.length (l.map B8)) :
  Calls Try.prog 3 #[.agg #[vn, .int .u8 t0, vl]] w fun e w' => e = .returned (.bool true) ∧ Below w.heap.size w w' := by
 obtain ⟨A, c, rfl, hcap⟩ := hr.form
 obtain ⟨A2, c2, rfl, hcap2⟩ := hb.form
 have HR := Lib.hid hr
 have HB0 := Lib.hid hb
 clear hr hb
 go_enter Try.func3, Try.ntmps3
 go_upto_region 1 with fail
 obtain ⟨wd1900, hE1901⟩ : ∃ ww, ww = w.alloc (.cells #[.slice A xs.length c, .int .u8 t0, .slice A2 l.length c2] 27) := ⟨_, rfl⟩
 rw [← hE1901]
 have hb1899 := aB hE1901
 have D := aN hE1901
 clear hE1901
 have hw1902 := hb1899
 clear hb1899
 have cD_0 : wd1900.cell? ⟨w.heap.size, 0, none⟩ = some (.slice A xs.length c) := D.out.cell 0
 have cD_1 : wd1900.cell? ⟨w.heap.size, 1, none⟩ = some (.int .u8 t0) := D.out.cell 1
 have cD_2 : wd1900.cell? ⟨w.heap.size, 2, none⟩ = some (.slice A2 l.length c2) := D.out.cell 2
 go_wp2_with fail
 cases hok : ofOk xs with
 | false =>
  have hno := fun W h1 h2 => of8_no xs (.slice A xs.length c) t0 l (.slice A2 l.length c2) W hok h1 h2
  have HNO := Lib.hid hno
  clear hno hok
  clear cD_0 cD_1 cD_2
  ((with_reducible refine (HNO.out _ (HR.out.on hw1902) ((HB0.out.below hw1902).mono (hw1902).size)).mono ?_); rintro e wd1903 ⟨rfl, hb1904⟩)
  replace D := dB D hb1904
  replace hw1902 := dT hw1902 hb1904
  clear hb1904
  go_upto_region 2 with fail
  obtain ⟨wd1906, hE1907⟩ : ∃ ww, ww = wd1903.alloc (.cells #[.slice none 0 0] 30) := ⟨_, rfl⟩
  rw [← hE1907]
  have hb1905 := aB hE1907
  have S := aN hE1907
  obtain ⟨wd1908, hE1909⟩ : ∃ ww, ww = wd1906.alloc (.cells #[.int .i64 0, .bool false, .int .i64 0, .string ⟨#[]⟩, .int .i64 0, .slice none 0 0, .slice none 0 0, .slice none 0 0] 34) := ⟨_, rfl⟩
  rw [← hE1909]
  replace S := dB S (aB hE1909)
  replace hb1905 := dT hb1905 (aB hE1909)
  have V := aM hE1909 (aZ hE1907 rfl)
  obtain ⟨wd1910, hE1911⟩ : ∃ ww, ww = wd1908.alloc (.cells #[.int .i64 0, .bool false, .int .i64 0, .string ⟨#[]⟩, .int .i64 0, .slice none 0 0, .slice none 0 0, .slice none 0 0] 34) := ⟨_, rfl⟩
  rw [← hE1911]
  replace S := dB S (aB hE1911)
  replace V := dB V (aB hE1911)
  replace hb1905 := dT hb1905 (aB hE1911)
  have U := aM hE1911 (aZ hE1909 (aZ hE1907 rfl))
  clear hE1907 hE1909 hE1911
  have hl1913 := D.out.here
  have hl1914 := hw1902.size
  replace D := dB D hb1905
  replace hw1902 := dT hw1902 hb1905
  clear hb1905
  generalize wd1903.heap.size = g1912 at *
  go_wp2_with fail
  ((with_reducible refine (awake_any _).mono ?_); rintro e wd1915 ⟨rfl, hb1916⟩)
  replace D := dB D hb1916
  replace S := dB S hb1916
  replace V := dB V hb1916
  replace U := dB U hb1916
  replace hw1902 := dT hw1902 hb1916
  clear hb1916
  go_wp2_with fail
  ((with_reducible refine (awake_any _).mono ?_); rintro e wd1917 ⟨rfl, hb1918⟩)
  replace D := dB D hb1918
  replace S := dB S hb1918
  replace V := dB V hb1918
  replace U := dB U hb1918
  replace hw1902 := dT hw1902 hb1918
  clear hb1918
  go_wp2_with fail
  go_ret
  exact ⟨rfl, hw1902⟩
 | true =>
  have hok2 : 0 < xs.length ∧ xs.length ≤ 5 := by unfold ofOk at hok; simp at hok; omega
  have hyes := fun W h1 h2 => of8_yes xs (.slice A xs.length c) t0 ht0 l hl (.slice A2 l.length c2) W hok2 h1 h2
  unfold Of8Post at hyes
  have hkn := ofN_kinds xs
  generalize ofN xs = ts at *
  generalize t0 % xs.length = t at *
  have HYES := Lib.hid hyes
  have HKN := Lib.hid hkn
  clear hyes hok hok2 hkn
  clear cD_0 cD_1 cD_2
  ((with_reducible refine (HYES.out _ (HR.out.on hw1902) ((HB0.out.below hw1902).mono (hw1902).size)).mono ?_); rintro e wd1919 ⟨vt, x, xk, xi, xr, y, yk, yi, yr, rfl, htr, hx, hy, hxf, hyf, hb1920⟩)
  replace D := dB D hb1920
  replace hw1902 := dT hw1902 hb1920
  clear hb1920
  obtain ⟨At, ct, rfl, _⟩ := htr.form
  obtain ⟨X1, d1, X2, d2, X3, d3, rfl, rfl, rfl, -, -, -⟩ := hx.forms
  obtain ⟨Y1, g1, Y2, g2, Y3, g3, rfl, rfl, rfl, -, -, -⟩ := hy.forms
  have hxg := plain_fits ts x t hxf
  have HXF := Lib.hid hxf
  have HXG := Lib.hid hxg
  have HYF := Lib.hid hyf
  clear hxf hyf hxg
  have HT := Lib.hid (Kept.rd (P := fun w B => RdTyps w B (.slice At ts.length ct) ts) htr (Nat.le_refl _) (fun _ hk => htr.keep hk (Nat.le_refl _)))
  have HX := Lib.hid (Kept.rd (P := fun w B => ValAt w B x (.slice X1 x.keys.length d1) (.slice X2 x.items.length d2) (.slice X3 x.rest.length d3)) hx (Nat.le_refl _) (fun _ hk => hx.keep hk (Nat.le_refl _)))
  have HY := Lib.hid (Kept.rd (P := fun w B => ValAt w B y (.slice Y1 y.keys.length g1) (.slice Y2 y.items.length g2) (.slice Y3 y.rest.length g3)) hy (Nat.le_refl _) (fun _ hk => hy.keep hk (Nat.le_refl _)))
  clear htr hx hy
  go_upto_region 2 with fail
  obtain ⟨wd1922, hE1923⟩ : ∃ ww, ww = wd1919.alloc (.cells #[.slice At ts.length ct] 30) := ⟨_, rfl⟩
  rw [← hE1923]
  have hb1921 := aB hE1923
  have S := aN hE1923
  obtain ⟨wd1924, hE1925⟩ : ∃ ww, ww = wd1922.alloc (.cells #[.int .i64 x.kind, .bool x.bool, .int .i64 x.num, .string ⟨x.str.toArray⟩, .int .i64 x.id, .slice X1 x.keys.length d1, .slice X2 x.items.length d2, .slice X3 x.rest.length d3] 34) := ⟨_, rfl⟩
  rw [← hE1925]
  replace S := dB S (aB hE1925)
  replace hb1921 := dT hb1921 (aB hE1925)
  have V := aM hE1925 (aZ hE1923 rfl)
  obtain ⟨wd1926, hE1927⟩ : ∃ ww, ww = wd1924.alloc (.cells #[.int .i64 y.kind, .bool y.bool, .int .i64 y.num, .string ⟨y.str.toArray⟩, .int .i64 y.id, .slice Y1 y.keys.length g1, .slice Y2 y.items.length g2, .slice Y3 y.rest.length g3] 34) := ⟨_, rfl⟩
  rw [← hE1927]
  replace S := dB S (aB hE1927)
  replace V := dB V (aB hE1927)
  replace hb1921 := dT hb1921 (aB hE1927)
  have U := aM hE1927 (aZ hE1925 (aZ hE1923 rfl))
  clear hE1923 hE1925 hE1927
  have hl1929 := D.out.here
  have hl1930 := HT.out.le
  have hl1931 := HX.out.le
  have hl1932 := HY.out.le
  have hl1933 := hw1902.size
  replace D := dB D hb1921
  replace HT := dK HT hb1921
  replace HX := dK HX hb1921
  replace HY := dK HY hb1921
  replace hw1902 := dT hw1902 hb1921
  clear hb1921
  generalize wd1919.heap.size = g1928 at *
  go_wp2_with fail
  ((with_reducible refine (awake_any _).mono ?_); rintro e wd1934 ⟨rfl, hb1935⟩)
  replace D := dB D hb1935
  replace S := dB S hb1935
  replace V := dB V hb1935
  replace U := dB U hb1935
  replace HT := dK HT hb1935
  replace HX := dK HX hb1935
  replace HY := dK HY hb1935
  replace hw1902 := dT hw1902 hb1935
  clear hb1935
  obtain ⟨cV_0, cV_1, cV_2, cV_3, cV_4, cV_5, cV_6, cV_7⟩ := V.out.c8
  go_wp2_with fail
  clear cV_0 cV_1 cV_2 cV_3 cV_4 cV_5 cV_6 cV_7
  ((with_reducible refine (small_any x _ _ _ _ (HX.out.now.keep (fun _ _ => rfl) HX.out.le)).mono ?_); rintro e wd1936 ⟨rfl, hb1937⟩)
  replace D := dB D hb1937
  replace S := dB S hb1937
  replace V := dB V hb1937
  replace U := dB U hb1937
  replace HT := dK HT hb1937
  replace HX := dK HX hb1937
  replace HY := dK HY hb1937
  replace hw1902 := dT hw1902 hb1937
  clear hb1937
  cases smallB x with
  | false =>
   go_wp2_with fail
   ((with_reducible refine (awake_any _).mono ?_); rintro e wd1938 ⟨rfl, hb1939⟩)
   replace D := dB D hb1939
   replace S := dB S hb1939
   replace V := dB V hb1939
   replace U := dB U hb1939
   replace HT := dK HT hb1939
   replace HX := dK HX hb1939
   replace HY := dK HY hb1939
   replace hw1902 := dT hw1902 hb1939
   clear hb1939
   go_wp2_with fail
   go_ret
   exact ⟨rfl, hw1902⟩
  | true =>
   obtain ⟨cU_0, cU_1, cU_2, cU_3, cU_4, cU_5, cU_6, cU_7⟩ := U.out.c8
   go_wp2_with fail
   clear cU_0 cU_1 cU_2 cU_3 cU_4 cU_5 cU_6 cU_7
   ((with_reducible refine (small_any y _ _ _ _ (HY.out.now.keep (fun _ _ => rfl) HY.out.le)).mono ?_); rintro e wd1940 ⟨rfl, hb1941⟩)
   replace D := dB D hb1941
   replace S := dB S hb1941
   replace V := dB V hb1941
   replace U := dB U hb1941
   replace HT := dK HT hb1941
   replace HX := dK HX hb1941
   replace HY := dK HY hb1941
   replace hw1902 := dT hw1902 hb1941
   clear hb1941
   cases smallB y with
   | false =>
    go_wp2_with fail
    ((with_reducible refine (awake_any _).mono ?_); rintro e wd1942 ⟨rfl, hb1943⟩)
    replace D := dB D hb1943
    replace S := dB S hb1943
    replace V := dB V hb1943
    replace U := dB U hb1943
    replace HT := dK HT hb1943
    replace HX := dK HX hb1943
    replace HY := dK HY hb1943
    replace hw1902 := dT hw1902 hb1943
    clear hb1943
    go_wp2_with fail
    go_ret
    exact ⟨rfl, hw1902⟩
   | true =>
    go_upto_region 4 with fail
    have cS_0 : wd1940.cell? ⟨g1928, 0, none⟩ = some (.slice At ts.length ct) := S.out.cell 0
    obtain ⟨cV_0, cV_1, cV_2, cV_3, cV_4, cV_5, cV_6, cV_7⟩ := V.out.c8
    obtain ⟨cU_0, cU_1, cU_2, cU_3, cU_4, cU_5, cU_6, cU_7⟩ := U.out.c8
    refine wp_region_held_drew (S := (fun w' => w'.cell? ⟨g1928, 0, none⟩ = some (.slice At ts.length ct) ∧ w'.cell? ⟨g1928 + 1, 0, none⟩ = some (.int .i64 x.kind) ∧ w'.cell? ⟨g1928 + 1, 1, none⟩ = some (.bool x.bool) ∧ w'.cell? ⟨g1928 + 1, 2, none⟩ = some (.int .i64 x.num) ∧ w'.cell? ⟨g1928 + 1, 3, none⟩ = some (.string ⟨x.str.toArray⟩) ∧ w'.cell? ⟨g1928 + 1, 4, none⟩ = some (.int .i64 x.id) ∧ w'.cell? ⟨g1928 + 1, 5, none⟩ = some (.slice X1 x.keys.length d1) ∧ w'.cell? ⟨g1928 + 1, 6, none⟩ = some (.slice X2 x.items.length d2) ∧ w'.cell? ⟨g1928 + 1, 7, none⟩ = some (.slice X3 x.rest.length d3) ∧ w'.cell? ⟨g1928 + 1 + 1, 0, none⟩ = some (.int .i64 y.kind) ∧ w'.cell? ⟨g1928 + 1 + 1, 1, none⟩ = some (.bool y.bool) ∧ w'.cell? ⟨g1928 + 1 + 1, 2, none⟩ = some (.int .i64 y.num) ∧ w'.cell? ⟨g1928 + 1 + 1, 3, none⟩ = some (.string ⟨y.str.toArray⟩) ∧ w'.cell? ⟨g1928 + 1 + 1, 4, none⟩ = some (.int .i64 y.id) ∧ w'.cell? ⟨g1928 + 1 + 1, 5, none⟩ = some (.slice Y1 y.keys.length g1) ∧ w'.cell? ⟨g1928 + 1 + 1, 6, none⟩ = some (.slice Y2 y.items.length g2) ∧ w'.cell? ⟨g1928 + 1 + 1, 7, none⟩ = some (.slice Y3 y.rest.length g3))) (by kernel_rfl) ⟨cS_0, cV_0, cV_1, cV_2, cV_3, cV_4, cV_5, cV_6, cV_7, cU_0, cU_1, cU_2, cU_3, cU_4, cU_5, cU_6, cU_7⟩ (fun hHeld => ?_)
    clear cS_0 cV_0 cV_1 cV_2 cV_3 cV_4 cV_5 cV_6 cV_7 cU_0 cU_1 cU_2 cU_3 cU_4 cU_5 cU_6 cU_7
    have hb1944 : Below wd1940.heap.size wd1940 (wd1940.drew) := (Below.refl _ _).drew
    replace D := dB D hb1944
    replace S := dB S hb1944
    replace V := dB V hb1944
    replace U := dB U hb1944
    replace HT := dK HT hb1944
    replace HX := dK HX hb1944
    replace HY := dK HY hb1944
    replace hw1902 := dT hw1902 hb1944
    clear hb1944
    generalize wd1940.drew = wd1945 at *
    refine tk (i := 0) (v := ?k1946) ?_
    simp only [put_laws2]
    refine tk (i := 1) (v := ?k1947) ?_
    simp only [put_laws2]
    refine tk (i := 2) (v := ?k1948) ?_
    simp only [put_laws2]
    refine rd1 (i := 3) (fun K hK => ?_)
    go_simp
    ((with_reducible refine (vplain_any x ts At ct t _ _ _ _ HKN.out (HT.out.now.keep (fun _ _ => rfl) HT.out.le) (HX.out.now.keep (fun _ _ => rfl) HX.out.le)).mono ?_); rintro e wd1949 ⟨rfl, hb1950⟩)
    replace D := dB D hb1950
    replace S := dB S hb1950
    replace V := dB V hb1950
    replace U := dB U hb1950
    replace HT := dK HT hb1950
    replace HX := dK HX hb1950
    replace HY := dK HY hb1950
    replace hw1902 := dT hw1902 hb1950
    clear hb1950
    rw [HXF.out]
    try clear hHeld
    refine hK.out _ _ (⟨S.out.cell 0, d8 V (U.out.c8)⟩) (fun hHeld => ?_)
    clear hK K
    refine tk (i := 4) (v := ?k1951) ?_
    simp only [put_laws2]
    refine tk (i := 5) (v := ?k1952) ?_
    simp only [put_laws2]
    refine tk (i := 6) (v := ?k1953) ?_
    simp only [put_laws2]
    refine tk (i := 7) (v := ?k1954) ?_
    simp only [put_laws2]
    refine rd1 (i := 8) (fun K hK => ?_)
    go_simp
    ((with_reducible refine (vfits_any x ts At ct t _ _ _ _ HKN.out (HT.out.now.keep (fun _ _ => rfl) HT.out.le) (HX.out.now.keep (fun _ _ => rfl) HX.out.le)).mono ?_); rintro e wd1955 ⟨rfl, hb1956⟩)
    replace D := dB D hb1956
    replace S := dB S hb1956
    replace V := dB V hb1956
    replace U := dB U hb1956
    replace HT := dK HT hb1956
    replace HX := dK HX hb1956
    replace HY := dK HY hb1956
    replace hw1902 := dT hw1902 hb1956
    clear hb1956
    rw [HXG.out]
    try clear hHeld
    refine hK.out _ _ (⟨S.out.cell 0, d8 V (U.out.c8)⟩) (fun hHeld => ?_)
    clear hK K
    refine tk (i := 9) (v := ?k1957) ?_
    simp only [put_laws2]
    refine tk (i := 10) (v := ?k1958) ?_
    simp only [put_laws2]
    refine tk (i := 11) (v := ?k1959) ?_
    simp only [put_laws2]
    refine tk (i := 12) (v := ?k1960) ?_
    simp only [put_laws2]
    refine tk (i := 13) (v := ?k1961) ?_
    simp only [put_laws2]
    refine rd1 (i := 14) (fun K hK => ?_)
    go_simp
    ((with_reducible refine (vfits_any y ts At ct t _ _ _ _ HKN.out (HT.out.now.keep (fun _ _ => rfl) HT.out.le) (HY.out.now.keep (fun _ _ => rfl) HY.out.le)).mono ?_); rintro e wd1962 ⟨rfl, hb1963⟩)
    replace D := dB D hb1963
    replace S := dB S hb1963
    replace V := dB V hb1963
    replace U := dB U hb1963
    replace HT := dK HT hb1963
    replace HX := dK HX hb1963
    replace HY := dK HY hb1963
    replace hw1902 := dT hw1902 hb1963
    clear hb1963
    rw [HYF.out]
    try clear hHeld
    refine hK.out _ _ (⟨S.out.cell 0, d8 V (U.out.c8)⟩) (fun hHeld => ?_)
    clear hK K
    refine tk (i := 15) (v := ?k1964) ?_
    simp only [put_laws2]
    refine tk (i := 16) (v := ?k1965) ?_
    simp only [put_laws2]
    refine tk (i := 17) (v := ?k1966) ?_
    simp only [put_laws2]
    refine tk (i := 18) (v := ?k1967) ?_
    simp only [put_laws2]
    refine tk (i := 19) (v := ?k1968) ?_
    simp only [put_laws2]
    refine tk (i := 21) (v := ?k1969) ?_
    simp only [put_laws2]
    refine tk (i := 22) (v := ?k1970) ?_
    simp only [put_laws2]
    refine tk (i := 23) (v := ?k1971) ?_
    simp only [put_laws2]
    refine rd1 (i := 20) (fun K hK => ?_)
    go_simp
    ((with_reducible refine (vplain_any y ts At ct t _ _ _ _ HKN.out (HT.out.now.keep (fun _ _ => rfl) HT.out.le) (HY.out.now.keep (fun _ _ => rfl) HY.out.le)).mono ?_); rintro e wd1972 ⟨rfl, hb1973⟩)
    replace D := dB D hb1973
    replace S := dB S hb1973
    replace V := dB V hb1973
    replace U := dB U hb1973
    replace HT := dK HT hb1973
    replace HX := dK HX hb1973
    replace HY := dK HY hb1973
    replace hw1902 := dT hw1902 hb1973
    clear hb1973
    try clear hHeld
    refine hK.out _ _ (⟨S.out.cell 0, d8 V (U.out.c8)⟩) (fun hHeld => ?_)
    clear hK K
    refine rd1 (i := 24) (fun K hK => ?_)
    go_simp
    ((with_reducible refine (rplain_any y ts At ct t _ _ _ _ HKN.out (HT.out.now.keep (fun _ _ => rfl) HT.out.le) (HY.out.now.keep (fun _ _ => rfl) HY.out.le)).mono ?_); rintro e wd1974 ⟨rfl, hb1975⟩)
    replace D := dB D hb1975
    replace S := dB S hb1975
    replace V := dB V hb1975
    replace U := dB U hb1975
    replace HT := dK HT hb1975
    replace HX := dK HX hb1975
    replace HY := dK HY hb1975
    replace hw1902 := dT hw1902 hb1975
    clear hb1975
    try clear hHeld
    refine hK.out _ _ (⟨S.out.cell 0, d8 V (U.out.c8)⟩) (fun hHeld => ?_)
    clear hK K
    refine tk (i := 25) (v := ?k1976) ?_
    simp only [put_laws2]
    refine tk (i := 26) (v := ?k1977) ?_
    simp only [put_laws2]
    refine tk (i := 27) (v := ?k1978) ?_
    simp only [put_laws2]
    refine wpAnyH_done (by kernel_rfl) ?_ _
    try clear hHeld
    go_wp2_with fail
    go_ret
    exact ⟨ret_bool (by simp), hw1902⟩

namespace fr_ValueMade
set_option maxRecDepth 100000 in
theorem lifted (os : Os) (started : os.Started) (H : Type) (enc : TypeId × Value → H) :
    ReturnsInHanded {} Try.checked os 3 .any (Rows.valueMadeSpec.pre6 enc Try.prog Try.f3 Rows.valueMadeRow.domain false) (Rows.valueMadeSpec.post enc Try.prog Try.f3 false true false false) := by
  refine returnsInHanded_of_change_sized (C := Try.checked) own_knob started (by kernel_rfl) Try.func3
    (ChangeSpec.witness6 (enc := enc) (C := Try.checked) false ⟨#[], #[.agg #[.slice none 0 0, .int .u8 0, .slice none 0 0]], []⟩ 8 (by kernel_rfl) (by kernel_rfl) (by kernel_rfl) (by kernel_rfl)) ?_
  intro W base args ds gs before hval0 hW hcnd hsz0 _
  have hsz : (DataW.weightsEach Try.prog (Try.f3.params.toList ++ Rows.valueMadeSpec.plain.varTypes Try.prog) (ds ++ gs)).all (· ≤ reachBytes) = true := hsz0
  have hval : ∀ (j : Nat) t v, Try.f3.params[j]? = some t → args[j]? = some v → Value.okWide Try.prog W .any base t v := hval0
  have hW' := hW
  have hlt : ∀ p ∈ before, p.block < W.heap.size := fun p hp => hW.lt p hp
  obtain ⟨p, q, hA0, hV, rfl, hfz, hnd⟩ := hW
  have hA : DataW.TrodAll enc Try.prog W 0 (fun _ => true) true Try.f3.params.toList args.toList ds p := hA0
  have hA2 := hA
  rw [Try.params3] at hA hval hsz
  obtain ⟨v0, vs0, d0, ds0, p0, q0, hargs, rfl, hpq, h0, r0⟩ := trodAll_cons hA
  obtain ⟨rfl, rfl, rfl⟩ := trodAll_nil r0
  obtain rfl : args = #[v0] := by cases args; simp_all
  obtain ⟨rfl, rfl⟩ := trodVars_none hV
  obtain ⟨a0, n0, t0, b0, c0, rfl, s0, m0, k0, u0, z0⟩ := open_draft8 (hval 0 27 v0 rfl rfl) h0 (sz_of_each hsz (j := 0) rfl (by simp))
  clear hA0 hval0
  refine (walk_ValueMade a0 n0 t0 s0 b0 m0 c0 k0 W u0 z0).mono fun e W' ⟨he, bel⟩ => ?_
  subst he
  exact ⟨_, rfl, _, _, _, [], _, [], hW', trodAll_mk1 (shut_bool Try.underlying4 _), trodAll_below laid_out bel _ _ _ _ (by kernel_rfl) hA2 (fun x hx => hlt x (by simpa using hx)), rfl, bel.frame _, fun h => by cases h⟩
theorem proved : Rows.ValueMadeSaid :=
  OpenClaim.holds_of_wide 3 Try.f3 rfl rfl rfl rfl rfl rfl rfl ⟨rfl, rfl, rfl, rfl, rfl⟩ rfl rfl rfl rfl rfl (by kernel_rfl) Try.func3 (by kernel_rfl)
    (of_decide_eq_true (by kernel_rfl)) (by unfold Func.isWrapper; first | (rw [if_pos (by decide +kernel)]; kernel_rfl) | (rw [if_neg (by decide +kernel)]; exact ⟨rfl, rfl⟩))
    (fun os started H enc _ => lifted os started H enc)
#print axioms proved
end fr_ValueMade
end Go.Proofs.Ytgeapglanckjpaa

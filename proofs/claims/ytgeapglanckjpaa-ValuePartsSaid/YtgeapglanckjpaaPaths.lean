/- What Paths leaves. No condition. -/
import Derived.Test.YtgeapglanckjpaaOwnPs
import Derived.Test.YtgeapglanckjpaaPathP
import Derived.Test.YtgeapglanckjpaaGC
import Derived.Deep.Cut
import Derived.Deep.CutBlock
set_option maxHeartbeats 3200000
namespace Go.Proofs.Ytgeapglanckjpaa
open Go.ChangeShapes Go.WideShapes Go.ChangeAt Go.RowKit
theorem pathsL_app (ts : List Typ) (x : Typ) (id : Int) (b : List Val) : ∀ (a : List Val) (k : Nat), pathsL ts x id (a ++ b) k = pathsL ts x id a k ++ pathsL ts x id b (k + a.length)
 | [], k => by simp [pathsL]
 | y :: r, k => by rw [List.cons_append, pathsL, pathsL, pathsL_app ts x id b r (k + 1), List.append_assoc, List.length_cons, show k + 1 + r.length = k + (r.length + 1) by omega]
theorem pathsL_take (ts : List Typ) (x : Typ) (id : Int) (l : List Val) (k : Nat) (hk : k < l.length) : pathsL ts x id (l.take (k + 1)) 0 = pathsL ts x id (l.take k) 0 ++ (pathsV ts l[k] (kidT x id k)).map (fun q => kidN x id k :: q) := by
 rw [List.take_succ_eq_append_getElem hk, pathsL_app, pathsL, pathsL, List.append_nil, Nat.zero_add, List.length_take, Nat.min_eq_left (by omega)]
mutual
theorem paths_num (ts : List Typ) : ∀ (v : Val) (t : Int), (pathsV ts v t).length ≤ nodes v
 | .mk _ _ _ _ id ks is _, t => by
  rw [pathsV, nodes]
  cases typAt ts t with
  | none => simp
  | some x =>
   have := paths_numL ts x id is 0
   simp only [List.length_cons]
   omega
theorem paths_numL (ts : List Typ) (x : Typ) (id : Int) : ∀ (l : List Val) (k : Nat), (pathsL ts x id l k).length ≤ nodesL l
 | [], k => by simp [pathsL]
 | y :: r, k => by
  have h1 := paths_num ts y (kidT x id k)
  have h2 := paths_numL ts x id r (k + 1)
  rw [pathsL, nodesL, List.length_append, List.length_map]
  omega
end
theorem Kept.re {P : World → Prop} {w : World} {L U : Nat} (h : Kept P w L w.heap.size) (hU : U = w.heap.size) : Kept P w L U := hU ▸ h
theorem rec_len {ts : List Typ} {x : Typ} {v : Val} {t : Int} (hx : typAt ts t = some x) (h5 : x.kind = 5) (hf : fitV ts false v t = true) : v.items.length = x.mems.length := by
 obtain ⟨_, _, hb⟩ := fit_parts ts false v t x hf hx
 simp only [bodyV, bodyR, h5] at hb
 simp at hb
 exact hb.1
theorem arm_len {ts : List Typ} {x : Typ} {v : Val} {t : Int} (hx : typAt ts t = some x) (h6 : x.kind = 6) (hf : fitV ts false v t = true) (i : Nat) (hi : i < v.items.length) : ∃ j, memIdx x v.id = some j ∧ j < x.mems.length ∧ i = 0 := by
 obtain ⟨_, _, hb⟩ := fit_parts ts false v t x hf hx
 simp only [bodyV, bodyR, h6] at hb
 simp at hb
 cases hmi : memIdx x v.id with
 | none =>
  rw [hmi] at hb
  simp at hb
  obtain ⟨_, _, hz, _⟩ := hb
  rw [hz] at hi; simp at hi
 | some k =>
  rw [hmi] at hb
  simp at hb
  exact ⟨k, rfl, memIdx_lt x v.id k hmi, by omega⟩
def PathsPost (w : World) (ps : List (List Int)) (e : Ending) (w' : World) : Prop := ∃ v, e = .returned v ∧ RdPs w' (fun b => w.heap.size ≤ b ∧ b < w'.heap.size) v ps ∧ Below w.heap.size w w'
def PathInv (w wr : World) (gP gX : Nat) (cs cv cx : Array Value) (ts : List Typ) (x : Typ) (id : Int) (is : List Val) (s7 s9 : Value) : Prop :=
 ∃ (k : Nat) (S : Nat → Prop), k ≤ is.length ∧ s9 = .int .i64 k ∧ Has wr w.heap.size 30 cs ∧ Has wr (w.heap.size + 1) 34 cv ∧ Has wr gX 64 cx ∧
  OwnPs wr gP S s7 ([] :: pathsL ts x id (is.take k) 0) ∧ (∀ b, S b → gX + 1 ≤ b) ∧ (∀ q, s7.ownBlock = some q → q = gP ∨ gX + 1 ≤ q) ∧ Below w.heap.size w wr
theorem RdPs.kept {w : World} {L : Nat} {v : Value} {ps : List (List Int)} (h : RdPs w (fun b => L ≤ b ∧ b < w.heap.size) v ps) : Kept (fun W => RdPs W (fun b => L ≤ b ∧ b < w.heap.size) v ps) w L w.heap.size :=
 ⟨h, fun _ hk => h.keep (fun p hp => World.cell?_of_block (hk p.block hp.1 hp.2)) (fun _ h => h), Nat.le_refl _⟩
def PathInv2 (w wr : World) (gP gX L0 H0 : Nat) (cs cv cx : Array Value) (ps qs : List (List Int)) (vl : Value) (n : Int) (s7 s15 : Value) : Prop :=
 ∃ (m : Nat) (S : Nat → Prop), m ≤ qs.length ∧ s15 = .int .i64 m ∧ Has wr w.heap.size 30 cs ∧ Has wr (w.heap.size + 1) 34 cv ∧ Has wr gX 64 cx ∧
  OwnPs wr gP S s7 (ps ++ (qs.take m).map (fun q => n :: q)) ∧ (∀ b, S b → gX + 1 ≤ b) ∧ (∀ q, s7.ownBlock = some q → q = gP ∨ (gX + 1 ≤ q ∧ (q < L0 ∨ H0 ≤ q))) ∧ Kept (fun W => RdPs W (fun b => L0 ≤ b ∧ b < H0) vl qs) wr L0 H0 ∧ Below w.heap.size w wr
set_option maxRecDepth 100000 in
theorem paths_any (ts : List Typ) (hP : PathTyps ts) (A : Option Addr) (c : Nat) : ∀ (N : Nat) (v : Val) (t : Int) (vk vi vr : Value) (w : World), nodes v ≤ N → N ≤ 1000 → fitV ts false v t = true → RdTyps w w.heap.size (.slice A ts.length c) ts → ValAt w w.heap.size v vk vi vr →
  Calls Try.prog 12 #[.agg #[.slice A ts.length c], .int .i64 t, valA v vk vi vr] w (PathsPost w (pathsV ts v t)) := by
 intro N
 induction N with
 | zero => intro v t vk vi vr w h; have := nodes_pos v; omega
 | succ N ih =>
 intro v t vk vi vr w hN hN2 hf hT hv
 obtain ⟨ti, rfl, hti⟩ : ∃ ti : Nat, t = ti ∧ ti < ts.length := by
  rw [fitV_eq] at hf
  unfold typAt at hf
  by_cases h0 : 0 ≤ t
  ·
   refine ⟨t.toNat, by omega, ?_⟩
   rcases Nat.lt_or_ge t.toNat ts.length with h1 | h1
   ·
    exact h1
   rw [if_pos h0, List.getElem?_eq_none h1] at hf; cases hf
  rw [if_neg h0] at hf; cases hf
 have hx : typAt ts (ti : Nat) = some ts[ti] := by unfold typAt; rw [if_pos (by omega), Int.toNat_natCast, List.getElem?_eq_getElem hti]
 have hpv := pathsV_eq ts v ti
 rw [hx] at hpv
 obtain ⟨A1, n1, A2, n2, A3, n3, rfl, rfl, rfl, -, -, -⟩ := hv.forms
 obtain ⟨b, o, rfl, hb, hcs⟩ := hT.elem (by omega)
 obtain ⟨vs, vm, ⟨y0, y1, y2, y3, y4, y5, y6, y7, y8, y9⟩, hty⟩ := hcs ti hti
 obtain ⟨C1, m1, C2, m2, rfl, rfl, -, -⟩ := hty.forms
 have hi1 : (ti : Int) < ts.length := by omega
 have hi0 : (0 : Int) ≤ (ti : Int) := by omega
 have HTY := Lib.hid hty
 have HT := Lib.hid hT
 have HV := Lib.hid hv
 have HPV := Lib.hid hpv
 have HF := Lib.hid hf
 have HIH := Lib.hid ih
 clear hcs hty hT hv hpv hf ih
 go_enter Try.func12, Try.ntmps12
 go_upto_region 1 with fail
 obtain ⟨wd1900, hE1901⟩ : ∃ ww, ww = w.alloc (.cells #[.slice (some ⟨b, o, none⟩) ts.length c] 30) := ⟨_, rfl⟩
 rw [← hE1901]
 have hb1899 := aB hE1901
 have S := aN hE1901
 obtain ⟨wd1902, hE1903⟩ : ∃ ww, ww = wd1900.alloc (.cells #[.int .i64 v.kind, .bool v.bool, .int .i64 v.num, .string ⟨v.str.toArray⟩, .int .i64 v.id, .slice A1 v.keys.length n1, .slice A2 v.items.length n2, .slice A3 v.rest.length n3] 34) := ⟨_, rfl⟩
 rw [← hE1903]
 replace S := dB S (aB hE1903)
 replace hb1899 := dT hb1899 (aB hE1903)
 have V := aM hE1903 (aZ hE1901 rfl)
 clear hE1901 hE1903
 have hw1904 := hb1899
 clear hb1899
 go_upto_region 2 with fail
 obtain ⟨wd1906, hE1907⟩ : ∃ ww, ww = wd1902.alloc (.cells #[.slice none 0 0] 44) := ⟨_, rfl⟩
 rw [← hE1907]
 have hb1905 := aB hE1907
 have P := aN hE1907
 clear hE1907
 have hl1909 := S.out.here
 have hl1910 := V.out.here
 have hl1911 := hw1904.size
 replace S := dB S hb1905
 replace V := dB V hb1905
 replace hw1904 := dT hw1904 hb1905
 clear hb1905
 generalize wd1902.heap.size = g1908 at *
 have z0 := ((hw1904).cell (p := ⟨b, o + ti * 10, none⟩) hb).trans y0
 have z1 := ((hw1904).cell (p := ⟨b, o + ti * 10 + 1, none⟩) hb).trans y1
 have z2 := ((hw1904).cell (p := ⟨b, o + ti * 10 + 2, none⟩) hb).trans y2
 have z3 := ((hw1904).cell (p := ⟨b, o + ti * 10 + 3, none⟩) hb).trans y3
 have z4 := ((hw1904).cell (p := ⟨b, o + ti * 10 + 4, none⟩) hb).trans y4
 have z5 := ((hw1904).cell (p := ⟨b, o + ti * 10 + 5, none⟩) hb).trans y5
 have z6 := ((hw1904).cell (p := ⟨b, o + ti * 10 + 6, none⟩) hb).trans y6
 have z7 := ((hw1904).cell (p := ⟨b, o + ti * 10 + 7, none⟩) hb).trans y7
 have z8 := ((hw1904).cell (p := ⟨b, o + ti * 10 + 8, none⟩) hb).trans y8
 have z9 := ((hw1904).cell (p := ⟨b, o + ti * 10 + 9, none⟩) hb).trans y9
 have cS_0 : wd1906.cell? ⟨w.heap.size, 0, none⟩ = some (.slice (some ⟨b, o, none⟩) ts.length c) := S.out.cell 0
 go_upto_region 3 with fail
 clear y0 y1 y2 y3 y4 y5 y6 y7 y8 y9 z0 z1 z2 z3 z4 z5 z6 z7 z8 z9
 have hgP : w.heap.size + 1 < g1908 := by omega
 generalize g1908 = gP at *
 clear cS_0
 obtain ⟨wd1913, hE1914⟩ : ∃ ww, ww = wd1906.alloc (.cells #[.int .i64 ts[ti].kind, .string ⟨ts[ti].name.toArray⟩, .int .i64 ts[ti].low, .int .i64 ts[ti].high, .int .i64 ts[ti].max, .slice C1 ts[ti].syms.length m1, .slice C2 ts[ti].mems.length m2, .int .i64 ts[ti].key, .int .i64 ts[ti].elem, .bool ts[ti].opn] 64) := ⟨_, rfl⟩
 rw [← hE1914]
 have hb1912 := aB hE1914
 have X := aN hE1914
 clear hE1914
 have hl1916 := S.out.here
 have hl1917 := V.out.here
 have hl1918 := P.out.here
 have hl1919 := hw1904.size
 replace S := dB S hb1912
 replace V := dB V hb1912
 replace P := dB P hb1912
 replace hw1904 := dT hw1904 hb1912
 clear hb1912
 generalize wd1906.heap.size = g1915 at *
 have hPX : gP < g1915 := by omega
 have hown := OwnPs.one P.out
 have hle0 := (hw1904).size
 have HIN : Hid (PathInv w wd1913 gP g1915 #[.slice (some ⟨b, o, none⟩) ts.length c] #[.int .i64 v.kind, .bool v.bool, .int .i64 v.num, .string ⟨v.str.toArray⟩, .int .i64 v.id, .slice A1 v.keys.length n1, .slice A2 v.items.length n2, .slice A3 v.rest.length n3] #[.int .i64 ts[ti].kind, .string ⟨ts[ti].name.toArray⟩, .int .i64 ts[ti].low, .int .i64 ts[ti].high, .int .i64 ts[ti].max, .slice C1 ts[ti].syms.length m1, .slice C2 ts[ti].mems.length m2, .int .i64 ts[ti].key, .int .i64 ts[ti].elem, .bool ts[ti].opn] ts ts[ti] v.id v.items (.slice (some ⟨gP, 0, none⟩) 1 1) (.int .i64 (0 : Nat))) := Lib.hid ⟨0, _, by omega, rfl, S.out, V.out, X.out, by simpa [pathsL] using hown, fun _ h => False.elim h, fun q hq => .inl (Option.some.inj hq).symm, hw1904⟩
 clear hown S V P X
 generalize g1915 = gX at *
 go_wp2_with fail
 go_loopw [7, 9] (fun s7 s9 wr => PathInv w wr gP gX #[.slice (some ⟨b, o, none⟩) ts.length c] #[.int .i64 v.kind, .bool v.bool, .int .i64 v.num, .string ⟨v.str.toArray⟩, .int .i64 v.id, .slice A1 v.keys.length n1, .slice A2 v.items.length n2, .slice A3 v.rest.length n3] #[.int .i64 ts[ti].kind, .string ⟨ts[ti].name.toArray⟩, .int .i64 ts[ti].low, .int .i64 ts[ti].high, .int .i64 ts[ti].max, .slice C1 ts[ti].syms.length m1, .slice C2 ts[ti].mems.length m2, .int .i64 ts[ti].key, .int .i64 ts[ti].elem, .bool ts[ti].opn] ts ts[ti] v.id v.items s7 s9) (fun _ s9 _ => v.items.length - (intOf s9).toNat)
 case atStart => exact HIN.out
 case round =>
  clear HIN
  obtain ⟨k, Sk, hk, rfl, S, V, X, hO, hS, hZ, hw⟩ := hrel
  obtain ⟨A7, c7, rfl⟩ := hO.form
  obtain ⟨ps, hps⟩ : ∃ ps, ps = [] :: pathsL ts ts[ti] v.id (v.items.take k) 0 := ⟨_, rfl⟩
  rw [← hps] at hO hZ
  rw [← hps]
  have HPS := Lib.hid hps
  clear hps
  replace S := Lib.hid S
  replace V := Lib.hid V
  replace X := Lib.hid X
  obtain ⟨U0, hU0⟩ : ∃ U, U = wr.heap.size := ⟨_, rfl⟩
  have O := Lib.hid ((hO.kept (fun q hq => by have := hS q hq; omega)).re hU0)
  have HS := Lib.hid hS
  have HZ := Lib.hid hZ
  have HU : Hid (∀ q, (Value.slice A7 ps.length c7).ownBlock = some q → q < U0) := Lib.hid (fun q hq => hU0 ▸ (hO.lt q hq).2)
  have hpl : ps.length ≤ 3000 := by
   have h1 := HPS.out
   have h2 := paths_numL ts ts[ti] v.id (v.items.take k) 0
   have h3 := nodesL_take_le v.items k
   have h4 : 1 + nodesL v.items ≤ nodes v := by cases v; rw [nodes]; simp only [Val.items]; omega
   rw [h1, List.length_cons]
   omega
  clear hO hS hZ hU0
  have cV_6 : wr.cell? ⟨w.heap.size + 1, 6, none⟩ = some (.slice A2 v.items.length n2) := V.out.cell 6
  by_cases hlt : k < v.items.length
  ·
   have hlt1 : (k : Int) < v.items.length := by omega
   have hk9 : (k : Int) ≤ 1000 := by
    have h3 := nodesL_len v.items
    have h4 : 1 + nodesL v.items ≤ nodes v := by cases v; rw [nodes]; simp only [Val.items]; omega
    omega
   have hmemk := hP.kinds ts[ti] (List.getElem_mem hti)
   go_upto_region 6 with fail
   have cX_8 : wr.cell? ⟨gX, 8, none⟩ = some (.int .i64 ts[ti].elem) := X.out.cell 8
   refine wp_region_held_drew (S := (fun w' => w'.cell? ⟨gX, 8, none⟩ = some (.int .i64 ts[ti].elem))) (by kernel_rfl) cX_8 (fun hHeld => ?_)
   clear cV_6 cX_8
   have hb1920 : Below wr.heap.size wr (wr.drew) := (Below.refl _ _).drew
   replace S := dB S hb1920
   replace V := dB V hb1920
   replace X := dB X hb1920
   replace O := dK O hb1920
   replace hw := dT hw hb1920
   clear hb1920
   generalize wr.drew = wd1921 at *
   refine tk (i := 0) (v := ?k1922) ?_
   simp only [put_laws2]
   refine tk (i := 3) (v := ?k1923) ?_
   simp only [put_laws2]
   refine tk (i := 1) (v := ?k1924) ?_
   simp only [put_laws2]
   refine tk (i := 2) (v := ?k1925) ?_
   simp only [put_laws2]
   refine tk (i := 4) (v := ?k1926) ?_
   simp only [put_laws2]
   refine wpAnyH_done (by kernel_rfl) ?_ _
   try clear hHeld
   by_cases h5 : ts[ti].kind = 5
   ·
    have t5 : (ts[ti].kind == 5) = true := by simpa using h5
    have t6 : (ts[ti].kind == 6) = false := by rw [h5]; rfl
    have hml := rec_len hx h5 HF.out
    have H5 := Lib.hid h5
    clear h5
    have hkm : k < ts[ti].mems.length := by omega
    have hkm1 : (k : Int) < ts[ti].mems.length := by omega
    have hk0 : (0 : Int) ≤ (k : Int) := by omega
    clear hml
    obtain ⟨b2, o2, rfl, hb2, hmc⟩ := HTY.out.mems.elem (by omega)
    obtain ⟨dk, di, dr, ⟨c0, -, c2, -⟩, -⟩ := hmc k hkm
    clear hmc
    have cX_0 : wd1921.cell? ⟨gX, 0, none⟩ = some (.int .i64 ts[ti].kind) := X.out.cell 0
    go_upto_region 8 with fail
    have cX_6 : wd1921.cell? ⟨gX, 6, none⟩ = some (.slice (some ⟨b2, o2, none⟩) ts[ti].mems.length m2) := X.out.cell 6
    refine wp_region_held_drew (S := (fun w' => w'.cell? ⟨gX, 6, none⟩ = some (.slice (some ⟨b2, o2, none⟩) ts[ti].mems.length m2) ∧ (∀ (b o : Nat), b < w.heap.size → w'.cell? ⟨b, o, none⟩ = w.cell? ⟨b, o, none⟩))) (by kernel_rfl) ⟨cX_6, (fun b o hlt => hw.cell (p := ⟨b, o, none⟩) hlt)⟩ (fun hHeld => ?_)
    clear cX_0 cX_6
    have hb1927 : Below wd1921.heap.size wd1921 (wd1921.drew) := (Below.refl _ _).drew
    replace S := dB S hb1927
    replace V := dB V hb1927
    replace X := dB X hb1927
    replace O := dK O hb1927
    replace hw := dT hw hb1927
    clear hb1927
    generalize wd1921.drew = wd1928 at *
    refine tk (i := 0) (v := ?k1929) ?_
    simp only [put_laws2]
    refine tk (i := 1) (v := ?k1930) ?_
    simp only [put_laws2]
    refine tk (i := 2) (v := ?k1931) ?_
    simp only [put_laws2]
    refine tk (i := 3) (v := ?k1932) ?_
    simp only [put_laws2]
    refine tk (i := 4) (v := ?k1933) ?_
    simp only [put_laws2]
    refine tk (i := 5) (v := ?k1934) ?_
    simp only [put_laws2]
    refine tk (i := 12) (v := ?k1935) ?_
    simp only [put_laws2]
    refine tk (i := 6) (v := ?k1936) ?_
    simp only [put_laws2]
    refine tk (i := 7) (v := ?k1937) ?_
    simp only [put_laws2]
    refine tk (i := 8) (v := ?k1938) ?_
    simp only [put_laws2]
    refine tk (i := 9) (v := ?k1939) ?_
    simp only [put_laws2]
    refine tk (i := 10) (v := ?k1940) ?_
    simp only [put_laws2]
    refine tk (i := 11) (v := ?k1941) ?_
    simp only [put_laws2]
    refine tk (i := 13) (v := ?k1942) ?_
    simp only [put_laws2]
    refine wpAnyH_done (by kernel_rfl) ?_ _
    try clear hHeld
    clear c0 c2
    have cX_0 : wd1928.cell? ⟨gX, 0, none⟩ = some (.int .i64 ts[ti].kind) := X.out.cell 0
    go_upto_region 12 with fail
    have h5 := H5.out
    have hkn : kidN ts[ti] v.id k = ts[ti].mems[k].id := by simp [kidN, h5, hkm]
    have hkt : kidT ts[ti] v.id k = ts[ti].mems[k].ty := by simp [kidT, h5, hkm]
    clear h5
    have hyd := kid_step ts hP v ti ts[ti] hx HF.out k hlt
    have hfy := step_fit ts false v ti ts[ti] _ _ _ (hP.kinds ts[ti] (List.getElem_mem hti)) HF.out hx hyd.1
    obtain ⟨b3, o3, rfl, hb3, hcs3⟩ := HV.out.items.elem (by omega)
    obtain ⟨yk, yi, yr, hc8, hya⟩ := hcs3 k hlt
    obtain ⟨c80, c81, c82, c83, c84, c85, c86, c87⟩ := hc8
    obtain ⟨Y1, g1, Y2, g2, Y3, g3, rfl, rfl, rfl, -, -, -⟩ := hya.forms
    have hnl := nodesL_mem v.items v.items[k] (List.getElem_mem hlt)
    have hnn : nodes v.items[k] ≤ N := by
     have : 1 + nodesL v.items ≤ nodes v := by cases v; rw [nodes]; simp only [Val.items]; omega
     omega
    have hpt := pathsL_take ts ts[ti] v.id v.items k hlt
    have hqall : ∀ q ∈ pathsV ts v.items[k] (kidT ts[ti] v.id k), q.length ≤ N := fun q hq => (paths_at ts hP N v.items[k] (kidT ts[ti] v.id k) hnn hfy q hq).2.2
    have hnum := paths_num ts v.items[k] (kidT ts[ti] v.id k)
    generalize v.items[k] = y at *
    rw [hkn, hkt] at hpt
    rw [hkt] at hfy hnum hqall
    have HPT := Lib.hid hpt
    have HQL := Lib.hid hqall
    have HFY := Lib.hid hfy
    have HYA := Lib.hid hya
    clear hyd hqall hpt hfy hya hcs3 hnl
    have cS_0 : wd1928.cell? ⟨w.heap.size, 0, none⟩ = some (.slice (some ⟨b, o, none⟩) ts.length c) := S.out.cell 0
    have cV_6 : wd1928.cell? ⟨w.heap.size + 1, 6, none⟩ = some (.slice (some ⟨b3, o3, none⟩) v.items.length n2) := V.out.cell 6
    refine wp_region_held_drew (S := (fun w' => w'.cell? ⟨w.heap.size, 0, none⟩ = some (.slice (some ⟨b, o, none⟩) ts.length c) ∧ w'.cell? ⟨w.heap.size + 1, 6, none⟩ = some (.slice (some ⟨b3, o3, none⟩) v.items.length n2) ∧ (∀ (b o : Nat), b < w.heap.size → w'.cell? ⟨b, o, none⟩ = w.cell? ⟨b, o, none⟩))) (by kernel_rfl) ⟨cS_0, cV_6, (fun b o hlt => hw.cell (p := ⟨b, o, none⟩) hlt)⟩ (fun hHeld => ?_)
    clear cX_0 cS_0 cV_6
    have hb1943 : Below wd1928.heap.size wd1928 (wd1928.drew) := (Below.refl _ _).drew
    replace S := dB S hb1943
    replace V := dB V hb1943
    replace X := dB X hb1943
    replace O := dK O hb1943
    replace hw := dT hw hb1943
    clear hb1943
    generalize wd1928.drew = wd1944 at *
    refine tk (i := 0) (v := ?k1945) ?_
    simp only [put_laws2]
    refine tk (i := 1) (v := ?k1946) ?_
    simp only [put_laws2]
    refine tk (i := 2) (v := ?k1947) ?_
    simp only [put_laws2]
    refine tk (i := 3) (v := ?k1948) ?_
    simp only [put_laws2]
    refine tk (i := 4) (v := ?k1949) ?_
    simp only [put_laws2]
    refine tk (i := 5) (v := ?k1950) ?_
    simp only [put_laws2]
    refine tk (i := 6) (v := ?k1951) ?_
    simp only [put_laws2]
    refine rd1 (i := 7) (fun K hK => ?_)
    go_simp
    obtain ⟨L0, hL0⟩ : ∃ L, L = wd1944.heap.size := ⟨_, rfl⟩
    have hLX : gX < L0 := hL0 ▸ X.out.here
    have hUL := O.out.le
    rw [← hL0] at hUL
    ((with_reducible refine (HIH.out y (ts[ti].mems[k].ty) _ _ _ _ hnn (by omega) HFY.out (HT.out.on hw) (HYA.out.on hw)).mono ?_); rintro e wd1952 ⟨vl, rfl, hl, hb1953⟩)
    replace S := dB S hb1953
    replace V := dB V hb1953
    replace X := dB X hb1953
    replace O := dK O hb1953
    replace hw := dT hw hb1953
    clear hb1953
    obtain ⟨Al, cl, rfl, hcl⟩ := hl.form
    rw [← hL0] at hl
    generalize pathsV ts y (ts[ti].mems[k].ty) = qs at *
    have Q := Lib.hid (hl.kept)
    clear hl hL0
    try clear hHeld
    refine hK.out _ _ (⟨S.out.cell 0, ⟨V.out.cell 6, (fun b o hlt => hw.cell (p := ⟨b, o, none⟩) hlt)⟩⟩) (fun hHeld => ?_)
    clear hK K
    refine tk (i := 8) (v := ?k1954) ?_
    simp only [put_laws2]
    refine wpAnyH_done (by kernel_rfl) ?_ _
    try clear hHeld
    clear c80 c81 c82 c83 c84 c85 c86 c87
    have hnum2 : qs.length ≤ 1000 := by omega
    obtain ⟨H0, hH0⟩ : ∃ H, H = wd1952.heap.size := ⟨_, rfl⟩
    have HIN2 : Hid (PathInv2 w wd1952 gP gX L0 H0 #[.slice (some ⟨b, o, none⟩) ts.length c] #[.int .i64 v.kind, .bool v.bool, .int .i64 v.num, .string ⟨v.str.toArray⟩, .int .i64 v.id, .slice A1 v.keys.length n1, .slice (some ⟨b3, o3, none⟩) v.items.length n2, .slice A3 v.rest.length n3] #[.int .i64 ts[ti].kind, .string ⟨ts[ti].name.toArray⟩, .int .i64 ts[ti].low, .int .i64 ts[ti].high, .int .i64 ts[ti].max, .slice C1 ts[ti].syms.length m1, .slice (some ⟨b2, o2, none⟩) ts[ti].mems.length m2, .int .i64 ts[ti].key, .int .i64 ts[ti].elem, .bool ts[ti].opn] ps qs (.slice Al qs.length cl) ts[ti].mems[k].id (.slice A7 ps.length c7) (.int .i64 (0 : Nat))) := Lib.hid ⟨0, _, by omega, rfl, S.out, V.out, X.out, by simpa using O.out.now, HS.out, fun q hq => by have h1 := HZ.out q hq; have h2 := HU.out q hq; omega, hH0 ▸ Q.out, hw⟩
    clear S V X O Q hH0
    go_wp2_with fail
    go_loopw [7, 15] (fun s7 s15 ws => PathInv2 w ws gP gX L0 H0 #[.slice (some ⟨b, o, none⟩) ts.length c] #[.int .i64 v.kind, .bool v.bool, .int .i64 v.num, .string ⟨v.str.toArray⟩, .int .i64 v.id, .slice A1 v.keys.length n1, .slice (some ⟨b3, o3, none⟩) v.items.length n2, .slice A3 v.rest.length n3] #[.int .i64 ts[ti].kind, .string ⟨ts[ti].name.toArray⟩, .int .i64 ts[ti].low, .int .i64 ts[ti].high, .int .i64 ts[ti].max, .slice C1 ts[ti].syms.length m1, .slice (some ⟨b2, o2, none⟩) ts[ti].mems.length m2, .int .i64 ts[ti].key, .int .i64 ts[ti].elem, .bool ts[ti].opn] ps qs (.slice Al qs.length cl) ts[ti].mems[k].id s7 s15) (fun _ s15 _ => qs.length - (intOf s15).toNat)
    case atStart => exact HIN2.out
    case round =>
     clear HIN2 HS HZ HU
     obtain ⟨m, Sm, hm, rfl, S, V, X, hO, hS, hZ, Q, hw⟩ := hrel
     obtain ⟨A8, c8, rfl⟩ := hO.form
     have hol := hO.lt
     obtain ⟨rs, hrs⟩ : ∃ rs, rs = ps ++ (qs.take m).map (fun q => ts[ti].mems[k].id :: q) := ⟨_, rfl⟩
     rw [← hrs] at hO hZ hol
     rw [← hrs]
     by_cases hmq : m < qs.length
     ·
      have hrl : rs.length ≤ 5000 := by rw [hrs, List.length_append, List.length_map, List.length_take]; omega
      obtain ⟨b4, o4, rfl, hb4, hel⟩ := Q.now.at_ (by omega)
      obtain ⟨u, hu, hpu⟩ := hel m hmq
      have hrs2 : ps ++ (qs.take (m + 1)).map (fun q => ts[ti].mems[k].id :: q) = rs ++ [ts[ti].mems[k].id :: qs[m]] := by rw [hrs, List.take_succ_eq_append_getElem hmq, List.map_append, List.append_assoc]; rfl
      have hqm : qs[m].length ≤ 1000 := Nat.le_trans (HQL.out _ (List.getElem_mem hmq)) (by omega)
      generalize qs[m] = q at *
      obtain ⟨⟨hpl1, Au, cu, rfl, hpl2⟩, hpn⟩ := hpu
      have hpu2 : PathAt wr (fun b => L0 ≤ b ∧ b < H0) (.slice Au q.length cu) q := ⟨⟨hpl1, Au, cu, rfl, hpl2⟩, hpn⟩
      have hmq1 : (m : Int) < qs.length := by omega
      have HRS := Lib.hid hrs2
      have HU2 := Lib.hid hpu2
      have HO := Lib.hid hO
      have HS := Lib.hid hS
      have HZ := Lib.hid hZ
      have HOL := Lib.hid hol
      have HQ := Lib.hid Q
      have HW := Lib.hid hw
      have HSS := Lib.hid S
      have HVV := Lib.hid V
      have HXX := Lib.hid X
      have hua := cell_alR hu
      have hgl := V.here
      have hgx := X.here
      have hql := Q.le
      clear hpl1 hpl2 hpn hpu2 hrs hrs2 hO hS hZ hol Q hw S V X hu hel
      go_upto_region 15 with (first | (at_builtin; refine wpList_path rfl _ _ rfl (gN := wr.heap.size) (n := ts[ti].mems[k].id) (S := fun b => L0 ≤ b ∧ b < H0) (q := q) (Has.made wr 3 #[.int .i64 (ts[ti].mems[k].id)]) rfl rfl (HU2.out.keep (fun p hp => World.cell?_of_block ((aB rfl).block p.block (by omega))) (fun _ h => h)) (by omega) ?_; intro a1 c1 w1 S1 hp1 hS1 hb1 hk1) | (at_builtin; refine wpList_paths rfl _ _ rfl (L := gP) (gM := w1.heap.size) (S := Sm) (Sy := S1) (ps := rs) (q := ts[ti].mems[k].id :: q) (v := .slice A8 rs.length c8) ?hown rfl (Has.made w1 44 #[.slice a1 (q.length + 1) c1]) rfl ?hpa ?hsy (by omega) ?hle ?_; rotate_right; intro v2 w2 hO2 hat hb2 hk2))
      case hown =>
       have hs1 : wr.heap.size + 1 ≤ w1.heap.size := by have := hb1.size; simpa using this
       refine HO.out.keepS (fun j hj => ?_)
       have hlt : j < wr.heap.size := hj.elim (fun h => (HO.out.sep j h).1) (fun h => (HOL.out j h).2)
       exact ((aB rfl).block j (by omega)).trans ((hb1.block j hlt).trans ((aB rfl).block j hlt))
      case hpa =>
       have hs1 : wr.heap.size + 1 ≤ w1.heap.size := by have := hb1.size; simpa using this
       simp only [alloc_hz] at hS1
       exact hp1.keep (fun p hp => World.cell?_of_block ((aB rfl).block p.block (by have := hS1 _ hp; omega))) (fun _ h => h)
      case hsy =>
       have hs1 : wr.heap.size + 1 ≤ w1.heap.size := by have := hb1.size; simpa using this
       simp only [alloc_hz] at hS1 ⊢
       exact fun j hj => ⟨by have := hS1 j hj; omega, fun e => by have := HOL.out j e; have := hS1 j hj; omega⟩
      case hle =>
       have hs1 : wr.heap.size + 1 ≤ w1.heap.size := by have := hb1.size; simpa using this
       rw [alloc_hz]; omega
      have hs1 : wr.heap.size + 1 ≤ w1.heap.size := by have := hb1.size; simpa using this
      simp only [alloc_hz] at hS1
      have hB1 : Below wr.heap.size wr w1 := (aB rfl).trans hb1
      have hB2 : Below w1.heap.size w1 (w1.alloc (.cells #[.slice a1 (q.length + 1) c1] 44)) := aB rfl
      have hV2 := dG (dB (dB HVV hB1) hB2) hk2 (fun hh => by have := HZ.out _ hh; omega)
      have hS2 := dG (dB (dB HSS hB1) hB2) hk2 (fun hh => by have := HZ.out _ hh; omega)
      have hX2 := dG (dB (dB HXX hB1) hB2) hk2 (fun hh => by have := HZ.out _ hh; omega)
      have hSb : ∀ b, (Sm b ∨ S1 b) → gX + 1 ≤ b := fun b hb => hb.elim (HS.out b) (fun h => by have := hS1 b h; omega)
      have hZ2 : ∀ q, v2.ownBlock = some q → q = gP ∨ (gX + 1 ≤ q ∧ (q < L0 ∨ H0 ≤ q)) := fun q hq => by
       rcases hat with h4 | h4
       ·
        rw [h4] at hq; exact HZ.out q hq
       rw [h4] at hq; have := Option.some.inj hq; rw [alloc_hz] at this; omega
      have hs2 := hB2.size
      have hs3 := hb2.size
      have hQ2 := HQ.out.move (fun j h1 h2 => (hk2 j (by omega) (fun e => by have := HZ.out j e; omega)).trans ((hB2.block j (by omega)).trans (hB1.block j (by omega)))) (by omega)
      have hW2 : Below w.heap.size w w2 := HW.out.trans ((hB1.mono (by omega)).trans ((hB2.mono (by omega)).trans (hb2.mono (by omega))))
      have HE : Hid (PathInv2 w w2 gP gX L0 H0 #[.slice (some ⟨b, o, none⟩) ts.length c] #[.int .i64 v.kind, .bool v.bool, .int .i64 v.num, .string ⟨v.str.toArray⟩, .int .i64 v.id, .slice A1 v.keys.length n1, .slice (some ⟨b3, o3, none⟩) v.items.length n2, .slice A3 v.rest.length n3] #[.int .i64 ts[ti].kind, .string ⟨ts[ti].name.toArray⟩, .int .i64 ts[ti].low, .int .i64 ts[ti].high, .int .i64 ts[ti].max, .slice C1 ts[ti].syms.length m1, .slice (some ⟨b2, o2, none⟩) ts[ti].mems.length m2, .int .i64 ts[ti].key, .int .i64 ts[ti].elem, .bool ts[ti].opn] ps qs (.slice (some ⟨b4, o4, none⟩) qs.length cl) ts[ti].mems[k].id v2 (.int .i64 (m + 1 : Nat))) := Lib.hid ⟨m + 1, _, by omega, rfl, hS2.out, hV2.out, hX2.out, by rw [HRS.out]; exact hO2, hSb, hZ2, hQ2, hW2⟩
      clear hV2 hS2 hX2 hSb hZ2 hQ2 hW2 hk1 hk2 hat hb1 hb2 hB1 hB2 hO2 hp1 hS1 hua
      go_wp2_with fail
      go_roundw
      case rel => exact HE.out
      case measure => simp [intOf]; omega
     obtain rfl : m = qs.length := by omega
     rw [List.take_length] at hrs
     have HE : Hid (PathInv w wr gP gX #[.slice (some ⟨b, o, none⟩) ts.length c] #[.int .i64 v.kind, .bool v.bool, .int .i64 v.num, .string ⟨v.str.toArray⟩, .int .i64 v.id, .slice A1 v.keys.length n1, .slice (some ⟨b3, o3, none⟩) v.items.length n2, .slice A3 v.rest.length n3] #[.int .i64 ts[ti].kind, .string ⟨ts[ti].name.toArray⟩, .int .i64 ts[ti].low, .int .i64 ts[ti].high, .int .i64 ts[ti].max, .slice C1 ts[ti].syms.length m1, .slice (some ⟨b2, o2, none⟩) ts[ti].mems.length m2, .int .i64 ts[ti].key, .int .i64 ts[ti].elem, .bool ts[ti].opn] ts ts[ti] v.id v.items (.slice A8 rs.length c8) (.int .i64 (k + 1 : Nat))) := Lib.hid ⟨k + 1, Sm, by omega, rfl, S, V, X, by rw [HPT.out, ← List.cons_append, ← HPS.out, ← hrs]; exact hO, hS, fun q hq => by have := hZ q hq; omega, hw⟩
     clear hO hS hZ S V X Q hw hol hrs
     go_wp2_with fail
     go_roundw
     case rel => exact HE.out
     case measure => simp [intOf]; omega
   have t5 : (ts[ti].kind == 5) = false := by simpa using h5
   by_cases h6 : ts[ti].kind = 6
   ·
    have t6 : (ts[ti].kind == 6) = true := by simpa using h6
    obtain ⟨j, hj, hjl, -⟩ := arm_len hx h6 HF.out k hlt
    have H6 := Lib.hid h6
    clear h6
    have hj1 : (j : Int) < ts[ti].mems.length := by omega
    have hj0 : (0 : Int) ≤ (j : Int) := by omega
    obtain ⟨b2, o2, rfl, hb2, hmc⟩ := HTY.out.mems.elem (by omega)
    obtain ⟨dk, di, dr, ⟨-, -, c2, -⟩, -⟩ := hmc j hjl
    clear hmc
    have hrm := rmember_any ts[ti] (.slice C1 ts[ti].syms.length m1) (.slice (some ⟨b2, o2, none⟩) ts[ti].mems.length m2) v.id
    rw [hj] at hrm
    simp only [typA, pairV] at hrm
    have HRM := Lib.hid hrm
    clear hrm
    obtain ⟨cX_0, cX_1, cX_2, cX_3, cX_4, cX_5, cX_6, cX_7, cX_8, cX_9⟩ := X.out.c10
    have cV_4 : wd1921.cell? ⟨w.heap.size + 1, 4, none⟩ = some (.int .i64 v.id) := V.out.cell 4
    go_wp2_with fail
    clear cX_0 cX_1 cX_2 cX_3 cX_4 cX_5 cX_6 cX_7 cX_8 cX_9 cV_4
    ((with_reducible refine (HRM.out _ (HTY.out.on hw)).mono ?_); rintro e wd1955 ⟨rfl, hb1956⟩)
    replace S := dB S hb1956
    replace V := dB V hb1956
    replace X := dB X hb1956
    replace O := dK O hb1956
    replace hw := dT hw hb1956
    clear hb1956
    go_upto_region 11 with fail
    have cV_4 : wd1955.cell? ⟨w.heap.size + 1, 4, none⟩ = some (.int .i64 v.id) := V.out.cell 4
    have cX_6 : wd1955.cell? ⟨gX, 6, none⟩ = some (.slice (some ⟨b2, o2, none⟩) ts[ti].mems.length m2) := X.out.cell 6
    refine wp_region_held_drew (S := (fun w' => w'.cell? ⟨w.heap.size + 1, 4, none⟩ = some (.int .i64 v.id) ∧ w'.cell? ⟨gX, 6, none⟩ = some (.slice (some ⟨b2, o2, none⟩) ts[ti].mems.length m2) ∧ (∀ (b o : Nat), b < w.heap.size → w'.cell? ⟨b, o, none⟩ = w.cell? ⟨b, o, none⟩))) (by kernel_rfl) ⟨cV_4, cX_6, (fun b o hlt => hw.cell (p := ⟨b, o, none⟩) hlt)⟩ (fun hHeld => ?_)
    clear cV_4 cX_6
    have hb1957 : Below wd1955.heap.size wd1955 (wd1955.drew) := (Below.refl _ _).drew
    replace S := dB S hb1957
    replace V := dB V hb1957
    replace X := dB X hb1957
    replace O := dK O hb1957
    replace hw := dT hw hb1957
    clear hb1957
    generalize wd1955.drew = wd1958 at *
    refine tk (i := 0) (v := ?k1959) ?_
    simp only [put_laws2]
    refine tk (i := 1) (v := ?k1960) ?_
    simp only [put_laws2]
    refine tk (i := 8) (v := ?k1961) ?_
    simp only [put_laws2]
    refine tk (i := 2) (v := ?k1962) ?_
    simp only [put_laws2]
    refine tk (i := 3) (v := ?k1963) ?_
    simp only [put_laws2]
    refine tk (i := 4) (v := ?k1964) ?_
    simp only [put_laws2]
    refine tk (i := 5) (v := ?k1965) ?_
    simp only [put_laws2]
    refine tk (i := 6) (v := ?k1966) ?_
    simp only [put_laws2]
    refine tk (i := 7) (v := ?k1967) ?_
    simp only [put_laws2]
    refine tk (i := 9) (v := ?k1968) ?_
    simp only [put_laws2]
    refine wpAnyH_done (by kernel_rfl) ?_ _
    try clear hHeld
    clear c2
    go_upto_region 12 with fail
    have h6 := H6.out
    have hkn : kidN ts[ti] v.id k = v.id := by simp [kidN, h6]
    have hkt : kidT ts[ti] v.id k = ts[ti].mems[j].ty := by simp [kidT, h6, hj, hjl]
    clear h6
    have hyd := kid_step ts hP v ti ts[ti] hx HF.out k hlt
    have hfy := step_fit ts false v ti ts[ti] _ _ _ (hP.kinds ts[ti] (List.getElem_mem hti)) HF.out hx hyd.1
    obtain ⟨b3, o3, rfl, hb3, hcs3⟩ := HV.out.items.elem (by omega)
    obtain ⟨yk, yi, yr, hc8, hya⟩ := hcs3 k hlt
    obtain ⟨c80, c81, c82, c83, c84, c85, c86, c87⟩ := hc8
    obtain ⟨Y1, g1, Y2, g2, Y3, g3, rfl, rfl, rfl, -, -, -⟩ := hya.forms
    have hnl := nodesL_mem v.items v.items[k] (List.getElem_mem hlt)
    have hnn : nodes v.items[k] ≤ N := by
     have : 1 + nodesL v.items ≤ nodes v := by cases v; rw [nodes]; simp only [Val.items]; omega
     omega
    have hpt := pathsL_take ts ts[ti] v.id v.items k hlt
    have hqall : ∀ q ∈ pathsV ts v.items[k] (kidT ts[ti] v.id k), q.length ≤ N := fun q hq => (paths_at ts hP N v.items[k] (kidT ts[ti] v.id k) hnn hfy q hq).2.2
    have hnum := paths_num ts v.items[k] (kidT ts[ti] v.id k)
    generalize v.items[k] = y at *
    rw [hkn, hkt] at hpt
    rw [hkt] at hfy hnum hqall
    have HPT := Lib.hid hpt
    have HQL := Lib.hid hqall
    have HFY := Lib.hid hfy
    have HYA := Lib.hid hya
    clear hyd hqall hpt hfy hya hcs3 hnl
    have cS_0 : wd1958.cell? ⟨w.heap.size, 0, none⟩ = some (.slice (some ⟨b, o, none⟩) ts.length c) := S.out.cell 0
    have cV_6 : wd1958.cell? ⟨w.heap.size + 1, 6, none⟩ = some (.slice (some ⟨b3, o3, none⟩) v.items.length n2) := V.out.cell 6
    refine wp_region_held_drew (S := (fun w' => w'.cell? ⟨w.heap.size, 0, none⟩ = some (.slice (some ⟨b, o, none⟩) ts.length c) ∧ w'.cell? ⟨w.heap.size + 1, 6, none⟩ = some (.slice (some ⟨b3, o3, none⟩) v.items.length n2) ∧ (∀ (b o : Nat), b < w.heap.size → w'.cell? ⟨b, o, none⟩ = w.cell? ⟨b, o, none⟩))) (by kernel_rfl) ⟨cS_0, cV_6, (fun b o hlt => hw.cell (p := ⟨b, o, none⟩) hlt)⟩ (fun hHeld => ?_)
    clear cS_0 cV_6
    have hb1969 : Below wd1958.heap.size wd1958 (wd1958.drew) := (Below.refl _ _).drew
    replace S := dB S hb1969
    replace V := dB V hb1969
    replace X := dB X hb1969
    replace O := dK O hb1969
    replace hw := dT hw hb1969
    clear hb1969
    generalize wd1958.drew = wd1970 at *
    refine tk (i := 0) (v := ?k1971) ?_
    simp only [put_laws2]
    refine tk (i := 1) (v := ?k1972) ?_
    simp only [put_laws2]
    refine tk (i := 2) (v := ?k1973) ?_
    simp only [put_laws2]
    refine tk (i := 3) (v := ?k1974) ?_
    simp only [put_laws2]
    refine tk (i := 4) (v := ?k1975) ?_
    simp only [put_laws2]
    refine tk (i := 5) (v := ?k1976) ?_
    simp only [put_laws2]
    refine tk (i := 6) (v := ?k1977) ?_
    simp only [put_laws2]
    refine rd1 (i := 7) (fun K hK => ?_)
    go_simp
    obtain ⟨L0, hL0⟩ : ∃ L, L = wd1970.heap.size := ⟨_, rfl⟩
    have hLX : gX < L0 := hL0 ▸ X.out.here
    have hUL := O.out.le
    rw [← hL0] at hUL
    ((with_reducible refine (HIH.out y (ts[ti].mems[j].ty) _ _ _ _ hnn (by omega) HFY.out (HT.out.on hw) (HYA.out.on hw)).mono ?_); rintro e wd1978 ⟨vl, rfl, hl, hb1979⟩)
    replace S := dB S hb1979
    replace V := dB V hb1979
    replace X := dB X hb1979
    replace O := dK O hb1979
    replace hw := dT hw hb1979
    clear hb1979
    obtain ⟨Al, cl, rfl, hcl⟩ := hl.form
    rw [← hL0] at hl
    generalize pathsV ts y (ts[ti].mems[j].ty) = qs at *
    have Q := Lib.hid (hl.kept)
    clear hl hL0
    try clear hHeld
    refine hK.out _ _ (⟨S.out.cell 0, ⟨V.out.cell 6, (fun b o hlt => hw.cell (p := ⟨b, o, none⟩) hlt)⟩⟩) (fun hHeld => ?_)
    clear hK K
    refine tk (i := 8) (v := ?k1980) ?_
    simp only [put_laws2]
    refine wpAnyH_done (by kernel_rfl) ?_ _
    try clear hHeld
    clear c80 c81 c82 c83 c84 c85 c86 c87
    have hnum2 : qs.length ≤ 1000 := by omega
    obtain ⟨H0, hH0⟩ : ∃ H, H = wd1978.heap.size := ⟨_, rfl⟩
    have HIN2 : Hid (PathInv2 w wd1978 gP gX L0 H0 #[.slice (some ⟨b, o, none⟩) ts.length c] #[.int .i64 v.kind, .bool v.bool, .int .i64 v.num, .string ⟨v.str.toArray⟩, .int .i64 v.id, .slice A1 v.keys.length n1, .slice (some ⟨b3, o3, none⟩) v.items.length n2, .slice A3 v.rest.length n3] #[.int .i64 ts[ti].kind, .string ⟨ts[ti].name.toArray⟩, .int .i64 ts[ti].low, .int .i64 ts[ti].high, .int .i64 ts[ti].max, .slice C1 ts[ti].syms.length m1, .slice (some ⟨b2, o2, none⟩) ts[ti].mems.length m2, .int .i64 ts[ti].key, .int .i64 ts[ti].elem, .bool ts[ti].opn] ps qs (.slice Al qs.length cl) v.id (.slice A7 ps.length c7) (.int .i64 (0 : Nat))) := Lib.hid ⟨0, _, by omega, rfl, S.out, V.out, X.out, by simpa using O.out.now, HS.out, fun q hq => by have h1 := HZ.out q hq; have h2 := HU.out q hq; omega, hH0 ▸ Q.out, hw⟩
    clear S V X O Q hH0
    go_wp2_with fail
    go_loopw [7, 15] (fun s7 s15 ws => PathInv2 w ws gP gX L0 H0 #[.slice (some ⟨b, o, none⟩) ts.length c] #[.int .i64 v.kind, .bool v.bool, .int .i64 v.num, .string ⟨v.str.toArray⟩, .int .i64 v.id, .slice A1 v.keys.length n1, .slice (some ⟨b3, o3, none⟩) v.items.length n2, .slice A3 v.rest.length n3] #[.int .i64 ts[ti].kind, .string ⟨ts[ti].name.toArray⟩, .int .i64 ts[ti].low, .int .i64 ts[ti].high, .int .i64 ts[ti].max, .slice C1 ts[ti].syms.length m1, .slice (some ⟨b2, o2, none⟩) ts[ti].mems.length m2, .int .i64 ts[ti].key, .int .i64 ts[ti].elem, .bool ts[ti].opn] ps qs (.slice Al qs.length cl) v.id s7 s15) (fun _ s15 _ => qs.length - (intOf s15).toNat)
    case atStart => exact HIN2.out
    case round =>
     clear HIN2 HS HZ HU
     obtain ⟨m, Sm, hm, rfl, S, V, X, hO, hS, hZ, Q, hw⟩ := hrel
     obtain ⟨A8, c8, rfl⟩ := hO.form
     have hol := hO.lt
     obtain ⟨rs, hrs⟩ : ∃ rs, rs = ps ++ (qs.take m).map (fun q => v.id :: q) := ⟨_, rfl⟩
     rw [← hrs] at hO hZ hol
     rw [← hrs]
     by_cases hmq : m < qs.length
     ·
      have hrl : rs.length ≤ 5000 := by rw [hrs, List.length_append, List.length_map, List.length_take]; omega
      obtain ⟨b4, o4, rfl, hb4, hel⟩ := Q.now.at_ (by omega)
      obtain ⟨u, hu, hpu⟩ := hel m hmq
      have hrs2 : ps ++ (qs.take (m + 1)).map (fun q => v.id :: q) = rs ++ [v.id :: qs[m]] := by rw [hrs, List.take_succ_eq_append_getElem hmq, List.map_append, List.append_assoc]; rfl
      have hqm : qs[m].length ≤ 1000 := Nat.le_trans (HQL.out _ (List.getElem_mem hmq)) (by omega)
      generalize qs[m] = q at *
      obtain ⟨⟨hpl1, Au, cu, rfl, hpl2⟩, hpn⟩ := hpu
      have hpu2 : PathAt wr (fun b => L0 ≤ b ∧ b < H0) (.slice Au q.length cu) q := ⟨⟨hpl1, Au, cu, rfl, hpl2⟩, hpn⟩
      have hmq1 : (m : Int) < qs.length := by omega
      have HRS := Lib.hid hrs2
      have HU2 := Lib.hid hpu2
      have HO := Lib.hid hO
      have HS := Lib.hid hS
      have HZ := Lib.hid hZ
      have HOL := Lib.hid hol
      have HQ := Lib.hid Q
      have HW := Lib.hid hw
      have HSS := Lib.hid S
      have HVV := Lib.hid V
      have HXX := Lib.hid X
      have hua := cell_alR hu
      have hgl := V.here
      have hgx := X.here
      have hql := Q.le
      clear hpl1 hpl2 hpn hpu2 hrs hrs2 hO hS hZ hol Q hw S V X hu hel
      go_upto_region 15 with (first | (at_builtin; refine wpList_path rfl _ _ rfl (gN := wr.heap.size) (n := v.id) (S := fun b => L0 ≤ b ∧ b < H0) (q := q) (Has.made wr 3 #[.int .i64 (v.id)]) rfl rfl (HU2.out.keep (fun p hp => World.cell?_of_block ((aB rfl).block p.block (by omega))) (fun _ h => h)) (by omega) ?_; intro a1 c1 w1 S1 hp1 hS1 hb1 hk1) | (at_builtin; refine wpList_paths rfl _ _ rfl (L := gP) (gM := w1.heap.size) (S := Sm) (Sy := S1) (ps := rs) (q := v.id :: q) (v := .slice A8 rs.length c8) ?hown rfl (Has.made w1 44 #[.slice a1 (q.length + 1) c1]) rfl ?hpa ?hsy (by omega) ?hle ?_; rotate_right; intro v2 w2 hO2 hat hb2 hk2))
      case hown =>
       have hs1 : wr.heap.size + 1 ≤ w1.heap.size := by have := hb1.size; simpa using this
       refine HO.out.keepS (fun j hj => ?_)
       have hlt : j < wr.heap.size := hj.elim (fun h => (HO.out.sep j h).1) (fun h => (HOL.out j h).2)
       exact ((aB rfl).block j (by omega)).trans ((hb1.block j hlt).trans ((aB rfl).block j hlt))
      case hpa =>
       have hs1 : wr.heap.size + 1 ≤ w1.heap.size := by have := hb1.size; simpa using this
       simp only [alloc_hz] at hS1
       exact hp1.keep (fun p hp => World.cell?_of_block ((aB rfl).block p.block (by have := hS1 _ hp; omega))) (fun _ h => h)
      case hsy =>
       have hs1 : wr.heap.size + 1 ≤ w1.heap.size := by have := hb1.size; simpa using this
       simp only [alloc_hz] at hS1 ⊢
       exact fun j hj => ⟨by have := hS1 j hj; omega, fun e => by have := HOL.out j e; have := hS1 j hj; omega⟩
      case hle =>
       have hs1 : wr.heap.size + 1 ≤ w1.heap.size := by have := hb1.size; simpa using this
       rw [alloc_hz]; omega
      have hs1 : wr.heap.size + 1 ≤ w1.heap.size := by have := hb1.size; simpa using this
      simp only [alloc_hz] at hS1
      have hB1 : Below wr.heap.size wr w1 := (aB rfl).trans hb1
      have hB2 : Below w1.heap.size w1 (w1.alloc (.cells #[.slice a1 (q.length + 1) c1] 44)) := aB rfl
      have hV2 := dG (dB (dB HVV hB1) hB2) hk2 (fun hh => by have := HZ.out _ hh; omega)
      have hS2 := dG (dB (dB HSS hB1) hB2) hk2 (fun hh => by have := HZ.out _ hh; omega)
      have hX2 := dG (dB (dB HXX hB1) hB2) hk2 (fun hh => by have := HZ.out _ hh; omega)
      have hSb : ∀ b, (Sm b ∨ S1 b) → gX + 1 ≤ b := fun b hb => hb.elim (HS.out b) (fun h => by have := hS1 b h; omega)
      have hZ2 : ∀ q, v2.ownBlock = some q → q = gP ∨ (gX + 1 ≤ q ∧ (q < L0 ∨ H0 ≤ q)) := fun q hq => by
       rcases hat with h4 | h4
       ·
        rw [h4] at hq; exact HZ.out q hq
       rw [h4] at hq; have := Option.some.inj hq; rw [alloc_hz] at this; omega
      have hs2 := hB2.size
      have hs3 := hb2.size
      have hQ2 := HQ.out.move (fun j h1 h2 => (hk2 j (by omega) (fun e => by have := HZ.out j e; omega)).trans ((hB2.block j (by omega)).trans (hB1.block j (by omega)))) (by omega)
      have hW2 : Below w.heap.size w w2 := HW.out.trans ((hB1.mono (by omega)).trans ((hB2.mono (by omega)).trans (hb2.mono (by omega))))
      have HE : Hid (PathInv2 w w2 gP gX L0 H0 #[.slice (some ⟨b, o, none⟩) ts.length c] #[.int .i64 v.kind, .bool v.bool, .int .i64 v.num, .string ⟨v.str.toArray⟩, .int .i64 v.id, .slice A1 v.keys.length n1, .slice (some ⟨b3, o3, none⟩) v.items.length n2, .slice A3 v.rest.length n3] #[.int .i64 ts[ti].kind, .string ⟨ts[ti].name.toArray⟩, .int .i64 ts[ti].low, .int .i64 ts[ti].high, .int .i64 ts[ti].max, .slice C1 ts[ti].syms.length m1, .slice (some ⟨b2, o2, none⟩) ts[ti].mems.length m2, .int .i64 ts[ti].key, .int .i64 ts[ti].elem, .bool ts[ti].opn] ps qs (.slice (some ⟨b4, o4, none⟩) qs.length cl) v.id v2 (.int .i64 (m + 1 : Nat))) := Lib.hid ⟨m + 1, _, by omega, rfl, hS2.out, hV2.out, hX2.out, by rw [HRS.out]; exact hO2, hSb, hZ2, hQ2, hW2⟩
      clear hV2 hS2 hX2 hSb hZ2 hQ2 hW2 hk1 hk2 hat hb1 hb2 hB1 hB2 hO2 hp1 hS1 hua
      go_wp2_with fail
      go_roundw
      case rel => exact HE.out
      case measure => simp [intOf]; omega
     obtain rfl : m = qs.length := by omega
     rw [List.take_length] at hrs
     have HE : Hid (PathInv w wr gP gX #[.slice (some ⟨b, o, none⟩) ts.length c] #[.int .i64 v.kind, .bool v.bool, .int .i64 v.num, .string ⟨v.str.toArray⟩, .int .i64 v.id, .slice A1 v.keys.length n1, .slice (some ⟨b3, o3, none⟩) v.items.length n2, .slice A3 v.rest.length n3] #[.int .i64 ts[ti].kind, .string ⟨ts[ti].name.toArray⟩, .int .i64 ts[ti].low, .int .i64 ts[ti].high, .int .i64 ts[ti].max, .slice C1 ts[ti].syms.length m1, .slice (some ⟨b2, o2, none⟩) ts[ti].mems.length m2, .int .i64 ts[ti].key, .int .i64 ts[ti].elem, .bool ts[ti].opn] ts ts[ti] v.id v.items (.slice A8 rs.length c8) (.int .i64 (k + 1 : Nat))) := Lib.hid ⟨k + 1, Sm, by omega, rfl, S, V, X, by rw [HPT.out, ← List.cons_append, ← HPS.out, ← hrs]; exact hO, hS, fun q hq => by have := hZ q hq; omega, hw⟩
     clear hO hS hZ S V X Q hw hol hrs
     go_wp2_with fail
     go_roundw
     case rel => exact HE.out
     case measure => simp [intOf]; omega
   have t6 : (ts[ti].kind == 6) = false := by simpa using h6
   have cX_0 : wd1921.cell? ⟨gX, 0, none⟩ = some (.int .i64 ts[ti].kind) := X.out.cell 0
   go_upto_region 12 with fail
   have hkn : kidN ts[ti] v.id k = k := by simp [kidN, h5, h6]
   have hkt : kidT ts[ti] v.id k = ts[ti].elem := by simp [kidT, h5, h6]
   have hyd := kid_step ts hP v ti ts[ti] hx HF.out k hlt
   have hfy := step_fit ts false v ti ts[ti] _ _ _ (hP.kinds ts[ti] (List.getElem_mem hti)) HF.out hx hyd.1
   obtain ⟨b3, o3, rfl, hb3, hcs3⟩ := HV.out.items.elem (by omega)
   obtain ⟨yk, yi, yr, hc8, hya⟩ := hcs3 k hlt
   obtain ⟨c80, c81, c82, c83, c84, c85, c86, c87⟩ := hc8
   obtain ⟨Y1, g1, Y2, g2, Y3, g3, rfl, rfl, rfl, -, -, -⟩ := hya.forms
   have hnl := nodesL_mem v.items v.items[k] (List.getElem_mem hlt)
   have hnn : nodes v.items[k] ≤ N := by
    have : 1 + nodesL v.items ≤ nodes v := by cases v; rw [nodes]; simp only [Val.items]; omega
    omega
   have hpt := pathsL_take ts ts[ti] v.id v.items k hlt
   have hqall : ∀ q ∈ pathsV ts v.items[k] (kidT ts[ti] v.id k), q.length ≤ N := fun q hq => (paths_at ts hP N v.items[k] (kidT ts[ti] v.id k) hnn hfy q hq).2.2
   have hnum := paths_num ts v.items[k] (kidT ts[ti] v.id k)
   generalize v.items[k] = y at *
   rw [hkn, hkt] at hpt
   rw [hkt] at hfy hnum hqall
   have HPT := Lib.hid hpt
   have HQL := Lib.hid hqall
   have HFY := Lib.hid hfy
   have HYA := Lib.hid hya
   clear hyd hqall hpt hfy hya hcs3 hnl
   have cS_0 : wd1921.cell? ⟨w.heap.size, 0, none⟩ = some (.slice (some ⟨b, o, none⟩) ts.length c) := S.out.cell 0
   have cV_6 : wd1921.cell? ⟨w.heap.size + 1, 6, none⟩ = some (.slice (some ⟨b3, o3, none⟩) v.items.length n2) := V.out.cell 6
   refine wp_region_held_drew (S := (fun w' => w'.cell? ⟨w.heap.size, 0, none⟩ = some (.slice (some ⟨b, o, none⟩) ts.length c) ∧ w'.cell? ⟨w.heap.size + 1, 6, none⟩ = some (.slice (some ⟨b3, o3, none⟩) v.items.length n2) ∧ (∀ (b o : Nat), b < w.heap.size → w'.cell? ⟨b, o, none⟩ = w.cell? ⟨b, o, none⟩))) (by kernel_rfl) ⟨cS_0, cV_6, (fun b o hlt => hw.cell (p := ⟨b, o, none⟩) hlt)⟩ (fun hHeld => ?_)
   clear cX_0 cS_0 cV_6
   have hb1981 : Below wd1921.heap.size wd1921 (wd1921.drew) := (Below.refl _ _).drew
   replace S := dB S hb1981
   replace V := dB V hb1981
   replace X := dB X hb1981
   replace O := dK O hb1981
   replace hw := dT hw hb1981
   clear hb1981
   generalize wd1921.drew = wd1982 at *
   refine tk (i := 0) (v := ?k1983) ?_
   simp only [put_laws2]
   refine tk (i := 1) (v := ?k1984) ?_
   simp only [put_laws2]
   refine tk (i := 2) (v := ?k1985) ?_
   simp only [put_laws2]
   refine tk (i := 3) (v := ?k1986) ?_
   simp only [put_laws2]
   refine tk (i := 4) (v := ?k1987) ?_
   simp only [put_laws2]
   refine tk (i := 5) (v := ?k1988) ?_
   simp only [put_laws2]
   refine tk (i := 6) (v := ?k1989) ?_
   simp only [put_laws2]
   refine rd1 (i := 7) (fun K hK => ?_)
   go_simp
   obtain ⟨L0, hL0⟩ : ∃ L, L = wd1982.heap.size := ⟨_, rfl⟩
   have hLX : gX < L0 := hL0 ▸ X.out.here
   have hUL := O.out.le
   rw [← hL0] at hUL
   ((with_reducible refine (HIH.out y (ts[ti].elem) _ _ _ _ hnn (by omega) HFY.out (HT.out.on hw) (HYA.out.on hw)).mono ?_); rintro e wd1990 ⟨vl, rfl, hl, hb1991⟩)
   replace S := dB S hb1991
   replace V := dB V hb1991
   replace X := dB X hb1991
   replace O := dK O hb1991
   replace hw := dT hw hb1991
   clear hb1991
   obtain ⟨Al, cl, rfl, hcl⟩ := hl.form
   rw [← hL0] at hl
   generalize pathsV ts y (ts[ti].elem) = qs at *
   have Q := Lib.hid (hl.kept)
   clear hl hL0
   try clear hHeld
   refine hK.out _ _ (⟨S.out.cell 0, ⟨V.out.cell 6, (fun b o hlt => hw.cell (p := ⟨b, o, none⟩) hlt)⟩⟩) (fun hHeld => ?_)
   clear hK K
   refine tk (i := 8) (v := ?k1992) ?_
   simp only [put_laws2]
   refine wpAnyH_done (by kernel_rfl) ?_ _
   try clear hHeld
   clear c80 c81 c82 c83 c84 c85 c86 c87
   have hnum2 : qs.length ≤ 1000 := by omega
   obtain ⟨H0, hH0⟩ : ∃ H, H = wd1990.heap.size := ⟨_, rfl⟩
   have HIN2 : Hid (PathInv2 w wd1990 gP gX L0 H0 #[.slice (some ⟨b, o, none⟩) ts.length c] #[.int .i64 v.kind, .bool v.bool, .int .i64 v.num, .string ⟨v.str.toArray⟩, .int .i64 v.id, .slice A1 v.keys.length n1, .slice (some ⟨b3, o3, none⟩) v.items.length n2, .slice A3 v.rest.length n3] #[.int .i64 ts[ti].kind, .string ⟨ts[ti].name.toArray⟩, .int .i64 ts[ti].low, .int .i64 ts[ti].high, .int .i64 ts[ti].max, .slice C1 ts[ti].syms.length m1, .slice C2 ts[ti].mems.length m2, .int .i64 ts[ti].key, .int .i64 ts[ti].elem, .bool ts[ti].opn] ps qs (.slice Al qs.length cl) (k : Int) (.slice A7 ps.length c7) (.int .i64 (0 : Nat))) := Lib.hid ⟨0, _, by omega, rfl, S.out, V.out, X.out, by simpa using O.out.now, HS.out, fun q hq => by have h1 := HZ.out q hq; have h2 := HU.out q hq; omega, hH0 ▸ Q.out, hw⟩
   clear S V X O Q hH0
   go_wp2_with fail
   go_loopw [7, 15] (fun s7 s15 ws => PathInv2 w ws gP gX L0 H0 #[.slice (some ⟨b, o, none⟩) ts.length c] #[.int .i64 v.kind, .bool v.bool, .int .i64 v.num, .string ⟨v.str.toArray⟩, .int .i64 v.id, .slice A1 v.keys.length n1, .slice (some ⟨b3, o3, none⟩) v.items.length n2, .slice A3 v.rest.length n3] #[.int .i64 ts[ti].kind, .string ⟨ts[ti].name.toArray⟩, .int .i64 ts[ti].low, .int .i64 ts[ti].high, .int .i64 ts[ti].max, .slice C1 ts[ti].syms.length m1, .slice C2 ts[ti].mems.length m2, .int .i64 ts[ti].key, .int .i64 ts[ti].elem, .bool ts[ti].opn] ps qs (.slice Al qs.length cl) (k : Int) s7 s15) (fun _ s15 _ => qs.length - (intOf s15).toNat)
   case atStart => exact HIN2.out
   case round =>
    clear HIN2 HS HZ HU
    obtain ⟨m, Sm, hm, rfl, S, V, X, hO, hS, hZ, Q, hw⟩ := hrel
    obtain ⟨A8, c8, rfl⟩ := hO.form
    have hol := hO.lt
    obtain ⟨rs, hrs⟩ : ∃ rs, rs = ps ++ (qs.take m).map (fun q => (k : Int) :: q) := ⟨_, rfl⟩
    rw [← hrs] at hO hZ hol
    rw [← hrs]
    by_cases hmq : m < qs.length
    ·
     have hrl : rs.length ≤ 5000 := by rw [hrs, List.length_append, List.length_map, List.length_take]; omega
     obtain ⟨b4, o4, rfl, hb4, hel⟩ := Q.now.at_ (by omega)
     obtain ⟨u, hu, hpu⟩ := hel m hmq
     have hrs2 : ps ++ (qs.take (m + 1)).map (fun q => (k : Int) :: q) = rs ++ [(k : Int) :: qs[m]] := by rw [hrs, List.take_succ_eq_append_getElem hmq, List.map_append, List.append_assoc]; rfl
     have hqm : qs[m].length ≤ 1000 := Nat.le_trans (HQL.out _ (List.getElem_mem hmq)) (by omega)
     generalize qs[m] = q at *
     obtain ⟨⟨hpl1, Au, cu, rfl, hpl2⟩, hpn⟩ := hpu
     have hpu2 : PathAt wr (fun b => L0 ≤ b ∧ b < H0) (.slice Au q.length cu) q := ⟨⟨hpl1, Au, cu, rfl, hpl2⟩, hpn⟩
     have hmq1 : (m : Int) < qs.length := by omega
     have HRS := Lib.hid hrs2
     have HU2 := Lib.hid hpu2
     have HO := Lib.hid hO
     have HS := Lib.hid hS
     have HZ := Lib.hid hZ
     have HOL := Lib.hid hol
     have HQ := Lib.hid Q
     have HW := Lib.hid hw
     have HSS := Lib.hid S
     have HVV := Lib.hid V
     have HXX := Lib.hid X
     have hua := cell_alR hu
     have hgl := V.here
     have hgx := X.here
     have hql := Q.le
     clear hpl1 hpl2 hpn hpu2 hrs hrs2 hO hS hZ hol Q hw S V X hu hel
     go_upto_region 15 with (first | (at_builtin; refine wpList_path rfl _ _ rfl (gN := wr.heap.size) (n := (k : Int)) (S := fun b => L0 ≤ b ∧ b < H0) (q := q) (Has.made wr 3 #[.int .i64 ((k : Int))]) rfl rfl (HU2.out.keep (fun p hp => World.cell?_of_block ((aB rfl).block p.block (by omega))) (fun _ h => h)) (by omega) ?_; intro a1 c1 w1 S1 hp1 hS1 hb1 hk1) | (at_builtin; refine wpList_paths rfl _ _ rfl (L := gP) (gM := w1.heap.size) (S := Sm) (Sy := S1) (ps := rs) (q := (k : Int) :: q) (v := .slice A8 rs.length c8) ?hown rfl (Has.made w1 44 #[.slice a1 (q.length + 1) c1]) rfl ?hpa ?hsy (by omega) ?hle ?_; rotate_right; intro v2 w2 hO2 hat hb2 hk2))
     case hown =>
      have hs1 : wr.heap.size + 1 ≤ w1.heap.size := by have := hb1.size; simpa using this
      refine HO.out.keepS (fun j hj => ?_)
      have hlt : j < wr.heap.size := hj.elim (fun h => (HO.out.sep j h).1) (fun h => (HOL.out j h).2)
      exact ((aB rfl).block j (by omega)).trans ((hb1.block j hlt).trans ((aB rfl).block j hlt))
     case hpa =>
      have hs1 : wr.heap.size + 1 ≤ w1.heap.size := by have := hb1.size; simpa using this
      simp only [alloc_hz] at hS1
      exact hp1.keep (fun p hp => World.cell?_of_block ((aB rfl).block p.block (by have := hS1 _ hp; omega))) (fun _ h => h)
     case hsy =>
      have hs1 : wr.heap.size + 1 ≤ w1.heap.size := by have := hb1.size; simpa using this
      simp only [alloc_hz] at hS1 ⊢
      exact fun j hj => ⟨by have := hS1 j hj; omega, fun e => by have := HOL.out j e; have := hS1 j hj; omega⟩
     case hle =>
      have hs1 : wr.heap.size + 1 ≤ w1.heap.size := by have := hb1.size; simpa using this
      rw [alloc_hz]; omega
     have hs1 : wr.heap.size + 1 ≤ w1.heap.size := by have := hb1.size; simpa using this
     simp only [alloc_hz] at hS1
     have hB1 : Below wr.heap.size wr w1 := (aB rfl).trans hb1
     have hB2 : Below w1.heap.size w1 (w1.alloc (.cells #[.slice a1 (q.length + 1) c1] 44)) := aB rfl
     have hV2 := dG (dB (dB HVV hB1) hB2) hk2 (fun hh => by have := HZ.out _ hh; omega)
     have hS2 := dG (dB (dB HSS hB1) hB2) hk2 (fun hh => by have := HZ.out _ hh; omega)
     have hX2 := dG (dB (dB HXX hB1) hB2) hk2 (fun hh => by have := HZ.out _ hh; omega)
     have hSb : ∀ b, (Sm b ∨ S1 b) → gX + 1 ≤ b := fun b hb => hb.elim (HS.out b) (fun h => by have := hS1 b h; omega)
     have hZ2 : ∀ q, v2.ownBlock = some q → q = gP ∨ (gX + 1 ≤ q ∧ (q < L0 ∨ H0 ≤ q)) := fun q hq => by
      rcases hat with h4 | h4
      ·
       rw [h4] at hq; exact HZ.out q hq
      rw [h4] at hq; have := Option.some.inj hq; rw [alloc_hz] at this; omega
     have hs2 := hB2.size
     have hs3 := hb2.size
     have hQ2 := HQ.out.move (fun j h1 h2 => (hk2 j (by omega) (fun e => by have := HZ.out j e; omega)).trans ((hB2.block j (by omega)).trans (hB1.block j (by omega)))) (by omega)
     have hW2 : Below w.heap.size w w2 := HW.out.trans ((hB1.mono (by omega)).trans ((hB2.mono (by omega)).trans (hb2.mono (by omega))))
     have HE : Hid (PathInv2 w w2 gP gX L0 H0 #[.slice (some ⟨b, o, none⟩) ts.length c] #[.int .i64 v.kind, .bool v.bool, .int .i64 v.num, .string ⟨v.str.toArray⟩, .int .i64 v.id, .slice A1 v.keys.length n1, .slice (some ⟨b3, o3, none⟩) v.items.length n2, .slice A3 v.rest.length n3] #[.int .i64 ts[ti].kind, .string ⟨ts[ti].name.toArray⟩, .int .i64 ts[ti].low, .int .i64 ts[ti].high, .int .i64 ts[ti].max, .slice C1 ts[ti].syms.length m1, .slice C2 ts[ti].mems.length m2, .int .i64 ts[ti].key, .int .i64 ts[ti].elem, .bool ts[ti].opn] ps qs (.slice (some ⟨b4, o4, none⟩) qs.length cl) (k : Int) v2 (.int .i64 (m + 1 : Nat))) := Lib.hid ⟨m + 1, _, by omega, rfl, hS2.out, hV2.out, hX2.out, by rw [HRS.out]; exact hO2, hSb, hZ2, hQ2, hW2⟩
     clear hV2 hS2 hX2 hSb hZ2 hQ2 hW2 hk1 hk2 hat hb1 hb2 hB1 hB2 hO2 hp1 hS1 hua
     go_wp2_with fail
     go_roundw
     case rel => exact HE.out
     case measure => simp [intOf]; omega
    obtain rfl : m = qs.length := by omega
    rw [List.take_length] at hrs
    have HE : Hid (PathInv w wr gP gX #[.slice (some ⟨b, o, none⟩) ts.length c] #[.int .i64 v.kind, .bool v.bool, .int .i64 v.num, .string ⟨v.str.toArray⟩, .int .i64 v.id, .slice A1 v.keys.length n1, .slice (some ⟨b3, o3, none⟩) v.items.length n2, .slice A3 v.rest.length n3] #[.int .i64 ts[ti].kind, .string ⟨ts[ti].name.toArray⟩, .int .i64 ts[ti].low, .int .i64 ts[ti].high, .int .i64 ts[ti].max, .slice C1 ts[ti].syms.length m1, .slice C2 ts[ti].mems.length m2, .int .i64 ts[ti].key, .int .i64 ts[ti].elem, .bool ts[ti].opn] ts ts[ti] v.id v.items (.slice A8 rs.length c8) (.int .i64 (k + 1 : Nat))) := Lib.hid ⟨k + 1, Sm, by omega, rfl, S, V, X, by rw [HPT.out, ← List.cons_append, ← HPS.out, ← hrs]; exact hO, hS, fun q hq => by have := hZ q hq; omega, hw⟩
    clear hO hS hZ S V X Q hw hol hrs
    go_wp2_with fail
    go_roundw
    case rel => exact HE.out
    case measure => simp [intOf]; omega
  obtain rfl : k = v.items.length := by omega
  have hps := HPS.out
  rw [List.take_length, ← HPV.out] at hps
  subst hps
  go_wp2_with fail
  go_ret
  have ho := O.out.now
  have hle := (hw).size
  exact ⟨_, rfl, ho.row.keep (fun _ _ => rfl) (fun q hq => hq.elim (fun hq => by have := HS.out q hq; have := (ho.sep q hq).1; omega) (fun hq => by have := HZ.out q hq; have := ho.lt q hq; omega)), hw⟩
end Go.Proofs.Ytgeapglanckjpaa

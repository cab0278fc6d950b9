/- What initial computes for a draft, for all kinds. What parts computes for a draft. No condition. -/
import Derived.Test.YtgeapglanckjpaaDraftD
set_option maxHeartbeats 2000000
namespace Go.Proofs.Ytgeapglanckjpaa
open Go.ChangeShapes Go.WideShapes Go.ChangeAt Go.RowKit
theorem initial_any (xs : List Nod) (vn : Value) (t code : Nat) (w : World) (hc : code < 256) (h5 : 0 < xs.length ∧ xs.length ≤ 5) (ht : t < xs.length) (hr : RdNods w w.heap.size vn xs) :
  Calls Try.prog 61 #[.agg #[vn], .int .i64 t, .int .u8 code] w fun e w' => e = .returned (.tuple #[valN (initialN xs t code).1, .bool (initialN xs t code).2]) ∧ Below w.heap.size w w' := by
 have hk : kindN xs[t] = 1 ∨ kindN xs[t] = 2 ∨ kindN xs[t] = 3 ∨ kindN xs[t] = 4 ∨ kindN xs[t] = 5 ∨ kindN xs[t] = 6 ∨ kindN xs[t] = 7 ∨ kindN xs[t] = 8 ∨ kindN xs[t] = 9 := by
  have := kindN_in xs[t]; omega
 rcases hk with hk | hk | hk | hk | hk | hk | hk | hk | hk
 ·
  exact initial1 xs vn t code w h5 ht hk hr
 ·
  exact initial2 xs vn t code w hc h5 ht hk hr
 ·
  by_cases ha : xs[t].a % 4 = 0
  ·
   exact initial3n xs vn t code w h5 ht hk ha hr
  by_cases hb : code % 2 = 1
  ·
   exact initial3y xs vn t code w h5 ht hk ⟨by omega, hb⟩ hr
  exact initial3m xs vn t code w h5 ht hk (by omega) (by omega) hr
 ·
  exact initial4 xs vn t code w hc h5 ht hk hr
 ·
  exact initial5 xs vn t code w h5 ht hk hr
 ·
  exact initial6 xs vn t code w h5 ht hk hr
 ·
  exact initial7 xs vn t code w h5 ht hk hr
 ·
  cases hj : keyN xs 0 with
  | none => exact initial8n xs vn t code w h5 ht hk hj hr
  | some j => exact initial8 xs vn t code w h5 ht hk j hj hr
 exact initial9 xs vn t code w h5 ht hk hr
end Go.Proofs.Ytgeapglanckjpaa
namespace Go.Proofs.Ytgeapglanckjpaa
open Go.ChangeShapes Go.WideShapes Go.ChangeAt Go.RowKit
def memC (m : Mem) : List Value := [.int .i64 m.id, .string ⟨m.name.toArray⟩, .int .i64 m.ty, .bool m.crit, .bool m.hasDef, .int .i64 m.dflt.kind, .bool m.dflt.bool, .int .i64 m.dflt.num, .string ⟨m.dflt.str.toArray⟩, .int .i64 m.dflt.id, .slice none 0 0, .slice none 0 0, .slice none 0 0]
theorem memC_len (m : Mem) : (memC m).length = 13 := rfl
def PartsPost (ms : List Mem) (w : World) (e : Ending) (w' : World) : Prop := ∃ v, e = .returned v ∧ w'.ownsRow w.heap.size 66 13 v ms.length (ms.flatMap memC) ∧ Below w.heap.size w w'
theorem rune1 (c : Nat) (h : c < 128) : Utf8.encode (c : Int) = { data := [UInt8.ofNat c].toArray } := by
 have : ∀ i : Fin 128, Utf8.encode ((i.val : Nat) : Int) = { data := [UInt8.ofNat i.val].toArray } := by decide +kernel
 exact this ⟨c, h⟩
theorem find_at {α β : Type} (f : α → Option β) : ∀ (l : List α) (j : Nat) (h : j < l.length), (∀ q ∈ l.take j, f q = none) → ∀ m, f l[j] = some m → l.findSome? f = some m
 | [], j, h, _, _, _ => by simp at h
 | a :: r, 0, h, _, m, hm => by
  rw [List.findSome?_cons]
  have : f a = some m := hm
  rw [this]
 | a :: r, j + 1, h, hq, m, hm => by
  rw [List.findSome?_cons, hq a (by simp)]
  exact find_at f r j (by simpa using h) (fun q h2 => hq q (by simp [h2])) m hm
theorem targetN_lt (xs : List Nod) (i code : Nat) (hi : i < xs.length) (t : Nat) (h : targetN xs i code = some t) : t < xs.length := by
 unfold targetN at h
 split at h
 ·
  injection h with h; subst h; exact Nat.mod_lt _ (by omega)
 split at h
 ·
  injection h with h; subst h
  have := Nat.mod_lt (code % xs.length) (show 0 < i by omega)
  omega
 have := firstF_some _ _ _ h; omega
theorem nm1_at (k : Nat) : nm1 109 ((k + 1 : Nat) : Int) = [109, UInt8.ofNat (98 + k)] := by
 unfold nm1
 rw [show (97 + ((k + 1 : Nat) : Int)).toNat = 98 + k by omega]
 rfl
theorem partsK_len (xs : List Nod) (i : Nat) (rc : Bool) (ps : List Prt) (k : Nat) : (partsK xs i rc ps k).length ≤ k := by
 induction k with
 | zero => simp [partsK]
 | succ k ih =>
  rw [partsK, List.length_append]
  have : (partFor xs i rc ps (k + 1)).length ≤ 1 := by unfold partFor; cases List.findSome? (partOf xs i rc (k + 1)) ps <;> simp
  omega
theorem info_mem : (Try.prog.info? 66).map (fun i => (i.zero, i.size, i.bytes)) = some (some (.agg #[.int .i64 0, .string ByteArray.empty, .int .i64 0, .bool false, .bool false, .int .i64 0, .bool false, .int .i64 0, .string ByteArray.empty, .int .i64 0, .slice none 0 0, .slice none 0 0, .slice none 0 0]), 13, 160) := by kernel_rfl
set_option maxRecDepth 100000 in
theorem parts_any (xs : List Nod) (vn : Value) (i : Nat) (rc : Bool) (w : World) (h5 : 0 < xs.length ∧ xs.length ≤ 5) (hi : i < xs.length) (hr : RdNods w w.heap.size vn xs) :
  Calls Try.prog 38 #[.agg #[vn], .int .i64 i, .bool rc] w (PartsPost (partsN xs i rc xs[i].parts) w) := by
 obtain ⟨A, c, rfl, hcap⟩ := hr.form
 have HR := Lib.hid hr
 obtain ⟨b, o, rfl, hb, hel⟩ := hr.elem h5.1
 obtain ⟨vp, hcs, hn⟩ := hel i hi
 obtain ⟨P0, cp, rfl, hcp⟩ := hn.parts.form
 obtain ⟨n0, n1, n2, n3, n4⟩ := hcs
 have ht1 : (i : Int) < xs.length := by omega
 have hpl := hn.len
 have HNP := Lib.hid hn
 clear hel hr hn
 generalize xs[i] = x at *
 go_enter Try.func38, Try.ntmps38
 go_upto_region 4 with fail
 obtain ⟨wd1318, hE1319⟩ : ∃ ww, ww = w.alloc (.cells #[.slice (some ⟨b, o, none⟩) xs.length c] 24) := ⟨_, rfl⟩
 rw [← hE1319]
 have hb1317 := aB hE1319
 have D := aN hE1319
 obtain ⟨wd1320, hE1321⟩ : ∃ ww, ww = wd1318.alloc (.cells #[.int .u8 x.kind, .int .u8 x.a, .int .u8 x.b, .int .u8 x.c, .slice P0 x.parts.length cp] 74) := ⟨_, rfl⟩
 rw [← hE1321]
 replace D := dB D (aB hE1321)
 replace hb1317 := dT hb1317 (aB hE1321)
 have N := aM hE1321 (aZ hE1319 rfl)
 clear hE1319 hE1321
 have hw1322 := hb1317
 clear hb1317
 clear n0 n1 n2 n3 n4
 go_loopw [8, 9, 10, 11, 12, 13] (fun v id _ _ _ _ wr => ∃ k : Nat, k ≤ 12 ∧ id = .int .i64 ((k : Int) + 1) ∧ wr.ownsRow (w.heap.size + 1 + 1) 66 13 v (partsK xs i rc x.parts k).length ((partsK xs i rc x.parts k).flatMap memC) ∧ Below w.heap.size w wr ∧ Has wr (w.heap.size) 24 #[.slice (some ⟨b, o, none⟩) xs.length c] ∧ Has wr (w.heap.size + 1) 74 #[.int .u8 x.kind, .int .u8 x.a, .int .u8 x.b, .int .u8 x.c, .slice P0 x.parts.length cp])
  (fun _ id _ _ _ _ _ => 14 - (intOf id).toNat)
 case atStart => exact ⟨0, by omega, rfl, World.ownsRow_nil _ _ _ _, hw1322, D.out, N.out⟩
 case round =>
  obtain ⟨k, hk, rfl, hown, hw, D, N⟩ := hrel
  have hkl := partsK_len xs i rc x.parts k
  by_cases hlt : k < 12
  ·
   clear hk
   have tk : decide ((k : Int) + 1 ≤ 12) = true := decide_eq_true (by omega)
   go_wp2_with fail
   obtain ⟨wo, rfl⟩ : ∃ wo : World, wo = wr := ⟨_, rfl⟩
   go_loopw [8, 10, 11, 12, 13] (fun v jj _ _ _ wi => ∃ j : Nat, j ≤ x.parts.length ∧ jj = .int .i64 j ∧ Hid (∀ q ∈ x.parts.take j, partOf xs i rc (k + 1) q = none) ∧ wi.ownsRow (w.heap.size + 1 + 1) 66 13 v (partsK xs i rc x.parts k).length ((partsK xs i rc x.parts k).flatMap memC) ∧ Below w.heap.size w wi ∧ Has wi (w.heap.size) 24 #[.slice (some ⟨b, o, none⟩) xs.length c] ∧ Has wi (w.heap.size + 1) 74 #[.int .u8 x.kind, .int .u8 x.a, .int .u8 x.b, .int .u8 x.c, .slice P0 x.parts.length cp])
    (fun _ jj _ _ _ _ => x.parts.length - (intOf jj).toNat)
   case atStart => exact ⟨0, by omega, rfl, (fun q hq => by simp at hq : ∀ q ∈ x.parts.take 0, _), hown, hw, D, N⟩
   case round =>
    clear hown hw D N wo
    obtain ⟨j, hj, rfl, HQ, hown, hw, D, N⟩ := hrel
    replace D := Lib.hid D
    replace N := Lib.hid N
    have O := Lib.hid (Kept.own hown)
    have cN_4 : wr.cell? ⟨w.heap.size + 1, 4, none⟩ = some (.slice P0 x.parts.length cp) := N.out.cell 4
    by_cases hjl : j < x.parts.length
    ·
     obtain ⟨b2, o2, rfl, hb2, hpc⟩ := HNP.out.parts.at_ (by omega)
     obtain ⟨hp0, hp1, hp2⟩ := HNP.out.ins x.parts[j] (List.getElem_mem hjl)
     have hpc0 := hpc (j * 3) (.int .u8 x.parts[j].1) (by rw [show j * 3 = j * 3 + 0 from rfl, flat_get partV_len x.parts j 0 hjl (by omega)]; rfl)
     have hpc1 := hpc (j * 3 + 1) (.int .u8 x.parts[j].2.1) (by rw [flat_get partV_len x.parts j 1 hjl (by omega)]; rfl)
     have hpc2 := hpc (j * 3 + 2) (.int .u8 x.parts[j].2.2) (by rw [flat_get partV_len x.parts j 2 hjl (by omega)]; rfl)
     have p0 := (hw.cell (p := ⟨b2, _, none⟩) hb2).trans hpc0
     have p1 : wr.cell? ⟨b2, o2 + j * 3 + 1, none⟩ = some (.int .u8 x.parts[j].2.1) := by rw [Nat.add_assoc]; exact (hw.cell (p := ⟨b2, _, none⟩) hb2).trans hpc1
     have p2 : wr.cell? ⟨b2, o2 + j * 3 + 2, none⟩ = some (.int .u8 x.parts[j].2.2) := by rw [Nat.add_assoc]; exact (hw.cell (p := ⟨b2, _, none⟩) hb2).trans hpc2
     have htk : x.parts.take (j + 1) = x.parts.take j ++ [x.parts[j]] := List.take_succ_eq_append_getElem hjl
     have HTK : Hid (∀ m, partOf xs i rc (k + 1) x.parts[j] = some m → partsK xs i rc x.parts (k + 1) = partsK xs i rc x.parts k ++ [m]) := by
      intro m hm
      have : partFor xs i rc x.parts (k + 1) = [m] := by
       unfold partFor
       rw [find_at (partOf xs i rc (k + 1)) x.parts j hjl HQ.out m hm]
       rfl
      rw [partsK, this]
     have HTN : Hid (partOf xs i rc (k + 1) x.parts[j] = none → ∀ q ∈ x.parts.take (j + 1), partOf xs i rc (k + 1) q = none) := by
      intro hm q hq
      rw [htk] at hq
      rcases List.mem_append.1 hq with h | h
      ·
       exact HQ.out q h
      rw [List.mem_singleton.1 h]; exact hm
     have htg := fun W h => target_any xs (.slice (some ⟨b, o, none⟩) xs.length c) i x.parts[j].2.1 W hp1 h5 h
     have hpo : partOf xs i rc (k + 1) x.parts[j] = match targetN xs i x.parts[j].2.1 with
      | none => none
      | some t => if 1 + x.parts[j].1 % 12 = k + 1 then
        some { id := ((k + 1 : Nat) : Int), name := nm1 109 ((k + 1 : Nat) : Int), ty := t, crit := rc && decide (x.parts[j].2.2 % 4 = 1), hasDef := (if rc && decide (2 ≤ x.parts[j].2.2 % 4) then initialN xs t (x.parts[j].2.2 / 4) else (val0, false)).2, dflt := (if rc && decide (2 ≤ x.parts[j].2.2 % 4) then initialN xs t (x.parts[j].2.2 / 4) else (val0, false)).1 }
       else none := rfl
     have htl := fun tt => targetN_lt xs i x.parts[j].2.1 hi tt
     generalize targetN xs i x.parts[j].2.1 = tg at *
     generalize x.parts[j] = pq at *
     obtain ⟨q0, q1, q2⟩ := pq
     simp only at *
     have HTG := Lib.hid htg
     clear htk htg hpc hpc0 hpc1 hpc2
     have hq0 : (q0 : Int) < 256 := by omega
     have hq2 : (q2 : Int) < 256 := by omega
     have hm0 : 0 ≤ (q0 : Int) % 12 ∧ (q0 : Int) % 12 ≤ 11 := by omega
     by_cases hid : 1 + q0 % 12 = k + 1
     ·
      have tid : (1 + (q0 : Int) % 12 != (k : Int) + 1) = false := by rw [bne_eq_false_iff_eq]; omega
      cases tg with
      | none =>
       have HTN2 := Lib.hid (HTN.out hpo)
       clear HTN HTK hpo HQ htl hid
       go_upto_region 10 with fail
       clear cN_4
       obtain ⟨wd1324, hE1325⟩ : ∃ ww, ww = wr.alloc (.cells #[.int .u8 q0, .int .u8 q1, .int .u8 q2] 104) := ⟨_, rfl⟩
       rw [← hE1325]
       have hb1323 := aB hE1325
       have P := aN hE1325
       clear hE1325
       have hl1327 := D.out.here
       have hl1328 := N.out.here
       have hl1329 := O.out.le
       have hl1330 := hw.size
       replace D := dB D hb1323
       replace N := dB N hb1323
       replace O := dK O hb1323
       replace hw := dT hw hb1323
       clear hb1323
       generalize wr.heap.size = g1326 at *
       clear p0 p1 p2
       have cD_0 : wd1324.cell? ⟨w.heap.size, 0, none⟩ = some (.slice (some ⟨b, o, none⟩) xs.length c) := D.out.cell 0
       have cP_1 : wd1324.cell? ⟨g1326, 1, none⟩ = some (.int .u8 q1) := P.out.cell 1
       go_wp2_with fail
       clear cD_0 cP_1
       ((with_reducible refine (HTG.out _ (HR.out.on hw)).mono ?_); rintro e wd1331 ⟨rfl, hb1332⟩)
       replace D := dB D hb1332
       replace N := dB N hb1332
       replace P := dB P hb1332
       replace O := dK O hb1332
       replace hw := dT hw hb1332
       clear hb1332
       have cP_0 : wd1331.cell? ⟨g1326, 0, none⟩ = some (.int .u8 q0) := P.out.cell 0
       go_wp2_with fail
       go_roundw
       case rel => exact ⟨j + 1, by omega, by go_num, HTN2.out, O.out.now, hw, D.out, N.out⟩
       case measure => simp [intOf]; omega
      | some t =>
       simp only [hid, if_true] at hpo
       have htl2 := htl t rfl
       have HM := Lib.hid (HTK.out _ hpo)
       clear HTN HTK hpo HQ htl hid
       have tlt : decide ((t : Int) < 0) = false := decide_eq_false (by omega)
       replace HTG : Hid (∀ W, _ → Calls _ _ _ W (fun e w' => e = .returned (.int .i64 (t : Int)) ∧ Below W.heap.size W w')) := HTG
       have hkk : (k : Int) + 1 ≤ 12 := by omega
       go_upto_region 10 with fail
       clear cN_4
       obtain ⟨wd1334, hE1335⟩ : ∃ ww, ww = wr.alloc (.cells #[.int .u8 q0, .int .u8 q1, .int .u8 q2] 104) := ⟨_, rfl⟩
       rw [← hE1335]
       have hb1333 := aB hE1335
       have P := aN hE1335
       clear hE1335
       have hl1337 := D.out.here
       have hl1338 := N.out.here
       have hl1339 := O.out.le
       have hl1340 := hw.size
       replace D := dB D hb1333
       replace N := dB N hb1333
       replace O := dK O hb1333
       replace hw := dT hw hb1333
       clear hb1333
       generalize wr.heap.size = g1336 at *
       clear p0 p1 p2
       have cD_0 : wd1334.cell? ⟨w.heap.size, 0, none⟩ = some (.slice (some ⟨b, o, none⟩) xs.length c) := D.out.cell 0
       have cP_1 : wd1334.cell? ⟨g1336, 1, none⟩ = some (.int .u8 q1) := P.out.cell 1
       go_wp2_with fail
       clear cD_0 cP_1
       ((with_reducible refine (HTG.out _ (HR.out.on hw)).mono ?_); rintro e wd1341 ⟨rfl, hb1342⟩)
       replace D := dB D hb1342
       replace N := dB N hb1342
       replace P := dB P hb1342
       replace O := dK O hb1342
       replace hw := dT hw hb1342
       clear hb1342
       have cP_0 : wd1341.cell? ⟨g1336, 0, none⟩ = some (.int .u8 q0) := P.out.cell 0
       go_upto_region 12 with fail
       obtain ⟨q, hq, Hq⟩ : ∃ q : Nat, 97 + ((k : Int) + 1) = (q : Int) ∧ Hid (q = 98 + k) := ⟨98 + k, by omega, rfl⟩
       have hqb : (q : Int) < 128 := by have := Hq.out; omega
       have hs : (Utf8.encode (q : Int)).size = 1 := by rw [rune1 q (by omega)]; rfl
       go_upto_region 13 with fail
       have hstr : ({ data := #[109] } : ByteArray) ++ Utf8.encode (q : Int) = { data := (nm1 109 ((k + 1 : Nat) : Int)).toArray } := by
        rw [rune1 q (by omega), Hq.out]
        rw [nm1_at k]
        exact str_app [109] [UInt8.ofNat (98 + k)]
       generalize nm1 109 ((k + 1 : Nat) : Int) = nm at *
       rw [hstr]
       clear hstr hs hqb Hq hq
       clear cP_0
       obtain ⟨wd1344, hE1345⟩ : ∃ ww, ww = wd1341.alloc (.cells #[.int .i64 ((k : Int) + 1), .string ⟨nm.toArray⟩, .int .i64 (t : Int), .bool false, .bool false, .int .i64 0, .bool false, .int .i64 0, .string ⟨#[]⟩, .int .i64 0, .slice none 0 0, .slice none 0 0, .slice none 0 0] 66) := ⟨_, rfl⟩
       rw [← hE1345]
       have hb1343 := aB hE1345
       have M := aN hE1345
       clear hE1345
       have hl1347 := D.out.here
       have hl1348 := N.out.here
       have hl1349 := P.out.here
       have hl1350 := O.out.le
       have hl1351 := hw.size
       replace D := dB D hb1343
       replace N := dB N hb1343
       replace P := dB P hb1343
       replace O := dK O hb1343
       replace hw := dT hw hb1343
       clear hb1343
       generalize wd1341.heap.size = g1346 at *
       cases rc with
       | false =>
        obtain ⟨cM_0, cM_1, cM_2, cM_3, cM_4, cM_5, cM_6, cM_7, cM_8, cM_9, cM_10, cM_11, cM_12⟩ := M.out.c13
        go_upto_region 17 with fail
        have hbase : w.heap.size + 1 + 1 ≤ wd1344.heap.size := N.out.here
        go_wp2_with (at_builtin; refine wpList_append_at rfl _ _ _ rfl (w.heap.size + 1 + 1) 66 _ 13 160 Try.underlying62 info_mem rfl (by decide) _ _ _ rfl O.out.now [.int .i64 ((k : Int) + 1), .string ⟨nm.toArray⟩, .int .i64 (t : Int), .bool false, .bool false, .int .i64 0, .bool false, .int .i64 0, .string ⟨#[]⟩, .int .i64 0, .slice none 0 0, .slice none 0 0, .slice none 0 0] _ 1 _ rfl rfl rfl (by simp [Value.oneCell']) (by omega) (by omega) hbase ?_; intro v3 w3 hown3 hb3)
        clear cM_0 cM_1 cM_2 cM_3 cM_4 cM_5 cM_6 cM_7 cM_8 cM_9 cM_10 cM_11 cM_12
        clear P
        clear M
        clear O
        replace D := Lib.hid (D.out.below hb3 (show w.heap.size < w.heap.size + 1 + 1 by omega))
        replace N := Lib.hid (N.out.below hb3 (show w.heap.size + 1 < w.heap.size + 1 + 1 by omega))
        replace hw := hw.trans (hb3.mono (show w.heap.size ≤ w.heap.size + 1 + 1 by omega))
        go_roundw
        case rel => exact ⟨k + 1, by omega, by go_num, by rw [HM.out, List.length_append, List.flatMap_append]; exact hown3, hw, D.out, N.out⟩
        case measure => simp [intOf]; omega
       | true =>
        have cP_2 : wd1344.cell? ⟨g1336, 2, none⟩ = some (.int .u8 q2) := P.out.cell 2
        have hm2 : 0 ≤ (q2 : Int) % 4 := by omega
        by_cases h1 : q2 % 4 = 1
        ·
         have t1 : ((q2 : Int) % 4 == 1) = true := beq_iff_eq.2 (by omega)
         have t2 : decide (2 ≤ (q2 : Int) % 4) = false := decide_eq_false (by omega)
         have HM2 := HM.out
         rw [show decide (q2 % 4 = 1) = true from decide_eq_true h1, show decide (2 ≤ q2 % 4) = false from decide_eq_false (by omega)] at HM2
         replace HM := Lib.hid HM2
         clear HM2 h1
         have cM_3 : wd1344.cell? ⟨g1346, 3, none⟩ = some (.bool false) := M.out.cell 3
         have fM_3 := M.out.free 3
         go_upto_region 17 with fail
         clear cP_2 cM_3 fM_3
         obtain ⟨wd1352, hE1353⟩ : ∃ ww, ww = wd1344.setCell ⟨g1346, 3, none⟩ (.bool true) := ⟨_, rfl⟩
         rw [← hE1353]
         replace D := dF D hE1353 (by omega)
         replace N := dF N hE1353 (by omega)
         replace P := dF P hE1353 (by omega)
         replace M : Hid (Has wd1352 (g1346) 66 #[.int .i64 ((k : Int) + 1), .string ⟨nm.toArray⟩, .int .i64 (t : Int), .bool true, .bool false, .int .i64 0, .bool false, .int .i64 0, .string ⟨#[]⟩, .int .i64 0, .slice none 0 0, .slice none 0 0, .slice none 0 0]) := Lib.hid (by simpa using dS M hE1353)
         replace O := kF O hE1353 (by omega)
         replace hw := tF hw hE1353 (by omega)
         clear hE1353
         obtain ⟨cM_0, cM_1, cM_2, cM_3, cM_4, cM_5, cM_6, cM_7, cM_8, cM_9, cM_10, cM_11, cM_12⟩ := M.out.c13
         go_upto_region 17 with fail
         have hbase : w.heap.size + 1 + 1 ≤ wd1352.heap.size := N.out.here
         go_wp2_with (at_builtin; refine wpList_append_at rfl _ _ _ rfl (w.heap.size + 1 + 1) 66 _ 13 160 Try.underlying62 info_mem rfl (by decide) _ _ _ rfl O.out.now [.int .i64 ((k : Int) + 1), .string ⟨nm.toArray⟩, .int .i64 (t : Int), .bool true, .bool false, .int .i64 0, .bool false, .int .i64 0, .string ⟨#[]⟩, .int .i64 0, .slice none 0 0, .slice none 0 0, .slice none 0 0] _ 1 _ rfl rfl rfl (by simp [Value.oneCell']) (by omega) (by omega) hbase ?_; intro v3 w3 hown3 hb3)
         clear cM_0 cM_1 cM_2 cM_3 cM_4 cM_5 cM_6 cM_7 cM_8 cM_9 cM_10 cM_11 cM_12
         clear P
         clear M
         clear O
         replace D := Lib.hid (D.out.below hb3 (show w.heap.size < w.heap.size + 1 + 1 by omega))
         replace N := Lib.hid (N.out.below hb3 (show w.heap.size + 1 < w.heap.size + 1 + 1 by omega))
         replace hw := hw.trans (hb3.mono (show w.heap.size ≤ w.heap.size + 1 + 1 by omega))
         go_roundw
         case rel => exact ⟨k + 1, by omega, by go_num, by rw [HM.out, List.length_append, List.flatMap_append]; exact hown3, hw, D.out, N.out⟩
         case measure => simp [intOf]; omega
        by_cases h2 : 2 ≤ q2 % 4
        ·
         have t1 : ((q2 : Int) % 4 == 1) = false := beq_eq_false_iff_ne.2 (by omega)
         have t2 : decide (2 ≤ (q2 : Int) % 4) = true := decide_eq_true (by omega)
         have HM2 := HM.out
         rw [show decide (q2 % 4 = 1) = false from decide_eq_false h1, show decide (2 ≤ q2 % 4) = true from decide_eq_true h2] at HM2
         have HM2 : _ = _ ++ [Mem.mk _ _ _ false (initialN xs t (q2 / 4)).2 (initialN xs t (q2 / 4)).1] := HM2
         have hin := fun W h => initial_any xs (.slice (some ⟨b, o, none⟩) xs.length c) t (q2 / 4) W (by omega) h5 htl2 h
         have hqq : (q2 : Int) / 4 = ((q2 / 4 : Nat) : Int) := by push_cast; rfl
         generalize initialN xs t (q2 / 4) = iv at *
         obtain ⟨iv, ib⟩ := iv
         simp only at hin HM2
         generalize q2 / 4 = qd at *
         replace HM := Lib.hid HM2
         have HIN := Lib.hid hin
         clear HM2 h1 h2 hin
         have cD_0 : wd1344.cell? ⟨w.heap.size, 0, none⟩ = some (.slice (some ⟨b, o, none⟩) xs.length c) := D.out.cell 0
         go_upto_region 16 with fail
         go_wp2_with fail
         clear cP_2 cD_0
         ((with_reducible refine (HIN.out _ (HR.out.on hw)).mono ?_); rintro e wd1354 ⟨rfl, hb1355⟩)
         replace D := dB D hb1355
         replace N := dB N hb1355
         replace P := dB P hb1355
         replace M := dB M hb1355
         replace O := dK O hb1355
         replace hw := dT hw hb1355
         clear hb1355
         obtain ⟨cM_0, cM_1, cM_2, cM_3, cM_4, cM_5, cM_6, cM_7, cM_8, cM_9, cM_10, cM_11, cM_12⟩ := M.out.c13
         have fM_3 := M.out.free 3
         have fM_4 := M.out.free 4
         have fM_5 := M.out.free 5
         have fM_6 := M.out.free 6
         have fM_7 := M.out.free 7
         have fM_8 := M.out.free 8
         have fM_9 := M.out.free 9
         have fM_10 := M.out.free 10
         have fM_11 := M.out.free 11
         have fM_12 := M.out.free 12
         go_upto_region 17 with fail
         clear cM_0 cM_1 cM_2 cM_3 cM_4 cM_5 cM_6 cM_7 cM_8 cM_9 cM_10 cM_11 cM_12 fM_3 fM_4 fM_5 fM_6 fM_7 fM_8 fM_9 fM_10 fM_11 fM_12
         obtain ⟨wd1356, hE1357⟩ : ∃ ww, ww = wd1354.setCell ⟨g1346, 5, none⟩ (.int .i64 iv.kind) := ⟨_, rfl⟩
         rw [← hE1357]
         replace D := dF D hE1357 (by omega)
         replace N := dF N hE1357 (by omega)
         replace P := dF P hE1357 (by omega)
         replace M : Hid (Has wd1356 (g1346) 66 #[.int .i64 ((k : Int) + 1), .string ⟨nm.toArray⟩, .int .i64 (t : Int), .bool false, .bool false, .int .i64 iv.kind, .bool false, .int .i64 0, .string ⟨#[]⟩, .int .i64 0, .slice none 0 0, .slice none 0 0, .slice none 0 0]) := Lib.hid (by simpa using dS M hE1357)
         replace O := kF O hE1357 (by omega)
         replace hw := tF hw hE1357 (by omega)
         clear hE1357
         obtain ⟨wd1358, hE1359⟩ : ∃ ww, ww = wd1356.setCell ⟨g1346, 6, none⟩ (.bool iv.bool) := ⟨_, rfl⟩
         rw [← hE1359]
         replace D := dF D hE1359 (by omega)
         replace N := dF N hE1359 (by omega)
         replace P := dF P hE1359 (by omega)
         replace M : Hid (Has wd1358 (g1346) 66 #[.int .i64 ((k : Int) + 1), .string ⟨nm.toArray⟩, .int .i64 (t : Int), .bool false, .bool false, .int .i64 iv.kind, .bool iv.bool, .int .i64 0, .string ⟨#[]⟩, .int .i64 0, .slice none 0 0, .slice none 0 0, .slice none 0 0]) := Lib.hid (by simpa using dS M hE1359)
         replace O := kF O hE1359 (by omega)
         replace hw := tF hw hE1359 (by omega)
         clear hE1359
         obtain ⟨wd1360, hE1361⟩ : ∃ ww, ww = wd1358.setCell ⟨g1346, 7, none⟩ (.int .i64 iv.num) := ⟨_, rfl⟩
         rw [← hE1361]
         replace D := dF D hE1361 (by omega)
         replace N := dF N hE1361 (by omega)
         replace P := dF P hE1361 (by omega)
         replace M : Hid (Has wd1360 (g1346) 66 #[.int .i64 ((k : Int) + 1), .string ⟨nm.toArray⟩, .int .i64 (t : Int), .bool false, .bool false, .int .i64 iv.kind, .bool iv.bool, .int .i64 iv.num, .string ⟨#[]⟩, .int .i64 0, .slice none 0 0, .slice none 0 0, .slice none 0 0]) := Lib.hid (by simpa using dS M hE1361)
         replace O := kF O hE1361 (by omega)
         replace hw := tF hw hE1361 (by omega)
         clear hE1361
         obtain ⟨wd1362, hE1363⟩ : ∃ ww, ww = wd1360.setCell ⟨g1346, 8, none⟩ (.string ⟨iv.str.toArray⟩) := ⟨_, rfl⟩
         rw [← hE1363]
         replace D := dF D hE1363 (by omega)
         replace N := dF N hE1363 (by omega)
         replace P := dF P hE1363 (by omega)
         replace M : Hid (Has wd1362 (g1346) 66 #[.int .i64 ((k : Int) + 1), .string ⟨nm.toArray⟩, .int .i64 (t : Int), .bool false, .bool false, .int .i64 iv.kind, .bool iv.bool, .int .i64 iv.num, .string ⟨iv.str.toArray⟩, .int .i64 0, .slice none 0 0, .slice none 0 0, .slice none 0 0]) := Lib.hid (by simpa using dS M hE1363)
         replace O := kF O hE1363 (by omega)
         replace hw := tF hw hE1363 (by omega)
         clear hE1363
         obtain ⟨wd1364, hE1365⟩ : ∃ ww, ww = wd1362.setCell ⟨g1346, 9, none⟩ (.int .i64 iv.id) := ⟨_, rfl⟩
         rw [← hE1365]
         replace D := dF D hE1365 (by omega)
         replace N := dF N hE1365 (by omega)
         replace P := dF P hE1365 (by omega)
         replace M : Hid (Has wd1364 (g1346) 66 #[.int .i64 ((k : Int) + 1), .string ⟨nm.toArray⟩, .int .i64 (t : Int), .bool false, .bool false, .int .i64 iv.kind, .bool iv.bool, .int .i64 iv.num, .string ⟨iv.str.toArray⟩, .int .i64 iv.id, .slice none 0 0, .slice none 0 0, .slice none 0 0]) := Lib.hid (by simpa using dS M hE1365)
         replace O := kF O hE1365 (by omega)
         replace hw := tF hw hE1365 (by omega)
         clear hE1365
         obtain ⟨wd1366, hE1367⟩ : ∃ ww, ww = wd1364.setCell ⟨g1346, 10, none⟩ (.slice none 0 0) := ⟨_, rfl⟩
         rw [← hE1367]
         replace D := dF D hE1367 (by omega)
         replace N := dF N hE1367 (by omega)
         replace P := dF P hE1367 (by omega)
         replace M : Hid (Has wd1366 (g1346) 66 #[.int .i64 ((k : Int) + 1), .string ⟨nm.toArray⟩, .int .i64 (t : Int), .bool false, .bool false, .int .i64 iv.kind, .bool iv.bool, .int .i64 iv.num, .string ⟨iv.str.toArray⟩, .int .i64 iv.id, .slice none 0 0, .slice none 0 0, .slice none 0 0]) := Lib.hid (by simpa using dS M hE1367)
         replace O := kF O hE1367 (by omega)
         replace hw := tF hw hE1367 (by omega)
         clear hE1367
         obtain ⟨wd1368, hE1369⟩ : ∃ ww, ww = wd1366.setCell ⟨g1346, 11, none⟩ (.slice none 0 0) := ⟨_, rfl⟩
         rw [← hE1369]
         replace D := dF D hE1369 (by omega)
         replace N := dF N hE1369 (by omega)
         replace P := dF P hE1369 (by omega)
         replace M : Hid (Has wd1368 (g1346) 66 #[.int .i64 ((k : Int) + 1), .string ⟨nm.toArray⟩, .int .i64 (t : Int), .bool false, .bool false, .int .i64 iv.kind, .bool iv.bool, .int .i64 iv.num, .string ⟨iv.str.toArray⟩, .int .i64 iv.id, .slice none 0 0, .slice none 0 0, .slice none 0 0]) := Lib.hid (by simpa using dS M hE1369)
         replace O := kF O hE1369 (by omega)
         replace hw := tF hw hE1369 (by omega)
         clear hE1369
         obtain ⟨wd1370, hE1371⟩ : ∃ ww, ww = wd1368.setCell ⟨g1346, 12, none⟩ (.slice none 0 0) := ⟨_, rfl⟩
         rw [← hE1371]
         replace D := dF D hE1371 (by omega)
         replace N := dF N hE1371 (by omega)
         replace P := dF P hE1371 (by omega)
         replace M : Hid (Has wd1370 (g1346) 66 #[.int .i64 ((k : Int) + 1), .string ⟨nm.toArray⟩, .int .i64 (t : Int), .bool false, .bool false, .int .i64 iv.kind, .bool iv.bool, .int .i64 iv.num, .string ⟨iv.str.toArray⟩, .int .i64 iv.id, .slice none 0 0, .slice none 0 0, .slice none 0 0]) := Lib.hid (by simpa using dS M hE1371)
         replace O := kF O hE1371 (by omega)
         replace hw := tF hw hE1371 (by omega)
         clear hE1371
         obtain ⟨wd1372, hE1373⟩ : ∃ ww, ww = wd1370.setCell ⟨g1346, 4, none⟩ (.bool ib) := ⟨_, rfl⟩
         rw [← hE1373]
         replace D := dF D hE1373 (by omega)
         replace N := dF N hE1373 (by omega)
         replace P := dF P hE1373 (by omega)
         replace M : Hid (Has wd1372 (g1346) 66 #[.int .i64 ((k : Int) + 1), .string ⟨nm.toArray⟩, .int .i64 (t : Int), .bool false, .bool ib, .int .i64 iv.kind, .bool iv.bool, .int .i64 iv.num, .string ⟨iv.str.toArray⟩, .int .i64 iv.id, .slice none 0 0, .slice none 0 0, .slice none 0 0]) := Lib.hid (by simpa using dS M hE1373)
         replace O := kF O hE1373 (by omega)
         replace hw := tF hw hE1373 (by omega)
         clear hE1373
         obtain ⟨cM_0, cM_1, cM_2, cM_3, cM_4, cM_5, cM_6, cM_7, cM_8, cM_9, cM_10, cM_11, cM_12⟩ := M.out.c13
         go_upto_region 17 with fail
         have hbase : w.heap.size + 1 + 1 ≤ wd1372.heap.size := N.out.here
         go_wp2_with (at_builtin; refine wpList_append_at rfl _ _ _ rfl (w.heap.size + 1 + 1) 66 _ 13 160 Try.underlying62 info_mem rfl (by decide) _ _ _ rfl O.out.now [.int .i64 ((k : Int) + 1), .string ⟨nm.toArray⟩, .int .i64 (t : Int), .bool false, .bool ib, .int .i64 iv.kind, .bool iv.bool, .int .i64 iv.num, .string ⟨iv.str.toArray⟩, .int .i64 iv.id, .slice none 0 0, .slice none 0 0, .slice none 0 0] _ 1 _ rfl rfl rfl (by simp [Value.oneCell']) (by omega) (by omega) hbase ?_; intro v3 w3 hown3 hb3)
         clear cM_0 cM_1 cM_2 cM_3 cM_4 cM_5 cM_6 cM_7 cM_8 cM_9 cM_10 cM_11 cM_12
         clear P
         clear M
         clear O
         replace D := Lib.hid (D.out.below hb3 (show w.heap.size < w.heap.size + 1 + 1 by omega))
         replace N := Lib.hid (N.out.below hb3 (show w.heap.size + 1 < w.heap.size + 1 + 1 by omega))
         replace hw := hw.trans (hb3.mono (show w.heap.size ≤ w.heap.size + 1 + 1 by omega))
         go_roundw
         case rel => exact ⟨k + 1, by omega, by go_num, by rw [HM.out, List.length_append, List.flatMap_append]; exact hown3, hw, D.out, N.out⟩
         case measure => simp [intOf]; omega
        have t1 : ((q2 : Int) % 4 == 1) = false := beq_eq_false_iff_ne.2 (by omega)
        have t2 : decide (2 ≤ (q2 : Int) % 4) = false := decide_eq_false (by omega)
        have HM2 := HM.out
        rw [show decide (q2 % 4 = 1) = false from decide_eq_false h1, show decide (2 ≤ q2 % 4) = false from decide_eq_false h2] at HM2
        replace HM := Lib.hid HM2
        clear HM2 h1 h2
        obtain ⟨cM_0, cM_1, cM_2, cM_3, cM_4, cM_5, cM_6, cM_7, cM_8, cM_9, cM_10, cM_11, cM_12⟩ := M.out.c13
        go_upto_region 17 with fail
        have hbase : w.heap.size + 1 + 1 ≤ wd1344.heap.size := N.out.here
        go_wp2_with (at_builtin; refine wpList_append_at rfl _ _ _ rfl (w.heap.size + 1 + 1) 66 _ 13 160 Try.underlying62 info_mem rfl (by decide) _ _ _ rfl O.out.now [.int .i64 ((k : Int) + 1), .string ⟨nm.toArray⟩, .int .i64 (t : Int), .bool false, .bool false, .int .i64 0, .bool false, .int .i64 0, .string ⟨#[]⟩, .int .i64 0, .slice none 0 0, .slice none 0 0, .slice none 0 0] _ 1 _ rfl rfl rfl (by simp [Value.oneCell']) (by omega) (by omega) hbase ?_; intro v3 w3 hown3 hb3)
        clear cP_2 cM_0 cM_1 cM_2 cM_3 cM_4 cM_5 cM_6 cM_7 cM_8 cM_9 cM_10 cM_11 cM_12
        clear P
        clear M
        clear O
        replace D := Lib.hid (D.out.below hb3 (show w.heap.size < w.heap.size + 1 + 1 by omega))
        replace N := Lib.hid (N.out.below hb3 (show w.heap.size + 1 < w.heap.size + 1 + 1 by omega))
        replace hw := hw.trans (hb3.mono (show w.heap.size ≤ w.heap.size + 1 + 1 by omega))
        go_roundw
        case rel => exact ⟨k + 1, by omega, by go_num, by rw [HM.out, List.length_append, List.flatMap_append]; exact hown3, hw, D.out, N.out⟩
        case measure => simp [intOf]; omega
     have tid : (1 + (q0 : Int) % 12 != (k : Int) + 1) = true := by rw [bne_iff_ne]; omega
     have hno : partOf xs i rc (k + 1) (q0, q1, q2) = none := by
      rw [hpo]
      cases tg with
      | none => rfl
      | some t => simp only [hid, if_false]
     have HTN2 := Lib.hid (HTN.out hno)
     clear HTN HTK hpo hno HQ htl hid
     go_upto_region 10 with fail
     clear cN_4
     obtain ⟨wd1375, hE1376⟩ : ∃ ww, ww = wr.alloc (.cells #[.int .u8 q0, .int .u8 q1, .int .u8 q2] 104) := ⟨_, rfl⟩
     rw [← hE1376]
     have hb1374 := aB hE1376
     have P := aN hE1376
     clear hE1376
     have hl1378 := D.out.here
     have hl1379 := N.out.here
     have hl1380 := O.out.le
     have hl1381 := hw.size
     replace D := dB D hb1374
     replace N := dB N hb1374
     replace O := dK O hb1374
     replace hw := dT hw hb1374
     clear hb1374
     generalize wr.heap.size = g1377 at *
     clear p0 p1 p2
     have cD_0 : wd1375.cell? ⟨w.heap.size, 0, none⟩ = some (.slice (some ⟨b, o, none⟩) xs.length c) := D.out.cell 0
     have cP_1 : wd1375.cell? ⟨g1377, 1, none⟩ = some (.int .u8 q1) := P.out.cell 1
     go_wp2_with fail
     clear cD_0 cP_1
     ((with_reducible refine (HTG.out _ (HR.out.on hw)).mono ?_); rintro e wd1382 ⟨rfl, hb1383⟩)
     replace D := dB D hb1383
     replace N := dB N hb1383
     replace P := dB P hb1383
     replace O := dK O hb1383
     replace hw := dT hw hb1383
     clear hb1383
     have cP_0 : wd1382.cell? ⟨g1377, 0, none⟩ = some (.int .u8 q0) := P.out.cell 0
     go_wp2_with fail
     go_roundw
     case rel => exact ⟨j + 1, by omega, by go_num, HTN2.out, O.out.now, hw, D.out, N.out⟩
     case measure => simp [intOf]; omega
    obtain rfl : j = x.parts.length := by omega
    have hk1 : partsK xs i rc x.parts (k + 1) = partsK xs i rc x.parts k := by
     have : partFor xs i rc x.parts (k + 1) = [] := by
      unfold partFor
      rw [List.findSome?_eq_none_iff.2 (fun q hq => HQ.out q (by rwa [List.take_length]))]
      rfl
     rw [partsK, this, List.append_nil]
    have HK1 := Lib.hid hk1
    clear hk1
    go_wp2_with fail
    go_roundw
    case rel => exact ⟨k + 1, by omega, by go_num, by rw [HK1.out]; exact O.out.now, hw, D.out, N.out⟩
    case measure => simp [intOf]; omega
  obtain rfl : k = 12 := by omega
  go_wp2_with fail
  obtain ⟨A1, c1, rfl⟩ := own_form hown
  go_ret
  exact ⟨_, rfl, own_base hown (by omega), hw⟩
end Go.Proofs.Ytgeapglanckjpaa

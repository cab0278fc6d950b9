/- What parts computes for a draft. No condition. -/
import Derived.Test.YtjcoeolconelmaaDraftE
namespace Go.Proofs.Ytjcoeolconelmaa
open Go.ChangeShapes Go.WideShapes Go.ChangeAt Go.RowKit

def memC (m : Mem) : List Value := [.int .i64 m.id, .string ⟨m.name.toArray⟩, .int .i64 m.ty, .bool m.crit, .bool m.hasDef, .int .i64 m.dflt.kind, .bool m.dflt.bool, .int .i64 m.dflt.num, .string ⟨m.dflt.str.toArray⟩, .int .i64 m.dflt.id, .slice none 0 0, .slice none 0 0, .slice none 0 0]
theorem memC_len (m : Mem) : (memC m).length = 13 := rfl
def PartsPost (ms : List Mem) (w : World) (e : Ending) (w' : World) : Prop := ∃ v, e = .returned v ∧ w'.ownsRow w.heap.size 94 13 v ms.length (ms.flatMap memC) ∧ Below w.heap.size w w'
theorem rune1 (c : Nat) (h : c < 128) : Utf8.encode (c : Int) = { data := [UInt8.ofNat c].toArray } := by
  have : ∀ i : Fin 128, Utf8.encode ((i.val : Nat) : Int) = { data := [UInt8.ofNat i.val].toArray } := by decide +kernel
  exact this ⟨c, h⟩
theorem find_at {α β : Type} (f : α → Option β) : ∀ (l : List α) (j : Nat) (h : j < l.length), (∀ q ∈ l.take j, f q = none) → ∀ m, f l[j] = some m → l.findSome? f = some m
  | [], j, h, _, _, _ => by simp at h
  | a :: r, 0, h, _, m, hm => by
    rw [List.findSome?_cons]
    have : f a = some m := hm
    rw [this]
  | a :: r, j + 1, h, hq, m, hm => by
    rw [List.findSome?_cons, hq a (by simp)]
    exact find_at f r j (by simpa using h) (fun q h2 => hq q (by simp [h2])) m hm
theorem targetN_lt (xs : List Nod) (i code : Nat) (hi : i < xs.length) (t : Nat) (h : targetN xs i code = some t) : t < xs.length := by
  unfold targetN at h
  split at h
  · injection h with h; subst h; exact Nat.mod_lt _ (by omega)
  split at h
  · injection h with h; subst h
    have := Nat.mod_lt (code % xs.length) (show 0 < i by omega)
    omega
  · have := firstF_some _ _ _ h; omega
theorem nm1_at (k : Nat) : nm1 109 ((k + 1 : Nat) : Int) = [109, UInt8.ofNat (98 + k)] := by
  unfold nm1
  rw [show (97 + ((k + 1 : Nat) : Int)).toNat = 98 + k by omega]
  rfl
theorem partsK_len (xs : List Nod) (i : Nat) (rc : Bool) (ps : List Prt) (k : Nat) : (partsK xs i rc ps k).length ≤ k := by
  induction k with
  | zero => simp [partsK]
  | succ k ih =>
    rw [partsK, List.length_append]
    have : (partFor xs i rc ps (k + 1)).length ≤ 1 := by unfold partFor; cases List.findSome? (partOf xs i rc (k + 1)) ps <;> simp
    omega
theorem info_mem : (Try.prog.info? 94).map (fun i => (i.zero, i.size, i.bytes)) = some (some (.agg #[.int .i64 0, .string ByteArray.empty, .int .i64 0, .bool false, .bool false, .int .i64 0, .bool false, .int .i64 0, .string ByteArray.empty, .int .i64 0, .slice none 0 0, .slice none 0 0, .slice none 0 0]), 13, 160) := by kernel_rfl
set_option maxRecDepth 100000 in
set_option maxHeartbeats 2000000 in
theorem parts_any (xs : List Nod) (vn : Value) (i : Nat) (rc : Bool) (w : World) (h5 : 0 < xs.length ∧ xs.length ≤ 5) (hi : i < xs.length) (hr : RdNods w w.heap.size vn xs) :
    Calls Try.prog 39 #[.agg #[vn], .int .i64 i, .bool rc] w (PartsPost (partsN xs i rc xs[i].parts) w) := by
  obtain ⟨A, c, rfl, hcap⟩ := hr.form
  have HR := Lib.hid hr
  obtain ⟨b, o, rfl, hb, hel⟩ := hr.elem h5.1
  obtain ⟨vp, hcs, hn⟩ := hel i hi
  obtain ⟨P0, cp, rfl, hcp⟩ := hn.parts.form
  obtain ⟨n0, n1, n2, n3, n4⟩ := hcs
  have ht1 : (i : Int) < xs.length := by omega
  have hpl := hn.len
  have HNP := Lib.hid hn
  clear hel hr hn
  generalize xs[i] = x at *
  go_enter Try.func39, Try.ntmps39
  go_upto_region 4 with fail
  have hb166 := below_al (below_al (Below.refl w.heap.size w) (Nat.le_refl _) (.cells #[.slice (some ⟨b, o, none⟩) xs.length c] 24)) (Nat.le_refl _) (.cells #[.int .u8 x.kind, .int .u8 x.a, .int .u8 x.b, .int .u8 x.c, .slice P0 x.parts.length cp] 62)
  have D := (Has.made w 24 #[.slice (some ⟨b, o, none⟩) xs.length c]).alloc (.cells #[.int .u8 x.kind, .int .u8 x.a, .int .u8 x.b, .int .u8 x.c, .slice P0 x.parts.length cp] 62)
  have N := Has.made (w.alloc (.cells #[.slice (some ⟨b, o, none⟩) xs.length c] 24)) 62 #[.int .u8 x.kind, .int .u8 x.a, .int .u8 x.b, .int .u8 x.c, .slice P0 x.parts.length cp]
  simp only [alloc_hz] at N
  have hw167 := hb166
  replace D := Lib.hid D
  replace N := Lib.hid N
  clear hb166
  generalize ((w.alloc (.cells #[.slice (some ⟨b, o, none⟩) xs.length c] 24)).alloc (.cells #[.int .u8 x.kind, .int .u8 x.a, .int .u8 x.b, .int .u8 x.c, .slice P0 x.parts.length cp] 62)) = wd168 at *
  clear n0 n1 n2 n3 n4
  go_loopw [8, 9, 10, 11, 12, 13] (fun v id _ _ _ _ wr => ∃ k : Nat, k ≤ 12 ∧ id = .int .i64 ((k : Int) + 1) ∧ wr.ownsRow (w.heap.size + 1 + 1) 94 13 v (partsK xs i rc x.parts k).length ((partsK xs i rc x.parts k).flatMap memC) ∧ Below w.heap.size w wr ∧ Has wr (w.heap.size) 24 #[.slice (some ⟨b, o, none⟩) xs.length c] ∧ Has wr (w.heap.size + 1) 62 #[.int .u8 x.kind, .int .u8 x.a, .int .u8 x.b, .int .u8 x.c, .slice P0 x.parts.length cp])
     (fun _ id _ _ _ _ _ => 14 - (intOf id).toNat)
  case atStart => exact ⟨0, by omega, rfl, World.ownsRow_nil _ _ _ _, hw167, D.out, N.out⟩
  case round =>
    obtain ⟨k, hk, rfl, hown, hw, D, N⟩ := hrel
    have hkl := partsK_len xs i rc x.parts k
    by_cases hlt : k < 12
    · clear hk
      have tk : decide ((k : Int) + 1 ≤ 12) = true := decide_eq_true (by omega)
      go_wp2_with fail
      obtain ⟨wo, rfl⟩ : ∃ wo : World, wo = wr := ⟨_, rfl⟩
      go_loopw [8, 10, 11, 12, 13] (fun v jj _ _ _ wi => ∃ j : Nat, j ≤ x.parts.length ∧ jj = .int .i64 j ∧ Hid (∀ q ∈ x.parts.take j, partOf xs i rc (k + 1) q = none) ∧ wi.ownsRow (w.heap.size + 1 + 1) 94 13 v (partsK xs i rc x.parts k).length ((partsK xs i rc x.parts k).flatMap memC) ∧ Below w.heap.size w wi ∧ Has wi (w.heap.size) 24 #[.slice (some ⟨b, o, none⟩) xs.length c] ∧ Has wi (w.heap.size + 1) 62 #[.int .u8 x.kind, .int .u8 x.a, .int .u8 x.b, .int .u8 x.c, .slice P0 x.parts.length cp])
         (fun _ jj _ _ _ _ => x.parts.length - (intOf jj).toNat)
      case atStart => exact ⟨0, by omega, rfl, (fun q hq => by simp at hq : ∀ q ∈ x.parts.take 0, _), hown, hw, D, N⟩
      case round =>
        clear hown hw D N wo
        obtain ⟨j, hj, rfl, HQ, hown, hw, D, N⟩ := hrel
        replace D := Lib.hid D
        replace N := Lib.hid N
        have O := Lib.hid (Kept.own hown)
        have cN_4 : wr.cell? ⟨w.heap.size + 1, 4, none⟩ = some (.slice P0 x.parts.length cp) := N.out.cell 4
        by_cases hjl : j < x.parts.length
        · obtain ⟨b2, o2, rfl, hb2, hpc⟩ := HNP.out.parts.at_ (by omega)
          obtain ⟨hp0, hp1, hp2⟩ := HNP.out.ins x.parts[j] (List.getElem_mem hjl)
          have hpc0 := hpc (j * 3) (.int .u8 x.parts[j].1) (by rw [show j * 3 = j * 3 + 0 from rfl, flat_get partV_len x.parts j 0 hjl (by omega)]; rfl)
          have hpc1 := hpc (j * 3 + 1) (.int .u8 x.parts[j].2.1) (by rw [flat_get partV_len x.parts j 1 hjl (by omega)]; rfl)
          have hpc2 := hpc (j * 3 + 2) (.int .u8 x.parts[j].2.2) (by rw [flat_get partV_len x.parts j 2 hjl (by omega)]; rfl)
          have p0 := (hw.cell (p := ⟨b2, _, none⟩) hb2).trans hpc0
          have p1 : wr.cell? ⟨b2, o2 + j * 3 + 1, none⟩ = some (.int .u8 x.parts[j].2.1) := by rw [Nat.add_assoc]; exact (hw.cell (p := ⟨b2, _, none⟩) hb2).trans hpc1
          have p2 : wr.cell? ⟨b2, o2 + j * 3 + 2, none⟩ = some (.int .u8 x.parts[j].2.2) := by rw [Nat.add_assoc]; exact (hw.cell (p := ⟨b2, _, none⟩) hb2).trans hpc2
          have htk : x.parts.take (j + 1) = x.parts.take j ++ [x.parts[j]] := List.take_succ_eq_append_getElem hjl
          have HTK : Hid (∀ m, partOf xs i rc (k + 1) x.parts[j] = some m → partsK xs i rc x.parts (k + 1) = partsK xs i rc x.parts k ++ [m]) := by
            intro m hm
            have : partFor xs i rc x.parts (k + 1) = [m] := by
              unfold partFor
              rw [find_at (partOf xs i rc (k + 1)) x.parts j hjl HQ.out m hm]
              rfl
            rw [partsK, this]
          have HTN : Hid (partOf xs i rc (k + 1) x.parts[j] = none → ∀ q ∈ x.parts.take (j + 1), partOf xs i rc (k + 1) q = none) := by
            intro hm q hq
            rw [htk] at hq
            rcases List.mem_append.1 hq with h | h
            · exact HQ.out q h
            · rw [List.mem_singleton.1 h]; exact hm
          have htg := fun W h => target_any xs (.slice (some ⟨b, o, none⟩) xs.length c) i x.parts[j].2.1 W hp1 h5 h
          have hpo : partOf xs i rc (k + 1) x.parts[j] = match targetN xs i x.parts[j].2.1 with
            | none => none
            | some t => if 1 + x.parts[j].1 % 12 = k + 1 then
                some { id := ((k + 1 : Nat) : Int), name := nm1 109 ((k + 1 : Nat) : Int), ty := t, crit := rc && decide (x.parts[j].2.2 % 4 = 1), hasDef := (if rc && decide (2 ≤ x.parts[j].2.2 % 4) then initialN xs t (x.parts[j].2.2 / 4) else (val0, false)).2, dflt := (if rc && decide (2 ≤ x.parts[j].2.2 % 4) then initialN xs t (x.parts[j].2.2 / 4) else (val0, false)).1 }
              else none := rfl
          have htl := fun tt => targetN_lt xs i x.parts[j].2.1 hi tt
          generalize targetN xs i x.parts[j].2.1 = tg at *
          generalize x.parts[j] = pq at *
          obtain ⟨q0, q1, q2⟩ := pq
          simp only at *
          have HTG := Lib.hid htg
          clear htk htg hpc hpc0 hpc1 hpc2
          have hq0 : (q0 : Int) < 256 := by omega
          have hq2 : (q2 : Int) < 256 := by omega
          have hm0 : 0 ≤ (q0 : Int) % 12 ∧ (q0 : Int) % 12 ≤ 11 := by omega
          by_cases hid : 1 + q0 % 12 = k + 1
          · have tid : (1 + (q0 : Int) % 12 != (k : Int) + 1) = false := by rw [bne_eq_false_iff_eq]; omega
            cases tg with
            | none =>
              have HTN2 := Lib.hid (HTN.out hpo)
              clear HTN HTK hpo HQ htl hid
              go_upto_region 10 with fail
              clear cN_4
              have hb169 := below_al (Below.refl wr.heap.size wr) (Nat.le_refl _) (.cells #[.int .u8 q0, .int .u8 q1, .int .u8 q2] 100)
              have P := Has.made wr 100 #[.int .u8 q0, .int .u8 q1, .int .u8 q2]
              have hl171 := D.out.here
              have hl172 := N.out.here
              have hl173 := O.out.le
              have hl174 := hw.size
              replace D := Lib.hid (D.out.below hb169 D.out.here)
              replace N := Lib.hid (N.out.below hb169 N.out.here)
              replace O := Lib.hid (O.out.on hb169)
              replace hw := hw.trans (hb169.mono hw.size)
              replace P := Lib.hid P
              clear hb169
              generalize (wr.alloc (.cells #[.int .u8 q0, .int .u8 q1, .int .u8 q2] 100)) = wd175 at *
              generalize wr.heap.size = g170 at *
              clear p0 p1 p2
              have cD_0 : wd175.cell? ⟨w.heap.size, 0, none⟩ = some (.slice (some ⟨b, o, none⟩) xs.length c) := D.out.cell 0
              have cP_1 : wd175.cell? ⟨g170, 1, none⟩ = some (.int .u8 q1) := P.out.cell 1
              go_wp2_with fail
              clear cD_0 cP_1
              ((with_reducible refine (HTG.out _ (HR.out.on hw)).mono ?_); rintro e wd176 ⟨rfl, hb177⟩)
              replace D := Lib.hid (D.out.below hb177 D.out.here)
              replace N := Lib.hid (N.out.below hb177 N.out.here)
              replace P := Lib.hid (P.out.below hb177 P.out.here)
              replace O := Lib.hid (O.out.on hb177)
              replace hw := hw.trans (hb177.mono hw.size)
              clear hb177
              have cP_0 : wd176.cell? ⟨g170, 0, none⟩ = some (.int .u8 q0) := P.out.cell 0
              go_wp2_with fail
              go_roundw
              case rel => exact ⟨j + 1, by omega, by go_num, HTN2.out, O.out.now, hw, D.out, N.out⟩
              case measure => simp [intOf]; omega
            | some t =>
              simp only [hid, if_true] at hpo
              have htl2 := htl t rfl
              have HM := Lib.hid (HTK.out _ hpo)
              clear HTN HTK hpo HQ htl hid
              have tlt : decide ((t : Int) < 0) = false := decide_eq_false (by omega)
              replace HTG : Hid (∀ W, _ → Calls _ _ _ W (fun e w' => e = .returned (.int .i64 (t : Int)) ∧ Below W.heap.size W w')) := HTG
              have hkk : (k : Int) + 1 ≤ 12 := by omega
              go_upto_region 10 with fail
              clear cN_4
              have hb178 := below_al (Below.refl wr.heap.size wr) (Nat.le_refl _) (.cells #[.int .u8 q0, .int .u8 q1, .int .u8 q2] 100)
              have P := Has.made wr 100 #[.int .u8 q0, .int .u8 q1, .int .u8 q2]
              have hl180 := D.out.here
              have hl181 := N.out.here
              have hl182 := O.out.le
              have hl183 := hw.size
              replace D := Lib.hid (D.out.below hb178 D.out.here)
              replace N := Lib.hid (N.out.below hb178 N.out.here)
              replace O := Lib.hid (O.out.on hb178)
              replace hw := hw.trans (hb178.mono hw.size)
              replace P := Lib.hid P
              clear hb178
              generalize (wr.alloc (.cells #[.int .u8 q0, .int .u8 q1, .int .u8 q2] 100)) = wd184 at *
              generalize wr.heap.size = g179 at *
              clear p0 p1 p2
              have cD_0 : wd184.cell? ⟨w.heap.size, 0, none⟩ = some (.slice (some ⟨b, o, none⟩) xs.length c) := D.out.cell 0
              have cP_1 : wd184.cell? ⟨g179, 1, none⟩ = some (.int .u8 q1) := P.out.cell 1
              go_wp2_with fail
              clear cD_0 cP_1
              ((with_reducible refine (HTG.out _ (HR.out.on hw)).mono ?_); rintro e wd185 ⟨rfl, hb186⟩)
              replace D := Lib.hid (D.out.below hb186 D.out.here)
              replace N := Lib.hid (N.out.below hb186 N.out.here)
              replace P := Lib.hid (P.out.below hb186 P.out.here)
              replace O := Lib.hid (O.out.on hb186)
              replace hw := hw.trans (hb186.mono hw.size)
              clear hb186
              have cP_0 : wd185.cell? ⟨g179, 0, none⟩ = some (.int .u8 q0) := P.out.cell 0
              go_upto_region 12 with fail
              obtain ⟨q, hq, Hq⟩ : ∃ q : Nat, 97 + ((k : Int) + 1) = (q : Int) ∧ Hid (q = 98 + k) := ⟨98 + k, by omega, rfl⟩
              have hqb : (q : Int) < 128 := by have := Hq.out; omega
              have hs : (Utf8.encode (q : Int)).size = 1 := by rw [rune1 q (by omega)]; rfl
              go_upto_region 13 with fail
              have hstr : ({ data := #[109] } : ByteArray) ++ Utf8.encode (q : Int) = { data := (nm1 109 ((k + 1 : Nat) : Int)).toArray } := by
                rw [rune1 q (by omega), Hq.out]
                rw [nm1_at k]
                exact str_app [109] [UInt8.ofNat (98 + k)]
              generalize nm1 109 ((k + 1 : Nat) : Int) = nm at *
              rw [hstr]
              clear hstr hs hqb Hq hq
              clear cP_0
              have hb187 := below_al (Below.refl wd185.heap.size wd185) (Nat.le_refl _) (.cells #[.int .i64 ((k : Int) + 1), .string ⟨nm.toArray⟩, .int .i64 (t : Int), .bool false, .bool false, .int .i64 0, .bool false, .int .i64 0, .string ⟨#[]⟩, .int .i64 0, .slice none 0 0, .slice none 0 0, .slice none 0 0] 94)
              have M := Has.made wd185 94 #[.int .i64 ((k : Int) + 1), .string ⟨nm.toArray⟩, .int .i64 (t : Int), .bool false, .bool false, .int .i64 0, .bool false, .int .i64 0, .string ⟨#[]⟩, .int .i64 0, .slice none 0 0, .slice none 0 0, .slice none 0 0]
              have hl189 := D.out.here
              have hl190 := N.out.here
              have hl191 := P.out.here
              have hl192 := O.out.le
              have hl193 := hw.size
              replace D := Lib.hid (D.out.below hb187 D.out.here)
              replace N := Lib.hid (N.out.below hb187 N.out.here)
              replace P := Lib.hid (P.out.below hb187 P.out.here)
              replace O := Lib.hid (O.out.on hb187)
              replace hw := hw.trans (hb187.mono hw.size)
              replace M := Lib.hid M
              clear hb187
              generalize (wd185.alloc (.cells #[.int .i64 ((k : Int) + 1), .string ⟨nm.toArray⟩, .int .i64 (t : Int), .bool false, .bool false, .int .i64 0, .bool false, .int .i64 0, .string ⟨#[]⟩, .int .i64 0, .slice none 0 0, .slice none 0 0, .slice none 0 0] 94)) = wd194 at *
              generalize wd185.heap.size = g188 at *
              cases rc with
              | false =>
                have cM_0 : wd194.cell? ⟨g188, 0, none⟩ = some (.int .i64 ((k : Int) + 1)) := M.out.cell 0
                have cM_1 : wd194.cell? ⟨g188, 1, none⟩ = some (.string ⟨nm.toArray⟩) := M.out.cell 1
                have cM_2 : wd194.cell? ⟨g188, 2, none⟩ = some (.int .i64 (t : Int)) := M.out.cell 2
                have cM_3 : wd194.cell? ⟨g188, 3, none⟩ = some (.bool false) := M.out.cell 3
                have cM_4 : wd194.cell? ⟨g188, 4, none⟩ = some (.bool false) := M.out.cell 4
                have cM_5 : wd194.cell? ⟨g188, 5, none⟩ = some (.int .i64 0) := M.out.cell 5
                have cM_6 : wd194.cell? ⟨g188, 6, none⟩ = some (.bool false) := M.out.cell 6
                have cM_7 : wd194.cell? ⟨g188, 7, none⟩ = some (.int .i64 0) := M.out.cell 7
                have cM_8 : wd194.cell? ⟨g188, 8, none⟩ = some (.string ⟨#[]⟩) := M.out.cell 8
                have cM_9 : wd194.cell? ⟨g188, 9, none⟩ = some (.int .i64 0) := M.out.cell 9
                have cM_10 : wd194.cell? ⟨g188, 10, none⟩ = some (.slice none 0 0) := M.out.cell 10
                have cM_11 : wd194.cell? ⟨g188, 11, none⟩ = some (.slice none 0 0) := M.out.cell 11
                have cM_12 : wd194.cell? ⟨g188, 12, none⟩ = some (.slice none 0 0) := M.out.cell 12
                go_upto_region 17 with fail
                have hbase : w.heap.size + 1 + 1 ≤ wd194.heap.size := N.out.here
                go_wp2_with (at_builtin; refine wpList_append_at rfl _ _ _ rfl (w.heap.size + 1 + 1) 94 _ 13 160 Try.underlying65 info_mem rfl (by decide) _ _ _ rfl O.out.now [.int .i64 ((k : Int) + 1), .string ⟨nm.toArray⟩, .int .i64 (t : Int), .bool false, .bool false, .int .i64 0, .bool false, .int .i64 0, .string ⟨#[]⟩, .int .i64 0, .slice none 0 0, .slice none 0 0, .slice none 0 0] _ 1 _ rfl rfl rfl (by simp [Value.oneCell']) (by omega) (by omega) hbase ?_; intro v3 w3 hown3 hb3)
                clear cM_0 cM_1 cM_2 cM_3 cM_4 cM_5 cM_6 cM_7 cM_8 cM_9 cM_10 cM_11 cM_12
                clear P
                clear M
                clear O
                replace D := Lib.hid (D.out.below hb3 (show w.heap.size < w.heap.size + 1 + 1 by omega))
                replace N := Lib.hid (N.out.below hb3 (show w.heap.size + 1 < w.heap.size + 1 + 1 by omega))
                replace hw := hw.trans (hb3.mono (show w.heap.size ≤ w.heap.size + 1 + 1 by omega))
                go_roundw
                case rel => exact ⟨k + 1, by omega, by go_num, by rw [HM.out, List.length_append, List.flatMap_append]; exact hown3, hw, D.out, N.out⟩
                case measure => simp [intOf]; omega
              | true =>
                have cP_2 : wd194.cell? ⟨g179, 2, none⟩ = some (.int .u8 q2) := P.out.cell 2
                have hm2 : 0 ≤ (q2 : Int) % 4 := by omega
                by_cases h1 : q2 % 4 = 1
                · have t1 : ((q2 : Int) % 4 == 1) = true := beq_iff_eq.2 (by omega)
                  have t2 : decide (2 ≤ (q2 : Int) % 4) = false := decide_eq_false (by omega)
                  have HM2 := HM.out
                  rw [show decide (q2 % 4 = 1) = true from decide_eq_true h1, show decide (2 ≤ q2 % 4) = false from decide_eq_false (by omega)] at HM2
                  replace HM := Lib.hid HM2
                  clear HM2 h1
                  have cM_3 : wd194.cell? ⟨g188, 3, none⟩ = some (.bool false) := M.out.cell 3
                  have fM_3 := M.out.free 3
                  go_upto_region 17 with fail
                  clear cP_2 cM_3 fM_3
                  replace D := Lib.hid (D.out.far (p := ⟨g188, 3, none⟩) (show w.heap.size ≠ g188 by omega) (.bool true))
                  replace N := Lib.hid (N.out.far (p := ⟨g188, 3, none⟩) (show w.heap.size + 1 ≠ g188 by omega) (.bool true))
                  replace P := Lib.hid (P.out.far (p := ⟨g188, 3, none⟩) (show g179 ≠ g188 by omega) (.bool true))
                  replace M : Hid (Has (wd194.setCell ⟨g188, 3, none⟩ (.bool true)) (g188) 94 #[.int .i64 ((k : Int) + 1), .string ⟨nm.toArray⟩, .int .i64 (t : Int), .bool true, .bool false, .int .i64 0, .bool false, .int .i64 0, .string ⟨#[]⟩, .int .i64 0, .slice none 0 0, .slice none 0 0, .slice none 0 0]) := Lib.hid (by have h := M.out.set 3 (.bool true); simpa using h)
                  replace O := Lib.hid (O.out.set (g188) (show g179 ≤ g188 ∨ g188 < w.heap.size + 1 + 1 by omega) 3 (.bool true))
                  replace hw := below_set hw (show w.heap.size ≤ g188 by omega) 3 (.bool true)
                  generalize wd194.setCell ⟨g188, 3, none⟩ (.bool true) = wd195 at *
                  have cM_0 : wd195.cell? ⟨g188, 0, none⟩ = some (.int .i64 ((k : Int) + 1)) := M.out.cell 0
                  have cM_1 : wd195.cell? ⟨g188, 1, none⟩ = some (.string ⟨nm.toArray⟩) := M.out.cell 1
                  have cM_2 : wd195.cell? ⟨g188, 2, none⟩ = some (.int .i64 (t : Int)) := M.out.cell 2
                  have cM_3 : wd195.cell? ⟨g188, 3, none⟩ = some (.bool true) := M.out.cell 3
                  have cM_4 : wd195.cell? ⟨g188, 4, none⟩ = some (.bool false) := M.out.cell 4
                  have cM_5 : wd195.cell? ⟨g188, 5, none⟩ = some (.int .i64 0) := M.out.cell 5
                  have cM_6 : wd195.cell? ⟨g188, 6, none⟩ = some (.bool false) := M.out.cell 6
                  have cM_7 : wd195.cell? ⟨g188, 7, none⟩ = some (.int .i64 0) := M.out.cell 7
                  have cM_8 : wd195.cell? ⟨g188, 8, none⟩ = some (.string ⟨#[]⟩) := M.out.cell 8
                  have cM_9 : wd195.cell? ⟨g188, 9, none⟩ = some (.int .i64 0) := M.out.cell 9
                  have cM_10 : wd195.cell? ⟨g188, 10, none⟩ = some (.slice none 0 0) := M.out.cell 10
                  have cM_11 : wd195.cell? ⟨g188, 11, none⟩ = some (.slice none 0 0) := M.out.cell 11
                  have cM_12 : wd195.cell? ⟨g188, 12, none⟩ = some (.slice none 0 0) := M.out.cell 12
                  go_upto_region 17 with fail
                  have hbase : w.heap.size + 1 + 1 ≤ wd195.heap.size := N.out.here
                  go_wp2_with (at_builtin; refine wpList_append_at rfl _ _ _ rfl (w.heap.size + 1 + 1) 94 _ 13 160 Try.underlying65 info_mem rfl (by decide) _ _ _ rfl O.out.now [.int .i64 ((k : Int) + 1), .string ⟨nm.toArray⟩, .int .i64 (t : Int), .bool true, .bool false, .int .i64 0, .bool false, .int .i64 0, .string ⟨#[]⟩, .int .i64 0, .slice none 0 0, .slice none 0 0, .slice none 0 0] _ 1 _ rfl rfl rfl (by simp [Value.oneCell']) (by omega) (by omega) hbase ?_; intro v3 w3 hown3 hb3)
                  clear cM_0 cM_1 cM_2 cM_3 cM_4 cM_5 cM_6 cM_7 cM_8 cM_9 cM_10 cM_11 cM_12
                  clear P
                  clear M
                  clear O
                  replace D := Lib.hid (D.out.below hb3 (show w.heap.size < w.heap.size + 1 + 1 by omega))
                  replace N := Lib.hid (N.out.below hb3 (show w.heap.size + 1 < w.heap.size + 1 + 1 by omega))
                  replace hw := hw.trans (hb3.mono (show w.heap.size ≤ w.heap.size + 1 + 1 by omega))
                  go_roundw
                  case rel => exact ⟨k + 1, by omega, by go_num, by rw [HM.out, List.length_append, List.flatMap_append]; exact hown3, hw, D.out, N.out⟩
                  case measure => simp [intOf]; omega
                · by_cases h2 : 2 ≤ q2 % 4
                  · have t1 : ((q2 : Int) % 4 == 1) = false := beq_eq_false_iff_ne.2 (by omega)
                    have t2 : decide (2 ≤ (q2 : Int) % 4) = true := decide_eq_true (by omega)
                    have HM2 := HM.out
                    rw [show decide (q2 % 4 = 1) = false from decide_eq_false h1, show decide (2 ≤ q2 % 4) = true from decide_eq_true h2] at HM2
                    have HM2 : _ = _ ++ [Mem.mk _ _ _ false (initialN xs t (q2 / 4)).2 (initialN xs t (q2 / 4)).1] := HM2
                    have hin := fun W h => initial_any xs (.slice (some ⟨b, o, none⟩) xs.length c) t (q2 / 4) W (by omega) h5 htl2 h
                    have hqq : (q2 : Int) / 4 = ((q2 / 4 : Nat) : Int) := by push_cast; rfl
                    generalize initialN xs t (q2 / 4) = iv at *
                    obtain ⟨iv, ib⟩ := iv
                    simp only at hin HM2
                    generalize q2 / 4 = qd at *
                    replace HM := Lib.hid HM2
                    have HIN := Lib.hid hin
                    clear HM2 h1 h2 hin
                    have cD_0 : wd194.cell? ⟨w.heap.size, 0, none⟩ = some (.slice (some ⟨b, o, none⟩) xs.length c) := D.out.cell 0
                    go_upto_region 16 with fail
                    go_wp2_with fail
                    clear cP_2 cD_0
                    ((with_reducible refine (HIN.out _ (HR.out.on hw)).mono ?_); rintro e wd196 ⟨rfl, hb197⟩)
                    replace D := Lib.hid (D.out.below hb197 D.out.here)
                    replace N := Lib.hid (N.out.below hb197 N.out.here)
                    replace P := Lib.hid (P.out.below hb197 P.out.here)
                    replace M := Lib.hid (M.out.below hb197 M.out.here)
                    replace O := Lib.hid (O.out.on hb197)
                    replace hw := hw.trans (hb197.mono hw.size)
                    clear hb197
                    have cM_0 : wd196.cell? ⟨g188, 0, none⟩ = some (.int .i64 ((k : Int) + 1)) := M.out.cell 0
                    have cM_1 : wd196.cell? ⟨g188, 1, none⟩ = some (.string ⟨nm.toArray⟩) := M.out.cell 1
                    have cM_2 : wd196.cell? ⟨g188, 2, none⟩ = some (.int .i64 (t : Int)) := M.out.cell 2
                    have cM_3 : wd196.cell? ⟨g188, 3, none⟩ = some (.bool false) := M.out.cell 3
                    have cM_4 : wd196.cell? ⟨g188, 4, none⟩ = some (.bool false) := M.out.cell 4
                    have cM_5 : wd196.cell? ⟨g188, 5, none⟩ = some (.int .i64 0) := M.out.cell 5
                    have cM_6 : wd196.cell? ⟨g188, 6, none⟩ = some (.bool false) := M.out.cell 6
                    have cM_7 : wd196.cell? ⟨g188, 7, none⟩ = some (.int .i64 0) := M.out.cell 7
                    have cM_8 : wd196.cell? ⟨g188, 8, none⟩ = some (.string ⟨#[]⟩) := M.out.cell 8
                    have cM_9 : wd196.cell? ⟨g188, 9, none⟩ = some (.int .i64 0) := M.out.cell 9
                    have cM_10 : wd196.cell? ⟨g188, 10, none⟩ = some (.slice none 0 0) := M.out.cell 10
                    have cM_11 : wd196.cell? ⟨g188, 11, none⟩ = some (.slice none 0 0) := M.out.cell 11
                    have cM_12 : wd196.cell? ⟨g188, 12, none⟩ = some (.slice none 0 0) := M.out.cell 12
                    have fM_3 := M.out.free 3
                    have fM_4 := M.out.free 4
                    have fM_5 := M.out.free 5
                    have fM_6 := M.out.free 6
                    have fM_7 := M.out.free 7
                    have fM_8 := M.out.free 8
                    have fM_9 := M.out.free 9
                    have fM_10 := M.out.free 10
                    have fM_11 := M.out.free 11
                    have fM_12 := M.out.free 12
                    go_upto_region 17 with fail
                    clear cM_0 cM_1 cM_2 cM_3 cM_4 cM_5 cM_6 cM_7 cM_8 cM_9 cM_10 cM_11 cM_12 fM_3 fM_4 fM_5 fM_6 fM_7 fM_8 fM_9 fM_10 fM_11 fM_12
                    replace D := Lib.hid (D.out.far (p := ⟨g188, 5, none⟩) (show w.heap.size ≠ g188 by omega) (.int .i64 iv.kind))
                    replace N := Lib.hid (N.out.far (p := ⟨g188, 5, none⟩) (show w.heap.size + 1 ≠ g188 by omega) (.int .i64 iv.kind))
                    replace P := Lib.hid (P.out.far (p := ⟨g188, 5, none⟩) (show g179 ≠ g188 by omega) (.int .i64 iv.kind))
                    replace M : Hid (Has (wd196.setCell ⟨g188, 5, none⟩ (.int .i64 iv.kind)) (g188) 94 #[.int .i64 ((k : Int) + 1), .string ⟨nm.toArray⟩, .int .i64 (t : Int), .bool false, .bool false, .int .i64 iv.kind, .bool false, .int .i64 0, .string ⟨#[]⟩, .int .i64 0, .slice none 0 0, .slice none 0 0, .slice none 0 0]) := Lib.hid (by have h := M.out.set 5 (.int .i64 iv.kind); simpa using h)
                    replace O := Lib.hid (O.out.set (g188) (show g179 ≤ g188 ∨ g188 < w.heap.size + 1 + 1 by omega) 5 (.int .i64 iv.kind))
                    replace hw := below_set hw (show w.heap.size ≤ g188 by omega) 5 (.int .i64 iv.kind)
                    generalize wd196.setCell ⟨g188, 5, none⟩ (.int .i64 iv.kind) = wd198 at *
                    replace D := Lib.hid (D.out.far (p := ⟨g188, 6, none⟩) (show w.heap.size ≠ g188 by omega) (.bool iv.bool))
                    replace N := Lib.hid (N.out.far (p := ⟨g188, 6, none⟩) (show w.heap.size + 1 ≠ g188 by omega) (.bool iv.bool))
                    replace P := Lib.hid (P.out.far (p := ⟨g188, 6, none⟩) (show g179 ≠ g188 by omega) (.bool iv.bool))
                    replace M : Hid (Has (wd198.setCell ⟨g188, 6, none⟩ (.bool iv.bool)) (g188) 94 #[.int .i64 ((k : Int) + 1), .string ⟨nm.toArray⟩, .int .i64 (t : Int), .bool false, .bool false, .int .i64 iv.kind, .bool iv.bool, .int .i64 0, .string ⟨#[]⟩, .int .i64 0, .slice none 0 0, .slice none 0 0, .slice none 0 0]) := Lib.hid (by have h := M.out.set 6 (.bool iv.bool); simpa using h)
                    replace O := Lib.hid (O.out.set (g188) (show g179 ≤ g188 ∨ g188 < w.heap.size + 1 + 1 by omega) 6 (.bool iv.bool))
                    replace hw := below_set hw (show w.heap.size ≤ g188 by omega) 6 (.bool iv.bool)
                    generalize wd198.setCell ⟨g188, 6, none⟩ (.bool iv.bool) = wd199 at *
                    replace D := Lib.hid (D.out.far (p := ⟨g188, 7, none⟩) (show w.heap.size ≠ g188 by omega) (.int .i64 iv.num))
                    replace N := Lib.hid (N.out.far (p := ⟨g188, 7, none⟩) (show w.heap.size + 1 ≠ g188 by omega) (.int .i64 iv.num))
                    replace P := Lib.hid (P.out.far (p := ⟨g188, 7, none⟩) (show g179 ≠ g188 by omega) (.int .i64 iv.num))
                    replace M : Hid (Has (wd199.setCell ⟨g188, 7, none⟩ (.int .i64 iv.num)) (g188) 94 #[.int .i64 ((k : Int) + 1), .string ⟨nm.toArray⟩, .int .i64 (t : Int), .bool false, .bool false, .int .i64 iv.kind, .bool iv.bool, .int .i64 iv.num, .string ⟨#[]⟩, .int .i64 0, .slice none 0 0, .slice none 0 0, .slice none 0 0]) := Lib.hid (by have h := M.out.set 7 (.int .i64 iv.num); simpa using h)
                    replace O := Lib.hid (O.out.set (g188) (show g179 ≤ g188 ∨ g188 < w.heap.size + 1 + 1 by omega) 7 (.int .i64 iv.num))
                    replace hw := below_set hw (show w.heap.size ≤ g188 by omega) 7 (.int .i64 iv.num)
                    generalize wd199.setCell ⟨g188, 7, none⟩ (.int .i64 iv.num) = wd200 at *
                    replace D := Lib.hid (D.out.far (p := ⟨g188, 8, none⟩) (show w.heap.size ≠ g188 by omega) (.string ⟨iv.str.toArray⟩))
                    replace N := Lib.hid (N.out.far (p := ⟨g188, 8, none⟩) (show w.heap.size + 1 ≠ g188 by omega) (.string ⟨iv.str.toArray⟩))
                    replace P := Lib.hid (P.out.far (p := ⟨g188, 8, none⟩) (show g179 ≠ g188 by omega) (.string ⟨iv.str.toArray⟩))
                    replace M : Hid (Has (wd200.setCell ⟨g188, 8, none⟩ (.string ⟨iv.str.toArray⟩)) (g188) 94 #[.int .i64 ((k : Int) + 1), .string ⟨nm.toArray⟩, .int .i64 (t : Int), .bool false, .bool false, .int .i64 iv.kind, .bool iv.bool, .int .i64 iv.num, .string ⟨iv.str.toArray⟩, .int .i64 0, .slice none 0 0, .slice none 0 0, .slice none 0 0]) := Lib.hid (by have h := M.out.set 8 (.string ⟨iv.str.toArray⟩); simpa using h)
                    replace O := Lib.hid (O.out.set (g188) (show g179 ≤ g188 ∨ g188 < w.heap.size + 1 + 1 by omega) 8 (.string ⟨iv.str.toArray⟩))
                    replace hw := below_set hw (show w.heap.size ≤ g188 by omega) 8 (.string ⟨iv.str.toArray⟩)
                    generalize wd200.setCell ⟨g188, 8, none⟩ (.string ⟨iv.str.toArray⟩) = wd201 at *
                    replace D := Lib.hid (D.out.far (p := ⟨g188, 9, none⟩) (show w.heap.size ≠ g188 by omega) (.int .i64 iv.id))
                    replace N := Lib.hid (N.out.far (p := ⟨g188, 9, none⟩) (show w.heap.size + 1 ≠ g188 by omega) (.int .i64 iv.id))
                    replace P := Lib.hid (P.out.far (p := ⟨g188, 9, none⟩) (show g179 ≠ g188 by omega) (.int .i64 iv.id))
                    replace M : Hid (Has (wd201.setCell ⟨g188, 9, none⟩ (.int .i64 iv.id)) (g188) 94 #[.int .i64 ((k : Int) + 1), .string ⟨nm.toArray⟩, .int .i64 (t : Int), .bool false, .bool false, .int .i64 iv.kind, .bool iv.bool, .int .i64 iv.num, .string ⟨iv.str.toArray⟩, .int .i64 iv.id, .slice none 0 0, .slice none 0 0, .slice none 0 0]) := Lib.hid (by have h := M.out.set 9 (.int .i64 iv.id); simpa using h)
                    replace O := Lib.hid (O.out.set (g188) (show g179 ≤ g188 ∨ g188 < w.heap.size + 1 + 1 by omega) 9 (.int .i64 iv.id))
                    replace hw := below_set hw (show w.heap.size ≤ g188 by omega) 9 (.int .i64 iv.id)
                    generalize wd201.setCell ⟨g188, 9, none⟩ (.int .i64 iv.id) = wd202 at *
                    replace D := Lib.hid (D.out.far (p := ⟨g188, 10, none⟩) (show w.heap.size ≠ g188 by omega) (.slice none 0 0))
                    replace N := Lib.hid (N.out.far (p := ⟨g188, 10, none⟩) (show w.heap.size + 1 ≠ g188 by omega) (.slice none 0 0))
                    replace P := Lib.hid (P.out.far (p := ⟨g188, 10, none⟩) (show g179 ≠ g188 by omega) (.slice none 0 0))
                    replace M : Hid (Has (wd202.setCell ⟨g188, 10, none⟩ (.slice none 0 0)) (g188) 94 #[.int .i64 ((k : Int) + 1), .string ⟨nm.toArray⟩, .int .i64 (t : Int), .bool false, .bool false, .int .i64 iv.kind, .bool iv.bool, .int .i64 iv.num, .string ⟨iv.str.toArray⟩, .int .i64 iv.id, .slice none 0 0, .slice none 0 0, .slice none 0 0]) := Lib.hid (by have h := M.out.set 10 (.slice none 0 0); simpa using h)
                    replace O := Lib.hid (O.out.set (g188) (show g179 ≤ g188 ∨ g188 < w.heap.size + 1 + 1 by omega) 10 (.slice none 0 0))
                    replace hw := below_set hw (show w.heap.size ≤ g188 by omega) 10 (.slice none 0 0)
                    generalize wd202.setCell ⟨g188, 10, none⟩ (.slice none 0 0) = wd203 at *
                    replace D := Lib.hid (D.out.far (p := ⟨g188, 11, none⟩) (show w.heap.size ≠ g188 by omega) (.slice none 0 0))
                    replace N := Lib.hid (N.out.far (p := ⟨g188, 11, none⟩) (show w.heap.size + 1 ≠ g188 by omega) (.slice none 0 0))
                    replace P := Lib.hid (P.out.far (p := ⟨g188, 11, none⟩) (show g179 ≠ g188 by omega) (.slice none 0 0))
                    replace M : Hid (Has (wd203.setCell ⟨g188, 11, none⟩ (.slice none 0 0)) (g188) 94 #[.int .i64 ((k : Int) + 1), .string ⟨nm.toArray⟩, .int .i64 (t : Int), .bool false, .bool false, .int .i64 iv.kind, .bool iv.bool, .int .i64 iv.num, .string ⟨iv.str.toArray⟩, .int .i64 iv.id, .slice none 0 0, .slice none 0 0, .slice none 0 0]) := Lib.hid (by have h := M.out.set 11 (.slice none 0 0); simpa using h)
                    replace O := Lib.hid (O.out.set (g188) (show g179 ≤ g188 ∨ g188 < w.heap.size + 1 + 1 by omega) 11 (.slice none 0 0))
                    replace hw := below_set hw (show w.heap.size ≤ g188 by omega) 11 (.slice none 0 0)
                    generalize wd203.setCell ⟨g188, 11, none⟩ (.slice none 0 0) = wd204 at *
                    replace D := Lib.hid (D.out.far (p := ⟨g188, 12, none⟩) (show w.heap.size ≠ g188 by omega) (.slice none 0 0))
                    replace N := Lib.hid (N.out.far (p := ⟨g188, 12, none⟩) (show w.heap.size + 1 ≠ g188 by omega) (.slice none 0 0))
                    replace P := Lib.hid (P.out.far (p := ⟨g188, 12, none⟩) (show g179 ≠ g188 by omega) (.slice none 0 0))
                    replace M : Hid (Has (wd204.setCell ⟨g188, 12, none⟩ (.slice none 0 0)) (g188) 94 #[.int .i64 ((k : Int) + 1), .string ⟨nm.toArray⟩, .int .i64 (t : Int), .bool false, .bool false, .int .i64 iv.kind, .bool iv.bool, .int .i64 iv.num, .string ⟨iv.str.toArray⟩, .int .i64 iv.id, .slice none 0 0, .slice none 0 0, .slice none 0 0]) := Lib.hid (by have h := M.out.set 12 (.slice none 0 0); simpa using h)
                    replace O := Lib.hid (O.out.set (g188) (show g179 ≤ g188 ∨ g188 < w.heap.size + 1 + 1 by omega) 12 (.slice none 0 0))
                    replace hw := below_set hw (show w.heap.size ≤ g188 by omega) 12 (.slice none 0 0)
                    generalize wd204.setCell ⟨g188, 12, none⟩ (.slice none 0 0) = wd205 at *
                    replace D := Lib.hid (D.out.far (p := ⟨g188, 4, none⟩) (show w.heap.size ≠ g188 by omega) (.bool ib))
                    replace N := Lib.hid (N.out.far (p := ⟨g188, 4, none⟩) (show w.heap.size + 1 ≠ g188 by omega) (.bool ib))
                    replace P := Lib.hid (P.out.far (p := ⟨g188, 4, none⟩) (show g179 ≠ g188 by omega) (.bool ib))
                    replace M : Hid (Has (wd205.setCell ⟨g188, 4, none⟩ (.bool ib)) (g188) 94 #[.int .i64 ((k : Int) + 1), .string ⟨nm.toArray⟩, .int .i64 (t : Int), .bool false, .bool ib, .int .i64 iv.kind, .bool iv.bool, .int .i64 iv.num, .string ⟨iv.str.toArray⟩, .int .i64 iv.id, .slice none 0 0, .slice none 0 0, .slice none 0 0]) := Lib.hid (by have h := M.out.set 4 (.bool ib); simpa using h)
                    replace O := Lib.hid (O.out.set (g188) (show g179 ≤ g188 ∨ g188 < w.heap.size + 1 + 1 by omega) 4 (.bool ib))
                    replace hw := below_set hw (show w.heap.size ≤ g188 by omega) 4 (.bool ib)
                    generalize wd205.setCell ⟨g188, 4, none⟩ (.bool ib) = wd206 at *
                    have cM_0 : wd206.cell? ⟨g188, 0, none⟩ = some (.int .i64 ((k : Int) + 1)) := M.out.cell 0
                    have cM_1 : wd206.cell? ⟨g188, 1, none⟩ = some (.string ⟨nm.toArray⟩) := M.out.cell 1
                    have cM_2 : wd206.cell? ⟨g188, 2, none⟩ = some (.int .i64 (t : Int)) := M.out.cell 2
                    have cM_3 : wd206.cell? ⟨g188, 3, none⟩ = some (.bool false) := M.out.cell 3
                    have cM_4 : wd206.cell? ⟨g188, 4, none⟩ = some (.bool ib) := M.out.cell 4
                    have cM_5 : wd206.cell? ⟨g188, 5, none⟩ = some (.int .i64 iv.kind) := M.out.cell 5
                    have cM_6 : wd206.cell? ⟨g188, 6, none⟩ = some (.bool iv.bool) := M.out.cell 6
                    have cM_7 : wd206.cell? ⟨g188, 7, none⟩ = some (.int .i64 iv.num) := M.out.cell 7
                    have cM_8 : wd206.cell? ⟨g188, 8, none⟩ = some (.string ⟨iv.str.toArray⟩) := M.out.cell 8
                    have cM_9 : wd206.cell? ⟨g188, 9, none⟩ = some (.int .i64 iv.id) := M.out.cell 9
                    have cM_10 : wd206.cell? ⟨g188, 10, none⟩ = some (.slice none 0 0) := M.out.cell 10
                    have cM_11 : wd206.cell? ⟨g188, 11, none⟩ = some (.slice none 0 0) := M.out.cell 11
                    have cM_12 : wd206.cell? ⟨g188, 12, none⟩ = some (.slice none 0 0) := M.out.cell 12
                    go_upto_region 17 with fail
                    have hbase : w.heap.size + 1 + 1 ≤ wd206.heap.size := N.out.here
                    go_wp2_with (at_builtin; refine wpList_append_at rfl _ _ _ rfl (w.heap.size + 1 + 1) 94 _ 13 160 Try.underlying65 info_mem rfl (by decide) _ _ _ rfl O.out.now [.int .i64 ((k : Int) + 1), .string ⟨nm.toArray⟩, .int .i64 (t : Int), .bool false, .bool ib, .int .i64 iv.kind, .bool iv.bool, .int .i64 iv.num, .string ⟨iv.str.toArray⟩, .int .i64 iv.id, .slice none 0 0, .slice none 0 0, .slice none 0 0] _ 1 _ rfl rfl rfl (by simp [Value.oneCell']) (by omega) (by omega) hbase ?_; intro v3 w3 hown3 hb3)
                    clear cM_0 cM_1 cM_2 cM_3 cM_4 cM_5 cM_6 cM_7 cM_8 cM_9 cM_10 cM_11 cM_12
                    clear P
                    clear M
                    clear O
                    replace D := Lib.hid (D.out.below hb3 (show w.heap.size < w.heap.size + 1 + 1 by omega))
                    replace N := Lib.hid (N.out.below hb3 (show w.heap.size + 1 < w.heap.size + 1 + 1 by omega))
                    replace hw := hw.trans (hb3.mono (show w.heap.size ≤ w.heap.size + 1 + 1 by omega))
                    go_roundw
                    case rel => exact ⟨k + 1, by omega, by go_num, by rw [HM.out, List.length_append, List.flatMap_append]; exact hown3, hw, D.out, N.out⟩
                    case measure => simp [intOf]; omega
                  · have t1 : ((q2 : Int) % 4 == 1) = false := beq_eq_false_iff_ne.2 (by omega)
                    have t2 : decide (2 ≤ (q2 : Int) % 4) = false := decide_eq_false (by omega)
                    have HM2 := HM.out
                    rw [show decide (q2 % 4 = 1) = false from decide_eq_false h1, show decide (2 ≤ q2 % 4) = false from decide_eq_false h2] at HM2
                    replace HM := Lib.hid HM2
                    clear HM2 h1 h2
                    have cM_0 : wd194.cell? ⟨g188, 0, none⟩ = some (.int .i64 ((k : Int) + 1)) := M.out.cell 0
                    have cM_1 : wd194.cell? ⟨g188, 1, none⟩ = some (.string ⟨nm.toArray⟩) := M.out.cell 1
                    have cM_2 : wd194.cell? ⟨g188, 2, none⟩ = some (.int .i64 (t : Int)) := M.out.cell 2
                    have cM_3 : wd194.cell? ⟨g188, 3, none⟩ = some (.bool false) := M.out.cell 3
                    have cM_4 : wd194.cell? ⟨g188, 4, none⟩ = some (.bool false) := M.out.cell 4
                    have cM_5 : wd194.cell? ⟨g188, 5, none⟩ = some (.int .i64 0) := M.out.cell 5
                    have cM_6 : wd194.cell? ⟨g188, 6, none⟩ = some (.bool false) := M.out.cell 6
                    have cM_7 : wd194.cell? ⟨g188, 7, none⟩ = some (.int .i64 0) := M.out.cell 7
                    have cM_8 : wd194.cell? ⟨g188, 8, none⟩ = some (.string ⟨#[]⟩) := M.out.cell 8
                    have cM_9 : wd194.cell? ⟨g188, 9, none⟩ = some (.int .i64 0) := M.out.cell 9
                    have cM_10 : wd194.cell? ⟨g188, 10, none⟩ = some (.slice none 0 0) := M.out.cell 10
                    have cM_11 : wd194.cell? ⟨g188, 11, none⟩ = some (.slice none 0 0) := M.out.cell 11
                    have cM_12 : wd194.cell? ⟨g188, 12, none⟩ = some (.slice none 0 0) := M.out.cell 12
                    go_upto_region 17 with fail
                    have hbase : w.heap.size + 1 + 1 ≤ wd194.heap.size := N.out.here
                    go_wp2_with (at_builtin; refine wpList_append_at rfl _ _ _ rfl (w.heap.size + 1 + 1) 94 _ 13 160 Try.underlying65 info_mem rfl (by decide) _ _ _ rfl O.out.now [.int .i64 ((k : Int) + 1), .string ⟨nm.toArray⟩, .int .i64 (t : Int), .bool false, .bool false, .int .i64 0, .bool false, .int .i64 0, .string ⟨#[]⟩, .int .i64 0, .slice none 0 0, .slice none 0 0, .slice none 0 0] _ 1 _ rfl rfl rfl (by simp [Value.oneCell']) (by omega) (by omega) hbase ?_; intro v3 w3 hown3 hb3)
                    clear cP_2 cM_0 cM_1 cM_2 cM_3 cM_4 cM_5 cM_6 cM_7 cM_8 cM_9 cM_10 cM_11 cM_12
                    clear P
                    clear M
                    clear O
                    replace D := Lib.hid (D.out.below hb3 (show w.heap.size < w.heap.size + 1 + 1 by omega))
                    replace N := Lib.hid (N.out.below hb3 (show w.heap.size + 1 < w.heap.size + 1 + 1 by omega))
                    replace hw := hw.trans (hb3.mono (show w.heap.size ≤ w.heap.size + 1 + 1 by omega))
                    go_roundw
                    case rel => exact ⟨k + 1, by omega, by go_num, by rw [HM.out, List.length_append, List.flatMap_append]; exact hown3, hw, D.out, N.out⟩
                    case measure => simp [intOf]; omega
          · have tid : (1 + (q0 : Int) % 12 != (k : Int) + 1) = true := by rw [bne_iff_ne]; omega
            have hno : partOf xs i rc (k + 1) (q0, q1, q2) = none := by
              rw [hpo]
              cases tg with
              | none => rfl
              | some t => simp only [hid, if_false]
            have HTN2 := Lib.hid (HTN.out hno)
            clear HTN HTK hpo hno HQ htl hid
            go_upto_region 10 with fail
            clear cN_4
            have hb207 := below_al (Below.refl wr.heap.size wr) (Nat.le_refl _) (.cells #[.int .u8 q0, .int .u8 q1, .int .u8 q2] 100)
            have P := Has.made wr 100 #[.int .u8 q0, .int .u8 q1, .int .u8 q2]
            have hl209 := D.out.here
            have hl210 := N.out.here
            have hl211 := O.out.le
            have hl212 := hw.size
            replace D := Lib.hid (D.out.below hb207 D.out.here)
            replace N := Lib.hid (N.out.below hb207 N.out.here)
            replace O := Lib.hid (O.out.on hb207)
            replace hw := hw.trans (hb207.mono hw.size)
            replace P := Lib.hid P
            clear hb207
            generalize (wr.alloc (.cells #[.int .u8 q0, .int .u8 q1, .int .u8 q2] 100)) = wd213 at *
            generalize wr.heap.size = g208 at *
            clear p0 p1 p2
            have cD_0 : wd213.cell? ⟨w.heap.size, 0, none⟩ = some (.slice (some ⟨b, o, none⟩) xs.length c) := D.out.cell 0
            have cP_1 : wd213.cell? ⟨g208, 1, none⟩ = some (.int .u8 q1) := P.out.cell 1
            go_wp2_with fail
            clear cD_0 cP_1
            ((with_reducible refine (HTG.out _ (HR.out.on hw)).mono ?_); rintro e wd214 ⟨rfl, hb215⟩)
            replace D := Lib.hid (D.out.below hb215 D.out.here)
            replace N := Lib.hid (N.out.below hb215 N.out.here)
            replace P := Lib.hid (P.out.below hb215 P.out.here)
            replace O := Lib.hid (O.out.on hb215)
            replace hw := hw.trans (hb215.mono hw.size)
            clear hb215
            have cP_0 : wd214.cell? ⟨g208, 0, none⟩ = some (.int .u8 q0) := P.out.cell 0
            go_wp2_with fail
            go_roundw
            case rel => exact ⟨j + 1, by omega, by go_num, HTN2.out, O.out.now, hw, D.out, N.out⟩
            case measure => simp [intOf]; omega
        · obtain rfl : j = x.parts.length := by omega
          have hk1 : partsK xs i rc x.parts (k + 1) = partsK xs i rc x.parts k := by
            have : partFor xs i rc x.parts (k + 1) = [] := by
              unfold partFor
              rw [List.findSome?_eq_none_iff.2 (fun q hq => HQ.out q (by rwa [List.take_length]))]
              rfl
            rw [partsK, this, List.append_nil]
          have HK1 := Lib.hid hk1
          clear hk1
          go_wp2_with fail
          go_roundw
          case rel => exact ⟨k + 1, by omega, by go_num, by rw [HK1.out]; exact O.out.now, hw, D.out, N.out⟩
          case measure => simp [intOf]; omega
    · obtain rfl : k = 12 := by omega
      go_wp2_with fail
      obtain ⟨A1, c1, rfl⟩ := own_form hown
      go_ret
      exact ⟨_, rfl, own_base hown (by omega), hw⟩
end Go.Proofs.Ytjcoeolconelmaa

/- The statement ValueAt: At returns the part at a path, its type, or the error, as its reference does. No condition. -/
import Derived.Test.YtjcoeolconelmaaAwake8
import Derived.Test.YtjcoeolconelmaaRAt
import Derived.Test.YtjcoeolconelmaaCloneI
import Derived.Test.YtjcoeolconelmaaDraftG
import Derived.Test.YtjcoeolconelmaaOfK
import Derived.Test.YtjcoeolconelmaaDslR
namespace Go.Proofs.Ytjcoeolconelmaa
open Go.ChangeShapes Go.WideShapes Go.ChangeAt Go.RowKit

def resV (r : Except Int (Val × Int)) : Val × Int × Int := match r with | .ok q => (q.1, q.2, 0) | .error n => (val0, 0, n)
def AtRes (q : Val × Int × Int) (w : World) (e : Ending) (w' : World) : Prop :=
  ∃ vk vi vr, e = .returned (.tuple #[valA q.1 vk vi vr, .int .i64 q.2.1, .int .i64 q.2.2]) ∧ ValAt w' w'.heap.size q.1 vk vi vr ∧ Below w.heap.size w w'
theorem AtPost.res {w w' : World} {r : Except Int (Val × Int)} {e : Ending} (h : AtPost w r e w') : AtRes (resV r) w e w' := by
  unfold AtPost at h
  cases r with
  | ok q =>
    obtain ⟨⟨vk, vi, vr, he, hv⟩, hb⟩ := h
    exact ⟨vk, vi, vr, he, hv, hb⟩
  | error n =>
    obtain ⟨he, hb⟩ := h
    exact ⟨_, _, _, he, val0_at _ _, hb⟩
def AtResF (q : Val × Int × Int) (w : World) (e : Ending) (w' : World) : Prop :=
  ∃ vk vi vr, e = .returned (.tuple #[valA q.1 vk vi vr, .int .i64 q.2.1, .int .i64 q.2.2]) ∧ ValP w' (fun b => w.heap.size ≤ b ∧ b < w'.heap.size) q.1 vk vi vr ∧ Below w.heap.size w w'
theorem rowP_nil (w : World) (S : Nat → Prop) (c : Nat → List Value) : RowP w S 8 (.slice none 0 0) 0 c := ⟨none, 0, rfl, Nat.le_refl _, .inl rfl⟩
theorem val0_P (w : World) (S : Nat → Prop) : ValP w S val0 (.slice none 0 0) (.slice none 0 0) (.slice none 0 0) :=
  ⟨⟨by simp [I64, val0, Val.kind], by simp [I64, val0, Val.num], by simp [I64, val0, Val.id]⟩, by simp [val0, Val.str], ⟨by simp [val0, Val.keys], by simp [val0, Val.items], by simp [val0, Val.rest]⟩, by simp [val0, Val.rest],
    ⟨fun _ => [], rowP_nil _ _ _, fun i h => by simp [val0, Val.keys] at h⟩, ⟨fun _ => [], rowP_nil _ _ _, fun i h => by simp [val0, Val.items] at h⟩, ⟨rfl, none, 0, rfl, Nat.le_refl _, .inl rfl⟩⟩
theorem AtPostF.res {w w' : World} {r : Except Int (Val × Int)} {e : Ending} (h : AtPostF w r e w') : AtResF (resV r) w e w' := by
  unfold AtPostF at h
  cases r with
  | ok q =>
    obtain ⟨⟨vk, vi, vr, he, hv⟩, hb⟩ := h
    exact ⟨vk, vi, vr, he, hv, hb⟩
  | error n =>
    obtain ⟨he, hb⟩ := h
    exact ⟨_, _, _, he, val0_P _ _, hb⟩
theorem ValP.kept {w : World} {L : Nat} {x : Val} {vk vi vr : Value} (h : ValP w (fun b => L ≤ b ∧ b < w.heap.size) x vk vi vr) : ∃ B, B = w.heap.size ∧ Kept (fun w => ValP w (fun b => L ≤ b ∧ b < B) x vk vi vr) w L B :=
  ⟨_, rfl, h, fun _ hk => h.keep (fun p hp => World.cell?_of_block (hk p.block hp.1 hp.2)) (fun _ h => h), Nat.le_refl _⟩
theorem clonei_rd (n : Nat) (A : Option Addr) (cap : Nat) (xs : List Int) (w : World) (hn : n ≤ 1000000) (h : Rd w w.heap.size 1 (.slice A n cap) n (xs.map (Value.int .i64))) :
    Calls Try.prog 26 #[.slice A n cap] w (ClonedV w 3 1 n (xs.map (Value.int .i64))) := by
  obtain ⟨h1, h2, h3⟩ := h.flat (Nat.le_refl _)
  exact clonei_any n A cap _ w hn h1 h.1 h2 h3 (by intro u hu; obtain ⟨z, _, rfl⟩ := List.mem_map.1 hu; rfl)
def CutAt (q : Val × Int × Int) (T : TypeId) (s10 s11 s12 : Value) (W : World) : Prop :=
  ∃ g vk vi vr, s10 = .pointer (some ⟨g, 0, none⟩) ∧ Has W g T (valV q.1 vk vi vr).toArray ∧ ValAt W W.heap.size q.1 vk vi vr ∧ s11 = .int .i64 q.2.1 ∧ s12 = .int .i64 q.2.2
theorem Kept.typs0' {w : World} {L B : Nat} {v : Value} {xs : List Typ} (h : Kept (fun w => RdTyps w B v xs) w L B) : RdTyps w w.heap.size v xs := h.now.keep (fun _ _ => rfl) h.le
def AtInv (w wr : World) (gS gV : Nat) (vs : Value) (cv : Array Value) (ts : List Typ) : Prop :=
  Has wr gV 28 cv ∧ Has wr gS 31 #[vs] ∧ Kept (fun w => RdTyps w gS vs ts) wr 0 gS ∧ Below w.heap.size w wr
set_option maxRecDepth 100000 in
set_option maxHeartbeats 16000000 in
theorem walk_ValueAt (xs : List Nod) (vn : Value) (_ : xs.length ≤ 140737488351232) (x : Val) (vk vi vr vp : Value) (zs : List Int) (hzl : zs.length ≤ maxLen) (hzw : ∀ z ∈ zs, (Lit.int .i64 z).wf = true) (w : World) (hr : RdNods w w.heap.size vn xs) (hv : ValAt w w.heap.size x vk vi vr) (hp : Rd w w.heap.size 1 vp zs.length (zs.map (Value.int .i64))) :
    Calls Try.prog 7 #[.agg #[vn], valA x vk vi vr, vp] w fun e w' => e = .returned (.bool true) ∧ Below w.heap.size w w' := by
  unfold maxLen at hzl
  obtain ⟨A1, n1, A2, n2, A3, n3, rfl, rfl, rfl, -, -, -⟩ := hv.forms
  obtain ⟨A, c, rfl, hcap⟩ := hr.form
  obtain ⟨Ap, cp, rfl, hcp⟩ := hp.form
  have HV := Lib.hid hv
  have HR := Lib.hid hr
  have HP := Lib.hid hp
  have HZW : Hid (∀ z ∈ zs, I64 z) := fun z hz => wf_i64 (hzw z hz)
  clear hv hr hp hzw
  go_enter Try.func7, Try.ntmps7
  go_upto_region 1 with fail
  have hb1 := below_al (below_al (Below.refl w.heap.size w) (Nat.le_refl _) (.cells #[.slice A xs.length c] 24)) (Nat.le_refl _) (.cells #[.int .i64 x.kind, .bool x.bool, .int .i64 x.num, .string ⟨x.str.toArray⟩, .int .i64 x.id, .slice A1 x.keys.length n1, .slice A2 x.items.length n2, .slice A3 x.rest.length n3] 28)
  have D := (Has.made w 24 #[.slice A xs.length c]).alloc (.cells #[.int .i64 x.kind, .bool x.bool, .int .i64 x.num, .string ⟨x.str.toArray⟩, .int .i64 x.id, .slice A1 x.keys.length n1, .slice A2 x.items.length n2, .slice A3 x.rest.length n3] 28)
  have V := Has.made (w.alloc (.cells #[.slice A xs.length c] 24)) 28 #[.int .i64 x.kind, .bool x.bool, .int .i64 x.num, .string ⟨x.str.toArray⟩, .int .i64 x.id, .slice A1 x.keys.length n1, .slice A2 x.items.length n2, .slice A3 x.rest.length n3]
  simp only [alloc_hz] at V
  have hw2 := hb1
  replace D := Lib.hid D
  replace V := Lib.hid V
  clear hb1
  generalize ((w.alloc (.cells #[.slice A xs.length c] 24)).alloc (.cells #[.int .i64 x.kind, .bool x.bool, .int .i64 x.num, .string ⟨x.str.toArray⟩, .int .i64 x.id, .slice A1 x.keys.length n1, .slice A2 x.items.length n2, .slice A3 x.rest.length n3] 28)) = wd3 at *
  have cD_0 : wd3.cell? ⟨w.heap.size, 0, none⟩ = some (.slice A xs.length c) := D.out.cell 0
  go_wp2_with fail
  cases hok : ofOk xs with
  | false =>
    have hno := fun W h => of_no xs (.slice A xs.length c) W hok h
    have HNO := Lib.hid hno
    clear hno hok
    clear cD_0
    ((with_reducible refine (HNO.out _ (HR.out.on hw2)).mono ?_); rintro e wd4 ⟨rfl, hb5⟩)
    replace D := Lib.hid (D.out.below hb5 D.out.here)
    replace V := Lib.hid (V.out.below hb5 V.out.here)
    replace hw2 := hw2.trans (hb5.mono hw2.size)
    clear hb5
    go_upto_region 2 with fail
    have hb6 := below_al (Below.refl wd4.heap.size wd4) (Nat.le_refl _) (.cells #[.slice none 0 0] 31)
    have S := Has.made wd4 31 #[.slice none 0 0]
    have hl8 := D.out.here
    have hl9 := V.out.here
    have hl10 := hw2.size
    replace D := Lib.hid (D.out.below hb6 D.out.here)
    replace V := Lib.hid (V.out.below hb6 V.out.here)
    replace hw2 := hw2.trans (hb6.mono hw2.size)
    replace S := Lib.hid S
    clear hb6
    generalize (wd4.alloc (.cells #[.slice none 0 0] 31)) = wd11 at *
    generalize wd4.heap.size = g7 at *
    go_wp2_with fail
    ((with_reducible refine (awake_any _).mono ?_); rintro e wd12 ⟨rfl, hb13⟩)
    replace D := Lib.hid (D.out.below hb13 D.out.here)
    replace V := Lib.hid (V.out.below hb13 V.out.here)
    replace S := Lib.hid (S.out.below hb13 S.out.here)
    replace hw2 := hw2.trans (hb13.mono hw2.size)
    clear hb13
    go_wp2_with fail
    ((with_reducible refine (awake_any _).mono ?_); rintro e wd14 ⟨rfl, hb15⟩)
    replace D := Lib.hid (D.out.below hb15 D.out.here)
    replace V := Lib.hid (V.out.below hb15 V.out.here)
    replace S := Lib.hid (S.out.below hb15 S.out.here)
    replace hw2 := hw2.trans (hb15.mono hw2.size)
    clear hb15
    go_wp2_with fail
    go_ret
    exact ⟨rfl, hw2⟩
  | true =>
    have hok2 : 0 < xs.length ∧ xs.length ≤ 5 := by unfold ofOk at hok; simp at hok; omega
    have hyes := fun W h => of_yes xs (.slice A xs.length c) W hok2 h
    unfold OfPost at hyes
    have hlen : (ofN xs).length = xs.length := ofN_len xs
    have hkn := ofN_kinds xs
    generalize ofN xs = ts at *
    have HYES := Lib.hid hyes
    have HKN := Lib.hid hkn
    have hlen5 : ts.length ≤ 5 := by omega
    clear hyes hok hok2 hkn hlen
    clear cD_0
    ((with_reducible refine (HYES.out _ (HR.out.on hw2)).mono ?_); rintro e wd16 ⟨vt, rfl, htr, hb17⟩)
    replace D := Lib.hid (D.out.below hb17 D.out.here)
    replace V := Lib.hid (V.out.below hb17 V.out.here)
    replace hw2 := hw2.trans (hb17.mono hw2.size)
    clear hb17
    obtain ⟨At, ct, rfl, _⟩ := htr.form
    have HT := Lib.hid (Kept.rd (P := fun w B => RdTyps w B (.slice At ts.length ct) ts) htr (Nat.le_refl _) (fun _ hk => htr.keep hk (Nat.le_refl _)))
    clear htr
    go_upto_region 2 with fail
    have hb18 := below_al (Below.refl wd16.heap.size wd16) (Nat.le_refl _) (.cells #[.slice At ts.length ct] 31)
    have S := Has.made wd16 31 #[.slice At ts.length ct]
    have hl20 := D.out.here
    have hl21 := V.out.here
    have hl22 := HT.out.le
    have hl23 := hw2.size
    replace D := Lib.hid (D.out.below hb18 D.out.here)
    replace V := Lib.hid (V.out.below hb18 V.out.here)
    replace HT := Lib.hid (HT.out.on hb18)
    replace hw2 := hw2.trans (hb18.mono hw2.size)
    replace S := Lib.hid S
    clear hb18
    generalize (wd16.alloc (.cells #[.slice At ts.length ct] 31)) = wd24 at *
    generalize wd16.heap.size = g19 at *
    go_wp2_with fail
    ((with_reducible refine (awake_any _).mono ?_); rintro e wd25 ⟨rfl, hb26⟩)
    replace D := Lib.hid (D.out.below hb26 D.out.here)
    replace V := Lib.hid (V.out.below hb26 V.out.here)
    replace S := Lib.hid (S.out.below hb26 S.out.here)
    replace HT := Lib.hid (HT.out.on hb26)
    replace hw2 := hw2.trans (hb26.mono hw2.size)
    clear hb26
    have cV_0 : wd25.cell? ⟨w.heap.size + 1, 0, none⟩ = some (.int .i64 x.kind) := V.out.cell 0
    have cV_1 : wd25.cell? ⟨w.heap.size + 1, 1, none⟩ = some (.bool x.bool) := V.out.cell 1
    have cV_2 : wd25.cell? ⟨w.heap.size + 1, 2, none⟩ = some (.int .i64 x.num) := V.out.cell 2
    have cV_3 : wd25.cell? ⟨w.heap.size + 1, 3, none⟩ = some (.string ⟨x.str.toArray⟩) := V.out.cell 3
    have cV_4 : wd25.cell? ⟨w.heap.size + 1, 4, none⟩ = some (.int .i64 x.id) := V.out.cell 4
    have cV_5 : wd25.cell? ⟨w.heap.size + 1, 5, none⟩ = some (.slice A1 x.keys.length n1) := V.out.cell 5
    have cV_6 : wd25.cell? ⟨w.heap.size + 1, 6, none⟩ = some (.slice A2 x.items.length n2) := V.out.cell 6
    have cV_7 : wd25.cell? ⟨w.heap.size + 1, 7, none⟩ = some (.slice A3 x.rest.length n3) := V.out.cell 7
    go_wp2_with fail
    clear cV_0 cV_1 cV_2 cV_3 cV_4 cV_5 cV_6 cV_7
    ((with_reducible refine (small_any x _ _ _ _ (HV.out.on hw2)).mono ?_); rintro e wd27 ⟨rfl, hb28⟩)
    replace D := Lib.hid (D.out.below hb28 D.out.here)
    replace V := Lib.hid (V.out.below hb28 V.out.here)
    replace S := Lib.hid (S.out.below hb28 S.out.here)
    replace HT := Lib.hid (HT.out.on hb28)
    replace hw2 := hw2.trans (hb28.mono hw2.size)
    clear hb28
    cases hs : smallB x with
    | false =>
      clear hs
      go_wp2_with fail
      ((with_reducible refine (awake_any _).mono ?_); rintro e wd29 ⟨rfl, hb30⟩)
      replace D := Lib.hid (D.out.below hb30 D.out.here)
      replace V := Lib.hid (V.out.below hb30 V.out.here)
      replace S := Lib.hid (S.out.below hb30 S.out.here)
      replace HT := Lib.hid (HT.out.on hb30)
      replace hw2 := hw2.trans (hb30.mono hw2.size)
      clear hb30
      go_wp2_with fail
      go_ret
      exact ⟨rfl, hw2⟩
    | true =>
      have hwt : wt x ≤ 5000 := by have := small_wt x hs; omega
      clear hs
      by_cases hz10 : 10 < zs.length
      · have hzd : decide (10 < (zs.length : Int)) = true := decide_eq_true (by omega)
        have hz11 : 10 < (zs.length : Int) := by omega
        go_wp2_with fail
        ((with_reducible refine (awake_any _).mono ?_); rintro e wd31 ⟨rfl, hb32⟩)
        replace D := Lib.hid (D.out.below hb32 D.out.here)
        replace V := Lib.hid (V.out.below hb32 V.out.here)
        replace S := Lib.hid (S.out.below hb32 S.out.here)
        replace HT := Lib.hid (HT.out.on hb32)
        replace hw2 := hw2.trans (hb32.mono hw2.size)
        clear hb32
        go_wp2_with fail
        go_ret
        exact ⟨rfl, hw2⟩
      · have hzd : decide (10 < (zs.length : Int)) = false := decide_eq_false (by omega)
        have hz11 : (zs.length : Int) ≤ 10 := by omega
        have HAT := Lib.hid (fun (k : Nat) (vp : Value) (W : World) h1 h2 h3 => (vat_fresh ts At ct (k : Int) x zs (.slice A1 x.keys.length n1) (.slice A2 x.items.length n2) (.slice A3 x.rest.length n3) vp W HKN.out hwt (by omega) HZW.out h1 h2 h3).mono fun e w' h => AtPostF.res h)
        have HRAT := Lib.hid (fun (k : Nat) (vp : Value) (W : World) h1 h2 h3 => (rat_any ts At ct (k : Int) x zs (.slice A1 x.keys.length n1) (.slice A2 x.items.length n2) (.slice A3 x.rest.length n3) vp W HKN.out hwt (by omega) HZW.out h1 h2 h3).mono fun e w' h => AtPost.res h)
        clear hwt
        have cS_0 : wd27.cell? ⟨g19, 0, none⟩ = some (.slice At ts.length ct) := S.out.cell 0
        go_upto_region 4 with fail
        obtain ⟨gS, hgSe⟩ : ∃ g, g = g19 := ⟨_, rfl⟩
        have hinv : AtInv w wd27 g19 (w.heap.size + 1) (.slice At ts.length ct) #[.int .i64 x.kind, .bool x.bool, .int .i64 x.num, .string ⟨x.str.toArray⟩, .int .i64 x.id, .slice A1 x.keys.length n1, .slice A2 x.items.length n2, .slice A3 x.rest.length n3] ts := ⟨V.out, S.out, HT.out, hw2⟩
        have hgV : w.heap.size + 1 < g19 := by omega
        subst hgSe
        have HINV := Lib.hid hinv
        clear hinv
        go_wp2_with fail
        go_loopw [42] (fun i wr => ∃ k : Nat, k ≤ ts.length + 1 ∧ i = .int .i64 k ∧ AtInv w wr gS (w.heap.size + 1) (.slice At ts.length ct) #[.int .i64 x.kind, .bool x.bool, .int .i64 x.num, .string ⟨x.str.toArray⟩, .int .i64 x.id, .slice A1 x.keys.length n1, .slice A2 x.items.length n2, .slice A3 x.rest.length n3] ts) (fun i _ => ts.length + 1 - (intOf i).toNat)
        case atStart => exact ⟨0, by omega, rfl, HINV.out⟩
        case round =>
          clear D V S HT HINV
          obtain ⟨k, hk, rfl, V, S, hT, hw⟩ := hrel
          replace V := Lib.hid V
          replace S := Lib.hid S
          have HT := Lib.hid (hT)
          clear hT
          by_cases hlt : k < ts.length + 1
          · have hk1 : (k : Int) < ts.length + 1 := by omega
            have hat := HAT.out k
            have hrat := HRAT.out k
            generalize resV (atE ts zs x (k : Int)) = q at *
            obtain ⟨y, yi, ye⟩ := q
            have HATk := Lib.hid hat
            have HRATk := Lib.hid hrat
            clear hat hrat
            go_upto_region 7 with fail
            go_cut [10, 11, 12] from 45 to 77 (fun s10 s11 s12 wx => CutAt (y, yi, ye) 28 s10 s11 s12 wx ∧ AtInv w wx gS (w.heap.size + 1) (.slice At ts.length ct) #[.int .i64 x.kind, .bool x.bool, .int .i64 x.num, .string ⟨x.str.toArray⟩, .int .i64 x.id, .slice A1 x.keys.length n1, .slice A2 x.items.length n2, .slice A3 x.rest.length n3] ts)
            case first =>
              have cS_0 : wr.cell? ⟨gS, 0, none⟩ = some (.slice At ts.length ct) := S.out.cell 0
              have cV_0 : wr.cell? ⟨w.heap.size + 1, 0, none⟩ = some (.int .i64 x.kind) := V.out.cell 0
              have cV_1 : wr.cell? ⟨w.heap.size + 1, 1, none⟩ = some (.bool x.bool) := V.out.cell 1
              have cV_2 : wr.cell? ⟨w.heap.size + 1, 2, none⟩ = some (.int .i64 x.num) := V.out.cell 2
              have cV_3 : wr.cell? ⟨w.heap.size + 1, 3, none⟩ = some (.string ⟨x.str.toArray⟩) := V.out.cell 3
              have cV_4 : wr.cell? ⟨w.heap.size + 1, 4, none⟩ = some (.int .i64 x.id) := V.out.cell 4
              have cV_5 : wr.cell? ⟨w.heap.size + 1, 5, none⟩ = some (.slice A1 x.keys.length n1) := V.out.cell 5
              have cV_6 : wr.cell? ⟨w.heap.size + 1, 6, none⟩ = some (.slice A2 x.items.length n2) := V.out.cell 6
              have cV_7 : wr.cell? ⟨w.heap.size + 1, 7, none⟩ = some (.slice A3 x.rest.length n3) := V.out.cell 7
              refine wp_region_held_drew (S := (fun w' => w'.cell? ⟨gS, 0, none⟩ = some (.slice At ts.length ct) ∧ w'.cell? ⟨w.heap.size + 1, 0, none⟩ = some (.int .i64 x.kind) ∧ w'.cell? ⟨w.heap.size + 1, 1, none⟩ = some (.bool x.bool) ∧ w'.cell? ⟨w.heap.size + 1, 2, none⟩ = some (.int .i64 x.num) ∧ w'.cell? ⟨w.heap.size + 1, 3, none⟩ = some (.string ⟨x.str.toArray⟩) ∧ w'.cell? ⟨w.heap.size + 1, 4, none⟩ = some (.int .i64 x.id) ∧ w'.cell? ⟨w.heap.size + 1, 5, none⟩ = some (.slice A1 x.keys.length n1) ∧ w'.cell? ⟨w.heap.size + 1, 6, none⟩ = some (.slice A2 x.items.length n2) ∧ w'.cell? ⟨w.heap.size + 1, 7, none⟩ = some (.slice A3 x.rest.length n3))) (by kernel_rfl) ⟨cS_0, cV_0, cV_1, cV_2, cV_3, cV_4, cV_5, cV_6, cV_7⟩ (fun hHeld => ?_)
              clear cS_0 cV_0 cV_1 cV_2 cV_3 cV_4 cV_5 cV_6 cV_7
              have hb33 : Below wr.heap.size wr (wr.drew) := (Below.refl _ _).drew
              replace V := Lib.hid (V.out.below hb33 V.out.here)
              replace S := Lib.hid (S.out.below hb33 S.out.here)
              replace HT := Lib.hid (HT.out.on hb33)
              replace hw := hw.trans (hb33.mono hw.size)
              clear hb33
              generalize wr.drew = wd34 at *
              refine wpAnyH_take (i := 0) (v := ?vk35) rfl (by kernel_rfl) (by kernel_rfl) (by kernel_rfl) (fun _ _ _ h => h) (Or.inl ⟨by rfl, ?hk35⟩) (by assumption) ?rk35
              case hk35 => (intro w hSw; (try dsimp only at hSw); go_simp; (first | done | with_reducible rfl))
              try simp only [put_laws]
              refine wpAnyH_take (i := 1) (v := ?vk36) rfl (by kernel_rfl) (by kernel_rfl) (by kernel_rfl) (fun _ _ _ h => h) (Or.inl ⟨by rfl, ?hk36⟩) (by assumption) ?rk36
              case hk36 => (intro w hSw; (try dsimp only at hSw); go_simp; (first | done | with_reducible rfl))
              try simp only [put_laws]
              refine wpAnyH_take (i := 2) (v := ?vk37) rfl (by kernel_rfl) (by kernel_rfl) (by kernel_rfl) (fun _ _ _ h => h) (Or.inl ⟨by rfl, ?hk37⟩) (by assumption) ?rk37
              case hk37 => (intro w hSw; (try dsimp only at hSw); go_simp; (first | done | with_reducible rfl))
              try simp only [put_laws]
              refine wpAnyH_take (i := 3) (v := ?vk38) rfl (by kernel_rfl) (by kernel_rfl) (by kernel_rfl) (fun _ _ _ h => h) (Or.inl ⟨by rfl, ?hk38⟩) (by assumption) ?rk38
              case hk38 => (intro w hSw; (try dsimp only at hSw); go_simp; (first | done | with_reducible rfl))
              try simp only [put_laws]
              refine wpAnyH_ready (rs := [4, 10]) (by kernel_rfl) (by simp) ?_
              refine AllReadyH.cons rfl (fun K hK => ?_) (AllReadyH.cons rfl (fun K hK => ?_) (AllReadyH.nil))
              · skip
                go_simp
                ((with_reducible refine (clonei_rd zs.length Ap cp zs _ (by omega) ((HP.out.below hw).mono (hw).size)).mono ?_); rintro e wd39 ⟨vc, rfl, hown, hb40⟩)
                replace V := Lib.hid (V.out.below hb40 V.out.here)
                replace S := Lib.hid (S.out.below hb40 S.out.here)
                replace HT := Lib.hid (HT.out.on hb40)
                replace hw := hw.trans (hb40.mono hw.size)
                clear hb40
                have hrc := Rd.of_own hown
                obtain ⟨Ac, cc, rfl, _⟩ := hrc.form
                have CL := Lib.hid (Kept.rd (P := fun w B => Rd w B 1 (.slice Ac zs.length cc) zs.length (zs.map (Value.int .i64))) hrc (Nat.le_refl _) (fun _ hk => hrc.keep hk))
                clear hrc hown
                try clear hHeld
                refine hK.out _ _ ⟨S.out.cell 0, V.out.cell 0, V.out.cell 1, V.out.cell 2, V.out.cell 3, V.out.cell 4, V.out.cell 5, V.out.cell 6, V.out.cell 7⟩ (fun hHeld => ?_)
                clear hK K
                refine wpAnyH_ready (rs := [5, 10]) (by kernel_rfl) (by simp) ?_
                refine AllReadyH.cons rfl (fun K hK => ?_) (AllReadyH.cons rfl (fun K hK => ?_) (AllReadyH.nil))
                · skip
                  go_simp
                  obtain ⟨L0, hL0⟩ : ∃ L, L = wd39.heap.size := ⟨_, rfl⟩
                  skip
                  have hrc := CL.out.now.mono CL.out.le
                  clear CL
                  ((with_reducible refine (HATk.out _ _ HT.out.typs0' (HV.out.on hw) hrc).mono ?_); rintro e wd41 ⟨yk, yj, yr, rfl, hya, hb42⟩)
                  replace V := Lib.hid (V.out.below hb42 V.out.here)
                  replace S := Lib.hid (S.out.below hb42 S.out.here)
                  replace HT := Lib.hid (HT.out.on hb42)
                  replace hw := hw.trans (hb42.mono hw.size)
                  clear hb42
                  rw [← hL0] at hya
                  obtain ⟨B0, hB0, hyk⟩ := hya.kept
                  obtain ⟨Y1, e1, Y2, e2, Y3, e3, rfl, rfl, rfl, -, -, -⟩ := (hya.at_ (fun _ h => h.2)).forms
                  have Y := Lib.hid (hyk)
                  clear hya hyk hrc hL0 hB0
                  try clear hHeld
                  refine hK.out _ _ ⟨S.out.cell 0, V.out.cell 0, V.out.cell 1, V.out.cell 2, V.out.cell 3, V.out.cell 4, V.out.cell 5, V.out.cell 6, V.out.cell 7⟩ (fun hHeld => ?_)
                  clear hK K
                  refine wpAnyH_take (i := 6) (v := ?vk43) rfl (by kernel_rfl) (by kernel_rfl) (by kernel_rfl) (fun _ _ _ h => h) (Or.inl ⟨by rfl, ?hk43⟩) (by assumption) ?rk43
                  case hk43 => (intro w hSw; (try dsimp only at hSw); go_simp; (first | done | with_reducible rfl))
                  try simp only
                  refine wpAnyH_take (i := 7) (v := ?vk44) rfl (by kernel_rfl) (by kernel_rfl) (by kernel_rfl) (fun _ _ _ h => h) (Or.inl ⟨by rfl, ?hk44⟩) (by assumption) ?rk44
                  case hk44 => (intro w hSw; (try dsimp only at hSw); go_simp; (first | done | with_reducible rfl))
                  try simp only [put_laws]
                  refine wpAnyH_take (i := 8) (v := ?vk45) rfl (by kernel_rfl) (by kernel_rfl) (by kernel_rfl) (fun _ _ _ h => h) (Or.inl ⟨by rfl, ?hk45⟩) (by assumption) ?rk45
                  case hk45 => (intro w hSw; (try dsimp only at hSw); go_simp; (first | done | with_reducible rfl))
                  try simp only [put_laws]
                  refine wpAnyH_take (i := 9) (v := ?vk46) rfl (by kernel_rfl) (by kernel_rfl) (by kernel_rfl) (fun _ _ _ h => h) (Or.inl ⟨by rfl, ?hk46⟩) (by assumption) ?rk46
                  case hk46 => (intro w hSw; (try dsimp only at hSw); go_simp; (first | done | with_reducible rfl))
                  try simp only [put_laws]
                  refine wpAnyH_ready (rs := [10]) (by kernel_rfl) (by simp) ?_
                  refine AllReadyH.cons rfl (fun K hK => ?_) (AllReadyH.nil)
                  go_simp
                  have hb47 := below_al (Below.refl wd41.heap.size wd41) (Nat.le_refl _) (.cells #[.int .i64 0, .bool false, .int .i64 0, .string ⟨#[]⟩, .int .i64 0, .slice none 0 0, .slice none 0 0, .slice none 0 0] 28)
                  have X := Has.made wd41 28 #[.int .i64 0, .bool false, .int .i64 0, .string ⟨#[]⟩, .int .i64 0, .slice none 0 0, .slice none 0 0, .slice none 0 0]
                  have hl49 := V.out.here
                  have hl50 := S.out.here
                  have hl51 := HT.out.le
                  have hl52 := Y.out.le
                  have hl53 := hw.size
                  replace V := Lib.hid (V.out.below hb47 V.out.here)
                  replace S := Lib.hid (S.out.below hb47 S.out.here)
                  replace HT := Lib.hid (HT.out.on hb47)
                  replace Y := Lib.hid (Y.out.on hb47)
                  replace hw := hw.trans (hb47.mono hw.size)
                  replace X := Lib.hid X
                  clear hb47
                  generalize (wd41.alloc (.cells #[.int .i64 0, .bool false, .int .i64 0, .string ⟨#[]⟩, .int .i64 0, .slice none 0 0, .slice none 0 0, .slice none 0 0] 28)) = wd54 at *
                  generalize wd41.heap.size = g48 at *
                  try clear hHeld
                  refine hK.out _ _ ⟨S.out.cell 0, V.out.cell 0, V.out.cell 1, V.out.cell 2, V.out.cell 3, V.out.cell 4, V.out.cell 5, V.out.cell 6, V.out.cell 7⟩ (fun hHeld => ?_)
                  clear hK K
                  refine wpAnyH_ready (rs := [11]) (by kernel_rfl) (by simp) ?_
                  refine AllReadyH.cons rfl (fun K hK => ?_) (AllReadyH.nil)
                  refine step_store_row (by rfl) 28 _ _ (by rfl) (g48) #[.int .i64 y.kind, .bool y.bool, .int .i64 y.num, .string ⟨y.str.toArray⟩, .int .i64 y.id, .slice Y1 y.keys.length e1, .slice Y2 y.items.length e2, .slice Y3 y.rest.length e3] (by rfl) (by rfl) 28 _ X.out (by kernel_rfl) rfl (by simp [Value.oneCell']) ?_
                  replace V := Lib.hid (has_row (cs' := #[.int .i64 y.kind, .bool y.bool, .int .i64 y.num, .string ⟨y.str.toArray⟩, .int .i64 y.id, .slice Y1 y.keys.length e1, .slice Y2 y.items.length e2, .slice Y3 y.rest.length e3]) V.out (show w.heap.size + 1 ≠ g48 by omega))
                  replace S := Lib.hid (has_row (cs' := #[.int .i64 y.kind, .bool y.bool, .int .i64 y.num, .string ⟨y.str.toArray⟩, .int .i64 y.id, .slice Y1 y.keys.length e1, .slice Y2 y.items.length e2, .slice Y3 y.rest.length e3]) S.out (show gS ≠ g48 by omega))
                  replace X : Hid (Has (wd54.setRow (g48) #[.int .i64 y.kind, .bool y.bool, .int .i64 y.num, .string ⟨y.str.toArray⟩, .int .i64 y.id, .slice Y1 y.keys.length e1, .slice Y2 y.items.length e2, .slice Y3 y.rest.length e3]) (g48) 28 #[.int .i64 y.kind, .bool y.bool, .int .i64 y.num, .string ⟨y.str.toArray⟩, .int .i64 y.id, .slice Y1 y.keys.length e1, .slice Y2 y.items.length e2, .slice Y3 y.rest.length e3]) := Lib.hid (row_has X.out _)
                  replace HT := Lib.hid (HT.out.row (g48) (show gS ≤ g48 ∨ g48 < 0 by omega) #[.int .i64 y.kind, .bool y.bool, .int .i64 y.num, .string ⟨y.str.toArray⟩, .int .i64 y.id, .slice Y1 y.keys.length e1, .slice Y2 y.items.length e2, .slice Y3 y.rest.length e3])
                  replace Y := Lib.hid (Y.out.row (g48) (show B0 ≤ g48 ∨ g48 < L0 by omega) #[.int .i64 y.kind, .bool y.bool, .int .i64 y.num, .string ⟨y.str.toArray⟩, .int .i64 y.id, .slice Y1 y.keys.length e1, .slice Y2 y.items.length e2, .slice Y3 y.rest.length e3])
                  replace hw := below_setRow hw (show w.heap.size ≤ g48 by omega) #[.int .i64 y.kind, .bool y.bool, .int .i64 y.num, .string ⟨y.str.toArray⟩, .int .i64 y.id, .slice Y1 y.keys.length e1, .slice Y2 y.items.length e2, .slice Y3 y.rest.length e3]
                  generalize wd54.setRow (g48) #[.int .i64 y.kind, .bool y.bool, .int .i64 y.num, .string ⟨y.str.toArray⟩, .int .i64 y.id, .slice Y1 y.keys.length e1, .slice Y2 y.items.length e2, .slice Y3 y.rest.length e3] = wd55 at *
                  try clear hHeld
                  refine hK.out _ _ ⟨S.out.cell 0, V.out.cell 0, V.out.cell 1, V.out.cell 2, V.out.cell 3, V.out.cell 4, V.out.cell 5, V.out.cell 6, V.out.cell 7⟩ (fun hHeld => ?_)
                  clear hK K
                  refine wpAnyH_take (i := 12) (v := ?vk56) rfl (by kernel_rfl) (by kernel_rfl) (by kernel_rfl) (fun _ _ _ h => h) (Or.inl ⟨by rfl, ?hk56⟩) (by assumption) ?rk56
                  case hk56 => (intro w hSw; (try dsimp only at hSw); go_simp; (first | done | with_reducible rfl))
                  try simp only [put_laws]
                  refine wpAnyH_take (i := 13) (v := ?vk57) rfl (by kernel_rfl) (by kernel_rfl) (by kernel_rfl) (fun _ _ _ h => h) (Or.inl ⟨by rfl, ?hk57⟩) (by assumption) ?rk57
                  case hk57 => (intro w hSw; (try dsimp only at hSw); go_simp; (first | done | with_reducible rfl))
                  try simp only [put_laws]
                  refine wpAnyH_done (by kernel_rfl) ?_ _
                  try clear hHeld
                  have hB0l := Y.out.le
                  go_wp2_with fail
                  go_meet
                  exact ⟨⟨_, _, _, _, rfl, X.out, Y.out.now.at_ (fun _ h => Nat.lt_of_lt_of_le h.2 hB0l), rfl, rfl⟩, V.out, S.out, HT.out, hw⟩
                · skip
                  go_simp
                  have hb58 := below_al (Below.refl wd39.heap.size wd39) (Nat.le_refl _) (.cells #[.int .i64 0, .bool false, .int .i64 0, .string ⟨#[]⟩, .int .i64 0, .slice none 0 0, .slice none 0 0, .slice none 0 0] 28)
                  have X := Has.made wd39 28 #[.int .i64 0, .bool false, .int .i64 0, .string ⟨#[]⟩, .int .i64 0, .slice none 0 0, .slice none 0 0, .slice none 0 0]
                  have hl60 := V.out.here
                  have hl61 := S.out.here
                  have hl62 := HT.out.le
                  have hl63 := CL.out.le
                  have hl64 := hw.size
                  replace V := Lib.hid (V.out.below hb58 V.out.here)
                  replace S := Lib.hid (S.out.below hb58 S.out.here)
                  replace HT := Lib.hid (HT.out.on hb58)
                  replace CL := Lib.hid (CL.out.on hb58)
                  replace hw := hw.trans (hb58.mono hw.size)
                  replace X := Lib.hid X
                  clear hb58
                  generalize (wd39.alloc (.cells #[.int .i64 0, .bool false, .int .i64 0, .string ⟨#[]⟩, .int .i64 0, .slice none 0 0, .slice none 0 0, .slice none 0 0] 28)) = wd65 at *
                  generalize wd39.heap.size = g59 at *
                  try clear hHeld
                  refine hK.out _ _ ⟨S.out.cell 0, V.out.cell 0, V.out.cell 1, V.out.cell 2, V.out.cell 3, V.out.cell 4, V.out.cell 5, V.out.cell 6, V.out.cell 7⟩ (fun hHeld => ?_)
                  clear hK K
                  refine wpAnyH_ready (rs := [5]) (by kernel_rfl) (by simp) ?_
                  refine AllReadyH.cons rfl (fun K hK => ?_) (AllReadyH.nil)
                  go_simp
                  obtain ⟨L0, hL0⟩ : ∃ L, L = wd65.heap.size := ⟨_, rfl⟩
                  have hgl : g59 < L0 := by rw [hL0]; exact X.out.here
                  have hrc := CL.out.now.mono CL.out.le
                  clear CL
                  ((with_reducible refine (HATk.out _ _ HT.out.typs0' (HV.out.on hw) hrc).mono ?_); rintro e wd66 ⟨yk, yj, yr, rfl, hya, hb67⟩)
                  replace V := Lib.hid (V.out.below hb67 V.out.here)
                  replace S := Lib.hid (S.out.below hb67 S.out.here)
                  replace X := Lib.hid (X.out.below hb67 X.out.here)
                  replace HT := Lib.hid (HT.out.on hb67)
                  replace hw := hw.trans (hb67.mono hw.size)
                  clear hb67
                  rw [← hL0] at hya
                  obtain ⟨B0, hB0, hyk⟩ := hya.kept
                  obtain ⟨Y1, e1, Y2, e2, Y3, e3, rfl, rfl, rfl, -, -, -⟩ := (hya.at_ (fun _ h => h.2)).forms
                  have Y := Lib.hid (hyk)
                  clear hya hyk hrc hL0 hB0
                  try clear hHeld
                  refine hK.out _ _ ⟨S.out.cell 0, V.out.cell 0, V.out.cell 1, V.out.cell 2, V.out.cell 3, V.out.cell 4, V.out.cell 5, V.out.cell 6, V.out.cell 7⟩ (fun hHeld => ?_)
                  clear hK K
                  refine wpAnyH_take (i := 6) (v := ?vk68) rfl (by kernel_rfl) (by kernel_rfl) (by kernel_rfl) (fun _ _ _ h => h) (Or.inl ⟨by rfl, ?hk68⟩) (by assumption) ?rk68
                  case hk68 => (intro w hSw; (try dsimp only at hSw); go_simp; (first | done | with_reducible rfl))
                  try simp only
                  refine wpAnyH_take (i := 7) (v := ?vk69) rfl (by kernel_rfl) (by kernel_rfl) (by kernel_rfl) (fun _ _ _ h => h) (Or.inl ⟨by rfl, ?hk69⟩) (by assumption) ?rk69
                  case hk69 => (intro w hSw; (try dsimp only at hSw); go_simp; (first | done | with_reducible rfl))
                  try simp only [put_laws]
                  refine wpAnyH_take (i := 8) (v := ?vk70) rfl (by kernel_rfl) (by kernel_rfl) (by kernel_rfl) (fun _ _ _ h => h) (Or.inl ⟨by rfl, ?hk70⟩) (by assumption) ?rk70
                  case hk70 => (intro w hSw; (try dsimp only at hSw); go_simp; (first | done | with_reducible rfl))
                  try simp only [put_laws]
                  refine wpAnyH_take (i := 9) (v := ?vk71) rfl (by kernel_rfl) (by kernel_rfl) (by kernel_rfl) (fun _ _ _ h => h) (Or.inl ⟨by rfl, ?hk71⟩) (by assumption) ?rk71
                  case hk71 => (intro w hSw; (try dsimp only at hSw); go_simp; (first | done | with_reducible rfl))
                  try simp only [put_laws]
                  refine wpAnyH_ready (rs := [11]) (by kernel_rfl) (by simp) ?_
                  refine AllReadyH.cons rfl (fun K hK => ?_) (AllReadyH.nil)
                  refine step_store_row (by rfl) 28 _ _ (by rfl) (g59) #[.int .i64 y.kind, .bool y.bool, .int .i64 y.num, .string ⟨y.str.toArray⟩, .int .i64 y.id, .slice Y1 y.keys.length e1, .slice Y2 y.items.length e2, .slice Y3 y.rest.length e3] (by rfl) (by rfl) 28 _ X.out (by kernel_rfl) rfl (by simp [Value.oneCell']) ?_
                  replace V := Lib.hid (has_row (cs' := #[.int .i64 y.kind, .bool y.bool, .int .i64 y.num, .string ⟨y.str.toArray⟩, .int .i64 y.id, .slice Y1 y.keys.length e1, .slice Y2 y.items.length e2, .slice Y3 y.rest.length e3]) V.out (show w.heap.size + 1 ≠ g59 by omega))
                  replace S := Lib.hid (has_row (cs' := #[.int .i64 y.kind, .bool y.bool, .int .i64 y.num, .string ⟨y.str.toArray⟩, .int .i64 y.id, .slice Y1 y.keys.length e1, .slice Y2 y.items.length e2, .slice Y3 y.rest.length e3]) S.out (show gS ≠ g59 by omega))
                  replace X : Hid (Has (wd66.setRow (g59) #[.int .i64 y.kind, .bool y.bool, .int .i64 y.num, .string ⟨y.str.toArray⟩, .int .i64 y.id, .slice Y1 y.keys.length e1, .slice Y2 y.items.length e2, .slice Y3 y.rest.length e3]) (g59) 28 #[.int .i64 y.kind, .bool y.bool, .int .i64 y.num, .string ⟨y.str.toArray⟩, .int .i64 y.id, .slice Y1 y.keys.length e1, .slice Y2 y.items.length e2, .slice Y3 y.rest.length e3]) := Lib.hid (row_has X.out _)
                  replace HT := Lib.hid (HT.out.row (g59) (show gS ≤ g59 ∨ g59 < 0 by omega) #[.int .i64 y.kind, .bool y.bool, .int .i64 y.num, .string ⟨y.str.toArray⟩, .int .i64 y.id, .slice Y1 y.keys.length e1, .slice Y2 y.items.length e2, .slice Y3 y.rest.length e3])
                  replace Y := Lib.hid (Y.out.row (g59) (show B0 ≤ g59 ∨ g59 < L0 by omega) #[.int .i64 y.kind, .bool y.bool, .int .i64 y.num, .string ⟨y.str.toArray⟩, .int .i64 y.id, .slice Y1 y.keys.length e1, .slice Y2 y.items.length e2, .slice Y3 y.rest.length e3])
                  replace hw := below_setRow hw (show w.heap.size ≤ g59 by omega) #[.int .i64 y.kind, .bool y.bool, .int .i64 y.num, .string ⟨y.str.toArray⟩, .int .i64 y.id, .slice Y1 y.keys.length e1, .slice Y2 y.items.length e2, .slice Y3 y.rest.length e3]
                  generalize wd66.setRow (g59) #[.int .i64 y.kind, .bool y.bool, .int .i64 y.num, .string ⟨y.str.toArray⟩, .int .i64 y.id, .slice Y1 y.keys.length e1, .slice Y2 y.items.length e2, .slice Y3 y.rest.length e3] = wd72 at *
                  try clear hHeld
                  refine hK.out _ _ ⟨S.out.cell 0, V.out.cell 0, V.out.cell 1, V.out.cell 2, V.out.cell 3, V.out.cell 4, V.out.cell 5, V.out.cell 6, V.out.cell 7⟩ (fun hHeld => ?_)
                  clear hK K
                  refine wpAnyH_take (i := 12) (v := ?vk73) rfl (by kernel_rfl) (by kernel_rfl) (by kernel_rfl) (fun _ _ _ h => h) (Or.inl ⟨by rfl, ?hk73⟩) (by assumption) ?rk73
                  case hk73 => (intro w hSw; (try dsimp only at hSw); go_simp; (first | done | with_reducible rfl))
                  try simp only [put_laws]
                  refine wpAnyH_take (i := 13) (v := ?vk74) rfl (by kernel_rfl) (by kernel_rfl) (by kernel_rfl) (fun _ _ _ h => h) (Or.inl ⟨by rfl, ?hk74⟩) (by assumption) ?rk74
                  case hk74 => (intro w hSw; (try dsimp only at hSw); go_simp; (first | done | with_reducible rfl))
                  try simp only [put_laws]
                  refine wpAnyH_done (by kernel_rfl) ?_ _
                  try clear hHeld
                  have hB0l := Y.out.le
                  go_wp2_with fail
                  go_meet
                  exact ⟨⟨_, _, _, _, rfl, X.out, Y.out.now.at_ (fun _ h => Nat.lt_of_lt_of_le h.2 hB0l), rfl, rfl⟩, V.out, S.out, HT.out, hw⟩
              · skip
                go_simp
                have hb75 := below_al (Below.refl wd34.heap.size wd34) (Nat.le_refl _) (.cells #[.int .i64 0, .bool false, .int .i64 0, .string ⟨#[]⟩, .int .i64 0, .slice none 0 0, .slice none 0 0, .slice none 0 0] 28)
                have X := Has.made wd34 28 #[.int .i64 0, .bool false, .int .i64 0, .string ⟨#[]⟩, .int .i64 0, .slice none 0 0, .slice none 0 0, .slice none 0 0]
                have hl77 := V.out.here
                have hl78 := S.out.here
                have hl79 := HT.out.le
                have hl80 := hw.size
                replace V := Lib.hid (V.out.below hb75 V.out.here)
                replace S := Lib.hid (S.out.below hb75 S.out.here)
                replace HT := Lib.hid (HT.out.on hb75)
                replace hw := hw.trans (hb75.mono hw.size)
                replace X := Lib.hid X
                clear hb75
                generalize (wd34.alloc (.cells #[.int .i64 0, .bool false, .int .i64 0, .string ⟨#[]⟩, .int .i64 0, .slice none 0 0, .slice none 0 0, .slice none 0 0] 28)) = wd81 at *
                generalize wd34.heap.size = g76 at *
                try clear hHeld
                refine hK.out _ _ ⟨S.out.cell 0, V.out.cell 0, V.out.cell 1, V.out.cell 2, V.out.cell 3, V.out.cell 4, V.out.cell 5, V.out.cell 6, V.out.cell 7⟩ (fun hHeld => ?_)
                clear hK K
                refine wpAnyH_ready (rs := [4]) (by kernel_rfl) (by simp) ?_
                refine AllReadyH.cons rfl (fun K hK => ?_) (AllReadyH.nil)
                go_simp
                ((with_reducible refine (clonei_rd zs.length Ap cp zs _ (by omega) ((HP.out.below hw).mono (hw).size)).mono ?_); rintro e wd82 ⟨vc, rfl, hown, hb83⟩)
                replace V := Lib.hid (V.out.below hb83 V.out.here)
                replace S := Lib.hid (S.out.below hb83 S.out.here)
                replace X := Lib.hid (X.out.below hb83 X.out.here)
                replace HT := Lib.hid (HT.out.on hb83)
                replace hw := hw.trans (hb83.mono hw.size)
                clear hb83
                have hrc := Rd.of_own hown
                obtain ⟨Ac, cc, rfl, _⟩ := hrc.form
                have CL := Lib.hid (Kept.rd (P := fun w B => Rd w B 1 (.slice Ac zs.length cc) zs.length (zs.map (Value.int .i64))) hrc (Nat.le_refl _) (fun _ hk => hrc.keep hk))
                clear hrc hown
                try clear hHeld
                refine hK.out _ _ ⟨S.out.cell 0, V.out.cell 0, V.out.cell 1, V.out.cell 2, V.out.cell 3, V.out.cell 4, V.out.cell 5, V.out.cell 6, V.out.cell 7⟩ (fun hHeld => ?_)
                clear hK K
                refine wpAnyH_ready (rs := [5]) (by kernel_rfl) (by simp) ?_
                refine AllReadyH.cons rfl (fun K hK => ?_) (AllReadyH.nil)
                go_simp
                obtain ⟨L0, hL0⟩ : ∃ L, L = wd82.heap.size := ⟨_, rfl⟩
                have hgl : g76 < L0 := by rw [hL0]; exact X.out.here
                have hrc := CL.out.now.mono CL.out.le
                clear CL
                ((with_reducible refine (HATk.out _ _ HT.out.typs0' (HV.out.on hw) hrc).mono ?_); rintro e wd84 ⟨yk, yj, yr, rfl, hya, hb85⟩)
                replace V := Lib.hid (V.out.below hb85 V.out.here)
                replace S := Lib.hid (S.out.below hb85 S.out.here)
                replace X := Lib.hid (X.out.below hb85 X.out.here)
                replace HT := Lib.hid (HT.out.on hb85)
                replace hw := hw.trans (hb85.mono hw.size)
                clear hb85
                rw [← hL0] at hya
                obtain ⟨B0, hB0, hyk⟩ := hya.kept
                obtain ⟨Y1, e1, Y2, e2, Y3, e3, rfl, rfl, rfl, -, -, -⟩ := (hya.at_ (fun _ h => h.2)).forms
                have Y := Lib.hid (hyk)
                clear hya hyk hrc hL0 hB0
                try clear hHeld
                refine hK.out _ _ ⟨S.out.cell 0, V.out.cell 0, V.out.cell 1, V.out.cell 2, V.out.cell 3, V.out.cell 4, V.out.cell 5, V.out.cell 6, V.out.cell 7⟩ (fun hHeld => ?_)
                clear hK K
                refine wpAnyH_take (i := 6) (v := ?vk86) rfl (by kernel_rfl) (by kernel_rfl) (by kernel_rfl) (fun _ _ _ h => h) (Or.inl ⟨by rfl, ?hk86⟩) (by assumption) ?rk86
                case hk86 => (intro w hSw; (try dsimp only at hSw); go_simp; (first | done | with_reducible rfl))
                try simp only
                refine wpAnyH_take (i := 7) (v := ?vk87) rfl (by kernel_rfl) (by kernel_rfl) (by kernel_rfl) (fun _ _ _ h => h) (Or.inl ⟨by rfl, ?hk87⟩) (by assumption) ?rk87
                case hk87 => (intro w hSw; (try dsimp only at hSw); go_simp; (first | done | with_reducible rfl))
                try simp only [put_laws]
                refine wpAnyH_take (i := 8) (v := ?vk88) rfl (by kernel_rfl) (by kernel_rfl) (by kernel_rfl) (fun _ _ _ h => h) (Or.inl ⟨by rfl, ?hk88⟩) (by assumption) ?rk88
                case hk88 => (intro w hSw; (try dsimp only at hSw); go_simp; (first | done | with_reducible rfl))
                try simp only [put_laws]
                refine wpAnyH_take (i := 9) (v := ?vk89) rfl (by kernel_rfl) (by kernel_rfl) (by kernel_rfl) (fun _ _ _ h => h) (Or.inl ⟨by rfl, ?hk89⟩) (by assumption) ?rk89
                case hk89 => (intro w hSw; (try dsimp only at hSw); go_simp; (first | done | with_reducible rfl))
                try simp only [put_laws]
                refine wpAnyH_ready (rs := [11]) (by kernel_rfl) (by simp) ?_
                refine AllReadyH.cons rfl (fun K hK => ?_) (AllReadyH.nil)
                refine step_store_row (by rfl) 28 _ _ (by rfl) (g76) #[.int .i64 y.kind, .bool y.bool, .int .i64 y.num, .string ⟨y.str.toArray⟩, .int .i64 y.id, .slice Y1 y.keys.length e1, .slice Y2 y.items.length e2, .slice Y3 y.rest.length e3] (by rfl) (by rfl) 28 _ X.out (by kernel_rfl) rfl (by simp [Value.oneCell']) ?_
                replace V := Lib.hid (has_row (cs' := #[.int .i64 y.kind, .bool y.bool, .int .i64 y.num, .string ⟨y.str.toArray⟩, .int .i64 y.id, .slice Y1 y.keys.length e1, .slice Y2 y.items.length e2, .slice Y3 y.rest.length e3]) V.out (show w.heap.size + 1 ≠ g76 by omega))
                replace S := Lib.hid (has_row (cs' := #[.int .i64 y.kind, .bool y.bool, .int .i64 y.num, .string ⟨y.str.toArray⟩, .int .i64 y.id, .slice Y1 y.keys.length e1, .slice Y2 y.items.length e2, .slice Y3 y.rest.length e3]) S.out (show gS ≠ g76 by omega))
                replace X : Hid (Has (wd84.setRow (g76) #[.int .i64 y.kind, .bool y.bool, .int .i64 y.num, .string ⟨y.str.toArray⟩, .int .i64 y.id, .slice Y1 y.keys.length e1, .slice Y2 y.items.length e2, .slice Y3 y.rest.length e3]) (g76) 28 #[.int .i64 y.kind, .bool y.bool, .int .i64 y.num, .string ⟨y.str.toArray⟩, .int .i64 y.id, .slice Y1 y.keys.length e1, .slice Y2 y.items.length e2, .slice Y3 y.rest.length e3]) := Lib.hid (row_has X.out _)
                replace HT := Lib.hid (HT.out.row (g76) (show gS ≤ g76 ∨ g76 < 0 by omega) #[.int .i64 y.kind, .bool y.bool, .int .i64 y.num, .string ⟨y.str.toArray⟩, .int .i64 y.id, .slice Y1 y.keys.length e1, .slice Y2 y.items.length e2, .slice Y3 y.rest.length e3])
                replace Y := Lib.hid (Y.out.row (g76) (show B0 ≤ g76 ∨ g76 < L0 by omega) #[.int .i64 y.kind, .bool y.bool, .int .i64 y.num, .string ⟨y.str.toArray⟩, .int .i64 y.id, .slice Y1 y.keys.length e1, .slice Y2 y.items.length e2, .slice Y3 y.rest.length e3])
                replace hw := below_setRow hw (show w.heap.size ≤ g76 by omega) #[.int .i64 y.kind, .bool y.bool, .int .i64 y.num, .string ⟨y.str.toArray⟩, .int .i64 y.id, .slice Y1 y.keys.length e1, .slice Y2 y.items.length e2, .slice Y3 y.rest.length e3]
                generalize wd84.setRow (g76) #[.int .i64 y.kind, .bool y.bool, .int .i64 y.num, .string ⟨y.str.toArray⟩, .int .i64 y.id, .slice Y1 y.keys.length e1, .slice Y2 y.items.length e2, .slice Y3 y.rest.length e3] = wd90 at *
                try clear hHeld
                refine hK.out _ _ ⟨S.out.cell 0, V.out.cell 0, V.out.cell 1, V.out.cell 2, V.out.cell 3, V.out.cell 4, V.out.cell 5, V.out.cell 6, V.out.cell 7⟩ (fun hHeld => ?_)
                clear hK K
                refine wpAnyH_take (i := 12) (v := ?vk91) rfl (by kernel_rfl) (by kernel_rfl) (by kernel_rfl) (fun _ _ _ h => h) (Or.inl ⟨by rfl, ?hk91⟩) (by assumption) ?rk91
                case hk91 => (intro w hSw; (try dsimp only at hSw); go_simp; (first | done | with_reducible rfl))
                try simp only [put_laws]
                refine wpAnyH_take (i := 13) (v := ?vk92) rfl (by kernel_rfl) (by kernel_rfl) (by kernel_rfl) (fun _ _ _ h => h) (Or.inl ⟨by rfl, ?hk92⟩) (by assumption) ?rk92
                case hk92 => (intro w hSw; (try dsimp only at hSw); go_simp; (first | done | with_reducible rfl))
                try simp only [put_laws]
                refine wpAnyH_done (by kernel_rfl) ?_ _
                try clear hHeld
                have hB0l := Y.out.le
                go_wp2_with fail
                go_meet
                exact ⟨⟨_, _, _, _, rfl, X.out, Y.out.now.at_ (fun _ h => Nat.lt_of_lt_of_le h.2 hB0l), rfl, rfl⟩, V.out, S.out, HT.out, hw⟩
            case rest =>
              obtain ⟨⟨gX, yk, yj, yr, rfl, X0, hya, rfl, rfl⟩, V, S, hT, hw⟩ := hcut
              obtain ⟨Y1, e1, Y2, e2, Y3, e3, rfl, rfl, rfl, -, -, -⟩ := hya.forms
              have X : Has wc gX 28 #[.int .i64 y.kind, .bool y.bool, .int .i64 y.num, .string ⟨y.str.toArray⟩, .int .i64 y.id, .slice Y1 y.keys.length e1, .slice Y2 y.items.length e2, .slice Y3 y.rest.length e3] := X0
              have HSAME := Lib.hid ((sameV_iff y y).2 rfl)
              clear X0
              replace V := Lib.hid V
              replace S := Lib.hid S
              replace X := Lib.hid X
              have HT := Lib.hid (hT)
              clear hT
              have Y := Lib.hid (Kept.rd (P := fun w B => ValAt w B y (.slice Y1 y.keys.length e1) (.slice Y2 y.items.length e2) (.slice Y3 y.rest.length e3)) hya (Nat.le_refl _) (fun _ hk => hya.keep hk (Nat.le_refl _)))
              clear hya
              have cV_0 : wc.cell? ⟨w.heap.size + 1, 0, none⟩ = some (.int .i64 x.kind) := V.out.cell 0
              have cV_1 : wc.cell? ⟨w.heap.size + 1, 1, none⟩ = some (.bool x.bool) := V.out.cell 1
              have cV_2 : wc.cell? ⟨w.heap.size + 1, 2, none⟩ = some (.int .i64 x.num) := V.out.cell 2
              have cV_3 : wc.cell? ⟨w.heap.size + 1, 3, none⟩ = some (.string ⟨x.str.toArray⟩) := V.out.cell 3
              have cV_4 : wc.cell? ⟨w.heap.size + 1, 4, none⟩ = some (.int .i64 x.id) := V.out.cell 4
              have cV_5 : wc.cell? ⟨w.heap.size + 1, 5, none⟩ = some (.slice A1 x.keys.length n1) := V.out.cell 5
              have cV_6 : wc.cell? ⟨w.heap.size + 1, 6, none⟩ = some (.slice A2 x.items.length n2) := V.out.cell 6
              have cV_7 : wc.cell? ⟨w.heap.size + 1, 7, none⟩ = some (.slice A3 x.rest.length n3) := V.out.cell 7
              have cS_0 : wc.cell? ⟨gS, 0, none⟩ = some (.slice At ts.length ct) := S.out.cell 0
              go_wp2_with fail
              clear cV_0 cV_1 cV_2 cV_3 cV_4 cV_5 cV_6 cV_7 cS_0
              ((with_reducible refine (HRATk.out _ _ HT.out.typs0' (HV.out.on hw) ((HP.out.below hw).mono (hw).size)).mono ?_); rintro e wd93 ⟨zk, zj, zr, rfl, hza, hb94⟩)
              replace V := Lib.hid (V.out.below hb94 V.out.here)
              replace S := Lib.hid (S.out.below hb94 S.out.here)
              replace X := Lib.hid (X.out.below hb94 X.out.here)
              replace HT := Lib.hid (HT.out.on hb94)
              replace Y := Lib.hid (Y.out.on hb94)
              replace hw := hw.trans (hb94.mono hw.size)
              clear hb94
              obtain ⟨Z1, f1, Z2, f2, Z3, f3, rfl, rfl, rfl, -, -, -⟩ := hza.forms
              have Z := Lib.hid (Kept.rd (P := fun w B => ValAt w B y (.slice Z1 y.keys.length f1) (.slice Z2 y.items.length f2) (.slice Z3 y.rest.length f3)) hza (Nat.le_refl _) (fun _ hk => hza.keep hk (Nat.le_refl _)))
              clear hza
              go_upto_region 9 with fail
              have hb95 := below_al (Below.refl wd93.heap.size wd93) (Nat.le_refl _) (.cells #[.int .i64 y.kind, .bool y.bool, .int .i64 y.num, .string ⟨y.str.toArray⟩, .int .i64 y.id, .slice Z1 y.keys.length f1, .slice Z2 y.items.length f2, .slice Z3 y.rest.length f3] 28)
              have ZB := Has.made wd93 28 #[.int .i64 y.kind, .bool y.bool, .int .i64 y.num, .string ⟨y.str.toArray⟩, .int .i64 y.id, .slice Z1 y.keys.length f1, .slice Z2 y.items.length f2, .slice Z3 y.rest.length f3]
              have hl97 := V.out.here
              have hl98 := S.out.here
              have hl99 := X.out.here
              have hl100 := HT.out.le
              have hl101 := Y.out.le
              have hl102 := Z.out.le
              have hl103 := hw.size
              replace V := Lib.hid (V.out.below hb95 V.out.here)
              replace S := Lib.hid (S.out.below hb95 S.out.here)
              replace X := Lib.hid (X.out.below hb95 X.out.here)
              replace HT := Lib.hid (HT.out.on hb95)
              replace Y := Lib.hid (Y.out.on hb95)
              replace Z := Lib.hid (Z.out.on hb95)
              replace hw := hw.trans (hb95.mono hw.size)
              replace ZB := Lib.hid ZB
              clear hb95
              generalize (wd93.alloc (.cells #[.int .i64 y.kind, .bool y.bool, .int .i64 y.num, .string ⟨y.str.toArray⟩, .int .i64 y.id, .slice Z1 y.keys.length f1, .slice Z2 y.items.length f2, .slice Z3 y.rest.length f3] 28)) = wd104 at *
              generalize wd93.heap.size = g96 at *
              have cX_0 : wd104.cell? ⟨gX, 0, none⟩ = some (.int .i64 y.kind) := X.out.cell 0
              have cX_1 : wd104.cell? ⟨gX, 1, none⟩ = some (.bool y.bool) := X.out.cell 1
              have cX_2 : wd104.cell? ⟨gX, 2, none⟩ = some (.int .i64 y.num) := X.out.cell 2
              have cX_3 : wd104.cell? ⟨gX, 3, none⟩ = some (.string ⟨y.str.toArray⟩) := X.out.cell 3
              have cX_4 : wd104.cell? ⟨gX, 4, none⟩ = some (.int .i64 y.id) := X.out.cell 4
              have cX_5 : wd104.cell? ⟨gX, 5, none⟩ = some (.slice Y1 y.keys.length e1) := X.out.cell 5
              have cX_6 : wd104.cell? ⟨gX, 6, none⟩ = some (.slice Y2 y.items.length e2) := X.out.cell 6
              have cX_7 : wd104.cell? ⟨gX, 7, none⟩ = some (.slice Y3 y.rest.length e3) := X.out.cell 7
              have cZB_0 : wd104.cell? ⟨g96, 0, none⟩ = some (.int .i64 y.kind) := ZB.out.cell 0
              have cZB_1 : wd104.cell? ⟨g96, 1, none⟩ = some (.bool y.bool) := ZB.out.cell 1
              have cZB_2 : wd104.cell? ⟨g96, 2, none⟩ = some (.int .i64 y.num) := ZB.out.cell 2
              have cZB_3 : wd104.cell? ⟨g96, 3, none⟩ = some (.string ⟨y.str.toArray⟩) := ZB.out.cell 3
              have cZB_4 : wd104.cell? ⟨g96, 4, none⟩ = some (.int .i64 y.id) := ZB.out.cell 4
              have cZB_5 : wd104.cell? ⟨g96, 5, none⟩ = some (.slice Z1 y.keys.length f1) := ZB.out.cell 5
              have cZB_6 : wd104.cell? ⟨g96, 6, none⟩ = some (.slice Z2 y.items.length f2) := ZB.out.cell 6
              have cZB_7 : wd104.cell? ⟨g96, 7, none⟩ = some (.slice Z3 y.rest.length f3) := ZB.out.cell 7
              go_wp2_with fail
              clear cX_0 cX_1 cX_2 cX_3 cX_4 cX_5 cX_6 cX_7 cZB_0 cZB_1 cZB_2 cZB_3 cZB_4 cZB_5 cZB_6 cZB_7
              ((with_reducible refine (requal_any y y _ _ _ _ _ _ _ (Y.out.now.mono Y.out.le) (Z.out.now.mono Z.out.le)).mono ?_); rintro e wd105 ⟨rfl, hb106⟩)
              replace V := Lib.hid (V.out.below hb106 V.out.here)
              replace S := Lib.hid (S.out.below hb106 S.out.here)
              replace X := Lib.hid (X.out.below hb106 X.out.here)
              replace ZB := Lib.hid (ZB.out.below hb106 ZB.out.here)
              replace HT := Lib.hid (HT.out.on hb106)
              replace Y := Lib.hid (Y.out.on hb106)
              replace Z := Lib.hid (Z.out.on hb106)
              replace hw := hw.trans (hb106.mono hw.size)
              clear hb106
              rw [HSAME.out]
              go_wp2_with fail
              go_roundw
              case rel => exact ⟨k + 1, by omega, by go_num, V.out, S.out, HT.out, hw⟩
              case measure => simp [intOf]; omega
          · obtain rfl : k = ts.length + 1 := by omega
            go_wp2_with fail
            go_ret
            exact ⟨rfl, hw⟩

namespace fr_ValueAt
set_option maxRecDepth 100000 in
theorem lifted (os : Os) (started : os.Started) (H : Type) (enc : TypeId × Value → H) :
    ReturnsInHanded {} Try.checked os 7 .any (Rows.valueAtSpec.pre6 enc Try.prog Try.f7 Rows.valueAtRow.domain false) (Rows.valueAtSpec.post enc Try.prog Try.f7 false true false false) := by
  refine returnsInHanded_of_change_sized (C := Try.checked) own_knob started (by kernel_rfl) Try.func7
    (ChangeSpec.witness6 (enc := enc) (C := Try.checked) false ⟨#[], #[.agg #[.slice none 0 0], .agg #[.int .i64 0, .bool false, .int .i64 0, .string ByteArray.empty, .int .i64 0, .slice none 0 0, .slice none 0 0, .slice none 0 0], .slice none 0 0], []⟩ 8 (by kernel_rfl) (by kernel_rfl) (by kernel_rfl) (by kernel_rfl)) ?_
  intro W base args ds gs before hval0 hW hcnd hsz0 _
  have hsz : (DataW.weightsEach Try.prog (Try.f7.params.toList ++ Rows.valueAtSpec.plain.varTypes Try.prog) (ds ++ gs)).all (· ≤ reachBytes) = true := hsz0
  have hval : ∀ (j : Nat) t v, Try.f7.params[j]? = some t → args[j]? = some v → Value.okWide Try.prog W .any base t v := hval0
  have hW' := hW
  have hlt : ∀ p ∈ before, p.block < W.heap.size := fun p hp => hW.lt p hp
  obtain ⟨p, q, hA0, hV, rfl, hfz, hnd⟩ := hW
  have hA : DataW.TrodAll enc Try.prog W 0 (fun _ => true) true Try.f7.params.toList args.toList ds p := hA0
  have hA2 := hA
  rw [Try.params7] at hA hval hsz
  obtain ⟨v0, vs0, d0, ds0, p0, q0, hargs, rfl, hpq, h0, r0⟩ := trodAll_cons hA
  obtain ⟨v1, vs1, d1, ds1, p1, q1, rfl, rfl, rfl, h1, r1⟩ := trodAll_cons r0
  obtain ⟨v2, vs2, d2, ds2, p2, q2, rfl, rfl, rfl, h2, r2⟩ := trodAll_cons r1
  obtain ⟨rfl, rfl, rfl⟩ := trodAll_nil r2
  obtain rfl : args = #[v0, v1, v2] := by cases args; simp_all
  obtain ⟨rfl, rfl⟩ := trodVars_none hV
  obtain ⟨a0, n0, rfl, m0, u0⟩ := open_draft (hval 0 24 v0 rfl rfl) h0 (sz_of_each hsz (j := 0) rfl (by simp))
  obtain ⟨a1, k1, i1, e1, rfl, u1⟩ := open_val (hval 1 28 v1 rfl rfl) h1 (sz_of_each hsz (j := 1) rfl (by simp))
  obtain ⟨a2, m2, u2, w2⟩ := open_ints_rd Try.underlying47 Try.underlying3 (by kernel_rfl) (hval 2 47 v2 rfl rfl) h2
  clear hA0 hval0
  refine (walk_ValueAt a0 n0 m0 a1 k1 i1 e1 v2 a2 m2 u2 W u0 u1 w2).mono fun e W' ⟨he, bel⟩ => ?_
  subst he
  exact ⟨_, rfl, _, _, _, [], _, [], hW', trodAll_mk1 (shut_bool Try.underlying4 _), trodAll_below laid_out bel _ _ _ _ (by kernel_rfl) hA2 (fun x hx => hlt x (by simpa using hx)), rfl, bel.frame _, fun h => by cases h⟩
theorem proved : Rows.ValueAtSaid :=
  OpenClaim.holds_of_wide 7 Try.f7 rfl rfl rfl rfl rfl rfl rfl ⟨rfl, rfl, rfl, rfl, rfl⟩ rfl rfl rfl rfl rfl (by kernel_rfl) Try.func7 (by kernel_rfl)
    (of_decide_eq_true (by kernel_rfl)) (by unfold Func.isWrapper; first | (rw [if_pos (by decide +kernel)]; kernel_rfl) | (rw [if_neg (by decide +kernel)]; exact ⟨rfl, rfl⟩))
    (fun os started H enc _ => lifted os started H enc)
#print axioms proved
end fr_ValueAt

end Go.Proofs.Ytjcoeolconelmaa

/- What schema.ids computes: IDs ascend, names differ and are names. The state behind an operation of a region that draws, laid out. No condition. -/
import Derived.Test.YtlamhkffnlgofaaGreatDoorHAE
import Derived.Test.YtlamhkffnlgofaaGreatDoorFitsD
import Derived.Test.YtlamhkffnlgofaaGreatDoorHAA
set_option maxHeartbeats 1600000
namespace Go.Proofs.YtlamhkffnlgofaaGreatDoor
open Go.ChangeShapes Go.WideShapes Go.ChangeAt Go.RowKit
def idsG : List Raw → Option Int → List (List UInt8) → Bool
 | [], _, _ => true
 | r :: l, p, S => freeB r.1 && (ltP p r.1 && (!S.contains r.2 && (nameB r.2 && idsG l (some r.1) (S ++ [r.2]))))
def idsB (l : List Raw) : Bool := idsG l none [] && decide (l.length ≤ 16)
theorem idsG_at (l : List Raw) (k : Nat) (h : k < l.length) (S : List (List UInt8)) (p : Option Int) :
  idsG (l.drop k) p S = (freeB l[k].1 && (ltP p l[k].1 && (!S.contains l[k].2 && (nameB l[k].2 && idsG (l.drop (k+1)) (some l[k].1) (S ++ [l[k].2]))))) := by
 rw [List.drop_eq_getElem_cons h, idsG]
theorem names_succ (l : List Raw) (k : Nat) (h : k < l.length) : (l.take k).map Prod.snd ++ [l[k].2] = (l.take (k+1)).map Prod.snd := by
 rw [List.take_succ_eq_append_getElem h, List.map_append]; rfl
theorem free_lo (a : Int) (h : a < 1) : freeB a = false := by unfold freeB; simp; omega
theorem free_hi (a : Int) (h : 1000 < a) : freeB a = false := by unfold freeB; simp; omega
theorem free_ok (a : Int) (h1 : 1 ≤ a) (h2 : a ≤ 1000) : freeB a = true := by unfold freeB; simp; omega
set_option maxRecDepth 100000 in
theorem sids_any (l : List Raw) (va vn : Value) (w : World) (hl : l.length ≤ 6000000000000) (hri : ∀ r ∈ l, RawIn r) (h1 : Rd w w.heap.size 1 va l.length (l.map fun r => .int .i64 r.1)) (h2 : Rd w w.heap.size 1 vn l.length (l.map fun r => .string ⟨r.2.toArray⟩)) :
  Calls Tryz.prog 146 #[va, vn] w fun e w' => e = .returned (.bool (idsB l)) ∧ Below w.heap.size w w' := by
 obtain ⟨A, c, rfl, hca⟩ := h1.form
 obtain ⟨B, d, rfl, hcb⟩ := h2.form
 have H1 := Lib.hid h1
 have H2 := Lib.hid h2
 have hmm := @run_makeMap Tryz.prog
 have HRI := Lib.hid hri
 clear h1 h2 hri
 go_enter Tryz.func146, Tryz.ntmps146
 go_wp2_with fail
 clear hmm
 go_loopw [11] (fun i wr => ∃ k : Nat, k ≤ l.length ∧ i = .int .i64 k ∧ SetAt wr w.heap.size k ((l.take k).map Prod.snd) ∧ idsG l none [] = idsG (l.drop k) (prevOf l k) ((l.take k).map Prod.snd) ∧ Below w.heap.size w wr) (fun i _ => l.length - (intOf i).toNat)
 case atStart => exact ⟨0, by omega, rfl, SetAt.made w, by simp [prevOf], (Below.refl _ _).alloc (Nat.le_refl _) _⟩
 case round =>
  obtain ⟨k, hk, rfl, hset, hid, hb⟩ := hrel
  by_cases hlt : k < l.length
  ·
   obtain ⟨b1, o1, rfl, hb1, hc1⟩ := (H1.out.below hb).at_ (by omega)
   obtain ⟨b2, o2, rfl, hb2, hc2⟩ := (H2.out.below hb).at_ (by omega)
   have x1 := hc1 k (.int .i64 l[k].1) (by simp [hlt])
   have x2 := hc2 k (.string ⟨l[k].2.toArray⟩) (by simp [hlt])
   rw [idsG_at l k hlt] at hid
   have hsl := (HRI.out _ (List.getElem_mem hlt)).2
   obtain ⟨a, haq⟩ : ∃ a, l[k].1 = a := ⟨_, rfl⟩
   obtain ⟨s, hsq⟩ : ∃ s, l[k].2 = s := ⟨_, rfl⟩
   rw [haq] at x1 hid
   rw [hsq] at x2 hid hsl
   have hi1 : (k : Int) < l.length := by omega
   by_cases hk0 : k = 0
   ·
    have hp : ltP (prevOf l k) a = true := by simp [prevOf, ltP, hk0]
    have hkd : decide (0 < (k : Int)) = false := decide_eq_false (by omega)
    have hkd2 : (k : Int) ≤ 0 := by omega
    rw [hp, Bool.true_and] at hid
    clear hc1 hc2 hp hk0
    have hlook := hset.look s (by have := (HRI.out _ (List.getElem_mem hlt)).2; rw [hsq] at this; simp only [maxLen]; omega)
    by_cases ha1 : a < 1
    ·
     have Hno : Hid (idsB l = false) := by
      show _ = _
      unfold idsB; rw [hid, free_lo a ha1]; simp
     clear hid hlook hset
     go_wp2_with fail
     go_ret
     exact ⟨ret_bool Hno.out.symm, hb⟩
    by_cases ha2 : 1000 < a
    ·
     have Hno : Hid (idsB l = false) := by
      show _ = _
      unfold idsB; rw [hid, free_hi a ha2]; simp
     clear hid hlook hset
     go_wp2_with fail
     go_ret
     exact ⟨ret_bool Hno.out.symm, hb⟩
    rw [free_ok a (by omega) (by omega), Bool.true_and] at hid
    have ha3 : 1 ≤ a ∧ a ≤ 1000 := by omega
    clear ha1 ha2
    skip
    cases hc : ((l.take k).map Prod.snd).contains s with
    | true =>
     have Hno : Hid (idsB l = false) := by
      show _ = _
      unfold idsB; rw [hid, hc]; simp
     rw [hc] at hlook
     clear hid hset hc
     go_wp2_with fail
     go_ret
     exact ⟨ret_bool Hno.out.symm, hb⟩
    | false =>
     rw [hc] at hlook hid
     rw [Bool.not_false, Bool.true_and] at hid
     have hname := fun W => isname_any s W
     cases hn : nameB s with
     | false =>
      have Hno : Hid (idsB l = false) := by
       show _ = _
       unfold idsB; rw [hid, hn]; simp
      rw [hn] at hname
      have HN := Lib.hid hname
      clear hid hset hc hname hn
      go_wp2_with fail
      refine (HN.out _).mono ?_
      rintro e w2 ⟨rfl, rfl⟩
      go_wp2_with fail
      go_ret
      exact ⟨ret_bool Hno.out.symm, hb⟩
     | true =>
      rw [hn] at hname hid
      rw [Bool.true_and] at hid
      have HN := Lib.hid hname
      have Hid2 := Lib.hid hid
      have HSet := Lib.hid hset
      clear hid hset hc hname hn
      go_wp2_with fail
      refine (HN.out _).mono ?_
      rintro e w2 ⟨rfl, rfl⟩
      go_wp2_with (at_mapUpdate; refine wpList_put_set rfl _ _ _ rfl w.heap.size k _ rfl HSet.out (by unfold maxLen; omega) s rfl rfl (by unfold maxLen; omega) ?_; intro w3 hset3 hg3)
      have hb3 := hb.grown hg3 hb.size (fun j hj => by cases hj; exact Nat.le_refl _)
      have HS3 := Lib.hid hset3
      have HB3 := Lib.hid hb3
      clear hset3 hg3 hb3 hlook
      go_wp2_with fail
      go_roundw
      case rel => exact ⟨k + 1, by omega, by go_num, by have h := HS3.out; rw [← hsq, names_succ l (k) hlt] at h; exact h, by rw [Hid2.out, ← hsq, names_succ l (k) hlt, prevOf_succ l (k) hlt, haq], HB3.out⟩
      case measure => simp [intOf]; omega
   obtain ⟨j, rfl⟩ : ∃ j, k = j + 1 := ⟨k - 1, by omega⟩
   have x0 := hc1 j (.int .i64 l[j].1) (by simp [show j < l.length by omega])
   rw [prevOf_succ l j (by omega)] at hid
   have hw2 : ((j : Int) + 1).toNat = j + 1 := by omega
   have hw3 : (j : Int) + 1 - 1 = j := by omega
   have hi2 : (j : Int) < l.length := by omega
   generalize l[j].1 = q at *
   clear hc1 hc2 hk0
   have hlook := hset.look s (by have := (HRI.out _ (List.getElem_mem hlt)).2; rw [hsq] at this; simp only [maxLen]; omega)
   by_cases ha1 : a < 1
   ·
    have Hno : Hid (idsB l = false) := by
     show _ = _
     unfold idsB; rw [hid, free_lo a ha1]; simp
    clear hid hlook hset
    go_wp2_with fail
    go_ret
    exact ⟨ret_bool Hno.out.symm, hb⟩
   by_cases ha2 : 1000 < a
   ·
    have Hno : Hid (idsB l = false) := by
     show _ = _
     unfold idsB; rw [hid, free_hi a ha2]; simp
    clear hid hlook hset
    go_wp2_with fail
    go_ret
    exact ⟨ret_bool Hno.out.symm, hb⟩
   rw [free_ok a (by omega) (by omega), Bool.true_and] at hid
   have ha3 : 1 ≤ a ∧ a ≤ 1000 := by omega
   clear ha1 ha2
   by_cases hle : a ≤ q
   ·
    have Hno : Hid (idsB l = false) := by
     show _ = _
     unfold idsB; rw [hid, show ltP (some q) a = false by simp [ltP]; omega]; simp
    clear hid hlook hset
    go_wp2_with fail
    go_ret
    exact ⟨ret_bool Hno.out.symm, hb⟩
   rw [show ltP (some q) a = true by simp [ltP]; omega, Bool.true_and] at hid
   have hle2 : q < a := by omega
   clear hle
   cases hc : ((l.take (j+1)).map Prod.snd).contains s with
   | true =>
    have Hno : Hid (idsB l = false) := by
     show _ = _
     unfold idsB; rw [hid, hc]; simp
    rw [hc] at hlook
    clear hid hset hc
    go_wp2_with fail
    go_ret
    exact ⟨ret_bool Hno.out.symm, hb⟩
   | false =>
    rw [hc] at hlook hid
    rw [Bool.not_false, Bool.true_and] at hid
    have hname := fun W => isname_any s W
    cases hn : nameB s with
    | false =>
     have Hno : Hid (idsB l = false) := by
      show _ = _
      unfold idsB; rw [hid, hn]; simp
     rw [hn] at hname
     have HN := Lib.hid hname
     clear hid hset hc hname hn
     go_wp2_with fail
     refine (HN.out _).mono ?_
     rintro e w2 ⟨rfl, rfl⟩
     go_wp2_with fail
     go_ret
     exact ⟨ret_bool Hno.out.symm, hb⟩
    | true =>
     rw [hn] at hname hid
     rw [Bool.true_and] at hid
     have HN := Lib.hid hname
     have Hid2 := Lib.hid hid
     have HSet := Lib.hid hset
     clear hid hset hc hname hn
     go_wp2_with fail
     refine (HN.out _).mono ?_
     rintro e w2 ⟨rfl, rfl⟩
     go_wp2_with (at_mapUpdate; refine wpList_put_set rfl _ _ _ rfl w.heap.size (j+1) _ rfl HSet.out (by unfold maxLen; omega) s rfl rfl (by unfold maxLen; omega) ?_; intro w3 hset3 hg3)
     have hb3 := hb.grown hg3 hb.size (fun j hj => by cases hj; exact Nat.le_refl _)
     have HS3 := Lib.hid hset3
     have HB3 := Lib.hid hb3
     clear hset3 hg3 hb3 hlook
     go_wp2_with fail
     go_roundw
     case rel => exact ⟨(j+1) + 1, by omega, by go_num, by have h := HS3.out; rw [← hsq, names_succ l ((j+1)) hlt] at h; exact h, by rw [Hid2.out, ← hsq, names_succ l ((j+1)) hlt, prevOf_succ l ((j+1)) hlt, haq], HB3.out⟩
     case measure => simp [intOf]; omega
  have hke : k = l.length := by omega
  rw [List.drop_eq_nil_of_le (by omega)] at hid
  have Hid2 := Lib.hid hid
  clear hid hset
  go_wp2_with fail
  go_ret
  exact ⟨ret_bool (by unfold idsB; rw [Hid2.out]; simp [idsG]; omega), hb⟩
end Go.Proofs.YtlamhkffnlgofaaGreatDoor
namespace Go.Proofs.YtlamhkffnlgofaaGreatDoor
open Go.ChangeShapes Go.WideShapes Go.ChangeAt Go.RowKit
theorem put_laws2 : (∀ (a : Act) (v : Value), a.put none v = a) ∧ (∀ (ts : Array Value) (ds : List _) (i : Nat) (v : Value), Act.put ⟨ts, ds⟩ (some i) v = ⟨ts.setIfInBounds i v, ds⟩) ∧
  (∀ (l : List Value) (i : Nat) (v : Value), l.toArray.setIfInBounds i v = (l.set i v).toArray) ∧ (∀ (x : Value) (l : List Value) (v : Value), (x :: l).set 0 v = v :: l) ∧ (∀ (x : Value) (l : List Value) (i : Nat) (v : Value), (x :: l).set (i + 1) v = x :: l.set i v) ∧
  (∀ (l : List Oper) (i : Nat) (h : i < l.toArray.size), l.toArray[i]'h = l[i]'(by simpa using h)) ∧ (∀ (x : Oper) (l : List Oper) (h : 0 < (x :: l).length), (x :: l)[0]'h = x) ∧ (∀ (x : Oper) (l : List Oper) (i : Nat) (h : i + 1 < (x :: l).length), (x :: l)[i + 1]'h = l[i]'(by simpa using h)) :=
 ⟨fun _ _ => rfl, fun _ _ _ _ => rfl, fun _ _ _ => by simp, fun _ _ _ => rfl, fun _ _ _ _ => rfl, fun _ _ _ => rfl, fun _ _ _ => rfl, fun _ _ _ _ => rfl⟩
section
variable {P : Program} {md : Region.Mode} {ops : Array Oper} {Q : Exit → Act → World → Prop} {S : World → Prop} {fuel : Nat} {listed : Array Bool} {a : Act} {w : World} {oi : Oper}
theorem tk (i : Nat) {v : Value} {a2 : Act} (r : wpAnyH P md ops Q S fuel (listed.setIfInBounds i true) a2 w) (hi : ops[i]? = some oi := by rfl) (y : ∀ w, S w → (execOp a.eval oi).run P w = .ok (.value v) w := by (intro w hS; (try dsimp only at hS); go_simp; (first | done | with_reducible rfl)))
  (h1 : Region.noSelect ops = true := by kernel_rfl) (h2 : Region.free md ops listed i = true := by kernel_rfl) (h3 : (Region.ready md ops listed).contains i = true := by kernel_rfl)
  (h4 : ∀ c a w, Q (.panic c) (a.put oi.dst v) w → Q (.panic c) a w := by exact fun _ _ _ h => h) (h5 : Region.wanted oi (yielded ops a.tmps) = true := by rfl) (h6 : S w := by assumption) (e : a.put oi.dst v = a2 := by simp only [put_laws2]; exact rfl) : wpAnyH P md ops Q S (fuel + 1) listed a w :=
 wpAnyH_take hi h1 h2 h3 h4 (.inl ⟨h5, y⟩) h6 (e ▸ r)
theorem tks (i : Nat) (r : wpAnyH P md ops Q S fuel (listed.setIfInBounds i true) (a.put oi.dst undef) w) (hi : ops[i]? = some oi := by rfl)
  (h1 : Region.noSelect ops = true := by kernel_rfl) (h2 : Region.free md ops listed i = true := by kernel_rfl) (h3 : (Region.ready md ops listed).contains i = true := by kernel_rfl)
  (h4 : ∀ c a w, Q (.panic c) (a.put oi.dst undef) w → Q (.panic c) a w := by exact fun _ _ _ h => h) (h5 : Region.wanted oi (yielded ops a.tmps) = false := by rfl) (h6 : S w := by assumption) : wpAnyH P md ops Q S (fuel + 1) listed a w :=
 wpAnyH_take hi h1 h2 h3 h4 (.inr ⟨h5, rfl⟩) h6 r
theorem rd1 (i : Nat) {o : Oper} (h : ∀ K' : Act → World → Prop, Shut (∀ a w, S w → (S w → wpAnyH P md ops Q S fuel (listed.setIfInBounds i true) a w) → K' a w) → if Region.wanted o (yielded ops a.tmps) = true then Oper.wp P o a w K' Q else K' (a.put o.dst undef) w) (hr : Region.ready md ops listed = [i] := by kernel_rfl) (ho : ops[i]? = some o := by rfl) : wpAnyH P md ops Q S (fuel + 1) listed a w :=
 wpAnyH_ready hr (by simp) (AllReadyH.cons ho h AllReadyH.nil)
end
end Go.Proofs.YtlamhkffnlgofaaGreatDoor

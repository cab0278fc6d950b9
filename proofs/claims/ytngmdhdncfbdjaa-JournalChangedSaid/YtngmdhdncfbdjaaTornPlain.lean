/- Plain laws of frames: cut off, changed, followed by something. No condition. -/
import Derived.Test.YtngmdhdncfbdjaaDigUnframe
namespace Go.Proofs.Ytngmdhdncfbdjaa
open Go.ChangeShapes Go.WideShapes Go.ChangeAt Go.RowKit

theorem be4_inj {a b : Nat} (ha : W32 a) (hb : W32 b) (h : be4 a = be4 b) : a = b := by
  have h1 := (be4_iff a ha (UInt8.ofNat (b / 16777216)) (UInt8.ofNat (b / 65536)) (UInt8.ofNat (b / 256)) (UInt8.ofNat b)).1 h
  have h2 := (be4_iff b hb (UInt8.ofNat (b / 16777216)) (UInt8.ofNat (b / 65536)) (UInt8.ofNat (b / 256)) (UInt8.ofNat b)).1 rfl
  rw [h1, ← h2]

/-- what Unframe makes of a length, four bytes, a content and a rest -/
theorem unframe_parts (n : Nat) (hn : n ≤ 65535) (q c rest : List UInt8) (hq : q.length = 4) (hc : c.length = n) :
    unframe (putF 9 n ++ q ++ c ++ rest) = if be4 (crc c) = q then (c, (putF 9 n).length + 4 + n, 0) else ([], 0, 17) := by
  have hg : getF 0 0 (putF 9 n ++ q ++ c ++ rest) = (n, (putF 9 n).length, 0) := by
    rw [List.append_assoc, List.append_assoc]
    exact put_get0 n (by unfold U64; omega) _
  have hb : body (putF 9 n ++ q ++ c ++ rest) (putF 9 n).length n = c := by
    unfold body
    have e : (putF 9 n).length + 4 + n = (putF 9 n ++ q ++ c).length := by simp; omega
    rw [e, List.take_left]
    have e2 : (putF 9 n).length + 4 = (putF 9 n ++ q).length := by simp; omega
    rw [e2, List.drop_left]
  have hh : ((putF 9 n ++ q ++ c ++ rest).take ((putF 9 n).length + 4)).drop (putF 9 n).length = q := by
    have e2 : (putF 9 n).length + 4 = (putF 9 n ++ q).length := by simp; omega
    rw [e2, List.append_assoc (putF 9 n ++ q), List.take_left, List.drop_left]
  unfold unframe
  simp only [hg, hb, hh]
  rw [if_neg (by omega), if_neg (by simp), if_neg (by omega), if_neg (by simp; omega)]

/-- a frame is restored, whatever follows -/
theorem unframe_frame (l rest : List UInt8) (h : l.length ≤ 65535) : unframe ((frame l).1 ++ rest) = (l, (frame l).1.length, 0) := by
  have e : (frame l).1 = putF 9 l.length ++ be4 (crc l) ++ l := by rw [frame, if_neg (by omega)]
  rw [e, unframe_parts l.length h (be4 (crc l)) l rest rfl rfl, if_pos rfl]
  simp [be4_len]; omega

/-- a frame that is cut off is incomplete -/
theorem unframe_cut (l : List UInt8) (h : l.length ≤ 65535) (c : Nat) (hc : c < (frame l).1.length) : unframe ((frame l).1.take c) = ([], 0, 10) := by
  have e : (frame l).1 = putF 9 l.length ++ (be4 (crc l) ++ l) := by rw [frame, if_neg (by omega), List.append_assoc]
  rw [e] at hc ⊢
  have hu : U64 l.length := by unfold U64; omega
  have hl : (be4 (crc l) ++ l).length = 4 + l.length := by simp [be4_len]
  generalize be4 (crc l) ++ l = r at *
  by_cases h1 : c < (putF 9 l.length).length
  · have hg := put_prefix0 l.length c hu h1
    rw [List.take_append_of_le_length (by omega)]
    unfold unframe
    simp only [hg]
    rw [if_neg (by omega), if_pos (by simp)]
  · have hg : getF 0 0 ((putF 9 l.length ++ r).take c) = (l.length, (putF 9 l.length).length, 0) := by
      obtain ⟨j, rfl⟩ : ∃ j, c = (putF 9 l.length).length + j := ⟨c - (putF 9 l.length).length, by omega⟩
      rw [List.take_length_add_append]
      exact put_get0 l.length hu _
    unfold unframe
    simp only [hg]
    rw [List.length_append] at hc
    rw [if_neg (by omega), if_neg (by simp), if_neg (by omega), if_pos (by rw [List.length_take, List.length_append]; omega)]

/-- a frame in which a byte behind the length is changed is torn -/
theorem unframe_set (l : List UInt8) (h : l.length ≤ 65535) (p : Nat) (hp1 : (putF 9 l.length).length ≤ p) (hp2 : p < (frame l).1.length) (x : UInt8) (hx : (frame l).1[p]? ≠ some x) :
    (unframe ((frame l).1.set p x)).2.2 = 17 := by
  have e : (frame l).1 = putF 9 l.length ++ be4 (crc l) ++ l := by rw [frame, if_neg (by omega)]
  rw [e] at hp2 hx ⊢
  have hb := be4_len (crc l)
  by_cases h4 : p < (putF 9 l.length).length + 4
  · rw [List.set_append_left _ _ (by rw [List.length_append]; omega), List.set_append_right _ _ hp1]
    have := unframe_parts l.length h ((be4 (crc l)).set (p - (putF 9 l.length).length) x) l [] (by simp [hb]) rfl
    rw [List.append_nil] at this
    rw [this, if_neg]
    intro h5
    rw [List.getElem?_append_left (by rw [List.length_append]; omega), List.getElem?_append_right hp1, h5, List.getElem?_set_self (by omega)] at hx
    exact hx rfl
  · rw [List.set_append_right _ _ (by rw [List.length_append]; omega), List.length_append, hb]
    rw [List.getElem?_append_right (by rw [List.length_append]; omega), List.length_append, hb] at hx
    rw [List.length_append, List.length_append, hb] at hp2
    have hj : p - ((putF 9 l.length).length + 4) < l.length := by omega
    generalize p - ((putF 9 l.length).length + 4) = j at *
    have := unframe_parts l.length h (be4 (crc l)) (l.set j x) [] hb (by simp)
    rw [List.append_nil] at this
    rw [this, if_neg]
    intro h5
    have h6 := be4_inj (crc_w32 _) (crc_w32 _) h5
    have e1 : l = l.take j ++ ([l[j]] ++ l.drop (j+1)) := by
      rw [List.singleton_append, ← List.drop_eq_getElem_cons hj, List.take_append_drop]
    have e2 : l.set j x = l.take j ++ ([x] ++ l.drop (j+1)) := by
      rw [List.set_eq_take_append_cons_drop, if_pos hj]; rfl
    rw [e2] at h6
    have h7 : crc (l.take j ++ ([x] ++ l.drop (j+1))) = crc (l.take j ++ ([l[j]] ++ l.drop (j+1))) := by rw [h6, ← e1]
    have h8 := crc_burst _ _ _ _ (by simp) (by simp) h7
    injection h8 with h8
    rw [List.getElem?_eq_getElem hj, h8] at hx
    exact hx rfl
end Go.Proofs.Ytngmdhdncfbdjaa

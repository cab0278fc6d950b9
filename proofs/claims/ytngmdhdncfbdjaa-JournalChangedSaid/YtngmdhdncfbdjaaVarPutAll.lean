/- What PutAll computes, for the seats whose code has no GetAll. No condition. -/
import Derived.Test.YtngmdhdncfbdjaaVarP1
namespace Go.Proofs.Ytngmdhdncfbdjaa
open Go.ChangeShapes Go.WideShapes Go.ChangeAt Go.RowKit

def V64 (n : Nat) : Value := .int .u64 (n : Int)
def putAll (ns : List Nat) : List UInt8 := ns.flatMap (putF 9)
theorem putAll_len (ns : List Nat) : (putAll ns).length ≤ 10 * ns.length := by
  induction ns with
  | nil => simp [putAll]
  | cons n r ih =>
    have := putF_len 9 n
    simp only [putAll, List.flatMap_cons, List.length_append, List.length_cons] at *
    omega
theorem putAll_take (ns : List Nat) (k : Nat) (h : k < ns.length) : putAll (ns.take (k+1)) = putAll (ns.take k) ++ putF 9 ns[k] := by
  unfold putAll
  rw [List.take_succ_eq_append_getElem h, List.flatMap_append]
  simp only [List.flatMap_cons, List.flatMap_nil, List.append_nil]
theorem v64_get (ns : List Nat) (k : Nat) (h : k < ns.length) : (ns.map V64)[k]? = some (.int .u64 (ns[k] : Int)) := by
  simp [h, V64]

set_option maxRecDepth 100000 in
set_option maxHeartbeats 400000 in
theorem putall_any (ns : List Nat) (hns : ∀ n ∈ ns, U64 n) (hlen : ns.length ≤ 1000) (v : Value) (w : World) (hr : Rd w w.heap.size 1 v ns.length (ns.map V64)) :
    Calls Try.prog 34 #[v] w fun e w' => e = .returned (.string ⟨(putAll ns).toArray⟩) ∧ Below w.heap.size w w' := by
  obtain ⟨A, c, rfl, hc⟩ := hr.form
  have Hns := Lib.hid hns
  clear hns
  go_enter Try.func34, Try.ntmps34
  go_wp2
  go_loopw [3, 8] (fun o i wr => ∃ k m : Nat, k ≤ ns.length ∧ i = .int .i64 k ∧ wr.ownsRow w.heap.size 5 1 o m ((putAll (ns.take k)).map B8) ∧ m ≤ 10 * k ∧ Below w.heap.size w wr)
     (fun _ i _ => ns.length - (intOf i).toNat)
  case atStart => exact ⟨0, 0, by omega, rfl, World.ownsRow_nil _ _ _ _, by omega, Below.refl _ _⟩
  case round =>
    obtain ⟨k, m, hk, rfl, hown, hm, hb⟩ := hrel
    by_cases hlt : k < ns.length
    · obtain ⟨b, o, rfl, hbb, hcell⟩ := (hr.below hb).at_ (by omega)
      have hc1 : wr.cell? ⟨b, o + k, none⟩ = some (.int .u64 (ns[k] : Int)) := hcell k _ (v64_get ns k hlt)
      have hcell' := Lib.hid hcell
      have hu : U64 ns[k] := Hns.out _ (List.getElem_mem hlt)
      generalize hx : ns[k] = x at *
      have Hx := Lib.hid hx
      clear hcell hx
      have hpl := putF_len 9 x
      go_wp2_with first
        | (go_at_call 48; refine (put x hu _).mono ?_; rintro e w1 ⟨rfl, hb1⟩)
        | (at_builtin
           refine wpList_append_str rfl _ _ _ _ rfl w.heap.size 5 Try.underlying43 Try.underlying9 info_u8 _ m _ rfl (own_below hown hb1) _ rfl (by omega) (by have := hb.size; have := hb1.size; omega) ?_
           intro v' w2 hown2 hb2)
      go_roundw
      case rel =>
        refine ⟨k + 1, m + (putF 9 x).length, by omega, by go_num, ?_, by omega, hb.trans ((hb1.mono hb.size).trans hb2)⟩
        rw [putAll_take ns k hlt, Hx.out]
        exact hown2
      case measure => simp [intOf]; omega
    · have hk2 : k = ns.length := by omega
      have hcv := conv_owned 43 9 5 Try.underlying43 Try.underlying5 Try.underlying9 hown
      clear hown hk2
      go_wp2
      go_ret
      exact ⟨by rw [List.take_of_length_le (by omega)]; rfl, hb⟩

end Go.Proofs.Ytngmdhdncfbdjaa

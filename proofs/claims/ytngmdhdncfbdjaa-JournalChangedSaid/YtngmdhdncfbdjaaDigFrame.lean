/- What Frame, crc and the reference's Frame compute. No condition. -/
import Derived.Test.YtngmdhdncfbdjaaDigCrc
import Derived.Test.YtngmdhdncfbdjaaVarRPut
import Derived.Test.YtngmdhdncfbdjaaVarP1
import Derived.Deep.RegionWith
namespace Go.Proofs.Ytngmdhdncfbdjaa
open Go.ChangeShapes Go.WideShapes Go.ChangeAt Go.RowKit

def be4 (c : Nat) : List UInt8 := [UInt8.ofNat (c / 16777216), UInt8.ofNat (c / 65536), UInt8.ofNat (c / 256), UInt8.ofNat c]
def frame (l : List UInt8) : List UInt8 × Nat := if 65535 < l.length then ([], 3) else (putF 9 l.length ++ be4 (crc l) ++ l, 0)

theorem ofNat_mod (n : Nat) : UInt8.ofNat (n % 256) = UInt8.ofNat n := UInt8.toNat_inj.1 (by simp)
theorem be4_conv (c : Nat) (hc : W32 c) (W : World) (b len cap : Nat) (hlen : len = 4)
    (h0 : W.cell? ⟨b, 0, none⟩ = some (.int .u8 ((c : Int) / 16777216))) (h1 : W.cell? ⟨b, 1, none⟩ = some (.int .u8 ((c : Int) / 65536 % 256))) (h2 : W.cell? ⟨b, 2, none⟩ = some (.int .u8 ((c : Int) / 256 % 256))) (h3 : W.cell? ⟨b, 3, none⟩ = some (.int .u8 ((c : Int) % 256))) :
    (convert 43 9 (.slice (some ⟨b, 0, none⟩) len cap)).run Try.prog W = .ok (.string ⟨(be4 c).toArray⟩) W := by
  subst hlen
  unfold W32 at hc
  have := run_convert_bytes_arg (P := Try.prog) W 43 5 Try.underlying43 Try.underlying5 b 0 4 cap [(c : Int) / 16777216, (c : Int) / 65536 % 256, (c : Int) / 256 % 256, (c : Int) % 256] rfl (fun i hi => by
    match i, hi with
    | 0, _ => simpa using h0
    | 1, _ => simpa using h1
    | 2, _ => simpa using h2
    | 3, _ => simpa using h3) 9 Try.underlying9
  rw [this]
  congr 2
  unfold strOfNums be4
  congr 2
  simp only [List.map_cons, List.map_nil]
  have e0 : ((c : Int) / 16777216).toNat = c / 16777216 := by omega
  have e1 : ((c : Int) / 65536 % 256).toNat = c / 65536 % 256 := by omega
  have e2 : ((c : Int) / 256 % 256).toNat = c / 256 % 256 := by omega
  have e3 : ((c : Int) % 256).toNat = c % 256 := by omega
  rw [e0, e1, e2, e3, ofNat_mod, ofNat_mod, ofNat_mod]

set_option maxRecDepth 100000 in
set_option maxHeartbeats 400000 in
theorem rcrc4_any (c : Nat) (hc : W32 c) (w : World) :
    Calls Try.prog 50 #[.int .u32 c] w fun e w' => e = .returned (.string ⟨(be4 c).toArray⟩) ∧ Below w.heap.size w w' := by
  have hcv := be4_conv c hc
  have HC := Lib.hid hc
  have hc24 : (c : Int) / 16777216 < 256 := by unfold W32 at hc; omega
  clear hc
  go_enter Try.func50, Try.ntmps50
  go_wp2
  go_ret
  exact ⟨rfl, (Below.refl _ _).alloc (Nat.le_refl _) _⟩

theorem ret_str_err (a b : ByteArray) (h : a = b) (e : Int) : Ending.returned (.tuple #[.string a, .int .i64 e]) = .returned (.tuple #[.string b, .int .i64 e]) := by rw [h]
theorem be4_len (c : Nat) : (be4 c).length = 4 := rfl
theorem len_u64 {l : List UInt8} (h : l.length ≤ 65535) : U64 l.length := by unfold U64; omega

set_option maxRecDepth 100000 in
set_option maxHeartbeats 400000 in
theorem dframe_any (l : List UInt8) (hlen : l.length ≤ 9223372036854775807) (w : World) :
    Calls Try.prog 46 #[.string ⟨l.toArray⟩] w fun e w' => e = .returned (.tuple #[.string ⟨(frame l).1.toArray⟩, .int .i64 (frame l).2]) ∧ Below w.heap.size w w' := by
  by_cases h : 65535 < (l.length : Int)
  · go_enter Try.func46, Try.ntmps46
    go_wp2
    go_ret2
    exact ⟨by rw [frame, if_pos (by omega)]; rfl, Below.refl _ _⟩
  · have hw := crc_w32 l
    have hcv := be4_conv (crc l) hw
    have hcrc := fun W => dcrc_any l hlen W
    have hput := fun W => put l.length (len_u64 (by omega)) W
    have hpl := putF_len 9 l.length
    have hfr : Hid (frame l = (putF 9 l.length ++ be4 (crc l) ++ l, 0)) := by show _ = _; rw [frame, if_neg (by omega)]
    have hbl := be4_len (crc l)
    generalize crc l = c at *
    generalize be4 c = q at *
    generalize putF 9 l.length = p at *
    have HW := Lib.hid hw
    have HC := Lib.hid hcrc
    have HP := Lib.hid hput
    have hc24 : (c : Int) / 16777216 < 256 := by unfold W32 at hw; omega
    have hql : q.length ≤ 4 := by omega
    clear hw hcrc hput hbl
    go_enter Try.func46, Try.ntmps46
    go_wp2_with fail
    refine (HC.out w).mono ?_
    rintro e w1 ⟨rfl, rfl⟩
    go_wp2_with fail
    have hw0 : IntKind.u64.wrap (l.length : Int) = (l.length : Int) := by rw [IntKind.wrap_u64]; omega
    have hw1 : IntKind.u8.wrap ((c : Int) / 16777216) = (c : Int) / 16777216 := by rw [IntKind.wrap_u8']; omega
    have hw2 : IntKind.u8.wrap ((c : Int) / 65536) = (c : Int) / 65536 % 256 := IntKind.wrap_u8' _
    have hw3 : IntKind.u8.wrap ((c : Int) / 256) = (c : Int) / 256 % 256 := IntKind.wrap_u8' _
    have hw4 : IntKind.u8.wrap (c : Int) = (c : Int) % 256 := IntKind.wrap_u8' _
    go_region_with (go_at_call 48; refine (HP.out _).mono ?_; rintro e w2 ⟨rfl, hb2⟩; obtain ⟨hbc, hbf⟩ := bcell hb2)
    all_goals
      go_wp2_with fail
      go_ret2
      refine ⟨?_, ?_⟩
      · rw [hfr.out]
        exact ret_str_err _ _ (by rw [str_app, str_app]) _
      · first
          | exact ((Below.refl w.heap.size w).drew.trans hb2).alloc hb2.size _
          | exact (((Below.refl w.heap.size w).drew).alloc (Nat.le_refl _) _).trans (hb2.mono (by simp))
end Go.Proofs.Ytngmdhdncfbdjaa

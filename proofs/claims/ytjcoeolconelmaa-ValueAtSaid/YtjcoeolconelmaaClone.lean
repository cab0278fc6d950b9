/- What slices.Clone computes for values and for unknown parts. No condition. -/
import Derived.Test.YtjcoeolconelmaaFresh
namespace Go.Proofs.Ytjcoeolconelmaa
open Go.ChangeShapes Go.WideShapes Go.ChangeAt Go.RowKit

theorem info_val : (Try.prog.info? 28).map (fun i => (i.zero, i.size, i.bytes)) = some (some (.agg #[.int .i64 0, .bool false, .int .i64 0, .string ByteArray.empty, .int .i64 0, .slice none 0 0, .slice none 0 0, .slice none 0 0]), 8, 120) := by kernel_rfl
theorem info_raw : (Try.prog.info? 78).map (fun i => (i.zero, i.size, i.bytes)) = some (some (.agg #[.int .i64 0, .string ByteArray.empty]), 2, 24) := by kernel_rfl
/-- a new row, made by the call, that reads as these rows of cells; or nil -/
def ClonedV (w : World) (e : TypeId) (size n : Nat) (xs : List Value) (r : Ending) (w' : World) : Prop :=
  ∃ v', r = .returned v' ∧ w'.ownsRow w.heap.size e size v' n xs ∧ Below w.heap.size w w'
set_option maxRecDepth 100000 in
set_option maxHeartbeats 800000 in
theorem clonev_any (n : Nat) (A : Option Addr) (cap : Nat) (xs : List Value) (w : World) (hn : n ≤ 1000000) (hA : A = none → n = 0) (hl : xs.length = n * 8) (hr : ∀ a, A = some a → ∀ j u, xs[j]? = some u → w.cell? (a.add j) = some u) (hlt : ∀ a, A = some a → 0 < n → a.block < w.heap.size) (h1 : ∀ u ∈ xs, u.oneCell' = true) :
    Calls Try.prog 84 #[.slice A n cap] w (ClonedV w 28 8 n xs) := by
  have heq := fun (W : World) => Lib.run_eql_slice_nil (P := Try.prog) W 25 28 A n cap 0 0 Try.underlying25
  cases A with
  | none =>
    obtain rfl := hA rfl
    simp only [Option.isNone_none] at heq
    have hx : xs = [] := by simpa using hl
    subst hx
    clear hr hlt h1
    go_enter Try.func84, Try.ntmps84
    go_wp2_with fail
    go_ret
    exact ⟨_, rfl, ⟨rfl, .inl ⟨rfl, rfl⟩⟩, Below.refl _ _⟩
  | some a =>
    simp only [Option.isNone_some] at heq
    have hcell : ∀ j u, xs[j]? = some u → (w.alloc (.cells #[] 28)).cell? (a.add j) = some u := by
      intro j u hu
      have h := hr a rfl j u hu
      have hb := World.block_lt_of_cell? _ _ h
      rw [← h]
      exact World.cell?_of_block (Below.heap_alloc w _ _ hb)
    have HR := Lib.hid hcell
    have hown : (w.alloc (.cells #[] 28)).ownsRow w.heap.size 28 8 (.slice (some ⟨w.heap.size, 0, none⟩) 0 0) 0 [] :=
      ⟨rfl, .inr ⟨w.heap.size, 0, #[], rfl, Nat.le_refl _, heap_alloc_new w _, Nat.le_refl _, by simp [maxLen], rfl, rfl⟩⟩
    have h01 := (Below.refl w.heap.size w).alloc (Nat.le_refl _) (.cells #[] 28)
    have Hown := Lib.hid hown
    have H1 := Lib.hid h1
    have HL := Lib.hid hl
    obtain ⟨i0, hi, hz0, hz1, hz2⟩ := info_parts info_val
    have Hi := Lib.hid hi
    have Hz0 := Lib.hid hz0
    have Hz1 := Lib.hid hz1
    have Hz2 := Lib.hid hz2
    clear hr hcell hown h1 hl hlt hA hi hz0 hz1 hz2
    go_enter Try.func84, Try.ntmps84
    go_wp2_with (at_builtin; refine wpList_append_own _ rfl _ _ _ rfl w.heap.size 28 i0 _ 8 120 Try.underlying25 Hi.out Hz0.out Hz1.out Hz2.out rfl (by decide) _ 0 [] rfl Hown.out a n cap xs rfl HL.out HR.out H1.out (by simp only [maxLen]; omega) (by omega) (by simp) ?_; intro v' w2 hown2 hgrow _)
    rw [Nat.zero_add, List.nil_append] at hown2
    have h02 : Below w.heap.size w w2 := h01.grown hgrow (by simp) (fun k hk => (Hown.out.lt k hk).1)
    have HO := Lib.hid hown2
    clear hown2 hgrow
    go_wp2_with fail
    go_ret
    exact ⟨_, rfl, HO.out, h02⟩
set_option maxRecDepth 100000 in
set_option maxHeartbeats 800000 in
theorem cloner_any (n : Nat) (A : Option Addr) (cap : Nat) (xs : List Value) (w : World) (hn : n ≤ 1000000) (hA : A = none → n = 0) (hl : xs.length = n * 2) (hr : ∀ a, A = some a → ∀ j u, xs[j]? = some u → w.cell? (a.add j) = some u) (hlt : ∀ a, A = some a → 0 < n → a.block < w.heap.size) (h1 : ∀ u ∈ xs, u.oneCell' = true) :
    Calls Try.prog 83 #[.slice A n cap] w (ClonedV w 78 2 n xs) := by
  have heq := fun (W : World) => Lib.run_eql_slice_nil (P := Try.prog) W 26 78 A n cap 0 0 Try.underlying26
  cases A with
  | none =>
    obtain rfl := hA rfl
    simp only [Option.isNone_none] at heq
    have hx : xs = [] := by simpa using hl
    subst hx
    clear hr hlt h1
    go_enter Try.func83, Try.ntmps83
    go_wp2_with fail
    go_ret
    exact ⟨_, rfl, ⟨rfl, .inl ⟨rfl, rfl⟩⟩, Below.refl _ _⟩
  | some a =>
    simp only [Option.isNone_some] at heq
    have hcell : ∀ j u, xs[j]? = some u → (w.alloc (.cells #[] 78)).cell? (a.add j) = some u := by
      intro j u hu
      have h := hr a rfl j u hu
      have hb := World.block_lt_of_cell? _ _ h
      rw [← h]
      exact World.cell?_of_block (Below.heap_alloc w _ _ hb)
    have HR := Lib.hid hcell
    have hown : (w.alloc (.cells #[] 78)).ownsRow w.heap.size 78 2 (.slice (some ⟨w.heap.size, 0, none⟩) 0 0) 0 [] :=
      ⟨rfl, .inr ⟨w.heap.size, 0, #[], rfl, Nat.le_refl _, heap_alloc_new w _, Nat.le_refl _, by simp [maxLen], rfl, rfl⟩⟩
    have h01 := (Below.refl w.heap.size w).alloc (Nat.le_refl _) (.cells #[] 78)
    have Hown := Lib.hid hown
    have H1 := Lib.hid h1
    have HL := Lib.hid hl
    obtain ⟨i0, hi, hz0, hz1, hz2⟩ := info_parts info_raw
    have Hi := Lib.hid hi
    have Hz0 := Lib.hid hz0
    have Hz1 := Lib.hid hz1
    have Hz2 := Lib.hid hz2
    clear hr hcell hown h1 hl hlt hA hi hz0 hz1 hz2
    go_enter Try.func83, Try.ntmps83
    go_wp2_with (at_builtin; refine wpList_append_own _ rfl _ _ _ rfl w.heap.size 78 i0 _ 2 24 Try.underlying26 Hi.out Hz0.out Hz1.out Hz2.out rfl (by decide) _ 0 [] rfl Hown.out a n cap xs rfl HL.out HR.out H1.out (by simp only [maxLen]; omega) (by omega) (by simp) ?_; intro v' w2 hown2 hgrow _)
    rw [Nat.zero_add, List.nil_append] at hown2
    have h02 : Below w.heap.size w w2 := h01.grown hgrow (by simp) (fun k hk => (Hown.out.lt k hk).1)
    have HO := Lib.hid hown2
    clear hown2 hgrow
    go_wp2_with fail
    go_ret
    exact ⟨_, rfl, HO.out, h02⟩
end Go.Proofs.Ytjcoeolconelmaa

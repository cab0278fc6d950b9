/- What slices.Clone computes for integers. No condition. -/
import Derived.Test.YtjcoeolconelmaaClone
namespace Go.Proofs.Ytjcoeolconelmaa
open Go.ChangeShapes Go.WideShapes Go.ChangeAt Go.RowKit

theorem info_intC : (Try.prog.info? 3).map (fun i => (i.zero, i.size, i.bytes)) = some (some (.int .i64 0), 1, 8) := by kernel_rfl
set_option maxRecDepth 100000 in
set_option maxHeartbeats 800000 in
theorem clonei_any (n : Nat) (A : Option Addr) (cap : Nat) (xs : List Value) (w : World) (hn : n ≤ 1000000) (hA : A = none → n = 0) (hl : xs.length = n * 1) (hr : ∀ a, A = some a → ∀ j u, xs[j]? = some u → w.cell? (a.add j) = some u) (hlt : ∀ a, A = some a → 0 < n → a.block < w.heap.size) (h1 : ∀ u ∈ xs, u.oneCell' = true) :
    Calls Try.prog 26 #[.slice A n cap] w (ClonedV w 3 1 n xs) := by
  have heq := fun (W : World) => Lib.run_eql_slice_nil (P := Try.prog) W 47 3 A n cap 0 0 Try.underlying47
  cases A with
  | none =>
    obtain rfl := hA rfl
    simp only [Option.isNone_none] at heq
    have hx : xs = [] := by simpa using hl
    subst hx
    clear hr hlt h1
    go_enter Try.func26, Try.ntmps26
    go_wp2_with fail
    go_ret
    exact ⟨_, rfl, ⟨rfl, .inl ⟨rfl, rfl⟩⟩, Below.refl _ _⟩
  | some a =>
    simp only [Option.isNone_some] at heq
    have hcell : ∀ j u, xs[j]? = some u → (w.alloc (.cells #[] 3)).cell? (a.add j) = some u := by
      intro j u hu
      have h := hr a rfl j u hu
      have hb := World.block_lt_of_cell? _ _ h
      rw [← h]
      exact World.cell?_of_block (Below.heap_alloc w _ _ hb)
    have HR := Lib.hid hcell
    have hown : (w.alloc (.cells #[] 3)).ownsRow w.heap.size 3 1 (.slice (some ⟨w.heap.size, 0, none⟩) 0 0) 0 [] :=
      ⟨rfl, .inr ⟨w.heap.size, 0, #[], rfl, Nat.le_refl _, heap_alloc_new w _, Nat.le_refl _, by simp [maxLen], rfl, rfl⟩⟩
    have h01 := (Below.refl w.heap.size w).alloc (Nat.le_refl _) (.cells #[] 3)
    have Hown := Lib.hid hown
    have H1 := Lib.hid h1
    have HL := Lib.hid hl
    obtain ⟨i0, hi, hz0, hz1, hz2⟩ := info_parts info_intC
    have Hi := Lib.hid hi
    have Hz0 := Lib.hid hz0
    have Hz1 := Lib.hid hz1
    have Hz2 := Lib.hid hz2
    clear hr hcell hown h1 hl hlt hA hi hz0 hz1 hz2
    go_enter Try.func26, Try.ntmps26
    go_wp2_with (at_builtin; refine wpList_append_own _ rfl _ _ _ rfl w.heap.size 3 i0 _ 1 8 Try.underlying47 Hi.out Hz0.out Hz1.out Hz2.out rfl (by decide) _ 0 [] rfl Hown.out a n cap xs rfl HL.out HR.out H1.out (by simp only [maxLen]; omega) (by omega) (by simp) ?_; intro v' w2 hown2 hgrow _)
    rw [Nat.zero_add, List.nil_append] at hown2
    have h02 : Below w.heap.size w w2 := h01.grown hgrow (by simp) (fun k hk => (Hown.out.lt k hk).1)
    have HO := Lib.hid hown2
    clear hown2 hgrow
    go_wp2_with fail
    go_ret
    exact ⟨_, rfl, HO.out, h02⟩
end Go.Proofs.Ytjcoeolconelmaa

/-
  No cell of these rows narrows 'for every input' (looked for: loops, veiled, ifaces, maps, wideKeys, modest, calm, conditions, laid).
  DERIVED. THE GIVEN ROWS OF THIS SEAT. 8 by the template 'for every input the law returns true; each argument reads behind the call as it read before'; 0 by the template 'total and deterministic' (their statements: YtapakjdghgbdlaaTotals.lean).
  GIVEN WITH THE SEED: the statements are not yours to turn. If you find one false, say at which input.
  Laid BY PROGRAM, IN A SANDBOX (cutbox-rows.mjs): the forced cells as the released guide's own fill.sh prints them over the translation 1c0aba1361e1143b… (all of the seat's roots in one cut). By AI agents, Wed Nov 11 2026. No macro, syntax, notation, axiom, sorry.
-/
import Derived.Test.YtapakjdghgbdlaaChecked
import GoSem.Claim
import GoSem.ClaimJoined
import GoSem.ClaimMapViews
import Derived.JoinedTies
import Derived.KernelRfl
namespace Go.Proofs.Ytapakjdghgbdlaa
/- THE CELL 'sum', in the pinned program and in every row, IS THE sha256 OF THE DUMP (.gsa) THAT YtapakjdghgbdlaaProg.lean LOADS. Nothing in Lean hashes anything: it is a label: what it is worth is what the hold of that sum in a sandbox is worth. -/
noncomputable def Try.pinned : Pinned := { name := "ytapakjdghgbdlaa", sum := "1c0aba1361e1143b4a06c5d81d97095d8a4245460fc92103391b45cdf7155c66", checked := Try.checked }
namespace Rows
def none {H : Type} : Left H := { results := [], args := [] }

/-- 'sheavelaw03.VarintGet': WHATEVER THE INPUT: true; the input reads as it did. -/
def varintGetSpec : ChangeSpec := { name := "varintGet", fn := fun _ => fun
  | [d] => { results := [.lit (.bool true)], args := [d] }
  | _ => none }
def varintGetRow : OpenClaim := { program := "ytapakjdghgbdlaa", sum := "1c0aba1361e1143b4a06c5d81d97095d8a4245460fc92103391b45cdf7155c66", func := "sheave/sheavelaw03.VarintGet", spec := "varintGet", apart := false }
def VarintGetSaid : Prop := varintGetRow.holds Try.pinned (OpenSpec.ofChange varintGetSpec)

/-- ITS FALSE NEIGHBOUR: 'it returns false'. Refute it at one input. -/
def varintGetWrong : ChangeSpec := { name := "varintGet", fn := fun _ => fun
  | [d] => { results := [.lit (.bool false)], args := [d] }
  | _ => none }
def VarintGetWrongFalsely : Prop := varintGetRow.holds Try.pinned (OpenSpec.ofChange varintGetWrong)

/-- 'sheavelaw03.VarintZigzag': WHATEVER THE INPUT: true; the input reads as it did. -/
def varintZigzagSpec : ChangeSpec := { name := "varintZigzag", fn := fun _ => fun
  | [d1, d2] => { results := [.lit (.bool true)], args := [d1, d2] }
  | _ => none }
def varintZigzagRow : OpenClaim := { program := "ytapakjdghgbdlaa", sum := "1c0aba1361e1143b4a06c5d81d97095d8a4245460fc92103391b45cdf7155c66", func := "sheave/sheavelaw03.VarintZigzag", spec := "varintZigzag", apart := false }
def VarintZigzagSaid : Prop := varintZigzagRow.holds Try.pinned (OpenSpec.ofChange varintZigzagSpec)

/-- ITS FALSE NEIGHBOUR: 'it returns false'. Refute it at one input. -/
def varintZigzagWrong : ChangeSpec := { name := "varintZigzag", fn := fun _ => fun
  | [d1, d2] => { results := [.lit (.bool false)], args := [d1, d2] }
  | _ => none }
def VarintZigzagWrongFalsely : Prop := varintZigzagRow.holds Try.pinned (OpenSpec.ofChange varintZigzagWrong)

/-- 'sheavelaw03.VarintSmall': WHATEVER THE INPUT: true; the input reads as it did. -/
def varintSmallSpec : ChangeSpec := { name := "varintSmall", fn := fun _ => fun
  | [d1, d2] => { results := [.lit (.bool true)], args := [d1, d2] }
  | _ => none }
def varintSmallRow : OpenClaim := { program := "ytapakjdghgbdlaa", sum := "1c0aba1361e1143b4a06c5d81d97095d8a4245460fc92103391b45cdf7155c66", func := "sheave/sheavelaw03.VarintSmall", spec := "varintSmall", apart := false }
def VarintSmallSaid : Prop := varintSmallRow.holds Try.pinned (OpenSpec.ofChange varintSmallSpec)

/-- ITS FALSE NEIGHBOUR: 'it returns false'. Refute it at one input. -/
def varintSmallWrong : ChangeSpec := { name := "varintSmall", fn := fun _ => fun
  | [d1, d2] => { results := [.lit (.bool false)], args := [d1, d2] }
  | _ => none }
def VarintSmallWrongFalsely : Prop := varintSmallRow.holds Try.pinned (OpenSpec.ofChange varintSmallWrong)

/-- 'sheavelaw03.VarintBig': WHATEVER THE INPUT: true; the input reads as it did. -/
def varintBigSpec : ChangeSpec := { name := "varintBig", fn := fun _ => fun
  | [d1, d2] => { results := [.lit (.bool true)], args := [d1, d2] }
  | _ => none }
def varintBigRow : OpenClaim := { program := "ytapakjdghgbdlaa", sum := "1c0aba1361e1143b4a06c5d81d97095d8a4245460fc92103391b45cdf7155c66", func := "sheave/sheavelaw03.VarintBig", spec := "varintBig", apart := false }
def VarintBigSaid : Prop := varintBigRow.holds Try.pinned (OpenSpec.ofChange varintBigSpec)

/-- ITS FALSE NEIGHBOUR: 'it returns false'. Refute it at one input. -/
def varintBigWrong : ChangeSpec := { name := "varintBig", fn := fun _ => fun
  | [d1, d2] => { results := [.lit (.bool false)], args := [d1, d2] }
  | _ => none }
def VarintBigWrongFalsely : Prop := varintBigRow.holds Try.pinned (OpenSpec.ofChange varintBigWrong)

/-- 'sheavelaw03.VarintFromBig': WHATEVER THE INPUT: true; the input reads as it did. -/
def varintFromBigSpec : ChangeSpec := { name := "varintFromBig", fn := fun _ => fun
  | [d] => { results := [.lit (.bool true)], args := [d] }
  | _ => none }
def varintFromBigRow : OpenClaim := { program := "ytapakjdghgbdlaa", sum := "1c0aba1361e1143b4a06c5d81d97095d8a4245460fc92103391b45cdf7155c66", func := "sheave/sheavelaw03.VarintFromBig", spec := "varintFromBig", apart := false }
def VarintFromBigSaid : Prop := varintFromBigRow.holds Try.pinned (OpenSpec.ofChange varintFromBigSpec)

/-- ITS FALSE NEIGHBOUR: 'it returns false'. Refute it at one input. -/
def varintFromBigWrong : ChangeSpec := { name := "varintFromBig", fn := fun _ => fun
  | [d] => { results := [.lit (.bool false)], args := [d] }
  | _ => none }
def VarintFromBigWrongFalsely : Prop := varintFromBigRow.holds Try.pinned (OpenSpec.ofChange varintFromBigWrong)

/-- 'sheavelaw03.VarintPut': WHATEVER THE INPUT: true; the input reads as it did. -/
def varintPutSpec : ChangeSpec := { name := "varintPut", fn := fun _ => fun
  | [d1, d2] => { results := [.lit (.bool true)], args := [d1, d2] }
  | _ => none }
def varintPutRow : OpenClaim := { program := "ytapakjdghgbdlaa", sum := "1c0aba1361e1143b4a06c5d81d97095d8a4245460fc92103391b45cdf7155c66", func := "sheave/sheavelaw03.VarintPut", spec := "varintPut", apart := false }
def VarintPutSaid : Prop := varintPutRow.holds Try.pinned (OpenSpec.ofChange varintPutSpec)

/-- ITS FALSE NEIGHBOUR: 'it returns false'. Refute it at one input. -/
def varintPutWrong : ChangeSpec := { name := "varintPut", fn := fun _ => fun
  | [d1, d2] => { results := [.lit (.bool false)], args := [d1, d2] }
  | _ => none }
def VarintPutWrongFalsely : Prop := varintPutRow.holds Try.pinned (OpenSpec.ofChange varintPutWrong)

/-- 'sheavelaw03.VarintList': WHATEVER THE INPUT: true; the input reads as it did. -/
def varintListSpec : ChangeSpec := { name := "varintList", fn := fun _ => fun
  | [d] => { results := [.lit (.bool true)], args := [d] }
  | _ => none }
def varintListRow : OpenClaim := { program := "ytapakjdghgbdlaa", sum := "1c0aba1361e1143b4a06c5d81d97095d8a4245460fc92103391b45cdf7155c66", func := "sheave/sheavelaw03.VarintList", spec := "varintList", apart := false }
def VarintListSaid : Prop := varintListRow.holds Try.pinned (OpenSpec.ofChange varintListSpec)

/-- ITS FALSE NEIGHBOUR: 'it returns false'. Refute it at one input. -/
def varintListWrong : ChangeSpec := { name := "varintList", fn := fun _ => fun
  | [d] => { results := [.lit (.bool false)], args := [d] }
  | _ => none }
def VarintListWrongFalsely : Prop := varintListRow.holds Try.pinned (OpenSpec.ofChange varintListWrong)

/-- 'sheavelaw03.VarintString': WHATEVER THE INPUT: true; the input reads as it did. -/
def varintStringSpec : ChangeSpec := { name := "varintString", fn := fun _ => fun
  | [d] => { results := [.lit (.bool true)], args := [d] }
  | _ => none }
def varintStringRow : OpenClaim := { program := "ytapakjdghgbdlaa", sum := "1c0aba1361e1143b4a06c5d81d97095d8a4245460fc92103391b45cdf7155c66", func := "sheave/sheavelaw03.VarintString", spec := "varintString", apart := false }
def VarintStringSaid : Prop := varintStringRow.holds Try.pinned (OpenSpec.ofChange varintStringSpec)

/-- ITS FALSE NEIGHBOUR: 'it returns false'. Refute it at one input. -/
def varintStringWrong : ChangeSpec := { name := "varintString", fn := fun _ => fun
  | [d] => { results := [.lit (.bool false)], args := [d] }
  | _ => none }
def VarintStringWrongFalsely : Prop := varintStringRow.holds Try.pinned (OpenSpec.ofChange varintStringWrong)

/- THE SECOND FORM. 'bulk': how many values and letters a reading holds, each counted each time it is reached (what is shared counts as often as it is met; a slice's spare places count too). A statement '..UptoSaid' is the law's where the arguments, and the package variables that the reading takes, are together of bulk at most 1048576: NARROWER than '..Said'. Prove '..Said' where nothing that the law and all that it calls make is longer than what came in: it says more and counts as full. Else prove '..UptoSaid'. A law counts once. -/
mutual
def uptoBulk {H : Type} : DataW H → Nat
  | .lit (.string bytes) => bytes.length + 1
  | .lit _ => 1
  | .nil => 1
  | .ptr d => uptoBulk d + 1
  | .slice elems spare => uptoBulkAll elems + uptoBulkAll spare + 1
  | .agg parts => uptoBulkAll parts + 1
  | .iface _ d => uptoBulk d + 1
  | .map entries => uptoBulkEntries entries + 1
  | .held _ => 1
def uptoBulkAll {H : Type} : List (DataW H) → Nat
  | [] => 0
  | d :: r => uptoBulk d + uptoBulkAll r
def uptoBulkEntries {H : Type} : List (Lit × DataW H) → Nat
  | [] => 0
  | x :: r => uptoBulkEntry x + uptoBulkEntries r
def uptoBulkEntry {H : Type} : Lit × DataW H → Nat
  | (.string bytes, d) => bytes.length + uptoBulk d + 1
  | (_, d) => uptoBulk d + 1
 end
def uptoSmall : (H : Type) → List (DataW H) → Bool := fun _ ds => decide (uptoBulkAll ds ≤ 1048576)
def OpenSpec.upto (s : _root_.Go.ChangeSpec) : _root_.Go.OpenSpec := { _root_.Go.OpenSpec.ofChange s with cond := some uptoSmall }

/-- 'sheavelaw03.VarintGet', WHERE WHAT IT READS IS OF BULK AT MOST 1048576: true; the input reads as it did. -/
def varintGetUptoRow : OpenClaim := { program := "ytapakjdghgbdlaa", sum := "1c0aba1361e1143b4a06c5d81d97095d8a4245460fc92103391b45cdf7155c66", func := "sheave/sheavelaw03.VarintGet", spec := "varintGet", apart := false, narrowed := true }
def VarintGetUptoSaid : Prop := varintGetUptoRow.holds Try.pinned (OpenSpec.upto varintGetSpec)

/-- 'sheavelaw03.VarintZigzag', WHERE WHAT IT READS IS OF BULK AT MOST 1048576: true; the input reads as it did. -/
def varintZigzagUptoRow : OpenClaim := { program := "ytapakjdghgbdlaa", sum := "1c0aba1361e1143b4a06c5d81d97095d8a4245460fc92103391b45cdf7155c66", func := "sheave/sheavelaw03.VarintZigzag", spec := "varintZigzag", apart := false, narrowed := true }
def VarintZigzagUptoSaid : Prop := varintZigzagUptoRow.holds Try.pinned (OpenSpec.upto varintZigzagSpec)

/-- 'sheavelaw03.VarintSmall', WHERE WHAT IT READS IS OF BULK AT MOST 1048576: true; the input reads as it did. -/
def varintSmallUptoRow : OpenClaim := { program := "ytapakjdghgbdlaa", sum := "1c0aba1361e1143b4a06c5d81d97095d8a4245460fc92103391b45cdf7155c66", func := "sheave/sheavelaw03.VarintSmall", spec := "varintSmall", apart := false, narrowed := true }
def VarintSmallUptoSaid : Prop := varintSmallUptoRow.holds Try.pinned (OpenSpec.upto varintSmallSpec)

/-- 'sheavelaw03.VarintBig', WHERE WHAT IT READS IS OF BULK AT MOST 1048576: true; the input reads as it did. -/
def varintBigUptoRow : OpenClaim := { program := "ytapakjdghgbdlaa", sum := "1c0aba1361e1143b4a06c5d81d97095d8a4245460fc92103391b45cdf7155c66", func := "sheave/sheavelaw03.VarintBig", spec := "varintBig", apart := false, narrowed := true }
def VarintBigUptoSaid : Prop := varintBigUptoRow.holds Try.pinned (OpenSpec.upto varintBigSpec)

/-- 'sheavelaw03.VarintFromBig', WHERE WHAT IT READS IS OF BULK AT MOST 1048576: true; the input reads as it did. -/
def varintFromBigUptoRow : OpenClaim := { program := "ytapakjdghgbdlaa", sum := "1c0aba1361e1143b4a06c5d81d97095d8a4245460fc92103391b45cdf7155c66", func := "sheave/sheavelaw03.VarintFromBig", spec := "varintFromBig", apart := false, narrowed := true }
def VarintFromBigUptoSaid : Prop := varintFromBigUptoRow.holds Try.pinned (OpenSpec.upto varintFromBigSpec)

/-- 'sheavelaw03.VarintPut', WHERE WHAT IT READS IS OF BULK AT MOST 1048576: true; the input reads as it did. -/
def varintPutUptoRow : OpenClaim := { program := "ytapakjdghgbdlaa", sum := "1c0aba1361e1143b4a06c5d81d97095d8a4245460fc92103391b45cdf7155c66", func := "sheave/sheavelaw03.VarintPut", spec := "varintPut", apart := false, narrowed := true }
def VarintPutUptoSaid : Prop := varintPutUptoRow.holds Try.pinned (OpenSpec.upto varintPutSpec)

/-- 'sheavelaw03.VarintList', WHERE WHAT IT READS IS OF BULK AT MOST 1048576: true; the input reads as it did. -/
def varintListUptoRow : OpenClaim := { program := "ytapakjdghgbdlaa", sum := "1c0aba1361e1143b4a06c5d81d97095d8a4245460fc92103391b45cdf7155c66", func := "sheave/sheavelaw03.VarintList", spec := "varintList", apart := false, narrowed := true }
def VarintListUptoSaid : Prop := varintListUptoRow.holds Try.pinned (OpenSpec.upto varintListSpec)

/-- 'sheavelaw03.VarintString', WHERE WHAT IT READS IS OF BULK AT MOST 1048576: true; the input reads as it did. -/
def varintStringUptoRow : OpenClaim := { program := "ytapakjdghgbdlaa", sum := "1c0aba1361e1143b4a06c5d81d97095d8a4245460fc92103391b45cdf7155c66", func := "sheave/sheavelaw03.VarintString", spec := "varintString", apart := false, narrowed := true }
def VarintStringUptoSaid : Prop := varintStringUptoRow.holds Try.pinned (OpenSpec.upto varintStringSpec)

end Rows
end Go.Proofs.Ytapakjdghgbdlaa

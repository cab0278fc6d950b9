/-
  No cell of these rows narrows 'for every input' (looked for: loops, veiled, ifaces, maps, wideKeys, modest, calm, conditions, laid).
  DERIVED. THE GIVEN ROWS OF THIS SEAT. 9 by the template 'for every input the law returns true; each argument reads behind the call as it read before'; 0 by the template 'total and deterministic' (their statements: YtngmdhdncfbdjaaTotals.lean).
  GIVEN WITH THE SEED: the statements are not yours to turn. If you find one false, say at which input.
  Laid BY PROGRAM, IN A SANDBOX (cutbox-rows.mjs): the forced cells as the released guide's own fill.sh prints them over the translation cbabf330ea99b2e0… (all of the seat's roots in one cut). By AI agents, Wed Nov 11 2026. No macro, syntax, notation, axiom, sorry.
-/
import Derived.Test.YtngmdhdncfbdjaaChecked
import GoSem.Claim
import GoSem.ClaimJoined
import GoSem.ClaimMapViews
import Derived.JoinedTies
import Derived.KernelRfl
namespace Go.Proofs.Ytngmdhdncfbdjaa
/- THE CELL 'sum', in the pinned program and in every row, IS THE sha256 OF THE DUMP (.gsa) THAT YtngmdhdncfbdjaaProg.lean LOADS. Nothing in Lean hashes anything: it is a label: what it is worth is what the hold of that sum in a sandbox is worth. -/
noncomputable def Try.pinned : Pinned := { name := "ytngmdhdncfbdjaa", sum := "cbabf330ea99b2e05c47397006e111e9031dc9d3c281d73a25d02176e3ebff71", checked := Try.checked }
namespace Rows
def none {H : Type} : Left H := { results := [], args := [] }

/-- 'sheavelaw52.JournalText': WHATEVER THE INPUT: true; the input reads as it did. -/
def journalTextSpec : ChangeSpec := { name := "journalText", fn := fun _ => fun
  | [d] => { results := [.lit (.bool true)], args := [d] }
  | _ => none }
def journalTextRow : OpenClaim := { program := "ytngmdhdncfbdjaa", sum := "cbabf330ea99b2e05c47397006e111e9031dc9d3c281d73a25d02176e3ebff71", func := "sheave/sheavelaw52.JournalText", spec := "journalText", apart := false }
def JournalTextSaid : Prop := journalTextRow.holds Try.pinned (OpenSpec.ofChange journalTextSpec)

/-- ITS FALSE NEIGHBOUR: 'it returns false'. Refute it at one input. -/
def journalTextWrong : ChangeSpec := { name := "journalText", fn := fun _ => fun
  | [d] => { results := [.lit (.bool false)], args := [d] }
  | _ => none }
def JournalTextWrongFalsely : Prop := journalTextRow.holds Try.pinned (OpenSpec.ofChange journalTextWrong)

/-- 'sheavelaw52.JournalParse': WHATEVER THE INPUT: true; the input reads as it did. -/
def journalParseSpec : ChangeSpec := { name := "journalParse", fn := fun _ => fun
  | [d] => { results := [.lit (.bool true)], args := [d] }
  | _ => none }
def journalParseRow : OpenClaim := { program := "ytngmdhdncfbdjaa", sum := "cbabf330ea99b2e05c47397006e111e9031dc9d3c281d73a25d02176e3ebff71", func := "sheave/sheavelaw52.JournalParse", spec := "journalParse", apart := false }
def JournalParseSaid : Prop := journalParseRow.holds Try.pinned (OpenSpec.ofChange journalParseSpec)

/-- ITS FALSE NEIGHBOUR: 'it returns false'. Refute it at one input. -/
def journalParseWrong : ChangeSpec := { name := "journalParse", fn := fun _ => fun
  | [d] => { results := [.lit (.bool false)], args := [d] }
  | _ => none }
def JournalParseWrongFalsely : Prop := journalParseRow.holds Try.pinned (OpenSpec.ofChange journalParseWrong)

/-- 'sheavelaw52.JournalToken': WHATEVER THE INPUT: true; the input reads as it did. -/
def journalTokenSpec : ChangeSpec := { name := "journalToken", fn := fun _ => fun
  | [d] => { results := [.lit (.bool true)], args := [d] }
  | _ => none }
def journalTokenRow : OpenClaim := { program := "ytngmdhdncfbdjaa", sum := "cbabf330ea99b2e05c47397006e111e9031dc9d3c281d73a25d02176e3ebff71", func := "sheave/sheavelaw52.JournalToken", spec := "journalToken", apart := false }
def JournalTokenSaid : Prop := journalTokenRow.holds Try.pinned (OpenSpec.ofChange journalTokenSpec)

/-- ITS FALSE NEIGHBOUR: 'it returns false'. Refute it at one input. -/
def journalTokenWrong : ChangeSpec := { name := "journalToken", fn := fun _ => fun
  | [d] => { results := [.lit (.bool false)], args := [d] }
  | _ => none }
def JournalTokenWrongFalsely : Prop := journalTokenRow.holds Try.pinned (OpenSpec.ofChange journalTokenWrong)

/-- 'sheavelaw52.JournalCut': WHATEVER THE INPUT: true; the input reads as it did. -/
def journalCutSpec : ChangeSpec := { name := "journalCut", fn := fun _ => fun
  | [d1, d2] => { results := [.lit (.bool true)], args := [d1, d2] }
  | _ => none }
def journalCutRow : OpenClaim := { program := "ytngmdhdncfbdjaa", sum := "cbabf330ea99b2e05c47397006e111e9031dc9d3c281d73a25d02176e3ebff71", func := "sheave/sheavelaw52.JournalCut", spec := "journalCut", apart := false }
def JournalCutSaid : Prop := journalCutRow.holds Try.pinned (OpenSpec.ofChange journalCutSpec)

/-- ITS FALSE NEIGHBOUR: 'it returns false'. Refute it at one input. -/
def journalCutWrong : ChangeSpec := { name := "journalCut", fn := fun _ => fun
  | [d1, d2] => { results := [.lit (.bool false)], args := [d1, d2] }
  | _ => none }
def JournalCutWrongFalsely : Prop := journalCutRow.holds Try.pinned (OpenSpec.ofChange journalCutWrong)

/-- 'sheavelaw52.JournalChanged': WHATEVER THE INPUT: true; the input reads as it did. -/
def journalChangedSpec : ChangeSpec := { name := "journalChanged", fn := fun _ => fun
  | [d1, d2, d3] => { results := [.lit (.bool true)], args := [d1, d2, d3] }
  | _ => none }
def journalChangedRow : OpenClaim := { program := "ytngmdhdncfbdjaa", sum := "cbabf330ea99b2e05c47397006e111e9031dc9d3c281d73a25d02176e3ebff71", func := "sheave/sheavelaw52.JournalChanged", spec := "journalChanged", apart := false }
def JournalChangedSaid : Prop := journalChangedRow.holds Try.pinned (OpenSpec.ofChange journalChangedSpec)

/-- ITS FALSE NEIGHBOUR: 'it returns false'. Refute it at one input. -/
def journalChangedWrong : ChangeSpec := { name := "journalChanged", fn := fun _ => fun
  | [d1, d2, d3] => { results := [.lit (.bool false)], args := [d1, d2, d3] }
  | _ => none }
def JournalChangedWrongFalsely : Prop := journalChangedRow.holds Try.pinned (OpenSpec.ofChange journalChangedWrong)

/-- 'sheavelaw52.JournalFenced': WHATEVER THE INPUT: true; the input reads as it did. -/
def journalFencedSpec : ChangeSpec := { name := "journalFenced", fn := fun _ => fun
  | [d] => { results := [.lit (.bool true)], args := [d] }
  | _ => none }
def journalFencedRow : OpenClaim := { program := "ytngmdhdncfbdjaa", sum := "cbabf330ea99b2e05c47397006e111e9031dc9d3c281d73a25d02176e3ebff71", func := "sheave/sheavelaw52.JournalFenced", spec := "journalFenced", apart := false }
def JournalFencedSaid : Prop := journalFencedRow.holds Try.pinned (OpenSpec.ofChange journalFencedSpec)

/-- ITS FALSE NEIGHBOUR: 'it returns false'. Refute it at one input. -/
def journalFencedWrong : ChangeSpec := { name := "journalFenced", fn := fun _ => fun
  | [d] => { results := [.lit (.bool false)], args := [d] }
  | _ => none }
def JournalFencedWrongFalsely : Prop := journalFencedRow.holds Try.pinned (OpenSpec.ofChange journalFencedWrong)

/-- 'sheavelaw52.JournalAfter': WHATEVER THE INPUT: true; the input reads as it did. -/
def journalAfterSpec : ChangeSpec := { name := "journalAfter", fn := fun _ => fun
  | [d1, d2, d3] => { results := [.lit (.bool true)], args := [d1, d2, d3] }
  | _ => none }
def journalAfterRow : OpenClaim := { program := "ytngmdhdncfbdjaa", sum := "cbabf330ea99b2e05c47397006e111e9031dc9d3c281d73a25d02176e3ebff71", func := "sheave/sheavelaw52.JournalAfter", spec := "journalAfter", apart := false }
def JournalAfterSaid : Prop := journalAfterRow.holds Try.pinned (OpenSpec.ofChange journalAfterSpec)

/-- ITS FALSE NEIGHBOUR: 'it returns false'. Refute it at one input. -/
def journalAfterWrong : ChangeSpec := { name := "journalAfter", fn := fun _ => fun
  | [d1, d2, d3] => { results := [.lit (.bool false)], args := [d1, d2, d3] }
  | _ => none }
def JournalAfterWrongFalsely : Prop := journalAfterRow.holds Try.pinned (OpenSpec.ofChange journalAfterWrong)

/-- 'sheavelaw52.JournalRead': WHATEVER THE INPUT: true; the input reads as it did. -/
def journalReadSpec : ChangeSpec := { name := "journalRead", fn := fun _ => fun
  | [d] => { results := [.lit (.bool true)], args := [d] }
  | _ => none }
def journalReadRow : OpenClaim := { program := "ytngmdhdncfbdjaa", sum := "cbabf330ea99b2e05c47397006e111e9031dc9d3c281d73a25d02176e3ebff71", func := "sheave/sheavelaw52.JournalRead", spec := "journalRead", apart := false }
def JournalReadSaid : Prop := journalReadRow.holds Try.pinned (OpenSpec.ofChange journalReadSpec)

/-- ITS FALSE NEIGHBOUR: 'it returns false'. Refute it at one input. -/
def journalReadWrong : ChangeSpec := { name := "journalRead", fn := fun _ => fun
  | [d] => { results := [.lit (.bool false)], args := [d] }
  | _ => none }
def JournalReadWrongFalsely : Prop := journalReadRow.holds Try.pinned (OpenSpec.ofChange journalReadWrong)

/-- 'sheavelaw52.JournalAppend': WHATEVER THE INPUT: true; the input reads as it did. -/
def journalAppendSpec : ChangeSpec := { name := "journalAppend", fn := fun _ => fun
  | [d1, d2, d3] => { results := [.lit (.bool true)], args := [d1, d2, d3] }
  | _ => none }
def journalAppendRow : OpenClaim := { program := "ytngmdhdncfbdjaa", sum := "cbabf330ea99b2e05c47397006e111e9031dc9d3c281d73a25d02176e3ebff71", func := "sheave/sheavelaw52.JournalAppend", spec := "journalAppend", inPlace := ["internal/abi.NoEscape", "internal/bytealg.MakeNoZero"], apart := false }
def JournalAppendSaid : Prop := journalAppendRow.holds Try.pinned (OpenSpec.ofChange journalAppendSpec)

/-- ITS FALSE NEIGHBOUR: 'it returns false'. Refute it at one input. -/
def journalAppendWrong : ChangeSpec := { name := "journalAppend", fn := fun _ => fun
  | [d1, d2, d3] => { results := [.lit (.bool false)], args := [d1, d2, d3] }
  | _ => none }
def JournalAppendWrongFalsely : Prop := journalAppendRow.holds Try.pinned (OpenSpec.ofChange journalAppendWrong)

/- THE SECOND FORM. 'bulk': how many values and letters a reading holds, each counted each time it is reached (what is shared counts as often as it is met; a slice's spare places count too). A statement '..UptoSaid' is the law's where the arguments, and the package variables that the reading takes, are together of bulk at most 1048576: NARROWER than '..Said'. Prove '..Said' where nothing that the law and all that it calls make is longer than what came in: it says more and counts as full. Else prove '..UptoSaid'. A law counts once. -/
mutual
def uptoBulk {H : Type} : DataW H → Nat
  | .lit (.string bytes) => bytes.length + 1
  | .lit _ => 1
  | .nil => 1
  | .ptr d => uptoBulk d + 1
  | .slice elems spare => uptoBulkAll elems + uptoBulkAll spare + 1
  | .agg parts => uptoBulkAll parts + 1
  | .iface _ d => uptoBulk d + 1
  | .map entries => uptoBulkEntries entries + 1
  | .held _ => 1
def uptoBulkAll {H : Type} : List (DataW H) → Nat
  | [] => 0
  | d :: r => uptoBulk d + uptoBulkAll r
def uptoBulkEntries {H : Type} : List (Lit × DataW H) → Nat
  | [] => 0
  | x :: r => uptoBulkEntry x + uptoBulkEntries r
def uptoBulkEntry {H : Type} : Lit × DataW H → Nat
  | (.string bytes, d) => bytes.length + uptoBulk d + 1
  | (_, d) => uptoBulk d + 1
 end
def uptoSmall : (H : Type) → List (DataW H) → Bool := fun _ ds => decide (uptoBulkAll ds ≤ 1048576)
def OpenSpec.upto (s : _root_.Go.ChangeSpec) : _root_.Go.OpenSpec := { _root_.Go.OpenSpec.ofChange s with cond := some uptoSmall }

/-- 'sheavelaw52.JournalText', WHERE WHAT IT READS IS OF BULK AT MOST 1048576: true; the input reads as it did. -/
def journalTextUptoRow : OpenClaim := { program := "ytngmdhdncfbdjaa", sum := "cbabf330ea99b2e05c47397006e111e9031dc9d3c281d73a25d02176e3ebff71", func := "sheave/sheavelaw52.JournalText", spec := "journalText", apart := false, narrowed := true }
def JournalTextUptoSaid : Prop := journalTextUptoRow.holds Try.pinned (OpenSpec.upto journalTextSpec)

/-- 'sheavelaw52.JournalParse', WHERE WHAT IT READS IS OF BULK AT MOST 1048576: true; the input reads as it did. -/
def journalParseUptoRow : OpenClaim := { program := "ytngmdhdncfbdjaa", sum := "cbabf330ea99b2e05c47397006e111e9031dc9d3c281d73a25d02176e3ebff71", func := "sheave/sheavelaw52.JournalParse", spec := "journalParse", apart := false, narrowed := true }
def JournalParseUptoSaid : Prop := journalParseUptoRow.holds Try.pinned (OpenSpec.upto journalParseSpec)

/-- 'sheavelaw52.JournalToken', WHERE WHAT IT READS IS OF BULK AT MOST 1048576: true; the input reads as it did. -/
def journalTokenUptoRow : OpenClaim := { program := "ytngmdhdncfbdjaa", sum := "cbabf330ea99b2e05c47397006e111e9031dc9d3c281d73a25d02176e3ebff71", func := "sheave/sheavelaw52.JournalToken", spec := "journalToken", apart := false, narrowed := true }
def JournalTokenUptoSaid : Prop := journalTokenUptoRow.holds Try.pinned (OpenSpec.upto journalTokenSpec)

/-- 'sheavelaw52.JournalCut', WHERE WHAT IT READS IS OF BULK AT MOST 1048576: true; the input reads as it did. -/
def journalCutUptoRow : OpenClaim := { program := "ytngmdhdncfbdjaa", sum := "cbabf330ea99b2e05c47397006e111e9031dc9d3c281d73a25d02176e3ebff71", func := "sheave/sheavelaw52.JournalCut", spec := "journalCut", apart := false, narrowed := true }
def JournalCutUptoSaid : Prop := journalCutUptoRow.holds Try.pinned (OpenSpec.upto journalCutSpec)

/-- 'sheavelaw52.JournalChanged', WHERE WHAT IT READS IS OF BULK AT MOST 1048576: true; the input reads as it did. -/
def journalChangedUptoRow : OpenClaim := { program := "ytngmdhdncfbdjaa", sum := "cbabf330ea99b2e05c47397006e111e9031dc9d3c281d73a25d02176e3ebff71", func := "sheave/sheavelaw52.JournalChanged", spec := "journalChanged", apart := false, narrowed := true }
def JournalChangedUptoSaid : Prop := journalChangedUptoRow.holds Try.pinned (OpenSpec.upto journalChangedSpec)

/-- 'sheavelaw52.JournalFenced', WHERE WHAT IT READS IS OF BULK AT MOST 1048576: true; the input reads as it did. -/
def journalFencedUptoRow : OpenClaim := { program := "ytngmdhdncfbdjaa", sum := "cbabf330ea99b2e05c47397006e111e9031dc9d3c281d73a25d02176e3ebff71", func := "sheave/sheavelaw52.JournalFenced", spec := "journalFenced", apart := false, narrowed := true }
def JournalFencedUptoSaid : Prop := journalFencedUptoRow.holds Try.pinned (OpenSpec.upto journalFencedSpec)

/-- 'sheavelaw52.JournalAfter', WHERE WHAT IT READS IS OF BULK AT MOST 1048576: true; the input reads as it did. -/
def journalAfterUptoRow : OpenClaim := { program := "ytngmdhdncfbdjaa", sum := "cbabf330ea99b2e05c47397006e111e9031dc9d3c281d73a25d02176e3ebff71", func := "sheave/sheavelaw52.JournalAfter", spec := "journalAfter", apart := false, narrowed := true }
def JournalAfterUptoSaid : Prop := journalAfterUptoRow.holds Try.pinned (OpenSpec.upto journalAfterSpec)

/-- 'sheavelaw52.JournalRead', WHERE WHAT IT READS IS OF BULK AT MOST 1048576: true; the input reads as it did. -/
def journalReadUptoRow : OpenClaim := { program := "ytngmdhdncfbdjaa", sum := "cbabf330ea99b2e05c47397006e111e9031dc9d3c281d73a25d02176e3ebff71", func := "sheave/sheavelaw52.JournalRead", spec := "journalRead", apart := false, narrowed := true }
def JournalReadUptoSaid : Prop := journalReadUptoRow.holds Try.pinned (OpenSpec.upto journalReadSpec)

/-- 'sheavelaw52.JournalAppend', WHERE WHAT IT READS IS OF BULK AT MOST 1048576: true; the input reads as it did. -/
def journalAppendUptoRow : OpenClaim := { program := "ytngmdhdncfbdjaa", sum := "cbabf330ea99b2e05c47397006e111e9031dc9d3c281d73a25d02176e3ebff71", func := "sheave/sheavelaw52.JournalAppend", spec := "journalAppend", inPlace := ["internal/abi.NoEscape", "internal/bytealg.MakeNoZero"], apart := false, narrowed := true }
def JournalAppendUptoSaid : Prop := journalAppendUptoRow.holds Try.pinned (OpenSpec.upto journalAppendSpec)

end Rows
end Go.Proofs.Ytngmdhdncfbdjaa

/-
  No cell of these rows narrows 'for every input' (looked for: loops, veiled, ifaces, maps, wideKeys, modest, calm, conditions, laid).
  DERIVED. THE GIVEN ROWS OF THIS SEAT. 8 by the template 'for every input the law returns true; each argument reads behind the call as it read before'; 0 by the template 'total and deterministic' (their statements: YtcnpihilbpaljaaTotals.lean).
  GIVEN WITH THE SEED: the statements are not yours to turn. If you find one false, say at which input.
  Laid BY PROGRAM, IN A SANDBOX (cutbox-rows.mjs): the forced cells as the released guide's own fill.sh prints them over the translation 85bbf596e1b1646f… (all of the seat's roots in one cut). By AI agents, Wed Nov 11 2026. No macro, syntax, notation, axiom, sorry.
-/
import Derived.Test.YtcnpihilbpaljaaChecked
import GoSem.Claim
import GoSem.ClaimJoined
import GoSem.ClaimMapViews
import Derived.JoinedTies
import Derived.KernelRfl
namespace Go.Proofs.Ytcnpihilbpaljaa
/- THE CELL 'sum', in the pinned program and in every row, IS THE sha256 OF THE DUMP (.gsa) THAT YtcnpihilbpaljaaProg.lean LOADS. Nothing in Lean hashes anything: it is a label: what it is worth is what the hold of that sum in a sandbox is worth. -/
noncomputable def Try.pinned : Pinned := { name := "ytcnpihilbpaljaa", sum := "85bbf596e1b1646f17fb98df67ee8b459941245f6cb9ff64b36c7363d1ad1327", checked := Try.checked }
namespace Rows
def none {H : Type} : Left H := { results := [], args := [] }

/-- 'sheavelaw04.DigestCrc': WHATEVER THE INPUT: true; the input reads as it did. -/
def digestCrcSpec : ChangeSpec := { name := "digestCrc", fn := fun _ => fun
  | [d1, d2] => { results := [.lit (.bool true)], args := [d1, d2] }
  | _ => none }
def digestCrcRow : OpenClaim := { program := "ytcnpihilbpaljaa", sum := "85bbf596e1b1646f17fb98df67ee8b459941245f6cb9ff64b36c7363d1ad1327", func := "sheave/sheavelaw04.DigestCrc", spec := "digestCrc", apart := false }
def DigestCrcSaid : Prop := digestCrcRow.holds Try.pinned (OpenSpec.ofChange digestCrcSpec)

/-- ITS FALSE NEIGHBOUR: 'it returns false'. Refute it at one input. -/
def digestCrcWrong : ChangeSpec := { name := "digestCrc", fn := fun _ => fun
  | [d1, d2] => { results := [.lit (.bool false)], args := [d1, d2] }
  | _ => none }
def DigestCrcWrongFalsely : Prop := digestCrcRow.holds Try.pinned (OpenSpec.ofChange digestCrcWrong)

/-- 'sheavelaw04.DigestExtend': WHATEVER THE INPUT: true; the input reads as it did. -/
def digestExtendSpec : ChangeSpec := { name := "digestExtend", fn := fun _ => fun
  | [d1, d2] => { results := [.lit (.bool true)], args := [d1, d2] }
  | _ => none }
def digestExtendRow : OpenClaim := { program := "ytcnpihilbpaljaa", sum := "85bbf596e1b1646f17fb98df67ee8b459941245f6cb9ff64b36c7363d1ad1327", func := "sheave/sheavelaw04.DigestExtend", spec := "digestExtend", apart := false }
def DigestExtendSaid : Prop := digestExtendRow.holds Try.pinned (OpenSpec.ofChange digestExtendSpec)

/-- ITS FALSE NEIGHBOUR: 'it returns false'. Refute it at one input. -/
def digestExtendWrong : ChangeSpec := { name := "digestExtend", fn := fun _ => fun
  | [d1, d2] => { results := [.lit (.bool false)], args := [d1, d2] }
  | _ => none }
def DigestExtendWrongFalsely : Prop := digestExtendRow.holds Try.pinned (OpenSpec.ofChange digestExtendWrong)

/-- 'sheavelaw04.DigestBurst': WHATEVER THE INPUT: true; the input reads as it did. -/
def digestBurstSpec : ChangeSpec := { name := "digestBurst", fn := fun _ => fun
  | [d1, d2, d3] => { results := [.lit (.bool true)], args := [d1, d2, d3] }
  | _ => none }
def digestBurstRow : OpenClaim := { program := "ytcnpihilbpaljaa", sum := "85bbf596e1b1646f17fb98df67ee8b459941245f6cb9ff64b36c7363d1ad1327", func := "sheave/sheavelaw04.DigestBurst", spec := "digestBurst", apart := false }
def DigestBurstSaid : Prop := digestBurstRow.holds Try.pinned (OpenSpec.ofChange digestBurstSpec)

/-- ITS FALSE NEIGHBOUR: 'it returns false'. Refute it at one input. -/
def digestBurstWrong : ChangeSpec := { name := "digestBurst", fn := fun _ => fun
  | [d1, d2, d3] => { results := [.lit (.bool false)], args := [d1, d2, d3] }
  | _ => none }
def DigestBurstWrongFalsely : Prop := digestBurstRow.holds Try.pinned (OpenSpec.ofChange digestBurstWrong)

/-- 'sheavelaw04.DigestHash': WHATEVER THE INPUT: true; the input reads as it did. -/
def digestHashSpec : ChangeSpec := { name := "digestHash", fn := fun _ => fun
  | [d] => { results := [.lit (.bool true)], args := [d] }
  | _ => none }
def digestHashRow : OpenClaim := { program := "ytcnpihilbpaljaa", sum := "85bbf596e1b1646f17fb98df67ee8b459941245f6cb9ff64b36c7363d1ad1327", func := "sheave/sheavelaw04.DigestHash", spec := "digestHash", apart := false }
def DigestHashSaid : Prop := digestHashRow.holds Try.pinned (OpenSpec.ofChange digestHashSpec)

/-- ITS FALSE NEIGHBOUR: 'it returns false'. Refute it at one input. -/
def digestHashWrong : ChangeSpec := { name := "digestHash", fn := fun _ => fun
  | [d] => { results := [.lit (.bool false)], args := [d] }
  | _ => none }
def DigestHashWrongFalsely : Prop := digestHashRow.holds Try.pinned (OpenSpec.ofChange digestHashWrong)

/-- 'sheavelaw04.DigestFrames': WHATEVER THE INPUT: true; the input reads as it did. -/
def digestFramesSpec : ChangeSpec := { name := "digestFrames", fn := fun _ => fun
  | [d] => { results := [.lit (.bool true)], args := [d] }
  | _ => none }
def digestFramesRow : OpenClaim := { program := "ytcnpihilbpaljaa", sum := "85bbf596e1b1646f17fb98df67ee8b459941245f6cb9ff64b36c7363d1ad1327", func := "sheave/sheavelaw04.DigestFrames", spec := "digestFrames", apart := false }
def DigestFramesSaid : Prop := digestFramesRow.holds Try.pinned (OpenSpec.ofChange digestFramesSpec)

/-- ITS FALSE NEIGHBOUR: 'it returns false'. Refute it at one input. -/
def digestFramesWrong : ChangeSpec := { name := "digestFrames", fn := fun _ => fun
  | [d] => { results := [.lit (.bool false)], args := [d] }
  | _ => none }
def DigestFramesWrongFalsely : Prop := digestFramesRow.holds Try.pinned (OpenSpec.ofChange digestFramesWrong)

/-- 'sheavelaw04.DigestTorn': WHATEVER THE INPUT: true; the input reads as it did. -/
def digestTornSpec : ChangeSpec := { name := "digestTorn", fn := fun _ => fun
  | [d1, d2] => { results := [.lit (.bool true)], args := [d1, d2] }
  | _ => none }
def digestTornRow : OpenClaim := { program := "ytcnpihilbpaljaa", sum := "85bbf596e1b1646f17fb98df67ee8b459941245f6cb9ff64b36c7363d1ad1327", func := "sheave/sheavelaw04.DigestTorn", spec := "digestTorn", apart := false }
def DigestTornSaid : Prop := digestTornRow.holds Try.pinned (OpenSpec.ofChange digestTornSpec)

/-- ITS FALSE NEIGHBOUR: 'it returns false'. Refute it at one input. -/
def digestTornWrong : ChangeSpec := { name := "digestTorn", fn := fun _ => fun
  | [d1, d2] => { results := [.lit (.bool false)], args := [d1, d2] }
  | _ => none }
def DigestTornWrongFalsely : Prop := digestTornRow.holds Try.pinned (OpenSpec.ofChange digestTornWrong)

/-- 'sheavelaw04.DigestHex': WHATEVER THE INPUT: true; the input reads as it did. -/
def digestHexSpec : ChangeSpec := { name := "digestHex", fn := fun _ => fun
  | [d1, d2] => { results := [.lit (.bool true)], args := [d1, d2] }
  | _ => none }
def digestHexRow : OpenClaim := { program := "ytcnpihilbpaljaa", sum := "85bbf596e1b1646f17fb98df67ee8b459941245f6cb9ff64b36c7363d1ad1327", func := "sheave/sheavelaw04.DigestHex", spec := "digestHex", apart := false }
def DigestHexSaid : Prop := digestHexRow.holds Try.pinned (OpenSpec.ofChange digestHexSpec)

/-- ITS FALSE NEIGHBOUR: 'it returns false'. Refute it at one input. -/
def digestHexWrong : ChangeSpec := { name := "digestHex", fn := fun _ => fun
  | [d1, d2] => { results := [.lit (.bool false)], args := [d1, d2] }
  | _ => none }
def DigestHexWrongFalsely : Prop := digestHexRow.holds Try.pinned (OpenSpec.ofChange digestHexWrong)

/-- 'sheavelaw04.DigestFrame': WHATEVER THE INPUT: true; the input reads as it did. -/
def digestFrameSpec : ChangeSpec := { name := "digestFrame", fn := fun _ => fun
  | [d1, d2, d3] => { results := [.lit (.bool true)], args := [d1, d2, d3] }
  | _ => none }
def digestFrameRow : OpenClaim := { program := "ytcnpihilbpaljaa", sum := "85bbf596e1b1646f17fb98df67ee8b459941245f6cb9ff64b36c7363d1ad1327", func := "sheave/sheavelaw04.DigestFrame", spec := "digestFrame", inPlace := ["internal/abi.NoEscape", "internal/bytealg.MakeNoZero"], apart := false }
def DigestFrameSaid : Prop := digestFrameRow.holds Try.pinned (OpenSpec.ofChange digestFrameSpec)

/-- ITS FALSE NEIGHBOUR: 'it returns false'. Refute it at one input. -/
def digestFrameWrong : ChangeSpec := { name := "digestFrame", fn := fun _ => fun
  | [d1, d2, d3] => { results := [.lit (.bool false)], args := [d1, d2, d3] }
  | _ => none }
def DigestFrameWrongFalsely : Prop := digestFrameRow.holds Try.pinned (OpenSpec.ofChange digestFrameWrong)

/- THE SECOND FORM. 'bulk': how many values and letters a reading holds, each counted each time it is reached (what is shared counts as often as it is met; a slice's spare places count too). A statement '..UptoSaid' is the law's where the arguments, and the package variables that the reading takes, are together of bulk at most 1048576: NARROWER than '..Said'. Prove '..Said' where nothing that the law and all that it calls make is longer than what came in: it says more and counts as full. Else prove '..UptoSaid'. A law counts once. -/
mutual
def uptoBulk {H : Type} : DataW H → Nat
  | .lit (.string bytes) => bytes.length + 1
  | .lit _ => 1
  | .nil => 1
  | .ptr d => uptoBulk d + 1
  | .slice elems spare => uptoBulkAll elems + uptoBulkAll spare + 1
  | .agg parts => uptoBulkAll parts + 1
  | .iface _ d => uptoBulk d + 1
  | .map entries => uptoBulkEntries entries + 1
  | .held _ => 1
def uptoBulkAll {H : Type} : List (DataW H) → Nat
  | [] => 0
  | d :: r => uptoBulk d + uptoBulkAll r
def uptoBulkEntries {H : Type} : List (Lit × DataW H) → Nat
  | [] => 0
  | x :: r => uptoBulkEntry x + uptoBulkEntries r
def uptoBulkEntry {H : Type} : Lit × DataW H → Nat
  | (.string bytes, d) => bytes.length + uptoBulk d + 1
  | (_, d) => uptoBulk d + 1
 end
def uptoSmall : (H : Type) → List (DataW H) → Bool := fun _ ds => decide (uptoBulkAll ds ≤ 1048576)
def OpenSpec.upto (s : _root_.Go.ChangeSpec) : _root_.Go.OpenSpec := { _root_.Go.OpenSpec.ofChange s with cond := some uptoSmall }

/-- 'sheavelaw04.DigestCrc', WHERE WHAT IT READS IS OF BULK AT MOST 1048576: true; the input reads as it did. -/
def digestCrcUptoRow : OpenClaim := { program := "ytcnpihilbpaljaa", sum := "85bbf596e1b1646f17fb98df67ee8b459941245f6cb9ff64b36c7363d1ad1327", func := "sheave/sheavelaw04.DigestCrc", spec := "digestCrc", apart := false, narrowed := true }
def DigestCrcUptoSaid : Prop := digestCrcUptoRow.holds Try.pinned (OpenSpec.upto digestCrcSpec)

/-- 'sheavelaw04.DigestExtend', WHERE WHAT IT READS IS OF BULK AT MOST 1048576: true; the input reads as it did. -/
def digestExtendUptoRow : OpenClaim := { program := "ytcnpihilbpaljaa", sum := "85bbf596e1b1646f17fb98df67ee8b459941245f6cb9ff64b36c7363d1ad1327", func := "sheave/sheavelaw04.DigestExtend", spec := "digestExtend", apart := false, narrowed := true }
def DigestExtendUptoSaid : Prop := digestExtendUptoRow.holds Try.pinned (OpenSpec.upto digestExtendSpec)

/-- 'sheavelaw04.DigestBurst', WHERE WHAT IT READS IS OF BULK AT MOST 1048576: true; the input reads as it did. -/
def digestBurstUptoRow : OpenClaim := { program := "ytcnpihilbpaljaa", sum := "85bbf596e1b1646f17fb98df67ee8b459941245f6cb9ff64b36c7363d1ad1327", func := "sheave/sheavelaw04.DigestBurst", spec := "digestBurst", apart := false, narrowed := true }
def DigestBurstUptoSaid : Prop := digestBurstUptoRow.holds Try.pinned (OpenSpec.upto digestBurstSpec)

/-- 'sheavelaw04.DigestHash', WHERE WHAT IT READS IS OF BULK AT MOST 1048576: true; the input reads as it did. -/
def digestHashUptoRow : OpenClaim := { program := "ytcnpihilbpaljaa", sum := "85bbf596e1b1646f17fb98df67ee8b459941245f6cb9ff64b36c7363d1ad1327", func := "sheave/sheavelaw04.DigestHash", spec := "digestHash", apart := false, narrowed := true }
def DigestHashUptoSaid : Prop := digestHashUptoRow.holds Try.pinned (OpenSpec.upto digestHashSpec)

/-- 'sheavelaw04.DigestFrames', WHERE WHAT IT READS IS OF BULK AT MOST 1048576: true; the input reads as it did. -/
def digestFramesUptoRow : OpenClaim := { program := "ytcnpihilbpaljaa", sum := "85bbf596e1b1646f17fb98df67ee8b459941245f6cb9ff64b36c7363d1ad1327", func := "sheave/sheavelaw04.DigestFrames", spec := "digestFrames", apart := false, narrowed := true }
def DigestFramesUptoSaid : Prop := digestFramesUptoRow.holds Try.pinned (OpenSpec.upto digestFramesSpec)

/-- 'sheavelaw04.DigestTorn', WHERE WHAT IT READS IS OF BULK AT MOST 1048576: true; the input reads as it did. -/
def digestTornUptoRow : OpenClaim := { program := "ytcnpihilbpaljaa", sum := "85bbf596e1b1646f17fb98df67ee8b459941245f6cb9ff64b36c7363d1ad1327", func := "sheave/sheavelaw04.DigestTorn", spec := "digestTorn", apart := false, narrowed := true }
def DigestTornUptoSaid : Prop := digestTornUptoRow.holds Try.pinned (OpenSpec.upto digestTornSpec)

/-- 'sheavelaw04.DigestHex', WHERE WHAT IT READS IS OF BULK AT MOST 1048576: true; the input reads as it did. -/
def digestHexUptoRow : OpenClaim := { program := "ytcnpihilbpaljaa", sum := "85bbf596e1b1646f17fb98df67ee8b459941245f6cb9ff64b36c7363d1ad1327", func := "sheave/sheavelaw04.DigestHex", spec := "digestHex", apart := false, narrowed := true }
def DigestHexUptoSaid : Prop := digestHexUptoRow.holds Try.pinned (OpenSpec.upto digestHexSpec)

/-- 'sheavelaw04.DigestFrame', WHERE WHAT IT READS IS OF BULK AT MOST 1048576: true; the input reads as it did. -/
def digestFrameUptoRow : OpenClaim := { program := "ytcnpihilbpaljaa", sum := "85bbf596e1b1646f17fb98df67ee8b459941245f6cb9ff64b36c7363d1ad1327", func := "sheave/sheavelaw04.DigestFrame", spec := "digestFrame", inPlace := ["internal/abi.NoEscape", "internal/bytealg.MakeNoZero"], apart := false, narrowed := true }
def DigestFrameUptoSaid : Prop := digestFrameUptoRow.holds Try.pinned (OpenSpec.upto digestFrameSpec)

end Rows
end Go.Proofs.Ytcnpihilbpaljaa

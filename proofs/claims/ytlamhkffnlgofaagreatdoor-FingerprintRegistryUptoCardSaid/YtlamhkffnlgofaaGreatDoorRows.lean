/-
  NARROWER THAN 'FOR EVERY INPUT', by the rows' own cells (each row's printed sentence says how): FingerprintAdd: loops, laid · FingerprintRegistry: loops, laid · FingerprintBytes: loops, laid · FingerprintEqual: laid · FingerprintCopies: laid · FingerprintRestored: laid · FingerprintWrap: laid.
  DERIVED. THE GIVEN ROWS OF THIS SEAT. 7 by the template 'for every input the law returns true; each argument reads behind the call as it read before'; 0 by the template 'total and deterministic' (their statements: YtlamhkffnlgofaaGreatDoorTotals.lean).
  GIVEN WITH THE SEED: the statements are not yours to turn. If you find one false, say at which input.
  Laid BY PROGRAM, IN A SANDBOX (cutbox-rows.mjs): the forced cells as the released guide's own fill.sh prints them over the translation edbd76b2a23490c1… (all of the seat's roots in one cut). By AI agents, Wed Nov 11 2026. No macro, syntax, notation, axiom, sorry.
-/
import Derived.Test.YtlamhkffnlgofaaGreatDoorChecked
import GoSem.Claim
import GoSem.ClaimJoined
import GoSem.ClaimMapViews
import Derived.JoinedTies
import Derived.KernelRfl
namespace Go.Proofs.YtlamhkffnlgofaaGreatDoor
/- THE CELL 'sum', in the pinned program and in every row, IS THE sha256 OF THE DUMP (.gsa) THAT YtlamhkffnlgofaaGreatDoorProg.lean LOADS. Nothing in Lean hashes anything: it is a label: what it is worth is what the hold of that sum in a sandbox is worth. -/
noncomputable def Tryz.pinned : Pinned := { name := "ytlamhkffnlgofaagreatdoor", sum := "edbd76b2a23490c10eefe41dfd57bf7efc3137dc386b6777ddf20b0d07879c2a", checked := Tryz.checked }
namespace Rows
def none {H : Type} : Left H := { results := [], args := [] }

/- WHAT THE LISTED PACKAGE-LEVEL VARIABLES READ AS WHEN THE CALL BEGINS. Each datum BY PROGRAM (the guide's laid-datum.mjs) off the statement by which the dump's own 'gosem.cut.vars' lays the variable. In a bare row this is a premise. The card (YtlamhkffnlgofaaGreatDoorCards.lean) ties it to the program's text. -/
def laid_math_bits_deBruijn32tab {H : Type} : DataW H := .agg [.lit (.int .u8 0), .lit (.int .u8 1), .lit (.int .u8 28), .lit (.int .u8 2), .lit (.int .u8 29), .lit (.int .u8 14), .lit (.int .u8 24), .lit (.int .u8 3), .lit (.int .u8 30), .lit (.int .u8 22), .lit (.int .u8 20), .lit (.int .u8 15), .lit (.int .u8 25), .lit (.int .u8 17), .lit (.int .u8 4), .lit (.int .u8 8), .lit (.int .u8 31), .lit (.int .u8 27), .lit (.int .u8 13), .lit (.int .u8 23), .lit (.int .u8 21), .lit (.int .u8 19), .lit (.int .u8 16), .lit (.int .u8 7), .lit (.int .u8 26), .lit (.int .u8 12), .lit (.int .u8 18), .lit (.int .u8 6), .lit (.int .u8 11), .lit (.int .u8 5), .lit (.int .u8 10), .lit (.int .u8 9)]
def laid_math_bits_deBruijn64tab {H : Type} : DataW H := .agg [.lit (.int .u8 0), .lit (.int .u8 1), .lit (.int .u8 56), .lit (.int .u8 2), .lit (.int .u8 57), .lit (.int .u8 49), .lit (.int .u8 28), .lit (.int .u8 3), .lit (.int .u8 61), .lit (.int .u8 58), .lit (.int .u8 42), .lit (.int .u8 50), .lit (.int .u8 38), .lit (.int .u8 29), .lit (.int .u8 17), .lit (.int .u8 4), .lit (.int .u8 62), .lit (.int .u8 47), .lit (.int .u8 59), .lit (.int .u8 36), .lit (.int .u8 45), .lit (.int .u8 43), .lit (.int .u8 51), .lit (.int .u8 22), .lit (.int .u8 53), .lit (.int .u8 39), .lit (.int .u8 33), .lit (.int .u8 30), .lit (.int .u8 24), .lit (.int .u8 18), .lit (.int .u8 12), .lit (.int .u8 5), .lit (.int .u8 63), .lit (.int .u8 55), .lit (.int .u8 48), .lit (.int .u8 27), .lit (.int .u8 60), .lit (.int .u8 41), .lit (.int .u8 37), .lit (.int .u8 16), .lit (.int .u8 46), .lit (.int .u8 35), .lit (.int .u8 44), .lit (.int .u8 21), .lit (.int .u8 52), .lit (.int .u8 32), .lit (.int .u8 23), .lit (.int .u8 11), .lit (.int .u8 54), .lit (.int .u8 26), .lit (.int .u8 40), .lit (.int .u8 15), .lit (.int .u8 34), .lit (.int .u8 20), .lit (.int .u8 31), .lit (.int .u8 10), .lit (.int .u8 25), .lit (.int .u8 14), .lit (.int .u8 19), .lit (.int .u8 9), .lit (.int .u8 13), .lit (.int .u8 8), .lit (.int .u8 7), .lit (.int .u8 6)]
def laid_internal_strconv_uint64pow10 {H : Type} : DataW H := .agg [.lit (.int .u64 1), .lit (.int .u64 10), .lit (.int .u64 100), .lit (.int .u64 1000), .lit (.int .u64 10000), .lit (.int .u64 100000), .lit (.int .u64 1000000), .lit (.int .u64 10000000), .lit (.int .u64 100000000), .lit (.int .u64 1000000000), .lit (.int .u64 10000000000), .lit (.int .u64 100000000000), .lit (.int .u64 1000000000000), .lit (.int .u64 10000000000000), .lit (.int .u64 100000000000000), .lit (.int .u64 1000000000000000), .lit (.int .u64 10000000000000000), .lit (.int .u64 100000000000000000), .lit (.int .u64 1000000000000000000), .lit (.int .u64 10000000000000000000)]

/-- 'sheavelaw19.FingerprintAdd': WHATEVER THE INPUT: true; the input reads as it did. -/
def fingerprintAddSpec : ChangeSpec := { name := "fingerprintAdd", fn := fun _ => fun
  | [d1, d2] => { results := [.lit (.bool true)], args := [d1, d2] }
  | _ => none }
def fingerprintAddRow : OpenClaim := { program := "ytlamhkffnlgofaagreatdoor", sum := "edbd76b2a23490c10eefe41dfd57bf7efc3137dc386b6777ddf20b0d07879c2a", func := "sheave/sheavelaw19.FingerprintAdd", spec := "fingerprintAdd", unfollowed := true, recurses := true, named := ["internal/strconv.uint64pow10", "math/bits.deBruijn32tab", "math/bits.deBruijn64tab"], loops := true, apart := false, laid := [("math/bits.deBruijn32tab", laid_math_bits_deBruijn32tab), ("math/bits.deBruijn64tab", laid_math_bits_deBruijn64tab), ("internal/strconv.uint64pow10", laid_internal_strconv_uint64pow10)] }
def FingerprintAddSaid : Prop := fingerprintAddRow.holds Tryz.pinned (OpenSpec.ofChange fingerprintAddSpec)

/-- ITS FALSE NEIGHBOUR: 'it returns false'. Refute it at one input. -/
def fingerprintAddWrong : ChangeSpec := { name := "fingerprintAdd", fn := fun _ => fun
  | [d1, d2] => { results := [.lit (.bool false)], args := [d1, d2] }
  | _ => none }
def FingerprintAddWrongFalsely : Prop := fingerprintAddRow.holds Tryz.pinned (OpenSpec.ofChange fingerprintAddWrong)

/-- 'sheavelaw19.FingerprintRegistry': WHATEVER THE INPUT: true; the input reads as it did. -/
def fingerprintRegistrySpec : ChangeSpec := { name := "fingerprintRegistry", fn := fun _ => fun
  | [d] => { results := [.lit (.bool true)], args := [d] }
  | _ => none }
def fingerprintRegistryRow : OpenClaim := { program := "ytlamhkffnlgofaagreatdoor", sum := "edbd76b2a23490c10eefe41dfd57bf7efc3137dc386b6777ddf20b0d07879c2a", func := "sheave/sheavelaw19.FingerprintRegistry", spec := "fingerprintRegistry", unfollowed := true, recurses := true, named := ["internal/strconv.uint64pow10", "math/bits.deBruijn32tab", "math/bits.deBruijn64tab"], loops := true, apart := false, laid := [("math/bits.deBruijn32tab", laid_math_bits_deBruijn32tab), ("math/bits.deBruijn64tab", laid_math_bits_deBruijn64tab), ("internal/strconv.uint64pow10", laid_internal_strconv_uint64pow10)] }
def FingerprintRegistrySaid : Prop := fingerprintRegistryRow.holds Tryz.pinned (OpenSpec.ofChange fingerprintRegistrySpec)

/-- ITS FALSE NEIGHBOUR: 'it returns false'. Refute it at one input. -/
def fingerprintRegistryWrong : ChangeSpec := { name := "fingerprintRegistry", fn := fun _ => fun
  | [d] => { results := [.lit (.bool false)], args := [d] }
  | _ => none }
def FingerprintRegistryWrongFalsely : Prop := fingerprintRegistryRow.holds Tryz.pinned (OpenSpec.ofChange fingerprintRegistryWrong)

/-- 'sheavelaw19.FingerprintBytes': WHATEVER THE INPUT: true; the input reads as it did. -/
def fingerprintBytesSpec : ChangeSpec := { name := "fingerprintBytes", fn := fun _ => fun
  | [d] => { results := [.lit (.bool true)], args := [d] }
  | _ => none }
def fingerprintBytesRow : OpenClaim := { program := "ytlamhkffnlgofaagreatdoor", sum := "edbd76b2a23490c10eefe41dfd57bf7efc3137dc386b6777ddf20b0d07879c2a", func := "sheave/sheavelaw19.FingerprintBytes", spec := "fingerprintBytes", unfollowed := true, recurses := true, named := ["internal/strconv.uint64pow10", "math/bits.deBruijn32tab", "math/bits.deBruijn64tab"], loops := true, apart := false, laid := [("math/bits.deBruijn32tab", laid_math_bits_deBruijn32tab), ("math/bits.deBruijn64tab", laid_math_bits_deBruijn64tab), ("internal/strconv.uint64pow10", laid_internal_strconv_uint64pow10)] }
def FingerprintBytesSaid : Prop := fingerprintBytesRow.holds Tryz.pinned (OpenSpec.ofChange fingerprintBytesSpec)

/-- ITS FALSE NEIGHBOUR: 'it returns false'. Refute it at one input. -/
def fingerprintBytesWrong : ChangeSpec := { name := "fingerprintBytes", fn := fun _ => fun
  | [d] => { results := [.lit (.bool false)], args := [d] }
  | _ => none }
def FingerprintBytesWrongFalsely : Prop := fingerprintBytesRow.holds Tryz.pinned (OpenSpec.ofChange fingerprintBytesWrong)

/-- 'sheavelaw19.FingerprintEqual': WHATEVER THE INPUT: true; the input reads as it did. -/
def fingerprintEqualSpec : ChangeSpec := { name := "fingerprintEqual", fn := fun _ => fun
  | [d] => { results := [.lit (.bool true)], args := [d] }
  | _ => none }
def fingerprintEqualRow : OpenClaim := { program := "ytlamhkffnlgofaagreatdoor", sum := "edbd76b2a23490c10eefe41dfd57bf7efc3137dc386b6777ddf20b0d07879c2a", func := "sheave/sheavelaw19.FingerprintEqual", spec := "fingerprintEqual", unfollowed := true, recurses := true, named := ["internal/strconv.uint64pow10", "math/bits.deBruijn32tab", "math/bits.deBruijn64tab"], apart := false, laid := [("math/bits.deBruijn32tab", laid_math_bits_deBruijn32tab), ("math/bits.deBruijn64tab", laid_math_bits_deBruijn64tab), ("internal/strconv.uint64pow10", laid_internal_strconv_uint64pow10)] }
def FingerprintEqualSaid : Prop := fingerprintEqualRow.holds Tryz.pinned (OpenSpec.ofChange fingerprintEqualSpec)

/-- ITS FALSE NEIGHBOUR: 'it returns false'. Refute it at one input. -/
def fingerprintEqualWrong : ChangeSpec := { name := "fingerprintEqual", fn := fun _ => fun
  | [d] => { results := [.lit (.bool false)], args := [d] }
  | _ => none }
def FingerprintEqualWrongFalsely : Prop := fingerprintEqualRow.holds Tryz.pinned (OpenSpec.ofChange fingerprintEqualWrong)

/-- 'sheavelaw19.FingerprintCopies': WHATEVER THE INPUT: true; the input reads as it did. -/
def fingerprintCopiesSpec : ChangeSpec := { name := "fingerprintCopies", fn := fun _ => fun
  | [d1, d2, d3] => { results := [.lit (.bool true)], args := [d1, d2, d3] }
  | _ => none }
def fingerprintCopiesRow : OpenClaim := { program := "ytlamhkffnlgofaagreatdoor", sum := "edbd76b2a23490c10eefe41dfd57bf7efc3137dc386b6777ddf20b0d07879c2a", func := "sheave/sheavelaw19.FingerprintCopies", spec := "fingerprintCopies", unfollowed := true, recurses := true, named := ["internal/strconv.uint64pow10", "math/bits.deBruijn32tab", "math/bits.deBruijn64tab"], apart := false, laid := [("math/bits.deBruijn32tab", laid_math_bits_deBruijn32tab), ("math/bits.deBruijn64tab", laid_math_bits_deBruijn64tab), ("internal/strconv.uint64pow10", laid_internal_strconv_uint64pow10)] }
def FingerprintCopiesSaid : Prop := fingerprintCopiesRow.holds Tryz.pinned (OpenSpec.ofChange fingerprintCopiesSpec)

/-- ITS FALSE NEIGHBOUR: 'it returns false'. Refute it at one input. -/
def fingerprintCopiesWrong : ChangeSpec := { name := "fingerprintCopies", fn := fun _ => fun
  | [d1, d2, d3] => { results := [.lit (.bool false)], args := [d1, d2, d3] }
  | _ => none }
def FingerprintCopiesWrongFalsely : Prop := fingerprintCopiesRow.holds Tryz.pinned (OpenSpec.ofChange fingerprintCopiesWrong)

/-- 'sheavelaw19.FingerprintRestored': WHATEVER THE INPUT: true; the input reads as it did. -/
def fingerprintRestoredSpec : ChangeSpec := { name := "fingerprintRestored", fn := fun _ => fun
  | [d1, d2] => { results := [.lit (.bool true)], args := [d1, d2] }
  | _ => none }
def fingerprintRestoredRow : OpenClaim := { program := "ytlamhkffnlgofaagreatdoor", sum := "edbd76b2a23490c10eefe41dfd57bf7efc3137dc386b6777ddf20b0d07879c2a", func := "sheave/sheavelaw19.FingerprintRestored", spec := "fingerprintRestored", unfollowed := true, recurses := true, named := ["internal/strconv.uint64pow10", "math/bits.deBruijn32tab", "math/bits.deBruijn64tab"], apart := false, laid := [("math/bits.deBruijn32tab", laid_math_bits_deBruijn32tab), ("math/bits.deBruijn64tab", laid_math_bits_deBruijn64tab), ("internal/strconv.uint64pow10", laid_internal_strconv_uint64pow10)] }
def FingerprintRestoredSaid : Prop := fingerprintRestoredRow.holds Tryz.pinned (OpenSpec.ofChange fingerprintRestoredSpec)

/-- ITS FALSE NEIGHBOUR: 'it returns false'. Refute it at one input. -/
def fingerprintRestoredWrong : ChangeSpec := { name := "fingerprintRestored", fn := fun _ => fun
  | [d1, d2] => { results := [.lit (.bool false)], args := [d1, d2] }
  | _ => none }
def FingerprintRestoredWrongFalsely : Prop := fingerprintRestoredRow.holds Tryz.pinned (OpenSpec.ofChange fingerprintRestoredWrong)

/-- 'sheavelaw19.FingerprintWrap': WHATEVER THE INPUT: true; the input reads as it did. -/
def fingerprintWrapSpec : ChangeSpec := { name := "fingerprintWrap", fn := fun _ => fun
  | [d1, d2] => { results := [.lit (.bool true)], args := [d1, d2] }
  | _ => none }
def fingerprintWrapRow : OpenClaim := { program := "ytlamhkffnlgofaagreatdoor", sum := "edbd76b2a23490c10eefe41dfd57bf7efc3137dc386b6777ddf20b0d07879c2a", func := "sheave/sheavelaw19.FingerprintWrap", spec := "fingerprintWrap", unfollowed := true, recurses := true, named := ["internal/strconv.uint64pow10", "math/bits.deBruijn32tab", "math/bits.deBruijn64tab"], apart := false, laid := [("math/bits.deBruijn32tab", laid_math_bits_deBruijn32tab), ("math/bits.deBruijn64tab", laid_math_bits_deBruijn64tab), ("internal/strconv.uint64pow10", laid_internal_strconv_uint64pow10)] }
def FingerprintWrapSaid : Prop := fingerprintWrapRow.holds Tryz.pinned (OpenSpec.ofChange fingerprintWrapSpec)

/-- ITS FALSE NEIGHBOUR: 'it returns false'. Refute it at one input. -/
def fingerprintWrapWrong : ChangeSpec := { name := "fingerprintWrap", fn := fun _ => fun
  | [d1, d2] => { results := [.lit (.bool false)], args := [d1, d2] }
  | _ => none }
def FingerprintWrapWrongFalsely : Prop := fingerprintWrapRow.holds Tryz.pinned (OpenSpec.ofChange fingerprintWrapWrong)

/- THE SECOND FORM. 'bulk': how many values and letters a reading holds, each counted each time it is reached (what is shared counts as often as it is met; a slice's spare places count too). A statement '..UptoSaid' is the law's where the arguments, and the package variables that the reading takes, are together of bulk at most 1048576: NARROWER than '..Said'. Prove '..Said' where nothing that the law and all that it calls make is longer than what came in: it says more and counts as full. Else prove '..UptoSaid'. A law counts once. -/
mutual
def uptoBulk {H : Type} : DataW H → Nat
  | .lit (.string bytes) => bytes.length + 1
  | .lit _ => 1
  | .nil => 1
  | .ptr d => uptoBulk d + 1
  | .slice elems spare => uptoBulkAll elems + uptoBulkAll spare + 1
  | .agg parts => uptoBulkAll parts + 1
  | .iface _ d => uptoBulk d + 1
  | .map entries => uptoBulkEntries entries + 1
  | .held _ => 1
def uptoBulkAll {H : Type} : List (DataW H) → Nat
  | [] => 0
  | d :: r => uptoBulk d + uptoBulkAll r
def uptoBulkEntries {H : Type} : List (Lit × DataW H) → Nat
  | [] => 0
  | x :: r => uptoBulkEntry x + uptoBulkEntries r
def uptoBulkEntry {H : Type} : Lit × DataW H → Nat
  | (.string bytes, d) => bytes.length + uptoBulk d + 1
  | (_, d) => uptoBulk d + 1
 end
def uptoSmall : (H : Type) → List (DataW H) → Bool := fun _ ds => decide (uptoBulkAll ds ≤ 1048576)
def OpenSpec.upto (s : _root_.Go.ChangeSpec) : _root_.Go.OpenSpec := { _root_.Go.OpenSpec.ofChange s with cond := some uptoSmall }

/-- 'sheavelaw19.FingerprintAdd', WHERE WHAT IT READS IS OF BULK AT MOST 1048576: true; the input reads as it did. -/
def fingerprintAddUptoRow : OpenClaim := { program := "ytlamhkffnlgofaagreatdoor", sum := "edbd76b2a23490c10eefe41dfd57bf7efc3137dc386b6777ddf20b0d07879c2a", func := "sheave/sheavelaw19.FingerprintAdd", spec := "fingerprintAdd", unfollowed := true, recurses := true, named := ["internal/strconv.uint64pow10", "math/bits.deBruijn32tab", "math/bits.deBruijn64tab"], loops := true, apart := false, laid := [("math/bits.deBruijn32tab", laid_math_bits_deBruijn32tab), ("math/bits.deBruijn64tab", laid_math_bits_deBruijn64tab), ("internal/strconv.uint64pow10", laid_internal_strconv_uint64pow10)], narrowed := true }
def FingerprintAddUptoSaid : Prop := fingerprintAddUptoRow.holds Tryz.pinned (OpenSpec.upto fingerprintAddSpec)

/-- 'sheavelaw19.FingerprintRegistry', WHERE WHAT IT READS IS OF BULK AT MOST 1048576: true; the input reads as it did. -/
def fingerprintRegistryUptoRow : OpenClaim := { program := "ytlamhkffnlgofaagreatdoor", sum := "edbd76b2a23490c10eefe41dfd57bf7efc3137dc386b6777ddf20b0d07879c2a", func := "sheave/sheavelaw19.FingerprintRegistry", spec := "fingerprintRegistry", unfollowed := true, recurses := true, named := ["internal/strconv.uint64pow10", "math/bits.deBruijn32tab", "math/bits.deBruijn64tab"], loops := true, apart := false, laid := [("math/bits.deBruijn32tab", laid_math_bits_deBruijn32tab), ("math/bits.deBruijn64tab", laid_math_bits_deBruijn64tab), ("internal/strconv.uint64pow10", laid_internal_strconv_uint64pow10)], narrowed := true }
def FingerprintRegistryUptoSaid : Prop := fingerprintRegistryUptoRow.holds Tryz.pinned (OpenSpec.upto fingerprintRegistrySpec)

/-- 'sheavelaw19.FingerprintBytes', WHERE WHAT IT READS IS OF BULK AT MOST 1048576: true; the input reads as it did. -/
def fingerprintBytesUptoRow : OpenClaim := { program := "ytlamhkffnlgofaagreatdoor", sum := "edbd76b2a23490c10eefe41dfd57bf7efc3137dc386b6777ddf20b0d07879c2a", func := "sheave/sheavelaw19.FingerprintBytes", spec := "fingerprintBytes", unfollowed := true, recurses := true, named := ["internal/strconv.uint64pow10", "math/bits.deBruijn32tab", "math/bits.deBruijn64tab"], loops := true, apart := false, laid := [("math/bits.deBruijn32tab", laid_math_bits_deBruijn32tab), ("math/bits.deBruijn64tab", laid_math_bits_deBruijn64tab), ("internal/strconv.uint64pow10", laid_internal_strconv_uint64pow10)], narrowed := true }
def FingerprintBytesUptoSaid : Prop := fingerprintBytesUptoRow.holds Tryz.pinned (OpenSpec.upto fingerprintBytesSpec)

/-- 'sheavelaw19.FingerprintEqual', WHERE WHAT IT READS IS OF BULK AT MOST 1048576: true; the input reads as it did. -/
def fingerprintEqualUptoRow : OpenClaim := { program := "ytlamhkffnlgofaagreatdoor", sum := "edbd76b2a23490c10eefe41dfd57bf7efc3137dc386b6777ddf20b0d07879c2a", func := "sheave/sheavelaw19.FingerprintEqual", spec := "fingerprintEqual", unfollowed := true, recurses := true, named := ["internal/strconv.uint64pow10", "math/bits.deBruijn32tab", "math/bits.deBruijn64tab"], apart := false, laid := [("math/bits.deBruijn32tab", laid_math_bits_deBruijn32tab), ("math/bits.deBruijn64tab", laid_math_bits_deBruijn64tab), ("internal/strconv.uint64pow10", laid_internal_strconv_uint64pow10)], narrowed := true }
def FingerprintEqualUptoSaid : Prop := fingerprintEqualUptoRow.holds Tryz.pinned (OpenSpec.upto fingerprintEqualSpec)

/-- 'sheavelaw19.FingerprintCopies', WHERE WHAT IT READS IS OF BULK AT MOST 1048576: true; the input reads as it did. -/
def fingerprintCopiesUptoRow : OpenClaim := { program := "ytlamhkffnlgofaagreatdoor", sum := "edbd76b2a23490c10eefe41dfd57bf7efc3137dc386b6777ddf20b0d07879c2a", func := "sheave/sheavelaw19.FingerprintCopies", spec := "fingerprintCopies", unfollowed := true, recurses := true, named := ["internal/strconv.uint64pow10", "math/bits.deBruijn32tab", "math/bits.deBruijn64tab"], apart := false, laid := [("math/bits.deBruijn32tab", laid_math_bits_deBruijn32tab), ("math/bits.deBruijn64tab", laid_math_bits_deBruijn64tab), ("internal/strconv.uint64pow10", laid_internal_strconv_uint64pow10)], narrowed := true }
def FingerprintCopiesUptoSaid : Prop := fingerprintCopiesUptoRow.holds Tryz.pinned (OpenSpec.upto fingerprintCopiesSpec)

/-- 'sheavelaw19.FingerprintRestored', WHERE WHAT IT READS IS OF BULK AT MOST 1048576: true; the input reads as it did. -/
def fingerprintRestoredUptoRow : OpenClaim := { program := "ytlamhkffnlgofaagreatdoor", sum := "edbd76b2a23490c10eefe41dfd57bf7efc3137dc386b6777ddf20b0d07879c2a", func := "sheave/sheavelaw19.FingerprintRestored", spec := "fingerprintRestored", unfollowed := true, recurses := true, named := ["internal/strconv.uint64pow10", "math/bits.deBruijn32tab", "math/bits.deBruijn64tab"], apart := false, laid := [("math/bits.deBruijn32tab", laid_math_bits_deBruijn32tab), ("math/bits.deBruijn64tab", laid_math_bits_deBruijn64tab), ("internal/strconv.uint64pow10", laid_internal_strconv_uint64pow10)], narrowed := true }
def FingerprintRestoredUptoSaid : Prop := fingerprintRestoredUptoRow.holds Tryz.pinned (OpenSpec.upto fingerprintRestoredSpec)

/-- 'sheavelaw19.FingerprintWrap', WHERE WHAT IT READS IS OF BULK AT MOST 1048576: true; the input reads as it did. -/
def fingerprintWrapUptoRow : OpenClaim := { program := "ytlamhkffnlgofaagreatdoor", sum := "edbd76b2a23490c10eefe41dfd57bf7efc3137dc386b6777ddf20b0d07879c2a", func := "sheave/sheavelaw19.FingerprintWrap", spec := "fingerprintWrap", unfollowed := true, recurses := true, named := ["internal/strconv.uint64pow10", "math/bits.deBruijn32tab", "math/bits.deBruijn64tab"], apart := false, laid := [("math/bits.deBruijn32tab", laid_math_bits_deBruijn32tab), ("math/bits.deBruijn64tab", laid_math_bits_deBruijn64tab), ("internal/strconv.uint64pow10", laid_internal_strconv_uint64pow10)], narrowed := true }
def FingerprintWrapUptoSaid : Prop := fingerprintWrapUptoRow.holds Tryz.pinned (OpenSpec.upto fingerprintWrapSpec)

end Rows
end Go.Proofs.YtlamhkffnlgofaaGreatDoor

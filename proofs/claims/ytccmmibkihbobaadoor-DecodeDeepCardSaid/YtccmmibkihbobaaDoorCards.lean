/-
  DERIVED. GIVEN WITH THE SEED: THE CARDS: each row of YtccmmibkihbobaaDoorRows.lean that lists a variable, with what it lists TIED to the program's text (the seventh form; the later family's looks); each row that meets fmt, with fmt's text TOLD by the authors' own Lean function (tested against real Go, not proved from fmt's source: count such statements apart). THE CARD IS WHAT COUNTS. Prove the row's statement (the work); the ties are given (YtccmmibkihbobaaDoorTie.lean); close each card by the builder's one call (the guide's Derived/Test/ToyasCard.lean, 'card_holds'). Laid BY PROGRAM, IN A SANDBOX (cutbox-door.mjs). By AI agents, Wed Nov 11 2026. No macro, syntax, notation, axiom, sorry.
-/
import Derived.Test.YtccmmibkihbobaaDoorRows
import GoSem.ClaimSeven
namespace Go.Proofs.YtccmmibkihbobaaDoor
namespace Rows

/-- THE TIED CARD OF 'sheavelaw10.DecodeReason'. -/
def decodeReasonCard : Claim7 := { stood := { row := decodeReasonRow, standIns := [], harness := (true, "168805e9d91bf6073c2bbc593fbd5c3b9395dd3d2e1ab2edc1b7be331e992d28"), looks := false }, kinds := [], alts := [], laidByText := true, laidKinds := [.data, .data, .data, .data], laidTests := true, laidLooks := .later }
def DecodeReasonCardSaid : Prop := Claim7.holds Tryd.pinned (.plain (OpenSpec.ofChange decodeReasonSpec)) decodeReasonCard

/-- THE TIED CARD OF 'sheavelaw10.DecodeDeep'. -/
def decodeDeepCard : Claim7 := { stood := { row := decodeDeepRow, standIns := [], harness := (true, "168805e9d91bf6073c2bbc593fbd5c3b9395dd3d2e1ab2edc1b7be331e992d28"), looks := false }, kinds := [], alts := [], laidByText := true, laidKinds := [.data, .data, .data, .data], laidTests := true, laidLooks := .later }
def DecodeDeepCardSaid : Prop := Claim7.holds Tryd.pinned (.plain (OpenSpec.ofChange decodeDeepSpec)) decodeDeepCard

/-- THE SECOND FORM's CARD OF 'sheavelaw10.DecodeReason'. -/
def decodeReasonUptoCard : Claim7 := { stood := { row := decodeReasonUptoRow, standIns := [], harness := (true, "168805e9d91bf6073c2bbc593fbd5c3b9395dd3d2e1ab2edc1b7be331e992d28"), looks := false }, kinds := [], alts := [], laidByText := true, laidKinds := [.data, .data, .data, .data], laidTests := true, laidLooks := .later }
def DecodeReasonUptoCardSaid : Prop := Claim7.holds Tryd.pinned (.plain (OpenSpec.upto decodeReasonSpec)) decodeReasonUptoCard

/-- THE SECOND FORM's CARD OF 'sheavelaw10.DecodeDeep'. -/
def decodeDeepUptoCard : Claim7 := { stood := { row := decodeDeepUptoRow, standIns := [], harness := (true, "168805e9d91bf6073c2bbc593fbd5c3b9395dd3d2e1ab2edc1b7be331e992d28"), looks := false }, kinds := [], alts := [], laidByText := true, laidKinds := [.data, .data, .data, .data], laidTests := true, laidLooks := .later }
def DecodeDeepUptoCardSaid : Prop := Claim7.holds Tryd.pinned (.plain (OpenSpec.upto decodeDeepSpec)) decodeDeepUptoCard
end Rows
end Go.Proofs.YtccmmibkihbobaaDoor

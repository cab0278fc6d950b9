/-
  DERIVED. GIVEN WITH THE SEED: THE CARDS: each row of YtkaedmpppnnamaaGreatDoorRows.lean that lists a variable, with what it lists TIED to the program's text (the seventh form; the later family's looks); each row that meets fmt, with fmt's text TOLD by the authors' own Lean function (tested against real Go, not proved from fmt's source: count such statements apart). THE CARD IS WHAT COUNTS. Prove the row's statement (the work); the ties are given (YtkaedmpppnnamaaGreatDoorTie.lean); close each card by the builder's one call (the guide's Derived/Test/ToyasCard.lean, 'card_holds'). Laid BY PROGRAM, IN A SANDBOX (cutbox-door.mjs). By AI agents, Wed Nov 11 2026. No macro, syntax, notation, axiom, sorry.
-/
import Derived.Test.YtkaedmpppnnamaaGreatDoorRows
import GoSem.ClaimSeven
namespace Go.Proofs.YtkaedmpppnnamaaGreatDoor
namespace Rows

/-- THE TIED CARD OF 'sheavelaw10.DecodeRestores'. -/
def decodeRestoresCard : Claim7 := { stood := { row := decodeRestoresRow, standIns := [], harness := (true, "404eac0bcd164f0d8dc96e2a5634db986ddca875ebc7793fd90a583c2d19b8cf"), looks := false }, kinds := [], alts := [], laidByText := true, laidKinds := [.data, .data, .data, .data], laidTests := true, laidLooks := .later }
def DecodeRestoresCardSaid : Prop := Claim7.holds Tryz.pinned (.plain (OpenSpec.ofChange decodeRestoresSpec)) decodeRestoresCard

/-- THE TIED CARD OF 'sheavelaw10.DecodeReader'. -/
def decodeReaderCard : Claim7 := { stood := { row := decodeReaderRow, standIns := [], harness := (true, "404eac0bcd164f0d8dc96e2a5634db986ddca875ebc7793fd90a583c2d19b8cf"), looks := false }, kinds := [], alts := [], laidByText := true, laidKinds := [.data, .data, .data, .data], laidTests := true, laidLooks := .later }
def DecodeReaderCardSaid : Prop := Claim7.holds Tryz.pinned (.plain (OpenSpec.ofChange decodeReaderSpec)) decodeReaderCard

/-- THE SECOND FORM's CARD OF 'sheavelaw10.DecodeRestores'. -/
def decodeRestoresUptoCard : Claim7 := { stood := { row := decodeRestoresUptoRow, standIns := [], harness := (true, "404eac0bcd164f0d8dc96e2a5634db986ddca875ebc7793fd90a583c2d19b8cf"), looks := false }, kinds := [], alts := [], laidByText := true, laidKinds := [.data, .data, .data, .data], laidTests := true, laidLooks := .later }
def DecodeRestoresUptoCardSaid : Prop := Claim7.holds Tryz.pinned (.plain (OpenSpec.upto decodeRestoresSpec)) decodeRestoresUptoCard

/-- THE SECOND FORM's CARD OF 'sheavelaw10.DecodeReader'. -/
def decodeReaderUptoCard : Claim7 := { stood := { row := decodeReaderUptoRow, standIns := [], harness := (true, "404eac0bcd164f0d8dc96e2a5634db986ddca875ebc7793fd90a583c2d19b8cf"), looks := false }, kinds := [], alts := [], laidByText := true, laidKinds := [.data, .data, .data, .data], laidTests := true, laidLooks := .later }
def DecodeReaderUptoCardSaid : Prop := Claim7.holds Tryz.pinned (.plain (OpenSpec.upto decodeReaderSpec)) decodeReaderUptoCard
end Rows
end Go.Proofs.YtkaedmpppnnamaaGreatDoor

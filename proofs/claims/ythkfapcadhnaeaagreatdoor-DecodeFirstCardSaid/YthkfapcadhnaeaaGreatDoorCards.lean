/-
  DERIVED. GIVEN WITH THE SEED: THE CARDS: each row of YthkfapcadhnaeaaGreatDoorRows.lean that lists a variable, with what it lists TIED to the program's text (the seventh form; the later family's looks); each row that meets fmt, with fmt's text TOLD by the authors' own Lean function (tested against real Go, not proved from fmt's source: count such statements apart). THE CARD IS WHAT COUNTS. Prove the row's statement (the work); the ties are given (YthkfapcadhnaeaaGreatDoorTie.lean); close each card by the builder's one call (the guide's Derived/Test/ToyasCard.lean, 'card_holds'). Laid BY PROGRAM, IN A SANDBOX (cutbox-door.mjs). By AI agents, Wed Nov 11 2026. No macro, syntax, notation, axiom, sorry.
-/
import Derived.Test.YthkfapcadhnaeaaGreatDoorRows
import GoSem.ClaimSeven
namespace Go.Proofs.YthkfapcadhnaeaaGreatDoor
namespace Rows

/-- THE TIED CARD OF 'sheavelaw10.DecodeMessage'. -/
def decodeMessageCard : Claim7 := { stood := { row := decodeMessageRow, standIns := [], harness := (true, "a99b3f65dcef042eb6122efbb92f2e10a573cf21720953b13b2de121ec7d0cc7"), looks := false }, kinds := [], alts := [], laidByText := true, laidKinds := [.data, .data, .data, .data], laidTests := true, laidLooks := .later }
def DecodeMessageCardSaid : Prop := Claim7.holds Tryz.pinned (.plain (OpenSpec.ofChange decodeMessageSpec)) decodeMessageCard

/-- THE TIED CARD OF 'sheavelaw10.DecodeExplain'. -/
def decodeExplainCard : Claim7 := { stood := { row := decodeExplainRow, standIns := [], harness := (true, "a99b3f65dcef042eb6122efbb92f2e10a573cf21720953b13b2de121ec7d0cc7"), looks := false }, kinds := [], alts := [], laidByText := true, laidKinds := [.data, .data, .data, .data], laidTests := true, laidLooks := .later }
def DecodeExplainCardSaid : Prop := Claim7.holds Tryz.pinned (.plain (OpenSpec.ofChange decodeExplainSpec)) decodeExplainCard

/-- THE TIED CARD OF 'sheavelaw10.DecodeRestores'. -/
def decodeRestoresCard : Claim7 := { stood := { row := decodeRestoresRow, standIns := [], harness := (true, "a99b3f65dcef042eb6122efbb92f2e10a573cf21720953b13b2de121ec7d0cc7"), looks := false }, kinds := [], alts := [], laidByText := true, laidKinds := [.data, .data, .data, .data], laidTests := true, laidLooks := .later }
def DecodeRestoresCardSaid : Prop := Claim7.holds Tryz.pinned (.plain (OpenSpec.ofChange decodeRestoresSpec)) decodeRestoresCard

/-- THE TIED CARD OF 'sheavelaw10.DecodeReader'. -/
def decodeReaderCard : Claim7 := { stood := { row := decodeReaderRow, standIns := [], harness := (true, "a99b3f65dcef042eb6122efbb92f2e10a573cf21720953b13b2de121ec7d0cc7"), looks := false }, kinds := [], alts := [], laidByText := true, laidKinds := [.data, .data, .data, .data], laidTests := true, laidLooks := .later }
def DecodeReaderCardSaid : Prop := Claim7.holds Tryz.pinned (.plain (OpenSpec.ofChange decodeReaderSpec)) decodeReaderCard

/-- THE TIED CARD OF 'sheavelaw10.DecodeFirst'. -/
def decodeFirstCard : Claim7 := { stood := { row := decodeFirstRow, standIns := [], harness := (true, "a99b3f65dcef042eb6122efbb92f2e10a573cf21720953b13b2de121ec7d0cc7"), looks := false }, kinds := [], alts := [], laidByText := true, laidKinds := [.data, .data, .data, .data], laidTests := true, laidLooks := .later }
def DecodeFirstCardSaid : Prop := Claim7.holds Tryz.pinned (.plain (OpenSpec.ofChange decodeFirstSpec)) decodeFirstCard

/-- THE TIED CARD OF 'sheavelaw10.DecodeDefaults'. -/
def decodeDefaultsCard : Claim7 := { stood := { row := decodeDefaultsRow, standIns := [], harness := (true, "a99b3f65dcef042eb6122efbb92f2e10a573cf21720953b13b2de121ec7d0cc7"), looks := false }, kinds := [], alts := [], laidByText := true, laidKinds := [.data, .data, .data, .data], laidTests := true, laidLooks := .later }
def DecodeDefaultsCardSaid : Prop := Claim7.holds Tryz.pinned (.plain (OpenSpec.ofChange decodeDefaultsSpec)) decodeDefaultsCard

/-- THE SECOND FORM's CARD OF 'sheavelaw10.DecodeMessage'. -/
def decodeMessageUptoCard : Claim7 := { stood := { row := decodeMessageUptoRow, standIns := [], harness := (true, "a99b3f65dcef042eb6122efbb92f2e10a573cf21720953b13b2de121ec7d0cc7"), looks := false }, kinds := [], alts := [], laidByText := true, laidKinds := [.data, .data, .data, .data], laidTests := true, laidLooks := .later }
def DecodeMessageUptoCardSaid : Prop := Claim7.holds Tryz.pinned (.plain (OpenSpec.upto decodeMessageSpec)) decodeMessageUptoCard

/-- THE SECOND FORM's CARD OF 'sheavelaw10.DecodeExplain'. -/
def decodeExplainUptoCard : Claim7 := { stood := { row := decodeExplainUptoRow, standIns := [], harness := (true, "a99b3f65dcef042eb6122efbb92f2e10a573cf21720953b13b2de121ec7d0cc7"), looks := false }, kinds := [], alts := [], laidByText := true, laidKinds := [.data, .data, .data, .data], laidTests := true, laidLooks := .later }
def DecodeExplainUptoCardSaid : Prop := Claim7.holds Tryz.pinned (.plain (OpenSpec.upto decodeExplainSpec)) decodeExplainUptoCard

/-- THE SECOND FORM's CARD OF 'sheavelaw10.DecodeRestores'. -/
def decodeRestoresUptoCard : Claim7 := { stood := { row := decodeRestoresUptoRow, standIns := [], harness := (true, "a99b3f65dcef042eb6122efbb92f2e10a573cf21720953b13b2de121ec7d0cc7"), looks := false }, kinds := [], alts := [], laidByText := true, laidKinds := [.data, .data, .data, .data], laidTests := true, laidLooks := .later }
def DecodeRestoresUptoCardSaid : Prop := Claim7.holds Tryz.pinned (.plain (OpenSpec.upto decodeRestoresSpec)) decodeRestoresUptoCard

/-- THE SECOND FORM's CARD OF 'sheavelaw10.DecodeReader'. -/
def decodeReaderUptoCard : Claim7 := { stood := { row := decodeReaderUptoRow, standIns := [], harness := (true, "a99b3f65dcef042eb6122efbb92f2e10a573cf21720953b13b2de121ec7d0cc7"), looks := false }, kinds := [], alts := [], laidByText := true, laidKinds := [.data, .data, .data, .data], laidTests := true, laidLooks := .later }
def DecodeReaderUptoCardSaid : Prop := Claim7.holds Tryz.pinned (.plain (OpenSpec.upto decodeReaderSpec)) decodeReaderUptoCard

/-- THE SECOND FORM's CARD OF 'sheavelaw10.DecodeFirst'. -/
def decodeFirstUptoCard : Claim7 := { stood := { row := decodeFirstUptoRow, standIns := [], harness := (true, "a99b3f65dcef042eb6122efbb92f2e10a573cf21720953b13b2de121ec7d0cc7"), looks := false }, kinds := [], alts := [], laidByText := true, laidKinds := [.data, .data, .data, .data], laidTests := true, laidLooks := .later }
def DecodeFirstUptoCardSaid : Prop := Claim7.holds Tryz.pinned (.plain (OpenSpec.upto decodeFirstSpec)) decodeFirstUptoCard

/-- THE SECOND FORM's CARD OF 'sheavelaw10.DecodeDefaults'. -/
def decodeDefaultsUptoCard : Claim7 := { stood := { row := decodeDefaultsUptoRow, standIns := [], harness := (true, "a99b3f65dcef042eb6122efbb92f2e10a573cf21720953b13b2de121ec7d0cc7"), looks := false }, kinds := [], alts := [], laidByText := true, laidKinds := [.data, .data, .data, .data], laidTests := true, laidLooks := .later }
def DecodeDefaultsUptoCardSaid : Prop := Claim7.holds Tryz.pinned (.plain (OpenSpec.upto decodeDefaultsSpec)) decodeDefaultsUptoCard
end Rows
end Go.Proofs.YthkfapcadhnaeaaGreatDoor

/-
  DERIVED. GIVEN WITH THE SEED: THE CARDS: each row of YtlamhkffnlgofaaGreatDoorRows.lean that lists a variable, with what it lists TIED to the program's text (the seventh form; the later family's looks); each row that meets fmt, with fmt's text TOLD by the authors' own Lean function (tested against real Go, not proved from fmt's source: count such statements apart). THE CARD IS WHAT COUNTS. Prove the row's statement (the work); the ties are given (YtlamhkffnlgofaaGreatDoorTie.lean); close each card by the builder's one call (the guide's Derived/Test/ToyasCard.lean, 'card_holds'). Laid BY PROGRAM, IN A SANDBOX (cutbox-door.mjs). By AI agents, Wed Nov 11 2026. No macro, syntax, notation, axiom, sorry.
-/
import Derived.Test.YtlamhkffnlgofaaGreatDoorRows
import GoSem.ClaimSeven
namespace Go.Proofs.YtlamhkffnlgofaaGreatDoor
namespace Rows

/-- THE TIED CARD OF 'sheavelaw19.FingerprintAdd'. -/
def fingerprintAddCard : Claim7 := { stood := { row := fingerprintAddRow, standIns := [], harness := (true, "849d1702de479b0317690f68d0c1057fc359a578cdcd6c4b88e0746c038c75cd"), looks := false }, kinds := [], alts := [], laidByText := true, laidKinds := [.data, .data, .data], laidTests := true, laidLooks := .later }
def FingerprintAddCardSaid : Prop := Claim7.holds Tryz.pinned (.plain (OpenSpec.ofChange fingerprintAddSpec)) fingerprintAddCard

/-- THE TIED CARD OF 'sheavelaw19.FingerprintRegistry'. -/
def fingerprintRegistryCard : Claim7 := { stood := { row := fingerprintRegistryRow, standIns := [], harness := (true, "849d1702de479b0317690f68d0c1057fc359a578cdcd6c4b88e0746c038c75cd"), looks := false }, kinds := [], alts := [], laidByText := true, laidKinds := [.data, .data, .data], laidTests := true, laidLooks := .later }
def FingerprintRegistryCardSaid : Prop := Claim7.holds Tryz.pinned (.plain (OpenSpec.ofChange fingerprintRegistrySpec)) fingerprintRegistryCard

/-- THE TIED CARD OF 'sheavelaw19.FingerprintBytes'. -/
def fingerprintBytesCard : Claim7 := { stood := { row := fingerprintBytesRow, standIns := [], harness := (true, "849d1702de479b0317690f68d0c1057fc359a578cdcd6c4b88e0746c038c75cd"), looks := false }, kinds := [], alts := [], laidByText := true, laidKinds := [.data, .data, .data], laidTests := true, laidLooks := .later }
def FingerprintBytesCardSaid : Prop := Claim7.holds Tryz.pinned (.plain (OpenSpec.ofChange fingerprintBytesSpec)) fingerprintBytesCard

/-- THE TIED CARD OF 'sheavelaw19.FingerprintEqual'. -/
def fingerprintEqualCard : Claim7 := { stood := { row := fingerprintEqualRow, standIns := [], harness := (true, "849d1702de479b0317690f68d0c1057fc359a578cdcd6c4b88e0746c038c75cd"), looks := false }, kinds := [], alts := [], laidByText := true, laidKinds := [.data, .data, .data], laidTests := true, laidLooks := .later }
def FingerprintEqualCardSaid : Prop := Claim7.holds Tryz.pinned (.plain (OpenSpec.ofChange fingerprintEqualSpec)) fingerprintEqualCard

/-- THE TIED CARD OF 'sheavelaw19.FingerprintCopies'. -/
def fingerprintCopiesCard : Claim7 := { stood := { row := fingerprintCopiesRow, standIns := [], harness := (true, "849d1702de479b0317690f68d0c1057fc359a578cdcd6c4b88e0746c038c75cd"), looks := false }, kinds := [], alts := [], laidByText := true, laidKinds := [.data, .data, .data], laidTests := true, laidLooks := .later }
def FingerprintCopiesCardSaid : Prop := Claim7.holds Tryz.pinned (.plain (OpenSpec.ofChange fingerprintCopiesSpec)) fingerprintCopiesCard

/-- THE TIED CARD OF 'sheavelaw19.FingerprintRestored'. -/
def fingerprintRestoredCard : Claim7 := { stood := { row := fingerprintRestoredRow, standIns := [], harness := (true, "849d1702de479b0317690f68d0c1057fc359a578cdcd6c4b88e0746c038c75cd"), looks := false }, kinds := [], alts := [], laidByText := true, laidKinds := [.data, .data, .data], laidTests := true, laidLooks := .later }
def FingerprintRestoredCardSaid : Prop := Claim7.holds Tryz.pinned (.plain (OpenSpec.ofChange fingerprintRestoredSpec)) fingerprintRestoredCard

/-- THE TIED CARD OF 'sheavelaw19.FingerprintWrap'. -/
def fingerprintWrapCard : Claim7 := { stood := { row := fingerprintWrapRow, standIns := [], harness := (true, "849d1702de479b0317690f68d0c1057fc359a578cdcd6c4b88e0746c038c75cd"), looks := false }, kinds := [], alts := [], laidByText := true, laidKinds := [.data, .data, .data], laidTests := true, laidLooks := .later }
def FingerprintWrapCardSaid : Prop := Claim7.holds Tryz.pinned (.plain (OpenSpec.ofChange fingerprintWrapSpec)) fingerprintWrapCard

/-- THE SECOND FORM's CARD OF 'sheavelaw19.FingerprintAdd'. -/
def fingerprintAddUptoCard : Claim7 := { stood := { row := fingerprintAddUptoRow, standIns := [], harness := (true, "849d1702de479b0317690f68d0c1057fc359a578cdcd6c4b88e0746c038c75cd"), looks := false }, kinds := [], alts := [], laidByText := true, laidKinds := [.data, .data, .data], laidTests := true, laidLooks := .later }
def FingerprintAddUptoCardSaid : Prop := Claim7.holds Tryz.pinned (.plain (OpenSpec.upto fingerprintAddSpec)) fingerprintAddUptoCard

/-- THE SECOND FORM's CARD OF 'sheavelaw19.FingerprintRegistry'. -/
def fingerprintRegistryUptoCard : Claim7 := { stood := { row := fingerprintRegistryUptoRow, standIns := [], harness := (true, "849d1702de479b0317690f68d0c1057fc359a578cdcd6c4b88e0746c038c75cd"), looks := false }, kinds := [], alts := [], laidByText := true, laidKinds := [.data, .data, .data], laidTests := true, laidLooks := .later }
def FingerprintRegistryUptoCardSaid : Prop := Claim7.holds Tryz.pinned (.plain (OpenSpec.upto fingerprintRegistrySpec)) fingerprintRegistryUptoCard

/-- THE SECOND FORM's CARD OF 'sheavelaw19.FingerprintBytes'. -/
def fingerprintBytesUptoCard : Claim7 := { stood := { row := fingerprintBytesUptoRow, standIns := [], harness := (true, "849d1702de479b0317690f68d0c1057fc359a578cdcd6c4b88e0746c038c75cd"), looks := false }, kinds := [], alts := [], laidByText := true, laidKinds := [.data, .data, .data], laidTests := true, laidLooks := .later }
def FingerprintBytesUptoCardSaid : Prop := Claim7.holds Tryz.pinned (.plain (OpenSpec.upto fingerprintBytesSpec)) fingerprintBytesUptoCard

/-- THE SECOND FORM's CARD OF 'sheavelaw19.FingerprintEqual'. -/
def fingerprintEqualUptoCard : Claim7 := { stood := { row := fingerprintEqualUptoRow, standIns := [], harness := (true, "849d1702de479b0317690f68d0c1057fc359a578cdcd6c4b88e0746c038c75cd"), looks := false }, kinds := [], alts := [], laidByText := true, laidKinds := [.data, .data, .data], laidTests := true, laidLooks := .later }
def FingerprintEqualUptoCardSaid : Prop := Claim7.holds Tryz.pinned (.plain (OpenSpec.upto fingerprintEqualSpec)) fingerprintEqualUptoCard

/-- THE SECOND FORM's CARD OF 'sheavelaw19.FingerprintCopies'. -/
def fingerprintCopiesUptoCard : Claim7 := { stood := { row := fingerprintCopiesUptoRow, standIns := [], harness := (true, "849d1702de479b0317690f68d0c1057fc359a578cdcd6c4b88e0746c038c75cd"), looks := false }, kinds := [], alts := [], laidByText := true, laidKinds := [.data, .data, .data], laidTests := true, laidLooks := .later }
def FingerprintCopiesUptoCardSaid : Prop := Claim7.holds Tryz.pinned (.plain (OpenSpec.upto fingerprintCopiesSpec)) fingerprintCopiesUptoCard

/-- THE SECOND FORM's CARD OF 'sheavelaw19.FingerprintRestored'. -/
def fingerprintRestoredUptoCard : Claim7 := { stood := { row := fingerprintRestoredUptoRow, standIns := [], harness := (true, "849d1702de479b0317690f68d0c1057fc359a578cdcd6c4b88e0746c038c75cd"), looks := false }, kinds := [], alts := [], laidByText := true, laidKinds := [.data, .data, .data], laidTests := true, laidLooks := .later }
def FingerprintRestoredUptoCardSaid : Prop := Claim7.holds Tryz.pinned (.plain (OpenSpec.upto fingerprintRestoredSpec)) fingerprintRestoredUptoCard

/-- THE SECOND FORM's CARD OF 'sheavelaw19.FingerprintWrap'. -/
def fingerprintWrapUptoCard : Claim7 := { stood := { row := fingerprintWrapUptoRow, standIns := [], harness := (true, "849d1702de479b0317690f68d0c1057fc359a578cdcd6c4b88e0746c038c75cd"), looks := false }, kinds := [], alts := [], laidByText := true, laidKinds := [.data, .data, .data], laidTests := true, laidLooks := .later }
def FingerprintWrapUptoCardSaid : Prop := Claim7.holds Tryz.pinned (.plain (OpenSpec.upto fingerprintWrapSpec)) fingerprintWrapUptoCard
end Rows
end Go.Proofs.YtlamhkffnlgofaaGreatDoor

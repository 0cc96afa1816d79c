/-
  DERIVED. GIVEN WITH THE SEED: THE CARDS: each row of YtjeekocidaogoaaGreatDoorRows.lean that lists a variable, with what it lists TIED to the program's text (the seventh form; the later family's looks); each row that meets fmt, with fmt's text TOLD by the authors' own Lean function (tested against real Go, not proved from fmt's source: count such statements apart). THE CARD IS WHAT COUNTS. Prove the row's statement (the work); the ties are given (YtjeekocidaogoaaGreatDoorTie.lean); close each card by the builder's one call (the guide's Derived/Test/ToyasCard.lean, 'card_holds'). Laid BY PROGRAM, IN A SANDBOX (cutbox-door.mjs). By AI agents, Wed Nov 11 2026. No macro, syntax, notation, axiom, sorry.
-/
import Derived.Test.YtjeekocidaogoaaGreatDoorRows
import GoSem.ClaimSeven
namespace Go.Proofs.YtjeekocidaogoaaGreatDoor
namespace Rows

/-- THE TIED CARD OF 'lychgatelaw09.SyntaxParses'. -/
def syntaxParsesCard : Claim7 := { stood := { row := syntaxParsesRow, standIns := [], harness := (true, "58ff43c12b6aad4e36fbac8b38aded5c149d803a9825d38f4b416736806298a4"), looks := true }, kinds := [], alts := [], laidByText := true, laidKinds := [.data, .data, .data, .data, .sentinel, .sentinel, .listed, .data, .pinned], laidTests := true, laidLooks := .later }
def SyntaxParsesCardSaid : Prop := Claim7.holds Tryz.pinned (.plain (OpenSpec.ofChange syntaxParsesSpec)) syntaxParsesCard

/-- THE TIED CARD OF 'lychgatelaw09.SyntaxNear'. -/
def syntaxNearCard : Claim7 := { stood := { row := syntaxNearRow, standIns := [], harness := (true, "58ff43c12b6aad4e36fbac8b38aded5c149d803a9825d38f4b416736806298a4"), looks := true }, kinds := [], alts := [], laidByText := true, laidKinds := [.data, .data, .data, .data, .sentinel, .sentinel, .listed, .data, .pinned], laidTests := true, laidLooks := .later }
def SyntaxNearCardSaid : Prop := Claim7.holds Tryz.pinned (.plain (OpenSpec.ofChange syntaxNearSpec)) syntaxNearCard

/-- THE TIED CARD OF 'lychgatelaw09.SyntaxPrints'. -/
def syntaxPrintsCard : Claim7 := { stood := { row := syntaxPrintsRow, standIns := [], harness := (true, "58ff43c12b6aad4e36fbac8b38aded5c149d803a9825d38f4b416736806298a4"), looks := true }, kinds := [], alts := [], laidByText := true, laidKinds := [.data, .data, .data, .data, .sentinel, .sentinel, .listed, .data, .pinned], laidTests := true, laidLooks := .later }
def SyntaxPrintsCardSaid : Prop := Claim7.holds Tryz.pinned (.plain (OpenSpec.ofChange syntaxPrintsSpec)) syntaxPrintsCard

/-- THE TIED CARD OF 'lychgatelaw09.SyntaxBack'. -/
def syntaxBackCard : Claim7 := { stood := { row := syntaxBackRow, standIns := [], harness := (true, "58ff43c12b6aad4e36fbac8b38aded5c149d803a9825d38f4b416736806298a4"), looks := true }, kinds := [], alts := [], laidByText := true, laidKinds := [.data, .data, .data, .data, .sentinel, .sentinel, .listed, .data, .pinned], laidTests := true, laidLooks := .later }
def SyntaxBackCardSaid : Prop := Claim7.holds Tryz.pinned (.plain (OpenSpec.ofChange syntaxBackSpec)) syntaxBackCard

/-- THE TIED CARD OF 'lychgatelaw09.SyntaxPlaces'. -/
def syntaxPlacesCard : Claim7 := { stood := { row := syntaxPlacesRow, standIns := [], harness := (true, "58ff43c12b6aad4e36fbac8b38aded5c149d803a9825d38f4b416736806298a4"), looks := true }, kinds := [], alts := [], laidByText := true, laidKinds := [.data, .data, .data, .data, .sentinel, .sentinel, .listed, .data, .pinned], laidTests := true, laidLooks := .later }
def SyntaxPlacesCardSaid : Prop := Claim7.holds Tryz.pinned (.plain (OpenSpec.ofChange syntaxPlacesSpec)) syntaxPlacesCard

/-- THE SECOND FORM's CARD OF 'lychgatelaw09.SyntaxParses'. -/
def syntaxParsesUptoCard : Claim7 := { stood := { row := syntaxParsesUptoRow, standIns := [], harness := (true, "58ff43c12b6aad4e36fbac8b38aded5c149d803a9825d38f4b416736806298a4"), looks := true }, kinds := [], alts := [], laidByText := true, laidKinds := [.data, .data, .data, .data, .sentinel, .sentinel, .listed, .data, .pinned], laidTests := true, laidLooks := .later }
def SyntaxParsesUptoCardSaid : Prop := Claim7.holds Tryz.pinned (.plain (OpenSpec.upto syntaxParsesSpec)) syntaxParsesUptoCard

/-- THE SECOND FORM's CARD OF 'lychgatelaw09.SyntaxNear'. -/
def syntaxNearUptoCard : Claim7 := { stood := { row := syntaxNearUptoRow, standIns := [], harness := (true, "58ff43c12b6aad4e36fbac8b38aded5c149d803a9825d38f4b416736806298a4"), looks := true }, kinds := [], alts := [], laidByText := true, laidKinds := [.data, .data, .data, .data, .sentinel, .sentinel, .listed, .data, .pinned], laidTests := true, laidLooks := .later }
def SyntaxNearUptoCardSaid : Prop := Claim7.holds Tryz.pinned (.plain (OpenSpec.upto syntaxNearSpec)) syntaxNearUptoCard

/-- THE SECOND FORM's CARD OF 'lychgatelaw09.SyntaxPrints'. -/
def syntaxPrintsUptoCard : Claim7 := { stood := { row := syntaxPrintsUptoRow, standIns := [], harness := (true, "58ff43c12b6aad4e36fbac8b38aded5c149d803a9825d38f4b416736806298a4"), looks := true }, kinds := [], alts := [], laidByText := true, laidKinds := [.data, .data, .data, .data, .sentinel, .sentinel, .listed, .data, .pinned], laidTests := true, laidLooks := .later }
def SyntaxPrintsUptoCardSaid : Prop := Claim7.holds Tryz.pinned (.plain (OpenSpec.upto syntaxPrintsSpec)) syntaxPrintsUptoCard

/-- THE SECOND FORM's CARD OF 'lychgatelaw09.SyntaxBack'. -/
def syntaxBackUptoCard : Claim7 := { stood := { row := syntaxBackUptoRow, standIns := [], harness := (true, "58ff43c12b6aad4e36fbac8b38aded5c149d803a9825d38f4b416736806298a4"), looks := true }, kinds := [], alts := [], laidByText := true, laidKinds := [.data, .data, .data, .data, .sentinel, .sentinel, .listed, .data, .pinned], laidTests := true, laidLooks := .later }
def SyntaxBackUptoCardSaid : Prop := Claim7.holds Tryz.pinned (.plain (OpenSpec.upto syntaxBackSpec)) syntaxBackUptoCard

/-- THE SECOND FORM's CARD OF 'lychgatelaw09.SyntaxPlaces'. -/
def syntaxPlacesUptoCard : Claim7 := { stood := { row := syntaxPlacesUptoRow, standIns := [], harness := (true, "58ff43c12b6aad4e36fbac8b38aded5c149d803a9825d38f4b416736806298a4"), looks := true }, kinds := [], alts := [], laidByText := true, laidKinds := [.data, .data, .data, .data, .sentinel, .sentinel, .listed, .data, .pinned], laidTests := true, laidLooks := .later }
def SyntaxPlacesUptoCardSaid : Prop := Claim7.holds Tryz.pinned (.plain (OpenSpec.upto syntaxPlacesSpec)) syntaxPlacesUptoCard
end Rows
end Go.Proofs.YtjeekocidaogoaaGreatDoor

/-
  DERIVED. GIVEN WITH THE SEED: THE CARDS: each row of YthllfnmebdjpfaaGreatDoorRows.lean that lists a variable, with what it lists TIED to the program's text (the seventh form; the later family's looks); each row that meets fmt, with fmt's text TOLD by the authors' own Lean function (tested against real Go, not proved from fmt's source: count such statements apart). THE CARD IS WHAT COUNTS. Prove the row's statement (the work); the ties are given (YthllfnmebdjpfaaGreatDoorTie.lean); close each card by the builder's one call (the guide's Derived/Test/ToyasCard.lean, 'card_holds'). Laid BY PROGRAM, IN A SANDBOX (cutbox-door.mjs). By AI agents, Wed Nov 11 2026. No macro, syntax, notation, axiom, sorry.
-/
import Derived.Test.YthllfnmebdjpfaaGreatDoorRows
import GoSem.ClaimSeven
namespace Go.Proofs.YthllfnmebdjpfaaGreatDoor
namespace Rows

/-- THE TIED CARD OF 'lychgatelaw08.LexScans'. -/
def lexScansCard : Claim7 := { stood := { row := lexScansRow, standIns := [], harness := (true, "18094d34954cd725f972fb1772940f518ea37ad5a7d6dea5633a5d38d2c6be27"), looks := true }, kinds := [], alts := [], laidByText := true, laidKinds := [.data, .data, .data, .data, .sentinel, .sentinel, .listed, .data, .pinned], laidTests := true, laidLooks := .later }
def LexScansCardSaid : Prop := Claim7.holds Tryz.pinned (.plain (OpenSpec.ofChange lexScansSpec)) lexScansCard

/-- THE SECOND FORM's CARD OF 'lychgatelaw08.LexScans'. -/
def lexScansUptoCard : Claim7 := { stood := { row := lexScansUptoRow, standIns := [], harness := (true, "18094d34954cd725f972fb1772940f518ea37ad5a7d6dea5633a5d38d2c6be27"), looks := true }, kinds := [], alts := [], laidByText := true, laidKinds := [.data, .data, .data, .data, .sentinel, .sentinel, .listed, .data, .pinned], laidTests := true, laidLooks := .later }
def LexScansUptoCardSaid : Prop := Claim7.holds Tryz.pinned (.plain (OpenSpec.upto lexScansSpec)) lexScansUptoCard
end Rows
end Go.Proofs.YthllfnmebdjpfaaGreatDoor

/-
  DERIVED. GIVEN WITH THE SEED: THE CARDS: each row of YthllfnmebdjpfaaDoorRows.lean that lists a variable, with what it lists TIED to the program's text (the seventh form; the later family's looks); each row that meets fmt, with fmt's text TOLD by the authors' own Lean function (tested against real Go, not proved from fmt's source: count such statements apart). THE CARD IS WHAT COUNTS. Prove the row's statement (the work); the ties are given (YthllfnmebdjpfaaDoorTie.lean); close each card by the builder's one call (the guide's Derived/Test/ToyasCard.lean, 'card_holds'). Laid BY PROGRAM, IN A SANDBOX (cutbox-door.mjs). By AI agents, Wed Nov 11 2026. No macro, syntax, notation, axiom, sorry.
-/
import Derived.Test.YthllfnmebdjpfaaDoorRows
import GoSem.ClaimSeven
namespace Go.Proofs.YthllfnmebdjpfaaDoor
namespace Rows

/-- THE TIED CARD OF 'lychgatelaw08.LexNames'. -/
def lexNamesCard : Claim7 := { stood := { row := lexNamesRow, standIns := [], harness := (true, "c0cc4fbeeea8b690cc5ff2de1a035c8a980159cd57dab7027ea470006f067105"), looks := true }, kinds := [], alts := [], laidByText := true, laidKinds := [.data, .data, .data, .data, .sentinel, .sentinel, .listed, .data, .pinned], laidTests := true, laidLooks := .later }
def LexNamesCardSaid : Prop := Claim7.holds Tryd.pinned (.plain (OpenSpec.ofChange lexNamesSpec)) lexNamesCard

/-- THE TIED CARD OF 'lychgatelaw08.LexSpread'. -/
def lexSpreadCard : Claim7 := { stood := { row := lexSpreadRow, standIns := [], harness := (true, "c0cc4fbeeea8b690cc5ff2de1a035c8a980159cd57dab7027ea470006f067105"), looks := true }, kinds := [], alts := [], laidByText := true, laidKinds := [.data, .data, .data, .data, .sentinel, .sentinel, .listed, .data, .pinned], laidTests := true, laidLooks := .later }
def LexSpreadCardSaid : Prop := Claim7.holds Tryd.pinned (.plain (OpenSpec.ofChange lexSpreadSpec)) lexSpreadCard

/-- THE TIED CARD OF 'lychgatelaw08.LexFaults'. -/
def lexFaultsCard : Claim7 := { stood := { row := lexFaultsRow, standIns := [], harness := (true, "c0cc4fbeeea8b690cc5ff2de1a035c8a980159cd57dab7027ea470006f067105"), looks := true }, kinds := [], alts := [], laidByText := true, laidKinds := [.data, .data, .data, .data, .sentinel, .sentinel, .listed, .data, .pinned], laidTests := true, laidLooks := .later }
def LexFaultsCardSaid : Prop := Claim7.holds Tryd.pinned (.plain (OpenSpec.ofChange lexFaultsSpec)) lexFaultsCard

/-- THE SECOND FORM's CARD OF 'lychgatelaw08.LexNames'. -/
def lexNamesUptoCard : Claim7 := { stood := { row := lexNamesUptoRow, standIns := [], harness := (true, "c0cc4fbeeea8b690cc5ff2de1a035c8a980159cd57dab7027ea470006f067105"), looks := true }, kinds := [], alts := [], laidByText := true, laidKinds := [.data, .data, .data, .data, .sentinel, .sentinel, .listed, .data, .pinned], laidTests := true, laidLooks := .later }
def LexNamesUptoCardSaid : Prop := Claim7.holds Tryd.pinned (.plain (OpenSpec.upto lexNamesSpec)) lexNamesUptoCard

/-- THE SECOND FORM's CARD OF 'lychgatelaw08.LexSpread'. -/
def lexSpreadUptoCard : Claim7 := { stood := { row := lexSpreadUptoRow, standIns := [], harness := (true, "c0cc4fbeeea8b690cc5ff2de1a035c8a980159cd57dab7027ea470006f067105"), looks := true }, kinds := [], alts := [], laidByText := true, laidKinds := [.data, .data, .data, .data, .sentinel, .sentinel, .listed, .data, .pinned], laidTests := true, laidLooks := .later }
def LexSpreadUptoCardSaid : Prop := Claim7.holds Tryd.pinned (.plain (OpenSpec.upto lexSpreadSpec)) lexSpreadUptoCard

/-- THE SECOND FORM's CARD OF 'lychgatelaw08.LexFaults'. -/
def lexFaultsUptoCard : Claim7 := { stood := { row := lexFaultsUptoRow, standIns := [], harness := (true, "c0cc4fbeeea8b690cc5ff2de1a035c8a980159cd57dab7027ea470006f067105"), looks := true }, kinds := [], alts := [], laidByText := true, laidKinds := [.data, .data, .data, .data, .sentinel, .sentinel, .listed, .data, .pinned], laidTests := true, laidLooks := .later }
def LexFaultsUptoCardSaid : Prop := Claim7.holds Tryd.pinned (.plain (OpenSpec.upto lexFaultsSpec)) lexFaultsUptoCard
end Rows
end Go.Proofs.YthllfnmebdjpfaaDoor

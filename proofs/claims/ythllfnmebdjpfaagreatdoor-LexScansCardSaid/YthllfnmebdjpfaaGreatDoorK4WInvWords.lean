/- Lemmas and contracts that the claim's theorem comes to. -/
import Derived.Test.YthllfnmebdjpfaaGreatDoorK4WInv
import Derived.Test.YthllfnmebdjpfaaGreatDoorK4WFootNe
namespace Go.Proofs.YthllfnmebdjpfaaGreatDoorW.PrintWords
open Go.RowKit
end Go.Proofs.YthllfnmebdjpfaaGreatDoorW.PrintWords
namespace Go.Proofs.YthllfnmebdjpfaaGreatDoorW.PrintLast
end Go.Proofs.YthllfnmebdjpfaaGreatDoorW.PrintLast

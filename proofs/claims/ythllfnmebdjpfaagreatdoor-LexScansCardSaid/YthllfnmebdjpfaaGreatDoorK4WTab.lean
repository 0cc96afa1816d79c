/- Lemmas and contracts that the claim's theorem comes to. -/
import Derived.Test.YthllfnmebdjpfaaGreatDoorK4WLast
import Derived.Test.YthllfnmebdjpfaaGreatDoorK4WWords
namespace Go.Proofs.YthllfnmebdjpfaaGreatDoorW.PrintLast
open Go.Proofs.YthllfnmebdjpfaaGreatDoorW.PrintWords (Aside0)
end Go.Proofs.YthllfnmebdjpfaaGreatDoorW.PrintLast

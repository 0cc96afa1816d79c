/- Lemmas and contracts that the claim's theorem comes to. -/
import Derived.Test.YthllfnmebdjpfaaGreatDoorK4WTab
namespace Go.Proofs.YthllfnmebdjpfaaGreatDoorW.PrintLast
end Go.Proofs.YthllfnmebdjpfaaGreatDoorW.PrintLast

/- Lemmas and contracts that the claim's theorem comes to. -/
import Derived.Test.YthllfnmebdjpfaaGreatDoorK4WFoot
namespace Go.Proofs.YthllfnmebdjpfaaGreatDoorW.PrintWords
open Go.RowKit
namespace Kd
end Kd
end Go.Proofs.YthllfnmebdjpfaaGreatDoorW.PrintWords

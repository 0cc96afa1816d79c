/- Lemmas and contracts that the claim's theorem comes to. -/
import Derived.Test.YthllfnmebdjpfaaDoorK3WN
namespace Go.Proofs.YthllfnmebdjpfaaDoorW.PrintWords
open Go.RowKit
namespace Kd
end Kd
end Go.Proofs.YthllfnmebdjpfaaDoorW.PrintWords

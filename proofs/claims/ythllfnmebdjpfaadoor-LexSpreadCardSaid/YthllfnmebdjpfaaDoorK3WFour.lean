/- Lemmas and contracts that the claim's theorem comes to. -/
import Derived.Test.YthllfnmebdjpfaaDoorK3WTab
namespace Go.Proofs.YthllfnmebdjpfaaDoorW.PrintLast
end Go.Proofs.YthllfnmebdjpfaaDoorW.PrintLast

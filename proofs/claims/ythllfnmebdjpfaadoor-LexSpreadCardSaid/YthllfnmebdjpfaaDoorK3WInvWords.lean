/- Lemmas and contracts that the claim's theorem comes to. -/
import Derived.Test.YthllfnmebdjpfaaDoorK3WInv
import Derived.Test.YthllfnmebdjpfaaDoorK3WFootNe
namespace Go.Proofs.YthllfnmebdjpfaaDoorW.PrintWords
open Go.RowKit
end Go.Proofs.YthllfnmebdjpfaaDoorW.PrintWords
namespace Go.Proofs.YthllfnmebdjpfaaDoorW.PrintLast
end Go.Proofs.YthllfnmebdjpfaaDoorW.PrintLast

/- Lemmas and contracts that the claim's theorem comes to. -/
import Derived.Test.YthllfnmebdjpfaaDoorK1WInv
import Derived.Test.YthllfnmebdjpfaaDoorK1WFootNe
namespace Go.Proofs.YthllfnmebdjpfaaDoorW.PrintWords
open Go.RowKit
end Go.Proofs.YthllfnmebdjpfaaDoorW.PrintWords
namespace Go.Proofs.YthllfnmebdjpfaaDoorW.PrintLast
end Go.Proofs.YthllfnmebdjpfaaDoorW.PrintLast

/- Lemmas and contracts that the claim's theorem comes to. -/
import Derived.Test.YthllfnmebdjpfaaDoorK2WInv
import Derived.Test.YthllfnmebdjpfaaDoorK2WFootNe
namespace Go.Proofs.YthllfnmebdjpfaaDoorW.PrintWords
open Go.RowKit
end Go.Proofs.YthllfnmebdjpfaaDoorW.PrintWords
namespace Go.Proofs.YthllfnmebdjpfaaDoorW.PrintLast
end Go.Proofs.YthllfnmebdjpfaaDoorW.PrintLast

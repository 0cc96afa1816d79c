/- Lemmas and contracts that the claim's theorem comes to. -/
import Derived.Test.YthllfnmebdjpfaaDoorK2WLast
import Derived.Test.YthllfnmebdjpfaaDoorK2WWords
namespace Go.Proofs.YthllfnmebdjpfaaDoorW.PrintLast
open Go.Proofs.YthllfnmebdjpfaaDoorW.PrintWords (Aside0)
end Go.Proofs.YthllfnmebdjpfaaDoorW.PrintLast

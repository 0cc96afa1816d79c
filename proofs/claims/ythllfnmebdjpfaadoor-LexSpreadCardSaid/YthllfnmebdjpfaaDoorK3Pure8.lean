/- Plain law: LexFaults. -/
import Derived.Test.YthllfnmebdjpfaaDoorK3Pure7
import Derived.Test.YthllfnmebdjpfaaDoorK3Hx9
namespace Go.Proofs.YthllfnmebdjpfaaDoor.H
open Go.RowKit Go.Proofs.YthllfnmebdjpfaaDoor.Hand Go.Proofs.YthllfnmebdjpfaaDoorW.PrintWords Go.Proofs.YthllfnmebdjpfaaDoorW.PrintLast Go.Proofs.YthllfnmebdjpfaaDoorW.PrintMore

theorem add_ev (a b : Int) (ha : 0 ≤ a ∧ a ≤ 281474976710656) (hb : 0 ≤ b ∧ b ≤ 281474976710656) : lychgatelaw08_add.f a b = some (if b > 2147483647 - a then 2147483648 else a + b) := by
  unfold lychgatelaw08_add.f
  rw [show wrap64 (2147483647 - a) = 2147483647 - a by unfold wrap64; omega]
  by_cases h : b > 2147483647 - a
  · rw [if_pos h, if_pos h]
  · rw [if_neg h, if_neg h, show wrap64 (a + b) = a + b by unfold wrap64; omega]

end Go.Proofs.YthllfnmebdjpfaaDoor.H

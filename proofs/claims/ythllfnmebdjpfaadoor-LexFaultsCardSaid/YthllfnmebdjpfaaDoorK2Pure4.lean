/- Plain law: names, of the program and of the reference; the law LexNames. -/
import Derived.Test.YthllfnmebdjpfaaDoorK2Pure3
import Derived.Test.YthllfnmebdjpfaaDoorK2Hx8
namespace Go.Proofs.YthllfnmebdjpfaaDoor.H
open Go.RowKit Go.Proofs.YthllfnmebdjpfaaDoor.Hand Go.Proofs.YthllfnmebdjpfaaDoorW.PrintWords Go.Proofs.YthllfnmebdjpfaaDoorW.PrintLast Go.Proofs.YthllfnmebdjpfaaDoorW.PrintMore

theorem wrap32_byte (c : Int) (h0 : 0 ≤ c) (h1 : c < 256) : wrap32 c = c := by unfold wrap32; omega
theorem goesS_3 (c : Int) : goesS 3 c = decide (97 ≤ c ∧ c ≤ 122 ∨ 48 ≤ c ∧ c ≤ 57 ∨ c = 95 ∨ c = 45) := by
  unfold goesS; rw [if_neg (by decide), if_neg (by decide), if_pos rfl]
theorem goesS_4 (c : Int) : goesS 4 c = decide (65 ≤ c ∧ c ≤ 90) := by
  unfold goesS; rw [if_neg (by decide), if_neg (by decide), if_neg (by decide), if_pos rfl]
theorem goesS_5 (c : Int) : goesS 5 c = decide (48 ≤ c ∧ c ≤ 57 ∨ c = 46 ∨ c = 47) := by
  unfold goesS; rw [if_neg (by decide), if_neg (by decide), if_neg (by decide), if_neg (by decide), if_pos rfl]
theorem awake_true : lychgatelaw08_awake.f 60 = some true := by decide +kernel
theorem awake_ev (k : Nat) (hk : 60 ≤ k) : lychgatelaw08_awake.f k = some true := at_rounds (fun k => lychgatelaw08_awake.mono k) hk awake_true

end Go.Proofs.YthllfnmebdjpfaaDoor.H

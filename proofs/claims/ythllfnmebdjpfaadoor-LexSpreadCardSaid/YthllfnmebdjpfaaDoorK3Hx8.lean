/- Contracts of Go functions as plain Lean functions, written by a program of this session (wip/hand) out of the translation. -/
import Derived.Test.YthllfnmebdjpfaaDoorK3Hx0
import Derived.Test.YthllfnmebdjpfaaDoorK3Hx2
import Derived.Test.YthllfnmebdjpfaaDoorK3Hx4
import Derived.Test.YthllfnmebdjpfaaDoorK3Hx6
import Derived.Test.YthllfnmebdjpfaaDoorK3Hx7
namespace Go.Proofs.YthllfnmebdjpfaaDoor.H
open Go.RowKit Go.Proofs.YthllfnmebdjpfaaDoor.Hand Go.Proofs.YthllfnmebdjpfaaDoorW.PrintWords Go.Proofs.YthllfnmebdjpfaaDoorW.PrintLast Go.Proofs.YthllfnmebdjpfaaDoorW.PrintMore
attribute [local go_sem] max2_int min2_int max_two min_two max_three min_three max_four min_four   -- for this text's walks alone
set_option linter.unusedVariables false
set_option linter.unusedSimpArgs false

def lychgateref08_IsName.j0 : Nat → ByteArray → Bool → Option (Bool)
  | 0, _, _ => none
  | k + 1, x0, x11 => if x11 = true then (some false) else (if 0 < (x0.size : Int) then ((lychgateref08_small.f (bt x0 0)).bind fun t245 => ((lychgateref08_IsWord.f k x0).bind fun t246 => (if t245 = true then (if t246 = true then (some false) else ((lychgateref08_run.f k 1 x0 0).bind fun t247 => (some (t247 == (x0.size : Int))))) else (some false)))) else (none))
def lychgateref08_IsName.f (k : Nat) (a0 : ByteArray) : Option (Bool) := if a0.toList = ([] : List UInt8) then (lychgateref08_IsName.j0 k a0 true) else (lychgateref08_IsName.j0 k a0 (decide ((a0.size : Int) > 32)))
def lychgatelaw08_LexNames.l0 : Nat → Bool → List ByteArray → Int → Option (Bool)
  | 0, _, _, _ => none
  | k + 1, x5, x6, x7 => if x7 < (x6.length : Int) then (if 0 ≤ x7 then ((lex_Quote.f k (rdOf ByteArray.empty x6 x7)).bind fun bt253 => ((lychgateref08_Quote.f k (rdOf ByteArray.empty x6 x7)).bind fun bt256 => ((lex_IsWord.f k (rdOf ByteArray.empty x6 x7)).bind fun t259 => ((lychgateref08_IsWord.f k (rdOf ByteArray.empty x6 x7)).bind fun t261 => (if (t259 != t261) = true then (none) else ((lex_IsName.f k (rdOf ByteArray.empty x6 x7)).bind fun t263 => ((lychgateref08_IsName.f k (rdOf ByteArray.empty x6 x7)).bind fun t265 => (if (t263 != t265) = true then (none) else (if bt253.1.toList = bt256.1.toList then (if bt253.2 = bt256.2 then (lychgatelaw08_LexNames.l0 k x5 x6 (wrap64 (x7 + 1))) else (none)) else (none)))))))))) else (none)) else (some x5)
def lychgatelaw08_LexNames.f (k : Nat) (a0 : ByteArray) (a1 : ByteArray) : Option (Bool) := (lychgatelaw08_awake.f k).bind fun t248 => (lychgatelaw08_LexNames.l0 k t248 (([a0, a1, a0] : List ByteArray)) 0)
def lychgatelaw08_add.f (a0 : Int) (a1 : Int) : Option (Int) := if a1 > (wrap64 (2147483647 - a0)) then (some 2147483648) else (some (wrap64 (a0 + a1)))
set_option maxHeartbeats 8000000 in
set_option maxRecDepth 100000 in
theorem lychgatelaw08_add.calls (a0 : Int) (a1 : Int) (r : Int) (w : World) (h : lychgatelaw08_add.f a0 a1 = some r) :
    Calls Tryd.prog 13 #[.int .i64 a0, .int .i64 a1] w fun e w' => e = .returned (.int .i64 r) ∧ Drawn0 w w' := by
  have H : (if a1 > (wrap64 (2147483647 - a0)) then (some 2147483648) else (some (wrap64 (a0 + a1)))) = some r := h
  clear h
  by_cases c3 : a1 > (wrap64 (2147483647 - a0))
  · rw [if_pos c3] at H
    have c3b0 : decide ((wrap64 (2147483647 - a0)) < a1) = true := decide_eq_true c3
    clear c3
    obtain rfl := Option.some.inj H
    go_enter Tryd.func13, Tryd.ntmps13
    go_wp2
    go_ret
    exact ⟨by first | rfl | (simp; done) | (simp [*]; done), by repeat (first | exact Drawn0.refl _ | apply Drawn0.step)⟩
  · rw [if_neg c3] at H
    have c3b0 : decide ((wrap64 (2147483647 - a0)) < a1) = false := decide_eq_false c3
    clear c3
    obtain rfl := Option.some.inj H
    go_enter Tryd.func13, Tryd.ntmps13
    go_wp2
    go_ret
    exact ⟨by first | rfl | (simp; done) | (simp [*]; done), by repeat (first | exact Drawn0.refl _ | apply Drawn0.step)⟩

end Go.Proofs.YthllfnmebdjpfaaDoor.H

/- Contracts of Go functions as plain Lean functions, written by a program of this session (wip/hand) out of the translation. -/
import Derived.Test.YthllfnmebdjpfaaDoorK3Hx0
namespace Go.Proofs.YthllfnmebdjpfaaDoor.H
open Go.RowKit Go.Proofs.YthllfnmebdjpfaaDoor.Hand Go.Proofs.YthllfnmebdjpfaaDoorW.PrintWords Go.Proofs.YthllfnmebdjpfaaDoorW.PrintLast Go.Proofs.YthllfnmebdjpfaaDoorW.PrintMore
attribute [local go_sem] max2_int min2_int max_two min_two max_three min_three max_four min_four   -- for this text's walks alone
set_option linter.unusedVariables false
set_option linter.unusedSimpArgs false

mutual
def lychgateref08_Quote.l0 : Nat → ByteArray → List Int → Int → Option (ByteArray × Int)
  | 0, _, _, _ => none
  | k + 1, x0, x4, x5 => if x5 < (x0.size : Int) then (if 0 ≤ x5 then (if (bt x0 x5) < 32 then (lychgateref08_Quote.j1 k x0 x4 x5 true) else (lychgateref08_Quote.j1 k x0 x4 x5 (decide ((bt x0 x5) > 126)))) else (none)) else (if x4.length < 140737488355328 then (some (strOfNums (x4 ++ [34]), 0)) else (none))
def lychgateref08_Quote.j1 : Nat → ByteArray → List Int → Int → Bool → Option (ByteArray × Int)
  | 0, _, _, _, _ => none
  | k + 1, x0, x4, x5, x25 => if x25 = true then (some ((⟨#[]⟩ : ByteArray), 1)) else (if 0 ≤ x5 then (if x5 < (x0.size : Int) then (if (bt x0 x5) = 34 then (if x4.length < 140737488355328 then ((some (x4 ++ [92] : List Int)).bind fun y219 => (if y219.length < 140737488355328 then (lychgateref08_Quote.l0 k x0 (y219 ++ [bt x0 x5]) (wrap64 (x5 + 1))) else (none))) else (none)) else (if (bt x0 x5) = 92 then (if x4.length < 140737488355328 then ((some (x4 ++ [92] : List Int)).bind fun y225 => (if y225.length < 140737488355328 then (lychgateref08_Quote.l0 k x0 (y225 ++ [bt x0 x5]) (wrap64 (x5 + 1))) else (none))) else (none)) else (if x4.length < 140737488355328 then (lychgateref08_Quote.l0 k x0 (x4 ++ [bt x0 x5]) (wrap64 (x5 + 1))) else (none)))) else (none)) else (none))
end
def lychgateref08_Quote.f (k : Nat) (a0 : ByteArray) : Option (ByteArray × Int) := if (a0.size : Int) > 200 then (some ((⟨#[]⟩ : ByteArray), 1)) else (lychgateref08_Quote.l0 k a0 (([34] : List Int)) 0)
def lychgateref08_words.f  : Option (List ByteArray) := some (([(⟨#[108, 101, 116]⟩ : ByteArray), (⟨#[97, 108, 108, 111, 119]⟩ : ByteArray), (⟨#[100, 101, 110, 121]⟩ : ByteArray), (⟨#[119, 104, 101, 110]⟩ : ByteArray), (⟨#[97, 110, 100]⟩ : ByteArray), (⟨#[111, 114]⟩ : ByteArray), (⟨#[110, 111, 116]⟩ : ByteArray), (⟨#[116, 114, 117, 101]⟩ : ByteArray), (⟨#[102, 97, 108, 115, 101]⟩ : ByteArray), (⟨#[105, 110]⟩ : ByteArray), (⟨#[97, 100, 100, 114]⟩ : ByteArray), (⟨#[112, 111, 114, 116]⟩ : ByteArray), (⟨#[109, 101, 116, 104, 111, 100]⟩ : ByteArray), (⟨#[112, 97, 116, 104]⟩ : ByteArray), (⟨#[104, 101, 97, 100, 101, 114]⟩ : ByteArray), (⟨#[104, 97, 115]⟩ : ByteArray)] : List ByteArray))
def lychgateref08_IsWord.l0 : Nat → ByteArray → List ByteArray → Int → Option (Bool)
  | 0, _, _, _ => none
  | k + 1, x0, x3, x4 => if x4 < (x3.length : Int) then (if 0 ≤ x4 then (if (rdOf ByteArray.empty x3 x4).toList = x0.toList then (some true) else (lychgateref08_IsWord.l0 k x0 x3 (wrap64 (x4 + 1)))) else (none)) else (some false)
def lychgateref08_IsWord.f (k : Nat) (a0 : ByteArray) : Option (Bool) := (lychgateref08_words.f).bind fun t237 => (lychgateref08_IsWord.l0 k a0 t237 0)
def lychgateref08_small.f (a0 : Int) : Option (Bool) := if a0 ≥ 97 then (some (decide (a0 ≤ 122))) else (some false)
def lychgateref08_digit.f (a0 : Int) : Option (Bool) := if a0 ≥ 48 then (some (decide (a0 ≤ 57))) else (some false)
def lychgateref08_great.f (a0 : Int) : Option (Bool) := if a0 ≥ 65 then (some (decide (a0 ≤ 90))) else (some false)
def lychgateref08_within.f (a0 : Int) (a1 : Int) : Option (Bool) := (lychgateref08_small.f a1).bind fun t241 => ((lychgateref08_digit.f a1).bind fun t242 => ((lychgateref08_great.f a1).bind fun t243 => (if a0 = 1 then (if t241 = true then (some true) else (if t242 = true then (some true) else (if a1 = 95 then (some true) else (some (a1 == 45))))) else (if a0 = 2 then (some t243) else (if t242 = true then (some true) else (if a1 = 46 then (some true) else (some (a1 == 47))))))))
def lychgateref08_run.l0 : Nat → Int → ByteArray → Int → Option (Int)
  | 0, _, _, _ => none
  | k + 1, x0, x1, x2 => if x2 < (x1.size : Int) then (if 0 ≤ x2 then ((lychgateref08_within.f x0 (bt x1 x2)).bind fun t244 => (if t244 = true then (lychgateref08_run.l0 k x0 x1 (wrap64 (x2 + 1))) else (some x2))) else (none)) else (some x2)
def lychgateref08_run.f (k : Nat) (a0 : Int) (a1 : ByteArray) (a2 : Int) : Option (Int) := lychgateref08_run.l0 k a0 a1 a2
end Go.Proofs.YthllfnmebdjpfaaDoor.H

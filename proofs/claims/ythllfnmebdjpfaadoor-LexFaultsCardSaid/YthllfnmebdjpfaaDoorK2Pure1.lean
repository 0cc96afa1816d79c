/- Plain law: what Quote says, of the program and of the reference: the same text or error. -/
import Derived.Test.YthllfnmebdjpfaaDoorK2Hx2
import Derived.Test.YthllfnmebdjpfaaDoorK2Hx7
namespace Go.Proofs.YthllfnmebdjpfaaDoor.H
open Go.RowKit Go.Proofs.YthllfnmebdjpfaaDoor.Hand Go.Proofs.YthllfnmebdjpfaaDoorW.PrintWords Go.Proofs.YthllfnmebdjpfaaDoorW.PrintLast Go.Proofs.YthllfnmebdjpfaaDoorW.PrintMore

/-- A text's bytes. -/
abbrev bl (s : ByteArray) : List UInt8 := s.data.toList
theorem bl_length (s : ByteArray) : (bl s).length = s.size := by simp [bl]
theorem bt_nat (s : ByteArray) (i : Nat) (h : i < (bl s).length) : bt s (i : Int) = ((bl s)[i].toNat : Int) := by
  have h' : i < s.size := by rw [← bl_length]; exact h
  unfold bt
  rw [dif_pos (by simpa using h')]
  rfl
theorem drop_at (l : List UInt8) (i : Nat) (h : i < l.length) : l.drop i = l[i] :: l.drop (i + 1) := List.drop_eq_getElem_cons h
theorem wrap_nat (n : Nat) (h : n ≤ 140737488355328) : wrap64 ((n : Int) + 1) = ((n + 1 : Nat) : Int) := by unfold wrap64; omega

end Go.Proofs.YthllfnmebdjpfaaDoor.H

/- Plain law: what Quote says, of the program and of the reference: the same text or error. -/
import Derived.Test.YthllfnmebdjpfaaDoorK3Hx2
import Derived.Test.YthllfnmebdjpfaaDoorK3Hx7
namespace Go.Proofs.YthllfnmebdjpfaaDoor.H
open Go.RowKit Go.Proofs.YthllfnmebdjpfaaDoor.Hand Go.Proofs.YthllfnmebdjpfaaDoorW.PrintWords Go.Proofs.YthllfnmebdjpfaaDoorW.PrintLast Go.Proofs.YthllfnmebdjpfaaDoorW.PrintMore

/-- A text's bytes. -/
abbrev bl (s : ByteArray) : List UInt8 := s.data.toList
theorem bl_length (s : ByteArray) : (bl s).length = s.size := by simp [bl]
theorem bt_nat (s : ByteArray) (i : Nat) (h : i < (bl s).length) : bt s (i : Int) = ((bl s)[i].toNat : Int) := by
  have h' : i < s.size := by rw [← bl_length]; exact h
  unfold bt
  rw [dif_pos (by simpa using h')]
  rfl
theorem drop_at (l : List UInt8) (i : Nat) (h : i < l.length) : l.drop i = l[i] :: l.drop (i + 1) := List.drop_eq_getElem_cons h
theorem wrap_nat (n : Nat) (h : n ≤ 140737488355328) : wrap64 ((n : Int) + 1) = ((n + 1 : Nat) : Int) := by unfold wrap64; omega

/-- A byte that may not stand in quotes. -/
def qBad (b : UInt8) : Bool := decide (b.toNat < 32) || decide (126 < b.toNat)
/-- A byte as it stands in quotes. -/
def qEsc (b : UInt8) : List Int := if b.toNat = 34 ∨ b.toNat = 92 then [92, (b.toNat : Int)] else [(b.toNat : Int)]
def qRes (l : List UInt8) (acc : List Int) : ByteArray × Int := if l.any qBad = true then (⟨#[]⟩, 1) else (strOfNums (acc ++ l.flatMap qEsc ++ [34]), 0)
theorem qRes_nil (acc : List Int) : qRes [] acc = (strOfNums (acc ++ [34]), 0) := by simp [qRes]
theorem qRes_bad (b : UInt8) (l : List UInt8) (acc : List Int) (h : qBad b = true) : qRes (b :: l) acc = (⟨#[]⟩, 1) := by simp [qRes, h]
theorem qRes_good (b : UInt8) (l : List UInt8) (acc : List Int) (h : qBad b = false) : qRes (b :: l) acc = qRes l (acc ++ qEsc b) := by
  simp [qRes, h, List.append_assoc]
/-- What Quote answers. -/
def quoteS (s : ByteArray) : ByteArray × Int := if (s.size : Int) > 200 then (⟨#[]⟩, 1) else qRes (bl s) [34]

theorem lex_quote_l0 (s : ByteArray) (hn : s.size ≤ 200) : ∀ (d i k : Nat) (acc : List Int), i + d = (bl s).length → 2 * d + 1 ≤ k → acc.length + 2 * d ≤ 1000 → lex_Quote.l0 k s acc (s.size : Int) (i : Int) = some (qRes ((bl s).drop i) acc) := by
  have hz := bl_length s
  intro d
  induction d with
  | zero =>
    intro i k acc hi hk ha
    obtain ⟨k, rfl⟩ : ∃ m, k = m + 1 := ⟨k - 1, by omega⟩
    rw [List.drop_of_length_le (by omega), qRes_nil]
    simp only [lex_Quote.l0]
    rw [if_neg (by omega), if_pos (by omega)]
  | succ d ih =>
    intro i k acc hi hk ha
    obtain ⟨k, rfl⟩ : ∃ m, k = m + 1 + 1 := ⟨k - 2, by omega⟩
    have hlt : i < (bl s).length := by omega
    have hb := bt_nat s i hlt
    have hw := wrap_nat i (by omega)
    rw [drop_at _ i hlt]
    simp only [lex_Quote.l0]
    rw [if_pos (by omega), if_pos (by omega), if_pos (by omega), hb]
    have hbr := (bl s)[i].toNat_lt
    generalize hB : (bl s)[i] = b at hbr
    by_cases h32 : (b.toNat : Int) < 32
    · rw [if_pos h32]
      simp only [lex_Quote.j1]
      rw [if_pos trivial, qRes_bad _ _ _ (by simp [qBad]; omega)]
    · rw [if_neg h32]
      simp only [lex_Quote.j1]
      by_cases h126 : (b.toNat : Int) > 126
      · rw [if_pos (decide_eq_true h126), qRes_bad _ _ _ (by simp [qBad]; omega)]
      · rw [if_neg (by simpa using h126), qRes_good _ _ _ (by simp [qBad]; omega)]
        by_cases h34 : (b.toNat : Int) = 34
        · rw [if_pos h34, if_pos (by omega)]
          simp only [Option.bind_some]
          rw [if_pos (by simp; omega), hw, ih (i + 1) k _ (by omega) (by omega) (by simp; omega)]
          have e : qEsc b = [92, (b.toNat : Int)] := by unfold qEsc; rw [if_pos (by omega)]
          rw [e, List.append_assoc]; rfl
        · rw [if_neg h34]
          by_cases h92 : (b.toNat : Int) = 92
          · rw [if_pos h92, if_pos (by omega)]
            simp only [Option.bind_some]
            rw [if_pos (by simp; omega), hw, ih (i + 1) k _ (by omega) (by omega) (by simp; omega)]
            have e : qEsc b = [92, (b.toNat : Int)] := by unfold qEsc; rw [if_pos (by omega)]
            rw [e, List.append_assoc]; rfl
          · rw [if_neg h92, if_pos (by omega), hw, ih (i + 1) k _ (by omega) (by omega) (by simp; omega)]
            have e : qEsc b = [(b.toNat : Int)] := by unfold qEsc; rw [if_neg (by omega)]
            rw [e]

theorem lex_quote_ev (s : ByteArray) (k : Nat) (hk : 1000 ≤ k) : lex_Quote.f k s = some (quoteS s) := by
  unfold lex_Quote.f quoteS
  by_cases h : (s.size : Int) > 200
  · rw [if_pos h, if_pos h]
  · rw [if_neg h, if_neg h]
    have := lex_quote_l0 s (by omega) (bl s).length 0 k [34] (by omega) (by rw [bl_length]; omega) (by rw [bl_length]; simp; omega)
    simpa using this

end Go.Proofs.YthllfnmebdjpfaaDoor.H

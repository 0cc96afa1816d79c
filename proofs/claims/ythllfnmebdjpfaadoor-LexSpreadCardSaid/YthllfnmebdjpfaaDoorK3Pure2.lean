/- Plain law: words, names, runs, of the program and of the reference. -/
import Derived.Test.YthllfnmebdjpfaaDoorK3Pure1
import Derived.Test.YthllfnmebdjpfaaDoorK3Hx4
import Derived.Test.YthllfnmebdjpfaaDoorK3Hx8
namespace Go.Proofs.YthllfnmebdjpfaaDoor.H
open Go.RowKit Go.Proofs.YthllfnmebdjpfaaDoor.Hand Go.Proofs.YthllfnmebdjpfaaDoorW.PrintWords Go.Proofs.YthllfnmebdjpfaaDoorW.PrintLast Go.Proofs.YthllfnmebdjpfaaDoorW.PrintMore

def wordsL : List ByteArray := [⟨#[108, 101, 116]⟩, ⟨#[97, 108, 108, 111, 119]⟩, ⟨#[100, 101, 110, 121]⟩, ⟨#[119, 104, 101, 110]⟩, ⟨#[97, 110, 100]⟩, ⟨#[111, 114]⟩, ⟨#[110, 111, 116]⟩, ⟨#[116, 114, 117, 101]⟩, ⟨#[102, 97, 108, 115, 101]⟩, ⟨#[105, 110]⟩, ⟨#[97, 100, 100, 114]⟩, ⟨#[112, 111, 114, 116]⟩, ⟨#[109, 101, 116, 104, 111, 100]⟩, ⟨#[112, 97, 116, 104]⟩, ⟨#[104, 101, 97, 100, 101, 114]⟩, ⟨#[104, 97, 115]⟩]
/-- Is a text one of some texts? -/
def isIn (xs : List ByteArray) (s : ByteArray) : Bool := xs.any fun w => decide (w.toList = s.toList)
theorem isIn_cons (a : ByteArray) (l : List ByteArray) (s : ByteArray) : isIn (a :: l) s = (decide (a.toList = s.toList) || isIn l s) := by simp only [isIn, List.any_cons]
def isWordS (s : ByteArray) : Bool := isIn wordsL s

theorem index_l0 (xs : List ByteArray) (s : ByteArray) (hn : xs.length ≤ 100000) : ∀ (d i k : Nat), i + d = xs.length → d + 1 ≤ k → ∃ r : Int, slices_Index_string_string.l0 k xs s (xs.length : Int) (i : Int) = some r ∧ (0 ≤ r ↔ isIn (xs.drop i) s = true) := by
  intro d
  induction d with
  | zero =>
    intro i k hi hk
    obtain ⟨k, rfl⟩ : ∃ m, k = m + 1 := ⟨k - 1, by omega⟩
    refine ⟨-1, ?_, ?_⟩
    · simp only [slices_Index_string_string.l0]
      rw [if_neg (by omega)]
    · rw [List.drop_of_length_le (by omega)]
      simp [isIn]
  | succ d ih =>
    intro i k hi hk
    obtain ⟨k, rfl⟩ : ∃ m, k = m + 1 := ⟨k - 1, by omega⟩
    have hlt : i < xs.length := by omega
    have hr : rdOf ByteArray.empty xs (i : Int) = xs[i] := by
      unfold rdOf
      rw [Int.toNat_natCast, List.getD_eq_getElem?_getD, List.getElem?_eq_getElem hlt]
      rfl
    have hd : xs.drop i = xs[i] :: xs.drop (i + 1) := List.drop_eq_getElem_cons hlt
    simp only [slices_Index_string_string.l0]
    rw [if_pos (by omega), if_pos (by omega), if_pos (by omega), hr, hd]
    by_cases h : s.toList = xs[i].toList
    · refine ⟨i, by rw [if_pos h], ?_⟩
      constructor
      · intro _; rw [isIn_cons, h, decide_eq_true rfl]; rfl
      · intro _; omega
    · obtain ⟨r, h1, h2⟩ := ih (i + 1) k (by omega) (by omega)
      refine ⟨r, ?_, ?_⟩
      · rw [if_neg h, wrap_nat i (by omega)]
        exact h1
      · rw [h2]
        have : decide (xs[i].toList = s.toList) = false := decide_eq_false (fun e => h e.symm)
        rw [isIn_cons, this, Bool.false_or]

theorem contains_eq (xs : List ByteArray) (s : ByteArray) (hn : xs.length ≤ 100000) (k : Nat) (hk : xs.length + 1 ≤ k) : slices_Contains_string_string.f k xs s = some (isIn xs s) := by
  obtain ⟨r, h1, h2⟩ := index_l0 xs s hn xs.length 0 k (by omega) hk
  unfold slices_Contains_string_string.f slices_Index_string_string.f
  rw [show ((0 : Nat) : Int) = 0 from rfl] at h1
  rw [h1]
  simp only [Option.bind_some, List.drop_zero] at h2 ⊢
  cases hb : isIn xs s with
  | true => rw [hb] at h2; rw [decide_eq_true (h2.2 rfl)]
  | false => rw [hb] at h2; rw [decide_eq_false (fun h => by have := h2.1 h; cases this)]

theorem fields_words : strings_Fields.f (⟨#[108, 101, 116, 32, 97, 108, 108, 111, 119, 32, 100, 101, 110, 121, 32, 119, 104, 101, 110, 32, 97, 110, 100, 32, 111, 114, 32, 110, 111, 116, 32, 116, 114, 117, 101, 32, 102, 97, 108, 115, 101, 32, 105, 110, 32, 97, 100, 100, 114, 32, 112, 111, 114, 116, 32, 109, 101, 116, 104, 111, 100, 32, 112, 97, 116, 104, 32, 104, 101, 97, 100, 101, 114, 32, 104, 97, 115]⟩ : ByteArray) = some wordsL := by decide +kernel

theorem lex_isword_eq (s : ByteArray) (k : Nat) (hk : 100 ≤ k) : lex_IsWord.f k s = some (isWordS s) := by
  unfold lex_IsWord.f
  rw [fields_words]
  simp only [Option.bind_some]
  rw [contains_eq wordsL s (by decide) k (by have : wordsL.length = 16 := rfl; omega)]
  rfl

def beginsS (c : Int) : Int :=
  if c = 32 ∨ c = 9 ∨ c = 10 ∨ c = 13 then 1 else if c = 35 then 2 else if 97 ≤ c ∧ c ≤ 122 then 3 else if 65 ≤ c ∧ c ≤ 90 then 4 else if 48 ≤ c ∧ c ≤ 57 then 5 else if c = 34 then 6
  else if c = 123 ∨ c = 125 ∨ c = 40 ∨ c = 41 ∨ c = 44 ∨ c = 59 ∨ c = 61 ∨ c = 126 ∨ c = 45 then 7 else 0
theorem begins_low : ∀ n : Fin 128, lex_begins.f (n.val : Int) = some (beginsS (n.val : Int)) := by decide +kernel
theorem rune_out (s : ByteArray) (c : Int) (h : ¬ (0 ≤ c ∧ c < 128)) (hs : s.data.toList.all (fun b => decide (b.toNat < 128)) = true) (hz : s.size ≤ maxLen) : strings_ContainsRune.f s c = some false := by
  unfold strings_ContainsRune.f
  rw [if_pos ⟨hs, hz⟩, decide_eq_false (fun hh => h ⟨hh.1, hh.2.1⟩)]
theorem lex_begins_eq (c : Int) : lex_begins.f c = some (beginsS c) := by
  by_cases h : 0 ≤ c ∧ c < 128
  · have := begins_low ⟨c.toNat, by omega⟩
    have e : ((c.toNat : Nat) : Int) = c := by omega
    simp only [e] at this
    exact this
  · unfold lex_begins.f lex_isSmall.f lex_isGreat.f lex_isDigit.f
    rw [rune_out _ c h (by decide) (by decide), rune_out _ c h (by decide) (by decide)]
    simp only [Option.bind_some]
    have hb : beginsS c = 0 := by unfold beginsS; repeat rw [if_neg (by omega)]
    rw [hb, if_neg (by decide), if_neg (by omega)]
    by_cases h1 : c ≥ 97
    · rw [if_pos h1, if_pos (show c ≥ 65 by omega), if_pos (show c ≥ 48 by omega)]
      simp only [Option.bind_some]
      rw [decide_eq_false (show ¬ c ≤ 122 by omega), decide_eq_false (show ¬ c ≤ 90 by omega), decide_eq_false (show ¬ c ≤ 57 by omega)]
      simp; omega
    · rw [if_neg h1, if_neg (show ¬ c ≥ 65 by omega), if_neg (show ¬ c ≥ 48 by omega)]
      simp; omega

/-- May a rune go on with what a scanner is in? -/
def goesS (k c : Int) : Bool :=
  if k = 1 then beginsS c == 1 else if k = 2 then c != 10 else if k = 3 then decide (97 ≤ c ∧ c ≤ 122 ∨ 48 ≤ c ∧ c ≤ 57 ∨ c = 95 ∨ c = 45) else if k = 4 then decide (65 ≤ c ∧ c ≤ 90)
  else if k = 5 then decide (48 ≤ c ∧ c ≤ 57 ∨ c = 46 ∨ c = 47) else false
theorem small_eq (c : Int) : lex_isSmall.f c = some (decide (97 ≤ c ∧ c ≤ 122)) := by
  unfold lex_isSmall.f
  by_cases h : c ≥ 97
  · rw [if_pos h]; congr 1; by_cases h2 : c ≤ 122
    · rw [decide_eq_true h2, decide_eq_true ⟨h, h2⟩]
    · rw [decide_eq_false h2, decide_eq_false (fun h3 => h2 h3.2)]
  · rw [if_neg h, decide_eq_false (fun h3 => h h3.1)]
theorem great_eq (c : Int) : lex_isGreat.f c = some (decide (65 ≤ c ∧ c ≤ 90)) := by
  unfold lex_isGreat.f
  by_cases h : c ≥ 65
  · rw [if_pos h]; congr 1; by_cases h2 : c ≤ 90
    · rw [decide_eq_true h2, decide_eq_true ⟨h, h2⟩]
    · rw [decide_eq_false h2, decide_eq_false (fun h3 => h2 h3.2)]
  · rw [if_neg h, decide_eq_false (fun h3 => h h3.1)]
theorem digit_eq (c : Int) : lex_isDigit.f c = some (decide (48 ≤ c ∧ c ≤ 57)) := by
  unfold lex_isDigit.f
  by_cases h : c ≥ 48
  · rw [if_pos h]; congr 1; by_cases h2 : c ≤ 57
    · rw [decide_eq_true h2, decide_eq_true ⟨h, h2⟩]
    · rw [decide_eq_false h2, decide_eq_false (fun h3 => h2 h3.2)]
  · rw [if_neg h, decide_eq_false (fun h3 => h h3.1)]
theorem lex_goes_eq (k c : Int) : lex_goesOn.f k c = some (goesS k c) := by
  unfold lex_goesOn.f goesS
  by_cases h1 : k = 1
  · rw [if_pos h1, if_pos h1, lex_begins_eq]; rfl
  rw [if_neg h1, if_neg h1]
  by_cases h2 : k = 2
  · rw [if_pos h2, if_pos h2]
  rw [if_neg h2, if_neg h2]
  by_cases h3 : k = 3
  · rw [if_pos h3, if_pos h3, small_eq]
    simp only [Option.bind_some]
    by_cases a : 97 ≤ c ∧ c ≤ 122
    · rw [if_pos (decide_eq_true a), decide_eq_true (.inl a)]
    · rw [if_neg (by simpa using a), digit_eq]
      simp only [Option.bind_some]
      by_cases b : 48 ≤ c ∧ c ≤ 57
      · rw [if_pos (decide_eq_true b), decide_eq_true (.inr (.inl b))]
      · rw [if_neg (by simpa using b)]
        by_cases d : c = 95
        · rw [if_pos d, decide_eq_true (.inr (.inr (.inl d)))]
        · rw [if_neg d]
          by_cases e : c = 45
          · rw [decide_eq_true (.inr (.inr (.inr e)))]; simp [e]
          · rw [decide_eq_false (by omega)]; simp [e]
  rw [if_neg h3, if_neg h3]
  by_cases h4 : k = 4
  · rw [if_pos h4, if_pos h4, great_eq]; rfl
  rw [if_neg h4, if_neg h4]
  by_cases h5 : k = 5
  · rw [if_pos h5, if_pos h5, digit_eq]
    simp only [Option.bind_some]
    by_cases b : 48 ≤ c ∧ c ≤ 57
    · rw [if_pos (decide_eq_true b), decide_eq_true (.inl b)]
    · rw [if_neg (by simpa using b)]
      by_cases d : c = 46
      · rw [if_pos d, decide_eq_true (.inr (.inl d))]
      · rw [if_neg d]
        by_cases e : c = 47
        · rw [decide_eq_true (.inr (.inr e))]; simp [e]
        · rw [decide_eq_false (by omega)]; simp [e]
  rw [if_neg h5, if_neg h5]
end Go.Proofs.YthllfnmebdjpfaaDoor.H

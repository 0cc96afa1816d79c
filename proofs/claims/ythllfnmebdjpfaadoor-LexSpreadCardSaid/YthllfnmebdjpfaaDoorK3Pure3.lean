/- Plain law: how long a run is, rune by rune and byte by byte; names. -/
import Derived.Test.YthllfnmebdjpfaaDoorK3Pure2
namespace Go.Proofs.YthllfnmebdjpfaaDoor.H
open Go.RowKit Go.Proofs.YthllfnmebdjpfaaDoor.Hand Go.Proofs.YthllfnmebdjpfaaDoorW.PrintWords Go.Proofs.YthllfnmebdjpfaaDoorW.PrintLast Go.Proofs.YthllfnmebdjpfaaDoorW.PrintMore

/-- May a byte go on with what a scanner is in? -/
def gB (k : Int) (b : UInt8) : Bool := goesS k (b.toNat : Int)
/-- How long what begins at a text's front is. -/
def runS (k : Int) : List UInt8 → Nat
  | [] => 0
  | _ :: r => 1 + (r.takeWhile (gB k)).length

theorem bl_get (s : ByteArray) (i : Nat) (h : i < s.size) : (bl s)[i]'(by rw [bl_length]; exact h) = s[i]'h := rfl
theorem goes_high (k c : Int) (hk : k ≠ 2) (hc : 128 ≤ c) : goesS k c = false := by
  unfold goesS
  by_cases h1 : k = 1
  · rw [if_pos h1]
    have : beginsS c = 0 := by unfold beginsS; repeat rw [if_neg (by omega)]
    rw [this]; rfl
  rw [if_neg h1, if_neg hk]
  by_cases h3 : k = 3
  · rw [if_pos h3, decide_eq_false (by omega)]
  rw [if_neg h3]
  by_cases h4 : k = 4
  · rw [if_pos h4, decide_eq_false (by omega)]
  rw [if_neg h4]
  by_cases h5 : k = 5
  · rw [if_pos h5, decide_eq_false (by omega)]
  rw [if_neg h5]

/-- A rune of more than one byte: its bytes are all above 127. -/
theorem decode_bytes (s : ByteArray) (pos : Nat) (h : pos < s.size) (hb : 128 ≤ (s[pos]'h).toNat) : ∀ j, j < (Utf8.decode s pos).2 → ∃ h' : pos + j < s.size, 128 ≤ (s[pos + j]'h').toNat := by
  have cont : ∀ k, (decide (pos + k < s.size) && ((s.get! (pos + k)).toNat / 64 == 2)) = true → ∃ h' : pos + k < s.size, 128 ≤ (s[pos + k]'h').toNat := by
    intro k hk
    simp only [Bool.and_eq_true, decide_eq_true_eq, beq_iff_eq] at hk
    refine ⟨hk.1, ?_⟩
    have e : s.get! (pos + k) = s[pos + k]'hk.1 := get_at s (pos + k) hk.1
    have := hk.2
    rw [e] at this
    omega
  have zero : ∃ h' : pos + 0 < s.size, 128 ≤ (s[pos + 0]'h').toNat := ⟨h, hb⟩
  intro j hj
  have h0 : s.get! (pos + 0) = s[pos]'h := get_at s pos h
  unfold Utf8.decode at hj
  simp only [h0] at hj
  rw [if_neg (by omega)] at hj
  have one : j < 1 → ∃ h' : pos + j < s.size, 128 ≤ (s[pos + j]'h').toNat := fun h1 => by
    obtain rfl : j = 0 := by omega
    exact zero
  split at hj
  · rename_i c
    simp only [Bool.and_eq_true] at c
    have c1 := cont 1 (by simpa using c.2)
    split at hj
    · have hj : j < 2 := hj
      match j, hj with
      | 0, _ => exact zero
      | 1, _ => exact c1
    · exact one hj
  · split at hj
    · rename_i c
      simp only [Bool.and_eq_true] at c
      have c1 := cont 1 (by simpa using c.1.2)
      have c2 := cont 2 (by simpa using c.2)
      split at hj
      · have hj : j < 3 := hj
        match j, hj with
        | 0, _ => exact zero
        | 1, _ => exact c1
        | 2, _ => exact c2
      · exact one hj
    · split at hj
      · rename_i c
        simp only [Bool.and_eq_true] at c
        have c1 := cont 1 (by simpa using c.1.1.2)
        have c2 := cont 2 (by simpa using c.1.2)
        have c3 := cont 3 (by simpa using c.2)
        split at hj
        · have hj : j < 4 := hj
          match j, hj with
          | 0, _ => exact zero
          | 1, _ => exact c1
          | 2, _ => exact c2
          | 3, _ => exact c3
        · exact one hj
      · exact one hj

theorem take_many (p : UInt8 → Bool) : ∀ (w : Nat) (l : List UInt8), w ≤ l.length → (∀ j (h : j < l.length), j < w → p l[j] = true) → (l.takeWhile p).length = w + ((l.drop w).takeWhile p).length := by
  intro w
  induction w with
  | zero => intro l _ _; simp
  | succ w ih =>
    intro l hl hp
    match l, hl with
    | a :: l, hl =>
      have h0 : p a = true := hp 0 (by simp) (by omega)
      rw [List.takeWhile_cons_of_pos h0, List.length_cons, List.drop_succ_cons, ih l (by simpa using hl) (fun j h hj => by have := hp (j + 1) (by simpa using h) (by omega); simpa using this)]
      omega

theorem run_tail (k : Int) (s : ByteArray) : ∀ (fuel pos : Nat), 0 < pos → pos ≤ s.size → s.size - pos + 1 ≤ fuel → lex_run.go k s fuel pos = some (((pos + (((bl s).drop pos).takeWhile (gB k)).length : Nat)) : Int) := by
  have hz := bl_length s
  intro fuel
  induction fuel using Nat.strongRecOn with
  | ind fuel ih =>
    intro pos h0 hp hf
    obtain ⟨f, rfl⟩ : ∃ m, fuel = m + 1 := ⟨fuel - 1, by omega⟩
    rw [lex_run.go]
    by_cases hlt : pos < s.size
    · rw [if_pos hlt, if_pos h0, lex_goes_eq]
      simp only [Option.bind_some]
      have hd := drop_at (bl s) pos (by omega)
      by_cases hb : (s[pos]'hlt).toNat < 128
      · have hdec := decode_ascii s pos hlt hb
        rw [hdec, hd]
        show (if goesS k (((s[pos]'hlt).toNat : Nat) : Int) = true then _ else _) = _
        by_cases hg : goesS k (((s[pos]'hlt).toNat : Nat) : Int) = true
        · rw [if_pos hg, List.takeWhile_cons_of_pos (show gB k (bl s)[pos] = true from hg), ih f (by omega) (pos + 1) (by omega) (by omega) (by omega), List.length_cons]
          congr 2
          omega
        · rw [if_neg hg, List.takeWhile_cons_of_neg (show ¬ gB k (bl s)[pos] = true from hg)]
          rfl
      · obtain ⟨hc, hw⟩ := decode_high s pos hlt (by omega)
        by_cases h2 : k = 2
        · subst h2
          have hall := decode_bytes s pos hlt (by omega)
          generalize (Utf8.decode s pos).2 = w at hw hall
          generalize (Utf8.decode s pos).1 = c at hc
          have hg : goesS 2 (c : Int) = true := by show (if (2 : Int) = 1 then _ else if (2 : Int) = 2 then _ else _) = true; rw [if_neg (by decide), if_pos rfl]; rw [bne_iff_ne]; omega
          rw [if_pos hg]
          obtain ⟨hl, _⟩ := hall (w - 1) (by omega)
          rw [ih f (by omega) (pos + w) (by omega) (by omega) (by omega)]
          rw [take_many (gB 2) w ((bl s).drop pos) (by rw [List.length_drop]; omega) (fun j h hj => ?_), List.drop_drop]
          · congr 2
            omega
          · obtain ⟨h', h''⟩ := hall j hj
            rw [List.getElem_drop]
            show goesS 2 (((bl s)[pos + j].toNat : Nat) : Int) = true
            rw [bl_get s (pos + j) h']
            show (if (2 : Int) = 1 then _ else if (2 : Int) = 2 then _ else _) = true
            rw [if_neg (by decide), if_pos rfl, bne_iff_ne]
            omega
        · rw [goes_high k _ h2 (by omega), if_neg (by decide), hd, List.takeWhile_cons_of_neg]
          · rfl
          · show ¬ goesS k (((bl s)[pos].toNat : Nat) : Int) = true
            rw [bl_get s pos hlt, goes_high k _ h2 (by omega)]
            decide
    · rw [if_neg hlt, List.drop_of_length_le (by omega)]
      have : pos = s.size := by omega
      simp [this]

/-- A run whose first byte is below 128. -/
theorem lex_run_eq (k : Int) (s : ByteArray) (hz : s.size ≤ 9223372036854775807) (h0 : 0 < s.size) (hb : (s[0]'h0).toNat < 128) : lex_run.f k s = some ((runS k (bl s) : Nat) : Int) := by
  have hl := bl_length s
  unfold lex_run.f
  rw [if_pos hz, lex_run.go, if_pos h0, if_neg (by omega), decode_ascii s 0 h0 hb]
  show lex_run.go k s s.size (0 + 1) = _
  rw [run_tail k s s.size 1 (by omega) (by omega) (by omega)]
  have hd := drop_at (bl s) 0 (by omega)
  rw [List.drop_zero] at hd
  conv => rhs; rw [hd]
  rfl

theorem runS_all (k : Int) (b : UInt8) (r : List UInt8) : runS k (b :: r) = (b :: r).length ↔ r.all (gB k) = true := by
  show 1 + (r.takeWhile (gB k)).length = r.length + 1 ↔ _
  constructor
  · intro h
    have h1 : r.takeWhile (gB k) = r := List.IsPrefix.eq_of_length (List.takeWhile_prefix _) (by omega)
    rw [← h1]
    exact List.all_takeWhile
  · intro h
    have : r.takeWhile (gB k) = r := by
      clear b
      induction r with
      | nil => rfl
      | cons a r ih =>
        simp only [List.all_cons, Bool.and_eq_true] at h
        rw [List.takeWhile_cons_of_pos h.1, ih h.2]
    rw [this]; omega
end Go.Proofs.YthllfnmebdjpfaaDoor.H

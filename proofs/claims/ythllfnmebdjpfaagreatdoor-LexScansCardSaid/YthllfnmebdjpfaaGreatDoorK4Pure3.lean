/- Plain law: how long a run is, rune by rune and byte by byte; names. -/
/- Plain law: names, of the program and of the reference; the law LexNames. -/
import Derived.Test.YthllfnmebdjpfaaGreatDoorK4Num
import Derived.Test.YthllfnmebdjpfaaGreatDoorK4Hx3
import Derived.Test.YthllfnmebdjpfaaGreatDoorK4Hx6
import Derived.Test.YthllfnmebdjpfaaGreatDoorK4Hx7
section
namespace Go.Proofs.YthllfnmebdjpfaaGreatDoor.H
open Go.RowKit Go.Proofs.YthllfnmebdjpfaaGreatDoor.Hand Go.Proofs.YthllfnmebdjpfaaGreatDoorW.PrintWords Go.Proofs.YthllfnmebdjpfaaGreatDoorW.PrintLast Go.Proofs.YthllfnmebdjpfaaGreatDoorW.PrintMore

/-- May a byte go on with what a scanner is in? -/
def gB (k : Int) (b : UInt8) : Bool := goesS k (b.toNat : Int)
/-- How long what begins at a text's front is. -/
def runS (k : Int) : List UInt8 → Nat
  | [] => 0
  | _ :: r => 1 + (r.takeWhile (gB k)).length

theorem bl_get (s : ByteArray) (i : Nat) (h : i < s.size) : (bl s)[i]'(by rw [bl_length]; exact h) = s[i]'h := rfl
theorem goes_high (k c : Int) (hk : k ≠ 2) (hc : 128 ≤ c) : goesS k c = false := by
  unfold goesS
  by_cases h1 : k = 1
  · rw [if_pos h1]
    have : beginsS c = 0 := by unfold beginsS; repeat rw [if_neg (by omega)]
    rw [this]; rfl
  rw [if_neg h1, if_neg hk]
  by_cases h3 : k = 3
  · rw [if_pos h3, decide_eq_false (by omega)]
  rw [if_neg h3]
  by_cases h4 : k = 4
  · rw [if_pos h4, decide_eq_false (by omega)]
  rw [if_neg h4]
  by_cases h5 : k = 5
  · rw [if_pos h5, decide_eq_false (by omega)]
  rw [if_neg h5]

/-- A rune of more than one byte: its bytes are all above 127. -/
theorem decode_bytes (s : ByteArray) (pos : Nat) (h : pos < s.size) (hb : 128 ≤ (s[pos]'h).toNat) : ∀ j, j < (Utf8.decode s pos).2 → ∃ h' : pos + j < s.size, 128 ≤ (s[pos + j]'h').toNat := by
  have cont : ∀ k, (decide (pos + k < s.size) && ((s.get! (pos + k)).toNat / 64 == 2)) = true → ∃ h' : pos + k < s.size, 128 ≤ (s[pos + k]'h').toNat := by
    intro k hk
    simp only [Bool.and_eq_true, decide_eq_true_eq, beq_iff_eq] at hk
    refine ⟨hk.1, ?_⟩
    have e : s.get! (pos + k) = s[pos + k]'hk.1 := get_at s (pos + k) hk.1
    have := hk.2
    rw [e] at this
    omega
  have zero : ∃ h' : pos + 0 < s.size, 128 ≤ (s[pos + 0]'h').toNat := ⟨h, hb⟩
  intro j hj
  have h0 : s.get! (pos + 0) = s[pos]'h := get_at s pos h
  unfold Utf8.decode at hj
  simp only [h0] at hj
  rw [if_neg (by omega)] at hj
  have one : j < 1 → ∃ h' : pos + j < s.size, 128 ≤ (s[pos + j]'h').toNat := fun h1 => by
    obtain rfl : j = 0 := by omega
    exact zero
  split at hj
  · rename_i c
    simp only [Bool.and_eq_true] at c
    have c1 := cont 1 (by simpa using c.2)
    split at hj
    · have hj : j < 2 := hj
      match j, hj with
      | 0, _ => exact zero
      | 1, _ => exact c1
    · exact one hj
  · split at hj
    · rename_i c
      simp only [Bool.and_eq_true] at c
      have c1 := cont 1 (by simpa using c.1.2)
      have c2 := cont 2 (by simpa using c.2)
      split at hj
      · have hj : j < 3 := hj
        match j, hj with
        | 0, _ => exact zero
        | 1, _ => exact c1
        | 2, _ => exact c2
      · exact one hj
    · split at hj
      · rename_i c
        simp only [Bool.and_eq_true] at c
        have c1 := cont 1 (by simpa using c.1.1.2)
        have c2 := cont 2 (by simpa using c.1.2)
        have c3 := cont 3 (by simpa using c.2)
        split at hj
        · have hj : j < 4 := hj
          match j, hj with
          | 0, _ => exact zero
          | 1, _ => exact c1
          | 2, _ => exact c2
          | 3, _ => exact c3
        · exact one hj
      · exact one hj

theorem take_many (p : UInt8 → Bool) : ∀ (w : Nat) (l : List UInt8), w ≤ l.length → (∀ j (h : j < l.length), j < w → p l[j] = true) → (l.takeWhile p).length = w + ((l.drop w).takeWhile p).length := by
  intro w
  induction w with
  | zero => intro l _ _; simp
  | succ w ih =>
    intro l hl hp
    match l, hl with
    | a :: l, hl =>
      have h0 : p a = true := hp 0 (by simp) (by omega)
      rw [List.takeWhile_cons_of_pos h0, List.length_cons, List.drop_succ_cons, ih l (by simpa using hl) (fun j h hj => by have := hp (j + 1) (by simpa using h) (by omega); simpa using this)]
      omega

theorem run_tail (k : Int) (s : ByteArray) : ∀ (fuel pos : Nat), 0 < pos → pos ≤ s.size → s.size - pos + 1 ≤ fuel → lex_run.go k s fuel pos = some (((pos + (((bl s).drop pos).takeWhile (gB k)).length : Nat)) : Int) := by
  have hz := bl_length s
  intro fuel
  induction fuel using Nat.strongRecOn with
  | ind fuel ih =>
    intro pos h0 hp hf
    obtain ⟨f, rfl⟩ : ∃ m, fuel = m + 1 := ⟨fuel - 1, by omega⟩
    rw [lex_run.go]
    by_cases hlt : pos < s.size
    · rw [if_pos hlt, if_pos h0, lex_goes_eq]
      simp only [Option.bind_some]
      have hd := drop_at (bl s) pos (by omega)
      by_cases hb : (s[pos]'hlt).toNat < 128
      · have hdec := decode_ascii s pos hlt hb
        rw [hdec, hd]
        show (if goesS k (((s[pos]'hlt).toNat : Nat) : Int) = true then _ else _) = _
        by_cases hg : goesS k (((s[pos]'hlt).toNat : Nat) : Int) = true
        · rw [if_pos hg, List.takeWhile_cons_of_pos (show gB k (bl s)[pos] = true from hg), ih f (by omega) (pos + 1) (by omega) (by omega) (by omega), List.length_cons]
          congr 2
          omega
        · rw [if_neg hg, List.takeWhile_cons_of_neg (show ¬ gB k (bl s)[pos] = true from hg)]
          rfl
      · obtain ⟨hc, hw⟩ := decode_high s pos hlt (by omega)
        by_cases h2 : k = 2
        · subst h2
          have hall := decode_bytes s pos hlt (by omega)
          generalize (Utf8.decode s pos).2 = w at hw hall
          generalize (Utf8.decode s pos).1 = c at hc
          have hg : goesS 2 (c : Int) = true := by show (if (2 : Int) = 1 then _ else if (2 : Int) = 2 then _ else _) = true; rw [if_neg (by decide), if_pos rfl]; rw [bne_iff_ne]; omega
          rw [if_pos hg]
          obtain ⟨hl, _⟩ := hall (w - 1) (by omega)
          rw [ih f (by omega) (pos + w) (by omega) (by omega) (by omega)]
          rw [take_many (gB 2) w ((bl s).drop pos) (by rw [List.length_drop]; omega) (fun j h hj => ?_), List.drop_drop]
          · congr 2
            omega
          · obtain ⟨h', h''⟩ := hall j hj
            rw [List.getElem_drop]
            show goesS 2 (((bl s)[pos + j].toNat : Nat) : Int) = true
            rw [bl_get s (pos + j) h']
            show (if (2 : Int) = 1 then _ else if (2 : Int) = 2 then _ else _) = true
            rw [if_neg (by decide), if_pos rfl, bne_iff_ne]
            omega
        · rw [goes_high k _ h2 (by omega), if_neg (by decide), hd, List.takeWhile_cons_of_neg]
          · rfl
          · show ¬ goesS k (((bl s)[pos].toNat : Nat) : Int) = true
            rw [bl_get s pos hlt, goes_high k _ h2 (by omega)]
            decide
    · rw [if_neg hlt, List.drop_of_length_le (by omega)]
      have : pos = s.size := by omega
      simp [this]

/-- A run whose first byte is below 128. -/
theorem lex_run_eq (k : Int) (s : ByteArray) (hz : s.size ≤ 9223372036854775807) (h0 : 0 < s.size) (hb : (s[0]'h0).toNat < 128) : lex_run.f k s = some ((runS k (bl s) : Nat) : Int) := by
  have hl := bl_length s
  unfold lex_run.f
  rw [if_pos hz, lex_run.go, if_pos h0, if_neg (by omega), decode_ascii s 0 h0 hb]
  show lex_run.go k s s.size (0 + 1) = _
  rw [run_tail k s s.size 1 (by omega) (by omega) (by omega)]
  have hd := drop_at (bl s) 0 (by omega)
  rw [List.drop_zero] at hd
  conv => rhs; rw [hd]
  rfl

end Go.Proofs.YthllfnmebdjpfaaGreatDoor.H
end

section
namespace Go.Proofs.YthllfnmebdjpfaaGreatDoor.H
open Go.RowKit Go.Proofs.YthllfnmebdjpfaaGreatDoor.Hand Go.Proofs.YthllfnmebdjpfaaGreatDoorW.PrintWords Go.Proofs.YthllfnmebdjpfaaGreatDoorW.PrintLast Go.Proofs.YthllfnmebdjpfaaGreatDoorW.PrintMore

theorem wrap32_byte (c : Int) (h0 : 0 ≤ c) (h1 : c < 256) : wrap32 c = c := by unfold wrap32; omega
theorem goesS_3 (c : Int) : goesS 3 c = decide (97 ≤ c ∧ c ≤ 122 ∨ 48 ≤ c ∧ c ≤ 57 ∨ c = 95 ∨ c = 45) := by
  unfold goesS; rw [if_neg (by decide), if_neg (by decide), if_pos rfl]
theorem goesS_4 (c : Int) : goesS 4 c = decide (65 ≤ c ∧ c ≤ 90) := by
  unfold goesS; rw [if_neg (by decide), if_neg (by decide), if_neg (by decide), if_pos rfl]
theorem goesS_5 (c : Int) : goesS 5 c = decide (48 ≤ c ∧ c ≤ 57 ∨ c = 46 ∨ c = 47) := by
  unfold goesS; rw [if_neg (by decide), if_neg (by decide), if_neg (by decide), if_neg (by decide), if_pos rfl]
/-- May a byte go on with a run of the reference's? -/
def withinS (k c : Int) : Bool := if k = 1 then goesS 3 c else if k = 2 then goesS 4 c else goesS 5 c
theorem ref_small_eq (c : Int) : lychgateref08_small.f c = some (decide (97 ≤ c ∧ c ≤ 122)) := small_eq c
theorem ref_great_eq (c : Int) : lychgateref08_great.f c = some (decide (65 ≤ c ∧ c ≤ 90)) := great_eq c
theorem ref_digit_eq (c : Int) : lychgateref08_digit.f c = some (decide (48 ≤ c ∧ c ≤ 57)) := digit_eq c
theorem ref_within_eq (k c : Int) : lychgateref08_within.f k c = some (withinS k c) := by
  unfold lychgateref08_within.f
  rw [ref_small_eq, ref_digit_eq, ref_great_eq]
  simp only [Option.bind_some]
  unfold withinS
  by_cases h1 : k = 1
  · rw [if_pos h1, if_pos h1, goesS_3]
    by_cases a : 97 ≤ c ∧ c ≤ 122
    · rw [if_pos (decide_eq_true a), decide_eq_true (.inl a)]
    rw [if_neg (by simpa using a)]
    by_cases b : 48 ≤ c ∧ c ≤ 57
    · rw [if_pos (decide_eq_true b), decide_eq_true (.inr (.inl b))]
    rw [if_neg (by simpa using b)]
    by_cases d : c = 95
    · rw [if_pos d, decide_eq_true (.inr (.inr (.inl d)))]
    rw [if_neg d]
    by_cases e : c = 45
    · rw [decide_eq_true (.inr (.inr (.inr e)))]; simp [e]
    · rw [decide_eq_false (by omega)]; simp [e]
  rw [if_neg h1, if_neg h1]
  by_cases h2 : k = 2
  · rw [if_pos h2, if_pos h2, goesS_4]
  rw [if_neg h2, if_neg h2, goesS_5]
  by_cases b : 48 ≤ c ∧ c ≤ 57
  · rw [if_pos (decide_eq_true b), decide_eq_true (.inl b)]
  rw [if_neg (by simpa using b)]
  by_cases d : c = 46
  · rw [if_pos d, decide_eq_true (.inr (.inl d))]
  rw [if_neg d]
  by_cases e : c = 47
  · rw [decide_eq_true (.inr (.inr e))]; simp [e]
  · rw [decide_eq_false (by omega)]; simp [e]

theorem ref_run_l0 (m : Int) (s : ByteArray) (hz : s.size ≤ 140737488351232) : ∀ (d pos k : Nat), pos + d = s.size → d + 1 ≤ k → lychgateref08_run.l0 k m s (pos : Int) = some ((pos + (((bl s).drop pos).takeWhile fun b => withinS m (b.toNat : Int)).length : Nat) : Int) := by
  have hl := bl_length s
  intro d
  induction d with
  | zero =>
    intro pos k hp hk
    obtain ⟨k, rfl⟩ : ∃ m, k = m + 1 := ⟨k - 1, by omega⟩
    simp only [lychgateref08_run.l0]
    rw [if_neg (by omega), List.drop_of_length_le (by omega)]
    simp
  | succ d ih =>
    intro pos k hp hk
    obtain ⟨k, rfl⟩ : ∃ m, k = m + 1 := ⟨k - 1, by omega⟩
    have hlt : pos < (bl s).length := by omega
    simp only [lychgateref08_run.l0]
    rw [if_pos (by omega), if_pos (by omega), bt_nat s pos hlt, ref_within_eq, drop_at _ pos hlt]
    simp only [Option.bind_some]
    by_cases h : withinS m ((bl s)[pos].toNat : Int) = true
    · rw [if_pos h, wrap_nat pos (by omega), ih (pos + 1) k (by omega) (by omega), List.takeWhile_cons_of_pos (p := fun b : UInt8 => withinS m (b.toNat : Int)) h, List.length_cons]
      congr 2
      omega
    · rw [if_neg h, List.takeWhile_cons_of_neg (p := fun b : UInt8 => withinS m (b.toNat : Int)) h]
      rfl
theorem ref_run_eq (m : Int) (s : ByteArray) (hz : s.size ≤ 140737488351232) (pos k : Nat) (hp : pos ≤ s.size) (hk : s.size + 1 ≤ k) : lychgateref08_run.f k m s (pos : Int) = some ((pos + (((bl s).drop pos).takeWhile fun b => withinS m (b.toNat : Int)).length : Nat) : Int) :=
  ref_run_l0 m s hz (s.size - pos) pos k (by omega) (by omega)

theorem awake_true : lychgatelaw08_awake.f 60 = some true := by decide +kernel
theorem awake_ev (k : Nat) (hk : 60 ≤ k) : lychgatelaw08_awake.f k = some true := at_rounds (fun k => lychgatelaw08_awake.mono k) hk awake_true

end Go.Proofs.YthllfnmebdjpfaaGreatDoor.H
end

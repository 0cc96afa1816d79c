/- Plain law: numbers and prefixes, of the program and of the reference: the same. -/
/- Plain law: prefixes, and runs of digits as tokens, of the program and of the reference: the same. -/
/- Plain law: what the reference's Scan answers is what the program's does. -/
import Derived.Test.YthllfnmebdjpfaaGreatDoorK4Num
import Derived.Test.YthllfnmebdjpfaaGreatDoorK4Pure5
import Derived.Test.YthllfnmebdjpfaaGreatDoorK4Hx9
import Derived.Test.YthllfnmebdjpfaaGreatDoorK4Hx12
section
namespace Go.Proofs.YthllfnmebdjpfaaGreatDoor.H
open Go.RowKit Go.Proofs.YthllfnmebdjpfaaGreatDoor.Hand Go.Proofs.YthllfnmebdjpfaaGreatDoorW.PrintWords Go.Proofs.YthllfnmebdjpfaaGreatDoorW.PrintLast Go.Proofs.YthllfnmebdjpfaaGreatDoorW.PrintMore

theorem toList_dt (x : ByteArray) : x.toList = bl x := Go.Lib.toList_data x
theorem digit08 (c : Int) : lychgateref08_digit.f c = some (decide (48 ≤ c ∧ c ≤ 57)) := by
  unfold lychgateref08_digit.f
  by_cases h : c ≥ 48
  · rw [if_pos h]; congr 1; by_cases h2 : c ≤ 57
    · rw [decide_eq_true h2, decide_eq_true ⟨h, h2⟩]
    · rw [decide_eq_false h2, decide_eq_false (fun h3 => h2 h3.2)]
  · rw [if_neg h, decide_eq_false (fun h3 => h h3.1)]
theorem dig_dec (b : UInt8) : decide (48 ≤ (b.toNat : Int) ∧ (b.toNat : Int) ≤ 57) = digB b := by
  unfold digB
  congr 1
  exact propext ⟨fun h => ⟨by omega, by omega⟩, fun h => ⟨by omega, by omega⟩⟩
/-- 10 to the i-th. -/
def lim : Nat → Nat
  | 0 => 1
  | i + 1 => 10 * lim i
theorem lim_small {i : Nat} (h : i ≤ 9) : lim i ≤ 1000000000 := (show ∀ j : Fin 10, lim j.val ≤ 1000000000 by decide) ⟨i, by omega⟩
theorem lim_succ (i : Nat) : lim (i + 1) = 10 * lim i := rfl

theorem wrap_id {x : Int} (h0 : 0 ≤ x) (h1 : x < 9223372036854775808) : wrap64 x = x := by unfold wrap64; omega
theorem digit_step {a : Nat} {b : UInt8} (ha : a ≤ 1000000000) (hb : 48 ≤ b.toNat ∧ b.toNat ≤ 57) : wrap64 (wrap64 (10 * (a : Int)) + ((b.toNat : Int) - 48) % 256) = ((10 * a + (b.toNat - 48) : Nat) : Int) := by
  have e1 : wrap64 (10 * (a : Int)) = 10 * (a : Int) := wrap_id (by omega) (by omega)
  have e2 : ((b.toNat : Int) - 48) % 256 = ((b.toNat - 48 : Nat) : Int) := by omega
  rw [e1, e2, wrap_id (by omega) (by omega)]
  omega
theorem byte_step {v n : Nat} (hv : v ≤ 16777216) (hn : n ≤ 255) : wrap64 (wrap64 (256 * (v : Int)) + (n : Int)) = ((256 * v + n : Nat) : Int) := by
  have e1 : wrap64 (256 * (v : Int)) = 256 * (v : Int) := wrap_id (by omega) (by omega)
  rw [e1, wrap_id (by omega) (by omega)]
  omega

theorem addr_num (x : ByteArray) (m : Nat) (hz : x.size ≤ 8000) (hm : m ≤ 4294967295) : ∃ v, addr_number.f x (m : Int) = some (v, (numC (bl x) m).isSome) ∧ ∀ n, numC (bl x) m = some n → v = (n : Int) := by
  unfold addr_number.f
  rw [if_pos ⟨by omega, by omega⟩, toList_dt]
  have hl : x.data.toList = bl x := rfl
  rw [hl]
  cases h : Lib.atoiAll (bl x)
  case ok v =>
    obtain ⟨h1, h2⟩ := atoi_ok (bl x) m v h (by omega)
    exact ⟨v, by rw [← h1], h2⟩
  all_goals
    have := atoi_no (bl x) m (fun v hv => by rw [h] at hv; cases hv) (by omega)
    rw [this]
    exact ⟨_, rfl, fun n hn => by cases hn⟩
theorem part_num (x : ByteArray) (hz : x.size ≤ 8000) : (partN x).2 = (numC (bl x) 255).isSome ∧ ∀ n, numC (bl x) 255 = some n → (partN x).1 = (n : Int) := by
  obtain ⟨v, h1, h2⟩ := addr_num x 255 hz (by decide)
  have : addr_number.f x 255 = some (v, (numC (bl x) 255).isSome) := h1
  unfold partN
  rw [this]
  exact ⟨rfl, h2⟩

def resD (v : Nat) (ok b : Bool) : Int × Bool := match ok with | true => ((v : Int), b) | false => (0, false)
theorem ref8_l0 (x : ByteArray) (hz : x.size ≤ 8000) (h0 : 0 < x.size) : ∀ (d i k a : Nat), i + d = x.size → i ≤ 10 → d + 1 ≤ k → a < lim i →
    lychgateref08_number.l0 k x (a : Int) (i : Int) = some (resD (valD a ((bl x).drop i)) (((bl x).drop i).all digB && decide (x.size ≤ 10)) (decide (valD a ((bl x).drop i) ≤ 4294967295) && (decide (bt x 0 ≠ 48) || decide (x.size = 1)))) := by
  have hl := bl_length x
  intro d
  induction d with
  | zero =>
    intro i k a hi h10 hk ha
    obtain ⟨k, rfl⟩ : ∃ m, k = m + 1 := ⟨k - 1, by omega⟩
    simp only [lychgateref08_number.l0]
    rw [if_neg (by omega), List.drop_of_length_le (by omega), valD_nil, List.all_nil, decide_eq_true (show x.size ≤ 10 by omega)]
    show _ = some ((a : Int), _)
    by_cases hm : a ≤ 4294967295
    · rw [if_pos (by omega), if_pos (by omega), decide_eq_true hm, Bool.true_and]
      by_cases h48 : bt x 0 = 48
      · rw [if_pos h48, decide_eq_false (fun h => h h48), Bool.false_or]
        congr 2
        rw [Bool.eq_iff_iff, beq_iff_eq, decide_eq_true_iff]
        omega
      · rw [if_neg h48, decide_eq_true h48, Bool.true_or]
    · rw [if_neg (by omega), decide_eq_false hm, Bool.false_and]
  | succ d ih =>
    intro i k a hi h10 hk ha
    obtain ⟨k, rfl⟩ : ∃ m, k = m + 1 := ⟨k - 1, by omega⟩
    have hlt : i < (bl x).length := by omega
    simp only [lychgateref08_number.l0]
    rw [if_pos (by omega), if_pos (by omega), digit08, bt_nat x i hlt, dig_dec, drop_at _ i hlt]
    simp only [Option.bind_some, List.all_cons]
    generalize (bl x)[i] = b
    by_cases hd : digB b = true
    · rw [if_pos hd, hd, Bool.true_and]
      have hb : 48 ≤ b.toNat ∧ b.toNat ≤ 57 := of_decide_eq_true hd
      by_cases h9 : i ≤ 9
      · have hp := lim_small h9
        rw [if_neg (by omega), wrap_nat i (by omega), digit_step (by omega) hb,
          ih (i + 1) k _ (by omega) (by omega) (by omega) (by rw [lim_succ]; omega), valD_cons]
      · rw [if_pos (by omega), decide_eq_false (show ¬ x.size ≤ 10 by omega), Bool.and_false]
        rfl
    · have hf : digB b = false := by simpa using hd
      rw [if_neg hd, hf, Bool.false_and, Bool.false_and]
      rfl

theorem ref8_num (x : ByteArray) (hz : x.size ≤ 8000) (h0 : 0 < x.size) (k : Nat) (hk : 9000 ≤ k) : ∃ v, lychgateref08_number.f k x = some (v, (numC (bl x) 4294967295).isSome) ∧ ∀ n, numC (bl x) 4294967295 = some n → v = (n : Int) := by
  have hl := bl_length x
  have h := ref8_l0 x hz h0 x.size 0 k 0 (by omega) (by omega) (by omega) (by decide)
  unfold lychgateref08_number.f
  rw [show ((0 : Nat) : Int) = 0 from rfl] at h
  rw [h]
  simp only [List.drop_zero]
  have hbt : bt x 0 = ((bl x)[0]'(by omega)).toNat := bt_nat x 0 (by omega)
  have hhead : (bl x).head?.map (·.toNat) = some ((bl x)[0]'(by omega)).toNat := by
    rw [List.head?_eq_getElem?, List.getElem?_eq_getElem (by omega)]; rfl
  have hcan : can (bl x) ↔ (bl x).all digB = true ∧ (bt x 0 ≠ 48 ∨ x.size = 1) := by
    unfold can
    rw [hhead, hbt]
    constructor
    · rintro ⟨_, h2, h3 | h3⟩
      · exact ⟨h2, .inr (by omega)⟩
      · exact ⟨h2, .inl (fun e => h3 (by congr 1; omega))⟩
    · rintro ⟨h2, h3 | h3⟩
      · exact ⟨fun e => by rw [e] at hl; simp at hl; omega, h2, .inr (fun e => h3 (by have := Option.some.inj e; omega))⟩
      · exact ⟨fun e => by rw [e] at hl; simp at hl; omega, h2, .inl (by omega)⟩
  by_cases hd : (bl x).all digB = true ∧ x.size ≤ 10
  · rw [hd.1, decide_eq_true hd.2]
    refine ⟨(valD 0 (bl x) : Int), congrArg some (Prod.ext rfl ?_), fun n hn => by rw [(numC_some hn).2.1]⟩
    refine (numC_isSome _ _ _ ?_).symm
    show (decide (valD 0 (bl x) ≤ 4294967295) && (decide (bt x 0 ≠ 48) || decide (x.size = 1))) = true ↔ _
    rw [Bool.and_eq_true, Bool.or_eq_true, decide_eq_true_iff, decide_eq_true_iff, decide_eq_true_iff, hcan]
    exact ⟨fun h => ⟨⟨hd.1, h.2⟩, h.1⟩, fun h => ⟨h.2, h.1.2⟩⟩
  · have hf : ((bl x).all digB && decide (x.size ≤ 10)) = false := by
      rw [← Bool.not_eq_true, Bool.and_eq_true, decide_eq_true_iff]
      exact hd
    rw [hf]
    have hn : numC (bl x) 4294967295 = none := by
      cases hn : numC (bl x) 4294967295 with
      | none => rfl
      | some n =>
        obtain ⟨h1, h2, h3⟩ := numC_some hn
        have := can_short _ h1 10 (by decide) (by omega)
        exact absurd ⟨h1.2.1, by omega⟩ hd
    rw [hn]
    exact ⟨0, rfl, fun n hn => by cases hn⟩

theorem ref3_l0 (x : ByteArray) (m : Nat) (hz : x.size ≤ 3) : ∀ (d i k a : Nat), i + d = x.size → d + 1 ≤ k → a < lim i →
    lychgateref03_number.l0 k x (m : Int) (a : Int) (i : Int) = some (resD (valD a ((bl x).drop i)) (((bl x).drop i).all digB) (decide (valD a ((bl x).drop i) ≤ m))) := by
  have hl := bl_length x
  intro d
  induction d with
  | zero =>
    intro i k a hi hk ha
    obtain ⟨k, rfl⟩ : ∃ m, k = m + 1 := ⟨k - 1, by omega⟩
    simp only [lychgateref03_number.l0]
    rw [if_neg (by omega), List.drop_of_length_le (by omega), valD_nil, List.all_nil]
    show _ = some ((a : Int), _)
    congr 2
    rw [Bool.eq_iff_iff, decide_eq_true_iff, decide_eq_true_iff]
    omega
  | succ d ih =>
    intro i k a hi hk ha
    obtain ⟨k, rfl⟩ : ∃ m, k = m + 1 := ⟨k - 1, by omega⟩
    have hlt : i < (bl x).length := by omega
    simp only [lychgateref03_number.l0]
    rw [if_pos (by omega), if_pos (by omega), bt_nat x i hlt, drop_at _ i hlt]
    simp only [List.all_cons]
    generalize (bl x)[i] = b
    have hp := lim_small (show i ≤ 9 by omega)
    by_cases h1 : b.toNat < 48
    · rw [if_pos (by omega), show digB b = false from decide_eq_false (by omega), Bool.false_and]
      rfl
    rw [if_neg (by omega)]
    by_cases h2 : b.toNat > 57
    · rw [if_pos (by omega), show digB b = false from decide_eq_false (by omega), Bool.false_and]
      rfl
    have hd : digB b = true := decide_eq_true ⟨by omega, by omega⟩
    rw [if_neg (by omega), hd, Bool.true_and, wrap_nat i (by omega), digit_step (by omega) ⟨by omega, by omega⟩,
      ih (i + 1) k _ (by omega) (by omega) (by rw [lim_succ]; omega), valD_cons]
theorem ref3_num (x : ByteArray) (m : Nat) (hm : m < 1000) (k : Nat) (hk : 9000 ≤ k) : ∃ v, lychgateref03_number.f k x (m : Int) = some (v, (numC (bl x) m).isSome) ∧ ∀ n, numC (bl x) m = some n → v = (n : Int) := by
  have hl := bl_length x
  obtain ⟨k, rfl⟩ : ∃ m, k = m + 1 := ⟨k - 1, by omega⟩
  have no : ¬ can (bl x) → ∃ v, lychgateref03_number.j0 (k + 1) x (m : Int) true = some (v, (numC (bl x) m).isSome) ∧ ∀ n, numC (bl x) m = some n → v = (n : Int) := fun h => by
    have : numC (bl x) m = none := if_neg (fun hc => h hc.1)
    rw [this]
    exact ⟨0, by simp only [lychgateref03_number.j0, if_true]; rfl, fun n hn => by cases hn⟩
  have yes : x.size ≤ 3 → ((bl x).all digB = true → can (bl x)) → ∃ v, lychgateref03_number.j0 (k + 1) x (m : Int) false = some (v, (numC (bl x) m).isSome) ∧ ∀ n, numC (bl x) m = some n → v = (n : Int) := fun hz hc => by
    have h := ref3_l0 x m hz x.size 0 k 0 (by omega) (by omega) (by decide)
    rw [show ((0 : Nat) : Int) = 0 from rfl] at h
    simp only [lychgateref03_number.j0]
    rw [if_neg (by decide), h]
    simp only [List.drop_zero]
    by_cases hd : (bl x).all digB = true
    · rw [hd]
      refine ⟨(valD 0 (bl x) : Int), congrArg some (Prod.ext rfl ?_), fun n hn => by rw [(numC_some hn).2.1]⟩
      refine (numC_isSome _ _ _ ?_).symm
      show decide (valD 0 (bl x) ≤ m) = true ↔ _
      rw [decide_eq_true_iff]
      exact ⟨fun h => ⟨hc hd, h⟩, fun h => h.2⟩
    · have hf : (bl x).all digB = false := by simpa using hd
      rw [hf]
      have : numC (bl x) m = none := if_neg (fun hc => hd hc.1.2.1)
      rw [this]
      exact ⟨0, rfl, fun n hn => by cases hn⟩
  unfold lychgateref03_number.f
  by_cases h1 : x.size < 1
  · rw [if_pos (by omega)]
    exact no (fun h => h.1 (List.length_eq_zero_iff.1 (by omega)))
  rw [if_neg (by omega)]
  by_cases h3 : x.size > 3
  · rw [if_pos (by omega)]
    by_cases hc : can (bl x) ∧ valD 0 (bl x) ≤ m
    · have := can_short _ hc.1 3 (by decide) (by omega)
      omega
    · have : numC (bl x) m = none := if_neg hc
      rw [this]
      exact ⟨0, by simp only [lychgateref03_number.j0, if_true]; rfl, fun n hn => by cases hn⟩
  rw [if_neg (by omega)]
  have hhead : (bl x).head?.map (·.toNat) = some ((bl x)[0]'(by omega)).toNat := by
    rw [List.head?_eq_getElem?, List.getElem?_eq_getElem (by omega)]; rfl
  have hbt : bt x 0 = ((bl x)[0]'(by omega)).toNat := bt_nat x 0 (by omega)
  have hne : bl x ≠ [] := fun e => by rw [e] at hl; simp at hl; omega
  by_cases h2 : x.size > 1
  · rw [if_pos (by omega), if_pos (by omega), hbt]
    by_cases h48 : ((bl x)[0]'(by omega)).toNat = 48
    · rw [show ((((bl x)[0]'(by omega)).toNat : Int) == 48) = true by rw [beq_iff_eq]; omega]
      exact no (fun h => by
        rcases h.2.2 with h | h
        · omega
        · exact h (by rw [hhead, h48]))
    · rw [show ((((bl x)[0]'(by omega)).toNat : Int) == 48) = false by rw [← Bool.not_eq_true, beq_iff_eq]; omega]
      exact yes (by omega) (fun hd => ⟨hne, hd, .inr (fun e => h48 (by rw [hhead] at e; exact Option.some.inj e))⟩)
  · rw [if_neg (by omega)]
    exact yes (by omega) (fun hd => ⟨hne, hd, .inl (by omega)⟩)

theorem ref3_cut_l0 (s : ByteArray) (hz : s.size ≤ 8000) (c : UInt8) : ∀ (d i k : Nat), i + d = s.size → d + 1 ≤ k →
    lychgateref03_cut.l0 k s (c.toNat : Int) (i : Int) = some (match cutS c ((bl s).drop i) with | none => (s, (⟨#[]⟩ : ByteArray), false) | some (a, b) => (toS ((bl s).take i ++ a), toS b, true)) := by
  have hl := bl_length s
  intro d
  induction d with
  | zero =>
    intro i k hi hk
    obtain ⟨k, rfl⟩ : ∃ m, k = m + 1 := ⟨k - 1, by omega⟩
    simp only [lychgateref03_cut.l0]
    rw [if_neg (by omega), List.drop_of_length_le (by omega)]
    rfl
  | succ d ih =>
    intro i k hi hk
    obtain ⟨k, rfl⟩ : ∃ m, k = m + 1 := ⟨k - 1, by omega⟩
    have hlt : i < (bl s).length := by omega
    simp only [lychgateref03_cut.l0]
    rw [if_pos (by omega), if_pos (by omega), bt_nat s i hlt, drop_at _ i hlt, cutS]
    have htk : (bl s).take (i + 1) = (bl s).take i ++ [(bl s)[i]] := by rw [List.take_append_getElem]
    by_cases h : (bl s)[i] = c
    · rw [if_pos h, if_pos (by rw [h]), if_pos (by omega), wrap_nat i (by omega), if_pos (by omega), if_pos (by omega), Int.toNat_natCast, Int.toNat_natCast, take_extract, drop_extract]
      simp
    · rw [if_neg h, if_neg (fun e => h (UInt8.toNat_inj.1 (by omega))), wrap_nat i (by omega), ih (i + 1) k (by omega) (by omega), htk]
      cases cutS c ((bl s).drop (i + 1)) with
      | none => rfl
      | some y => simp
theorem ref3_cut (s : ByteArray) (hz : s.size ≤ 8000) (c : UInt8) (k : Nat) (hk : 9000 ≤ k) :
    lychgateref03_cut.f k s (c.toNat : Int) = some (match cutS c (bl s) with | none => (s, (⟨#[]⟩ : ByteArray), false) | some (a, b) => (toS a, toS b, true)) := by
  have h := ref3_cut_l0 s hz c s.size 0 k (by omega) (by omega)
  unfold lychgateref03_cut.f
  simpa using h
theorem cutS_len (c : UInt8) (l a b : List UInt8) (h : cutS c l = some (a, b)) : a.length + b.length + 1 = l.length := by
  rw [(cutS_app c l a b h).1]; simp; omega

/-- An address out of what is left of its text, some dots ahead. -/
def addrS : Nat → Nat → List UInt8 → Option Nat
  | 0, v, l => (numC l 255).map fun n => 256 * v + n
  | j + 1, v, l => match cutS 46 l with
    | none => none
    | some (a, r) => match numC a 255 with
      | none => none
      | some n => addrS j (256 * v + n) r
def addrR : Option Nat → Int × Int
  | none => (0, 30)
  | some v => ((v : Int), 0)
theorem ref3_parse_l0 : ∀ (j : Nat) (i k v : Nat) (s : ByteArray), s.size ≤ 8000 → i + j = 3 → 9000 + j + 2 ≤ k → v < 256 ^ i →
    lychgateref03_Parse.l0 k (v : Int) s (i : Int) = some (addrR (addrS j v (bl s))) := by
  have small : ∀ i, i ≤ 3 → 256 ^ i ≤ 16777216 := fun i h => (Nat.pow_le_pow_right (by decide : 0 < 256) h : 256 ^ i ≤ 256 ^ 3)
  intro j
  induction j with
  | zero =>
    intro i k v s hz hi hk hv
    obtain ⟨k, rfl⟩ : ∃ m, k = m + 1 := ⟨k - 1, by omega⟩
    obtain rfl : i = 3 := by omega
    have := small 3 (by omega)
    obtain ⟨x, h1, h2⟩ := ref3_num s 255 (by decide) k (by omega)
    simp only [lychgateref03_Parse.l0]
    rw [if_pos (by omega), if_neg (by omega)]
    have h1' : lychgateref03_number.f k s 255 = some (x, (numC (bl s) 255).isSome) := h1
    rw [h1']
    simp only [Option.bind_some]
    rw [addrS]
    cases hn : numC (bl s) 255 with
    | none => rfl
    | some n =>
      have hx := h2 n hn
      have := (numC_some hn).2.2
      subst hx
      rw [Option.isSome_some, if_pos rfl]
      obtain ⟨k, rfl⟩ : ∃ m, k = m + 1 := ⟨k - 1, by omega⟩
      rw [wrap_nat 3 (by omega), byte_step (by omega) (by omega)]
      simp only [lychgateref03_Parse.l0]
      rw [if_neg (by omega)]
      rfl
  | succ j ih =>
    intro i k v s hz hi hk hv
    obtain ⟨k, rfl⟩ : ∃ m, k = m + 1 := ⟨k - 1, by omega⟩
    have hl := bl_length s
    have := small i (by omega)
    simp only [lychgateref03_Parse.l0]
    have hc := ref3_cut s hz 46 k (by omega)
    have hc' : lychgateref03_cut.f k s 46 = _ := hc
    rw [if_pos (by omega), if_pos (by omega), hc', addrS]
    match hcut : cutS 46 (bl s) with
    | none => rfl
    | some (a, r) =>
      have hlen := cutS_len _ _ _ _ hcut
      simp only [Option.bind_some, if_true]
      obtain ⟨x, h1, h2⟩ := ref3_num (toS a) 255 (by decide) k (by omega)
      have h1' : lychgateref03_number.f k (toS a) 255 = some (x, (numC a 255).isSome) := h1
      rw [h1']
      simp only [Option.bind_some]
      cases hn : numC a 255 with
      | none => rfl
      | some n =>
        have hx := h2 n hn
        have := (numC_some hn).2.2
        subst hx
        rw [Option.isSome_some, if_pos rfl, wrap_nat i (by omega), byte_step (by omega) (by omega),
          ih (i + 1) k _ (toS r) (by rw [toS_size]; omega) (by omega) (by omega) (by rw [Nat.pow_succ]; omega)]
        rfl
theorem ref3_parse (s : ByteArray) (hz : s.size ≤ 8000) (k : Nat) (hk : 9010 ≤ k) : lychgateref03_Parse.f k s = some (addrR (addrS 3 0 (bl s))) :=
  ref3_parse_l0 3 0 k 0 s hz rfl (by omega) (by decide)

theorem dots_no (s : ByteArray) (h : cutS 46 (bl s) = none) : dots s = [s] := dots_none s 46 h
theorem dots_yes (s : ByteArray) (a b : List UInt8) (h : cutS 46 (bl s) = some (a, b)) : dots s = toS a :: dots (toS b) := by
  obtain ⟨x, y, hx, hy, he⟩ := dots_some s 46 a b h
  have e1 : x = toS a := by rw [← toS_bl x]; exact congrArg toS hx
  have e2 : y = toS b := by rw [← toS_bl y]; exact congrArg toS hy
  subst e1; subst e2
  exact he
theorem dots_ne (s : ByteArray) : ∃ x r, dots s = x :: r := by
  have := dots_length s
  match h : dots s with
  | [] => rw [h] at this; simp at this
  | x :: r => exact ⟨x, r, rfl⟩
theorem numC_dot (l : List UInt8) (m : Nat) (h : cutS 46 l ≠ none) : numC l m = none := by
  cases hn : numC l m with
  | none => rfl
  | some n =>
    refine absurd ((cutS_none 46 l).2 (fun hm => ?_)) h
    have := List.all_eq_true.1 (numC_some hn).1.2.1 _ hm
    exact absurd this (by decide)
/-- Four numbers, or not. -/
theorem four_ev (a b c d : ByteArray) (ha : a.size ≤ 8000) (hb : b.size ≤ 8000) (hc : c.size ≤ 8000) (hd : d.size ≤ 8000) :
    (if (partN a).2 = true ∧ (partN b).2 = true ∧ (partN c).2 = true ∧ (partN d).2 = true then ((partN a).1 * 16777216 + (partN b).1 * 65536 + (partN c).1 * 256 + (partN d).1, (0 : Int)) else (0, 30)) =
    addrR (match numC (bl a) 255 with | none => none | some x => match numC (bl b) 255 with | none => none | some y => match numC (bl c) 255 with | none => none | some z => (numC (bl d) 255).map fun n => 256 * (256 * (256 * (256 * 0 + x) + y) + z) + n) := by
  obtain ⟨a1, a2⟩ := part_num a ha
  obtain ⟨b1, b2⟩ := part_num b hb
  obtain ⟨c1, c2⟩ := part_num c hc
  obtain ⟨d1, d2⟩ := part_num d hd
  rw [a1, b1, c1, d1]
  cases ea : numC (bl a) 255 with
  | none => rw [if_neg (fun h => by cases h.1)]; rfl
  | some x =>
  cases eb : numC (bl b) 255 with
  | none => rw [if_neg (fun h => by cases h.2.1)]; rfl
  | some y =>
  cases ec : numC (bl c) 255 with
  | none => rw [if_neg (fun h => by cases h.2.2.1)]; rfl
  | some z =>
  cases ed : numC (bl d) 255 with
  | none => rw [if_neg (fun h => by cases h.2.2.2)]; rfl
  | some n =>
    rw [if_pos ⟨rfl, rfl, rfl, rfl⟩, a2 x ea, b2 y eb, c2 z ec, d2 n ed]
    simp only [Option.map_some, addrR]
    congr 1
    omega
theorem addr_parse (s : ByteArray) (hz : s.size ≤ 8000) : addr_Parse.f s = some (addrR (addrS 3 0 (bl s))) := by
  have hl := bl_length s
  unfold addr_Parse.f
  rw [if_pos (by omega)]
  congr 1
  simp only [addrS]
  match h1 : cutS 46 (bl s) with
  | none => rw [dots_no s h1]; rfl
  | some (a, r1) =>
  have l1 := cutS_len _ _ _ _ h1
  rw [dots_yes s a r1 h1]
  dsimp only
  match h2 : cutS 46 r1 with
  | none =>
    rw [dots_no (toS r1) h2]
    cases numC a 255 <;> rfl
  | some (b, r2) =>
  have l2 := cutS_len _ _ _ _ h2
  rw [dots_yes (toS r1) b r2 h2]
  dsimp only
  match h3 : cutS 46 r2 with
  | none =>
    rw [dots_no (toS r2) h3]
    cases numC a 255 with
    | none => rfl
    | some x => dsimp only; cases numC b 255 <;> rfl
  | some (c, r3) =>
  have l3 := cutS_len _ _ _ _ h3
  rw [dots_yes (toS r2) c r3 h3]
  dsimp only
  match h4 : cutS 46 r3 with
  | none =>
    rw [dots_no (toS r3) h4]
    exact four_ev (toS a) (toS b) (toS c) (toS r3) (by rw [toS_size]; omega) (by rw [toS_size]; omega) (by rw [toS_size]; omega) (by rw [toS_size]; omega)
  | some (d, r4) =>
    rw [dots_yes (toS r3) d r4 h4]
    obtain ⟨x, r, hx⟩ := dots_ne (toS r4)
    rw [hx, numC_dot r3 255 (by rw [h4]; exact fun h => by cases h)]
    simp only [Option.map_none]
    cases numC a 255 with
    | none => rfl
    | some x =>
    dsimp only
    cases numC b 255 with
    | none => rfl
    | some x =>
    dsimp only
    cases numC c 255 with
    | none => rfl
    | some x => rfl
theorem addrS_lt : ∀ (j v : Nat) (l : List UInt8) (n : Nat), addrS j v l = some n → n < 256 ^ (j + 1) * (v + 1)
  | 0, v, l, n, h => by
    rw [addrS] at h
    match hn : numC l 255 with
    | none => rw [hn] at h; cases h
    | some m =>
      rw [hn] at h
      have h1 := Option.some.inj h
      have h2 := (numC_some hn).2.2
      simp only at h1
      rw [Nat.pow_succ, Nat.pow_zero]
      omega
  | j + 1, v, l, n, h => by
    rw [addrS] at h
    match hc : cutS 46 l with
    | none => rw [hc] at h; cases h
    | some (a, r) =>
      rw [hc] at h
      simp only at h
      match hn : numC a 255 with
      | none => rw [hn] at h; cases h
      | some m =>
        rw [hn] at h
        have h2 := (numC_some hn).2.2
        have h3 := addrS_lt j _ r n h
        refine Nat.lt_of_lt_of_le h3 ?_
        rw [show 256 ^ (j + 1 + 1) = 256 ^ (j + 1) * 256 from rfl, Nat.mul_assoc]
        exact Nat.mul_le_mul_left _ (by omega)
end Go.Proofs.YthllfnmebdjpfaaGreatDoor.H
end

section
namespace Go.Proofs.YthllfnmebdjpfaaGreatDoor.H
open Go.RowKit Go.Proofs.YthllfnmebdjpfaaGreatDoor.Hand Go.Proofs.YthllfnmebdjpfaaGreatDoorW.PrintWords Go.Proofs.YthllfnmebdjpfaaGreatDoorW.PrintLast Go.Proofs.YthllfnmebdjpfaaGreatDoorW.PrintMore

def rightS (v p : Nat) : Bool := decide ((v : Int) % 2 ^ ((32 : Int) - (p : Int)).toNat = 0)
def prefS (l : List UInt8) : Int × Int × Int :=
  match cutS 47 l with
  | none => match addrS 3 0 l with
    | none => (0, 0, 30)
    | some v => if rightS v 32 = true then ((v : Int), 32, 0) else (0, 0, 30)
  | some (a, b) => match addrS 3 0 a with
    | none => (0, 0, 30)
    | some v => match numC b 32 with
      | none => (0, 0, 30)
      | some p => if rightS v p = true then ((v : Int), (p : Int), 0) else (0, 0, 30)
theorem addr_lt {l : List UInt8} {v : Nat} (h : addrS 3 0 l = some v) : v ≤ 4294967295 := by
  have h1 := addrS_lt 3 0 l v h
  have h2 : 256 ^ (3 + 1) * (0 + 1) = 4294967296 := by decide
  rw [h2] at h1
  omega
theorem right_ev (v p : Nat) (hv : v ≤ 4294967295) (hp : p ≤ 32) : addr_right.f (v : Int) (p : Int) = some (rightS v p) := by
  unfold addr_right.f
  rw [if_pos (by omega)]
  rfl
theorem ref_right_ev (v p : Nat) (hv : v ≤ 4294967295) (hp : p ≤ 32) : lychgateref03_Right.f (v : Int) (p : Int) = some (rightS v p) := by
  have hs : ∀ q : Fin 33, shl .i64 1 (wrap64 (32 - (q.val : Int))) = 2 ^ ((32 : Int) - (q.val : Int)).toNat ∧ 0 ≤ wrap64 (32 - (q.val : Int)) := by decide +kernel
  obtain ⟨h1, h2⟩ := hs ⟨p, by omega⟩
  have h1 : shl .i64 1 (wrap64 (32 - (p : Int))) = 2 ^ ((32 : Int) - (p : Int)).toNat := h1
  have h2 : 0 ≤ wrap64 (32 - (p : Int)) := h2
  have hpos : (0 : Int) < 2 ^ ((32 : Int) - (p : Int)).toNat := Int.pow_pos (by decide)
  unfold lychgateref03_Right.f lychgateref03_Size.f
  rw [if_pos (by omega), if_pos (by omega), if_pos (by omega), if_pos (by omega), if_pos h2, h1]
  simp only [Option.bind_some]
  rw [if_neg (by omega), Int.tmod_eq_emod_of_nonneg (by omega)]
  refine congrArg some ?_
  unfold rightS
  rw [Bool.eq_iff_iff, beq_iff_eq, decide_eq_true_iff]
theorem cut47 (x : ByteArray) (hz : x.size ≤ 8000) : strings_Cut.f x ⟨#[47]⟩ = some (match cutS 47 (bl x) with | none => (x, (⟨#[]⟩ : ByteArray), false) | some (a, b) => (toS a, toS b, true)) := by
  unfold strings_Cut.f
  rw [if_pos (by omega)]
  congr 1
  have h := cut_cut 47 (bl x)
  show (toS (Lib.cut (bl x) [47]).1, toS (Lib.cut (bl x) [47]).2.1, (Lib.cut (bl x) [47]).2.2) = _
  rw [h]
  cases cutS 47 (bl x) with
  | none => rfl
  | some y => rfl
theorem prefix_ev (x : ByteArray) (hz : x.size ≤ 8000) : addr_ParsePrefix.f x = some (prefS (bl x)) := by
  have hl := bl_length x
  unfold addr_ParsePrefix.f prefS
  rw [cut47 x hz]
  match hc : cutS 47 (bl x) with
  | none =>
    simp only [Option.bind_some]
    rw [addr_parse x hz]
    simp only [Option.bind_some]
    rw [if_neg (by decide)]
    match ha : addrS 3 0 (bl x) with
    | none => rfl
    | some v =>
      have := right_ev v 32 (addr_lt ha) (by decide)
      have this : addr_right.f (v : Int) 32 = some (rightS v 32) := this
      simp only [addrR, if_true]
      rw [this]
      simp only [Option.bind_some]
      split <;> rfl
  | some (a, b) =>
    have hlen := cutS_len _ _ _ _ hc
    simp only [Option.bind_some, if_true]
    rw [addr_parse (toS a) (by rw [toS_size]; omega)]
    obtain ⟨w, h1, h2⟩ := addr_num (toS b) 32 (by rw [toS_size]; omega) (by decide)
    have h1 : addr_number.f (toS b) 32 = some (w, (numC b 32).isSome) := h1
    have h2 : ∀ n, numC b 32 = some n → w = (n : Int) := h2
    have hbl : bl (toS a) = a := rfl
    rw [h1, hbl]
    simp only [Option.bind_some]
    match ha : addrS 3 0 a with
    | none => rfl
    | some v =>
      simp only [addrR, if_true]
      match hn : numC b 32 with
      | none => rfl
      | some p =>
        have hw := h2 p hn
        subst hw
        rw [Option.isSome_some, if_pos rfl, right_ev v p (addr_lt ha) (numC_some hn).2.2]
        simp only [Option.bind_some]
        split <;> rfl
theorem j0_no (k : Nat) (x p : Int) (b : Bool) : lychgateref03_ParsePrefix.j0 (k + 2) x 30 p b = some (0, 0, 30) := by
  simp only [lychgateref03_ParsePrefix.j0]
  rw [if_neg (by decide)]
  simp only [lychgateref03_ParsePrefix.j1, if_true]
theorem ref_prefix_ev (x : ByteArray) (hz : x.size ≤ 8000) (k : Nat) (hk : 9020 ≤ k) : lychgateref03_ParsePrefix.f k x = some (prefS (bl x)) := by
  have hl := bl_length x
  have hc' := ref3_cut x hz 47 k (by omega)
  have hc' : lychgateref03_cut.f k x 47 = _ := hc'
  obtain ⟨k, rfl⟩ : ∃ m, k = m + 2 := ⟨k - 2, by omega⟩
  unfold lychgateref03_ParsePrefix.f prefS
  rw [hc']
  match hc : cutS 47 (bl x) with
  | none =>
    simp only [Option.bind_some]
    rw [ref3_parse x hz _ (by omega)]
    simp only [Option.bind_some]
    rw [if_neg (by decide)]
    match ha : addrS 3 0 (bl x) with
    | none => exact j0_no k _ _ _
    | some v =>
      have := ref_right_ev v 32 (addr_lt ha) (by decide)
      have this : lychgateref03_Right.f (v : Int) 32 = some (rightS v 32) := this
      simp only [lychgateref03_ParsePrefix.j0, addrR, if_true, lychgateref03_ParsePrefix.j1, Bool.not_true]
      rw [if_neg (by decide), this]
      simp only [Option.bind_some]
      split <;> rfl
  | some (a, b) =>
    have hlen := cutS_len _ _ _ _ hc
    simp only [Option.bind_some, if_true]
    rw [ref3_parse (toS a) (by rw [toS_size]; omega) _ (by omega)]
    obtain ⟨w, h1, h2⟩ := ref3_num (toS b) 32 (by decide) (k + 2) (by omega)
    have h1 : lychgateref03_number.f (k + 2) (toS b) 32 = some (w, (numC b 32).isSome) := h1
    have h2 : ∀ n, numC b 32 = some n → w = (n : Int) := h2
    have hbl : bl (toS a) = a := rfl
    rw [h1, hbl]
    simp only [Option.bind_some]
    match ha : addrS 3 0 a with
    | none => exact j0_no k _ _ _
    | some v =>
      simp only [lychgateref03_ParsePrefix.j0, addrR, if_true]
      match hn : numC b 32 with
      | none => simp only [Option.isSome_none, Bool.not_false, lychgateref03_ParsePrefix.j1, if_true]
      | some p =>
        have hw := h2 p hn
        subst hw
        simp only [Option.isSome_some, Bool.not_true, lychgateref03_ParsePrefix.j1]
        rw [if_neg (by decide), ref_right_ev v p (addr_lt ha) (numC_some hn).2.2]
        simp only [Option.bind_some]
        split <;> rfl

def hasP (l : List UInt8) : Bool := l.any fun b => decide (b = 46) || decide (b = 47)
theorem any_has : ∀ l : List UInt8, Lib.containsAny l [46, 47] = hasP l := by
  have key : ∀ l : List UInt8, (0 ≤ Lib.indexAny l [46, 47]) ↔ hasP l = true := by
    intro l
    induction l with
    | nil => decide
    | cons b r ih =>
      rw [Lib.indexAny, hasP, List.any_cons]
      have hb : ([46, 47] : List UInt8).contains b = (decide (b = 46) || decide (b = 47)) := by
        rw [List.contains_cons, List.contains_cons, List.contains_nil, Bool.or_false]
        rfl
      have hge := Lib.indexAny_ge [46, 47] r
      rw [hb]
      cases (decide (b = 46) || decide (b = 47)) with
      | true => simp
      | false =>
        rw [if_neg (by decide), Bool.false_or]
        show _ ↔ hasP r = true
        rw [← ih]
        by_cases hm : Lib.indexAny r [46, 47] = -1
        · rw [hm]; decide
        · rw [if_neg (by simpa using hm)]
          omega
  intro l
  unfold Lib.containsAny
  rw [Bool.eq_iff_iff, decide_eq_true_iff]
  exact key l
theorem byte46 (b : UInt8) : ((b.toNat : Int) = 46) ↔ b = 46 := ⟨fun h => UInt8.toNat_inj.1 (show b.toNat = 46 by omega), fun h => by rw [h]; rfl⟩
theorem byte47 (b : UInt8) : ((b.toNat : Int) = 47) ↔ b = 47 := ⟨fun h => UInt8.toNat_inj.1 (show b.toNat = 47 by omega), fun h => by rw [h]; rfl⟩
theorem ref_numbered_l0 (x : ByteArray) (hz : x.size ≤ 8000) : ∀ (d i k : Nat), i + d = x.size → 9020 + d + 1 ≤ k →
    lychgateref08_numbered.l0 k x (i : Int) = some (if hasP ((bl x).drop i) = true then (5, (⟨#[]⟩ : ByteArray), 0, (prefS (bl x)).1, (prefS (bl x)).2.1, 0, (prefS (bl x)).2.2 == 0) else (0, (⟨#[]⟩ : ByteArray), 0, 0, 0, 0, false)) := by
  have hl := bl_length x
  intro d
  induction d with
  | zero =>
    intro i k hi hk
    obtain ⟨k, rfl⟩ : ∃ m, k = m + 1 := ⟨k - 1, by omega⟩
    simp only [lychgateref08_numbered.l0]
    rw [if_neg (by omega), List.drop_of_length_le (by omega)]
    rfl
  | succ d ih =>
    intro i k hi hk
    obtain ⟨k, rfl⟩ : ∃ m, k = m + 1 := ⟨k - 1, by omega⟩
    have hlt : i < (bl x).length := by omega
    simp only [lychgateref08_numbered.l0]
    rw [if_pos (by omega), if_pos (by omega), bt_nat x i hlt, drop_at _ i hlt, ref_prefix_ev x hz k (by omega)]
    have hh : hasP ((bl x)[i] :: (bl x).drop (i + 1)) = ((decide ((bl x)[i] = 46) || decide ((bl x)[i] = 47)) || hasP ((bl x).drop (i + 1))) := List.any_cons
    rw [hh]
    by_cases h46 : (bl x)[i] = 46
    · rw [if_pos ((byte46 _).2 h46), decide_eq_true h46]; rfl
    rw [if_neg (fun h => h46 ((byte46 _).1 h)), decide_eq_false h46]
    by_cases h47 : (bl x)[i] = 47
    · rw [if_pos ((byte47 _).2 h47), decide_eq_true h47]; rfl
    rw [if_neg (fun h => h47 ((byte47 _).1 h)), decide_eq_false h47, wrap_nat i (by omega), ih (i + 1) k (by omega) (by omega)]
    rfl
theorem digs_of (l : List UInt8) (h : ∀ b ∈ l, gB 5 b = true) (hp : hasP l = false) : l.all digB = true := by
  rw [List.all_eq_true]
  intro b hb
  have h1 : goesS 5 (b.toNat : Int) = true := h b hb
  rw [goesS_5] at h1
  have h1 := of_decide_eq_true h1
  have h2 : (decide (b = 46) || decide (b = 47)) = false := by
    rw [← Bool.not_eq_true]
    intro e
    have : hasP l = true := List.any_eq_true.2 ⟨b, hb, e⟩
    rw [hp] at this
    cases this
  rw [Bool.or_eq_false_iff, decide_eq_false_iff_not, decide_eq_false_iff_not] at h2
  have h46 : ¬ (b.toNat : Int) = 46 := fun e => h2.1 ((byte46 b).1 e)
  have h47 : ¬ (b.toNat : Int) = 47 := fun e => h2.2 ((byte47 b).1 e)
  exact decide_eq_true ⟨by omega, by omega⟩
theorem has_not (l : List UInt8) (h : hasP l = true) (m : Nat) : numC l m = none := by
  cases hn : numC l m with
  | none => rfl
  | some n =>
    obtain ⟨b, hb, h1⟩ := List.any_eq_true.1 h
    have h2 := List.all_eq_true.1 (numC_some hn).1.2.1 b hb
    have h2 := of_decide_eq_true h2
    rw [Bool.or_eq_true, decide_eq_true_iff, decide_eq_true_iff] at h1
    rcases h1 with rfl | rfl
    · exact absurd h2 (by decide)
    · exact absurd h2 (by decide)
theorem numS_has (x : ByteArray) (hz : x.size ≤ 8000) (ha : (bl x).all (fun b => decide (b.toNat < 128)) = true) (h : hasP (bl x) = true) : numS x = (5, (⟨#[]⟩ : ByteArray), 0, (prefS (bl x)).1, (prefS (bl x)).2.1, 0, (prefS (bl x)).2.2 == 0) := by
  have hc : strings_ContainsAny.f x ⟨#[46, 47]⟩ = some true := by
    unfold strings_ContainsAny.f
    rw [if_pos ⟨by omega, by decide, ha, by decide⟩]
    have := any_has (bl x)
    rw [h] at this
    exact congrArg some this
  unfold numS lex_numbered.f
  rw [hc]
  simp only [Option.bind_some, if_true]
  rw [prefix_ev x hz]
  rfl
theorem numS_not (x : ByteArray) (hz : x.size ≤ 8000) (ha : (bl x).all (fun b => decide (b.toNat < 128)) = true) (h : hasP (bl x) = false) (hd : (bl x).all digB = true) :
    (numS x).2.2.2.2.2.2 = (numC (bl x) 4294967295).isSome ∧ ∀ n, numC (bl x) 4294967295 = some n → numS x = (4, (⟨#[]⟩ : ByteArray), (n : Int), 0, 0, 0, true) := by
  have hc : strings_ContainsAny.f x ⟨#[46, 47]⟩ = some false := by
    unfold strings_ContainsAny.f
    rw [if_pos ⟨by omega, by decide, ha, by decide⟩]
    have := any_has (bl x)
    rw [h] at this
    exact congrArg some this
  unfold numS lex_numbered.f
  rw [hc]
  simp only [Option.bind_some]
  rw [if_neg (by decide), if_pos (by omega), toList_dt]
  have hl : x.data.toList = bl x := rfl
  rw [hl]
  cases hv : Lib.atoiAll (bl x)
  case ok v =>
    have h1 := atoi_dig (bl x) 4294967295 v hv (by decide) hd
    have h2 := (atoi_ok (bl x) 4294967295 v hv (by decide)).2
    have h1 : (decide (v ≤ 4294967295) && (Lib.itoa v == bl x)) = (numC (bl x) 4294967295).isSome := h1
    refine ⟨h1, fun n hn => ?_⟩
    have := h2 n hn
    subst this
    show (4, (⟨#[]⟩ : ByteArray), (n : Int), 0, 0, 0, (decide ((n : Int) ≤ 4294967295) && (Lib.itoa (n : Int) == bl x))) = _
    rw [h1, hn]
    rfl
  all_goals
    have := atoi_no (bl x) 4294967295 (fun v h => by rw [hv] at h; cases h) (by decide)
    rw [this]
    exact ⟨rfl, fun n hn => by cases hn⟩
/-- A run of digits as a token, of the reference. -/
theorem numbered_ev (x : ByteArray) (hz : x.size ≤ 8000) (h0 : 0 < x.size) (hg : ∀ b ∈ bl x, gB 5 b = true) (k : Nat) (hk : 18000 ≤ k) :
    ∃ v, lychgateref08_numbered.f k x = some v ∧ v.2.2.2.2.2.2 = (numS x).2.2.2.2.2.2 ∧ (v.2.2.2.2.2.2 = true → v = numS x) := by
  have ha : (bl x).all (fun b => decide (b.toNat < 128)) = true := List.all_eq_true.2 fun b hb => decide_eq_true (gB5_low b (hg b hb))
  obtain ⟨w, h1, h2⟩ := ref8_num x hz h0 k (by omega)
  have hl0 := ref_numbered_l0 x hz x.size 0 k (by omega) (by omega)
  rw [List.drop_zero] at hl0
  have hl0 : lychgateref08_numbered.l0 k x 0 = _ := hl0
  unfold lychgateref08_numbered.f
  rw [h1]
  simp only [Option.bind_some]
  cases hp : hasP (bl x) with
  | true =>
    rw [has_not _ hp, Option.isSome_none, if_neg (by decide), hl0, hp, if_pos rfl]
    have := numS_has x hz ha hp
    exact ⟨_, rfl, by rw [this], fun _ => this.symm⟩
  | false =>
    obtain ⟨h3, h4⟩ := numS_not x hz ha hp (digs_of _ hg hp)
    cases hn : numC (bl x) 4294967295 with
    | none =>
      rw [hn] at h3
      rw [Option.isSome_none, if_neg (by decide), hl0, hp, if_neg (by decide)]
      exact ⟨_, rfl, h3.symm, fun e => by cases e⟩
    | some n =>
      have hw := h2 n hn
      subst hw
      have := h4 n hn
      rw [Option.isSome_some, if_pos rfl]
      exact ⟨_, rfl, by rw [this], fun _ => this.symm⟩
end Go.Proofs.YthllfnmebdjpfaaGreatDoor.H
end

section
namespace Go.Proofs.YthllfnmebdjpfaaGreatDoor.H
open Go.RowKit Go.Proofs.YthllfnmebdjpfaaGreatDoor.Hand Go.Proofs.YthllfnmebdjpfaaGreatDoorW.PrintWords Go.Proofs.YthllfnmebdjpfaaGreatDoorW.PrintLast Go.Proofs.YthllfnmebdjpfaaGreatDoorW.PrintMore

theorem text_l0 (s : ByteArray) (hz : s.size ≤ 8000) : ∀ (d i k : Nat) (acc : List UInt8), i + d = (bl s).length → 2 * d + 1 ≤ k → acc.length ≤ i →
    lychgateref08_text.l0 k s (acc.map fun b => (b.toNat : Int)) (i : Int) = some (qdR acc i (qdS ((bl s).drop i))) := by
  have hl := bl_length s
  intro d
  induction d using Nat.strongRecOn with
  | _ d ih =>
  intro i k acc hi hk ha
  obtain ⟨k, rfl⟩ : ∃ m, k = m + 1 := ⟨k - 1, by omega⟩
  have hm : (acc.map fun b => (b.toNat : Int)).length = acc.length := List.length_map ..
  simp only [lychgateref08_text.l0]
  by_cases hd : d = 0
  · rw [if_neg (by omega), List.drop_of_length_le (by omega)]; rfl
  have hlt : i < (bl s).length := by omega
  rw [if_pos (by omega), if_pos (by omega), bt_nat s i hlt, wrap_nat i (by omega), drop_at _ i hlt]
  have hbr := (bl s)[i].toNat_lt
  generalize (bl s)[i] = c at hbr
  by_cases h34 : c.toNat = 34
  · rw [if_pos (by omega), qdS_end _ _ h34, nums_toS, hm]
    simp [qdR]
    omega
  rw [if_neg (by omega)]
  have snoc : ∀ e : UInt8, (acc.map fun b => (b.toNat : Int)) ++ [(e.toNat : Int)] = (acc ++ [e]).map fun b => (b.toNat : Int) := fun e => by simp
  have hl1 : ∀ e : UInt8, (acc ++ [e]).length = acc.length + 1 := fun e => by simp
  obtain ⟨k, rfl⟩ : ∃ m, k = m + 1 := ⟨k - 1, by omega⟩
  by_cases h32 : c.toNat < 32
  · rw [if_pos (by omega), qdS_bad _ _ (.inl h32)]
    simp only [lychgateref08_text.j1]
    rfl
  rw [if_neg (by omega)]
  by_cases h126 : 126 < c.toNat
  · rw [decide_eq_true (by omega), qdS_bad _ _ (.inr h126)]
    simp only [lychgateref08_text.j1]
    rfl
  rw [decide_eq_false (by omega)]
  simp only [lychgateref08_text.j1]
  rw [if_neg (by decide)]
  by_cases h92 : c.toNat = 92
  · rw [if_pos (by omega), wrap_nat i (by omega)]
    by_cases he : i + 1 = (bl s).length
    · rw [if_pos (by omega), List.drop_of_length_le (by omega)]
      simp only [qdS]
      rw [if_neg h34]; rfl
    have hlt' : i + 1 < (bl s).length := by omega
    rw [if_neg (by omega), if_pos (by omega), if_pos (by omega), bt_nat s (i + 1) hlt', wrap_nat (i + 1) (by omega), drop_at _ (i + 1) hlt', qdS_esc _ _ _ h92]
    have hbr' := (bl s)[i + 1].toNat_lt
    generalize (bl s)[i + 1] = e at hbr'
    have key := fun (h : e.toNat = 34 ∨ e.toNat = 92) => ih (d - 2) (by omega) (i + 2) k (acc ++ [e]) (by omega) (by omega) (by rw [hl1]; omega)
    rw [show i + 1 + 1 = i + 2 by omega, snoc]
    by_cases g : e.toNat = 34
    · rw [if_pos (by omega), if_pos (by omega), if_pos (.inl g), key (.inl g), qdR_step]
    · rw [if_neg (by omega)]
      by_cases g2 : e.toNat = 92
      · rw [if_pos (by omega), if_pos (by omega), if_pos (.inr g2), key (.inr g2), qdR_step]
      · rw [if_neg (by omega), if_neg (by omega)]; rfl
  rw [if_neg (by omega), if_pos (by omega), snoc, qdS_char _ _ h34 h92 (by omega), wrap_nat i (by omega), ih (d - 1) (by omega) (i + 1) k (acc ++ [c]) (by omega) (by omega) (by rw [hl1]; omega), qdR_step]
theorem text_ev (s : ByteArray) (hz : s.size ≤ 8000) (i : Nat) (hi : i < s.size) (k : Nat) (hk : 18000 ≤ k) : lychgateref08_text.f k s (i : Int) = some (qdR [] (i + 1) (qdS ((bl s).drop (i + 1)))) := by
  have hl := bl_length s
  unfold lychgateref08_text.f
  rw [wrap_nat i (by omega)]
  exact text_l0 s hz ((bl s).length - (i + 1)) (i + 1) k [] (by omega) (by omega) (by simp)

theorem sign_ev (s : ByteArray) (hz : s.size ≤ 8000) (i : Nat) (hi : i < s.size) (c : Int) (k : Nat) (hk : 20 ≤ k) :
    lychgateref08_one.l0 k s (i : Int) c 0 = some (if c = 123 ∨ c = 125 ∨ c = 40 ∨ c = 41 ∨ c = 44 ∨ c = 59 ∨ c = 61 ∨ c = 126 ∨ c = 45 then (7, s.extract i (i + 1), 0, 0, 0, 0, ((i + 1 : Nat) : Int), 0) else (0, (⟨#[]⟩ : ByteArray), 0, 0, 0, 0, 0, 80)) := by
  obtain ⟨k, rfl⟩ : ∃ m, k = m + 10 := ⟨k - 10, by omega⟩
  have w : wrap64 ((i : Int) + 1) = ((i + 1 : Nat) : Int) := wrap_nat i (by omega)
  have st : ∀ (k j : Nat) (b : Int), j < 9 → bt (⟨#[123, 125, 40, 41, 44, 59, 61, 126, 45]⟩ : ByteArray) (j : Int) = b → lychgateref08_one.l0 (k + 1) s (i : Int) c (j : Int) = if b = c then some (7, s.extract i (i + 1), 0, 0, 0, 0, ((i + 1 : Nat) : Int), 0) else lychgateref08_one.l0 k s (i : Int) c ((j + 1 : Nat) : Int) := by
    intro k j b hj hb
    simp only [lychgateref08_one.l0]
    rw [if_pos (by omega), if_pos (by omega), hb, wrap_nat j (by omega), w]
    by_cases h : b = c
    · rw [if_pos h, if_pos h, if_pos (by omega), if_pos (by omega), if_pos (by omega), Int.toNat_natCast, Int.toNat_natCast]
    · rw [if_neg h, if_neg h]
  have en : lychgateref08_one.l0 (k + 1) s (i : Int) c ((9 : Nat) : Int) = some (0, (⟨#[]⟩ : ByteArray), 0, 0, 0, 0, 0, 80) := by
    simp only [lychgateref08_one.l0]
    rw [if_neg (by omega)]
  show lychgateref08_one.l0 (k + 10) s (i : Int) c ((0 : Nat) : Int) = _
  rw [st (k + 9) 0 123 (by decide) (by decide)]
  by_cases h0 : c = 123
  · rw [if_pos h0.symm, if_pos (by omega)]
  rw [if_neg (fun e => h0 e.symm)]
  rw [st (k + 8) 1 125 (by decide) (by decide)]
  by_cases h1 : c = 125
  · rw [if_pos h1.symm, if_pos (by omega)]
  rw [if_neg (fun e => h1 e.symm)]
  rw [st (k + 7) 2 40 (by decide) (by decide)]
  by_cases h2 : c = 40
  · rw [if_pos h2.symm, if_pos (by omega)]
  rw [if_neg (fun e => h2 e.symm)]
  rw [st (k + 6) 3 41 (by decide) (by decide)]
  by_cases h3 : c = 41
  · rw [if_pos h3.symm, if_pos (by omega)]
  rw [if_neg (fun e => h3 e.symm)]
  rw [st (k + 5) 4 44 (by decide) (by decide)]
  by_cases h4 : c = 44
  · rw [if_pos h4.symm, if_pos (by omega)]
  rw [if_neg (fun e => h4 e.symm)]
  rw [st (k + 4) 5 59 (by decide) (by decide)]
  by_cases h5 : c = 59
  · rw [if_pos h5.symm, if_pos (by omega)]
  rw [if_neg (fun e => h5 e.symm)]
  rw [st (k + 3) 6 61 (by decide) (by decide)]
  by_cases h6 : c = 61
  · rw [if_pos h6.symm, if_pos (by omega)]
  rw [if_neg (fun e => h6 e.symm)]
  rw [st (k + 2) 7 126 (by decide) (by decide)]
  by_cases h7 : c = 126
  · rw [if_pos h7.symm, if_pos (by omega)]
  rw [if_neg (fun e => h7 e.symm)]
  rw [st (k + 1) 8 45 (by decide) (by decide)]
  by_cases h8 : c = 45
  · rw [if_pos h8.symm, if_pos (by omega)]
  rw [if_neg (fun e => h8 e.symm)]
  rw [en, if_neg (by omega)]

theorem runS_within (m i : Int) (b : UInt8) (r : List UInt8) (hm : ∀ x : UInt8, withinS m (x.toNat : Int) = gB i x) (hb : gB i b = true) :
    ((b :: r).takeWhile fun x => withinS m (x.toNat : Int)).length = runS i (b :: r) := by
  have e : (fun x : UInt8 => withinS m (x.toNat : Int)) = gB i := funext hm
  rw [e, List.takeWhile_cons_of_pos hb, List.length_cons, runS]
  omega
theorem extract_run (s : ByteArray) (i n : Nat) : s.extract i (i + n) = toS (((bl s).drop i).take n) := by
  apply ByteArray.ext
  apply Array.toList_inj.1
  simp [toS, bl, ByteArray.data_extract, Array.toList_extract]

theorem one_ev (s : ByteArray) (hz : s.size ≤ 8000) (i : Nat) (hi : i < s.size) (k : Nat) (hk : 18000 ≤ k) (h1 : inS ((bl s).drop i) ≠ 1) (h2 : inS ((bl s).drop i) ≠ 2) :
    match tokS ((bl s).drop i) with
    | .inl e => e ≠ 0 ∧ ∃ v, lychgateref08_one.f k s (i : Int) = some v ∧ v.2.2.2.2.2.2.2 = e
    | .inr (t, n) => t.f0 ≠ 0 ∧ ∃ z, lychgateref08_one.f k s (i : Int) = some (t.f0, t.f1, t.f2, t.f3.f0, t.f3.f1, z, ((i + n : Nat) : Int), 0) := by
  have hl := bl_length s
  have hlt : i < (bl s).length := by omega
  have hdr := drop_at (bl s) i hlt
  generalize hF : lychgateref08_one.f k s (i : Int) = F
  unfold lychgateref08_one.f at hF
  rw [if_pos (by omega), if_pos (by omega), bt_nat s i hlt, ref_small_eq, ref_great_eq, ref_digit_eq] at hF
  simp only [Option.bind_some] at hF
  have hrunle : ∀ j : Int, runS j ((bl s).drop i) ≤ (bl s).length - i := fun j => by have := runS_le j ((bl s).drop i); rwa [List.length_drop] at this
  have hrun : ∀ (m j : Int), (∀ x : UInt8, withinS m (x.toNat : Int) = gB j x) → gB j (bl s)[i] = true → lychgateref08_run.f k m s (i : Int) = some ((i + runS j ((bl s).drop i) : Nat) : Int) := by
    intro m j hm hb
    rw [ref_run_eq m s (by omega) i k (by omega) (by omega), hdr, runS_within m j _ _ hm hb]
  have hx : ∀ j : Int, s.extract i (i + runS j ((bl s).drop i)) = toS (((bl s).drop i).take (runS j ((bl s).drop i))) := fun j => extract_run s i _
  have hxs : ∀ j : Int, (toS (((bl s).drop i).take (runS j ((bl s).drop i)))).size = runS j ((bl s).drop i) := fun j => by
    rw [toS_size, List.length_take, List.length_drop]; have := hrunle j; omega
  have hpos : ∀ j : Int, 0 < runS j ((bl s).drop i) := fun j => by rw [hdr]; exact runS_pos j _ _
  rw [hdr] at h1 h2
  have htx := text_ev s hz i hi k hk
  have hnm : beginsS ((bl s)[i].toNat : Int) = 5 → (∀ x ∈ ((bl s).drop i).take (runS 5 ((bl s).drop i)), gB 5 x = true) := by
    intro h5
    rw [hdr, run_front]
    intro x hx
    rcases List.mem_cons.1 hx with rfl | hx
    · have := begins_5 _ h5
      show goesS 5 _ = true
      rw [goesS_5]
      exact decide_eq_true (.inl this)
    · exact List.all_eq_true.1 List.all_takeWhile x hx
  have h1' : beginsS ((bl s)[i].toNat : Int) ≠ 1 := h1
  have h2' : beginsS ((bl s)[i].toNat : Int) ≠ 2 := h2
  have htk : tokS ((bl s).drop i) = (if beginsS ((bl s)[i].toNat : Int) = 6 then
      match qdS ((bl s).drop (i + 1)) with
      | some (o, n) => if o.length ≤ 200 then .inr (⟨6, toS o, 0, ⟨0, 0⟩, 0⟩, n + 1) else .inl 83
      | none => .inl 83
    else if beginsS ((bl s)[i].toNat : Int) = 0 then .inl 80
    else finS (beginsS ((bl s)[i].toNat : Int)) (toS (((bl s).drop i).take (runS (beginsS ((bl s)[i].toNat : Int)) ((bl s).drop i))))) := by
    rw [hdr]; rfl
  rw [htk]
  have hbr := (bl s)[i].toNat_lt
  have hgo : ∀ j : Int, j = 3 ∨ j = 4 ∨ j = 5 → beginsS ((bl s)[i].toNat : Int) = j → gB j (bl s)[i] = true := by
    intro j hj hb
    show goesS j _ = true
    unfold beginsS at hb
    rcases hj with rfl | rfl | rfl
    · rw [goesS_3]
      refine decide_eq_true ?_
      repeat' (first | (split at hb) | omega | (cases hb; done))
    · rw [goesS_4]
      refine decide_eq_true ?_
      repeat' (first | (split at hb) | omega | (cases hb; done))
    · rw [goesS_5]
      refine decide_eq_true ?_
      repeat' (first | (split at hb) | omega | (cases hb; done))
  have hclass : beginsS ((bl s)[i].toNat : Int) = if 97 ≤ ((bl s)[i].toNat : Int) ∧ ((bl s)[i].toNat : Int) ≤ 122 then 3 else if 65 ≤ ((bl s)[i].toNat : Int) ∧ ((bl s)[i].toNat : Int) ≤ 90 then 4 else if 48 ≤ ((bl s)[i].toNat : Int) ∧ ((bl s)[i].toNat : Int) ≤ 57 then 5 else if ((bl s)[i].toNat : Int) = 34 then 6
      else if ((bl s)[i].toNat : Int) = 123 ∨ ((bl s)[i].toNat : Int) = 125 ∨ ((bl s)[i].toNat : Int) = 40 ∨ ((bl s)[i].toNat : Int) = 41 ∨ ((bl s)[i].toNat : Int) = 44 ∨ ((bl s)[i].toNat : Int) = 59 ∨ ((bl s)[i].toNat : Int) = 61 ∨ ((bl s)[i].toNat : Int) = 126 ∨ ((bl s)[i].toNat : Int) = 45 then 7 else 0 := by
    unfold beginsS at h1' h2' ⊢
    by_cases a : ((bl s)[i].toNat : Int) = 32 ∨ ((bl s)[i].toNat : Int) = 9 ∨ ((bl s)[i].toNat : Int) = 10 ∨ ((bl s)[i].toNat : Int) = 13
    · rw [if_pos a] at h1'; exact absurd rfl h1'
    rw [if_neg a] at h2' ⊢
    by_cases b : ((bl s)[i].toNat : Int) = 35
    · rw [if_pos b] at h2'; exact absurd rfl h2'
    rw [if_neg b]
  generalize hI : beginsS ((bl s)[i].toNat : Int) = I at *
  generalize hC : ((bl s)[i].toNat : Int) = c at *
  by_cases c3 : 97 ≤ c ∧ c ≤ 122
  · rw [if_pos c3] at hclass
    subst hclass
    have hr := hrun 1 3 (fun x => rfl) (hgo 3 (.inl rfl) rfl)
    have hp := hpos 3
    have hle := hrunle 3
    rw [if_pos (decide_eq_true c3), hr] at hF
    simp only [Option.bind_some] at hF
    rw [if_pos (by omega), if_pos (by omega), Int.toNat_natCast, Int.toNat_natCast, hx, ref_isword_eq _ k (by omega)] at hF
    simp only [Option.bind_some] at hF
    have hs := hxs 3
    rw [if_neg (by decide), if_neg (by decide), finS, if_pos rfl]
    generalize toS (((bl s).drop i).take (runS 3 ((bl s).drop i))) = x at hs hF ⊢
    by_cases hw : isWordS x = true
    · rw [if_pos hw] at hF ⊢
      exact ⟨by simp, 0, by rw [← hF, hs]⟩
    · rw [if_neg hw] at hF ⊢
      by_cases hbig : x.size > 32
      · rw [if_pos hbig]
        rw [if_pos (by unfold wrap64; omega)] at hF
        exact ⟨by decide, _, hF.symm, rfl⟩
      · rw [if_neg hbig]
        rw [if_neg (by unfold wrap64; omega)] at hF
        exact ⟨by simp, 0, by rw [← hF, hs]⟩
  rw [if_neg c3] at hclass
  rw [if_neg (by simpa using c3)] at hF
  by_cases c4 : 65 ≤ c ∧ c ≤ 90
  · rw [if_pos c4] at hclass
    subst hclass
    have hr := hrun 2 4 (fun x => rfl) (hgo 4 (.inr (.inl rfl)) rfl)
    have hp := hpos 4
    have hle := hrunle 4
    rw [if_pos (decide_eq_true c4), hr] at hF
    simp only [Option.bind_some] at hF
    have hs := hxs 4
    have hxx := hx 4
    rw [if_neg (by decide), if_neg (by decide), finS, if_neg (by decide), if_pos rfl]
    generalize toS (((bl s).drop i).take (runS 4 ((bl s).drop i))) = x at hs hxx ⊢
    by_cases hbig : x.size > 16
    · rw [if_pos hbig]
      rw [if_pos (by unfold wrap64; omega)] at hF
      exact ⟨by decide, _, hF.symm, rfl⟩
    · rw [if_neg hbig]
      rw [if_neg (by unfold wrap64; omega), if_pos (by omega), if_pos (by omega), Int.toNat_natCast, Int.toNat_natCast, hxx] at hF
      exact ⟨by simp, 0, by rw [← hF, hs]⟩
  rw [if_neg c4] at hclass
  rw [if_neg (by simpa using c4)] at hF
  by_cases c5 : 48 ≤ c ∧ c ≤ 57
  · rw [if_pos c5] at hclass
    subst hclass
    have hr := hrun 3 5 (fun x => rfl) (hgo 5 (.inr (.inr rfl)) rfl)
    have hp := hpos 5
    have hle := hrunle 5
    rw [if_pos (decide_eq_true c5), hr] at hF
    simp only [Option.bind_some] at hF
    have hs := hxs 5
    have hxx := hx 5
    have hall := hnm rfl
    rw [if_pos (by omega), if_pos (by omega), Int.toNat_natCast, Int.toNat_natCast, hxx] at hF
    obtain ⟨v, hv, hv1, hv2⟩ := numbered_ev (toS (((bl s).drop i).take (runS 5 ((bl s).drop i)))) (by omega) (by omega) hall k (by omega)
    rw [hv] at hF
    simp only [Option.bind_some] at hF
    rw [if_neg (by decide), if_neg (by decide), finS, if_neg (by decide), if_neg (by decide), if_pos rfl]
    generalize toS (((bl s).drop i).take (runS 5 ((bl s).drop i))) = x at hs hv1 hv2 ⊢
    rw [← hv1]
    by_cases ho : v.2.2.2.2.2.2 = true
    · rw [if_pos ho] at hF ⊢
      have hve := hv2 ho
      have h4 : (numS x).1 = 4 ∨ (numS x).1 = 5 := num_kind x (by rw [← hve]; exact ho)
      refine ⟨by show (numS x).1 ≠ 0; omega, v.2.2.2.2.2.1, ?_⟩
      rw [← hF, hve, hs]
    · rw [if_neg ho] at hF ⊢
      exact ⟨by decide, _, hF.symm, rfl⟩
  rw [if_neg c5] at hclass
  rw [if_neg (by simpa using c5)] at hF
  by_cases c6 : c = 34
  · rw [if_pos c6] at hclass
    subst hclass
    rw [if_pos c6, htx] at hF
    rw [if_pos rfl]
    simp only [Option.bind_some] at hF
    match hq : qdS ((bl s).drop (i + 1)) with
    | none =>
      rw [hq] at hF
      exact ⟨by decide, _, hF.symm, rfl⟩
    | some (o, n) =>
      rw [hq] at hF
      simp only [qdR, List.nil_append] at hF
      dsimp only
      by_cases hh : o.length ≤ 200
      · rw [if_pos hh]
        have hF' : some ((6 : Int), toS o, (0 : Int), (0 : Int), (0 : Int), (0 : Int), ((i + 1 + n : Nat) : Int), (0 : Int)) = F := (if_pos (decide_eq_true hh)).symm.trans hF
        rw [show i + 1 + n = i + (n + 1) by omega] at hF'
        exact ⟨by simp, 0, hF'.symm⟩
      · rw [if_neg hh]
        have hF' : some ((0 : Int), (⟨#[]⟩ : ByteArray), (0 : Int), (0 : Int), (0 : Int), (0 : Int), (0 : Int), (83 : Int)) = F := (if_neg (by simpa using hh)).symm.trans hF
        exact ⟨by decide, _, hF'.symm, rfl⟩
  rw [if_neg c6] at hclass
  rw [if_neg c6, sign_ev s hz i hi c k (by omega)] at hF
  by_cases c7 : c = 123 ∨ c = 125 ∨ c = 40 ∨ c = 41 ∨ c = 44 ∨ c = 59 ∨ c = 61 ∨ c = 126 ∨ c = 45
  · rw [if_pos c7] at hclass
    subst hclass
    have h7 : runS 7 ((bl s).drop i) = 1 := by
      rw [hdr, runS]
      have : (List.takeWhile (gB 7) ((bl s).drop (i + 1))) = [] := by
        cases (bl s).drop (i + 1) with
        | nil => rfl
        | cons a r => exact List.takeWhile_cons_of_neg (by show ¬ goesS 7 _ = true; unfold goesS; rw [if_neg (by decide), if_neg (by decide), if_neg (by decide), if_neg (by decide), if_neg (by decide)]; decide)
      rw [this]; rfl
    have hxx := hx 7
    have hs := hxs 7
    rw [h7] at hxx hs
    rw [if_pos c7, hxx] at hF
    rw [if_neg (by decide), if_neg (by decide), h7, finS, if_neg (by decide), if_neg (by decide), if_neg (by decide), if_pos rfl]
    exact ⟨by simp, 0, by rw [← hF, hs]⟩
  · rw [if_neg c7] at hclass
    subst hclass
    rw [if_neg c7] at hF
    rw [if_neg (by decide), if_pos rfl]
    exact ⟨by decide, _, hF.symm, rfl⟩

theorem begins_one (c : Int) : beginsS c = 1 ↔ (c = 32 ∨ c = 9 ∨ c = 10 ∨ c = 13) := by
  unfold beginsS
  constructor
  · intro h
    repeat' (first | assumption | (cases h; done) | (split at h))
  · intro h
    rw [if_pos h]
theorem begins_two (c : Int) : beginsS c = 2 ↔ c = 35 := by
  unfold beginsS
  constructor
  · intro h
    repeat' (first | assumption | (cases h; done) | (split at h))
  · intro h
    rw [if_neg (by omega), if_pos h]
theorem dropWhile_stops (i : Int) (r : List UInt8) : stops i (r.dropWhile (gB i)) = true := by
  induction r with
  | nil => rfl
  | cons c t ih =>
    by_cases hc : gB i c = true
    · rw [List.dropWhile_cons_of_pos hc]; exact ih
    · rw [List.dropWhile_cons_of_neg hc]
      show (!gB i c) = true
      simpa using hc
theorem blank_step (b : UInt8) (r : List UInt8) (p : Nat) (hb : beginsS (b.toNat : Int) = 1) : scanU (b :: r) p = scanU r (p + 1) := by
  -- the blanks ahead, and what stands behind them
  have key : ∀ (w v : List UInt8) (q : Nat), (∀ x ∈ w, beginsS (x.toNat : Int) = 1) → stops 1 v = true → scanU (w ++ v) q = scanU v (q + w.length) := by
    intro w v q hw hv
    by_cases h : w = []
    · subst h; rfl
    · exact scan_blank w v q h hw hv
  have hsp : r = r.takeWhile (gB 1) ++ r.dropWhile (gB 1) := (List.takeWhile_append_dropWhile ..).symm
  have hst : stops 1 (r.dropWhile (gB 1)) = true := dropWhile_stops 1 r
  have hal : ∀ x ∈ r.takeWhile (gB 1), beginsS (x.toNat : Int) = 1 := fun x hx => by
    have := List.all_eq_true.1 List.all_takeWhile x hx
    rw [gB1] at this
    exact beq_iff_eq.1 this
  rw [hsp]
  generalize r.takeWhile (gB 1) = w at hal
  generalize r.dropWhile (gB 1) = v at hst
  rw [key w v (p + 1) hal hst, ← List.cons_append, key (b :: w) v p (fun x hx => by
    rcases List.mem_cons.1 hx with rfl | hx
    · exact hb
    · exact hal x hx) hst, List.length_cons]
  rw [show p + 1 + w.length = p + (w.length + 1) by omega]

theorem remark_step (b : UInt8) (r : List UInt8) (p : Nat) (hb : beginsS (b.toNat : Int) = 2) : scanU (b :: r) p = scanU ((b :: r).drop (runS 2 (b :: r))) (p + runS 2 (b :: r)) := by
  have ht : tokS (b :: r) = .inr (⟨0, toS ((b :: r).take (runS 2 (b :: r))), 0, ⟨0, 0⟩, 0⟩, runS 2 (b :: r)) := by
    simp only [tokS]
    rw [hb, if_neg (by decide), if_neg (by decide), finS, if_neg (by decide), if_neg (by decide), if_neg (by decide), if_neg (by decide), toS_size, List.length_take, Nat.min_eq_left (runS_le _ _)]
  rw [scanU_tok _ p _ _ ht]
  exact addT_nil _
theorem gB2 (b : UInt8) : gB 2 b = decide ((b.toNat : Int) ≠ 10) := by
  show goesS 2 _ = _
  unfold goesS
  rw [if_neg (by decide), if_pos rfl]
  rw [Bool.eq_iff_iff, bne_iff_ne, decide_eq_true_iff]

theorem ref_remark (s : ByteArray) (hz : s.size ≤ 8000) (acc : List S38) : ∀ (d i k : Nat), i + d = s.size →
    lychgateref08_Scan.l1 (k + d + 1) s acc (i : Int) = lychgateref08_Scan.l0 (k + d - (((bl s).drop i).takeWhile (gB 2)).length) s acc ((i + (((bl s).drop i).takeWhile (gB 2)).length : Nat) : Int) := by
  have hl := bl_length s
  intro d
  induction d with
  | zero =>
    intro i k hi
    rw [lychgateref08_Scan.l1]
    rw [if_neg (by omega), List.drop_of_length_le (by omega)]
    rfl
  | succ d ih =>
    intro i k hi
    have hlt : i < (bl s).length := by omega
    rw [show k + (d + 1) + 1 = (k + d + 1) + 1 by omega]
    rw [lychgateref08_Scan.l1]
    rw [if_pos (by omega), if_pos (by omega), bt_nat s i hlt, drop_at _ i hlt]
    by_cases h : ((bl s)[i].toNat : Int) = 10
    · rw [if_pos h, List.takeWhile_cons_of_neg (by rw [gB2, decide_eq_false (fun e => e h)]; decide)]
      rfl
    · rw [if_neg h, List.takeWhile_cons_of_pos (by rw [gB2]; exact decide_eq_true h), wrap_nat i (by omega), ih (i + 1) k (by omega), List.length_cons]
      rw [show k + d - ((List.drop (i + 1) (bl s)).takeWhile (gB 2)).length = k + (d + 1) - (((List.drop (i + 1) (bl s)).takeWhile (gB 2)).length + 1) by omega, show i + 1 + ((List.drop (i + 1) (bl s)).takeWhile (gB 2)).length = i + (((List.drop (i + 1) (bl s)).takeWhile (gB 2)).length + 1) by omega]

theorem ref_scan_l0 (s : ByteArray) (hz : s.size ≤ 8000) : ∀ (d i k : Nat) (acc : List S38), i + d = s.size → 18000 + 8001 + 4 * d ≤ k → acc.length ≤ i →
    lychgateref08_Scan.l0 k s acc (i : Int) = some (scanR acc (scanU ((bl s).drop i) i)) := by
  have hl := bl_length s
  intro d
  induction d using Nat.strongRecOn with
  | _ d ih =>
  intro i k acc hi hk ha
  obtain ⟨k, rfl⟩ : ∃ m, k = m + 2 := ⟨k - 2, by omega⟩
  rw [show k + 2 = (k + 1) + 1 by omega]
  simp only [lychgateref08_Scan.l0]
  by_cases hd : d = 0
  · rw [if_neg (by omega), List.drop_of_length_le (by omega), scanU_nil, if_pos (by omega)]
    have : i = s.size := by omega
    subst this
    rfl
  have hlt : i < (bl s).length := by omega
  rw [if_pos (by omega), if_pos (by omega), bt_nat s i hlt]
  have hdr := drop_at (bl s) i hlt
  have hj1 : (if ((bl s)[i].toNat : Int) = 32 then (lychgateref08_Scan.j1 (k + 1) s acc (i : Int) ((bl s)[i].toNat : Int) (((bl s)[i].toNat : Int) == 32)) else (if ((bl s)[i].toNat : Int) = 9 then (lychgateref08_Scan.j1 (k + 1) s acc (i : Int) ((bl s)[i].toNat : Int) (((bl s)[i].toNat : Int) == 9)) else (if ((bl s)[i].toNat : Int) = 10 then (lychgateref08_Scan.j1 (k + 1) s acc (i : Int) ((bl s)[i].toNat : Int) (((bl s)[i].toNat : Int) == 10)) else (lychgateref08_Scan.j1 (k + 1) s acc (i : Int) ((bl s)[i].toNat : Int) (((bl s)[i].toNat : Int) == 13))))) =
      lychgateref08_Scan.j1 (k + 1) s acc (i : Int) ((bl s)[i].toNat : Int) (decide (beginsS ((bl s)[i].toNat : Int) = 1)) := by
    have hb1 : beginsS ((bl s)[i].toNat : Int) = 1 ↔ (((bl s)[i].toNat : Int) = 32 ∨ ((bl s)[i].toNat : Int) = 9 ∨ ((bl s)[i].toNat : Int) = 10 ∨ ((bl s)[i].toNat : Int) = 13) := begins_one _
    generalize ((bl s)[i].toNat : Int) = c at hb1
    by_cases e1 : c = 32
    · rw [if_pos e1, decide_eq_true (hb1.2 (.inl e1)), e1]; rfl
    rw [if_neg e1]
    by_cases e2 : c = 9
    · rw [if_pos e2, decide_eq_true (hb1.2 (.inr (.inl e2))), e2]; rfl
    rw [if_neg e2]
    by_cases e3 : c = 10
    · rw [if_pos e3, decide_eq_true (hb1.2 (.inr (.inr (.inl e3)))), e3]; rfl
    rw [if_neg e3]
    by_cases e4 : c = 13
    · rw [decide_eq_true (hb1.2 (.inr (.inr (.inr e4)))), e4]; rfl
    · rw [decide_eq_false (fun h => by have := hb1.1 h; omega), show (c == 13) = false by rw [← Bool.not_eq_true, beq_iff_eq]; exact e4]
  rw [hj1]
  simp only [lychgateref08_Scan.j1]
  by_cases hb1 : beginsS ((bl s)[i].toNat : Int) = 1
  · rw [if_pos (decide_eq_true hb1), wrap_nat i (by omega), ih (d - 1) (by omega) (i + 1) k acc (by omega) (by omega) (by omega), hdr, blank_step _ _ _ hb1]
  rw [if_neg (by simpa using hb1)]
  by_cases hb2 : beginsS ((bl s)[i].toNat : Int) = 2
  · rw [if_pos ((begins_two _).1 hb2)]
    have hk' : k = (k - d - 1) + d + 1 := by omega
    have hg : gB 2 (bl s)[i] = true := by
      rw [gB2]
      have := (begins_two _).1 hb2
      exact decide_eq_true (by omega)
    rw [hk', ref_remark s hz acc d i (k - d - 1) hi, hdr, remark_step _ _ _ hb2]
    have hrun : ((bl s)[i] :: (bl s).drop (i + 1)).takeWhile (gB 2) = (bl s)[i] :: ((bl s).drop (i + 1)).takeWhile (gB 2) := List.takeWhile_cons_of_pos hg
    have hlen : (((bl s)[i] :: (bl s).drop (i + 1)).takeWhile (gB 2)).length = runS 2 ((bl s)[i] :: (bl s).drop (i + 1)) := by rw [hrun, List.length_cons, runS]; omega
    rw [hlen, ← hdr]
    have hle := runS_le 2 ((bl s).drop i)
    rw [List.length_drop] at hle
    have hps : 0 < runS 2 ((bl s).drop i) := by rw [hdr]; exact runS_pos _ _ _
    rw [ih (d - runS 2 ((bl s).drop i)) (by omega) (i + runS 2 ((bl s).drop i)) _ acc (by omega) (by omega) (by omega), List.drop_drop]
  rw [if_neg (fun h => hb2 ((begins_two _).2 h))]
  have h1 : inS ((bl s).drop i) ≠ 1 := by rw [hdr]; exact hb1
  have h2 : inS ((bl s).drop i) ≠ 2 := by rw [hdr]; exact hb2
  have ho := one_ev s hz i (by omega) k (by omega) h1 h2
  have hne : (bl s).drop i ≠ [] := by rw [hdr]; simp
  match ht : tokS ((bl s).drop i) with
  | .inl e =>
    rw [ht] at ho
    obtain ⟨e0, v, hv, hve⟩ := ho
    rw [hv, scanU_err _ _ e hne ht]
    simp only [Option.bind_some]
    rw [if_neg (by rw [hve]; exact e0), hve]
    rfl
  | .inr (t, n) =>
    rw [ht] at ho
    obtain ⟨t0, z, hv⟩ := ho
    have htl := tok_len _ _ _ ht
    rw [List.length_drop] at htl
    rw [hv, scanU_tok _ _ _ _ ht, if_neg t0]
    simp only [Option.bind_some, if_true]
    have hl2 : (acc ++ [atS t i]).length = acc.length + 1 := by simp
    rw [if_pos (by omega)]
    show lychgateref08_Scan.l0 k s (acc ++ [atS t i]) _ = _
    rw [ih (d - n) (by omega) (i + n) k (acc ++ [atS t i]) (by omega) (by omega) (by omega), List.drop_drop]
    cases scanU ((bl s).drop (i + n)) (i + n) with
    | inl x => rfl
    | inr ts => simp [scanR, addT, List.append_assoc]

theorem ref_scan_ev (s : ByteArray) (k : Nat) (hk : 60000 ≤ k) : lychgateref08_Scan.f k s = some (scanA s) := by
  have hl := bl_length s
  unfold lychgateref08_Scan.f scanA
  by_cases h : s.size > 8000
  · rw [if_pos (by omega), if_pos h]
  · rw [if_neg (by omega), if_neg h]
    have := ref_scan_l0 s (by omega) s.size 0 k [] (by omega) (by omega) (by simp)
    rw [show ((0 : Nat) : Int) = 0 from rfl] at this
    rw [this, List.drop_zero]
    unfold scanU
    rw [hl]
end Go.Proofs.YthllfnmebdjpfaaGreatDoor.H
end

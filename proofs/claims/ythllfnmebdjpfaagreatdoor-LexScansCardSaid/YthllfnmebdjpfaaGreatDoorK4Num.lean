/- Plain law: numerals: canonical digits, Atoi and Itoa of them; a text's first place of a byte; a text at its dots. -/
/- Plain law: bytes of a text. -/
/- Plain law: words, names, runs, of the program and of the reference. -/
import Derived.Lib.AtoiAll
import Derived.Lib.ItoaMem
import Derived.Lib.IndexMore
import Derived.Lib.IndexAny
import Derived.Lib.IndexBytes
import Derived.Lib.Split
import Derived.Lib.SplitLaws
import Derived.Lib.CountLaws
import Derived.Test.YthllfnmebdjpfaaGreatDoorK4Parse
import Derived.Test.YthllfnmebdjpfaaGreatDoorK4Hx2
import Derived.Test.YthllfnmebdjpfaaGreatDoorK4Hx8
section
namespace Go.Proofs.YthllfnmebdjpfaaGreatDoor.H
def digB (b : UInt8) : Bool := decide (48 ≤ b.toNat ∧ b.toNat ≤ 57)
/-- What digits spell, behind what others have spelt. -/
def valD (a : Nat) (l : List UInt8) : Nat := l.foldl (fun a b => 10 * a + (b.toNat - 48)) a
/-- Digits as they are printed. -/
def can (l : List UInt8) : Prop := l ≠ [] ∧ l.all digB = true ∧ (l.length = 1 ∨ l.head?.map (·.toNat) ≠ some 48)
instance (l : List UInt8) : Decidable (can l) := by unfold can; infer_instance

theorem valD_nil (a : Nat) : valD a [] = a := rfl
theorem valD_cons (a : Nat) (b : UInt8) (r : List UInt8) : valD a (b :: r) = valD (10 * a + (b.toNat - 48)) r := List.foldl_cons ..
theorem valD_one (a : Nat) (b : UInt8) : valD a [b] = 10 * a + (b.toNat - 48) := by rw [valD_cons, valD_nil]
theorem head_app (a b : List UInt8) (h : a ≠ []) : (a ++ b).head? = a.head? := by
  cases a with
  | nil => exact absurd rfl h
  | cons x a => rfl
theorem snoc_of (l : List UInt8) (h : l ≠ []) : ∃ m b, l = m ++ [b] := ⟨l.dropLast, l.getLast h, (List.dropLast_concat_getLast h).symm⟩
theorem all_one (b : UInt8) (h : [b].all digB = true) : 48 ≤ b.toNat ∧ b.toNat ≤ 57 := by
  rw [List.all_cons, List.all_nil, Bool.and_true] at h
  exact of_decide_eq_true h
theorem dig_all (b : UInt8) (h : 48 ≤ b.toNat ∧ b.toNat ≤ 57) : [b].all digB = true := by
  rw [List.all_cons, List.all_nil, Bool.and_true]
  exact decide_eq_true h
theorem valD_snoc : ∀ (l : List UInt8) (a : Nat) (b : UInt8), valD a (l ++ [b]) = 10 * valD a l + (b.toNat - 48)
  | [], _, _ => rfl
  | _ :: r, _, b => valD_snoc r _ b
theorem valD_ge : ∀ (l : List UInt8) (a : Nat), a * 10 ^ l.length ≤ valD a l
  | [], a => by rw [List.length_nil, valD_nil, Nat.pow_zero, Nat.mul_one]; exact Nat.le_refl _
  | b :: r, a => by
    have h := valD_ge r (10 * a + (b.toNat - 48))
    rw [valD_cons]
    refine Nat.le_trans ?_ h
    rw [List.length_cons, Nat.pow_succ, Nat.mul_comm (10 ^ r.length) 10, ← Nat.mul_assoc]
    exact Nat.mul_le_mul_right _ (by omega)
theorem valD_mono (l : List UInt8) (a : Nat) : a ≤ valD a l := by
  have h := valD_ge l a
  have : 1 ≤ 10 ^ l.length := Nat.pow_pos (by decide)
  exact Nat.le_trans (by simpa using Nat.mul_le_mul_left a this) h
/-- A numeral's length. -/
theorem can_len (l : List UInt8) (h : can l) : l.length = 1 ∨ 10 ^ (l.length - 1) ≤ valD 0 l := by
  obtain ⟨h1, h2, h3⟩ := h
  rcases h3 with h3 | h3
  · exact .inl h3
  match l with
  | b :: r =>
    refine .inr ?_
    rw [List.all_cons, Bool.and_eq_true] at h2
    have hb := of_decide_eq_true h2.1
    have hb' : b.toNat ≠ 48 := fun e => h3 (by simp [e])
    rw [valD_cons, List.length_cons, Nat.add_sub_cancel]
    have h := valD_ge r (10 * 0 + (b.toNat - 48))
    exact Nat.le_trans (by simpa using Nat.mul_le_mul_right (10 ^ r.length) (show 1 ≤ 10 * 0 + (b.toNat - 48) by omega)) h

theorem byte_of (n : Nat) (h : n < 256) : (UInt8.ofNat n).toNat = n := by simp; omega
theorem byte_back (b : UInt8) (h : 48 ≤ b.toNat) : UInt8.ofNat (48 + (b.toNat - 48)) = b := by
  rw [show 48 + (b.toNat - 48) = b.toNat by omega]
  simp

theorem dec_can (u : Nat) : can (Lib.decDigits u) ∧ valD 0 (Lib.decDigits u) = u ∧ (u ≠ 0 → (Lib.decDigits u).head?.map (·.toNat) ≠ some 48) := by
  induction u using Nat.strongRecOn with
  | _ u ih =>
    rw [Lib.decDigits]
    by_cases h : u < 10
    · rw [dif_pos h]
      have hb := byte_of (48 + u) (by omega)
      refine ⟨⟨by simp, ?_, .inl rfl⟩, ?_, fun h0 => ?_⟩
      · exact dig_all _ (by omega)
      · rw [valD_one]; omega
      · rw [List.head?_cons, Option.map_some, hb]
        intro e
        have := Option.some.inj e
        omega
    · rw [dif_neg h]
      obtain ⟨⟨i1, i2, i3⟩, iv, ih0⟩ := ih (u / 10) (by omega)
      have hb := byte_of (48 + u % 10) (by omega)
      have hhead : (Lib.decDigits (u / 10) ++ [UInt8.ofNat (48 + u % 10)]).head?.map (·.toNat) ≠ some 48 := by
        rw [head_app _ _ i1]
        exact ih0 (by omega)
      refine ⟨⟨by simp, ?_, .inr hhead⟩, ?_, fun _ => hhead⟩
      · rw [List.all_append, i2, Bool.true_and]
        exact dig_all _ (by omega)
      · rw [valD_snoc, iv, hb]; omega

theorem can_dec : ∀ (n : Nat) (l : List UInt8), l.length = n → can l → Lib.decDigits (valD 0 l) = l := by
  intro n
  induction n with
  | zero =>
    intro l hl h
    exact absurd (List.length_eq_zero_iff.1 hl) h.1
  | succ n ih =>
    intro l hl h
    obtain ⟨h1, h2, h3⟩ := h
    obtain ⟨m, b, rfl⟩ : ∃ m b, l = m ++ [b] := snoc_of l h1
    rw [List.all_append, Bool.and_eq_true] at h2
    have hb := all_one b h2.2
    have hm : m.length = n := by simpa using hl
    rw [valD_snoc]
    by_cases hn : m = []
    · subst hn
      rw [valD_nil, Nat.mul_zero, Nat.zero_add, Lib.decDigits, dif_pos (by omega), byte_back b hb.1]
      rfl
    · have hhead : m.head?.map (·.toNat) ≠ some 48 := by
        rcases h3 with h3 | h3
        · rw [List.length_append] at h3
          have : m.length ≠ 0 := fun e => hn (List.length_eq_zero_iff.1 e)
          simp at h3
          exact absurd h3 hn
        · rwa [head_app _ _ hn] at h3
      have hc : can m := ⟨hn, h2.1, .inr hhead⟩
      have hv : 1 ≤ valD 0 m := by
        rcases can_len m hc with hl1 | hl1
        · obtain ⟨c, rfl⟩ := List.length_eq_one_iff.1 hl1
          have hc := all_one c h2.1
          have : c.toNat ≠ 48 := fun e => hhead (by rw [List.head?_cons, Option.map_some, e])
          rw [valD_one]; omega
        · exact Nat.le_trans (Nat.pow_pos (by decide)) hl1
      rw [Lib.decDigits, dif_neg (by omega), show (10 * valD 0 m + (b.toNat - 48)) / 10 = valD 0 m by omega, show (10 * valD 0 m + (b.toNat - 48)) % 10 = b.toNat - 48 by omega, ih m hm hc, byte_back b hb.1]

theorem parse_val : ∀ (l : List UInt8) (a : Nat), l.all digB = true → valD a l < 18446744073709551616 → Lib.parseUint10 a l = .ok (valD a l)
  | [], a, _, _ => rfl
  | c :: r, a, h, hv => by
    rw [List.all_cons, Bool.and_eq_true] at h
    have hc := of_decide_eq_true h.1
    rw [valD_cons] at hv ⊢
    have hm := valD_mono r (10 * a + (c.toNat - 48))
    simp only [Lib.parseUint10]
    rw [if_pos hc, if_neg (by omega), if_neg (by omega), Nat.mul_comm a 10]
    exact parse_val r _ h.2 hv

/-- Atoi of digits. -/
theorem atoi_val (l : List UInt8) (h : l ≠ []) (hd : l.all digB = true) (hv : valD 0 l < 9223372036854775808) : Lib.atoiAll l = .ok (valD 0 l : Int) := by
  match l with
  | c :: r =>
    have hc : 48 ≤ c.toNat ∧ c.toNat ≤ 57 := of_decide_eq_true (by rw [List.all_cons, Bool.and_eq_true] at hd; exact hd.1)
    simp only [Lib.atoiAll]
    rw [if_neg (by omega), Lib.parseMag, if_neg h, parse_val _ 0 hd (by omega)]
    simp only
    rw [if_neg (by omega), if_neg (by omega), if_neg (by omega)]
/-- What Atoi takes, and Itoa says again. -/
theorem atoi_back (l : List UInt8) (v : Int) (h : Lib.atoiAll l = .ok v) (h0 : 0 ≤ v) (hb : Lib.itoa v = l) : can l ∧ v = (valD 0 l : Int) := by
  obtain ⟨u, rfl⟩ : ∃ u : Nat, v = (u : Int) := ⟨v.toNat, by omega⟩
  rw [Lib.itoa_nonneg] at hb
  have h1 := dec_can u
  rw [hb] at h1
  exact ⟨h1.1, by rw [h1.2.1]⟩

/-- A text at the first place of a byte. -/
def cutS (c : UInt8) : List UInt8 → Option (List UInt8 × List UInt8)
  | [] => none
  | b :: r => if b = c then some ([], r) else (cutS c r).map fun x => (b :: x.1, x.2)
theorem cutS_app (c : UInt8) : ∀ (l a b : List UInt8), cutS c l = some (a, b) → l = a ++ c :: b ∧ c ∉ a
  | [], _, _, h => by cases h
  | x :: r, a, b, h => by
    rw [cutS] at h
    split at h
    · rename_i hx
      cases h
      exact ⟨by rw [hx]; rfl, by simp⟩
    · rename_i hx
      match hr : cutS c r with
      | none => rw [hr] at h; cases h
      | some (a', b') =>
        rw [hr] at h
        cases h
        obtain ⟨h1, h2⟩ := cutS_app c r a' b' hr
        exact ⟨by rw [h1]; rfl, by simp [h2, Ne.symm hx]⟩
theorem cutS_none (c : UInt8) : ∀ l : List UInt8, cutS c l = none ↔ c ∉ l
  | [] => by simp [cutS]
  | x :: r => by
    rw [cutS]
    have := cutS_none c r
    by_cases hx : x = c
    · rw [if_pos hx]; simp [hx]
    · rw [if_neg hx]; simp [this, Ne.symm hx]
theorem index_cut (c : UInt8) : ∀ l : List UInt8, Lib.index l [c] = match cutS c l with | none => -1 | some (a, _) => (a.length : Int)
  | [] => rfl
  | x :: r => by
    have ih := index_cut c r
    rw [Lib.index, cutS]
    by_cases hx : x = c
    · subst hx
      rw [if_pos (by simp), if_pos rfl]; rfl
    · have hp : ([c].isPrefixOf (x :: r)) = false := by simp [List.isPrefixOf, Ne.symm hx]
      rw [hp, if_neg (by decide), if_neg hx, ih]
      cases cutS c r with
      | none => rfl
      | some y =>
        obtain ⟨a, b⟩ := y
        simp only [Option.map_some, List.length_cons]
        rw [if_neg (by simp)]
        exact (Int.natCast_succ a.length).symm
theorem cut_cut (c : UInt8) (l : List UInt8) : Lib.cut l [c] = match cutS c l with | none => (l, [], false) | some (a, b) => (a, b, true) := by
  have h := index_cut c l
  unfold Lib.cut
  match hc : cutS c l with
  | none => rw [hc] at h; rw [h, if_neg (by decide)]
  | some (a, b) =>
    rw [hc] at h
    simp only at h
    obtain ⟨h1, _⟩ := cutS_app c l a b hc
    rw [h, if_pos (by omega), Int.toNat_natCast, h1]
    simp

theorem extract_l (s : ByteArray) (a b : Nat) : (s.extract a b).data.toList = (s.data.toList.drop a).take (b - a) := by
  simp [ByteArray.data_extract, Array.toList_extract]
theorem dots_none (s : ByteArray) (c : UInt8) (h : cutS c s.data.toList = none) : Lib.splitB ⟨#[c]⟩ 0 (Lib.countB s ⟨#[c]⟩) s = [s] := by
  have hi : Lib.indexB s ⟨#[c]⟩ = -1 := by have := index_cut c s.data.toList; rw [h] at this; exact this
  exact Lib.splitB_miss _ _ _ _ hi
theorem dots_some (s : ByteArray) (c : UInt8) (a b : List UInt8) (h : cutS c s.data.toList = some (a, b)) :
    ∃ x y : ByteArray, x.data.toList = a ∧ y.data.toList = b ∧ Lib.splitB ⟨#[c]⟩ 0 (Lib.countB s ⟨#[c]⟩) s = x :: Lib.splitB ⟨#[c]⟩ 0 (Lib.countB y ⟨#[c]⟩) y := by
  have hi : Lib.indexB s ⟨#[c]⟩ = (a.length : Int) := by have := index_cut c s.data.toList; rw [h] at this; exact this
  obtain ⟨h1, _⟩ := cutS_app c _ a b h
  have h1s : (ByteArray.mk #[c]).size = 1 := rfl
  refine ⟨s.extract 0 (a.length + 0), s.extract (a.length + 1) s.size, ?_, ?_, ?_⟩
  · rw [extract_l, h1]; simp
  · rw [extract_l, h1]
    have hz : s.size = a.length + (b.length + 1) := by
      have : s.data.toList.length = s.size := by simp
      rw [← this, h1]; simp
    rw [hz]
    simp
    rw [List.take_of_length_le (by omega)]
  · have hh := Lib.countB_hit s ⟨#[c]⟩ a.length (by rw [h1s]; decide) hi
    rw [hh, Nat.add_comm 1, Lib.splitB_hit _ _ _ _ _ hi]
    rfl

/-- What a numeral up to a greatest one says. -/
def numC (l : List UInt8) (m : Nat) : Option Nat := if can l ∧ valD 0 l ≤ m then some (valD 0 l) else none
theorem numC_some {l : List UInt8} {m n : Nat} (h : numC l m = some n) : can l ∧ n = valD 0 l ∧ n ≤ m := by
  unfold numC at h
  split at h
  · rename_i hc
    obtain rfl := Option.some.inj h
    exact ⟨hc.1, rfl, hc.2⟩
  · cases h
theorem numC_none {l : List UInt8} {m : Nat} (h : numC l m = none) (hc : can l) : m < valD 0 l := by
  unfold numC at h
  split at h
  · cases h
  · rename_i h1
    rcases Nat.lt_or_ge m (valD 0 l) with h2 | h2
    · exact h2
    · exact absurd ⟨hc, h2⟩ h1
theorem numC_isSome (l : List UInt8) (m : Nat) (b : Bool) (h : b = true ↔ can l ∧ valD 0 l ≤ m) : (numC l m).isSome = b := by
  unfold numC
  by_cases hc : can l ∧ valD 0 l ≤ m
  · rw [if_pos hc, h.2 hc]; rfl
  · rw [if_neg hc]
    cases b with
    | false => rfl
    | true => exact absurd (h.1 rfl) hc
/-- Atoi and Itoa back: a numeral up to a greatest one. -/
theorem atoi_ok (l : List UInt8) (m : Nat) (v : Int) (h : Lib.atoiAll l = .ok v) (hm : m < 9223372036854775808) :
    (decide (0 ≤ v) && (decide (v ≤ (m : Int)) && (Lib.itoa v == l))) = (numC l m).isSome ∧ ∀ n, numC l m = some n → v = (n : Int) := by
  have key : ∀ n, numC l m = some n → v = (n : Int) := by
    intro n hn
    obtain ⟨h1, h2, h3⟩ := numC_some hn
    have := atoi_val l h1.1 h1.2.1 (by omega)
    rw [h] at this
    injection this with this
    omega
  refine ⟨?_, key⟩
  cases hn : numC l m with
  | some n =>
    have hv := key n hn
    obtain ⟨h1, h2, h3⟩ := numC_some hn
    subst hv
    rw [decide_eq_true (by omega), decide_eq_true (by omega), Lib.itoa_nonneg, h2, can_dec _ l rfl h1]
    simp
  | none =>
    rw [Option.isSome_none, ← Bool.not_eq_true]
    intro hb
    simp only [Bool.and_eq_true, decide_eq_true_eq, beq_iff_eq] at hb
    obtain ⟨h1, h2⟩ := atoi_back l v h hb.1 hb.2.2
    have := numC_none hn h1
    omega
theorem atoi_no (l : List UInt8) (m : Nat) (h : ∀ v, Lib.atoiAll l ≠ .ok v) (hm : m < 9223372036854775808) : numC l m = none := by
  cases hn : numC l m with
  | none => rfl
  | some n =>
    obtain ⟨h1, h2, h3⟩ := numC_some hn
    exact absurd (atoi_val l h1.1 h1.2.1 (by omega)) (h _)
theorem itoa_dig (l : List UInt8) (v : Int) (hd : l.all digB = true) (hb : Lib.itoa v = l) : 0 ≤ v := by
  rcases Int.lt_or_le v 0 with h | h
  · obtain ⟨u, hu, rfl⟩ : ∃ u : Nat, 1 ≤ u ∧ v = -(u : Int) := ⟨v.natAbs, by omega, by omega⟩
    rw [Lib.itoa_neg u hu] at hb
    rw [← hb, List.all_cons, Bool.and_eq_true] at hd
    have h2 : 48 ≤ (45 : UInt8).toNat ∧ (45 : UInt8).toNat ≤ 57 := of_decide_eq_true hd.1
    exact absurd h2 (by decide)
  · exact h
theorem atoi_dig (l : List UInt8) (m : Nat) (v : Int) (h : Lib.atoiAll l = .ok v) (hm : m < 9223372036854775808) (hd : l.all digB = true) :
    (decide (v ≤ (m : Int)) && (Lib.itoa v == l)) = (numC l m).isSome := by
  rw [← (atoi_ok l m v h hm).1]
  by_cases h0 : 0 ≤ v
  · rw [decide_eq_true h0, Bool.true_and]
  · rw [decide_eq_false h0, Bool.false_and]
    have : (Lib.itoa v == l) = false := by
      rw [← Bool.not_eq_true, beq_iff_eq]
      exact fun e => h0 (itoa_dig l v hd e)
    rw [this, Bool.and_false]
/-- A numeral has no more bytes than its value wants. -/
theorem can_short (l : List UInt8) (h : can l) (d : Nat) (hd : 1 ≤ d) (hv : valD 0 l < 10 ^ d) : l.length ≤ d := by
  rcases can_len l h with h1 | h1
  · omega
  · have h2 : 10 ^ (l.length - 1) < 10 ^ d := Nat.lt_of_le_of_lt h1 hv
    have := (Nat.pow_lt_pow_iff_right (a := 10) (by decide)).1 h2
    omega
end Go.Proofs.YthllfnmebdjpfaaGreatDoor.H
end

section
namespace Go.Proofs.YthllfnmebdjpfaaGreatDoor.H
open Go.RowKit Go.Proofs.YthllfnmebdjpfaaGreatDoor.Hand Go.Proofs.YthllfnmebdjpfaaGreatDoorW.PrintWords Go.Proofs.YthllfnmebdjpfaaGreatDoorW.PrintLast Go.Proofs.YthllfnmebdjpfaaGreatDoorW.PrintMore

/-- A text's bytes. -/
abbrev bl (s : ByteArray) : List UInt8 := s.data.toList
theorem bl_length (s : ByteArray) : (bl s).length = s.size := by simp [bl]
theorem bt_nat (s : ByteArray) (i : Nat) (h : i < (bl s).length) : bt s (i : Int) = ((bl s)[i].toNat : Int) := by
  have h' : i < s.size := by rw [← bl_length]; exact h
  unfold bt
  rw [dif_pos (by simpa using h')]
  rfl
theorem drop_at (l : List UInt8) (i : Nat) (h : i < l.length) : l.drop i = l[i] :: l.drop (i + 1) := List.drop_eq_getElem_cons h
theorem wrap_nat (n : Nat) (h : n ≤ 140737488355328) : wrap64 ((n : Int) + 1) = ((n + 1 : Nat) : Int) := by unfold wrap64; omega

end Go.Proofs.YthllfnmebdjpfaaGreatDoor.H
end

section
namespace Go.Proofs.YthllfnmebdjpfaaGreatDoor.H
open Go.RowKit Go.Proofs.YthllfnmebdjpfaaGreatDoor.Hand Go.Proofs.YthllfnmebdjpfaaGreatDoorW.PrintWords Go.Proofs.YthllfnmebdjpfaaGreatDoorW.PrintLast Go.Proofs.YthllfnmebdjpfaaGreatDoorW.PrintMore

def wordsL : List ByteArray := [⟨#[108, 101, 116]⟩, ⟨#[97, 108, 108, 111, 119]⟩, ⟨#[100, 101, 110, 121]⟩, ⟨#[119, 104, 101, 110]⟩, ⟨#[97, 110, 100]⟩, ⟨#[111, 114]⟩, ⟨#[110, 111, 116]⟩, ⟨#[116, 114, 117, 101]⟩, ⟨#[102, 97, 108, 115, 101]⟩, ⟨#[105, 110]⟩, ⟨#[97, 100, 100, 114]⟩, ⟨#[112, 111, 114, 116]⟩, ⟨#[109, 101, 116, 104, 111, 100]⟩, ⟨#[112, 97, 116, 104]⟩, ⟨#[104, 101, 97, 100, 101, 114]⟩, ⟨#[104, 97, 115]⟩]
/-- Is a text one of some texts? -/
def isIn (xs : List ByteArray) (s : ByteArray) : Bool := xs.any fun w => decide (w.toList = s.toList)
theorem isIn_cons (a : ByteArray) (l : List ByteArray) (s : ByteArray) : isIn (a :: l) s = (decide (a.toList = s.toList) || isIn l s) := by simp only [isIn, List.any_cons]
def isWordS (s : ByteArray) : Bool := isIn wordsL s

theorem index_l0 (xs : List ByteArray) (s : ByteArray) (hn : xs.length ≤ 100000) : ∀ (d i k : Nat), i + d = xs.length → d + 1 ≤ k → ∃ r : Int, slices_Index_string_string.l0 k xs s (xs.length : Int) (i : Int) = some r ∧ (0 ≤ r ↔ isIn (xs.drop i) s = true) := by
  intro d
  induction d with
  | zero =>
    intro i k hi hk
    obtain ⟨k, rfl⟩ : ∃ m, k = m + 1 := ⟨k - 1, by omega⟩
    refine ⟨-1, ?_, ?_⟩
    · simp only [slices_Index_string_string.l0]
      rw [if_neg (by omega)]
    · rw [List.drop_of_length_le (by omega)]
      simp [isIn]
  | succ d ih =>
    intro i k hi hk
    obtain ⟨k, rfl⟩ : ∃ m, k = m + 1 := ⟨k - 1, by omega⟩
    have hlt : i < xs.length := by omega
    have hr : rdOf ByteArray.empty xs (i : Int) = xs[i] := by
      unfold rdOf
      rw [Int.toNat_natCast, List.getD_eq_getElem?_getD, List.getElem?_eq_getElem hlt]
      rfl
    have hd : xs.drop i = xs[i] :: xs.drop (i + 1) := List.drop_eq_getElem_cons hlt
    simp only [slices_Index_string_string.l0]
    rw [if_pos (by omega), if_pos (by omega), if_pos (by omega), hr, hd]
    by_cases h : s.toList = xs[i].toList
    · refine ⟨i, by rw [if_pos h], ?_⟩
      constructor
      · intro _; rw [isIn_cons, h, decide_eq_true rfl]; rfl
      · intro _; omega
    · obtain ⟨r, h1, h2⟩ := ih (i + 1) k (by omega) (by omega)
      refine ⟨r, ?_, ?_⟩
      · rw [if_neg h, wrap_nat i (by omega)]
        exact h1
      · rw [h2]
        have : decide (xs[i].toList = s.toList) = false := decide_eq_false (fun e => h e.symm)
        rw [isIn_cons, this, Bool.false_or]

theorem contains_eq (xs : List ByteArray) (s : ByteArray) (hn : xs.length ≤ 100000) (k : Nat) (hk : xs.length + 1 ≤ k) : slices_Contains_string_string.f k xs s = some (isIn xs s) := by
  obtain ⟨r, h1, h2⟩ := index_l0 xs s hn xs.length 0 k (by omega) hk
  unfold slices_Contains_string_string.f slices_Index_string_string.f
  rw [show ((0 : Nat) : Int) = 0 from rfl] at h1
  rw [h1]
  simp only [Option.bind_some, List.drop_zero] at h2 ⊢
  cases hb : isIn xs s with
  | true => rw [hb] at h2; rw [decide_eq_true (h2.2 rfl)]
  | false => rw [hb] at h2; rw [decide_eq_false (fun h => by have := h2.1 h; cases this)]

theorem fields_words : strings_Fields.f (⟨#[108, 101, 116, 32, 97, 108, 108, 111, 119, 32, 100, 101, 110, 121, 32, 119, 104, 101, 110, 32, 97, 110, 100, 32, 111, 114, 32, 110, 111, 116, 32, 116, 114, 117, 101, 32, 102, 97, 108, 115, 101, 32, 105, 110, 32, 97, 100, 100, 114, 32, 112, 111, 114, 116, 32, 109, 101, 116, 104, 111, 100, 32, 112, 97, 116, 104, 32, 104, 101, 97, 100, 101, 114, 32, 104, 97, 115]⟩ : ByteArray) = some wordsL := by decide +kernel

theorem lex_isword_eq (s : ByteArray) (k : Nat) (hk : 100 ≤ k) : lex_IsWord.f k s = some (isWordS s) := by
  unfold lex_IsWord.f
  rw [fields_words]
  simp only [Option.bind_some]
  rw [contains_eq wordsL s (by decide) k (by have : wordsL.length = 16 := rfl; omega)]
  rfl

theorem ref_isword_l0 (xs : List ByteArray) (s : ByteArray) (hn : xs.length ≤ 100000) : ∀ (d i k : Nat), i + d = xs.length → d + 1 ≤ k → lychgateref08_IsWord.l0 k s xs (i : Int) = some (isIn (xs.drop i) s) := by
  intro d
  induction d with
  | zero =>
    intro i k hi hk
    obtain ⟨k, rfl⟩ : ∃ m, k = m + 1 := ⟨k - 1, by omega⟩
    rw [List.drop_of_length_le (by omega)]
    simp only [lychgateref08_IsWord.l0]
    rw [if_neg (by omega)]
    rfl
  | succ d ih =>
    intro i k hi hk
    obtain ⟨k, rfl⟩ : ∃ m, k = m + 1 := ⟨k - 1, by omega⟩
    have hlt : i < xs.length := by omega
    have hr : rdOf ByteArray.empty xs (i : Int) = xs[i] := by
      unfold rdOf
      rw [Int.toNat_natCast, List.getD_eq_getElem?_getD, List.getElem?_eq_getElem hlt]
      rfl
    have hd : xs.drop i = xs[i] :: xs.drop (i + 1) := List.drop_eq_getElem_cons hlt
    simp only [lychgateref08_IsWord.l0]
    rw [if_pos (by omega), if_pos (by omega), hr, hd]
    by_cases h : xs[i].toList = s.toList
    · rw [if_pos h, isIn_cons, decide_eq_true h]; rfl
    · rw [if_neg h, wrap_nat i (by omega), ih (i + 1) k (by omega) (by omega), isIn_cons, decide_eq_false h, Bool.false_or]

theorem ref_isword_eq (s : ByteArray) (k : Nat) (hk : 100 ≤ k) : lychgateref08_IsWord.f k s = some (isWordS s) := by
  unfold lychgateref08_IsWord.f
  have hw : lychgateref08_words.f = some wordsL := rfl
  rw [hw]
  simp only [Option.bind_some]
  have := ref_isword_l0 wordsL s (by decide) 16 0 k rfl (by omega)
  simpa [isWordS] using this

def beginsS (c : Int) : Int :=
  if c = 32 ∨ c = 9 ∨ c = 10 ∨ c = 13 then 1 else if c = 35 then 2 else if 97 ≤ c ∧ c ≤ 122 then 3 else if 65 ≤ c ∧ c ≤ 90 then 4 else if 48 ≤ c ∧ c ≤ 57 then 5 else if c = 34 then 6
  else if c = 123 ∨ c = 125 ∨ c = 40 ∨ c = 41 ∨ c = 44 ∨ c = 59 ∨ c = 61 ∨ c = 126 ∨ c = 45 then 7 else 0
theorem begins_low : ∀ n : Fin 128, lex_begins.f (n.val : Int) = some (beginsS (n.val : Int)) := by decide +kernel
theorem rune_out (s : ByteArray) (c : Int) (h : ¬ (0 ≤ c ∧ c < 128)) (hs : s.data.toList.all (fun b => decide (b.toNat < 128)) = true) (hz : s.size ≤ maxLen) : strings_ContainsRune.f s c = some false := by
  unfold strings_ContainsRune.f
  rw [if_pos ⟨hs, hz⟩, decide_eq_false (fun hh => h ⟨hh.1, hh.2.1⟩)]
theorem lex_begins_eq (c : Int) : lex_begins.f c = some (beginsS c) := by
  by_cases h : 0 ≤ c ∧ c < 128
  · have := begins_low ⟨c.toNat, by omega⟩
    have e : ((c.toNat : Nat) : Int) = c := by omega
    simp only [e] at this
    exact this
  · unfold lex_begins.f lex_isSmall.f lex_isGreat.f lex_isDigit.f
    rw [rune_out _ c h (by decide) (by decide), rune_out _ c h (by decide) (by decide)]
    simp only [Option.bind_some]
    have hb : beginsS c = 0 := by unfold beginsS; repeat rw [if_neg (by omega)]
    rw [hb, if_neg (by decide), if_neg (by omega)]
    by_cases h1 : c ≥ 97
    · rw [if_pos h1, if_pos (show c ≥ 65 by omega), if_pos (show c ≥ 48 by omega)]
      simp only [Option.bind_some]
      rw [decide_eq_false (show ¬ c ≤ 122 by omega), decide_eq_false (show ¬ c ≤ 90 by omega), decide_eq_false (show ¬ c ≤ 57 by omega)]
      simp; omega
    · rw [if_neg h1, if_neg (show ¬ c ≥ 65 by omega), if_neg (show ¬ c ≥ 48 by omega)]
      simp; omega

/-- May a rune go on with what a scanner is in? -/
def goesS (k c : Int) : Bool :=
  if k = 1 then beginsS c == 1 else if k = 2 then c != 10 else if k = 3 then decide (97 ≤ c ∧ c ≤ 122 ∨ 48 ≤ c ∧ c ≤ 57 ∨ c = 95 ∨ c = 45) else if k = 4 then decide (65 ≤ c ∧ c ≤ 90)
  else if k = 5 then decide (48 ≤ c ∧ c ≤ 57 ∨ c = 46 ∨ c = 47) else false
theorem small_eq (c : Int) : lex_isSmall.f c = some (decide (97 ≤ c ∧ c ≤ 122)) := by
  unfold lex_isSmall.f
  by_cases h : c ≥ 97
  · rw [if_pos h]; congr 1; by_cases h2 : c ≤ 122
    · rw [decide_eq_true h2, decide_eq_true ⟨h, h2⟩]
    · rw [decide_eq_false h2, decide_eq_false (fun h3 => h2 h3.2)]
  · rw [if_neg h, decide_eq_false (fun h3 => h h3.1)]
theorem great_eq (c : Int) : lex_isGreat.f c = some (decide (65 ≤ c ∧ c ≤ 90)) := by
  unfold lex_isGreat.f
  by_cases h : c ≥ 65
  · rw [if_pos h]; congr 1; by_cases h2 : c ≤ 90
    · rw [decide_eq_true h2, decide_eq_true ⟨h, h2⟩]
    · rw [decide_eq_false h2, decide_eq_false (fun h3 => h2 h3.2)]
  · rw [if_neg h, decide_eq_false (fun h3 => h h3.1)]
theorem digit_eq (c : Int) : lex_isDigit.f c = some (decide (48 ≤ c ∧ c ≤ 57)) := by
  unfold lex_isDigit.f
  by_cases h : c ≥ 48
  · rw [if_pos h]; congr 1; by_cases h2 : c ≤ 57
    · rw [decide_eq_true h2, decide_eq_true ⟨h, h2⟩]
    · rw [decide_eq_false h2, decide_eq_false (fun h3 => h2 h3.2)]
  · rw [if_neg h, decide_eq_false (fun h3 => h h3.1)]
theorem lex_goes_eq (k c : Int) : lex_goesOn.f k c = some (goesS k c) := by
  unfold lex_goesOn.f goesS
  by_cases h1 : k = 1
  · rw [if_pos h1, if_pos h1, lex_begins_eq]; rfl
  rw [if_neg h1, if_neg h1]
  by_cases h2 : k = 2
  · rw [if_pos h2, if_pos h2]
  rw [if_neg h2, if_neg h2]
  by_cases h3 : k = 3
  · rw [if_pos h3, if_pos h3, small_eq]
    simp only [Option.bind_some]
    by_cases a : 97 ≤ c ∧ c ≤ 122
    · rw [if_pos (decide_eq_true a), decide_eq_true (.inl a)]
    · rw [if_neg (by simpa using a), digit_eq]
      simp only [Option.bind_some]
      by_cases b : 48 ≤ c ∧ c ≤ 57
      · rw [if_pos (decide_eq_true b), decide_eq_true (.inr (.inl b))]
      · rw [if_neg (by simpa using b)]
        by_cases d : c = 95
        · rw [if_pos d, decide_eq_true (.inr (.inr (.inl d)))]
        · rw [if_neg d]
          by_cases e : c = 45
          · rw [decide_eq_true (.inr (.inr (.inr e)))]; simp [e]
          · rw [decide_eq_false (by omega)]; simp [e]
  rw [if_neg h3, if_neg h3]
  by_cases h4 : k = 4
  · rw [if_pos h4, if_pos h4, great_eq]; rfl
  rw [if_neg h4, if_neg h4]
  by_cases h5 : k = 5
  · rw [if_pos h5, if_pos h5, digit_eq]
    simp only [Option.bind_some]
    by_cases b : 48 ≤ c ∧ c ≤ 57
    · rw [if_pos (decide_eq_true b), decide_eq_true (.inl b)]
    · rw [if_neg (by simpa using b)]
      by_cases d : c = 46
      · rw [if_pos d, decide_eq_true (.inr (.inl d))]
      · rw [if_neg d]
        by_cases e : c = 47
        · rw [decide_eq_true (.inr (.inr e))]; simp [e]
        · rw [decide_eq_false (by omega)]; simp [e]
  rw [if_neg h5, if_neg h5]
end Go.Proofs.YthllfnmebdjpfaaGreatDoor.H
end

/- Plain law: names, of the program and of the reference; the law LexNames. -/
import Derived.Test.YthllfnmebdjpfaaDoorK1Pure3
import Derived.Test.YthllfnmebdjpfaaDoorK1Hx10
namespace Go.Proofs.YthllfnmebdjpfaaDoor.H
open Go.RowKit Go.Proofs.YthllfnmebdjpfaaDoor.Hand Go.Proofs.YthllfnmebdjpfaaDoorW.PrintWords Go.Proofs.YthllfnmebdjpfaaDoorW.PrintLast Go.Proofs.YthllfnmebdjpfaaDoorW.PrintMore

/-- Is a text a name? -/
def isNameS (s : ByteArray) : Bool :=
  match bl s with
  | [] => false
  | b :: r => decide (97 ≤ (b.toNat : Int) ∧ (b.toNat : Int) ≤ 122) && (r.all (gB 3) && (decide (s.size ≤ 32) && !isWordS s))

theorem wrap32_byte (c : Int) (h0 : 0 ≤ c) (h1 : c < 256) : wrap32 c = c := by unfold wrap32; omega
theorem toList_bl (s : ByteArray) : s.toList = bl s := Lib.toList_data s
theorem begins_small (c : Int) : beginsS c = 3 ↔ 97 ≤ c ∧ c ≤ 122 := by
  unfold beginsS
  constructor
  · intro h
    split at h
    · cases h
    split at h
    · cases h
    split at h
    · assumption
    split at h
    · cases h
    split at h
    · cases h
    split at h
    · cases h
    split at h <;> cases h
  · intro h
    rw [if_neg (by omega), if_neg (by omega), if_pos h]

theorem lex_isname_eq (s : ByteArray) (hz : s.size ≤ 140737488351232) (k : Nat) (hk : 100 ≤ k) : lex_IsName.f k s = some (isNameS s) := by
  have hl := bl_length s
  unfold lex_IsName.f isNameS
  rw [toList_bl]
  match hb : bl s with
  | [] => rw [if_pos rfl]
  | b :: r =>
    rw [hb] at hl
    have h0 : 0 < s.size := by rw [← hl]; simp
    have hbt : bt s 0 = (b.toNat : Int) := by
      have := bt_nat s 0 (by rw [hb]; simp)
      simpa [hb] using this
    have hg : s[0]'h0 = b := by
      have h1 := bl_get s 0 h0
      rw [← h1]
      simp [hb]
    have hbr := b.toNat_lt
    rw [if_neg (by simp), if_pos (by omega), hbt, wrap32_byte _ (by omega) (by omega), lex_begins_eq]
    simp only [Option.bind_some]
    by_cases hs : 97 ≤ (b.toNat : Int) ∧ (b.toNat : Int) ≤ 122
    · rw [if_pos ((begins_small _).2 hs), lex_run_eq 3 s (by omega) h0 (by rw [hg]; omega), hb]
      simp only [Option.bind_some]
      have ha := runS_all 3 b r
      rw [decide_eq_true hs, Bool.true_and]
      by_cases hr : r.all (gB 3) = true
      · have he : (runS 3 (b :: r) : Int) = (s.size : Int) := by rw [ha.2 hr, hl]
        rw [if_pos he, hr, Bool.true_and]
        by_cases h32 : (s.size : Int) ≤ 32
        · rw [if_pos h32, lex_isword_eq s k hk, decide_eq_true (show s.size ≤ 32 by omega)]
          rfl
        · rw [if_neg h32, decide_eq_false (show ¬ s.size ≤ 32 by omega)]
          rfl
      · have he : ¬ (runS 3 (b :: r) : Int) = (s.size : Int) := fun e => hr (ha.1 (by rw [hl]; omega))
        rw [if_neg he, Bool.eq_false_iff.2 hr]
        rfl
    · rw [if_neg (fun e => hs ((begins_small _).1 e)), decide_eq_false hs]
      rfl

theorem goesS_3 (c : Int) : goesS 3 c = decide (97 ≤ c ∧ c ≤ 122 ∨ 48 ≤ c ∧ c ≤ 57 ∨ c = 95 ∨ c = 45) := by
  unfold goesS; rw [if_neg (by decide), if_neg (by decide), if_pos rfl]
theorem goesS_4 (c : Int) : goesS 4 c = decide (65 ≤ c ∧ c ≤ 90) := by
  unfold goesS; rw [if_neg (by decide), if_neg (by decide), if_neg (by decide), if_pos rfl]
theorem goesS_5 (c : Int) : goesS 5 c = decide (48 ≤ c ∧ c ≤ 57 ∨ c = 46 ∨ c = 47) := by
  unfold goesS; rw [if_neg (by decide), if_neg (by decide), if_neg (by decide), if_neg (by decide), if_pos rfl]
/-- May a byte go on with a run of the reference's? -/
def withinS (k c : Int) : Bool := if k = 1 then goesS 3 c else if k = 2 then goesS 4 c else goesS 5 c
theorem ref_small_eq (c : Int) : lychgateref08_small.f c = some (decide (97 ≤ c ∧ c ≤ 122)) := small_eq c
theorem ref_great_eq (c : Int) : lychgateref08_great.f c = some (decide (65 ≤ c ∧ c ≤ 90)) := great_eq c
theorem ref_digit_eq (c : Int) : lychgateref08_digit.f c = some (decide (48 ≤ c ∧ c ≤ 57)) := digit_eq c
theorem ref_within_eq (k c : Int) : lychgateref08_within.f k c = some (withinS k c) := by
  unfold lychgateref08_within.f
  rw [ref_small_eq, ref_digit_eq, ref_great_eq]
  simp only [Option.bind_some]
  unfold withinS
  by_cases h1 : k = 1
  · rw [if_pos h1, if_pos h1, goesS_3]
    by_cases a : 97 ≤ c ∧ c ≤ 122
    · rw [if_pos (decide_eq_true a), decide_eq_true (.inl a)]
    rw [if_neg (by simpa using a)]
    by_cases b : 48 ≤ c ∧ c ≤ 57
    · rw [if_pos (decide_eq_true b), decide_eq_true (.inr (.inl b))]
    rw [if_neg (by simpa using b)]
    by_cases d : c = 95
    · rw [if_pos d, decide_eq_true (.inr (.inr (.inl d)))]
    rw [if_neg d]
    by_cases e : c = 45
    · rw [decide_eq_true (.inr (.inr (.inr e)))]; simp [e]
    · rw [decide_eq_false (by omega)]; simp [e]
  rw [if_neg h1, if_neg h1]
  by_cases h2 : k = 2
  · rw [if_pos h2, if_pos h2, goesS_4]
  rw [if_neg h2, if_neg h2, goesS_5]
  by_cases b : 48 ≤ c ∧ c ≤ 57
  · rw [if_pos (decide_eq_true b), decide_eq_true (.inl b)]
  rw [if_neg (by simpa using b)]
  by_cases d : c = 46
  · rw [if_pos d, decide_eq_true (.inr (.inl d))]
  rw [if_neg d]
  by_cases e : c = 47
  · rw [decide_eq_true (.inr (.inr e))]; simp [e]
  · rw [decide_eq_false (by omega)]; simp [e]

theorem ref_run_l0 (m : Int) (s : ByteArray) (hz : s.size ≤ 140737488351232) : ∀ (d pos k : Nat), pos + d = s.size → d + 1 ≤ k → lychgateref08_run.l0 k m s (pos : Int) = some ((pos + (((bl s).drop pos).takeWhile fun b => withinS m (b.toNat : Int)).length : Nat) : Int) := by
  have hl := bl_length s
  intro d
  induction d with
  | zero =>
    intro pos k hp hk
    obtain ⟨k, rfl⟩ : ∃ m, k = m + 1 := ⟨k - 1, by omega⟩
    simp only [lychgateref08_run.l0]
    rw [if_neg (by omega), List.drop_of_length_le (by omega)]
    simp
  | succ d ih =>
    intro pos k hp hk
    obtain ⟨k, rfl⟩ : ∃ m, k = m + 1 := ⟨k - 1, by omega⟩
    have hlt : pos < (bl s).length := by omega
    simp only [lychgateref08_run.l0]
    rw [if_pos (by omega), if_pos (by omega), bt_nat s pos hlt, ref_within_eq, drop_at _ pos hlt]
    simp only [Option.bind_some]
    by_cases h : withinS m ((bl s)[pos].toNat : Int) = true
    · rw [if_pos h, wrap_nat pos (by omega), ih (pos + 1) k (by omega) (by omega), List.takeWhile_cons_of_pos (p := fun b : UInt8 => withinS m (b.toNat : Int)) h, List.length_cons]
      congr 2
      omega
    · rw [if_neg h, List.takeWhile_cons_of_neg (p := fun b : UInt8 => withinS m (b.toNat : Int)) h]
      rfl
theorem ref_run_eq (m : Int) (s : ByteArray) (hz : s.size ≤ 140737488351232) (pos k : Nat) (hp : pos ≤ s.size) (hk : s.size + 1 ≤ k) : lychgateref08_run.f k m s (pos : Int) = some ((pos + (((bl s).drop pos).takeWhile fun b => withinS m (b.toNat : Int)).length : Nat) : Int) :=
  ref_run_l0 m s hz (s.size - pos) pos k (by omega) (by omega)

theorem all_take (p : UInt8 → Bool) (l : List UInt8) : (l.takeWhile p).length = l.length ↔ l.all p = true := by
  constructor
  · intro h
    have h1 : l.takeWhile p = l := List.IsPrefix.eq_of_length (List.takeWhile_prefix _) h
    rw [← h1]
    exact List.all_takeWhile
  · intro h
    induction l with
    | nil => rfl
    | cons a r ih =>
      simp only [List.all_cons, Bool.and_eq_true] at h
      rw [List.takeWhile_cons_of_pos h.1, List.length_cons, ih h.2, List.length_cons]

theorem ref_isname_eq (s : ByteArray) (hz : s.size ≤ 140737488351232) (k : Nat) (hk : s.size + 200 ≤ k) : lychgateref08_IsName.f k s = some (isNameS s) := by
  have hl := bl_length s
  unfold lychgateref08_IsName.f isNameS
  rw [toList_bl]
  obtain ⟨k, rfl⟩ : ∃ m, k = m + 1 := ⟨k - 1, by omega⟩
  match hb : bl s with
  | [] =>
    rw [if_pos rfl]
    simp only [lychgateref08_IsName.j0]
    rw [if_pos trivial]
  | b :: r =>
    rw [hb] at hl
    have h0 : 0 < s.size := by rw [← hl]; simp
    have hbt : bt s 0 = (b.toNat : Int) := by
      have := bt_nat s 0 (by rw [hb]; simp)
      simpa [hb] using this
    rw [if_neg (by simp)]
    simp only [lychgateref08_IsName.j0]
    by_cases h32 : (s.size : Int) > 32
    · rw [if_pos (decide_eq_true h32), decide_eq_false (show ¬ s.size ≤ 32 by omega)]
      simp
    · rw [if_neg (by simpa using h32), if_pos (by omega), hbt, ref_small_eq, ref_isword_eq s k (by omega), decide_eq_true (show s.size ≤ 32 by omega)]
      simp only [Option.bind_some]
      by_cases hs : 97 ≤ (b.toNat : Int) ∧ (b.toNat : Int) ≤ 122
      · rw [if_pos (decide_eq_true hs), decide_eq_true hs]
        cases hw : isWordS s with
        | true => rw [if_pos rfl]; simp
        | false =>
          rw [if_neg (by decide)]
          have hr := ref_run_eq 1 s hz 0 k (by omega) (by omega)
          rw [show ((0 : Nat) : Int) = 0 from rfl] at hr
          rw [hr]
          simp only [Option.bind_some, List.drop_zero, Nat.zero_add]
          have ha := all_take (fun b => withinS 1 (b.toNat : Int)) (bl s)
          have he : (bl s).all (fun b => withinS 1 (b.toNat : Int)) = r.all (gB 3) := by
            rw [hb, List.all_cons]
            have h1 : withinS 1 (b.toNat : Int) = true := by
              show (if (1 : Int) = 1 then goesS 3 _ else _) = true
              rw [if_pos rfl]
              show (if (3 : Int) = 1 then _ else if (3 : Int) = 2 then _ else if (3 : Int) = 3 then _ else _) = true
              rw [if_neg (by decide), if_neg (by decide), if_pos rfl, decide_eq_true (.inl hs)]
            rw [h1]
            rfl
          cases hra : r.all (gB 3) with
          | true =>
            rw [hra] at he
            rw [ha.2 he, hb, hl]
            simp
          | false =>
            rw [hra] at he
            have hne : ¬ ((bl s).takeWhile fun b => withinS 1 (b.toNat : Int)).length = (bl s).length := fun e => by rw [ha.1 e] at he; cases he
            have hls := bl_length s
            have : ((((bl s).takeWhile fun b => withinS 1 (b.toNat : Int)).length : Int) == (s.size : Int)) = false := beq_eq_false_iff_ne.2 (fun e => hne (by omega))
            rw [this]
            simp
      · rw [if_neg (by simpa using hs), decide_eq_false hs]
        rfl

theorem awake_true : lychgatelaw08_awake.f 60 = some true := by decide +kernel
theorem awake_ev (k : Nat) (hk : 60 ≤ k) : lychgatelaw08_awake.f k = some true := at_rounds (fun k => lychgatelaw08_awake.mono k) hk awake_true

theorem names_l0 (xs : List ByteArray) (hx : xs.length ≤ 100) (hs : ∀ x ∈ xs, x.size ≤ 140737488351232) (K : Nat) (hK : ∀ x ∈ xs, x.size + 1000 ≤ K) : ∀ (d i k : Nat), i + d = xs.length → K + d + 1 ≤ k → lychgatelaw08_LexNames.l0 k true xs (i : Int) = some true := by
  intro d
  induction d with
  | zero =>
    intro i k hi hk
    obtain ⟨k, rfl⟩ : ∃ m, k = m + 1 := ⟨k - 1, by omega⟩
    simp only [lychgatelaw08_LexNames.l0]
    rw [if_neg (by omega)]
  | succ d ih =>
    intro i k hi hk
    obtain ⟨k, rfl⟩ : ∃ m, k = m + 1 := ⟨k - 1, by omega⟩
    have hlt : i < xs.length := by omega
    have hr : rdOf ByteArray.empty xs (i : Int) = xs[i] := by
      unfold rdOf
      rw [Int.toNat_natCast, List.getD_eq_getElem?_getD, List.getElem?_eq_getElem hlt]
      rfl
    have hm : xs[i] ∈ xs := List.getElem_mem hlt
    have h1 := hs _ hm
    have h2 := hK _ hm
    simp only [lychgatelaw08_LexNames.l0]
    rw [if_pos (by omega), if_pos (by omega), hr]
    generalize xs[i] = x at h1 h2
    rw [lex_quote_ev x k (by omega), ref_quote_ev x k (by omega), lex_isword_eq x k (by omega), ref_isword_eq x k (by omega), lex_isname_eq x h1 k (by omega), ref_isname_eq x h1 k (by omega)]
    simp only [Option.bind_some]
    rw [if_neg (by simp), if_neg (by simp), if_pos trivial, if_pos trivial, wrap_nat i (by omega)]
    exact ih (i + 1) k (by omega) (by omega)

/-- The law LexNames, without Go. -/
theorem LexNames_pure (s t : ByteArray) (hs : s.size ≤ 140737488351232) (ht : t.size ≤ 140737488351232) : ∃ k, lychgatelaw08_LexNames.f k s t = some true := by
  have key : ∀ K, s.size + t.size + 1000 ≤ K → lychgatelaw08_LexNames.f (K + 4) s t = some true := by
    intro K hK
    unfold lychgatelaw08_LexNames.f
    rw [awake_ev _ (by omega)]
    simp only [Option.bind_some]
    exact names_l0 [s, t, s] (by simp) (by intro x hx; simp only [List.mem_cons, List.not_mem_nil, or_false] at hx; rcases hx with rfl | rfl | rfl <;> assumption) K (by intro x hx; simp only [List.mem_cons, List.not_mem_nil, or_false] at hx; rcases hx with rfl | rfl | rfl <;> omega) 3 0 (K + 4) rfl (by omega)
  exact ⟨_, key _ (Nat.le_refl _)⟩
end Go.Proofs.YthllfnmebdjpfaaDoor.H

/- Plain law: LexFaults. -/
import Derived.Test.YthllfnmebdjpfaaDoorK2Pure7
import Derived.Test.YthllfnmebdjpfaaDoorK2Hx9
namespace Go.Proofs.YthllfnmebdjpfaaDoor.H
open Go.RowKit Go.Proofs.YthllfnmebdjpfaaDoor.Hand Go.Proofs.YthllfnmebdjpfaaDoorW.PrintWords Go.Proofs.YthllfnmebdjpfaaDoorW.PrintLast Go.Proofs.YthllfnmebdjpfaaDoorW.PrintMore

theorem add_ev (a b : Int) (ha : 0 ≤ a ∧ a ≤ 281474976710656) (hb : 0 ≤ b ∧ b ≤ 281474976710656) : lychgatelaw08_add.f a b = some (if b > 2147483647 - a then 2147483648 else a + b) := by
  unfold lychgatelaw08_add.f
  rw [show wrap64 (2147483647 - a) = 2147483647 - a by unfold wrap64; omega]
  by_cases h : b > 2147483647 - a
  · rw [if_pos h, if_pos h]
  · rw [if_neg h, if_neg h, show wrap64 (a + b) = a + b by unfold wrap64; omega]

theorem front_blank (s more : ByteArray) (x : Nat) : bl ((s.extract 0 x ++ (⟨#[32]⟩ : ByteArray)) ++ more) = (bl s).take x ++ 32 :: bl more := by
  rw [take_extract]
  simp [bl, toS]
/-- What stands ahead of a fault is taken apart without one. -/
theorem faults_ahead (s : ByteArray) (e : Int) (p : Nat) (hz : s.size ≤ 8000) (h : scanU (bl s) 0 = .inl (e, p)) : p < s.size ∧ (scanA (s.extract 0 p)).2.1 = 0 := by
  obtain ⟨m, rfl, hm, _, ts, hv⟩ := scan_split _ (bl s) 0 e p (Nat.le_refl _) h
  have hl := bl_length s
  refine ⟨by omega, ?_⟩
  have h0 := hv [] (.inl rfl)
  rw [List.append_nil, scanU_nil] at h0
  rw [Nat.zero_add, take_extract, scanA_short _ (by rw [toS_size, List.length_take]; omega), bl_toS, h0]
  rfl

/-- Behind a blank nothing changes. -/
theorem faults_end (s more : ByteArray) (e : Int) (p : Nat) (h : scanU (bl s) 0 = .inl (e, p)) (x : Nat) (hx : p + 1 ≤ x) (hxs : x ≤ s.size)
    (hend : x = s.size ∨ ∃ hlt : x < (bl s).length, (bl s)[x].toNat = 32 ∨ (bl s)[x].toNat = 10) (k : Nat) (hk : 18000 ≤ k) :
    (lex_Scan.f k ((s.extract 0 x ++ (⟨#[32]⟩ : ByteArray)) ++ more)).bind (fun bt => if e = 83 then some true else if ((((s.extract 0 x ++ (⟨#[32]⟩ : ByteArray)) ++ more).size : Nat) : Int) > 8000 then some true else if bt.2.1 = e then some (bt.2.2 == (p : Int)) else none) = some true := by
  have hl := bl_length s
  rw [scan_ev _ k hk]
  simp only [Option.bind_some]
  by_cases h83 : e = 83
  · rw [if_pos h83]
  rw [if_neg h83]
  by_cases hbig : ((((s.extract 0 x ++ (⟨#[32]⟩ : ByteArray)) ++ more).size : Nat) : Int) > 8000
  · rw [if_pos hbig]
  rw [if_neg hbig, scanA_short _ (by omega), front_blank]
  obtain ⟨m, hp, hm, htok, ts, hv⟩ := scan_split _ (bl s) 0 e p (Nat.le_refl _) h
  obtain rfl : p = m := by omega
  have hd := drop_at (bl s) p hm
  obtain ⟨j, rfl⟩ : ∃ j, x = p + (j + 1) := ⟨x - p - 1, by omega⟩
  rw [hd] at htok
  have hdd : ((bl s).drop (p + 1)).drop j = (bl s).drop (p + (j + 1)) := by rw [List.drop_drop]; congr 1; omega
  have hf := tok_fault (bl s)[p] ((bl s).drop (p + 1)) (32 :: bl more) j e htok h83 (fun i hi => by
    constructor
    · rw [hdd]
      rcases hend with hend | ⟨hlt, hend⟩
      · rw [List.drop_of_length_le (by omega)]; rfl
      · rw [drop_at _ _ hlt]
        show (!gB i (bl s)[p + (j + 1)]) = true
        unfold gB
        rcases hi with rfl | rfl | rfl
        · rw [goesS_3, decide_eq_false (by omega)]; rfl
        · rw [goesS_4, decide_eq_false (by omega)]; rfl
        · rw [goesS_5, decide_eq_false (by omega)]; rfl
    · rcases hi with rfl | rfl | rfl
      · show (!gB 3 32) = true; decide
      · show (!gB 4 32) = true; decide
      · show (!gB 5 32) = true; decide)
  have hv' := hv ((bl s)[p] :: (((bl s).drop (p + 1)).take j ++ 32 :: bl more)) (.inr (by rw [hd]; rfl))
  rw [scanU_err _ p e (by simp) hf] at hv'
  rw [List.take_add, List.append_assoc, hd, List.take_succ_cons, List.cons_append, hv']
  show (if e = e then some ((p : Int) == (p : Int)) else none) = some true
  rw [if_pos rfl, beq_self_eq_true]

theorem faults_l0 (s more : ByteArray) (e : Int) (p : Nat) (hz : s.size ≤ 8000) (hmore : more.size ≤ 281474976710656) (h : scanU (bl s) 0 = .inl (e, p)) :
    ∀ (d x k : Nat), x + d = s.size → p + 1 ≤ x → 18000 + d + 1 ≤ k → lychgatelaw08_LexFaults.l0 k s more e (p : Int) (x : Int) = some true := by
  have hl := bl_length s
  have hex : ∀ x, x ≤ s.size → (s.extract 0 x).size = x := fun x hx => by rw [take_extract, toS_size, List.length_take]; omega
  have hap : ∀ (a b : ByteArray), (a ++ b).size = a.size + b.size := fun a b => ByteArray.size_append
  intro d
  induction d with
  | zero =>
    intro x k hx hp hk
    obtain ⟨k, rfl⟩ : ∃ m, k = m + 1 := ⟨k - 1, by omega⟩
    have h1 := hex x (by omega)
    simp only [lychgatelaw08_LexFaults.l0, Int.toNat_natCast]
    rw [if_neg (by omega), if_pos (by omega), if_pos (by omega), if_pos (by omega), if_pos (by rw [hap, h1]; show x + 1 + _ ≤ _; omega)]
    exact faults_end s more e p h x hp (by omega) (.inl (by omega)) k (by omega)
  | succ d ih =>
    intro x k hx hp hk
    obtain ⟨k, rfl⟩ : ∃ m, k = m + 1 := ⟨k - 1, by omega⟩
    have h1 := hex x (by omega)
    have hlt : x < (bl s).length := by omega
    simp only [lychgatelaw08_LexFaults.l0, Int.toNat_natCast]
    rw [if_pos (by omega), if_pos (by omega), bt_nat s x hlt]
    by_cases h32 : ((bl s)[x].toNat : Int) = 32
    · rw [if_pos h32, if_pos (by omega), if_pos (by omega), if_pos (by rw [hap, h1]; show x + 1 + _ ≤ _; omega)]
      exact faults_end s more e p h x hp (by omega) (.inr ⟨hlt, .inl (by omega)⟩) k (by omega)
    rw [if_neg h32]
    by_cases h10 : ((bl s)[x].toNat : Int) = 10
    · rw [if_pos h10, if_pos (by omega), if_pos (by omega), if_pos (by rw [hap, h1]; show x + 1 + _ ≤ _; omega)]
      exact faults_end s more e p h x hp (by omega) (.inr ⟨hlt, .inr (by omega)⟩) k (by omega)
    rw [if_neg h10, wrap_nat x (by omega)]
    exact ih (x + 1) k (by omega) (by omega) (by omega)

/-- The law LexFaults, without Go. -/
theorem LexFaults_pure (s t : ByteArray) (hs : s.size ≤ 140737488351232) (ht : t.size ≤ 140737488351232) : ∃ k, lychgatelaw08_LexFaults.f k s t = some true := by
  have hl := bl_length s
  refine ⟨18000 + 8000 + 8, ?_⟩
  unfold lychgatelaw08_LexFaults.f
  rw [add_ev _ _ ⟨by omega, by omega⟩ ⟨by omega, by omega⟩]
  simp only [Option.bind_some]
  rw [add_ev _ _ (by split <;> constructor <;> omega) ⟨by omega, by omega⟩]
  simp only [Option.bind_some]
  by_cases hb : (if (t.size : Int) > 2147483647 - (if (s.size : Int) > 2147483647 - (s.size : Int) then 2147483648 else (s.size : Int) + (s.size : Int)) then (2147483648 : Int) else (if (s.size : Int) > 2147483647 - (s.size : Int) then 2147483648 else (s.size : Int) + (s.size : Int)) + (t.size : Int)) > 2147483647
  · rw [if_pos hb]
  rw [if_neg hb, awake_ev _ (by omega), scan_ev s _ (by omega)]
  simp only [Option.bind_some]
  rw [if_pos trivial]
  generalize hK : 18000 + 8000 + 7 = K
  have hK' : 18000 + 8000 + 8 = K + 1 := by omega
  rw [hK']
  simp only [lychgatelaw08_LexFaults.j0]
  by_cases hz : s.size ≤ 8000
  · rw [scanA_short s hz]
    match hsc : scanU (bl s) 0 with
    | .inr l => rw [if_pos (by rfl)]
    | .inl (e, p) =>
      obtain ⟨hp, ha⟩ := faults_ahead s e p hz hsc
      obtain ⟨m, hpm, hm, htok, _⟩ := scan_split _ (bl s) 0 e p (Nat.le_refl _) hsc
      have he := tok_err _ _ htok
      have hR : scanR [] (.inl (e, p)) = ([], e, (p : Int)) := rfl
      rw [hR]
      simp only
      rw [if_neg (by rw [beq_iff_eq]; omega), if_neg (by omega), if_neg (by omega), decide_eq_false (by omega)]
      obtain ⟨K', rfl⟩ : ∃ q, K = q + 1 := ⟨K - 1, by omega⟩
      simp only [lychgatelaw08_LexFaults.j1]
      rw [if_neg (by decide), if_pos (by omega), if_pos (by omega), Int.toNat_natCast, scan_ev _ _ (by omega)]
      simp only [Option.bind_some]
      rw [if_pos ha, wrap_nat p (by omega)]
      exact faults_l0 s t e p hz (by omega) hsc (s.size - (p + 1)) (p + 1) K' (by omega) (by omega) (by omega)
  · have hA : scanA s = ([], 84, 8000) := if_pos (by omega)
    rw [hA]
    show (if ((84 : Int) == 0) = true then some true else if (84 : Int) = 84 then (if (s.size : Int) > 8000 then some ((8000 : Int) == 8000) else none) else _) = some true
    rw [if_neg (by decide), if_pos rfl, if_pos (by omega)]
    rfl
end Go.Proofs.YthllfnmebdjpfaaDoor.H

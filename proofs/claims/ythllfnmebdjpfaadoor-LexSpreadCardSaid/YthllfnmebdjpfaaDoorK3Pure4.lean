/- Plain law: names, of the program and of the reference; the law LexNames. -/
import Derived.Test.YthllfnmebdjpfaaDoorK3Pure3
import Derived.Test.YthllfnmebdjpfaaDoorK3Hx8
namespace Go.Proofs.YthllfnmebdjpfaaDoor.H
open Go.RowKit Go.Proofs.YthllfnmebdjpfaaDoor.Hand Go.Proofs.YthllfnmebdjpfaaDoorW.PrintWords Go.Proofs.YthllfnmebdjpfaaDoorW.PrintLast Go.Proofs.YthllfnmebdjpfaaDoorW.PrintMore

/-- Is a text a name? -/
def isNameS (s : ByteArray) : Bool :=
  match bl s with
  | [] => false
  | b :: r => decide (97 ≤ (b.toNat : Int) ∧ (b.toNat : Int) ≤ 122) && (r.all (gB 3) && (decide (s.size ≤ 32) && !isWordS s))

theorem wrap32_byte (c : Int) (h0 : 0 ≤ c) (h1 : c < 256) : wrap32 c = c := by unfold wrap32; omega
theorem toList_bl (s : ByteArray) : s.toList = bl s := Lib.toList_data s
theorem begins_small (c : Int) : beginsS c = 3 ↔ 97 ≤ c ∧ c ≤ 122 := by
  unfold beginsS
  constructor
  · intro h
    split at h
    · cases h
    split at h
    · cases h
    split at h
    · assumption
    split at h
    · cases h
    split at h
    · cases h
    split at h
    · cases h
    split at h <;> cases h
  · intro h
    rw [if_neg (by omega), if_neg (by omega), if_pos h]

theorem lex_isname_eq (s : ByteArray) (hz : s.size ≤ 140737488351232) (k : Nat) (hk : 100 ≤ k) : lex_IsName.f k s = some (isNameS s) := by
  have hl := bl_length s
  unfold lex_IsName.f isNameS
  rw [toList_bl]
  match hb : bl s with
  | [] => rw [if_pos rfl]
  | b :: r =>
    rw [hb] at hl
    have h0 : 0 < s.size := by rw [← hl]; simp
    have hbt : bt s 0 = (b.toNat : Int) := by
      have := bt_nat s 0 (by rw [hb]; simp)
      simpa [hb] using this
    have hg : s[0]'h0 = b := by
      have h1 := bl_get s 0 h0
      rw [← h1]
      simp [hb]
    have hbr := b.toNat_lt
    rw [if_neg (by simp), if_pos (by omega), hbt, wrap32_byte _ (by omega) (by omega), lex_begins_eq]
    simp only [Option.bind_some]
    by_cases hs : 97 ≤ (b.toNat : Int) ∧ (b.toNat : Int) ≤ 122
    · rw [if_pos ((begins_small _).2 hs), lex_run_eq 3 s (by omega) h0 (by rw [hg]; omega), hb]
      simp only [Option.bind_some]
      have ha := runS_all 3 b r
      rw [decide_eq_true hs, Bool.true_and]
      by_cases hr : r.all (gB 3) = true
      · have he : (runS 3 (b :: r) : Int) = (s.size : Int) := by rw [ha.2 hr, hl]
        rw [if_pos he, hr, Bool.true_and]
        by_cases h32 : (s.size : Int) ≤ 32
        · rw [if_pos h32, lex_isword_eq s k hk, decide_eq_true (show s.size ≤ 32 by omega)]
          rfl
        · rw [if_neg h32, decide_eq_false (show ¬ s.size ≤ 32 by omega)]
          rfl
      · have he : ¬ (runS 3 (b :: r) : Int) = (s.size : Int) := fun e => hr (ha.1 (by rw [hl]; omega))
        rw [if_neg he, Bool.eq_false_iff.2 hr]
        rfl
    · rw [if_neg (fun e => hs ((begins_small _).1 e)), decide_eq_false hs]
      rfl

theorem awake_true : lychgatelaw08_awake.f 60 = some true := by decide +kernel
theorem awake_ev (k : Nat) (hk : 60 ≤ k) : lychgatelaw08_awake.f k = some true := at_rounds (fun k => lychgatelaw08_awake.mono k) hk awake_true

end Go.Proofs.YthllfnmebdjpfaaDoor.H

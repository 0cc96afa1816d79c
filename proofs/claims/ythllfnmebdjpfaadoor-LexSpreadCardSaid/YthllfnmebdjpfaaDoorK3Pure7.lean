/- Plain law: where a fault is found: what stands ahead of it, and behind it. -/
import Derived.Test.YthllfnmebdjpfaaDoorK3Pure6
namespace Go.Proofs.YthllfnmebdjpfaaDoor.H
open Go.RowKit Go.Proofs.YthllfnmebdjpfaaDoor.Hand Go.Proofs.YthllfnmebdjpfaaDoorW.PrintWords Go.Proofs.YthllfnmebdjpfaaDoorW.PrintLast Go.Proofs.YthllfnmebdjpfaaDoorW.PrintMore

/-- A token of bytes is as long as they are, and more than none. -/
theorem tok_len (u : List UInt8) (t : S37) (n : Nat) (h : tokS u = .inr (t, n)) : 0 < n ∧ n ≤ u.length := by
  have := tok_stable u (u.drop n) t n h (fun h6 => tok_stops u t n h h6)
  exact ⟨this.1, this.2.1⟩
theorem tok_err (u : List UInt8) (e : Int) (h : tokS u = .inl e) : e = 80 ∨ e = 81 ∨ e = 82 ∨ e = 83 := by
  unfold tokS at h
  split at h
  · cases h; omega
  · split at h
    · split at h
      · split at h
        · cases h
        · cases h; omega
      · cases h; omega
    · split at h
      · cases h; omega
      · unfold finS at h
        repeat' (first | (split at h) | (cases h; omega) | cases h)

/-- Enough rounds are enough. -/
theorem scanS_fuel : ∀ (d d' : Nat) (u : List UInt8) (p : Nat), u.length < d → u.length < d' → scanS d u p = scanS d' u p := by
  intro d
  induction d with
  | zero => intro d' u p h; omega
  | succ d ih =>
    intro d' u p h h'
    obtain ⟨d', rfl⟩ : ∃ m, d' = m + 1 := ⟨d' - 1, by omega⟩
    match u with
    | [] => rfl
    | b :: r =>
      simp only [scanS]
      match ht : tokS (b :: r) with
      | .inl e => rfl
      | .inr (t, n) =>
        have := tok_len _ _ _ ht
        simp only
        rw [ih d' _ _ (by rw [List.length_drop]; omega) (by rw [List.length_drop]; omega)]
def scanU (u : List UInt8) (p : Nat) : (Int × Nat) ⊕ List S37 := scanS (u.length + 1) u p
/-- Tokens ahead of others. -/
def addT (ts : List S37) : (Int × Nat) ⊕ List S37 → (Int × Nat) ⊕ List S37
  | .inl x => .inl x
  | .inr l => .inr (ts ++ l)
theorem addT_nil (x) : addT [] x = x := by cases x <;> rfl
theorem addT_add (a b x) : addT a (addT b x) = addT (a ++ b) x := by cases x <;> simp [addT]
theorem scanU_nil (p : Nat) : scanU [] p = .inr [endS p] := rfl
theorem scanU_err (u : List UInt8) (p : Nat) (e : Int) (hu : u ≠ []) (h : tokS u = .inl e) : scanU u p = .inl (e, p) := by
  match u with
  | [] => exact absurd rfl hu
  | b :: r => unfold scanU; rw [List.length_cons, scanS, h]
theorem scanU_tok (u : List UInt8) (p : Nat) (t : S37) (n : Nat) (h : tokS u = .inr (t, n)) : scanU u p = addT (if t.f0 = 0 then [] else [atS t p]) (scanU (u.drop n) (p + n)) := by
  have hl := tok_len _ _ _ h
  match u with
  | [] => cases h
  | b :: r =>
    unfold scanU
    rw [List.length_cons, scanS, h]
    simp only
    rw [scanS_fuel (r.length + 1) (((b :: r).drop n).length + 1) _ _ (by rw [List.length_drop, List.length_cons]; omega) (by omega)]
    cases scanS (((b :: r).drop n).length + 1) ((b :: r).drop n) (p + n) with
    | inl x => rfl
    | inr l =>
      simp only [addT]
      split <;> rfl

theorem stops_head (i : Int) (u v : List UInt8) (h : stops i u = true) (hv : v = [] ∨ v.head? = u.head?) : stops i v = true := by
  rcases hv with rfl | hv
  · rfl
  · cases v with
    | nil => rfl
    | cons c v =>
      cases u with
      | nil => cases hv
      | cons b u =>
        cases hv
        exact h

/-- A source that is refused: what stands ahead of the fault is taken apart alike whatever stands behind it, if that begins alike. -/
theorem scan_split : ∀ (N : Nat) (u : List UInt8) (p0 : Nat) (e : Int) (p : Nat), u.length ≤ N → scanU u p0 = .inl (e, p) →
    ∃ m, p = p0 + m ∧ m < u.length ∧ tokS (u.drop m) = .inl e ∧ ∃ ts, ∀ v : List UInt8, (v = [] ∨ v.head? = (u.drop m).head?) → scanU (u.take m ++ v) p0 = addT ts (scanU v p) := by
  intro N
  induction N with
  | zero =>
    intro u p0 e p hN h
    have hu := List.length_eq_zero_iff.1 (show u.length = 0 by omega)
    subst hu
    rw [scanU_nil] at h
    cases h
  | succ N ih =>
    intro u p0 e p hN h
    by_cases hu : u = []
    · rw [hu, scanU_nil] at h; cases h
    match ht : tokS u with
    | .inl e' =>
      rw [scanU_err u p0 e' hu ht] at h
      obtain ⟨rfl, rfl⟩ := Prod.mk.inj (Sum.inl.inj h)
      refine ⟨0, rfl, List.length_pos_iff.2 hu, ht, [], fun v _ => ?_⟩
      rw [addT_nil]; rfl
    | .inr (t, n) =>
      have hl := tok_len _ _ _ ht
      rw [scanU_tok u p0 t n ht] at h
      match hs : scanU (u.drop n) (p0 + n) with
      | .inr l => rw [hs] at h; cases h
      | .inl x =>
        rw [hs] at h
        obtain rfl := Sum.inl.inj h
        obtain ⟨m, h1, h2, h3, ts, h4⟩ := ih (u.drop n) (p0 + n) e p (by rw [List.length_drop]; omega) hs
        rw [List.length_drop] at h2
        rw [List.drop_drop] at h3 h4
        refine ⟨n + m, by omega, by omega, h3, (if t.f0 = 0 then [] else [atS t p0]) ++ ts, fun v hv => ?_⟩
        have hv' := h4 v hv
        have hstop : ((u.drop n).take m ++ v) = [] ∨ ((u.drop n).take m ++ v).head? = (u.drop n).head? := by
          by_cases hm : m = 0
          · subst hm
            rw [List.take_zero, List.nil_append]
            simpa using hv
          · right
            obtain ⟨c, w, hw⟩ : ∃ c w, u.drop n = c :: w := by
              cases hd : u.drop n with
              | nil => have := congrArg List.length hd; rw [List.length_drop, List.length_nil] at this; omega
              | cons c w => exact ⟨c, w, rfl⟩
            obtain ⟨m, rfl⟩ : ∃ q, m = q + 1 := ⟨m - 1, by omega⟩
            rw [hw]; rfl
        obtain ⟨_, _, h5⟩ := tok_stable u ((u.drop n).take m ++ v) t n ht (fun h6 => stops_head _ _ _ (tok_stops u t n ht h6) hstop)
        have he : u.take (n + m) ++ v = u.take n ++ ((u.drop n).take m ++ v) := by
          rw [List.take_add, List.append_assoc]
        rw [he, scanU_tok _ p0 t n h5, List.drop_left' (by rw [List.length_take]; omega), hv', addT_add]

theorem scanA_short (s : ByteArray) (h : s.size ≤ 8000) : scanA s = scanR [] (scanU (bl s) 0) := by
  unfold scanA scanU
  rw [if_neg (by omega), bl_length]

end Go.Proofs.YthllfnmebdjpfaaDoor.H

/- Plain law: Scan as a function of the bytes alone; what stands ahead of a place, and behind it. -/
import Derived.Test.YthllfnmebdjpfaaDoorK3Pure5
namespace Go.Proofs.YthllfnmebdjpfaaDoor.H
open Go.RowKit Go.Proofs.YthllfnmebdjpfaaDoor.Hand Go.Proofs.YthllfnmebdjpfaaDoorW.PrintWords Go.Proofs.YthllfnmebdjpfaaDoorW.PrintLast Go.Proofs.YthllfnmebdjpfaaDoorW.PrintMore

/-- A token with its place. -/
def atS (t : S37) (p : Nat) : S37 := ⟨t.f0, t.f1, t.f2, t.f3, (p : Int)⟩
def endS (p : Nat) : S37 := ⟨8, ⟨#[]⟩, 0, ⟨0, 0⟩, (p : Int)⟩
/-- The tokens of a source, its front at a place; or what is wrong, and where. -/
def scanS : Nat → List UInt8 → Nat → (Int × Nat) ⊕ List S37
  | 0, _, p => .inl (0, p)
  | _ + 1, [], p => .inr [endS p]
  | d + 1, b :: r, p =>
    match tokS (b :: r) with
    | .inl e => .inl (e, p)
    | .inr (t, n) =>
      match scanS d ((b :: r).drop n) (p + n) with
      | .inl x => .inl x
      | .inr ts => .inr (if t.f0 = 0 then ts else atS t p :: ts)
/-- What Scan answers. -/
def scanR (acc : List S37) : (Int × Nat) ⊕ List S37 → List S37 × Int × Int
  | .inl (e, p) => ([], e, (p : Int))
  | .inr ts => (acc ++ ts, 0, 0)

theorem scan_l0 (s : ByteArray) (hz : s.size ≤ 8000) : ∀ (d i k : Nat) (acc : List S37), s.size - i < d → i ≤ s.size → 9000 + d ≤ k → acc.length ≤ i →
    lex_Scan.l0 k s acc (i : Int) = some (scanR acc (scanS d ((bl s).drop i) i)) := by
  have hl := bl_length s
  intro d
  induction d with
  | zero => intro i k acc h; omega
  | succ d ih =>
    intro i k acc hd hi hk ha
    obtain ⟨k, rfl⟩ : ∃ m, k = m + 1 := ⟨k - 1, by omega⟩
    simp only [lex_Scan.l0]
    by_cases he : i = s.size
    · rw [if_neg (by omega), if_pos (by omega), List.drop_of_length_le (by omega), he]
      rfl
    · have hlt : i < (bl s).length := by omega
      have hx : s.extract i s.size = toS ((bl s).drop i) := drop_extract s i
      have hsz : (toS ((bl s).drop i)).size = s.size - i := by rw [toS_size, List.length_drop, hl]
      have ht := token_ev (toS ((bl s).drop i)) (by omega) (by omega) k (by omega)
      rw [bl_toS] at ht
      rw [if_pos (by omega), if_pos (by omega), if_pos (by omega), Int.toNat_natCast, hx]
      rw [drop_at _ i hlt] at ht ⊢
      rw [scanS]
      match htk : tokS ((bl s)[i] :: (bl s).drop (i + 1)) with
      | .inl e =>
        rw [htk] at ht
        obtain ⟨h0, v, hv, hve⟩ := ht
        rw [hv]
        simp only [Option.bind_some]
        rw [if_neg (by rw [hve]; exact h0), hve]
        rfl
      | .inr (t, n) =>
        rw [htk] at ht
        obtain ⟨h0, hn, z, hv⟩ := ht
        rw [← drop_at _ i hlt] at hv hn ⊢
        rw [hsz] at hn
        rw [hv]
        simp only [Option.bind_some]
        rw [if_pos trivial, show wrap64 ((i : Int) + (n : Int)) = ((i + n : Nat) : Int) by unfold wrap64; omega, List.drop_drop]
        by_cases hk0 : t.f0 = 0
        · rw [if_pos hk0, ih (i + n) k acc (by omega) (by omega) (by omega) (by omega)]
          simp only [if_pos hk0]
          cases scanS d ((bl s).drop (i + n)) (i + n) <;> rfl
        · have hl2 : (acc ++ [atS t i]).length = acc.length + 1 := by simp
          rw [if_neg hk0, if_pos (by omega)]
          show lex_Scan.l0 k s (acc ++ [atS t i]) _ = _
          rw [ih (i + n) k (acc ++ [atS t i]) (by omega) (by omega) (by omega) (by omega)]
          simp only [if_neg hk0]
          cases scanS d ((bl s).drop (i + n)) (i + n) with
          | inl x => rfl
          | inr ts => simp [scanR, List.append_assoc]

/-- Scan, of any text. -/
def scanA (s : ByteArray) : List S37 × Int × Int := if s.size > 8000 then ([], 84, 8000) else scanR [] (scanS (s.size + 1) (bl s) 0)
theorem scan_ev (s : ByteArray) (k : Nat) (hk : 18000 ≤ k) : lex_Scan.f k s = some (scanA s) := by
  unfold lex_Scan.f scanA
  by_cases h : s.size > 8000
  · rw [if_pos (by omega), if_pos h]
  · rw [if_neg (by omega), if_neg h]
    exact scan_l0 s (by omega) (s.size + 1) 0 k [] (by omega) (by omega) (by omega) (by simp)

/-- Does what begins with a byte end ahead of the next one? -/
def stops (i : Int) : List UInt8 → Bool
  | [] => true
  | b :: _ => !gB i b
theorem runS_app (i : Int) (b : UInt8) (r v : List UInt8) (h : stops i v = true) (ha : ∀ x ∈ r, gB i x = true) : runS i (b :: (r ++ v)) = (b :: r).length := by
  show 1 + _ = r.length + 1
  rw [List.takeWhile_append_of_pos ha]
  cases v with
  | nil => simp; omega
  | cons c v =>
    have : gB i c = false := by simpa [stops] using h
    rw [List.takeWhile_cons_of_neg (by rw [this]; decide)]
    simp; omega
theorem runS_mem (i : Int) (b : UInt8) (r : List UInt8) : ∀ x ∈ r.take (runS i (b :: r) - 1), gB i x = true := by
  have e : runS i (b :: r) - 1 = (r.takeWhile (gB i)).length := by show 1 + _ - 1 = _; omega
  rw [e]
  intro x hx
  have : r.take (r.takeWhile (gB i)).length = r.takeWhile (gB i) := ((List.prefix_iff_eq_take).1 (List.takeWhile_prefix (gB i))).symm
  rw [this] at hx
  exact List.all_eq_true.1 List.all_takeWhile x hx
/-- What begins where it does stops. -/
theorem runS_stops (i : Int) (b : UInt8) (r : List UInt8) : stops i ((b :: r).drop (runS i (b :: r))) = true := by
  have e : runS i (b :: r) = (r.takeWhile (gB i)).length + 1 := by show 1 + _ = _; omega
  rw [e, List.drop_succ_cons]
  clear e
  induction r with
  | nil => rfl
  | cons c t ih =>
    by_cases hc : gB i c = true
    · rw [List.takeWhile_cons_of_pos hc, List.length_cons, List.drop_succ_cons]; exact ih
    · rw [List.takeWhile_cons_of_neg hc]
      show (!gB i c) = true
      simpa using hc

theorem fin_len (i : Int) (x : ByteArray) (t : S37) (n : Nat) (h : finS i x = .inr (t, n)) : n = x.size := by
  unfold finS at h
  repeat' (first | (cases h; done) | (obtain ⟨_, rfl⟩ := Prod.mk.inj (Sum.inr.inj h); rfl) | (split at h))
/-- The state that a front begins. -/
def inS (u : List UInt8) : Int := match u with | [] => 0 | b :: _ => beginsS (b.toNat : Int)

theorem tok_stops (u : List UInt8) (t : S37) (n : Nat) (h : tokS u = .inr (t, n)) (h6 : inS u ≠ 6) : stops (inS u) (u.drop n) = true := by
  match u with
  | [] => cases h
  | b :: r =>
    have hin : inS (b :: r) = beginsS (b.toNat : Int) := rfl
    rw [hin] at h6 ⊢
    simp only [tokS] at h
    rw [if_neg h6] at h
    by_cases h0 : beginsS (b.toNat : Int) = 0
    · rw [if_pos h0] at h; cases h
    rw [if_neg h0] at h
    have hn := fin_len _ _ _ _ h
    rw [toS_size, List.length_take, Nat.min_eq_left (runS_le _ _)] at hn
    rw [hn]
    exact runS_stops _ b r

/-- What a token is hangs on its own bytes, and on that it stops. -/
theorem tok_stable (u v : List UInt8) (t : S37) (n : Nat) (h : tokS u = .inr (t, n)) (hs : inS u ≠ 6 → stops (inS u) v = true) : 0 < n ∧ n ≤ u.length ∧ tokS (u.take n ++ v) = .inr (t, n) := by
  match u with
  | [] => cases h
  | b :: r =>
    have hin : inS (b :: r) = beginsS (b.toNat : Int) := rfl
    rw [hin] at hs
    simp only [tokS] at h
    by_cases h6 : beginsS (b.toNat : Int) = 6
    · rw [if_pos h6] at h
      match hq : qdS r with
      | none => rw [hq] at h; cases h
      | some (o, m) =>
        rw [hq] at h
        dsimp only at h
        by_cases hh : o.length ≤ 200
        · rw [if_pos hh] at h
          obtain ⟨rfl, rfl⟩ := Prod.mk.inj (Sum.inr.inj h)
          obtain ⟨h1, h2, h3⟩ := qdS_pre r.length r o m (Nat.le_refl _) hq
          refine ⟨by omega, by simp; omega, ?_⟩
          rw [List.take_succ_cons, List.cons_append]
          simp only [tokS]
          rw [if_pos h6, h3 v]
          dsimp only
          rw [if_pos hh]
        · rw [if_neg hh] at h; cases h
    rw [if_neg h6] at h
    by_cases h0 : beginsS (b.toNat : Int) = 0
    · rw [if_pos h0] at h; cases h
    rw [if_neg h0] at h
    have hle := runS_le (beginsS (b.toNat : Int)) (b :: r)
    have hpos := runS_pos (beginsS (b.toNat : Int)) b r
    have hn := fin_len _ _ _ _ h
    rw [toS_size, List.length_take, Nat.min_eq_left hle] at hn
    refine ⟨by omega, by omega, ?_⟩
    obtain ⟨m, hm⟩ : ∃ m, n = m + 1 := ⟨n - 1, by omega⟩
    have hmem := runS_mem (beginsS (b.toNat : Int)) b r
    rw [← hn, hm, Nat.add_sub_cancel] at hmem
    have hrun : runS (beginsS (b.toNat : Int)) (b :: (r.take m ++ v)) = n := by
      rw [runS_app _ b (r.take m) v (hs h6) hmem]
      rw [List.length_cons, List.length_take, hm]
      rw [List.length_cons] at hle
      omega
    rw [hm, List.take_succ_cons, List.cons_append]
    simp only [tokS]
    rw [if_neg h6, if_neg h0, hrun]
    rw [← hn, hm, List.take_succ_cons] at h
    rw [hm, List.take_succ_cons, List.take_append_of_le_length (by rw [List.length_take]; rw [List.length_cons] at hle; omega), List.take_take, Nat.min_self]
    exact h
end Go.Proofs.YthllfnmebdjpfaaDoor.H

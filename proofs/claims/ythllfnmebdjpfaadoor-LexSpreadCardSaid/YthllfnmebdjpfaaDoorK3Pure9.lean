/- Plain law: blanks put between the tokens of a source change none of them. -/
import Derived.Test.YthllfnmebdjpfaaDoorK3Pure7
namespace Go.Proofs.YthllfnmebdjpfaaDoor.H
open Go.RowKit Go.Proofs.YthllfnmebdjpfaaDoor.Hand Go.Proofs.YthllfnmebdjpfaaDoorW.PrintWords Go.Proofs.YthllfnmebdjpfaaDoorW.PrintLast Go.Proofs.YthllfnmebdjpfaaDoorW.PrintMore

/-- A token without its place. -/
def bareS (t : S37) : S37 := ⟨t.f0, t.f1, t.f2, t.f3, 0⟩
def sepS (i : Nat) : List UInt8 := if i % 2 = 0 then [10] else [10, 32]
theorem sep_blank (i : Nat) : sepS i ≠ [] ∧ (∀ x ∈ sepS i, beginsS (x.toNat : Int) = 1) ∧ (sepS i).head? = some 10 := by
  unfold sepS
  split
  · exact ⟨by decide, by decide, rfl⟩
  · exact ⟨by decide, by decide, rfl⟩
/-- The source's pieces, from token to token, with blanks behind each. -/
def outB (s : List UInt8) : Nat → List S37 → List UInt8
  | i, a :: b :: r => (s.take b.f4.toNat).drop a.f4.toNat ++ (sepS i ++ outB s (i + 1) (b :: r))
  | _, _ => []

theorem num_kind (x : ByteArray) (h : (numS x).2.2.2.2.2.2 = true) : (numS x).1 = 4 ∨ (numS x).1 = 5 := by
  unfold numS at h ⊢
  match hn : lex_numbered.f x with
  | none => rw [hn] at h; cases h
  | some v =>
    rw [hn] at h
    show v.1 = 4 ∨ v.1 = 5
    unfold lex_numbered.f at hn
    obtain ⟨c, _, hn⟩ := Option.bind_eq_some_iff.1 hn
    split at hn
    · obtain ⟨p, _, hn⟩ := Option.bind_eq_some_iff.1 hn
      obtain rfl := Option.some.inj hn
      exact .inr rfl
    · split at hn
      · have hn := Option.some.inj hn
        split at hn <;> (subst hn; first | exact .inl rfl | exact .inr rfl)
      · cases hn
theorem begins_range (c : Int) : beginsS c = 0 ∨ beginsS c = 1 ∨ beginsS c = 2 ∨ beginsS c = 3 ∨ beginsS c = 4 ∨ beginsS c = 5 ∨ beginsS c = 6 ∨ beginsS c = 7 := by
  unfold beginsS
  repeat' (first | omega | split)
/-- What yields no token is a blank or a remark; what yields one is neither. -/
theorem tok_skip (u : List UInt8) (t : S37) (n : Nat) (h : tokS u = .inr (t, n)) : (t.f0 = 0 → inS u = 1 ∨ inS u = 2) ∧ (t.f0 ≠ 0 → inS u ≠ 1 ∧ inS u ≠ 2) := by
  match u with
  | [] => cases h
  | b :: r =>
    have hin : inS (b :: r) = beginsS (b.toNat : Int) := rfl
    have hr := begins_range (b.toNat : Int)
    rw [hin]
    simp only [tokS] at h
    by_cases h6 : beginsS (b.toNat : Int) = 6
    · rw [if_pos h6] at h
      refine ⟨fun h0 => ?_, fun _ => by omega⟩
      exfalso
      split at h
      · split at h
        · obtain ⟨rfl, _⟩ := Prod.mk.inj (Sum.inr.inj h)
          cases h0
        · cases h
      · cases h
    rw [if_neg h6] at h
    by_cases h0 : beginsS (b.toNat : Int) = 0
    · rw [if_pos h0] at h; cases h
    rw [if_neg h0] at h
    unfold finS at h
    by_cases h3 : beginsS (b.toNat : Int) = 3
    · refine ⟨fun hz => ?_, fun _ => by omega⟩
      exfalso
      rw [if_pos h3] at h
      split at h
      · obtain ⟨rfl, _⟩ := Prod.mk.inj (Sum.inr.inj h); cases hz
      · split at h
        · cases h
        · obtain ⟨rfl, _⟩ := Prod.mk.inj (Sum.inr.inj h); cases hz
    rw [if_neg h3] at h
    by_cases h4 : beginsS (b.toNat : Int) = 4
    · refine ⟨fun hz => ?_, fun _ => by omega⟩
      exfalso
      rw [if_pos h4] at h
      split at h
      · cases h
      · obtain ⟨rfl, _⟩ := Prod.mk.inj (Sum.inr.inj h); cases hz
    rw [if_neg h4] at h
    by_cases h5 : beginsS (b.toNat : Int) = 5
    · refine ⟨fun hz => ?_, fun _ => by omega⟩
      exfalso
      rw [if_pos h5] at h
      split at h
      · rename_i hn
        obtain ⟨rfl, _⟩ := Prod.mk.inj (Sum.inr.inj h); have := num_kind _ hn; simp only at hz; omega
      · cases h
    rw [if_neg h5] at h
    by_cases h7 : beginsS (b.toNat : Int) = 7
    · refine ⟨fun hz => ?_, fun _ => by omega⟩
      exfalso
      rw [if_pos h7] at h
      obtain ⟨rfl, _⟩ := Prod.mk.inj (Sum.inr.inj h); cases hz
    rw [if_neg h7] at h
    obtain ⟨rfl, _⟩ := Prod.mk.inj (Sum.inr.inj h)
    exact ⟨fun _ => by omega, fun hz => absurd rfl hz⟩

theorem scan_head : ∀ (N : Nat) (u : List UInt8) (p : Nat) (l : List S37), u.length ≤ N → scanU u p = .inr l → ∃ k t r, l = t :: r ∧ t.f4 = ((p + k : Nat) : Int) ∧ k ≤ u.length := by
  intro N
  induction N with
  | zero =>
    intro u p l hN h
    have hu := List.length_eq_zero_iff.1 (show u.length = 0 by omega)
    subst hu
    rw [scanU_nil] at h
    obtain rfl := Sum.inr.inj h
    exact ⟨0, endS p, [], rfl, rfl, by omega⟩
  | succ N ih =>
    intro u p l hN h
    by_cases hu : u = []
    · subst hu
      rw [scanU_nil] at h
      obtain rfl := Sum.inr.inj h
      exact ⟨0, endS p, [], rfl, rfl, by omega⟩
    match ht : tokS u with
    | .inl e => rw [scanU_err u p e hu ht] at h; cases h
    | .inr (t, n) =>
      have hl := tok_len _ _ _ ht
      rw [scanU_tok u p t n ht] at h
      match hs : scanU (u.drop n) (p + n) with
      | .inl x => rw [hs] at h; cases h
      | .inr l2 =>
        rw [hs] at h
        obtain rfl := Sum.inr.inj h
        by_cases h0 : t.f0 = 0
        · rw [if_pos h0]
          obtain ⟨k, t', r, rfl, hk, hkl⟩ := ih (u.drop n) (p + n) l2 (by rw [List.length_drop]; omega) hs
          rw [List.length_drop] at hkl
          exact ⟨n + k, t', r, rfl, by rw [hk]; omega, by omega⟩
        · rw [if_neg h0]
          exact ⟨0, atS t p, l2, rfl, rfl, by omega⟩

theorem gB1 (b : UInt8) : gB 1 b = (beginsS (b.toNat : Int) == 1) := by unfold gB goesS; rw [if_pos rfl]
theorem tok_blank (b : UInt8) (r v : List UInt8) (hb : beginsS (b.toNat : Int) = 1) (hr : ∀ x ∈ r, gB 1 x = true) (hv : stops 1 v = true) :
    tokS (b :: (r ++ v)) = .inr (⟨0, toS (b :: r), 0, ⟨0, 0⟩, 0⟩, r.length + 1) := by
  simp only [tokS]
  rw [hb, if_neg (by decide), if_neg (by decide), runS_app 1 b r v hv hr]
  rw [show (b :: (r ++ v)).take (b :: r).length = b :: r from List.take_left (l₁ := b :: r) (l₂ := v)]
  unfold finS
  rw [if_neg (by decide), if_neg (by decide), if_neg (by decide), if_neg (by decide)]
  rfl
theorem scan_blank (w v : List UInt8) (q : Nat) (hw : w ≠ []) (ha : ∀ x ∈ w, beginsS (x.toNat : Int) = 1) (hv : stops 1 v = true) : scanU (w ++ v) q = scanU v (q + w.length) := by
  match w with
  | [] => exact absurd rfl hw
  | b :: r =>
    have ht := tok_blank b r v (ha b (by simp)) (fun x hx => by rw [gB1, ha x (by simp [hx])]; rfl) hv
    rw [List.cons_append, scanU_tok _ q _ _ ht, if_pos rfl, addT_nil]
    rw [show (b :: (r ++ v)).drop (r.length + 1) = v from List.drop_left (l₁ := b :: r) (l₂ := v)]
    rfl
/-- The bytes of a run of blanks. -/
theorem blanks_front (u : List UInt8) (t : S37) (n : Nat) (h : tokS u = .inr (t, n)) (h1 : inS u = 1) : ∀ x ∈ u.take n, beginsS (x.toNat : Int) = 1 := by
  match u with
  | [] => cases h
  | b :: r =>
    have hin : beginsS (b.toNat : Int) = 1 := h1
    simp only [tokS] at h
    rw [hin, if_neg (by decide), if_neg (by decide)] at h
    have hn := fin_len _ _ _ _ h
    rw [toS_size, List.length_take, Nat.min_eq_left (runS_le _ _)] at hn
    rw [hn, run_front]
    intro x hx
    rcases List.mem_cons.1 hx with rfl | hx
    · exact hin
    · have := List.all_eq_true.1 List.all_takeWhile x hx
      rw [gB1] at this
      exact beq_iff_eq.1 this

/-- Blanks and remarks ahead of a token, with blanks put behind them. -/
theorem skip_sep : ∀ (N : Nat) (u : List UInt8) (p : Nat) (l : List S37) (k0 : Nat), u.length ≤ N → scanU u p = .inr l → (∃ t r, l = t :: r ∧ t.f4 = ((p + k0 : Nat) : Int)) →
    ∀ sep rest : List UInt8, sep ≠ [] → (∀ x ∈ sep, beginsS (x.toNat : Int) = 1) → sep.head? = some 10 → stops 1 rest = true → ∀ q, scanU (u.take k0 ++ (sep ++ rest)) q = scanU rest (q + k0 + sep.length) := by
  intro N
  induction N with
  | zero =>
    intro u p l k0 hN h hl sep rest h1 h2 h3 h4 q
    have hu := List.length_eq_zero_iff.1 (show u.length = 0 by omega)
    subst hu
    rw [scanU_nil] at h
    obtain rfl := Sum.inr.inj h
    obtain ⟨t, r, hl, hp⟩ := hl
    obtain ⟨rfl, rfl⟩ := List.cons.inj hl
    have hp : (p : Int) = ((p + k0 : Nat) : Int) := hp
    obtain rfl : k0 = 0 := by omega
    exact scan_blank sep rest q h1 h2 h4
  | succ N ih =>
    intro u p l k0 hN h hl sep rest h1 h2 h3 h4 q
    by_cases hu : u = []
    · subst hu
      rw [scanU_nil] at h
      obtain rfl := Sum.inr.inj h
      obtain ⟨t, r, hl, hp⟩ := hl
      obtain ⟨rfl, rfl⟩ := List.cons.inj hl
      have hp : (p : Int) = ((p + k0 : Nat) : Int) := hp
      obtain rfl : k0 = 0 := by omega
      exact scan_blank sep rest q h1 h2 h4
    match ht : tokS u with
    | .inl e => rw [scanU_err u p e hu ht] at h; cases h
    | .inr (t, n) =>
      have htl := tok_len _ _ _ ht
      rw [scanU_tok u p t n ht] at h
      match hs : scanU (u.drop n) (p + n) with
      | .inl x => rw [hs] at h; cases h
      | .inr l2 =>
        rw [hs] at h
        obtain rfl := Sum.inr.inj h
        obtain ⟨t', r', hl, hp⟩ := hl
        by_cases h0 : t.f0 = 0
        · rw [if_pos h0, List.nil_append] at hl
          obtain ⟨k, t2, r2, hl2, hk, hkl⟩ := scan_head _ (u.drop n) (p + n) l2 (Nat.le_refl _) hs
          obtain ⟨rfl, rfl⟩ := List.cons.inj (hl.symm.trans hl2)
          obtain rfl : k0 = n + k := by omega
          rw [List.take_add, List.append_assoc]
          by_cases hb : inS u = 1 ∧ k = 0
          · obtain ⟨hb1, rfl⟩ := hb
            rw [List.take_zero, List.nil_append, ← List.append_assoc]
            rw [scan_blank (u.take n ++ sep) rest q (by simp [h1]) (fun x hx => by
              rcases List.mem_append.1 hx with hx | hx
              · exact blanks_front u t n ht hb1 x hx
              · exact h2 x hx) h4]
            rw [List.length_append, List.length_take, Nat.min_eq_left htl.2]
            congr 1
            omega
          · have hst : stops (inS u) ((u.drop n).take k ++ (sep ++ rest)) = true := by
              by_cases hk0 : k = 0
              · subst hk0
                have h2' : inS u = 2 := by
                  rcases (tok_skip u t n ht).1 h0 with h | h
                  · exact absurd ⟨h, rfl⟩ hb
                  · exact h
                rw [h2', List.take_zero, List.nil_append]
                match sep, h3 with
                | c :: sep, h3 =>
                  obtain rfl := Option.some.inj h3
                  show (!gB 2 10) = true
                  decide
              · refine stops_head (inS u) (u.drop n) _ (tok_stops u t n ht ?_) (.inr ?_)
                · rcases (tok_skip u t n ht).1 h0 with h | h <;> omega
                · obtain ⟨k, rfl⟩ : ∃ m, k = m + 1 := ⟨k - 1, by omega⟩
                  cases hd : u.drop n with
                  | nil => rw [hd] at hkl; simp at hkl
                  | cons c w => rfl
            obtain ⟨_, _, hst2⟩ := tok_stable u ((u.drop n).take k ++ (sep ++ rest)) t n ht (fun _ => hst)
            rw [scanU_tok _ q t n hst2, if_pos h0, addT_nil, List.drop_left' (by rw [List.length_take]; omega)]
            rw [ih (u.drop n) (p + n) _ k (by rw [List.length_drop]; omega) hs ⟨_, _, hl2, hk⟩ sep rest h1 h2 h3 h4 (q + n)]
            congr 1
            omega
        · rw [if_neg h0] at hl
          obtain ⟨rfl, _⟩ := List.cons.inj hl
          have hp : (p : Int) = ((p + k0 : Nat) : Int) := hp
          obtain rfl : k0 = 0 := by omega
          exact scan_blank sep rest q h1 h2 h4

/-- The tokens of a source with blanks put between them are the same ones. -/
theorem spread : ∀ (N : Nat) (s : List UInt8) (p0 : Nat) (l : List S37) (i : Nat), s.length - p0 ≤ N → p0 ≤ s.length → scanU (s.drop p0) p0 = .inr l →
    stops 1 (outB s i l) = true ∧ ∀ q, ∃ l', scanU (outB s i l) q = .inr l' ∧ l.map bareS = l'.map bareS := by
  intro N
  induction N with
  | zero =>
    intro s p0 l i hN hp h
    rw [List.drop_of_length_le (by omega), scanU_nil] at h
    obtain rfl := Sum.inr.inj h
    exact ⟨rfl, fun q => ⟨[endS q], rfl, rfl⟩⟩
  | succ N ih =>
    intro s p0 l i hN hp h
    by_cases hu : s.drop p0 = []
    · rw [hu, scanU_nil] at h
      obtain rfl := Sum.inr.inj h
      exact ⟨rfl, fun q => ⟨[endS q], rfl, rfl⟩⟩
    match ht : tokS (s.drop p0) with
    | .inl e => rw [scanU_err _ p0 e hu ht] at h; cases h
    | .inr (t, n) =>
      have htl := tok_len _ _ _ ht
      rw [List.length_drop] at htl
      rw [scanU_tok _ p0 t n ht, List.drop_drop] at h
      match hs : scanU (s.drop (p0 + n)) (p0 + n) with
      | .inl x => rw [hs] at h; cases h
      | .inr l2 =>
        rw [hs] at h
        obtain rfl := Sum.inr.inj h
        by_cases h0 : t.f0 = 0
        · rw [if_pos h0, List.nil_append]
          exact ih s (p0 + n) l2 i (by omega) (by omega) hs
        · rw [if_neg h0]
          obtain ⟨k, h', r, rfl, hk, hkl⟩ := scan_head _ (s.drop (p0 + n)) (p0 + n) l2 (Nat.le_refl _) hs
          rw [List.length_drop] at hkl
          obtain ⟨hst, hall⟩ := ih s (p0 + n) (h' :: r) (i + 1) (by omega) (by omega) hs
          have hin := (tok_skip _ t n ht).2 h0
          have ho : outB s i ([atS t p0] ++ h' :: r) = (s.drop p0).take n ++ ((s.drop (p0 + n)).take k ++ (sepS i ++ outB s (i + 1) (h' :: r))) := by
            show (s.take h'.f4.toNat).drop ((p0 : Nat) : Int).toNat ++ (sepS i ++ outB s (i + 1) (h' :: r)) = _
            rw [hk, Int.toNat_natCast, Int.toNat_natCast, List.drop_take, show p0 + n + k - p0 = n + k by omega, List.take_add, List.append_assoc, List.drop_drop]
          obtain ⟨sp1, sp2, sp3⟩ := sep_blank i
          rw [ho]
          have hW : inS (s.drop p0) ≠ 6 → stops (inS (s.drop p0)) ((s.drop (p0 + n)).take k ++ (sepS i ++ outB s (i + 1) (h' :: r))) = true := by
            intro h6
            by_cases hk0 : k = 0
            · subst hk0
              rw [List.take_zero, List.nil_append]
              match hsep : sepS i, sp3 with
              | c :: sep, sp3 =>
                obtain rfl := Option.some.inj sp3
                show (!gB (inS (s.drop p0)) 10) = true
                have hr : inS (s.drop p0) = 0 ∨ inS (s.drop p0) = 3 ∨ inS (s.drop p0) = 4 ∨ inS (s.drop p0) = 5 ∨ inS (s.drop p0) = 7 := by
                  cases hd : s.drop p0 with
                  | nil => exact .inl rfl
                  | cons b r =>
                    rw [hd] at hin h6
                    have := begins_range (b.toNat : Int)
                    have e : inS (b :: r) = beginsS (b.toNat : Int) := rfl
                    rw [e] at hin h6 ⊢
                    omega
                rcases hr with e | e | e | e | e <;> (rw [e]; decide)
            · have hts := tok_stops _ t n ht h6
              rw [List.drop_drop] at hts
              refine stops_head _ (s.drop (p0 + n)) _ hts (.inr ?_)
              obtain ⟨k, rfl⟩ : ∃ m, k = m + 1 := ⟨k - 1, by omega⟩
              cases hd : s.drop (p0 + n) with
              | nil =>
                have := congrArg List.length hd
                rw [List.length_drop, List.length_nil] at this
                omega
              | cons c w => rfl
          obtain ⟨_, _, hst2⟩ := tok_stable _ _ t n ht hW
          constructor
          · cases hd : s.drop p0 with
            | nil => exact absurd hd hu
            | cons b r2 =>
              obtain ⟨m, rfl⟩ : ∃ m, n = m + 1 := ⟨n - 1, by omega⟩
              rw [hd] at hin
              show (!gB 1 b) = true
              rw [gB1]
              have e : inS (b :: r2) = beginsS (b.toNat : Int) := rfl
              rw [e] at hin
              simpa using hin.1
          · intro q
            obtain ⟨l', hl', hm⟩ := hall (q + n + k + (sepS i).length)
            refine ⟨atS t q :: l', ?_, ?_⟩
            · rw [scanU_tok _ q t n hst2, if_neg h0, List.drop_left' (by rw [List.length_take, List.length_drop]; omega)]
              rw [skip_sep _ (s.drop (p0 + n)) (p0 + n) (h' :: r) k (Nat.le_refl _) hs ⟨h', r, rfl, hk⟩ (sepS i) _ sp1 sp2 sp3 hst (q + n), hl']
              rfl
            · show bareS (atS t p0) :: (h' :: r).map bareS = bareS (atS t q) :: l'.map bareS
              rw [hm]
              rfl
end Go.Proofs.YthllfnmebdjpfaaDoor.H

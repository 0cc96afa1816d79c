/- Plain law: LexSpread. -/
import Derived.Test.YthllfnmebdjpfaaDoorK3Pure8
import Derived.Test.YthllfnmebdjpfaaDoorK3Pure9
import Derived.Test.YthllfnmebdjpfaaDoorK3Hx11
namespace Go.Proofs.YthllfnmebdjpfaaDoor.H
open Go.RowKit Go.Proofs.YthllfnmebdjpfaaDoor.Hand Go.Proofs.YthllfnmebdjpfaaDoorW.PrintWords Go.Proofs.YthllfnmebdjpfaaDoorW.PrintLast Go.Proofs.YthllfnmebdjpfaaDoorW.PrintMore

def Asc (B : Int) : Int → List S37 → Prop
  | _, [] => True
  | p, t :: r => p ≤ t.f4 ∧ t.f4 ≤ B ∧ Asc B t.f4 r
theorem asc_lower {B p q : Int} (h : q ≤ p) : ∀ {l : List S37}, Asc B p l → Asc B q l
  | [], _ => trivial
  | _ :: _, ⟨a, b, c⟩ => ⟨by omega, b, c⟩
theorem scan_asc : ∀ (N : Nat) (u : List UInt8) (p : Nat) (l : List S37), u.length ≤ N → scanU u p = .inr l → Asc ((p + u.length : Nat) : Int) (p : Int) l ∧ l.length ≤ u.length + 1 := by
  intro N
  induction N with
  | zero =>
    intro u p l hN h
    have hu := List.length_eq_zero_iff.1 (show u.length = 0 by omega)
    subst hu
    rw [scanU_nil] at h
    obtain rfl := Sum.inr.inj h
    exact ⟨⟨Int.le_refl _, by show (p : Int) ≤ _; simp, trivial⟩, by simp⟩
  | succ N ih =>
    intro u p l hN h
    by_cases hu : u = []
    · subst hu
      rw [scanU_nil] at h
      obtain rfl := Sum.inr.inj h
      exact ⟨⟨Int.le_refl _, by show (p : Int) ≤ _; simp, trivial⟩, by simp⟩
    match ht : tokS u with
    | .inl e => rw [scanU_err u p e hu ht] at h; cases h
    | .inr (t, n) =>
      have hl := tok_len _ _ _ ht
      rw [scanU_tok u p t n ht] at h
      match hs : scanU (u.drop n) (p + n) with
      | .inl x => rw [hs] at h; cases h
      | .inr l2 =>
        rw [hs] at h
        obtain rfl := Sum.inr.inj h
        obtain ⟨h1, h2⟩ := ih (u.drop n) (p + n) l2 (by rw [List.length_drop]; omega) hs
        rw [List.length_drop] at h1 h2
        rw [show p + n + (u.length - n) = p + u.length by omega] at h1
        by_cases h0 : t.f0 = 0
        · rw [if_pos h0, List.nil_append]
          exact ⟨asc_lower (by omega) h1, by omega⟩
        · rw [if_neg h0]
          refine ⟨⟨Int.le_refl _, by show (p : Int) ≤ _; omega, ?_⟩, by simp; omega⟩
          exact asc_lower (show ((p : Nat) : Int) ≤ _ by omega) h1
theorem asc_get {B : Int} : ∀ (l : List S37) (p : Int) (j : Nat), Asc B p l → j + 1 < l.length → p ≤ (l.getD j z37).f4 ∧ (l.getD j z37).f4 ≤ (l.getD (j + 1) z37).f4 ∧ (l.getD (j + 1) z37).f4 ≤ B
  | [], _, _, _, h => by simp at h
  | [_], _, _, _, h => by simp at h
  | a :: b :: r, p, 0, ⟨h1, _, h3, h4, _⟩, _ => ⟨h1, h3, h4⟩
  | a :: b :: r, p, j + 1, ⟨h1, _, h3⟩, h => by
    have := asc_get (b :: r) a.f4 j h3 (by simpa using h)
    exact ⟨by have := this.1; show p ≤ ((b :: r).getD j z37).f4; omega, this.2⟩

theorem alike_l0 (l l' : List S37) (h : l.map bareS = l'.map bareS) (hn : l.length ≤ 100000) : ∀ (d i k : Nat), i + d = l.length → d + 1 ≤ k → lychgatelaw08_alike.l0 k l l' (i : Int) = some true := by
  have hlen : l.length = l'.length := by have := congrArg List.length h; simpa using this
  intro d
  induction d with
  | zero =>
    intro i k hi hk
    obtain ⟨k, rfl⟩ : ∃ m, k = m + 1 := ⟨k - 1, by omega⟩
    simp only [lychgatelaw08_alike.l0]
    rw [if_neg (by omega)]
  | succ d ih =>
    intro i k hi hk
    obtain ⟨k, rfl⟩ : ∃ m, k = m + 1 := ⟨k - 1, by omega⟩
    have hlt : i < l.length := by omega
    have hlt' : i < l'.length := by omega
    have e1 : rd_T37 l (i : Int) = l[i] := by unfold rd_T37; rw [Int.toNat_natCast, List.getD_eq_getElem?_getD, List.getElem?_eq_getElem hlt]; rfl
    have e2 : rd_T37 l' (i : Int) = l'[i] := by unfold rd_T37; rw [Int.toNat_natCast, List.getD_eq_getElem?_getD, List.getElem?_eq_getElem hlt']; rfl
    have hb : bareS l[i] = bareS l'[i] := by
      have := congrArg (fun x => x[i]?) h
      simpa [List.getElem?_map, List.getElem?_eq_getElem hlt, List.getElem?_eq_getElem hlt'] using this
    simp only [lychgatelaw08_alike.l0, lychgatelaw08_bare.f, Option.bind_some]
    rw [if_pos (by omega), if_pos (by omega), if_pos (by omega), e1, e2, wrap_nat i (by omega)]
    generalize l[i] = a at hb
    generalize l'[i] = b at hb
    obtain ⟨a0, a1, a2, ⟨a3, a4⟩, a5⟩ := a
    obtain ⟨b0, b1, b2, ⟨b3, b4⟩, b5⟩ := b
    simp only [bareS, S37.mk.injEq, S35.mk.injEq, and_true] at hb
    obtain ⟨rfl, rfl, rfl, rfl, rfl⟩ := hb
    rw [if_neg (by simp)]
    exact ih (i + 1) k (by omega) (by omega)
theorem alike_ev (l l' : List S37) (h : l.map bareS = l'.map bareS) (hn : l.length ≤ 100000) (k : Nat) (hk : l.length + 1 ≤ k) : lychgatelaw08_alike.f k l l' = some true := by
  have hlen : l.length = l'.length := by have := congrArg List.length h; simpa using this
  unfold lychgatelaw08_alike.f
  rw [if_pos (by omega)]
  exact alike_l0 l l' h hn l.length 0 k (by omega) hk

def escB (b : UInt8) : List UInt8 := if b.toNat = 34 ∨ b.toNat = 92 then [92, b] else [b]
theorem esc_nums (l : List UInt8) : l.flatMap qEsc = (l.flatMap escB).map fun b => (b.toNat : Int) := by
  induction l with
  | nil => rfl
  | cons b l ih =>
    rw [List.flatMap_cons, List.flatMap_cons, List.map_append, ih]
    congr 1
    unfold qEsc escB
    split <;> rfl
theorem esc_len (l : List UInt8) : (l.flatMap escB).length ≤ 2 * l.length := by
  induction l with
  | nil => simp
  | cons b l ih =>
    rw [List.flatMap_cons, List.length_append, List.length_cons]
    have : (escB b).length ≤ 2 := by unfold escB; split <;> simp
    omega
theorem qd_esc (l rest : List UInt8) (h : l.any qBad = false) : qdS (l.flatMap escB ++ 34 :: rest) = some (l, (l.flatMap escB).length + 1) := by
  induction l with
  | nil => exact qdS_end 34 rest rfl
  | cons b l ih =>
    rw [List.any_cons, Bool.or_eq_false_iff] at h
    obtain ⟨h1, h2⟩ := h
    have ih := ih h2
    rw [List.flatMap_cons, List.append_assoc]
    have hb : ¬ (b.toNat < 32 ∨ 126 < b.toNat) := by
      unfold qBad at h1
      simp at h1
      omega
    by_cases he : b.toNat = 34 ∨ b.toNat = 92
    · have e : escB b = [92, b] := by unfold escB; rw [if_pos he]
      rw [e]
      show qdS (92 :: b :: (l.flatMap escB ++ 34 :: rest)) = _
      rw [qdS_esc 92 b _ rfl, if_pos he, ih]
      simp <;> omega
    · have e : escB b = [b] := by unfold escB; rw [if_neg he]
      rw [e]
      show qdS (b :: (l.flatMap escB ++ 34 :: rest)) = _
      rw [qdS_char b _ (fun h => he (.inl h)) (fun h => he (.inr h)) hb, ih]
      simp <;> omega
theorem quote_scan (q : ByteArray) (h : (quoteS q).2 = 0) : scanA (quoteS q).1 = ([⟨6, q, 0, ⟨0, 0⟩, 0⟩, endS (quoteS q).1.size], 0, 0) := by
  unfold quoteS at h ⊢
  have hl := bl_length q
  by_cases hz : (q.size : Int) > 200
  · rw [if_pos hz] at h; cases h
  rw [if_neg hz] at h ⊢
  unfold qRes at h ⊢
  by_cases hb : (bl q).any qBad = true
  · rw [if_pos hb] at h; cases h
  rw [if_neg hb]
  have hb : (bl q).any qBad = false := by simpa using hb
  have ht : strOfNums ([34] ++ (bl q).flatMap qEsc ++ [34]) = toS (34 :: ((bl q).flatMap escB ++ [34])) := by
    rw [esc_nums, ← nums_toS]
    simp
  simp only
  rw [ht]
  have hle := esc_len (bl q)
  rw [scanA_short _ (by rw [toS_size, List.length_cons, List.length_append]; show _ + 1 + 1 ≤ _; omega), bl_toS]
  have htok : tokS (34 :: ((bl q).flatMap escB ++ [34])) = .inr (⟨6, q, 0, ⟨0, 0⟩, 0⟩, ((bl q).flatMap escB).length + 1 + 1) := by
    simp only [tokS]
    rw [if_pos (by decide), qd_esc (bl q) [] hb]
    simp only
    rw [if_pos (by omega)]
    rfl
  rw [scanU_tok _ 0 _ _ htok, if_neg (show ¬ (6 : Int) = 0 by decide), List.drop_of_length_le (by simp), scanU_nil]
  show ([atS _ 0] ++ [endS (0 + (((bl q).flatMap escB).length + 1 + 1))], (0 : Int), (0 : Int)) = _
  rw [toS_size]
  simp [atS, Nat.add_assoc]

theorem all_small (b : UInt8) (r : List UInt8) (hb : 97 ≤ (b.toNat : Int) ∧ (b.toNat : Int) ≤ 122) (hr : r.all (gB 3) = true) : tokS (b :: r) = finS 3 (toS (b :: r)) := by
  have h3 := (begins_small _).2 hb
  simp only [tokS]
  rw [h3, if_neg (by decide), if_neg (by decide), (runS_all 3 b r).2 hr, List.take_length]
theorem one_scan (x : ByteArray) (b : UInt8) (r : List UInt8) {t : S37} (hx : bl x = b :: r) (hz : x.size ≤ 8000) (hb : 97 ≤ (b.toNat : Int) ∧ (b.toNat : Int) ≤ 122) (hr : r.all (gB 3) = true)
    (ht : finS 3 x = .inr (t, x.size)) (h0 : t.f0 ≠ 0) : scanA x = ([atS t 0, endS x.size], 0, 0) := by
  have htok := all_small b r hb hr
  rw [← hx, toS_bl, ht] at htok
  rw [scanA_short _ hz, scanU_tok _ 0 t _ htok, if_neg h0, List.drop_of_length_le (by rw [bl_length]; omega), scanU_nil, Nat.zero_add]
  rfl
theorem words_small : ∀ w ∈ wordsL, (match bl w with | [] => false | b :: r => decide (97 ≤ (b.toNat : Int) ∧ (b.toNat : Int) ≤ 122) && (r.all (gB 3) && decide (w.size ≤ 32))) = true := by decide
theorem word_scan (x : ByteArray) (h : isWordS x = true) : scanA x = ([⟨1, x, 0, ⟨0, 0⟩, 0⟩, endS x.size], 0, 0) ∧ isNameS x = false := by
  have h' := h
  unfold isWordS isIn at h'
  obtain ⟨w, hw, he⟩ := List.any_eq_true.1 h'
  have he := of_decide_eq_true he
  rw [toList_bl, toList_bl] at he
  obtain rfl : w = x := by rw [← toS_bl w, ← toS_bl x, he]
  have hs := words_small w hw
  match hb : bl w with
  | [] => rw [hb] at hs; cases hs
  | b :: r =>
    rw [hb] at hs
    simp only [Bool.and_eq_true, decide_eq_true_eq] at hs
    obtain ⟨h1, h2, h3⟩ := hs
    refine ⟨one_scan w b r hb (by omega) h1 h2 (t := ⟨1, w, 0, ⟨0, 0⟩, 0⟩) ?_ (show (1 : Int) ≠ 0 by decide), ?_⟩
    · unfold finS
      rw [if_pos rfl, if_pos h]
    · unfold isNameS
      rw [hb]
      simp only
      rw [h]
      simp
theorem name_scan (x : ByteArray) (h : isNameS x = true) : scanA x = ([⟨2, x, 0, ⟨0, 0⟩, 0⟩, endS x.size], 0, 0) := by
  unfold isNameS at h
  match hb : bl x with
  | [] => rw [hb] at h; cases h
  | b :: r =>
    rw [hb] at h
    simp only [Bool.and_eq_true, decide_eq_true_eq, Bool.not_eq_true'] at h
    obtain ⟨h1, h2, h3, h4⟩ := h
    refine one_scan x b r hb (by omega) h1 h2 (t := ⟨2, x, 0, ⟨0, 0⟩, 0⟩) ?_ (show (2 : Int) ≠ 0 by decide)
    unfold finS
    rw [if_pos rfl, if_neg (by rw [h4]; decide), if_neg (by omega)]
/-- A token that is a word or a name. -/
theorem tok_kind (u : List UInt8) (t : S37) (n : Nat) (h : tokS u = .inr (t, n)) (hk : t.f0 = 1 ∨ t.f0 = 2) :
    inS u = 3 ∧ n = runS 3 u ∧ t.f1 = toS (u.take n) ∧ (t.f0 = 1 → isWordS t.f1 = true) ∧ (t.f0 = 2 → isWordS t.f1 = false ∧ t.f1.size ≤ 32) := by
  match u with
  | [] => cases h
  | b :: r =>
    have hin : inS (b :: r) = beginsS (b.toNat : Int) := rfl
    rw [hin]
    simp only [tokS] at h
    by_cases h6 : beginsS (b.toNat : Int) = 6
    · exfalso
      rw [if_pos h6] at h
      split at h
      · split at h
        · obtain ⟨rfl, _⟩ := Prod.mk.inj (Sum.inr.inj h)
          rcases hk with hk | hk <;> cases hk
        · cases h
      · cases h
    rw [if_neg h6] at h
    by_cases h0 : beginsS (b.toNat : Int) = 0
    · rw [if_pos h0] at h; cases h
    rw [if_neg h0] at h
    have hn := fin_len _ _ _ _ h
    rw [toS_size, List.length_take, Nat.min_eq_left (runS_le _ _)] at hn
    by_cases h3 : beginsS (b.toNat : Int) = 3
    · rw [h3] at h hn
      rw [← hn] at h
      refine ⟨h3, hn, ?_⟩
      unfold finS at h
      rw [if_pos rfl] at h
      split at h
      · rename_i hw
        obtain ⟨rfl, _⟩ := Prod.mk.inj (Sum.inr.inj h)
        exact ⟨rfl, fun _ => hw, fun h2 => by cases h2⟩
      · rename_i hw
        split at h
        · cases h
        · rename_i hz
          obtain ⟨rfl, _⟩ := Prod.mk.inj (Sum.inr.inj h)
          exact ⟨rfl, fun h1 => (by cases h1), fun _ => ⟨by simpa using hw, by show (toS _).size ≤ 32; omega⟩⟩
    · exfalso
      unfold finS at h
      rw [if_neg h3] at h
      split at h
      · split at h
        · cases h
        · obtain ⟨rfl, _⟩ := Prod.mk.inj (Sum.inr.inj h)
          rcases hk with hk | hk <;> cases hk
      split at h
      · split at h
        · rename_i hf
          obtain ⟨rfl, _⟩ := Prod.mk.inj (Sum.inr.inj h)
          have := num_kind _ hf
          simp only at hk
          omega
        · cases h
      split at h <;>
        (obtain ⟨rfl, _⟩ := Prod.mk.inj (Sum.inr.inj h)
         rcases hk with hk | hk <;> cases hk)
/-- One token that is all of a text. -/
theorem one_conv (x : ByteArray) (l : List S37) (h : scanU (bl x) 0 = .inr l) (hl : l.length = 2) (h1 : (rd_T37 l 0).f1.toList = x.toList) (h2 : (rd_T37 l 0).f4 = 0) :
    ((rd_T37 l 0).f0 = 1 → isWordS x = true) ∧ ((rd_T37 l 0).f0 = 2 → isNameS x = true) := by
  by_cases hu : bl x = []
  · rw [hu, scanU_nil] at h
    obtain rfl := Sum.inr.inj h
    simp at hl
  match ht : tokS (bl x) with
  | .inl e => rw [scanU_err _ 0 e hu ht] at h; cases h
  | .inr (t, n) =>
    have htl := tok_len _ _ _ ht
    rw [scanU_tok _ 0 t n ht] at h
    match hs : scanU ((bl x).drop n) (0 + n) with
    | .inl e => rw [hs] at h; cases h
    | .inr l2 =>
      rw [hs] at h
      obtain rfl := Sum.inr.inj h
      obtain ⟨k, t', r', rfl, hk, _⟩ := scan_head _ _ _ l2 (Nat.le_refl _) hs
      by_cases h0 : t.f0 = 0
      · exfalso
        rw [if_pos h0] at h2
        have h2 : t'.f4 = 0 := h2
        omega
      rw [if_neg h0] at h1 ⊢
      have h1 : t.f1.toList = x.toList := h1
      have hx : t.f1 = x := by rw [toList_bl, toList_bl] at h1; rw [← toS_bl t.f1, ← toS_bl x, h1]
      show (t.f0 = 1 → _) ∧ (t.f0 = 2 → _)
      constructor
      · intro hk1
        have := (tok_kind _ t n ht (.inl hk1)).2.2.2.1 hk1
        rw [hx] at this
        exact this
      · intro hk2
        obtain ⟨hi, hn, hf, _, hw⟩ := tok_kind _ t n ht (.inr hk2)
        obtain ⟨hw1, hw2⟩ := hw hk2
        rw [hx] at hw1 hw2 hf
        unfold isNameS
        match hb : bl x with
        | [] => exact absurd hb hu
        | b :: r =>
          rw [hb] at hi hn hf
          have hb3 : beginsS (b.toNat : Int) = 3 := hi
          have hlen : runS 3 (b :: r) = (b :: r).length := by
            have hf2 := congrArg (fun y => (bl y).length) hf
            simp only [bl_toS] at hf2
            rw [hb, List.length_take, hn] at hf2
            have := runS_le 3 (b :: r)
            omega
          simp only
          rw [decide_eq_true ((begins_small _).1 hb3), (runS_all 3 b r).1 hlen, decide_eq_true hw2, hw1]
          rfl

theorem spread_j2 (x : ByteArray) (hz : x.size ≤ 140737488351232) (k : Nat) (hk : 19000 ≤ k) : lychgatelaw08_LexSpread.j2 k x true false = some true := by
  obtain ⟨k, rfl⟩ : ∃ m, k = m + 1 := ⟨k - 1, by omega⟩
  simp only [lychgatelaw08_LexSpread.j2]
  rw [if_neg (by decide), lex_isword_eq x k (by omega), lex_isname_eq x hz k (by omega), scan_ev x k (by omega)]
  simp only [Option.bind_some]
  cases hW : isWordS x with
  | true =>
    obtain ⟨h1, h2⟩ := word_scan x hW
    rw [h1, h2]
    simp [rd_T37, endS]
  | false =>
    cases hN : isNameS x with
    | true =>
      rw [name_scan x hN]
      simp [rd_T37, endS]
    | false =>
      by_cases hz : x.size ≤ 8000
      · rw [scanA_short x hz]
        match hs : scanU (bl x) 0 with
        | .inl (e, p) => simp [scanR]
        | .inr l =>
          have hR : scanR [] (.inr l) = (l, 0, 0) := rfl
          rw [hR]
          simp only
          by_cases hl : (l.length : Int) = 2
          · have hc := one_conv x l hs (by omega)
            by_cases h1 : (rd_T37 l 0).f1.toList = x.toList
            · by_cases h2 : (rd_T37 l 0).f4 = 0
              · obtain ⟨c1, c2⟩ := hc h1 h2
                have n1 : (rd_T37 l 0).f0 ≠ 1 := fun e => by have := c1 e; rw [hW] at this; cases this
                have n2 : (rd_T37 l 0).f0 ≠ 2 := fun e => by have := c2 e; rw [hN] at this; cases this
                simp [hl, h1, h2, n1, n2]
              · simp [hl, h1, h2]
            · simp [hl, h1]
          · simp [hl]
      · have hA : scanA x = ([], 84, 8000) := if_pos (by omega)
        rw [hA]
        simp

theorem spread_j1 (q x : ByteArray) (hx : x.size ≤ 140737488351232) (k : Nat) (hk : 20000 ≤ k) : lychgatelaw08_LexSpread.j1 k q x true = some true := by
  obtain ⟨k, rfl⟩ : ∃ m, k = m + 1 := ⟨k - 1, by omega⟩
  simp only [lychgatelaw08_LexSpread.j1]
  rw [lex_quote_ev q k (by omega)]
  simp only [Option.bind_some]
  rw [scan_ev _ k (by omega)]
  simp only [Option.bind_some]
  have hj := spread_j2 x hx k (by omega)
  by_cases hg : (quoteS q).2 = 0
  · rw [if_pos hg, quote_scan q hg]
    have r0 : rd_T37 [⟨6, q, 0, ⟨0, 0⟩, 0⟩, endS (quoteS q).1.size] 0 = ⟨6, q, 0, ⟨0, 0⟩, 0⟩ := rfl
    have r1 : rd_T37 [⟨6, q, 0, ⟨0, 0⟩, 0⟩, endS (quoteS q).1.size] 1 = endS (quoteS q).1.size := rfl
    simp only [r0, r1]
    rw [if_pos trivial, if_pos (by rfl), if_pos (by simp), if_neg (by simp), if_pos (by simp)]
    rw [show ((endS (quoteS q).1.size).f4 != ((quoteS q).1.size : Int)) = false from bne_self_eq_false _]
    exact hj
  · rw [if_neg hg]
    exact hj

theorem extract_both (s : ByteArray) (a b : Nat) : s.extract a b = toS (((bl s).take b).drop a) := by
  apply ByteArray.ext
  apply Array.toList_inj.1
  simp [toS, bl, ByteArray.data_extract, Array.toList_extract, List.drop_take]
theorem bytesOf_toS (l : List UInt8) : bytesOf (toS l) = l.map fun b => (b.toNat : Int) := by
  simp [bytesOf, toS]

theorem spread_l0 (s q x : ByteArray) (l : List S37) (hz : s.size ≤ 8000) (hx : x.size ≤ 140737488351232) (hs : scanU (bl s) 0 = .inr l) :
    ∀ (d j k : Nat) (acc : List UInt8), j + d + 1 = l.length → acc ++ outB (bl s) j (l.drop j) = outB (bl s) 0 l → acc.length ≤ j * 8002 → 30000 + d ≤ k →
      lychgatelaw08_LexSpread.l0 k s q x true l (acc.map fun b => (b.toNat : Int)) (j : Int) = some true := by
  have hbl := bl_length s
  obtain ⟨hasc, hlen⟩ := scan_asc _ (bl s) 0 l (Nat.le_refl _) hs
  intro d
  induction d with
  | zero =>
    intro j k acc hj ho ha hk
    obtain ⟨k, rfl⟩ : ∃ m, k = m + 1 := ⟨k - 1, by omega⟩
    simp only [lychgatelaw08_LexSpread.l0]
    rw [wrap_nat j (by omega), if_neg (by omega), nums_toS]
    have hd : l.drop j = [l[j]'(by omega)] := by
      rw [List.drop_eq_getElem_cons (by omega), List.drop_of_length_le (by omega)]
    rw [hd] at ho
    have ho : acc = outB (bl s) 0 l := by rw [← ho]; simp [outB]
    rw [scan_ev _ k (by omega)]
    simp only [Option.bind_some, List.length_map]
    by_cases hbig : (acc.length : Int) ≤ 8000
    · obtain ⟨_, hsp⟩ := spread _ (bl s) 0 l 0 (Nat.le_refl _) (by omega) (by rw [List.drop_zero]; exact hs)
      obtain ⟨l', hl', hm⟩ := hsp 0
      rw [← ho] at hl'
      rw [scanA_short _ (by rw [toS_size]; omega), bl_toS, hl']
      have hR : scanR [] (.inr l') = (l', 0, 0) := rfl
      rw [hR]
      simp only
      rw [alike_ev l l' hm (by omega) k (by omega)]
      simp only [Option.bind_some]
      rw [if_pos hbig, if_pos trivial, if_pos trivial, if_pos trivial]
      exact spread_j1 q x hx k (by omega)
    · have hA : scanA (toS acc) = ([], 84, 8000) := by unfold scanA; rw [if_pos (by rw [toS_size]; omega)]
      rw [hA]
      simp only
      unfold lychgatelaw08_alike.f
      rw [if_neg (by simp; intro e; rw [e] at hj; simp at hj)]
      simp only [Option.bind_some]
      rw [if_neg hbig]
      exact spread_j1 q x hx k (by omega)
  | succ d ih =>
    intro j k acc hj ho ha hk
    obtain ⟨k, rfl⟩ : ∃ m, k = m + 1 := ⟨k - 1, by omega⟩
    have hg := asc_get l 0 j hasc (by omega)
    have e1 : rd_T37 l (j : Int) = l.getD j z37 := by unfold rd_T37; rw [Int.toNat_natCast]
    have e2 : rd_T37 l ((j + 1 : Nat) : Int) = l.getD (j + 1) z37 := by unfold rd_T37; rw [Int.toNat_natCast]
    have hd : l.drop j = l.getD j z37 :: l.getD (j + 1) z37 :: l.drop (j + 2) := by
      rw [List.drop_eq_getElem_cons (by omega), List.drop_eq_getElem_cons (show j + 1 < l.length by omega)]
      rw [List.getD_eq_getElem?_getD, List.getD_eq_getElem?_getD, List.getElem?_eq_getElem (show j < l.length by omega), List.getElem?_eq_getElem (show j + 1 < l.length by omega)]
      rfl
    have hd1 : l.drop (j + 1) = l.getD (j + 1) z37 :: l.drop (j + 2) := by
      rw [List.drop_eq_getElem_cons (show j + 1 < l.length by omega)]
      rw [List.getD_eq_getElem?_getD, List.getElem?_eq_getElem (show j + 1 < l.length by omega)]
      rfl
    simp only [lychgatelaw08_LexSpread.l0]
    rw [wrap_nat j (by omega), e1, e2]
    rw [hd] at ho
    generalize hA : l.getD j z37 = A at hg ho
    generalize hB : l.getD (j + 1) z37 = B at hg ho hd1
    obtain ⟨g1, g2, g3⟩ := hg
    rw [extract_both, bytesOf_toS]
    have hpl : (((bl s).take B.f4.toNat).drop A.f4.toNat).length ≤ 8000 := by rw [List.length_drop, List.length_take]; omega
    have hps : (toS (((bl s).take B.f4.toNat).drop A.f4.toNat)).size = (((bl s).take B.f4.toNat).drop A.f4.toNat).length := toS_size _
    rw [show outB (bl s) j (A :: B :: l.drop (j + 2)) = ((bl s).take B.f4.toNat).drop A.f4.toNat ++ (sepS j ++ outB (bl s) (j + 1) (B :: l.drop (j + 2))) from rfl, ← hd1] at ho
    generalize ((bl s).take B.f4.toNat).drop A.f4.toNat = piece at ho hpl hps ⊢
    have hj8 : j ≤ 8001 := by omega
    rw [if_pos (by omega), if_pos (by omega), if_pos (by omega), if_pos (by omega), if_pos (by omega), if_pos (by omega), if_pos (by omega), if_pos (by rw [List.length_map, hps]; omega)]
    simp only [Option.bind_some]
    have ht : Int.tmod (j : Int) 2 = ((j % 2 : Nat) : Int) := rfl
    rw [← List.map_append, ht]
    by_cases hev : j % 2 = 0
    · rw [if_pos (by omega), if_pos (by rw [List.length_map, List.length_append]; omega)]
      have := ih (j + 1) k (acc ++ piece ++ [10]) (by omega) (by
        rw [← ho]
        have : sepS j = [10] := by unfold sepS; rw [if_pos hev]
        rw [this]
        simp) (by rw [List.length_append, List.length_append]; show _ + 1 ≤ _; omega) (by omega)
      rw [List.map_append] at this
      exact this
    · rw [if_neg (by omega), if_pos (by rw [List.length_map, List.length_append]; show _ + 2 < _; omega)]
      have := ih (j + 1) k (acc ++ piece ++ [10, 32]) (by omega) (by
        rw [← ho]
        have : sepS j = [10, 32] := by unfold sepS; rw [if_neg hev]
        rw [this]
        simp) (by rw [List.length_append, List.length_append]; show _ + 2 ≤ _; omega) (by omega)
      rw [List.map_append] at this
      exact this

theorem small_or {c : Prop} [Decidable c] {x : Option Bool} (h : x = some true) : (if c then some true else x) = some true := by
  by_cases hc : c
  · rw [if_pos hc]
  · rw [if_neg hc, h]
/-- The law LexSpread, without Go. -/
theorem LexSpread_pure (s q x : ByteArray) (hs : s.size ≤ 140737488351232) (hq : q.size ≤ 140737488351232) (hx : x.size ≤ 140737488351232) : ∃ k, lychgatelaw08_LexSpread.f k s q x = some true := by
  have hl := bl_length s
  refine ⟨50000, ?_⟩
  have a1 := add_ev (s.size : Int) (s.size : Int) ⟨by omega, by omega⟩ ⟨by omega, by omega⟩
  have a2 := add_ev (q.size : Int) (q.size : Int) ⟨by omega, by omega⟩ ⟨by omega, by omega⟩
  have b1 : ∀ a b : Int, 0 ≤ a → a ≤ 281474976710656 → 0 ≤ b → b ≤ 281474976710656 → 0 ≤ (if b > 2147483647 - a then 2147483648 else a + b) ∧ (if b > 2147483647 - a then 2147483648 else a + b) ≤ 281474976710656 := by
    intro a b h1 h2 h3 h4
    split <;> constructor <;> omega
  unfold lychgatelaw08_LexSpread.f
  rw [a1, a2]
  simp only [Option.bind_some]
  rw [add_ev _ _ (b1 _ _ (by omega) (by omega) (by omega) (by omega)) ⟨by omega, by omega⟩]
  simp only [Option.bind_some]
  have c2 := b1 (q.size : Int) (q.size : Int) (by omega) (by omega) (by omega) (by omega)
  rw [add_ev _ _ (b1 _ _ (by omega) (by omega) (by omega) (by omega)) (b1 _ _ c2.1 c2.2 (by omega) (by omega))]
  simp only [Option.bind_some]
  apply small_or
  rw [awake_ev _ (by omega), scan_ev s _ (by omega)]
  simp only [Option.bind_some]
  by_cases hz : s.size ≤ 8000
  · rw [scanA_short s hz]
    match hsc : scanU (bl s) 0 with
    | .inl (e, p) =>
      obtain ⟨m, hpm, hm, htok, _⟩ := scan_split _ (bl s) 0 e p (Nat.le_refl _) hsc
      have he := tok_err _ _ htok
      have hR : scanR [] (.inl (e, p)) = ([], e, (p : Int)) := rfl
      rw [hR]
      simp only
      rw [if_neg (by omega), if_pos (by rfl)]
      exact spread_j1 q x hx _ (by omega)
    | .inr l =>
      have hR : scanR [] (.inr l) = (l, 0, 0) := rfl
      rw [hR]
      simp only
      rw [if_pos trivial]
      have hlen := (scan_asc _ (bl s) 0 l (Nat.le_refl _) hsc).2
      obtain ⟨k0, t0, r0, hl0, _, _⟩ := scan_head _ (bl s) 0 l (Nat.le_refl _) hsc
      have hpos : 0 < l.length := by rw [hl0]; simp
      exact spread_l0 s q x l hz hx hsc (l.length - 1) 0 _ [] (by omega) (by rw [List.drop_zero]; rfl) (by simp) (by omega)
  · have hA : scanA s = ([], 84, 8000) := if_pos (by omega)
    rw [hA]
    simp only
    rw [if_neg (by decide), if_pos (by rfl)]
    exact spread_j1 q x hx _ (by omega)
end Go.Proofs.YthllfnmebdjpfaaDoor.H

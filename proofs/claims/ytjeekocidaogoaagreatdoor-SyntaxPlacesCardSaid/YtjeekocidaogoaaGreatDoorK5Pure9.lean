/- Plain law: blanks put between the tokens of a source change none of them. -/
/- Plain law: the front of a source, cut where a token begins, with something put behind it. -/
/- Plain law: SyntaxPlaces: where a source is refused. -/
/- SyntaxPlaces: what is asked of a source that is too deep: the walk. -/
import Derived.Test.YtjeekocidaogoaaGreatDoorK5Pure6
import Derived.Test.YtjeekocidaogoaaGreatDoorK5PlB
import Derived.Test.YtjeekocidaogoaaGreatDoorK5Awb
set_option linter.unusedVariables false
set_option linter.unusedSimpArgs false
set_option maxRecDepth 100000
set_option maxHeartbeats 8000000
namespace Go.Proofs.YtjeekocidaogoaaGreatDoor.H
open Go.RowKit Go.Proofs.YtjeekocidaogoaaGreatDoor.Hand Go.Proofs.YtjeekocidaogoaaGreatDoorW.PrintWords Go.Proofs.YtjeekocidaogoaaGreatDoorW.PrintLast Go.Proofs.YtjeekocidaogoaaGreatDoorW.PrintMore
section
theorem num_kind (x : ByteArray) (h : (numS x).2.2.2.2.2.2 = true) : (numS x).1 = 4 ∨ (numS x).1 = 5 := by
 unfold numS at h ⊢
 match hn : lex_numbered.f x with
 | none => rw [hn] at h; cases h
 | some v =>
  rw [hn] at h
  show v.1 = 4 ∨ v.1 = 5
  unfold lex_numbered.f at hn
  obtain ⟨c, _, hn⟩ := Option.bind_eq_some_iff.1 hn
  split at hn
  ·obtain ⟨p, _, hn⟩ := Option.bind_eq_some_iff.1 hn
   obtain rfl := Option.some.inj hn
   exact .inr rfl
  ·split at hn
   ·have hn := Option.some.inj hn
    split at hn <;> (subst hn; first | exact .inl rfl | exact .inr rfl)
   ·cases hn
theorem zii (c : Int) : zbb c = 0 ∨ zbb c = 1 ∨ zbb c = 2 ∨ zbb c = 3 ∨ zbb c = 4 ∨ zbb c = 5 ∨ zbb c = 6 ∨ zbb c = 7 := by
 unfold zbb
 repeat' (first | omega | split)
theorem zir (u : List UInt8) (t : S49) (n : Nat) (h : tokS u = .inr (t, n)) : (t.f0 = 0 → inS u = 1 ∨ inS u = 2) ∧ (t.f0 ≠ 0 → inS u ≠ 1 ∧ inS u ≠ 2) := by
 match u with
 | [] => cases h
 | b :: r =>
  have hin : inS (b :: r) = zbb (b.toNat : Int) := rfl
  have hr := zii (b.toNat : Int)
  rw [hin]
  simp only [tokS] at h
  by_cases h6 : zbb (b.toNat : Int) = 6
  ·rw [if_pos h6] at h
   refine ⟨fun h0 => ?_, fun _ => by omega⟩
   exfalso
   split at h
   ·split at h
    ·obtain ⟨rfl, _⟩ := Prod.mk.inj (Sum.inr.inj h)
     cases h0
    ·cases h
   ·cases h
  rw [if_neg h6] at h
  by_cases h0 : zbb (b.toNat : Int) = 0
  ·rw [if_pos h0] at h; cases h
  rw [if_neg h0] at h
  unfold finS at h
  by_cases h3 : zbb (b.toNat : Int) = 3
  ·refine ⟨fun hz => ?_, fun _ => by omega⟩
   exfalso
   rw [if_pos h3] at h
   split at h
   ·obtain ⟨rfl, _⟩ := Prod.mk.inj (Sum.inr.inj h); cases hz
   ·split at h
    ·cases h
    ·obtain ⟨rfl, _⟩ := Prod.mk.inj (Sum.inr.inj h); cases hz
  rw [if_neg h3] at h
  by_cases h4 : zbb (b.toNat : Int) = 4
  ·refine ⟨fun hz => ?_, fun _ => by omega⟩
   exfalso
   rw [if_pos h4] at h
   split at h
   ·cases h
   ·obtain ⟨rfl, _⟩ := Prod.mk.inj (Sum.inr.inj h); cases hz
  rw [if_neg h4] at h
  by_cases h5 : zbb (b.toNat : Int) = 5
  ·refine ⟨fun hz => ?_, fun _ => by omega⟩
   exfalso
   rw [if_pos h5] at h
   split at h
   ·rename_i hn
    obtain ⟨rfl, _⟩ := Prod.mk.inj (Sum.inr.inj h); have := num_kind _ hn; simp only at hz; omega
   ·cases h
  rw [if_neg h5] at h
  by_cases h7 : zbb (b.toNat : Int) = 7
  ·refine ⟨fun hz => ?_, fun _ => by omega⟩
   exfalso
   rw [if_pos h7] at h
   obtain ⟨rfl, _⟩ := Prod.mk.inj (Sum.inr.inj h); cases hz
  rw [if_neg h7] at h
  obtain ⟨rfl, _⟩ := Prod.mk.inj (Sum.inr.inj h)
  exact ⟨fun _ => by omega, fun hz => absurd rfl hz⟩
theorem zjc : ∀ (N : Nat) (u : List UInt8) (p : Nat) (l : List S49), u.length ≤ N → zdi u p = .inr l → ∃ k t r, l = t :: r ∧ t.f4 = ((p + k : Nat) : Int) ∧ k ≤ u.length := by
 intro N
 induction N with
 | zero =>
  intro u p l hN h
  have hu := List.length_eq_zero_iff.1 (show u.length = 0 by omega)
  subst hu
  rw [zco] at h
  obtain rfl := Sum.inr.inj h
  exact ⟨0, endS p, [], rfl, rfl, by omega⟩
 | succ N ih =>
  intro u p l hN h
  by_cases hu : u = []
  ·subst hu
   rw [zco] at h
   obtain rfl := Sum.inr.inj h
   exact ⟨0, endS p, [], rfl, rfl, by omega⟩
  match ht : tokS u with
  | .inl e => rw [zfb u p e hu ht] at h; cases h
  | .inr (t, n) =>
   have hl := zep _ _ _ ht
   rw [zdk u p t n ht] at h
   match hs : zdi (u.drop n) (p + n) with
   | .inl x => rw [hs] at h; cases h
   | .inr l2 =>
    rw [hs] at h
    obtain rfl := Sum.inr.inj h
    by_cases h0 : t.f0 = 0
    ·rw [if_pos h0]
     obtain ⟨k, t', r, rfl, hk, hkl⟩ := ih (u.drop n) (p + n) l2 (by rw [List.length_drop]; omega) hs
     rw [List.length_drop] at hkl
     exact ⟨n + k, t', r, rfl, by rw [hk]; omega, by omega⟩
    ·rw [if_neg h0]
     exact ⟨0, atS t p, l2, rfl, rfl, by omega⟩
theorem gB1 (b : UInt8) : gB 1 b = (zbb (b.toNat : Int) == 1) := by unfold gB zim; rw [if_pos rfl]
theorem tok_blank (b : UInt8) (r v : List UInt8) (hb : zbb (b.toNat : Int) = 1) (hr : ∀ x ∈ r, gB 1 x = true) (hv : zfq 1 v = true) :
  tokS (b :: (r ++ v)) = .inr (⟨0, toS (b :: r), 0, ⟨0, 0⟩, 0⟩, r.length + 1) := by
 simp only [tokS]
 rw [hb, if_neg (by decide), if_neg (by decide), zod 1 b r v hv hr]
 rw [show (b :: (r ++ v)).take (b :: r).length = b :: r from List.take_left (l₁ := b :: r) (l₂ := v)]
 unfold finS
 rw [if_neg (by decide), if_neg (by decide), if_neg (by decide), if_neg (by decide)]
 rfl
theorem zgc (w v : List UInt8) (q : Nat) (hw : w ≠ []) (ha : ∀ x ∈ w, zbb (x.toNat : Int) = 1) (hv : zfq 1 v = true) : zdi (w ++ v) q = zdi v (q + w.length) := by
 match w with
 | [] => exact absurd rfl hw
 | b :: r =>
  have ht := tok_blank b r v (ha b (by simp)) (fun x hx => by rw [gB1, ha x (by simp [hx])]; rfl) hv
  rw [List.cons_append, zdk _ q _ _ ht, if_pos rfl, zhl]
  rw [show (b :: (r ++ v)).drop (r.length + 1) = v from List.drop_left (l₁ := b :: r) (l₂ := v)]
  rfl
theorem blanks_front (u : List UInt8) (t : S49) (n : Nat) (h : tokS u = .inr (t, n)) (h1 : inS u = 1) : ∀ x ∈ u.take n, zbb (x.toNat : Int) = 1 := by
 match u with
 | [] => cases h
 | b :: r =>
  have hin : zbb (b.toNat : Int) = 1 := h1
  simp only [tokS] at h
  rw [hin, if_neg (by decide), if_neg (by decide)] at h
  have hn := znu _ _ _ _ h
  rw [zej, List.length_take, Nat.min_eq_left (zjh _ _)] at hn
  rw [hn, zmr]
  intro x hx
  rcases List.mem_cons.1 hx with rfl | hx
  ·exact hin
  ·have := List.all_eq_true.1 List.all_takeWhile x hx
   rw [gB1] at this
   exact beq_iff_eq.1 this
theorem skip_sep : ∀ (N : Nat) (u : List UInt8) (p : Nat) (l : List S49) (k0 : Nat), u.length ≤ N → zdi u p = .inr l → (∃ t r, l = t :: r ∧ t.f4 = ((p + k0 : Nat) : Int)) →
  ∀ sep rest : List UInt8, sep ≠ [] → (∀ x ∈ sep, zbb (x.toNat : Int) = 1) → sep.head? = some 10 → zfq 1 rest = true → ∀ q, zdi (u.take k0 ++ (sep ++ rest)) q = zdi rest (q + k0 + sep.length) := by
 intro N
 induction N with
 | zero =>
  intro u p l k0 hN h hl sep rest h1 h2 h3 h4 q
  have hu := List.length_eq_zero_iff.1 (show u.length = 0 by omega)
  subst hu
  rw [zco] at h
  obtain rfl := Sum.inr.inj h
  obtain ⟨t, r, hl, hp⟩ := hl
  obtain ⟨rfl, rfl⟩ := List.cons.inj hl
  have hp : (p : Int) = ((p + k0 : Nat) : Int) := hp
  obtain rfl : k0 = 0 := by omega
  exact zgc sep rest q h1 h2 h4
 | succ N ih =>
  intro u p l k0 hN h hl sep rest h1 h2 h3 h4 q
  by_cases hu : u = []
  ·subst hu
   rw [zco] at h
   obtain rfl := Sum.inr.inj h
   obtain ⟨t, r, hl, hp⟩ := hl
   obtain ⟨rfl, rfl⟩ := List.cons.inj hl
   have hp : (p : Int) = ((p + k0 : Nat) : Int) := hp
   obtain rfl : k0 = 0 := by omega
   exact zgc sep rest q h1 h2 h4
  match ht : tokS u with
  | .inl e => rw [zfb u p e hu ht] at h; cases h
  | .inr (t, n) =>
   have htl := zep _ _ _ ht
   rw [zdk u p t n ht] at h
   match hs : zdi (u.drop n) (p + n) with
   | .inl x => rw [hs] at h; cases h
   | .inr l2 =>
    rw [hs] at h
    obtain rfl := Sum.inr.inj h
    obtain ⟨t', r', hl, hp⟩ := hl
    by_cases h0 : t.f0 = 0
    ·rw [if_pos h0, List.nil_append] at hl
     obtain ⟨k, t2, r2, hl2, hk, hkl⟩ := zjc _ (u.drop n) (p + n) l2 (Nat.le_refl _) hs
     obtain ⟨rfl, rfl⟩ := List.cons.inj (hl.symm.trans hl2)
     obtain rfl : k0 = n + k := by omega
     rw [List.take_add, List.append_assoc]
     by_cases hb : inS u = 1 ∧ k = 0
     ·obtain ⟨hb1, rfl⟩ := hb
      rw [List.take_zero, List.nil_append, ← List.append_assoc]
      rw [zgc (u.take n ++ sep) rest q (by simp [h1]) (fun x hx => by
       rcases List.mem_append.1 hx with hx | hx
       ·exact blanks_front u t n ht hb1 x hx
       ·exact h2 x hx) h4]
      rw [List.length_append, List.length_take, Nat.min_eq_left htl.2]
      congr 1
      omega
     ·have hst : zfq (inS u) ((u.drop n).take k ++ (sep ++ rest)) = true := by
       by_cases hk0 : k = 0
       ·subst hk0
        have h2' : inS u = 2 := by
         rcases (zir u t n ht).1 h0 with h | h
         ·exact absurd ⟨h, rfl⟩ hb
         ·exact h
        rw [h2', List.take_zero, List.nil_append]
        match sep, h3 with
        | c :: sep, h3 =>
         obtain rfl := Option.some.inj h3
         show (!gB 2 10) = true
         decide
       ·refine zkj (inS u) (u.drop n) _ (zgx u t n ht ?_) (.inr ?_)
        ·rcases (zir u t n ht).1 h0 with h | h <;> omega
        ·obtain ⟨k, rfl⟩ : ∃ m, k = m + 1 := ⟨k - 1, by omega⟩
         cases hd : u.drop n with
         | nil => rw [hd] at hkl; simp at hkl
         | cons c w => rfl
      obtain ⟨_, _, hst2⟩ := zgb u ((u.drop n).take k ++ (sep ++ rest)) t n ht (fun _ => hst)
      rw [zdk _ q t n hst2, if_pos h0, zhl, List.drop_left' (by rw [List.length_take]; omega)]
      rw [ih (u.drop n) (p + n) _ k (by rw [List.length_drop]; omega) hs ⟨_, _, hl2, hk⟩ sep rest h1 h2 h3 h4 (q + n)]
      congr 1
      omega
    ·rw [if_neg h0] at hl
     obtain ⟨rfl, _⟩ := List.cons.inj hl
     have hp : (p : Int) = ((p + k0 : Nat) : Int) := hp
     obtain rfl : k0 = 0 := by omega
     exact zgc sep rest q h1 h2 h4
end
section
def zqe (w : List UInt8) (R : Nat → (Int × Nat) ⊕ List S49) : Prop :=
 (∀ (u : List UInt8) (p : Nat) (l : List S49) (k0 : Nat), zdi u p = .inr l → (∃ t r, l = t :: r ∧ t.f4 = ((p + k0 : Nat) : Int)) → ∀ q, zdi (u.take k0 ++ w) q = R (q + k0)) ∧
 ∀ i, (i = 0 ∨ i = 3 ∨ i = 4 ∨ i = 5 ∨ i = 7) → zfq i w = true
theorem zkh (i : Int) (u w : List UInt8) (k : Nat) (hk : 0 < k) (hl : k ≤ u.length) (h : zfq i u = true) : zfq i (u.take k ++ w) = true := by
 refine zkj i u _ h (.inr ?_)
 obtain ⟨k, rfl⟩ : ∃ m, k = m + 1 := ⟨k - 1, by omega⟩
 cases u with
 | nil => simp at hl
 | cons c r => rfl
theorem skip_end : ∀ (N : Nat) (u : List UInt8) (p : Nat) (l : List S49) (k0 : Nat), u.length ≤ N → zdi u p = .inr l → (∃ t r, l = t :: r ∧ t.f4 = ((p + k0 : Nat) : Int)) → ∀ q, zdi (u.take k0) q = .inr [endS (q + k0)] := by
 intro N
 induction N with
 | zero =>
  intro u p l k0 hN h hl q
  have hu := List.length_eq_zero_iff.1 (show u.length = 0 by omega)
  subst hu
  rw [zco] at h
  obtain rfl := Sum.inr.inj h
  obtain ⟨t, r, hl, hp⟩ := hl
  obtain ⟨rfl, rfl⟩ := List.cons.inj hl
  have hp : (p : Int) = ((p + k0 : Nat) : Int) := hp
  obtain rfl : k0 = 0 := by omega
  exact zco q
 | succ N ih =>
  intro u p l k0 hN h hl q
  by_cases hk0 : k0 = 0
  ·subst hk0; exact zco q
  by_cases hu : u = []
  ·subst hu
   rw [zco] at h
   obtain rfl := Sum.inr.inj h
   obtain ⟨t, r, hl, hp⟩ := hl
   obtain ⟨rfl, rfl⟩ := List.cons.inj hl
   have hp : (p : Int) = ((p + k0 : Nat) : Int) := hp
   omega
  match ht : tokS u with
  | .inl e => rw [zfb u p e hu ht] at h; cases h
  | .inr (t, n) =>
   have htl := zep _ _ _ ht
   rw [zdk u p t n ht] at h
   match hs : zdi (u.drop n) (p + n) with
   | .inl x => rw [hs] at h; cases h
   | .inr l2 =>
    rw [hs] at h
    obtain rfl := Sum.inr.inj h
    obtain ⟨t', r', hl, hp⟩ := hl
    by_cases h0 : t.f0 = 0
    ·rw [if_pos h0, List.nil_append] at hl
     obtain ⟨k, t2, r2, hl2, hk, hkl⟩ := zjc _ (u.drop n) (p + n) l2 (Nat.le_refl _) hs
     obtain ⟨rfl, rfl⟩ := List.cons.inj (hl.symm.trans hl2)
     obtain rfl : k0 = n + k := by omega
     rw [List.take_add]
     have hst : zfq (inS u) ((u.drop n).take k) = true := by
      by_cases hk1 : k = 0
      ·subst hk1; rfl
      ·have := zkh (inS u) (u.drop n) [] k (by omega) hkl (zgx u t n ht (by rcases (zir u t n ht).1 h0 with h | h <;> omega))
       rwa [List.append_nil] at this
     obtain ⟨_, _, hst2⟩ := zgb u ((u.drop n).take k) t n ht (fun _ => hst)
     rw [zdk _ q t n hst2, if_pos h0, zhl, List.drop_left' (by rw [List.length_take]; omega)]
     rw [ih (u.drop n) (p + n) _ k (by rw [List.length_drop]; omega) hs ⟨_, _, hl2, hk⟩ (q + n)]
     rw [show q + n + k = q + (n + k) by omega]
    ·rw [if_neg h0] at hl
     obtain ⟨rfl, _⟩ := List.cons.inj hl
     have hp : (p : Int) = ((p + k0 : Nat) : Int) := hp
     omega
theorem behind_nil : zqe [] fun q => .inr [endS q] :=
 ⟨fun u p l k0 h hl q => by rw [List.append_nil]; exact skip_end _ u p l k0 (Nat.le_refl _) h hl q, fun i _ => rfl⟩
theorem behind_line (rest : List UInt8) : zqe (10 :: rest) fun q => zdi (rest.dropWhile (gB 1)) (q + (1 + (rest.takeWhile (gB 1)).length)) := by
 have e : 10 :: rest = (10 :: rest.takeWhile (gB 1)) ++ rest.dropWhile (gB 1) := by rw [List.cons_append, List.takeWhile_append_dropWhile]
 have h2 : ∀ x ∈ 10 :: rest.takeWhile (gB 1), zbb (x.toNat : Int) = 1 := fun x hx => by
  rcases List.mem_cons.1 hx with rfl | hx
  ·decide
  ·have := List.all_eq_true.1 List.all_takeWhile x hx
   rw [gB1] at this
   exact beq_iff_eq.1 this
 have h4 : zfq 1 (rest.dropWhile (gB 1)) = true := by
  cases hd : rest.dropWhile (gB 1) with
  | nil => rfl
  | cons b r =>
   show (!gB 1 b) = true
   have := List.head_dropWhile_not (gB 1) (l := rest) (by rw [hd]; simp)
   simp only [hd, List.head_cons] at this
   rw [this]; rfl
 refine ⟨fun u p l k0 h hl q => ?_, fun i hi => ?_⟩
 ·rw [e, skip_sep _ u p l k0 (Nat.le_refl _) h hl (10 :: rest.takeWhile (gB 1)) _ (by simp) h2 rfl h4 q]
  congr 1
  rw [List.length_cons]
  omega
 ·show (!gB i 10) = true
  rcases hi with rfl | rfl | rfl | rfl | rfl <;> decide
theorem zhs : ∀ (u : List UInt8) (p : Nat) (l : List S49), zdi u p = .inr l → (∀ t ∈ l, (p : Int) ≤ t.f4) ∧ True := by
 have main : ∀ (N : Nat) (u : List UInt8) (p : Nat) (l : List S49), u.length ≤ N → zdi u p = .inr l → ∀ t ∈ l, (p : Int) ≤ t.f4 := by
  intro N
  induction N with
  | zero =>
   intro u p l hN h t ht
   have hu := List.length_eq_zero_iff.1 (show u.length = 0 by omega)
   subst hu
   rw [zco] at h
   obtain rfl := Sum.inr.inj h
   obtain rfl : t = endS p := by simpa using ht
   exact Int.le_refl _
  | succ N ih =>
   intro u p l hN h t' ht'
   by_cases hu : u = []
   ·subst hu
    rw [zco] at h
    obtain rfl := Sum.inr.inj h
    obtain rfl : t' = endS p := by simpa using ht'
    exact Int.le_refl _
   match ht : tokS u with
   | .inl e => rw [zfb u p e hu ht] at h; cases h
   | .inr (t, n) =>
    have htl := zep _ _ _ ht
    rw [zdk u p t n ht] at h
    match hs : zdi (u.drop n) (p + n) with
    | .inl x => rw [hs] at h; cases h
    | .inr l2 =>
     rw [hs] at h
     obtain rfl := Sum.inr.inj h
     rcases List.mem_append.1 ht' with h1 | h1
     ·by_cases h0 : t.f0 = 0
      ·rw [if_pos h0] at h1; cases h1
      ·rw [if_neg h0] at h1
       obtain rfl : t' = atS t p := by simpa using h1
       exact Int.le_refl _
     ·have := ih (u.drop n) (p + n) l2 (by rw [List.length_drop]; omega) hs t' h1
      omega
 exact fun u p l h => ⟨main _ u p l (Nat.le_refl _) h, trivial⟩
theorem zkk {w : List UInt8} {R : Nat → (Int × Nat) ⊕ List S49} (hB : zqe w R) : ∀ (N : Nat) (u : List UInt8) (p : Nat) (l : List S49) (j : Nat) (c : Nat), u.length ≤ N → zdi u p = .inr l → (∃ t, l[j]? = some t ∧ t.f4 = ((p + c : Nat) : Int)) →
  c ≤ u.length ∧ (0 < j → 0 < c) ∧ zdi (u.take c ++ w) p = addT (l.take j) (R (p + c)) := by
 intro N
 induction N with
 | zero =>
  intro u p l j c hN h hl
  have hu := List.length_eq_zero_iff.1 (show u.length = 0 by omega)
  subst hu
  have h' := h
  rw [zco] at h
  obtain rfl := Sum.inr.inj h
  obtain ⟨t, hl, hp⟩ := hl
  have hj : j = 0 := by have := (List.getElem?_eq_some_iff.1 hl).1; simp at this; exact this
  subst hj
  have hl : endS p = t := by simpa using hl
  subst hl
  have hp : (p : Int) = ((p + c : Nat) : Int) := hp
  obtain rfl : c = 0 := by omega
  exact ⟨Nat.le_refl _, fun h => h, by rw [hB.1 [] p _ 0 h' ⟨_, _, rfl, rfl⟩ p]; exact (zhl _).symm⟩
 | succ N ih =>
  intro u p l j c hN h hl
  by_cases hj : j = 0
  ·subst hj
   obtain ⟨k, t, r, rfl, hk, hkl⟩ := zjc _ u p l (Nat.le_refl _) h
   obtain ⟨t', hl, hp⟩ := hl
   have hl : t = t' := by simpa using hl
   subst hl
   obtain rfl : c = k := by omega
   exact ⟨hkl, fun h => absurd h (by decide), by rw [hB.1 u p _ c h ⟨_, _, rfl, hk⟩ p]; exact (zhl _).symm⟩
  by_cases hu : u = []
  ·subst hu
   rw [zco] at h
   obtain rfl := Sum.inr.inj h
   obtain ⟨t, hl, hp⟩ := hl
   have := (List.getElem?_eq_some_iff.1 hl).1
   simp at this
   omega
  match ht : tokS u with
  | .inl e => rw [zfb u p e hu ht] at h; cases h
  | .inr (t, n) =>
   have htl := zep _ _ _ ht
   rw [zdk u p t n ht] at h
   match hs : zdi (u.drop n) (p + n) with
   | .inl x => rw [hs] at h; cases h
   | .inr l2 =>
    rw [hs] at h
    obtain rfl := Sum.inr.inj h
    obtain ⟨t', hl, hp⟩ := hl
    obtain ⟨hasc, _⟩ := zhs (u.drop n) (p + n) l2 hs
    have hrest : ∃ i, l2[i]? = some t' ∧ (t.f0 = 0 → i = j) ∧ (t.f0 ≠ 0 → j = i + 1) := by
     by_cases h0 : t.f0 = 0
     ·rw [if_pos h0, List.nil_append] at hl
      exact ⟨j, hl, fun _ => rfl, fun h => absurd h0 h⟩
     ·rw [if_neg h0] at hl
      obtain ⟨i, rfl⟩ : ∃ i, j = i + 1 := ⟨j - 1, by omega⟩
      exact ⟨i, by simpa using hl, fun h => absurd h h0, fun _ => rfl⟩
    obtain ⟨i, hli, hi0, hi1⟩ := hrest
    have hge : ((p + n : Nat) : Int) ≤ t'.f4 := hasc t' (List.mem_of_getElem? hli)
    obtain ⟨c', rfl⟩ : ∃ c', c = n + c' := ⟨c - n, by omega⟩
    obtain ⟨k1, k2, k3⟩ := ih (u.drop n) (p + n) l2 i c' (by rw [List.length_drop]; omega) hs ⟨t', hli, by rw [hp]; congr 1; omega⟩
    rw [List.length_drop] at k1
    refine ⟨by omega, fun _ => by omega, ?_⟩
    have hst : inS u ≠ 6 → zfq (inS u) ((u.drop n).take c' ++ w) = true := by
     intro h6
     by_cases hc : c' = 0
     ·subst hc
      rw [List.take_zero, List.nil_append]
      by_cases h0 : t.f0 = 0
      ·have := hi0 h0
       have := k2 (by omega)
       omega
      ·refine hB.2 _ ?_
       have hin := (zir u t n ht).2 h0
       cases u with
       | nil => exact absurd rfl hu
       | cons b r =>
        have := zii (b.toNat : Int)
        have e : inS (b :: r) = zbb (b.toNat : Int) := rfl
        rw [e] at hin h6 ⊢
        omega
     ·exact zkh _ (u.drop n) w c' (by omega) (by rw [List.length_drop]; omega) (zgx u t n ht h6)
    obtain ⟨_, _, hst2⟩ := zgb u ((u.drop n).take c' ++ w) t n ht hst
    rw [List.take_add, List.append_assoc, zdk _ p t n hst2, List.drop_left' (by rw [List.length_take]; omega), k3, addT_add]
    rw [show p + n + c' = p + (n + c') by omega]
    congr 1
    by_cases h0 : t.f0 = 0
    ·rw [if_pos h0, List.nil_append, List.nil_append, hi0 h0]
    ·rw [if_neg h0, hi1 h0]
     rfl
end
section
theorem zkf (l : List S49) (j : Nat) (t : S49) (h : l[j]? = some t) : tk (l.map zed) j = zed t := by
 unfold tk
 rw [List.getD_eq_getElem?_getD, List.getElem?_map, h]
 rfl
theorem zpb (l l' : List S49) (j : Nat) (h : l'[j]? = l[j]?) : tk (l'.map zed) j = tk (l.map zed) j := by
 unfold tk
 rw [List.getD_eq_getElem?_getD, List.getD_eq_getElem?_getD, List.getElem?_map, List.getElem?_map, h]
theorem zmm (l l2 : List S49) (j t : Nat) (hj : j ≤ l.length) (ht : t < j) : (l.take j ++ l2)[t]? = l[t]? := by
 rw [List.getElem?_append_left (by rw [List.length_take]; omega), List.getElem?_take, if_pos ht]
theorem zqw (l : List S49) (j m : Nat) (t : S49) (h : l[j]? = some t) (hm : t.f4 = (m : Int)) : Cut (l.map zed) ((l.take j ++ [endS m]).map zed) j := by
 have hj := (List.getElem?_eq_some_iff.1 h).1
 have e : tk ((l.take j ++ [endS m]).map zed) j = zed (endS m) := zkf _ _ _ (by
  rw [List.getElem?_append_right (by rw [List.length_take]; omega), List.length_take, show j - min j l.length = 0 by omega]
  rfl)
 refine ⟨fun t ht => zpb _ _ _ (zmm l _ j t (by omega) ht), by rw [e]; rfl, ?_⟩
 rw [e, zkf _ _ _ h]
 exact hm.symm
theorem zqz (l l2 : List S49) (j q : Nat) (hj : j ≤ l.length) (hq : q < j) : Agr (l.map zed) ((l.take j ++ l2).map zed) q := fun t ht => zpb _ _ _ (zmm l l2 j t hj (by omega))
theorem zmo : ∀ (N : Nat) (u : List UInt8) (p : Nat) (l : List S49), u.length ≤ N → zdi u p = .inr l → l.Pairwise fun a b => a.f4 < b.f4 := by
 intro N
 induction N with
 | zero =>
  intro u p l hN h
  have hu := List.length_eq_zero_iff.1 (show u.length = 0 by omega)
  subst hu
  rw [zco] at h
  obtain rfl := Sum.inr.inj h
  exact List.pairwise_singleton _ _
 | succ N ih =>
  intro u p l hN h
  by_cases hu : u = []
  ·subst hu
   rw [zco] at h
   obtain rfl := Sum.inr.inj h
   exact List.pairwise_singleton _ _
  match ht : tokS u with
  | .inl e => rw [zfb u p e hu ht] at h; cases h
  | .inr (t, n) =>
   have htl := zep _ _ _ ht
   rw [zdk u p t n ht] at h
   match hs : zdi (u.drop n) (p + n) with
   | .inl x => rw [hs] at h; cases h
   | .inr l2 =>
    rw [hs] at h
    obtain rfl := Sum.inr.inj h
    have hi := ih (u.drop n) (p + n) l2 (by rw [List.length_drop]; omega) hs
    by_cases h0 : t.f0 = 0
    ·rw [if_pos h0, List.nil_append]; exact hi
    ·rw [if_neg h0]
     refine List.pairwise_cons.2 ⟨fun b hb => ?_, hi⟩
     have := (zhs (u.drop n) (p + n) l2 hs).1 b hb
     show (p : Int) < b.f4
     omega
theorem zkm : ∀ (d : Nat) (u : List UInt8) (p : Nat) (e : Int) (q : Nat), u.length < d → zex d u p = .inl (e, q) → 80 ≤ e ∧ e ≤ 83
 | 0, _, _, _, _, hd, _ => by omega
 | _ + 1, [], _, _, _, _, h => by cases h
 | d + 1, b :: r, p, e, q, hd, h => by
  simp only [zex] at h
  split at h
  ·rename_i e' ht
   have h1 := zpa _ _ ht
   have h := Sum.inl.inj h
   injection h with h2 h3
   omega
  ·rename_i t n ht
   have hn := zep (b :: r) t n ht
   split at h
   ·rename_i x hx
    have h := Sum.inl.inj h
    subst h
    exact zkm d _ _ _ _ (by rw [List.length_drop]; omega) hx
   ·cases h
theorem scanA_errs (s : ByteArray) (h : (zay s).2.1 ≠ 0) : 80 ≤ (zay s).2.1 ∧ (zay s).2.1 < 90 := by
 unfold zay at h ⊢
 by_cases hs : s.size > 8000
 ·rw [if_pos hs]; exact ⟨by show (80 : Int) ≤ 84; decide, by show (84 : Int) < 90; decide⟩
 ·rw [if_neg hs] at h ⊢
  match hx : zex (s.size + 1) (bl s) 0 with
  | .inl (e, p) =>
   have := zkm _ _ _ _ _ (by rw [zbj]; omega) hx
   exact ⟨this.1, by show e < 90; omega⟩
  | .inr l => rw [hx] at h; exact absurd rfl h
theorem zis (s : ByteArray) (h : (zay s).2.1 = 0) : s.size ≤ 8000 ∧ zdi (bl s) 0 = .inr (zay s).1 := by
 have h8 : s.size ≤ 8000 := by
  by_cases hs : s.size > 8000
  ·unfold zay at h; rw [if_pos hs] at h; exact absurd h (by decide)
  ·omega
 refine ⟨h8, ?_⟩
 have hne := zjd ((bl s).length + 1) (bl s) 0
 rw [zje s h8] at h ⊢
 match hx : zdi (bl s) 0 with
 | .inl (e, p) =>
  rw [hx] at h
  exact absurd h (hne e p (by omega) hx)
 | .inr l => simp [zmp]
theorem scanA_of {s : ByteArray} {l : List S49} (h8 : s.size ≤ 8000) (h : zdi (bl s) 0 = .inr l) : zay s = (l, 0, 0) := by
 rw [zje s h8, h]
 simp [zmp]
theorem zlk (s : ByteArray) (h : (zay s).2.1 = 0) (j : Nat) (t : S49) (hj : (zay s).1[j]? = some t) : ∃ m : Nat, t.f4 = (m : Int) ∧ m ≤ s.size ∧ zay (s.extract 0 m) = ((zay s).1.take j ++ [endS m], 0, 0) ∧
  ∀ rest : ByteArray, (zay ((s.extract 0 m ++ (⟨#[10]⟩ : ByteArray)) ++ rest)).2.1 ≠ 0 ∨ ∃ l2, (zay ((s.extract 0 m ++ (⟨#[10]⟩ : ByteArray)) ++ rest)).1 = (zay s).1.take j ++ l2 := by
 obtain ⟨h8, hu⟩ := zis s h
 have hb := zbj s
 have h0 := (zhs _ _ _ hu).1 t (List.mem_of_getElem? hj)
 obtain ⟨m, hm⟩ : ∃ m : Nat, t.f4 = (m : Int) := ⟨t.f4.toNat, by omega⟩
 obtain ⟨f1, -, f3⟩ := zkk behind_nil _ (bl s) 0 _ j m (Nat.le_refl _) hu ⟨t, hj, by rw [hm]; congr 1; omega⟩
 refine ⟨m, hm, by omega, ?_, fun rest => ?_⟩
 ·rw [List.append_nil, Nat.zero_add] at f3
  exact scanA_of (by rw [zev, zej, List.length_take]; omega) (by rw [zev, zqy, f3]; rfl)
 ·by_cases hz : (zay ((s.extract 0 m ++ (⟨#[10]⟩ : ByteArray)) ++ rest)).2.1 = 0
  ·right
   obtain ⟨g8, gu⟩ := zis _ hz
   have e : bl ((s.extract 0 m ++ (⟨#[10]⟩ : ByteArray)) ++ rest) = (bl s).take m ++ 10 :: bl rest := by
    rw [zev]
    simp [bl, toS]
   obtain ⟨-, -, k3⟩ := zkk (behind_line (bl rest)) _ (bl s) 0 _ j m (Nat.le_refl _) hu ⟨t, hj, by rw [hm]; congr 1; omega⟩
   rw [e, k3] at gu
   match hx : zdi ((bl rest).dropWhile (gB 1)) (0 + m + (1 + ((bl rest).takeWhile (gB 1)).length)) with
   | .inl x => rw [hx] at gu; cases gu
   | .inr l2 =>
    rw [hx] at gu
    exact ⟨l2, (Sum.inr.inj gu).symm⟩
  ·exact .inl hz
theorem zdr (s : ByteArray) (h : (zay s).2.1 = 0) {k f : Nat} {r : PR (List S62)} (hr : zcm ((zay s).1.map zed) k f 0 [] = some r) : (zbh s).2 = match r with | .ok _ _ => (0, 0) | .bad e p => (e, p) := by
 obtain ⟨rr, q, hl, -⟩ := zem s h
 obtain ⟨r', hr'⟩ := zhc (zjw hl) (by rw [hl]; simp)
 obtain rfl := policyP_of hr' hr
 unfold zbh
 rw [if_neg (by rw [h]; decide), hr']
 cases r' <;> rfl
theorem zkz (s : ByteArray) (h : (zay s).2.1 = 0) {k f : Nat} (hk : 5 * (zay s).1.length + 4 ≤ k) (hf : (zay s).1.length + 1 ≤ f) : ∃ r, zcm ((zay s).1.map zed) k f 0 [] = some r := by
 obtain ⟨rr, q, hl, -⟩ := zem s h
 obtain ⟨r, hr, -⟩ := zie (zjw hl) k (by rw [List.length_map]; omega) f 0 [] (by rw [List.length_map, hl]; simp) (by rw [List.length_map]; omega)
 exact ⟨r, hr⟩
theorem places (s : ByteArray) (h : (zay s).2.1 = 0) (hf : (zbh s).2.1 ≠ 0) : ∃ q, q < (zay s).1.length ∧
  (∀ (j m : Nat) (t : S49), q < j → (zay s).1[j]? = some t → t.f4 = (m : Int) → (zbh (s.extract 0 m)).2 = (zbh s).2 ∧ ∀ rest : ByteArray, (zay ((s.extract 0 m ++ (⟨#[10]⟩ : ByteArray)) ++ rest)).2.1 ≠ 0 ∨ (zbh ((s.extract 0 m ++ (⟨#[10]⟩ : ByteArray)) ++ rest)).2 = (zbh s).2) ∧
  (((zbh s).2.1 = 91 ∧ ∃ hh t, hh ≤ q ∧ (zay s).1[hh]? = some t ∧ t.f4 = (zbh s).2.2 ∧ (∀ i u, hh ≤ i → i < q → (zay s).1[i]? = some u → isT (zed u) zff = false) ∧
    ∀ (j m : Nat) (t : S49), hh ≤ j → j ≤ q → (zay s).1[j]? = some t → t.f4 = (m : Int) → (zbh (s.extract 0 m)).2.1 = 90 ∨ ((zbh (s.extract 0 m)).2.1 = 91 ∧ (zbh (s.extract 0 m)).2.2 ≤ (zbh s).2.2)) ∨
   (((zbh s).2.1 = 90 ∨ (zbh s).2.1 = 92) ∧ ∃ t, (zay s).1[q]? = some t ∧ t.f4 = (zbh s).2.2 ∧ ∀ m : Nat, t.f4 = (m : Int) → (zbh (s.extract 0 m)).2.1 = 0 ∨ (zbh (s.extract 0 m)).2 = (90, (zbh s).2.2))) := by
 obtain ⟨rr, q0, hl, -⟩ := zem s h
 have hend := zjw hl
 have hlen : ((zay s).1.map zed).length = (zay s).1.length := List.length_map ..
 have hpos : 0 < (zay s).1.length := by rw [hl]; simp
 obtain ⟨K, hK⟩ : ∃ K, K = 5 * (8001 + (zay s).1.length) + 4 := ⟨_, rfl⟩
 obtain ⟨F, hF⟩ : ∃ F, F = 8001 + (zay s).1.length + 1 := ⟨_, rfl⟩
 obtain ⟨r, hr⟩ := zkz s h (k := K) (f := F) (by omega) (by omega)
 have hp := zdr s h hr
 cases r with
 | ok x j => rw [hp] at hf; exact absurd rfl hf
 | bad e p =>
 have hp : (zbh s).2 = (e, p) := hp
 rw [hp]
 obtain ⟨q, -, hq, hA, hB⟩ := itemsP_law hend K F 0 [] e p hr
 have hq : q < (zay s).1.length := by rw [← hlen]; exact hq (by rw [hlen]; exact hpos)
 have hpair := zmo _ _ _ _ (Nat.le_refl _) (zis s h).2
 have tka : ∀ j t, (zay s).1[j]? = some t → (tk ((zay s).1.map zed) j).place = t.f4 := fun j t ht => by rw [zkf _ _ _ ht]; rfl
 have same : ∀ (j m : Nat) (t : S49), q < j → (zay s).1[j]? = some t → t.f4 = (m : Int) → (zbh (s.extract 0 m)).2 = (e, p) ∧ ∀ rest : ByteArray, (zay ((s.extract 0 m ++ (⟨#[10]⟩ : ByteArray)) ++ rest)).2.1 ≠ 0 ∨ (zbh ((s.extract 0 m ++ (⟨#[10]⟩ : ByteArray)) ++ rest)).2 = (e, p) := fun j m t hj ht hm => by
  obtain ⟨m', hm', -, c1, c2⟩ := zlk s h j t ht
  obtain rfl : m' = m := by omega
  have hjl := (List.getElem?_eq_some_iff.1 ht).1
  refine ⟨?_, fun rest => ?_⟩
  ·refine zdr (k := K) (f := F) (r := .bad e p) _ (by rw [c1]) ?_
   rw [c1]
   exact hA _ (zqz _ _ j q (by omega) hj)
  ·by_cases hz : (zay ((s.extract 0 m' ++ (⟨#[10]⟩ : ByteArray)) ++ rest)).2.1 = 0
   ·right
    rcases c2 rest with hz2 | ⟨l2, hl2⟩
    ·exact absurd hz hz2
    refine zdr (k := K) (f := F) (r := .bad e p) _ hz ?_
    rw [hl2]
    exact hA _ (zqz _ _ j q (by omega) hj)
   ·exact .inl hz
 have tot : ∀ (j m : Nat) (t : S49), (zay s).1[j]? = some t → t.f4 = (m : Int) → j ≤ q → (zay (s.extract 0 m)).2.1 = 0 ∧ (zay (s.extract 0 m)).1 = (zay s).1.take j ++ [endS m] ∧ ∃ r, zcm (((zay s).1.take j ++ [endS m]).map zed) K F 0 [] = some r := fun j m t ht hm hj => by
  obtain ⟨m', hm', -, c1, c2⟩ := zlk s h j t ht
  obtain rfl : m' = m := by omega
  refine ⟨by rw [c1], by rw [c1], ?_⟩
  have hz : (zay (s.extract 0 m')).2.1 = 0 := by rw [c1]
  have h1 : (zay (s.extract 0 m')).1 = (zay s).1.take j ++ [endS m'] := by rw [c1]
  have hn : (zay (s.extract 0 m')).1.length ≤ (zay s).1.length + 1 := by rw [h1, List.length_append, List.length_take, List.length_singleton]; omega
  obtain ⟨r, hr⟩ := zkz _ hz (k := K) (f := F) (by omega) (by omega)
  rw [h1] at hr
  exact ⟨r, hr⟩
 refine ⟨q, hq, same, ?_⟩
 rcases hB with ⟨rfl, hh, -, hhq, hpl, hns, hcut⟩ | ⟨he, hpl, hcut⟩
 ·left
  have hhl : hh < (zay s).1.length := by omega
  refine ⟨rfl, hh, (zay s).1[hh], hhq, List.getElem?_eq_getElem hhl, (tka hh _ (List.getElem?_eq_getElem hhl)).symm.trans hpl.symm, fun i u h1 h2 hu => ?_, fun j m t h1 h2 ht hm => ?_⟩
  ·have := hns i h1 h2
   rwa [zkf _ _ _ hu] at this
  ·obtain ⟨t1, t2, r, hr2⟩ := tot j m t ht hm h2
   rcases hcut j _ h1 h2 (zqw _ j m t ht hm) with hc | ⟨m', hc⟩ | ⟨h', hle, hc⟩
   ·rw [hc] at hr2; cases hr2
   ·left
    have := zdr (s.extract 0 m) t1 (k := K) (f := F) (r := .bad 90 m') (by rw [t2]; exact hc)
    rw [this]
   ·right
    have hh' : h' < (zay s).1.length := by omega
    have := zdr (s.extract 0 m) t1 (k := K) (f := F) (r := .bad 91 _) (by rw [t2]; exact hc)
    rw [this]
    refine ⟨rfl, ?_⟩
    show (tk ((zay s).1.map zed) h').place ≤ p
    rw [hpl, tka h' _ (List.getElem?_eq_getElem hh'), tka hh _ (List.getElem?_eq_getElem hhl)]
    by_cases e : h' = hh
    ·subst e; exact Int.le_refl _
    ·have := (List.pairwise_iff_getElem.1 hpair) h' hh hh' hhl (by omega)
     omega
 ·right
  refine ⟨he, (zay s).1[q], List.getElem?_eq_getElem hq, (tka q _ (List.getElem?_eq_getElem hq)).symm.trans hpl.symm, fun m hm => ?_⟩
  obtain ⟨t1, t2, r, hr2⟩ := tot q m _ (List.getElem?_eq_getElem hq) hm (Nat.le_refl _)
  rcases hcut _ (zqw _ q m _ (List.getElem?_eq_getElem hq) hm) with ⟨x, j, hc⟩ | hc
  ·left
   rw [zdr (s.extract 0 m) t1 (k := K) (f := F) (r := .ok x j) (by rw [t2]; exact hc)]
  ·right
   exact zdr (s.extract 0 m) t1 (k := K) (f := F) (r := .bad 90 p) (by rw [t2]; exact hc)
end
section
theorem zbr {W w : World} {T : Nat} {toks : List Tok} (h : Toks W T toks) (hb : Below W.heap.size W w) : Toks w T toks := by
 obtain ⟨cs, h1, h2⟩ := h
 exact ⟨cs, (hb.block T (zat h1)).trans h1, h2⟩
abbrev zcf (s rest : ByteArray) (m : Nat) : ByteArray := (s.extract 0 m ++ (⟨#[10]⟩ : ByteArray)) ++ rest
theorem deeper_calls (s rest : ByteArray) (W : World) (hInv : Inv W) (T c : Nat) (toks : List Tok) (hs : s.size ≤ 140737488351232) (hrs : rest.size ≤ 140737488351232) (hmt : toks.length ≤ 8001) (hT : Toks W T toks) (k : Nat) (n : Int) (hk : k < toks.length) (hn : (tk toks k).place = n)
  (hC : ∀ i, k ≤ i → i < toks.length → ∃ m : Nat, (tk toks i).place = (m : Int) ∧ m ≤ s.size ∧ ((zbh (s.extract 0 m)).2.1 = 90 ∨ ((zbh (s.extract 0 m)).2.1 = 91 ∧ (zbh (s.extract 0 m)).2.2 ≤ n)))
  (hD : ∀ i, k ≤ i → i + 1 < toks.length → (tk toks i).kind = 7 → (tk toks i).text.toList = [59] → ∃ m : Nat, (tk toks (i + 1)).place = (m : Int) ∧ m ≤ s.size ∧ (zbh (s.extract 0 m)).2 = (91, n) ∧ ((zay (zcf s rest m)).2.1 ≠ 0 ∨ (zbh (zcf s rest m)).2 = (91, n))) :
  Calls Tryz.prog 26 #[.string s, .slice (some ⟨T, 0, none⟩) toks.length c, .int .i64 k, .string rest] W fun e W' => e = .returned (.bool true) ∧ Below W.heap.size W W' := by
 have e5k := (hT.cell (zbt toks hk)).2.2.2.2.2
 rw [hn] at e5k
 have HI := Zq.mk hInv
 have HT := Zq.mk hT
 have HC := Zq.mk hC
 have HD := Zq.mk hD
 have hb0 : 0 ≤ (k : Int) ∧ (k : Int) < (toks.length : Int) := by omega
 clear hInv hT hC hD
 go_enter Tryz.func26, Tryz.ntmps26
 go_wp2
 go_loopg [10] (toks.length + 1) (fun f iv wr => ∃ i : Nat, iv = .int .i64 i ∧ k ≤ i ∧ i ≤ toks.length ∧ toks.length - i < f ∧ Zq (Below W.heap.size W wr))
 case atStart => exact ⟨k, rfl, Nat.le_refl _, by omega, by omega, ⟨Below.refl _ _⟩⟩
 case round =>
  obtain ⟨i, rfl, hki, hil, hf, HB⟩ := hrel
  clear e5k
  have hw3 : wrap64 ((k : Int) + 300) = (k : Int) + 300 := by unfold wrap64; omega
  by_cases hgo : i < toks.length ∧ i < k + 300
  ·obtain ⟨m, hm, hms, hr⟩ := HC.out i hki hgo.1
   have e5 := ((zbr HT.out HB.out).cell (zbt toks hgo.1)).2.2.2.2.2
   rw [hm] at e5
   have h1 : (i : Int) < (toks.length : Int) := by omega
   have h2 : (i : Int) < (k : Int) + 300 := by omega
   have hb1 : 0 ≤ (m : Int) ∧ (m : Int) ≤ (s.size : Int) := by omega
   have HP := Zq.mk (fun w (h : Below W.heap.size W w) => zbw (s.extract 0 m) w (HI.out.below h))
   generalize zbh (s.extract 0 m) = r at HP hr
   obtain ⟨pl, g, mm⟩ := r
   dsimp only at HP hr
   obtain ⟨f, rfl⟩ : ∃ f', gk = f' + 1 := ⟨gk - 1, by omega⟩
   rcases hr with rfl | ⟨rfl, hle⟩
   ·go_wp2_with (go_at_call 11; refine (HP.out _ HB.out).mono ?_; rintro e1 w1 ⟨v1, rfl, hP1, hb1⟩; obtain ⟨A1, c1, rfl, -, -⟩ := hP1.C; have HB1 := Zq.mk (zas HB.out HB.out.size (zab hb1 (.cells #[.slice A1 pl.length c1] 36))); clear hP1 hb1)
    go_roundg f
    case measure => omega
    case rel => exact ⟨i + 1, by first | rfl | (congr 1; unfold wrap64; omega), by omega, by omega, by omega, HB1⟩
   ·have hle2 : ¬ mm > n := by omega
    go_wp2_with (go_at_call 11; refine (HP.out _ HB.out).mono ?_; rintro e1 w1 ⟨v1, rfl, hP1, hb1⟩; obtain ⟨A1, c1, rfl, -, -⟩ := hP1.C; have HB1 := Zq.mk (zas HB.out HB.out.size (zab hb1 (.cells #[.slice A1 pl.length c1] 36))); clear hP1 hb1)
    go_roundg f
    case measure => omega
    case rel => exact ⟨i + 1, by first | rfl | (congr 1; unfold wrap64; omega), by omega, by omega, by omega, HB1⟩
  ·have h1n1 := hgo
   by_cases hA : i < toks.length
   ·have h1 : (i : Int) < (toks.length : Int) := by omega
    have h2 : ¬ (i : Int) < (k : Int) + 300 := by omega
    go_wp2
    go_loopg [14] (toks.length + 1) (fun f iv wr => ∃ i : Nat, iv = .int .i64 i ∧ k ≤ i ∧ i < toks.length ∧ toks.length - i < f ∧ Zq (Below W.heap.size W wr))
    case atStart => exact ⟨k, rfl, Nat.le_refl _, hk, by omega, HB⟩
    case round =>
     clear h1 h2 hA h1n1 hw3 HB hgo hki hil hf
     obtain ⟨i2, rfl, hki2, hil2, hf2, HB⟩ := hrel
     have hT2 := (zbr HT.out HB.out).cell (zbt toks hil2)
     obtain ⟨e0, e1, -, -, -, -⟩ := hT2
     have hw1 : wrap64 ((i2 : Int) + 1) = (i2 : Int) + 1 := by unfold wrap64; omega
     have hb2 : 0 ≤ (i2 : Int) ∧ (i2 : Int) < (toks.length : Int) := by omega
     obtain ⟨f, rfl⟩ : ∃ f', gk = f' + 1 := ⟨gk - 1, by omega⟩
     by_cases h1 : i2 + 1 < toks.length
     ·have h1' : (i2 : Int) + 1 < (toks.length : Int) := by omega
      by_cases h2 : (tk toks i2).kind = 7
      ·by_cases h3 : (tk toks i2).text.toList = [59]
       ·-- the next ';'
        obtain ⟨m, hm, hms, hp1, hp2⟩ := HD.out i2 hki2 h1 h2 h3
        have h3' : ((tk toks i2).text.toList == [59]) = true := by rw [h3]; rfl
        have e5n := ((zbr HT.out HB.out).cell (zbt toks h1)).2.2.2.2.2
        rw [hm] at e5n
        have hb3 : 0 ≤ (m : Int) ∧ (m : Int) ≤ (s.size : Int) := by omega
        have hb4 : 0 ≤ (i2 : Int) + 1 := by omega
        have hsz : (s.extract 0 m).size ≤ s.size := by rw [ByteArray.size_extract]; omega
        have HP := Zq.mk (fun w (h : Below W.heap.size W w) => zbw (s.extract 0 m) w (HI.out.below h))
        have HS := Zq.mk (fun w (h : Below W.heap.size W w) => lex_Scan.calls 18000 (zcf s rest m) (zay (zcf s rest m)).1 (zay (zcf s rest m)).2.1 (zay (zcf s rest m)).2.2 _ (HI.out.below h) (zfe _ 18000 (Nat.le_refl _)))
        have HQ := Zq.mk (fun w (h : Below W.heap.size W w) => zbw (zcf s rest m) w (HI.out.below h))
        generalize zbh (s.extract 0 m) = r at HP hp1
        generalize zbh (zcf s rest m) = r2 at HQ hp2
        generalize zay (zcf s rest m) = r3 at HS hp2
        obtain ⟨pl, g, mm⟩ := r
        obtain ⟨pl2, g2, mm2⟩ := r2
        obtain ⟨pl3, g3, mm3⟩ := r3
        dsimp only at HP HQ HS hp1 hp2
        obtain ⟨rfl, rfl⟩ := Prod.mk.inj hp1
        clear HC HD hp1 h3
        by_cases hz : g3 = 0
        ·rcases hp2 with hp2 | hp2
         ·exact absurd hz hp2
         obtain ⟨rfl, rfl⟩ := Prod.mk.inj hp2
         subst hz
         go_wp2_with (first
          | (go_at_call 11; refine (HQ.out _ HB2.out).mono ?_; rintro e3 w3 ⟨v3, rfl, hP1, hb1⟩; obtain ⟨A3, c3, rfl, -, -⟩ := hP1.C; have HB3 := Zq.mk (zas HB2.out HB2.out.size (zab hb1 (.cells #[.slice A3 pl2.length c3] 36))); clear hP1 hb1)
          | (go_at_call 11; refine (HP.out _ HB.out).mono ?_; rintro e1 w1 ⟨v1, rfl, hP1, hb1⟩; obtain ⟨A1, c1, rfl, -, -⟩ := hP1.C; have HB1 := Zq.mk (zas HB.out HB.out.size (zab hb1 (.cells #[.slice A1 pl.length c1] 36))); clear hP1 hb1; have e5m := ((zbr HT.out HB1.out).cell (zbt toks h1)).2.2.2.2.2; rw [hm] at e5m; clear e5n HP)
          | (go_at_call 16; refine (HS.out _ HB1.out).mono ?_; rintro e2 w2 ⟨v2, rfl, hR, hb1⟩; obtain ⟨A2, c2, rfl⟩ := Kd.R_slice hR; have HB2 := Zq.mk (zas HB1.out HB1.out.size hb1); clear hR hb1))
         go_ret
         exact ⟨rfl, HB3.out⟩
        ·go_wp2_with (first
          | (go_at_call 11; refine (HQ.out _ HB2.out).mono ?_; rintro e3 w3 ⟨v3, rfl, hP1, hb1⟩; obtain ⟨A3, c3, rfl, -, -⟩ := hP1.C; have HB3 := Zq.mk (zas HB2.out HB2.out.size (zab hb1 (.cells #[.slice A3 pl2.length c3] 36))); clear hP1 hb1)
          | (go_at_call 11; refine (HP.out _ HB.out).mono ?_; rintro e1 w1 ⟨v1, rfl, hP1, hb1⟩; obtain ⟨A1, c1, rfl, -, -⟩ := hP1.C; have HB1 := Zq.mk (zas HB.out HB.out.size (zab hb1 (.cells #[.slice A1 pl.length c1] 36))); clear hP1 hb1; have e5m := ((zbr HT.out HB1.out).cell (zbt toks h1)).2.2.2.2.2; rw [hm] at e5m; clear e5n HP)
          | (go_at_call 16; refine (HS.out _ HB1.out).mono ?_; rintro e2 w2 ⟨v2, rfl, hR, hb1⟩; obtain ⟨A2, c2, rfl⟩ := Kd.R_slice hR; have HB2 := Zq.mk (zas HB1.out HB1.out.size hb1); clear hR hb1))
         go_ret
         exact ⟨rfl, HB3.out⟩
       ·have h3' : ((tk toks i2).text.toList == [59]) = false := by simpa using h3
        go_wp2
        go_roundg f
        case measure => omega
        case rel => exact ⟨i2 + 1, by first | rfl | (congr 1; unfold wrap64; omega), by omega, by omega, by omega, HB⟩
      ·go_wp2
       go_roundg f
       case measure => omega
       case rel => exact ⟨i2 + 1, by first | rfl | (congr 1; unfold wrap64; omega), by omega, by omega, by omega, HB⟩
     ·have h1' : ¬ (i2 : Int) + 1 < (toks.length : Int) := by omega
      have h1n : (toks.length : Int) ≤ (i2 : Int) + 1 := by omega
      go_wp2
      go_ret
      exact ⟨rfl, HB.out⟩
   ·have h1 : ¬ (i : Int) < (toks.length : Int) := by omega
    go_wp2
    go_loopg [14] (toks.length + 1) (fun f iv wr => ∃ i : Nat, iv = .int .i64 i ∧ k ≤ i ∧ i < toks.length ∧ toks.length - i < f ∧ Zq (Below W.heap.size W wr))
    case atStart => exact ⟨k, rfl, Nat.le_refl _, hk, by omega, HB⟩
    case round =>
     clear h1 hA h1n1 hw3 HB hgo hki hil hf
     obtain ⟨i2, rfl, hki2, hil2, hf2, HB⟩ := hrel
     have hT2 := (zbr HT.out HB.out).cell (zbt toks hil2)
     obtain ⟨e0, e1, -, -, -, -⟩ := hT2
     have hw1 : wrap64 ((i2 : Int) + 1) = (i2 : Int) + 1 := by unfold wrap64; omega
     have hb2 : 0 ≤ (i2 : Int) ∧ (i2 : Int) < (toks.length : Int) := by omega
     obtain ⟨f, rfl⟩ : ∃ f', gk = f' + 1 := ⟨gk - 1, by omega⟩
     by_cases h1 : i2 + 1 < toks.length
     ·have h1' : (i2 : Int) + 1 < (toks.length : Int) := by omega
      by_cases h2 : (tk toks i2).kind = 7
      ·by_cases h3 : (tk toks i2).text.toList = [59]
       ·-- the next ';'
        obtain ⟨m, hm, hms, hp1, hp2⟩ := HD.out i2 hki2 h1 h2 h3
        have h3' : ((tk toks i2).text.toList == [59]) = true := by rw [h3]; rfl
        have e5n := ((zbr HT.out HB.out).cell (zbt toks h1)).2.2.2.2.2
        rw [hm] at e5n
        have hb3 : 0 ≤ (m : Int) ∧ (m : Int) ≤ (s.size : Int) := by omega
        have hb4 : 0 ≤ (i2 : Int) + 1 := by omega
        have hsz : (s.extract 0 m).size ≤ s.size := by rw [ByteArray.size_extract]; omega
        have HP := Zq.mk (fun w (h : Below W.heap.size W w) => zbw (s.extract 0 m) w (HI.out.below h))
        have HS := Zq.mk (fun w (h : Below W.heap.size W w) => lex_Scan.calls 18000 (zcf s rest m) (zay (zcf s rest m)).1 (zay (zcf s rest m)).2.1 (zay (zcf s rest m)).2.2 _ (HI.out.below h) (zfe _ 18000 (Nat.le_refl _)))
        have HQ := Zq.mk (fun w (h : Below W.heap.size W w) => zbw (zcf s rest m) w (HI.out.below h))
        generalize zbh (s.extract 0 m) = r at HP hp1
        generalize zbh (zcf s rest m) = r2 at HQ hp2
        generalize zay (zcf s rest m) = r3 at HS hp2
        obtain ⟨pl, g, mm⟩ := r
        obtain ⟨pl2, g2, mm2⟩ := r2
        obtain ⟨pl3, g3, mm3⟩ := r3
        dsimp only at HP HQ HS hp1 hp2
        obtain ⟨rfl, rfl⟩ := Prod.mk.inj hp1
        clear HC HD hp1 h3
        by_cases hz : g3 = 0
        ·rcases hp2 with hp2 | hp2
         ·exact absurd hz hp2
         obtain ⟨rfl, rfl⟩ := Prod.mk.inj hp2
         subst hz
         go_wp2_with (first
          | (go_at_call 11; refine (HQ.out _ HB2.out).mono ?_; rintro e3 w3 ⟨v3, rfl, hP1, hb1⟩; obtain ⟨A3, c3, rfl, -, -⟩ := hP1.C; have HB3 := Zq.mk (zas HB2.out HB2.out.size (zab hb1 (.cells #[.slice A3 pl2.length c3] 36))); clear hP1 hb1)
          | (go_at_call 11; refine (HP.out _ HB.out).mono ?_; rintro e1 w1 ⟨v1, rfl, hP1, hb1⟩; obtain ⟨A1, c1, rfl, -, -⟩ := hP1.C; have HB1 := Zq.mk (zas HB.out HB.out.size (zab hb1 (.cells #[.slice A1 pl.length c1] 36))); clear hP1 hb1; have e5m := ((zbr HT.out HB1.out).cell (zbt toks h1)).2.2.2.2.2; rw [hm] at e5m; clear e5n HP)
          | (go_at_call 16; refine (HS.out _ HB1.out).mono ?_; rintro e2 w2 ⟨v2, rfl, hR, hb1⟩; obtain ⟨A2, c2, rfl⟩ := Kd.R_slice hR; have HB2 := Zq.mk (zas HB1.out HB1.out.size hb1); clear hR hb1))
         go_ret
         exact ⟨rfl, HB3.out⟩
        ·go_wp2_with (first
          | (go_at_call 11; refine (HQ.out _ HB2.out).mono ?_; rintro e3 w3 ⟨v3, rfl, hP1, hb1⟩; obtain ⟨A3, c3, rfl, -, -⟩ := hP1.C; have HB3 := Zq.mk (zas HB2.out HB2.out.size (zab hb1 (.cells #[.slice A3 pl2.length c3] 36))); clear hP1 hb1)
          | (go_at_call 11; refine (HP.out _ HB.out).mono ?_; rintro e1 w1 ⟨v1, rfl, hP1, hb1⟩; obtain ⟨A1, c1, rfl, -, -⟩ := hP1.C; have HB1 := Zq.mk (zas HB.out HB.out.size (zab hb1 (.cells #[.slice A1 pl.length c1] 36))); clear hP1 hb1; have e5m := ((zbr HT.out HB1.out).cell (zbt toks h1)).2.2.2.2.2; rw [hm] at e5m; clear e5n HP)
          | (go_at_call 16; refine (HS.out _ HB1.out).mono ?_; rintro e2 w2 ⟨v2, rfl, hR, hb1⟩; obtain ⟨A2, c2, rfl⟩ := Kd.R_slice hR; have HB2 := Zq.mk (zas HB1.out HB1.out.size hb1); clear hR hb1))
         go_ret
         exact ⟨rfl, HB3.out⟩
       ·have h3' : ((tk toks i2).text.toList == [59]) = false := by simpa using h3
        go_wp2
        go_roundg f
        case measure => omega
        case rel => exact ⟨i2 + 1, by first | rfl | (congr 1; unfold wrap64; omega), by omega, by omega, by omega, HB⟩
      ·go_wp2
       go_roundg f
       case measure => omega
       case rel => exact ⟨i2 + 1, by first | rfl | (congr 1; unfold wrap64; omega), by omega, by omega, by omega, HB⟩
     ·have h1' : ¬ (i2 : Int) + 1 < (toks.length : Int) := by omega
      have h1n : (toks.length : Int) ≤ (i2 : Int) + 1 := by omega
      go_wp2
      go_ret
      exact ⟨rfl, HB.out⟩
end
end Go.Proofs.YtjeekocidaogoaaGreatDoor.H

/- The walk of lychgatelaw08.apart: lists that are the call's own, no two of which lie in one block, are written over, grown and read again. -/
import Derived.Test.YthllfnmebdjpfaaGreatDoorProg
import Derived.Test.YthllfnmebdjpfaaGreatDoorK4Marks
import Derived.KernelRfl
import Derived.Deep.LoopGhost
import Derived.Deep.QuietTactic
import Derived.BigQuiet
namespace Go.Proofs.YthllfnmebdjpfaaGreatDoor.Hand
open Go.RowKit Go.Proofs.YthllfnmebdjpfaaGreatDoorW.PrintWords Go.Proofs.YthllfnmebdjpfaaGreatDoorW.PrintLast Go.Proofs.YthllfnmebdjpfaaGreatDoorW.PrintMore
set_option linter.unusedVariables false
set_option linter.unusedSimpArgs false

/-- What is told of the lists that are held against each other. -/
structure ApartIn (b0 : Nat) (w0 w : World) (L Lw n : Nat) (rows wrows : Nat → Value) (m f : Nat → Nat) : Prop where
  below : Below b0 w0 w
  base : b0 ≤ w0.heap.size
  n0 : 0 < n
  n1 : n ≤ 100
  hl : ∃ cs, w.heap[L]? = some (.cells cs 26 (0, 0)) ∧ ∀ i, i < n → cs[i]? = some (rows i)
  hw : ∀ i, i < n → w.cell? ⟨Lw, i, none⟩ = some (wrows i)
  same : ∀ i, i < n → ∀ W, Drawn0 w W → Calls Tryz.prog 8 #[rows i, wrows i] W fun e W' => e = .returned (.bool true) ∧ Drawn0 W W'
  row : ∀ i, i < n → ∃ xs, w.ownsRow b0 38 6 (rows i) (m i) xs
  m1 : ∀ i, i < n → m i ≤ 100000
  own : ∀ i, i < n → ∀ g, (rows i).ownBlock = some g → f g = i

/-- The mark of the i-th list. -/
def mkT (i : Nat) : List Value := [.int .i64 (-1 - (i : Int)), .string ⟨#[]⟩, .int .i64 0, .int .i64 0, .int .i64 0, .int .i64 0]
/-- While marks are laid down: in the lists ahead of the i-th, and in that up to its k-th. -/
structure Rows2 (b0 : Nat) (w0 : World) (L n : Nat) (rows : Nat → Value) (m : Nat → Nat) (i k : Nat) (W : World) : Prop where
  below : Below b0 w0 W
  hl : ∃ cs, W.heap[L]? = some (.cells cs 26 (0, 0)) ∧ ∀ i, i < n → cs[i]? = some (rows i)
  row : ∀ j, j < n → ∃ xs, W.ownsRow b0 38 6 (rows j) (m j) xs ∧ (j < i → Marks (mkT j) (fun q => xs[q]?) (m j)) ∧ (j = i → Marks (mkT j) (fun q => xs[q]?) k)
theorem ApartIn.start {b0 : Nat} {w0 w : World} {L Lw n : Nat} {rows wrows : Nat → Value} {m f : Nat → Nat} (H : ApartIn b0 w0 w L Lw n rows wrows m f) {W : World} (hD : Drawn0 w W) : Rows2 b0 w0 L n rows m 0 0 W := by
  obtain ⟨nd, rfl⟩ := hD
  refine ⟨pw_below_drewN H.below nd, H.hl, fun j hj => ?_⟩
  obtain ⟨xs, hx⟩ := H.row j hj
  exact ⟨xs, hx, fun h => by omega, fun _ q hq => by omega⟩

/-- Six cells stored one behind the other. -/
def put6 (cs : Array Value) (p : Nat) (v0 v1 v2 v3 v4 v5 : Value) : Array Value :=
  (((((cs.setIfInBounds p v0).setIfInBounds (p + 1) v1).setIfInBounds (p + 2) v2).setIfInBounds (p + 3) v3).setIfInBounds (p + 4) v4).setIfInBounds (p + 5) v5
theorem put6_size (cs : Array Value) (p : Nat) (v0 v1 v2 v3 v4 v5 : Value) : (put6 cs p v0 v1 v2 v3 v4 v5).size = cs.size := by simp [put6]
theorem put6_far (cs : Array Value) (p : Nat) (v0 v1 v2 v3 v4 v5 : Value) (x : Nat) (h : x < p ∨ p + 6 ≤ x) : (put6 cs p v0 v1 v2 v3 v4 v5)[x]? = cs[x]? := by
  unfold put6
  rw [Array.getElem?_setIfInBounds_ne (by omega), Array.getElem?_setIfInBounds_ne (by omega), Array.getElem?_setIfInBounds_ne (by omega), Array.getElem?_setIfInBounds_ne (by omega), Array.getElem?_setIfInBounds_ne (by omega), Array.getElem?_setIfInBounds_ne (by omega)]
theorem put6_at (cs : Array Value) (p : Nat) (v0 v1 v2 v3 v4 v5 : Value) (h : p + 6 ≤ cs.size) (r : Nat) (hr : r < 6) : (put6 cs p v0 v1 v2 v3 v4 v5)[p + r]? = [v0, v1, v2, v3, v4, v5][r]? := by
  unfold put6
  match r, hr with
  | 0, _ => rw [Array.getElem?_setIfInBounds_ne (by omega), Array.getElem?_setIfInBounds_ne (by omega), Array.getElem?_setIfInBounds_ne (by omega), Array.getElem?_setIfInBounds_ne (by omega), Array.getElem?_setIfInBounds_ne (by omega), Nat.add_zero, Array.getElem?_setIfInBounds_self_of_lt (by omega)]; rfl
  | 1, _ => rw [Array.getElem?_setIfInBounds_ne (by omega), Array.getElem?_setIfInBounds_ne (by omega), Array.getElem?_setIfInBounds_ne (by omega), Array.getElem?_setIfInBounds_ne (by omega), Array.getElem?_setIfInBounds_self_of_lt (by simp; omega)]; rfl
  | 2, _ => rw [Array.getElem?_setIfInBounds_ne (by omega), Array.getElem?_setIfInBounds_ne (by omega), Array.getElem?_setIfInBounds_ne (by omega), Array.getElem?_setIfInBounds_self_of_lt (by simp; omega)]; rfl
  | 3, _ => rw [Array.getElem?_setIfInBounds_ne (by omega), Array.getElem?_setIfInBounds_ne (by omega), Array.getElem?_setIfInBounds_self_of_lt (by simp; omega)]; rfl
  | 4, _ => rw [Array.getElem?_setIfInBounds_ne (by omega), Array.getElem?_setIfInBounds_self_of_lt (by simp; omega)]; rfl
  | 5, _ => rw [Array.getElem?_setIfInBounds_self_of_lt (by simp; omega)]; rfl
/-- The world behind six stores. -/
def st6 (W : World) (g p : Nat) (v0 v1 v2 v3 v4 v5 : Value) : World :=
  (((((W.setCell ⟨g, p, none⟩ v0).setCell ⟨g, p + 1, none⟩ v1).setCell ⟨g, p + 2, none⟩ v2).setCell ⟨g, p + 3, none⟩ v3).setCell ⟨g, p + 4, none⟩ v4).setCell ⟨g, p + 5, none⟩ v5
theorem st6_at {W : World} {g t : Nat} {cs : Array Value} (h : W.heap[g]? = some (.cells cs t (0, 0))) (p : Nat) (v0 v1 v2 v3 v4 v5 : Value) : (st6 W g p v0 v1 v2 v3 v4 v5).heap[g]? = some (.cells (put6 cs p v0 v1 v2 v3 v4 v5) t (0, 0)) :=
  blk_put (blk_put (blk_put (blk_put (blk_put (blk_put h p v0 rfl) (p + 1) v1 rfl) (p + 2) v2 rfl) (p + 3) v3 rfl) (p + 4) v4 rfl) (p + 5) v5 rfl
theorem st6_far {W : World} {k t g : Nat} {cs : Array Value} (h : W.heap[k]? = some (.cells cs t (0, 0))) (hne : k ≠ g) (p : Nat) (v0 v1 v2 v3 v4 v5 : Value) : (st6 W g p v0 v1 v2 v3 v4 v5).heap[k]? = some (.cells cs t (0, 0)) :=
  blk_far (blk_far (blk_far (blk_far (blk_far (blk_far h hne _) hne _) hne _) hne _) hne _) hne _
theorem st6_own {W : World} {base e size n g : Nat} {v : Value} {xs : List Value} (h : W.ownsRow base e size v n xs) (hne : some g ≠ v.ownBlock) (p : Nat) (v0 v1 v2 v3 v4 v5 : Value) : (st6 W g p v0 v1 v2 v3 v4 v5).ownsRow base e size v n xs :=
  own_setCell (own_setCell (own_setCell (own_setCell (own_setCell (own_setCell h hne _) hne _) hne _) hne _) hne _) hne _
theorem st6_below {W w0 : World} {b g : Nat} (h : Below b w0 W) (hb : b ≤ g) (p : Nat) (v0 v1 v2 v3 v4 v5 : Value) : Below b w0 (st6 W g p v0 v1 v2 v3 v4 v5) :=
  (((((h.setCell hb _).setCell hb _).setCell hb _).setCell hb _).setCell hb _).setCell hb _
theorem types_ne {W : World} {a g t u : Nat} {cs ds : Array Value} (h : W.heap[a]? = some (.cells cs t (0, 0))) (k : W.heap[g]? = some (.cells ds u (0, 0))) (hne : t ≠ u) : a ≠ g := by
  rintro rfl
  rw [h] at k
  injection k with k
  injection k with _ k2
  exact hne k2
theorem Rows2.put {b0 : Nat} {w0 : World} {L n : Nat} {rows : Nat → Value} {m f : Nat → Nat} {i k g cap : Nat} {W : World} {cur : Array Value} (H : Rows2 b0 w0 L n rows m i k W)
    (hf : ∀ i, i < n → ∀ g, (rows i).ownBlock = some g → f g = i) (hi : i < n) (hk : k < m i) (hA : rows i = .slice (some ⟨g, 0, none⟩) (m i) cap) (hbg : b0 ≤ g) (hgg : W.heap[g]? = some (.cells cur 38 (0, 0)))
    (hnc : m i ≤ cap) (hcm : cap ≤ maxLen) (hcz : cur.size = cap * 6) : Rows2 b0 w0 L n rows m i (k + 1) (st6 W g (k * 6) (.int .i64 (-1 - (i : Int))) (.string ⟨#[]⟩) (.int .i64 0) (.int .i64 0) (.int .i64 0) (.int .i64 0)) := by
  obtain ⟨hb, ⟨cs, hc1, hc2⟩, hr⟩ := H
  have ho : (rows i).ownBlock = some g := by rw [hA]; rfl
  refine ⟨st6_below hb hbg _ _ _ _ _ _ _, ⟨cs, st6_far hc1 (types_ne hc1 hgg (by decide)) _ _ _ _ _ _ _, hc2⟩, fun j hj => ?_⟩
  by_cases hji : j = i
  · subst hji
    obtain ⟨xs, hx, _, hx2⟩ := hr j hj
    obtain ⟨A, cap', hA', hg'⟩ := own_form hx
    obtain ⟨g', cur', hAg, ho', _, hgg', _, _, _, htk⟩ := hg' (by omega)
    have e1 : g' = g := by rw [ho] at ho'; exact (Option.some.inj ho').symm
    subst e1
    rw [hgg] at hgg'
    have e2 : cur = cur' := by injection hgg' with h; injection h
    subst e2
    have hsz := put6_size cur (k * 6) (.int .i64 (-1 - (j : Int))) (.string ⟨#[]⟩) (.int .i64 0) (.int .i64 0) (.int .i64 0) (.int .i64 0)
    have hfit : k * 6 + 6 ≤ cur.size := by omega
    have hcl : ∀ a : Array Value, a.toList.length = a.size := fun a => Array.length_toList
    refine ⟨(put6 cur (k * 6) (.int .i64 (-1 - (j : Int))) (.string ⟨#[]⟩) (.int .i64 0) (.int .i64 0) (.int .i64 0) (.int .i64 0)).toList.take (m j * 6), ⟨?_, .inr ⟨g', cap, _, hA, hbg, st6_at hgg _ _ _ _ _ _ _, hnc, hcm, hsz.trans hcz, rfl⟩⟩, fun h => by omega, fun _ q hq r hr => ?_⟩
    · rw [List.length_take, hcl, hsz, hcz]; omega
    · have hr6 : r < 6 := hr
      show (List.take (m j * 6) _)[q * 6 + r]? = _
      rw [List.getElem?_take, if_pos (by omega), Array.getElem?_toList]
      by_cases hqk : q = k
      · subst hqk
        exact put6_at cur (q * 6) _ _ _ _ _ _ hfit r hr6
      · rw [put6_far cur (k * 6) _ _ _ _ _ _ _ (by omega)]
        have := hx2 rfl q (by omega) r hr
        have this : xs[q * 6 + r]? = (mkT j)[r]? := this
        rw [← this, ← htk, List.getElem?_take, if_pos (by omega), Array.getElem?_toList]
  · obtain ⟨xs, hx, hx1, hx2⟩ := hr j hj
    refine ⟨xs, st6_own hx ?_ _ _ _ _ _ _ _, hx1, fun h => absurd h hji⟩
    intro he
    have h1 := hf j hj g he.symm
    have h2 := hf i hi g ho
    omega

/-- A list with marks alone, p of them, in a block of its owner. -/
def Cur (b0 : Nat) (W : World) (f : Nat → Nat) (i : Nat) (x : Value) (p : Nat) : Prop :=
  ∃ xs, W.ownsRow b0 38 6 x p xs ∧ Marks (mkT i) (fun q => xs[q]?) p ∧ ∀ g, x.ownBlock = some g → f g = i
/-- What was put down, too. -/
def Seen (W : World) (f : Nat → Nat) (i : Nat) (x : Value) : Prop :=
  ∃ g p c cs, x = .slice (some ⟨g, 0, none⟩) p c ∧ f g = i ∧ W.heap[g]? = some (.cells cs 38 (0, 0)) ∧ Marks (mkT i) (fun q => cs[q]?) p ∧ p ≤ 200000
/-- While lists are grown: those from the j0-th on, what was put down. -/
structure Rows3 (b0 : Nat) (w0 : World) (L n : Nat) (rows : Nat → Value) (m f : Nat → Nat) (j0 : Nat) (Xs : List Value) (va : Value) (W : World) : Prop where
  below : Below b0 w0 W
  base : b0 ≤ W.heap.size
  hl : ∃ cs, W.heap[L]? = some (.cells cs 26 (0, 0)) ∧ ∀ i, i < n → cs[i]? = some (rows i)
  row : ∀ j, j0 ≤ j → j < n → Cur b0 W f j (rows j) (m j)
  seen : ∀ q X, Xs[q]? = some X → Seen W f (q / 5) X
  all : W.ownsRow b0 26 1 va Xs.length Xs
  allL : va.ownBlock ≠ some L
theorem own_blk {W : World} {base e size n g : Nat} {v : Value} {xs : List Value} (h : W.ownsRow base e size v n xs) (hg : v.ownBlock = some g) : ∃ cs, W.heap[g]? = some (.cells cs e (0, 0)) := by
  rcases h.2 with ⟨rfl, _⟩ | ⟨g', cap, cur, rfl, _, hh, _⟩
  · simp [Value.ownBlock] at hg
  · have : g' = g := by simpa [Value.ownBlock] using hg
    subst this
    exact ⟨_, hh⟩
/-- Rows of two types do not lie in one block. -/
theorem own_apart {W : World} {base e size n base' e' size' n' : Nat} {v u : Value} {xs ys : List Value} (h : W.ownsRow base e size v n xs) (k : W.ownsRow base' e' size' u n' ys) (hne : e ≠ e') : v.ownBlock = none ∨ v.ownBlock ≠ u.ownBlock := by
  cases hv : v.ownBlock with
  | none => exact .inl rfl
  | some g =>
    refine .inr fun hu => ?_
    obtain ⟨cs, h1⟩ := own_blk h hv
    obtain ⟨ds, h2⟩ := own_blk k hu.symm
    exact types_ne h1 h2 hne rfl
theorem Cur.kept {b0 : Nat} {W w1 : World} {f f' : Nat → Nat} {i p : Nat} {x : Value} {row : Option Nat} (h : Cur b0 W f i x p) (hg : W.grownBy w1 row) (hne : x.ownBlock = none ∨ x.ownBlock ≠ row) (hf : ∀ g, g < W.heap.size → f' g = f g) : Cur b0 w1 f' i x p := by
  obtain ⟨xs, h1, h2, h3⟩ := h
  exact ⟨xs, h1.kept hg hne, h2, fun g hgb => (hf g (h1.lt g hgb).2).trans (h3 g hgb)⟩
theorem Rows3.app1 {b0 : Nat} {w0 : World} {L n : Nat} {rows : Nat → Value} {m f : Nat → Nat} {i p : Nat} {Xs xs : List Value} {va x v1 : Value} {W w1 : World}
    (H : Rows3 b0 w0 L n rows m f (i + 1) Xs va W) (hx : W.ownsRow b0 38 6 x p xs) (hm : Marks (mkT i) (fun q => xs[q]?) p) (hf : ∀ g, x.ownBlock = some g → f g = i)
    (ho : w1.ownsRow b0 38 6 v1 (p + 1) (xs ++ mkT i)) (hb : Below b0 w0 w1) (hg : W.grownBy w1 x.ownBlock) (hat : v1.ownBlock = x.ownBlock ∨ v1.ownBlock = some (W.heap.size + 1))
    (hk : ∀ g cs, x.ownBlock = some g → W.heap[g]? = some (.cells cs 38 (0, 0)) → ∃ cs', w1.heap[g]? = some (.cells cs' 38 (0, 0)) ∧ Turned (fun j => cs[j]?) (fun j => cs'[j]?) (p * 6) (mkT i)) :
    ∃ f', Rows3 b0 w0 L n rows m f' (i + 1) Xs va w1 ∧ Cur b0 w1 f' i v1 (p + 1) := by
  have hold : ∀ g, g < W.heap.size → (if g = W.heap.size + 1 then i else f g) = f g := fun g hlt => if_neg (by omega)
  refine ⟨fun g => if g = W.heap.size + 1 then i else f g, ⟨hb, Nat.le_trans H.base hg.size, ?_, fun j h1 h2 => ?_, fun q X hX => ?_, H.all.kept hg (own_apart H.all hx (by decide)), H.allL⟩, ⟨_, ho, Marks.snoc hm hx.1, fun g hgb => ?_⟩⟩
  · obtain ⟨cs, h1, h2⟩ := H.hl
    exact ⟨cs, (hg.block L (blk_lt h1) (own_ne hx h1 (by decide))).trans h1, h2⟩
  · have hc := H.row j h1 h2
    refine hc.kept hg ?_ hold
    cases hv : (rows j).ownBlock with
    | none => exact .inl rfl
    | some g =>
      refine .inr fun hu => ?_
      obtain ⟨ys, h3, h4, h5⟩ := hc
      have := h5 g hv
      have := hf g hu.symm
      omega
  · obtain ⟨g, p', c, cs, hX1, hX2, hX3, hX4, hX5⟩ := H.seen q X hX
    by_cases hu : x.ownBlock = some g
    · obtain ⟨cs', h1, h2⟩ := hk g cs hu hX3
      have hq : q / 5 = i := by rw [← hX2]; exact hf g hu
      rw [hq] at hX4
      refine ⟨g, p', c, cs', hX1, (hold g (blk_lt hX3)).trans hX2, h1, ?_, hX5⟩
      rw [hq]
      exact hX4.turned h2
    · exact ⟨g, p', c, cs, hX1, (hold g (blk_lt hX3)).trans hX2, (hg.block g (blk_lt hX3) (fun e => hu e.symm)).trans hX3, hX4, hX5⟩
  · rcases hat with hat | hat
    · rw [hat] at hgb
      exact (hold g (hx.lt g hgb).2).trans (hf g hgb)
    · rw [hat] at hgb
      obtain rfl := Option.some.inj hgb
      exact if_pos rfl
theorem Rows3.app2 {b0 : Nat} {w0 : World} {L n : Nat} {rows : Nat → Value} {m f : Nat → Nat} {i p : Nat} {Xs : List Value} {va x v2 : Value} {W w2 : World}
    (H : Rows3 b0 w0 L n rows m f (i + 1) Xs va W) (hx : Cur b0 W f i x p) (h0 : 0 < p) (hp : p ≤ 200000) (hl : Xs.length / 5 = i)
    (ho : w2.ownsRow b0 26 1 v2 (Xs.length + 1) (Xs ++ [x])) (hb : Below b0 w0 w2) (hg : W.grownBy w2 va.ownBlock) (hat : v2.ownBlock = va.ownBlock ∨ v2.ownBlock = some (W.heap.size + 1)) :
    Rows3 b0 w0 L n rows m f (i + 1) (Xs ++ [x]) v2 w2 ∧ Cur b0 w2 f i x p := by
  have hseen : ∀ j X, Seen W f j X → Seen w2 f j X := by
    rintro j X ⟨g, p', c, cs, hX1, hX2, hX3, hX4, hX5⟩
    exact ⟨g, p', c, cs, hX1, hX2, (hg.block g (blk_lt hX3) (own_ne H.all hX3 (by decide))).trans hX3, hX4, hX5⟩
  refine ⟨⟨hb, Nat.le_trans H.base hg.size, ?_, fun j h1 h2 => ?_, fun q X hX => ?_, ?_, ?_⟩, ?_⟩
  · obtain ⟨cs, h1, h2⟩ := H.hl
    exact ⟨cs, (hg.block L (blk_lt h1) (fun e => H.allL e.symm)).trans h1, h2⟩
  · have hc := H.row j h1 h2
    refine hc.kept hg ?_ (fun _ _ => rfl)
    obtain ⟨ys, h3, _⟩ := hc
    exact own_apart h3 H.all (by decide)
  · by_cases hq : q < Xs.length
    · rw [List.getElem?_append_left hq] at hX
      exact hseen _ _ (H.seen q X hX)
    · have hq' : q = Xs.length := by
        have := (List.getElem?_eq_some_iff.1 hX).1
        rw [List.length_append, List.length_singleton] at this
        omega
      subst hq'
      rw [List.getElem?_append_right (Nat.le_refl _), Nat.sub_self] at hX
      obtain rfl := Option.some.inj hX
      rw [hl]
      refine hseen _ _ ?_
      obtain ⟨xs, h1, h2, h3⟩ := hx
      obtain ⟨A, cap, hA, hgo⟩ := own_form h1
      obtain ⟨g, cur, hAg, hob, _, hh, hn, hc, hz, htk⟩ := hgo h0
      subst hAg
      refine ⟨g, p, cap, cur, hA, h3 g hob, hh, fun q hq r hr => ?_, hp⟩
      have hr6 : r < 6 := hr
      have := h2 q hq r hr
      have this : xs[q * 6 + r]? = (mkT i)[r]? := this
      show cur[q * 6 + r]? = _
      rw [← this, ← htk, List.getElem?_take, if_pos (by omega), Array.getElem?_toList]
  · rw [List.length_append, List.length_singleton]; exact ho
  · rcases hat with hat | hat
    · rw [hat]; exact H.allL
    · rw [hat]
      obtain ⟨cs, h1, _⟩ := H.hl
      have := blk_lt h1
      intro e
      have := Option.some.inj e
      omega
  · refine hx.kept hg ?_ (fun _ _ => rfl)
    obtain ⟨xs, h1, _⟩ := hx
    exact own_apart h1 H.all (by decide)
theorem Rows3.next {b0 : Nat} {w0 : World} {L n : Nat} {rows : Nat → Value} {m f : Nat → Nat} {i : Nat} {Xs : List Value} {va : Value} {W : World} (H : Rows3 b0 w0 L n rows m f i Xs va W) : Rows3 b0 w0 L n rows m f (i + 1) Xs va W :=
  ⟨H.below, H.base, H.hl, fun j h1 h2 => H.row j (by omega) h2, H.seen, H.all, H.allL⟩
theorem all_cell {W : World} {b0 e N cap q : Nat} {A : Option Addr} {Xs : List Value} (h : W.ownsRow b0 e 1 (.slice A N cap) Xs.length Xs) (hN : Xs.length = N) (hq : q < N) :
    ∃ ga X, A = some ⟨ga, 0, none⟩ ∧ W.cell? ⟨ga, q, none⟩ = some X ∧ Xs[q]? = some X := by
  obtain ⟨A', cap', hA, hg⟩ := own_form h
  obtain ⟨g, cur, hAg, _, _, hh, _, _, _, htk⟩ := hg (by omega)
  injection hA with h1 h2 h3
  subst h1
  refine ⟨g, Xs[q]'(by omega), hAg, ?_, List.getElem?_eq_getElem _⟩
  rw [blk_cell hh, ← List.getElem?_eq_getElem (by omega)]
  have e : Xs[q]? = (cur.toList.take (Xs.length * 1))[q]? := by rw [htk]
  rw [e, List.getElem?_take, if_pos (by omega), Array.getElem?_toList]
theorem Rows2.grow {b0 : Nat} {w0 : World} {L n : Nat} {rows : Nat → Value} {m f : Nat → Nat} {W : World} (H : Rows2 b0 w0 L n rows m n 0 W) (hb : b0 ≤ W.heap.size) (hf : ∀ i, i < n → ∀ g, (rows i).ownBlock = some g → f g = i) :
    Rows3 b0 w0 L n rows m f 0 [] (.slice none 0 0) W := by
  refine ⟨H.below, hb, H.hl, fun j _ hj => ?_, fun q X hX => by simp at hX, World.ownsRow_nil _ _ _ _, by simp [Value.ownBlock]⟩
  obtain ⟨xs, h1, h2, _⟩ := H.row j hj
  exact ⟨xs, h1, h2 hj, hf j hj⟩
theorem Rows2.next {b0 : Nat} {w0 : World} {L n : Nat} {rows : Nat → Value} {m : Nat → Nat} {i : Nat} {W : World} (H : Rows2 b0 w0 L n rows m i (m i) W) : Rows2 b0 w0 L n rows m (i + 1) 0 W := by
  refine ⟨H.below, H.hl, fun j hj => ?_⟩
  obtain ⟨xs, h1, h2, h3⟩ := H.row j hj
  refine ⟨xs, h1, fun h => ?_, fun _ q hq => by omega⟩
  by_cases e : j = i
  · subst e; exact h3 rfl
  · exact h2 (by omega)

set_option maxRecDepth 100000 in
set_option maxHeartbeats 400000 in
theorem apart_walk (b0 : Nat) (w0 w : World) (L Lw n cL cLw : Nat) (rows wrows : Nat → Value) (m f : Nat → Nat) (H : ApartIn b0 w0 w L Lw n rows wrows m f) :
    Calls Tryz.prog 9 #[.slice (some ⟨L, 0, none⟩) n cL, .slice (some ⟨Lw, 0, none⟩) n cLw] w fun e w' => e = .returned (.bool true) ∧ Below b0 w0 w' := by
  have HH := Aside0.mk H
  have N0 := H.n0
  have N1 := H.n1
  clear H
  go_enter Tryz.func9, Tryz.ntmps9
  go_wp2
  go_loopw [5] (fun v W => ∃ i : Nat, i ≤ n ∧ v = .int .i64 i ∧ Drawn0 w W) (fun v _ => n - (intOf v).toNat)
  case atStart => exact ⟨0, by omega, rfl, Drawn0.refl _⟩
  case round =>
    obtain ⟨i, hi, rfl, HD⟩ := hrel
    by_cases hlt : i < n
    · obtain ⟨cs, hc1, hc2⟩ := HH.out.hl
      have c0 : wr.cell? ⟨L, i, none⟩ = some (rows i) := by
        obtain ⟨nd, rfl⟩ := HD.out
        exact (blk_cell hc1 i).trans (hc2 i hlt)
      have c1 : wr.cell? ⟨Lw, i, none⟩ = some (wrows i) := by
        obtain ⟨nd, rfl⟩ := HD.out
        exact HH.out.hw i hlt
      have HS := Aside0.mk (HH.out.same i hlt)
      clear hc1 hc2
      go_wp2
      go_quiet (first | (go_at_call 8; exact Calls.quiet_of ((HS.out _ (HD.step _)).mono fun _ _ h => ⟨h.1, h.2.out⟩)))
      go_wp2
      go_roundw
      case rel => exact ⟨i + 1, by omega, by go_num, HD.step _⟩
      case measure => simp [intOf]; omega
    · obtain rfl : n = i := by omega
      have HR := HH.out.start HD
      clear HD hlt hi
      go_wp2
      go_loopw [7] (fun v W => ∃ i : Nat, i ≤ n ∧ v = .int .i64 i ∧ Aside0 (Rows2 b0 w0 L n rows m i 0 W)) (fun v _ => n - (intOf v).toNat)
      case atStart => exact ⟨0, by omega, rfl, ⟨HR⟩⟩
      case round =>
        obtain ⟨i, hi, rfl, HR⟩ := hrel
        by_cases hlt : i < n
        · obtain ⟨cs, hc1, hc2⟩ := HR.out.hl
          have c0 : wr.cell? ⟨L, i, none⟩ = some (rows i) := (blk_cell hc1 i).trans (hc2 i hlt)
          clear hc1 hc2
          go_wp2
          go_loopw [8] (fun v W => ∃ k : Nat, k ≤ m i ∧ v = .int .i64 k ∧ Aside0 (Rows2 b0 w0 L n rows m i k W)) (fun v _ => m i - (intOf v).toNat)
          case atStart => exact ⟨0, by omega, rfl, HR⟩
          case round =>
            obtain ⟨k, hk, rfl, HR⟩ := hrel
            obtain ⟨cs, hc1, hc2⟩ := HR.out.hl
            have c0 : wr.cell? ⟨L, i, none⟩ = some (rows i) := (blk_cell hc1 i).trans (hc2 i hlt)
            clear hc1 hc2
            obtain ⟨xs, hx, hx1, hx2⟩ := HR.out.row i hlt
            obtain ⟨A, cap, hA, hg⟩ := own_form hx
            rw [hA] at c0
            by_cases hk' : k < m i
            · obtain ⟨g, cur, rfl, ho, hbg, hgg, hnc, hcm, hcz, htk⟩ := hg (by omega)
              have d : ∀ r, r < 6 → wr.cell? ⟨g, k * 6 + r, none⟩ = some ((cur[k * 6 + r]?).getD default) := fun r hr => by
                rw [blk_cell hgg]
                have : k * 6 + r < cur.size := by rw [hcz]; omega
                rw [Array.getElem?_eq_getElem this]; rfl
              have d0 := d 0 (by decide)
              rw [Nat.add_zero] at d0
              have d1 := d 1 (by decide)
              have d2 := d 2 (by decide)
              have d3 := d 3 (by decide)
              have d4 := d 4 (by decide)
              have d5 := d 5 (by decide)
              have f0 := blk_frozen hgg (k * 6)
              have f1 := blk_frozen hgg (k * 6 + 1)
              have f2 := blk_frozen hgg (k * 6 + 2)
              have f3 := blk_frozen hgg (k * 6 + 3)
              have f4 := blk_frozen hgg (k * 6 + 4)
              have f5 := blk_frozen hgg (k * 6 + 5)
              clear d hx hx1 hx2 hg
              go_wp2
              have hm := HH.out.m1 i hlt
              have hw : wrap64 ((k : Int) + 1) = ((k + 1 : Nat) : Int) := by unfold wrap64; omega
              go_roundw
              case rel =>
                refine ⟨k + 1, by omega, by rw [hw], ⟨?_⟩⟩
                have hh := HR.out.put HH.out.own hlt hk' hA hbg hgg hnc hcm hcz
                exact hh
              case measure => rw [hw]; simp [intOf]; omega
            · obtain rfl : m i = k := by omega
              have HR' := Aside0.mk HR.out.next
              clear hg hx hx1 hx2 HR
              go_wp2
              go_roundw
              case rel => exact ⟨i + 1, by omega, by go_num, HR'⟩
              case measure => simp [intOf]; omega
        · obtain rfl : n = i := by omega
          have HR3 := Aside0.mk (HR.out.grow (Nat.le_trans HH.out.base HR.out.below.size) HH.out.own)
          clear HR hlt hi
          go_wp2
          go_loopw [9, 10] (fun va v W => ∃ i : Nat, ∃ f : Nat → Nat, ∃ Xs : List Value, i ≤ n ∧ v = .int .i64 i ∧ Xs.length = 5 * i ∧ Aside0 (Rows3 b0 w0 L n rows m f i Xs va W)) (fun _ v _ => n - (intOf v).toNat)
          case atStart => exact ⟨0, f, [], by omega, rfl, rfl, HR3⟩
          case round =>
            clear HR3
            obtain ⟨i, f, Xs, hi, rfl, hXs, HR⟩ := hrel
            by_cases hlt : i < n
            · obtain ⟨cs, hc1, hc2⟩ := HR.out.hl
              have c0 : wr.cell? ⟨L, i, none⟩ = some (rows i) := (blk_cell hc1 i).trans (hc2 i hlt)
              have HC := Aside0.mk (HR.out.row i (Nat.le_refl _) hlt)
              have HN := Aside0.mk HR.out.next
              have hm := HH.out.m1 i hlt
              clear hc1 hc2 HR
              go_wp2
              go_loopw [9, 11, 12] (fun va x v W => ∃ t : Nat, ∃ f : Nat → Nat, ∃ Xs : List Value, t ≤ 5 ∧ v = .int .i64 t ∧ Xs.length = 5 * i + t ∧ Aside0 (Rows3 b0 w0 L n rows m f (i + 1) Xs va W) ∧ Aside0 (Cur b0 W f i x (m i + t))) (fun _ _ v _ => 5 - (intOf v).toNat)
              case atStart => exact ⟨0, f, Xs, by omega, rfl, by omega, HN, HC⟩
              case round =>
                clear HN HC hXs c0
                obtain ⟨t, f, Xs, ht, rfl, hXs, HR, HC⟩ := hrel
                by_cases hlt' : t < 5
                · obtain ⟨xs, hx1, hx2, hx3⟩ := HC.out
                  have HX1 := Aside0.mk hx1
                  have HX2 := Aside0.mk hx2
                  have HX3 := Aside0.mk hx3
                  clear hx1 hx2 hx3 HC
                  go_wp2_with (first
                    | ((with_reducible refine gate_builtin (b := .append) (xs := #[.tmp 70, .tmp 74]) rfl ?_); at_builtin; refine list_append_kept (w0 := w0) b0 rfl (.tmp 70) (.tmp 74) 26 38 (.agg #[.int .i64 0, .string ⟨#[]⟩, .int .i64 0, .int .i64 0, .int .i64 0, .int .i64 0]) 6 56 rfl rfl rfl rfl (by decide) u11 (m i + t) xs (mkT i) rfl rfl rfl ?aU ?aO ?aB ?aS ?aM ?aL ?_; (case aU => intro u hu; simp [mkT] at hu; rcases hu with rfl | rfl | rfl <;> rfl); (case aO => exact HX1.out); (case aB => exact HR.out.below); (case aS => exact HR.out.base); (case aM => simp only [maxLen]; omega); (case aL => omega); intro v1 w1 ho hb hg hat hk; obtain ⟨A1, cap1, rfl, hA1⟩ := own_form ho; obtain ⟨f1, HR1, HC1⟩ := HR.out.app1 HX1.out HX2.out HX3.out ho hb hg hat hk; have HR := Aside0.mk HR1; have HC := Aside0.mk HC1; clear ho hb hg hat hk HR1 HC1 hA1)
                    | ((with_reducible refine gate_builtin (b := .append) (xs := #[.tmp 76, .tmp 78]) rfl ?_); at_builtin; refine list_append_kept (w0 := w0) b0 rfl (.tmp 76) (.tmp 78) 25 26 (.slice none 0 0) 1 24 rfl rfl rfl rfl (by decide) u9 Xs.length Xs [.slice A1 (m i + t + 1) cap1] rfl rfl rfl ?aU ?aO ?aB ?aS ?aM ?aL ?_; (case aU => intro u hu; simp at hu; subst hu; rfl); (case aO => exact HR.out.all); (case aB => exact HR.out.below); (case aS => exact HR.out.base); (case aM => simp only [maxLen]; omega); (case aL => omega); intro v2 w2 ho hb hg hat hk; obtain ⟨HR2, HC2⟩ := HR.out.app2 HC.out (by omega) (by omega) (by omega) ho hb hg hat; have HR := Aside0.mk HR2; have HC := Aside0.mk HC2; clear ho hb hg hat hk HR2 HC2))
                  go_roundw
                  case rel => exact ⟨t + 1, f1, Xs ++ [.slice A1 (m i + t + 1) cap1], by omega, by go_num, by rw [List.length_append, List.length_singleton]; omega, HR, HC⟩
                  case measure => simp [intOf]; omega
                · obtain rfl : t = 5 := by omega
                  have HN := Aside0.mk (show Rows3 b0 w0 L n rows m f (i + 1) Xs u9 wr from HR.out)
                  go_wp2
                  go_roundw
                  case rel => exact ⟨i + 1, f, Xs, by omega, by go_num, by omega, HN⟩
                  case measure => simp [intOf]; omega
            · obtain rfl : n = i := by omega
              obtain ⟨A, cap, hA, -⟩ := own_form HR.out.all
              subst hA
              generalize hN : Xs.length = N at hXs HR
              go_wp2
              go_loopw [13] (fun v W => ∃ q : Nat, q ≤ N ∧ v = .int .i64 q ∧ Aside0 (Rows3 b0 w0 L n rows m f n Xs (.slice A N cap) W)) (fun v _ => N - (intOf v).toNat)
              case atStart => exact ⟨0, by omega, rfl, HR⟩
              case round =>
                clear HR
                obtain ⟨q, hq, rfl, HR⟩ := hrel
                by_cases hlt' : q < N
                · obtain ⟨ga, X, rfl, c0, hXq⟩ := all_cell HR.out.all hN hlt'
                  obtain ⟨g, p, c, cs, rfl, hfg, hgg, hmk, hp⟩ := HR.out.seen q X hXq
                  clear hXq hfg
                  have HK := Aside0.mk hmk
                  have HG := Aside0.mk hgg
                  clear hmk hgg
                  go_wp2
                  go_loopw [14] (fun v W => ∃ k : Nat, k ≤ p ∧ v = .int .i64 k ∧ Aside0 (W = wr)) (fun v _ => p - (intOf v).toNat)
                  case atStart => exact ⟨0, by omega, rfl, ⟨rfl⟩⟩
                  case round =>
                    obtain ⟨k, hk, rfl, ⟨hw⟩⟩ := hrel
                    subst hw
                    by_cases hk' : k < p
                    · have d : ∀ r (hr : r < 6), wr.cell? ⟨g, k * 6 + r, none⟩ = (mkT (q / 5))[r]? := fun r hr => (blk_cell HG.out _).trans (HK.out k hk' r hr)
                      have d0 := d 0 (by decide)
                      have d1 := d 1 (by decide)
                      have d2 := d 2 (by decide)
                      have d3 := d 3 (by decide)
                      have d4 := d 4 (by decide)
                      have d5 := d 5 (by decide)
                      rw [Nat.add_zero] at d0
                      simp only [mkT, List.getElem?_cons_zero, List.getElem?_cons_succ] at d0 d1 d2 d3 d4 d5
                      clear d
                      have hq5 : Int.tdiv (q : Int) 5 = ((q / 5 : Nat) : Int) := rfl
                      go_wp2
                      exact ⟨⟨k + 1, by omega, rfl, ⟨trivial⟩⟩, by simp [intOf]; omega⟩
                    · obtain rfl : p = k := by omega
                      go_wp2
                      go_roundw
                      case rel => exact ⟨q + 1, by omega, by go_num, HR⟩
                      case measure => simp [intOf]; omega
                · obtain rfl : N = q := by omega
                  have HB := Aside0.mk HR.out.below
                  clear HR
                  go_wp2
                  go_ret
                  exact ⟨rfl, HB.out⟩
end Go.Proofs.YthllfnmebdjpfaaGreatDoor.Hand

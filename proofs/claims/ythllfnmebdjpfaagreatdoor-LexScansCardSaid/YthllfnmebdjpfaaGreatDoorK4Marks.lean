/- What an append leaves of the row that was appended to; rows that are written over with a mark, element by element. -/
import Derived.Test.YthllfnmebdjpfaaGreatDoorK4WWords
import Derived.Test.YthllfnmebdjpfaaGreatDoorK4WLast
import Derived.Test.YthllfnmebdjpfaaGreatDoorK4WMore
import Derived.Maps.AppendAt
import Derived.WalkKit
namespace Go.Proofs.YthllfnmebdjpfaaGreatDoor.Hand
open Go.RowKit Go.Proofs.YthllfnmebdjpfaaGreatDoorW.PrintWords Go.Proofs.YthllfnmebdjpfaaGreatDoorW.PrintLast Go.Proofs.YthllfnmebdjpfaaGreatDoorW.PrintMore
set_option linter.unusedVariables false
set_option linter.unusedSimpArgs false

/-- What stands at the front of a row, element by element: the same cells each. -/
def Marks (mk : List Value) (c : Nat → Option Value) (p : Nat) : Prop := ∀ q, q < p → ∀ r, r < mk.length → c (q * mk.length + r) = mk[r]?
/-- A block is turned: each cell is the old one, or one of the new ones at its place behind n. -/
def Turned (c c' : Nat → Option Value) (n : Nat) (news : List Value) : Prop := ∀ j, c' j = c j ∨ (n ≤ j ∧ j < n + news.length ∧ c' j = news[j - n]?)
theorem mul_between {q n l r : Nat} (h1 : n * l ≤ q * l + r) (h2 : q * l + r < n * l + l) (hr : r < l) : q = n := by
  rcases Nat.lt_trichotomy q n with hl | rfl | hl
  · have : (q + 1) * l ≤ n * l := Nat.mul_le_mul_right _ hl
    rw [Nat.add_mul] at this; omega
  · rfl
  · have : (n + 1) * l ≤ q * l := Nat.mul_le_mul_right _ hl
    rw [Nat.add_mul] at this; omega
theorem Marks.turned {mk : List Value} {c c' : Nat → Option Value} {p n : Nat} (h : Marks mk c p) (ht : Turned c c' (n * mk.length) mk) : Marks mk c' p := by
  intro q hq r hr
  rcases ht (q * mk.length + r) with e | ⟨h1, h2, e⟩
  · rw [e]; exact h q hq r hr
  · obtain rfl := mul_between h1 h2 hr
    rw [e, Nat.add_sub_cancel_left]
/-- One element more. -/
theorem Marks.snoc {mk : List Value} {xs : List Value} {p : Nat} (h : Marks mk (fun j => xs[j]?) p) (hx : xs.length = p * mk.length) : Marks mk (fun j => (xs ++ mk)[j]?) (p + 1) := by
  intro q hq r hr
  show (xs ++ mk)[q * mk.length + r]? = _
  by_cases hlt : q < p
  · have : (q + 1) * mk.length ≤ p * mk.length := Nat.mul_le_mul_right _ hlt
    rw [Nat.add_mul] at this
    rw [List.getElem?_append_left (by omega)]
    exact h q hlt r hr
  · obtain rfl : q = p := by omega
    rw [List.getElem?_append_right (by omega), hx, Nat.add_sub_cancel_left]

/-- A row of one's own, laid open. -/
theorem own_form {W : World} {base : Nat} {e : TypeId} {size n : Nat} {v : Value} {xs : List Value} (h : W.ownsRow base e size v n xs) :
    ∃ A cap, v = .slice A n cap ∧ (0 < n → ∃ g cur, A = some ⟨g, 0, none⟩ ∧ v.ownBlock = some g ∧ base ≤ g ∧ W.heap[g]? = some (.cells cur e (0, 0)) ∧ n ≤ cap ∧ cap ≤ maxLen ∧ cur.size = cap * size ∧ cur.toList.take (n * size) = xs) := by
  rcases h.2 with ⟨rfl, rfl⟩ | ⟨g, cap, cur, rfl, hb, hg, hn, hm, hc, ht⟩
  · exact ⟨none, 0, rfl, fun h => absurd h (by decide)⟩
  · exact ⟨_, cap, rfl, fun _ => ⟨g, cur, rfl, rfl, hb, hg, hn, hm, hc, ht⟩⟩

section
variable {P : Program} {W : World}
/-- An append of one element to a row of one's own: what it leaves of the row's block. -/
theorem append_kept (base : Nat) (t ty e : TypeId) (i : TypeInfo) (z : Value) (size bytes : Nat) (ht : P.underlying t = some (.slice e)) (hi : P.info? e = some i) (hz : i.zero = some z)
    (hsize : i.size = size) (hby : i.bytes = bytes) (hzs : z.cells.size = size) (hsz : 0 < size)
    (v : Value) (n : Nat) (xs : List Value) (hown : W.ownsRow base e size v n xs)
    (a : Addr) (c : Nat) (news : List Value) (hl : news.length = size) (hnews : ∀ j u, news[j]? = some u → W.cell? (a.add j) = some u) (h1 : ∀ u ∈ news, u.oneCell' = true)
    (h63 : n + 1 ≤ maxLen) (hbytes : (n + 1) * bytes ≤ 140737488355328) (hbase : base ≤ W.heap.size) :
    ∃ v' w', (Builtin.append_ #[t, t] ty #[v, .slice (some a) 1 c]).run P W = .ok v' w' ∧ w'.ownsRow base e size v' (n + 1) (xs ++ news) ∧ W.grownBy w' v.ownBlock ∧
      (v'.ownBlock = v.ownBlock ∨ v'.ownBlock = some W.heap.size) ∧
      ∀ g cs, v.ownBlock = some g → W.heap[g]? = some (.cells cs e (0, 0)) → ∃ cs', w'.heap[g]? = some (.cells cs' e (0, 0)) ∧ Turned (fun j => cs[j]?) (fun j => cs'[j]?) (n * size) news := by
  obtain ⟨v', w', hr, ho, hg, _, hat⟩ := run_append_own_at (P := P) W base t ty e i z size bytes ht hi hz hsize hby hzs hsz v n xs hown a 1 c news (by rw [hl, Nat.one_mul]) hnews h1 h63 hbytes hbase
  refine ⟨v', w', hr, ho, hg, hat, fun g cs hgb hcs => ?_⟩
  rcases hown.2 with ⟨rfl, _⟩ | ⟨g', cap, cur, rfl, hbg, hgg, hnc, hcm, hcz, htake⟩
  · simp [Value.ownBlock] at hgb
  · have hgg' : g' = g := by simpa [Value.ownBlock] using hgb
    subst hgg'
    rw [hgg] at hcs
    have hcc : cur = cs := by injection hcs with hcs; injection hcs
    subst hcc
    subst hsize
    subst hby
    by_cases hroom : n + 1 ≤ cap
    · have hfit : n * i.size + news.length ≤ cur.size := by rw [hl, hcz]; have : (n + 1) * i.size ≤ cap * i.size := Nat.mul_le_mul_right _ hroom; rw [Nat.add_mul] at this; omega
      have hr2 := run_append_room (P := P) W t ty e i ht hi g' n cap cur hgg a 1 c news (by rw [hl, Nat.one_mul]) hnews h1 hroom hfit
      rw [hr] at hr2
      injection hr2 with _ hw
      subst hw
      refine ⟨_, setRow_heap W g' cur _ e _ hgg, fun j => ?_⟩
      simp only [List.getElem?_toArray]
      have hcl : cur.toList.length = cur.size := Array.length_toList
      by_cases j1 : j < n * i.size
      · left
        rw [List.append_assoc, List.getElem?_append_left (by rw [List.length_take]; omega), List.getElem?_take, if_pos j1, Array.getElem?_toList]
      · by_cases j2 : j < n * i.size + news.length
        · right
          refine ⟨by omega, j2, ?_⟩
          rw [List.append_assoc, List.getElem?_append_right (by rw [List.length_take]; omega), List.getElem?_append_left (by rw [List.length_take]; omega), List.length_take, Nat.min_eq_left (by omega)]
        · left
          rw [List.getElem?_append_right (by rw [List.length_append, List.length_take]; omega), List.length_append, List.length_take, Nat.min_eq_left (by omega), List.getElem?_drop, Array.getElem?_toList]
          congr 1
          omega
    · have holds : ∀ j u, xs[j]? = some u → W.cell? ((⟨g', 0, none⟩ : Addr).add j) = some u := hown.cells (g := g') rfl
      have hr2 := run_append_grow (P := P) W t ty e i z ht hi hz ⟨g', 0, none⟩ n cap xs hown.1 holds a 1 c news (by rw [hl, Nat.one_mul]) hnews (by omega) (by simp only [maxLen] at h63; omega) (growslice_fits (by omega) hbytes)
      rw [hr] at hr2
      injection hr2 with _ hw
      subst hw
      exact ⟨cur, (Below.heap_alloc W.drew _ g' (Array.getElem?_eq_some_iff.1 hgg).1).trans hgg, fun j => .inl rfl⟩
variable {ops : Array Oper} {rest : List Oper} {o : Oper} {a : Act} {Q : Exit → Act → World → Prop}
theorem list_append_kept {w0 : World} (base : Nat) (hgd : o.guard = none) (s x : Operand) (t e : TypeId) (z : Value) (size bytes : Nat)
    (ho : o.op = .call { callee := .builtin .append, args := #[s, x], argTypes := #[t, t] })
    (ht : P.underlying t = some (.slice e)) (hinfo : (P.info? e).map (fun i => (i.zero, i.size, i.bytes)) = some (some z, size, bytes)) (hz : z.cells.size = size) (hs0 : 0 < size)
    (v : Value) (n : Nat) (xs ys : List Value) (hs : a.eval s = v) (hx : a.eval x = .slice (some ⟨W.heap.size, 0, none⟩) 1 1) (hys : ys.length = size) (h1 : ∀ u ∈ ys, u.oneCell' = true)
    (HO : W.ownsRow base e size v n xs) (HB : Below base w0 W) (hbase : base ≤ W.heap.size) (hm : n + 1 ≤ maxLen) (hl : (n + 1) * bytes ≤ 140737488355328)
    (h : ∀ v1 w1, w1.ownsRow base e size v1 (n + 1) (xs ++ ys) → Below base w0 w1 → W.grownBy w1 v.ownBlock → (v1.ownBlock = v.ownBlock ∨ v1.ownBlock = some (W.heap.size + 1)) →
      (∀ g cs, v.ownBlock = some g → W.heap[g]? = some (.cells cs e (0, 0)) → ∃ cs', w1.heap[g]? = some (.cells cs' e (0, 0)) ∧ Turned (fun j => cs[j]?) (fun j => cs'[j]?) (n * size) ys) → wpList P ops Q rest (a.put o.dst v1) w1) :
    wpList P ops Q (o :: rest) a (W.alloc (.cells ys.toArray e)) := by
  obtain ⟨i0, hi, hzz⟩ := Option.map_eq_some_iff.1 hinfo
  simp only [Prod.mk.injEq] at hzz
  obtain ⟨hz0, hz1, hz2⟩ := hzz
  refine wpList_plain hgd fun K hK => ?_
  obtain ⟨v', w', hr, h2, h3, h4, h5⟩ := append_kept (P := P) (W := W.alloc (.cells ys.toArray e)) base t o.type e i0 z size bytes ht hi hz0 hz1 hz2 hz hs0 v n xs (HO.alloc _) ⟨W.heap.size, 0, none⟩ 1 ys hys
    (by simpa using World.news_of_block (cs := ys.toArray) (t := e) (fr := (0, 0)) (heap_alloc_new W (.cells ys.toArray e))) h1 hm hl (by simp; omega)
  unfold Oper.wp execOp
  simp only [ho, resolve, invoke, builtin, Sem.run_bind, Sem.run_pure, Result.andThen_ok, List.map_toArray, List.map_cons, List.map_nil, hs, hx, hr]
  refine hK _ _ (h v' w' h2 ((HB.alloc hbase _).grown h3 (by simp; omega) (own_base HO)) (World.grownBy.trans (World.grownBy_alloc W _ _) h3) ?_ ?_)
  · rcases h4 with h4 | h4
    · exact .inl h4
    · exact .inr (by simpa using h4)
  · intro g cs hg hcs
    exact h5 g cs hg ((Below.heap_alloc W _ g (Array.getElem?_eq_some_iff.1 hcs).1).trans hcs)
end
end Go.Proofs.YthllfnmebdjpfaaGreatDoor.Hand

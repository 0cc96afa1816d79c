/- Contracts of Go functions as plain Lean functions, written by a program of this session (wip/hand) out of the translation. -/
import Derived.Test.YthllfnmebdjpfaaGreatDoorK4Hx0
import Derived.Test.YthllfnmebdjpfaaGreatDoorK4Hx12
namespace Go.Proofs.YthllfnmebdjpfaaGreatDoor.H
open Go.RowKit Go.Proofs.YthllfnmebdjpfaaGreatDoor.Hand Go.Proofs.YthllfnmebdjpfaaGreatDoorW.PrintWords Go.Proofs.YthllfnmebdjpfaaGreatDoorW.PrintLast Go.Proofs.YthllfnmebdjpfaaGreatDoorW.PrintMore
attribute [local go_sem] max2_int min2_int max_two min_two max_three min_three max_four min_four   -- for this text's walks alone
set_option linter.unusedVariables false
set_option linter.unusedSimpArgs false

def lychgatelaw08_apart.f (l0 l1 : List (List (S38))) : Option Bool :=
  if 0 < l0.length ∧ l0.length ≤ 100 ∧ l0.length = l1.length ∧ (l0.zip l1).all (fun p => decide (p.1.length ≤ 100000) && (lychgatelaw08_same.f 200000 p.1 p.2 == some true)) = true then some true else none

/-- The elements of a row of rows of one's own, each a row by itself, each with its owner. -/
theorem apart_rows {w : World} {base : Nat} {ok : Nat → Prop} {v : Value} {l : List (List (S38))} (h : Kd.S (Kd.slice 38 k38) 26 w base ok v l) (h0 : 0 < l.length) :
    ∃ (L cap : Nat) (rows : Nat → Value) (f : Nat → Nat), v = .slice (some ⟨L, 0, none⟩) l.length cap ∧ (∃ cs, w.heap[L]? = some (.cells cs 26 (0, 0)) ∧ ∀ i, i < l.length → cs[i]? = some (rows i)) ∧
      ∀ i x, l[i]? = some x → Kd.R k38 38 w base (fun k => f k = i) (rows i) x := by
  obtain ⟨f, hk, inner, hown, hr⟩ := h
  obtain ⟨A, cap, hA, hg⟩ := Hand.own_form hown
  rw [List.length_zipIdx] at hA hg
  obtain ⟨g, cur, rfl, _, _, hh, _, _, _, htk⟩ := hg h0
  refine ⟨g, cap, fun i => inner.getD i (.slice none 0 0), f, hA, ⟨cur, hh, fun i hi => ?_⟩, fun i x hx => ?_⟩
  · have hl : inner.length = l.length := by have := hown.1; rw [List.length_zipIdx] at this; simpa [Kd.tag, Kd.slice] using this
    have e : inner[i]? = cur[i]? := by
      rw [← htk, List.getElem?_take]
      rw [if_pos (by simp [Kd.tag, Kd.slice]; omega), Array.getElem?_toList]
    show cur[i]? = some (inner.getD i (.slice none 0 0))
    rw [← e, List.getD_eq_getElem?_getD, List.getElem?_eq_getElem (by omega)]
    rfl
  · have hm := hr.2 i (x, i) (Kd.zip_at hx)
    obtain ⟨u, hu, hR⟩ := hm
    have hu : (inner.drop (i * 1)).take 1 = [u] := hu
    rw [Nat.mul_one] at hu
    have hui : inner[i]? = some u := by
      have : ((inner.drop i).take 1)[0]? = some u := by rw [hu]; rfl
      rw [List.getElem?_take, if_pos (by decide), List.getElem?_drop, Nat.add_zero] at this
      exact this
    have hrow : inner.getD i (.slice none 0 0) = u := by rw [List.getD_eq_getElem?_getD, hui]; rfl
    show Kd.R _ _ w base _ (inner.getD i (.slice none 0 0)) x
    rw [hrow]
    exact Kd.R_mono hR (fun k hk => hk.2)

theorem lychgatelaw08_apart.own (w0 w : World) (v7 v8 : Value) (ok7 ok8 : Nat → Prop) (l0 l1 : List (List (S38))) (r : Bool) (hB : Below w0.heap.size w0 w)
    (h7 : Kd.S (Kd.slice 38 k38) 26 w w0.heap.size ok7 v7 l0) (h8 : Kd.S (Kd.slice 38 k38) 26 w w0.heap.size ok8 v8 l1) (h : lychgatelaw08_apart.f l0 l1 = some r) :
    Calls Tryz.prog 9 #[v7, v8] w fun e w' => e = .returned (.bool r) ∧ Below w0.heap.size w0 w' := by
  unfold lychgatelaw08_apart.f at h
  split at h
  · rename_i hc
    obtain ⟨h0, h1, hl, ha⟩ := hc
    obtain rfl := Option.some.inj h
    obtain ⟨L, cap, rows, f, rfl, hL, hR⟩ := apart_rows h7 h0
    obtain ⟨Lw, capw, wrows, fw, rfl, hLw, hRw⟩ := apart_rows h8 (by omega)
    have hall : ∀ i (hi : i < l0.length), (l0[i]).length ≤ 100000 ∧ lychgatelaw08_same.f 200000 l0[i] (l1[i]'(by omega)) = some true := by
      intro i hi
      have hz : (l0.zip l1)[i]? = some (l0[i], l1[i]'(by omega)) := by
        rw [List.getElem?_eq_getElem (by rw [List.length_zip]; omega), List.getElem_zip]
      have := List.all_eq_true.1 ha _ (List.mem_of_getElem? hz)
      rw [Bool.and_eq_true, decide_eq_true_iff, beq_iff_eq] at this
      exact this
    have hm : ∀ i (hi : i < l0.length), (l0.getD i []).length = (l0[i]).length := fun i hi => by rw [List.getD_eq_getElem?_getD, List.getElem?_eq_getElem hi]; rfl
    rw [← hl] at hLw ⊢
    refine Hand.apart_walk w0.heap.size w0 w L Lw l0.length cap capw rows wrows (fun i => (l0.getD i []).length) f ⟨hB, Nat.le_refl _, h0, h1, hL, ?_, ?_, ?_, ?_, ?_⟩
    · obtain ⟨cs, hc1, hc2⟩ := hLw
      exact fun i hi => (blk_cell hc1 i).trans (hc2 i hi)
    · intro i hi W hD
      obtain ⟨nd, rfl⟩ := hD
      obtain ⟨A, c, hA, hcl, hC⟩ := Kd.R_reads (hR i _ (List.getElem?_eq_getElem hi))
      obtain ⟨Aw, cw, hAw, hclw, hCw⟩ := Kd.R_reads (hRw i _ (List.getElem?_eq_getElem (show i < l1.length by omega)))
      rw [hA, hAw]
      exact lychgatelaw08_same.calls 200000 A c l0[i] Aw cw (l1[i]'(by omega)) true (w.drewN nd) (Kd.C_drewN hC nd) hcl (Kd.C_drewN hCw nd) hclw (hall i hi).2
    · intro i hi
      obtain ⟨_, inner, hown, _⟩ := hR i _ (List.getElem?_eq_getElem hi)
      exact ⟨inner, by rw [hm i hi]; exact hown⟩
    · intro i hi
      rw [hm i hi]
      exact (hall i hi).1
    · intro i hi g hg
      exact (hR i _ (List.getElem?_eq_getElem hi)).1 g hg
  · cases h

end Go.Proofs.YthllfnmebdjpfaaGreatDoor.H

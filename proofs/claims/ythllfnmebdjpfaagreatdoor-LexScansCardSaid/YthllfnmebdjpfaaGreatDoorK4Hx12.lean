/- Contracts of Go functions as plain Lean functions, written by a program of this session (wip/hand) out of the translation. -/
import Derived.Test.YthllfnmebdjpfaaGreatDoorK4Hx0
import Derived.Test.YthllfnmebdjpfaaGreatDoorK4Hx1
import Derived.Test.YthllfnmebdjpfaaGreatDoorK4Hx11
namespace Go.Proofs.YthllfnmebdjpfaaGreatDoor.H
open Go.RowKit Go.Proofs.YthllfnmebdjpfaaGreatDoor.Hand Go.Proofs.YthllfnmebdjpfaaGreatDoorW.PrintWords Go.Proofs.YthllfnmebdjpfaaGreatDoorW.PrintLast Go.Proofs.YthllfnmebdjpfaaGreatDoorW.PrintMore
attribute [local go_sem] max2_int min2_int max_two min_two max_three min_three max_four min_four   -- for this text's walks alone
set_option linter.unusedVariables false
set_option linter.unusedSimpArgs false

attribute [local go_sem high] eqA38
mutual
def lychgateref08_Scan.l0 : Nat → ByteArray → List (S38) → Int → Option ((List (S38)) × Int × Int)
  | 0, _, _, _ => none
  | k + 1, x0, x5, x6 => if x6 < (x0.size : Int) then (if 0 ≤ x6 then (if (bt x0 x6) = 32 then (lychgateref08_Scan.j1 k x0 x5 x6 (bt x0 x6) ((bt x0 x6) == 32)) else (if (bt x0 x6) = 9 then (lychgateref08_Scan.j1 k x0 x5 x6 (bt x0 x6) ((bt x0 x6) == 9)) else (if (bt x0 x6) = 10 then (lychgateref08_Scan.j1 k x0 x5 x6 (bt x0 x6) ((bt x0 x6) == 10)) else (lychgateref08_Scan.j1 k x0 x5 x6 (bt x0 x6) ((bt x0 x6) == 13))))) else (none)) else (if x5.length < 2513169434916 then (some ((x5 ++ [(⟨8, (⟨#[]⟩ : ByteArray), 0, (⟨0, 0⟩ : S36), (x0.size : Int)⟩ : S38)]), 0, 0)) else (none))
def lychgateref08_Scan.j1 : Nat → ByteArray → List (S38) → Int → Int → Bool → Option ((List (S38)) × Int × Int)
  | 0, _, _, _, _, _ => none
  | k + 1, x0, x5, x6, x21, x22 => if x22 = true then (lychgateref08_Scan.l0 k x0 x5 (wrap64 (x6 + 1))) else (if x21 = 35 then (lychgateref08_Scan.l1 k x0 x5 x6) else ((lychgateref08_one.f k x0 x6).bind fun bt286 => (if bt286.2.2.2.2.2.2.2 = 0 then (if x5.length < 2513169434916 then (lychgateref08_Scan.l0 k x0 (x5 ++ [(⟨bt286.1, bt286.2.1, bt286.2.2.1, (⟨bt286.2.2.2.1, bt286.2.2.2.2.1⟩ : S36), x6⟩ : S38)]) bt286.2.2.2.2.2.2.1) else (none)) else (some (([] : List (S38)), bt286.2.2.2.2.2.2.2, x6)))))
def lychgateref08_Scan.l1 : Nat → ByteArray → List (S38) → Int → Option ((List (S38)) × Int × Int)
  | 0, _, _, _ => none
  | k + 1, x0, x5, x6 => if x6 < (x0.size : Int) then (if 0 ≤ x6 then (if (bt x0 x6) = 10 then (lychgateref08_Scan.l0 k x0 x5 x6) else (lychgateref08_Scan.l1 k x0 x5 (wrap64 (x6 + 1)))) else (none)) else (lychgateref08_Scan.l0 k x0 x5 x6)
end
def lychgateref08_Scan.f (k : Nat) (a0 : ByteArray) : Option ((List (S38)) × Int × Int) := if (a0.size : Int) > 8000 then (some (([] : List (S38)), 84, 8000)) else (lychgateref08_Scan.l0 k a0 ([] : List (S38)) 0)
set_option maxHeartbeats 8000000 in
set_option maxRecDepth 100000 in
theorem lychgateref08_Scan.calls (k : Nat) (a0 : ByteArray) (r1 : List (S38)) (r2 : Int) (r3 : Int) (w : World) (h : lychgateref08_Scan.f k a0 = some (r1, r2, r3)) :
    Calls Tryz.prog 7 #[.string a0] w fun e w' => ∃ v0_ : Value, e = .returned (.tuple #[v0_, .int .i64 r2, .int .i64 r3]) ∧ Kd.R k38 38 w' w.heap.size (fun _ => True) v0_ r1 ∧ Below w.heap.size w w' := by
  have hu38 := Tryz.underlying38
  have HB := Aside0.mk (Below.refl w.heap.size w)
  have H : (if (a0.size : Int) > 8000 then (some (([] : List (S38)), 84, 8000)) else (lychgateref08_Scan.l0 k a0 ([] : List (S38)) 0)) = some (r1, r2, r3) := h
  clear h
  by_cases c2 : (a0.size : Int) > 8000
  · rw [if_pos c2] at H
    have c2b0 : decide (8000 < (a0.size : Int)) = true := decide_eq_true c2
    have c2b1 : decide (8000 < a0.size) = true := decide_eq_true (by omega)
    clear c2
    simp only [Option.some.injEq, Prod.mk.injEq] at H
    obtain ⟨rfl, rfl, rfl⟩ := H
    go_enter Tryz.func7, Tryz.ntmps7
    go_wp2
    go_ret3
    exact ⟨_, by first | rfl | (simp [errW_none, errW_some] <;> rfl) | (simp [*, errW_none, errW_some] <;> rfl), by first | exact Kd.R_nil _ _ _ _ _ | exact Kd.N_nil _ _ _ _ _ | exact Kd.V_nil _ _ _ _ _ | exact Kd.Q_nil _ _ _ _ _ | exact Kd.S_nil _ _ _ _ _, by repeat (first | (with_reducible first | exact HB.out | apply below_alloc | apply pw_below_drewN | apply below_drew1) | exact HB.out)⟩
  · rw [if_neg c2] at H
    have c2b0 : decide (8000 < (a0.size : Int)) = false := decide_eq_false c2
    have c2b1 : decide (8000 < a0.size) = false := decide_eq_false (by omega)
    clear c2
    have H' := Aside0.mk H
    clear H
    go_enter Tryz.func7, Tryz.ntmps7
    go_wp2
    go_loopg [5, 6] k (fun kq v5 v6 w' => ∃ (x5_1 : List (S38)) (x6_1 : Int), v6 = .int .i64 x6_1 ∧ Aside0 (lychgateref08_Scan.l0 kq a0 x5_1 x6_1 = some (r1, r2, r3)) ∧ Aside0 (kq ≤ k) ∧ Aside0 (Kd.R k38 38 w' w.heap.size (fun _ => True) v5 x5_1) ∧ Aside0 (Below w.heap.size w w'))
    case atStart => exact ⟨(([] : List (S38))), (0), (by first | rfl | (simp; done) | (simp [*]; done)), H', ⟨Nat.le_refl _⟩, ⟨by first | exact Kd.R_nil _ _ _ _ _ | exact Kd.N_nil _ _ _ _ _ | exact Kd.V_nil _ _ _ _ _ | exact Kd.Q_nil _ _ _ _ _ | exact Kd.S_nil _ _ _ _ _⟩, ⟨by repeat (first | (with_reducible first | exact HB.out | apply below_alloc | apply pw_below_drewN | apply below_drew1) | exact HB.out)⟩⟩
    case round =>
      clear H'
      try clear c2
      try clear c2b0
      try clear c2b1
      try clear p2
      obtain ⟨x5_1, x6_1, rfl, HA, HK1, HO_5, HB⟩ := hrel
      cases gk with
      | zero => exact absurd HA.out (by simp [lychgateref08_Scan.l0])
      | succ k1 =>
        have H := HA.out
        clear HA
        simp only [lychgateref08_Scan.l0] at H
        by_cases c3 : x6_1 < (a0.size : Int)
        · rw [if_pos c3] at H
          have c3b0 : decide (x6_1 < (a0.size : Int)) = true := decide_eq_true c3
          clear c3
          by_cases c4 : 0 ≤ x6_1
          · rw [if_pos c4] at H
            have c4b0 : decide (0 ≤ x6_1) = true := decide_eq_true c4
            clear c4
            have HC6 := Aside0.mk H
            clear H
            have p5 : 0 ≤ (x6_1 : Int) := of_decide_eq_true (by first | (with_reducible assumption) | assumption)
            have q5 : x6_1 < (a0.size : Int) := of_decide_eq_true (by first | (with_reducible assumption) | assumption)
            have hx5 := bt_at a0 x6_1
            replace p5 := eq_true p5
            replace q5 := eq_true q5
            go_upto_if 22 with (fail)
            go_cut [22] (fun v22 wc => ∃ (kq : Nat) (x22_5 : Bool), v22 = .bool x22_5 ∧ Aside0 (lychgateref08_Scan.j1 kq a0 x5_1 x6_1 (bt a0 x6_1) x22_5 = some (r1, r2, r3)) ∧ Aside0 (kq ≤ k1) ∧ Aside0 (Kd.R k38 38 wc w.heap.size (fun _ => True) u5 x5_1) ∧ Aside0 (Below w.heap.size w wc))
            case first =>
              have H := HC6.out
              clear HC6
              by_cases c7 : (bt a0 x6_1) = 32
              · rw [if_pos c7] at H
                have c7b0 : ((bt a0 x6_1) == 32) = true := beq_iff_eq.mpr c7
                have c7b1 : ((bt a0 x6_1) != 32) = false := bne_eq_false_iff_eq.mpr c7
                clear c7
                (first | rw [c7b0] | (simp only [i64_w, i32_w]; rw [c7b0]) | skip)
                have H' := Aside0.mk H
                clear H
                go_wp2
                go_meet
                case rel => exact ⟨_, (((bt a0 x6_1) == 32)), (by first | rfl | (simp; done) | (simp [*]; done)), H', ⟨by have := HK1.out; first | omega | exact Nat.le_refl _⟩, ⟨by (with_reducible repeat (first | apply Kd.R_alloc | apply Kd.R_drewN | apply Kd.R_drew)); exact HO_5.out⟩, ⟨by repeat (first | (with_reducible first | exact HB.out | apply below_alloc | apply pw_below_drewN | apply below_drew1) | exact HB.out)⟩⟩
              · rw [if_neg c7] at H
                have c7b0 : ((bt a0 x6_1) == 32) = false := beq_eq_false_iff_ne.mpr c7
                have c7b1 : ((bt a0 x6_1) != 32) = true := bne_iff_ne.mpr c7
                (first | rw [c7b0] | (simp only [i64_w, i32_w]; rw [c7b0]) | skip)
                by_cases c8 : (bt a0 x6_1) = 9
                · rw [if_pos c8] at H
                  have c8b0 : ((bt a0 x6_1) == 9) = true := beq_iff_eq.mpr c8
                  have c8b1 : ((bt a0 x6_1) != 9) = false := bne_eq_false_iff_eq.mpr c8
                  clear c8
                  have H' := Aside0.mk H
                  clear H
                  go_wp2
                  go_meet
                  case rel => exact ⟨_, (((bt a0 x6_1) == 9)), (by first | rfl | (simp; done) | (simp [*]; done)), H', ⟨by have := HK1.out; first | omega | exact Nat.le_refl _⟩, ⟨by (with_reducible repeat (first | apply Kd.R_alloc | apply Kd.R_drewN | apply Kd.R_drew)); exact HO_5.out⟩, ⟨by repeat (first | (with_reducible first | exact HB.out | apply below_alloc | apply pw_below_drewN | apply below_drew1) | exact HB.out)⟩⟩
                · rw [if_neg c8] at H
                  have c8b0 : ((bt a0 x6_1) == 9) = false := beq_eq_false_iff_ne.mpr c8
                  have c8b1 : ((bt a0 x6_1) != 9) = true := bne_iff_ne.mpr c8
                  by_cases c9 : (bt a0 x6_1) = 10
                  · rw [if_pos c9] at H
                    have c9b0 : ((bt a0 x6_1) == 10) = true := beq_iff_eq.mpr c9
                    have c9b1 : ((bt a0 x6_1) != 10) = false := bne_eq_false_iff_eq.mpr c9
                    clear c9
                    have H' := Aside0.mk H
                    clear H
                    go_wp2
                    go_meet
                    case rel => exact ⟨_, (((bt a0 x6_1) == 10)), (by first | rfl | (simp; done) | (simp [*]; done)), H', ⟨by have := HK1.out; first | omega | exact Nat.le_refl _⟩, ⟨by (with_reducible repeat (first | apply Kd.R_alloc | apply Kd.R_drewN | apply Kd.R_drew)); exact HO_5.out⟩, ⟨by repeat (first | (with_reducible first | exact HB.out | apply below_alloc | apply pw_below_drewN | apply below_drew1) | exact HB.out)⟩⟩
                  · rw [if_neg c9] at H
                    have c9b0 : ((bt a0 x6_1) == 10) = false := beq_eq_false_iff_ne.mpr c9
                    have c9b1 : ((bt a0 x6_1) != 10) = true := bne_iff_ne.mpr c9
                    have H' := Aside0.mk H
                    clear H
                    go_wp2
                    go_meet
                    case rel => exact ⟨_, (((bt a0 x6_1) == 13)), (by first | rfl | (simp; done) | (simp [*]; done)), H', ⟨by have := HK1.out; first | omega | exact Nat.le_refl _⟩, ⟨by (with_reducible repeat (first | apply Kd.R_alloc | apply Kd.R_drewN | apply Kd.R_drew)); exact HO_5.out⟩, ⟨by repeat (first | (with_reducible first | exact HB.out | apply below_alloc | apply pw_below_drewN | apply below_drew1) | exact HB.out)⟩⟩
            case rest =>
              clear HC6
              try clear c2
              try clear c2b0
              try clear c2b1
              try clear p2
              try clear c3
              try clear c3b0
              try clear c4
              try clear c4b0
              try clear p5
              try clear q5
              try clear hx5
              try clear c7
              try clear c7b0
              try clear c7b1
              try clear c8
              try clear c8b0
              try clear c8b1
              try clear c9
              try clear c9b0
              try clear c9b1
              try clear p2
              try clear p5
              try clear q5
              obtain ⟨kq, x22_5, rfl, HA, HJ5, HO_5, HB⟩ := hcut
              cases kq with
              | zero => exact absurd HA.out (by simp [lychgateref08_Scan.j1])
              | succ kj5 =>
                have H := HA.out
                clear HA
                simp only [lychgateref08_Scan.j1] at H
                by_cases c10 : x22_5 = true
                · subst c10
                  have H1 : (lychgateref08_Scan.l0 kj5 a0 x5_1 (wrap64 (x6_1 + 1))) = some (r1, r2, r3) := by rw [if_pos rfl] at H; exact H
                  clear H
                  have H := H1
                  clear H1
                  have H' := Aside0.mk H
                  clear H
                  go_wp2
                  go_roundg kj5
                  case measure => have := HK1.out; have := HJ5.out; omega
                  case rel => exact ⟨(x5_1), (wrap64 (x6_1 + 1)), (by first | rfl | (simp; done) | (simp [*]; done)), H', ⟨by have := HK1.out; have := HJ5.out; omega⟩, ⟨by (with_reducible repeat (first | apply Kd.R_alloc | apply Kd.R_drewN | apply Kd.R_drew)); exact HO_5.out⟩, ⟨by repeat (first | (with_reducible first | exact HB.out | apply below_alloc | apply pw_below_drewN | apply below_drew1) | exact HB.out)⟩⟩
                · replace c10 := Bool.eq_false_iff.mpr c10
                  subst c10
                  have H1 : (if (bt a0 x6_1) = 35 then (lychgateref08_Scan.l1 kj5 a0 x5_1 x6_1) else ((lychgateref08_one.f kj5 a0 x6_1).bind fun bt286 => (if bt286.2.2.2.2.2.2.2 = 0 then (if x5_1.length < 2513169434916 then (lychgateref08_Scan.l0 kj5 a0 (x5_1 ++ [(⟨bt286.1, bt286.2.1, bt286.2.2.1, (⟨bt286.2.2.2.1, bt286.2.2.2.2.1⟩ : S36), x6_1⟩ : S38)]) bt286.2.2.2.2.2.2.1) else (none)) else (some (([] : List (S38)), bt286.2.2.2.2.2.2.2, x6_1))))) = some (r1, r2, r3) := by rw [if_neg (show ¬ (false = true) by decide)] at H; exact H
                  clear H
                  have H := H1
                  clear H1
                  by_cases c11 : (bt a0 x6_1) = 35
                  · rw [if_pos c11] at H
                    have c11b0 : ((bt a0 x6_1) == 35) = true := beq_iff_eq.mpr c11
                    have c11b1 : ((bt a0 x6_1) != 35) = false := bne_eq_false_iff_eq.mpr c11
                    clear c11
                    have H' := Aside0.mk H
                    clear H
                    go_wp2
                    go_loopg [6] kj5 (fun kq v6 w' => ∃ (x6_3 : Int), v6 = .int .i64 x6_3 ∧ Aside0 (lychgateref08_Scan.l1 kq a0 x5_1 x6_3 = some (r1, r2, r3)) ∧ Aside0 (kq ≤ kj5) ∧ Aside0 (Kd.R k38 38 w' w.heap.size (fun _ => True) u5 x5_1) ∧ Aside0 (Below w.heap.size w w'))
                    case atStart => exact ⟨(x6_1), (by first | rfl | (simp; done) | (simp [*]; done)), H', ⟨Nat.le_refl _⟩, ⟨by (with_reducible repeat (first | apply Kd.R_alloc | apply Kd.R_drewN | apply Kd.R_drew)); exact HO_5.out⟩, ⟨by repeat (first | (with_reducible first | exact HB.out | apply below_alloc | apply pw_below_drewN | apply below_drew1) | exact HB.out)⟩⟩
                    case round =>
                      clear H'
                      try clear c1
                      try clear c2
                      try clear c2b0
                      try clear c2b1
                      try clear p2
                      try clear c3
                      try clear c3b0
                      try clear c4
                      try clear c4b0
                      try clear p5
                      try clear q5
                      try clear hx5
                      try clear p6
                      try clear c7
                      try clear c7b0
                      try clear c7b1
                      try clear c8
                      try clear c8b0
                      try clear c8b1
                      try clear c9
                      try clear c9b0
                      try clear c9b1
                      try clear c10
                      try clear c11
                      try clear c11b0
                      try clear c11b1
                      try clear p2
                      try clear p5
                      try clear q5
                      obtain ⟨x6_3, rfl, HA, HK3, HO_5, HB⟩ := hrel
                      cases gk with
                      | zero => exact absurd HA.out (by simp [lychgateref08_Scan.l1])
                      | succ k3 =>
                        have H := HA.out
                        clear HA
                        simp only [lychgateref08_Scan.l1] at H
                        by_cases c12 : x6_3 < (a0.size : Int)
                        · rw [if_pos c12] at H
                          have c12b0 : decide (x6_3 < (a0.size : Int)) = true := decide_eq_true c12
                          clear c12
                          by_cases c13 : 0 ≤ x6_3
                          · rw [if_pos c13] at H
                            have c13b0 : decide (0 ≤ x6_3) = true := decide_eq_true c13
                            clear c13
                            by_cases c15 : (bt a0 x6_3) = 10
                            · rw [if_pos c15] at H
                              have c15b0 : ((bt a0 x6_3) == 10) = true := beq_iff_eq.mpr c15
                              have c15b1 : ((bt a0 x6_3) != 10) = false := bne_eq_false_iff_eq.mpr c15
                              clear c15
                              have H' := Aside0.mk H
                              clear H
                              have p14 : 0 ≤ (x6_3 : Int) := of_decide_eq_true (by first | (with_reducible assumption) | assumption)
                              have q14 : x6_3 < (a0.size : Int) := of_decide_eq_true (by first | (with_reducible assumption) | assumption)
                              have hx14 := bt_at a0 x6_3
                              replace p14 := eq_true p14
                              replace q14 := eq_true q14
                              go_wp2
                              go_roundg k3
                              case measure => have := HK1.out; have := HJ5.out; have := HK3.out; omega
                              case rel => exact ⟨(x5_1), (x6_3), (by first | rfl | (simp; done) | (simp [*]; done)), H', ⟨by have := HK1.out; have := HJ5.out; have := HK3.out; omega⟩, ⟨by (with_reducible repeat (first | apply Kd.R_alloc | apply Kd.R_drewN | apply Kd.R_drew)); exact HO_5.out⟩, ⟨by repeat (first | (with_reducible first | exact HB.out | apply below_alloc | apply pw_below_drewN | apply below_drew1) | exact HB.out)⟩⟩
                            · rw [if_neg c15] at H
                              have c15b0 : ((bt a0 x6_3) == 10) = false := beq_eq_false_iff_ne.mpr c15
                              have c15b1 : ((bt a0 x6_3) != 10) = true := bne_iff_ne.mpr c15
                              have H' := Aside0.mk H
                              clear H
                              have p14 : 0 ≤ (x6_3 : Int) := of_decide_eq_true (by first | (with_reducible assumption) | assumption)
                              have q14 : x6_3 < (a0.size : Int) := of_decide_eq_true (by first | (with_reducible assumption) | assumption)
                              have hx14 := bt_at a0 x6_3
                              replace p14 := eq_true p14
                              replace q14 := eq_true q14
                              go_wp2
                              go_roundg k3
                              case measure => have := HK1.out; have := HJ5.out; have := HK3.out; omega
                              case rel => exact ⟨(wrap64 (x6_3 + 1)), (by first | rfl | (simp; done) | (simp [*]; done)), H', ⟨by have := HK1.out; have := HJ5.out; have := HK3.out; omega⟩, ⟨by (with_reducible repeat (first | apply Kd.R_alloc | apply Kd.R_drewN | apply Kd.R_drew)); exact HO_5.out⟩, ⟨by repeat (first | (with_reducible first | exact HB.out | apply below_alloc | apply pw_below_drewN | apply below_drew1) | exact HB.out)⟩⟩
                          · rw [if_neg c13] at H
                            exact absurd H (by simp)
                        · rw [if_neg c12] at H
                          have c12b0 : decide (x6_3 < (a0.size : Int)) = false := decide_eq_false c12
                          clear c12
                          have H' := Aside0.mk H
                          clear H
                          go_wp2
                          go_roundg k3
                          case measure => have := HK1.out; have := HJ5.out; have := HK3.out; omega
                          case rel => exact ⟨(x5_1), (x6_3), (by first | rfl | (simp; done) | (simp [*]; done)), H', ⟨by have := HK1.out; have := HJ5.out; have := HK3.out; omega⟩, ⟨by (with_reducible repeat (first | apply Kd.R_alloc | apply Kd.R_drewN | apply Kd.R_drew)); exact HO_5.out⟩, ⟨by repeat (first | (with_reducible first | exact HB.out | apply below_alloc | apply pw_below_drewN | apply below_drew1) | exact HB.out)⟩⟩
                  · rw [if_neg c11] at H
                    have c11b0 : ((bt a0 x6_1) == 35) = false := beq_eq_false_iff_ne.mpr c11
                    have c11b1 : ((bt a0 x6_1) != 35) = true := bne_iff_ne.mpr c11
                    replace H := Option.bind_eq_some_iff.mp H
                    obtain ⟨⟨t286, t287, t288, t289, t290, t291, t292, t293⟩, A160, H⟩ := H
                    replace H : (if t293 = 0 then (if x5_1.length < 2513169434916 then (lychgateref08_Scan.l0 kj5 a0 (x5_1 ++ [(⟨t286, t287, t288, (⟨t289, t290⟩ : S36), x6_1⟩ : S38)]) t292) else (none)) else (some (([] : List (S38)), t293, x6_1))) = some (r1, r2, r3) := H
                    have A16 := Aside0.mk A160
                    clear A160
                    by_cases c17 : t293 = 0
                    · rw [if_pos c17] at H
                      have c17b0 : (t293 == 0) = true := beq_iff_eq.mpr c17
                      have c17b1 : (t293 != 0) = false := bne_eq_false_iff_eq.mpr c17
                      clear c17
                      by_cases c18 : x5_1.length < 2513169434916
                      · rw [if_pos c18] at H
                        have LMc18 := Aside0.mk c18
                        clear c18
                        obtain ⟨y295, hy295⟩ : ∃ y_ : List (S38), y_ = (x5_1 ++ [(⟨t286, t287, t288, (⟨t289, t290⟩ : S36), x6_1⟩ : S38)]) := ⟨_, rfl⟩
                        replace H : (lychgateref08_Scan.l0 kj5 a0 y295 t292) = some (r1, r2, r3) := by first | (rw [hy295]; with_reducible exact H) | (have H2_ := (Option.bind_some _ _).symm.trans H; rw [hy295]; with_reducible exact H2_) | (have H2_ := (Option.bind_some _ _).symm.trans H; with_reducible exact H2_) | with_reducible exact H | (rw [hy295]; exact H) | exact H
                        have Ny295 := Aside0.mk hy295
                        clear hy295
                        have H' := Aside0.mk H
                        clear H
                        go_upto_region 20 with (first | ((with_reducible refine gate_callee (f := 14) rfl ?_); refine goesL_ (some 46) rfl rfl Tryz.func14 (by kernel_rfl) rfl #[.string a0, .int .i64 x6_1] rfl (by (try simp only [List.map_toArray, List.map_cons, List.map_nil]); first | done | rfl | (simp only [List.length_drop, List.length_take]; rfl)) ?_; (with_reducible refine (lychgateref08_one.calls kj5 a0 x6_1 t286 t287 t288 t289 t290 t291 t292 t293 _ A16.out).mono ?_); rintro e w19 ⟨rfl, hb⟩; refine ⟨_, rfl, ?_⟩; have n0_ := Aside0.mk (Kd.R_below (by (with_reducible repeat (first | apply Kd.R_alloc | apply Kd.R_drewN | apply Kd.R_drew)); exact HO_5.out) hb); have n1_ := Aside0.mk (below_step (by repeat (first | (with_reducible first | exact HB.out | apply below_alloc | apply pw_below_drewN | apply below_drew1) | exact HB.out)) hb); clear HO_5; clear HB; have HO_5 := n0_; have HB := n1_; clear n0_ n1_; (try clear hb); (try clear hb2); (try clear hk); (try clear hi)) | ((with_reducible refine gate_dst (N := 8) rfl ?_); refine box_event ?hg (N := 8) ?hd (cs := #[.int .i64 0, .string (⟨#[]⟩ : ByteArray), .int .i64 0, .int .i64 0, .int .i64 0, .int .i64 0]) (t := 38) ?hr ?_; (case hd => rfl); (case hg => rfl); (case hr => first | (go_simp; done) | (go_simp; rfl)); intro gb294 hg w20 hbox hb; have n0_ := Aside0.mk (Kd.R_below (Kd.R_elderB (by (with_reducible repeat (first | apply Kd.R_alloc | apply Kd.R_drewN | apply Kd.R_drew)); exact HO_5.out) gb294 (Nat.le_of_eq hg.symm)) hb); have n1_ := Aside0.mk (below_step (by repeat (first | (with_reducible first | exact HB.out | apply below_alloc | apply pw_below_drewN | apply below_drew1) | exact HB.out)) hb); have n2_ := Aside0.mk (hbox); have n3_ := Aside0.mk ((by rw [hg]; exact (below_size (by repeat (first | (with_reducible first | exact HB.out | apply below_alloc | apply pw_below_drewN | apply below_drew1) | exact HB.out))) : w.heap.size ≤ gb294)); have n4_ := Aside0.mk ((by rw [hg]; exact (below_size (by repeat (first | (with_reducible first | exact HB.out | apply below_alloc | apply pw_below_drewN | apply below_drew1) | exact HB.out))) : w.heap.size ≤ gb294)); clear HO_5; clear HB; have HO_5 := n0_; have HB := n1_; have BK294 := n2_; have GW294 := n3_; have GE294 := n4_; clear n0_ n1_ n2_ n3_ n4_; clear hb hbox hg; have hcz21_0 : w20.cell? ⟨gb294, 0, none⟩ = some (.int .i64 0) := (blk_cell BK294.out 0).trans rfl; have hcz21_1 : w20.cell? ⟨gb294, 1, none⟩ = some (.string (⟨#[]⟩ : ByteArray)) := (blk_cell BK294.out 1).trans rfl; have hcz21_2 : w20.cell? ⟨gb294, 2, none⟩ = some (.int .i64 0) := (blk_cell BK294.out 2).trans rfl; have hcz21_3 : w20.cell? ⟨gb294, 3, none⟩ = some (.int .i64 0) := (blk_cell BK294.out 3).trans rfl; have hcz21_4 : w20.cell? ⟨gb294, 4, none⟩ = some (.int .i64 0) := (blk_cell BK294.out 4).trans rfl; have hcz21_5 : w20.cell? ⟨gb294, 5, none⟩ = some (.int .i64 0) := (blk_cell BK294.out 5).trans rfl; have hfz21_0 := blk_frozen BK294.out 0; have hfz21_1 := blk_frozen BK294.out 1; have hfz21_2 := blk_frozen BK294.out 2; have hfz21_3 := blk_frozen BK294.out 3; have hfz21_4 := blk_frozen BK294.out 4; have hfz21_5 := blk_frozen BK294.out 5))
                        have n0_ : (((((((w20.setCell ⟨gb294, 0, none⟩ (.int .i64 t286)).setCell ⟨gb294, 1, none⟩ (.string t287)).setCell ⟨gb294, 2, none⟩ (.int .i64 t288)).setCell ⟨gb294, 3, none⟩ (.int .i64 t289)).setCell ⟨gb294, 4, none⟩ (.int .i64 t290)).setCell ⟨gb294, 5, none⟩ (.int .i64 t291)).setCell ⟨gb294, 5, none⟩ (.int .i64 x6_1)).heap[gb294]? = some (.cells #[.int .i64 t286, .string t287, .int .i64 t288, .int .i64 t289, .int .i64 t290, .int .i64 x6_1] 38 (0, 0)) := blk_put (blk_put (blk_put (blk_put (blk_put (blk_put (blk_put (BK294.out) 0 _ rfl) 1 _ rfl) 2 _ rfl) 3 _ rfl) 4 _ rfl) 5 _ rfl) 5 _ rfl
                        have n1_ : Kd.R k38 38 (((((((w20.setCell ⟨gb294, 0, none⟩ (.int .i64 t286)).setCell ⟨gb294, 1, none⟩ (.string t287)).setCell ⟨gb294, 2, none⟩ (.int .i64 t288)).setCell ⟨gb294, 3, none⟩ (.int .i64 t289)).setCell ⟨gb294, 4, none⟩ (.int .i64 t290)).setCell ⟨gb294, 5, none⟩ (.int .i64 t291)).setCell ⟨gb294, 5, none⟩ (.int .i64 x6_1)) w.heap.size (fun k_ => True ∧ k_ ≠ gb294) u5 x5_1 := Kd.R_far (p := ⟨gb294, 5, none⟩) (Kd.R_far (p := ⟨gb294, 5, none⟩) (Kd.R_far (p := ⟨gb294, 4, none⟩) (Kd.R_far (p := ⟨gb294, 3, none⟩) (Kd.R_far (p := ⟨gb294, 2, none⟩) (Kd.R_far (p := ⟨gb294, 1, none⟩) (Kd.R_far (p := ⟨gb294, 0, none⟩) (HO_5.out) (fun _ hk => hk.2) _) (fun _ hk => hk.2) _) (fun _ hk => hk.2) _) (fun _ hk => hk.2) _) (fun _ hk => hk.2) _) (fun _ hk => hk.2) _) (fun _ hk => hk.2) _
                        have n2_ : Below w.heap.size w (((((((w20.setCell ⟨gb294, 0, none⟩ (.int .i64 t286)).setCell ⟨gb294, 1, none⟩ (.string t287)).setCell ⟨gb294, 2, none⟩ (.int .i64 t288)).setCell ⟨gb294, 3, none⟩ (.int .i64 t289)).setCell ⟨gb294, 4, none⟩ (.int .i64 t290)).setCell ⟨gb294, 5, none⟩ (.int .i64 t291)).setCell ⟨gb294, 5, none⟩ (.int .i64 x6_1)) := below_set (below_set (below_set (below_set (below_set (below_set (below_set (HB.out) GE294.out) GE294.out) GE294.out) GE294.out) GE294.out) GE294.out) GE294.out
                        generalize ((((((w20.setCell ⟨gb294, 0, none⟩ (.int .i64 t286)).setCell ⟨gb294, 1, none⟩ (.string t287)).setCell ⟨gb294, 2, none⟩ (.int .i64 t288)).setCell ⟨gb294, 3, none⟩ (.int .i64 t289)).setCell ⟨gb294, 4, none⟩ (.int .i64 t290)).setCell ⟨gb294, 5, none⟩ (.int .i64 t291)).setCell ⟨gb294, 5, none⟩ (.int .i64 x6_1) = W2 at n0_ n1_ n2_ ⊢
                        have BK2 := Aside0.mk n0_
                        have HO2 := Aside0.mk n1_
                        have HB2 := Aside0.mk n2_
                        have c0_ : W2.cell? ⟨gb294, 0, none⟩ = some (.int .i64 t286) := blk_cell n0_ 0
                        have c1_ : W2.cell? ⟨gb294, 1, none⟩ = some (.string t287) := blk_cell n0_ 1
                        have c2_ : W2.cell? ⟨gb294, 2, none⟩ = some (.int .i64 t288) := blk_cell n0_ 2
                        have c3_ : W2.cell? ⟨gb294, 3, none⟩ = some (.int .i64 t289) := blk_cell n0_ 3
                        have c4_ : W2.cell? ⟨gb294, 4, none⟩ = some (.int .i64 t290) := blk_cell n0_ 4
                        have c5_ : W2.cell? ⟨gb294, 5, none⟩ = some (.int .i64 x6_1) := blk_cell n0_ 5
                        clear n0_ n1_ n2_ HB BK294 HO_5
                        go_wp2_with (((with_reducible refine gate_builtin (b := .append) (xs := #[.tmp 56, .tmp 58]) rfl ?_); at_builtin; refine Kd.R_append k38 (w0 := w) w.heap.size rfl (.tmp 56) (.tmp 58) 26 38 (.agg #[(.int .i64 0), (.string ⟨#[]⟩), (.int .i64 0), (.int .i64 0), (.int .i64 0), (.int .i64 0)]) 56 rfl Tryz.underlying26 info38 rfl (by decide) (by omega) u5 x5_1 (⟨t286, t287, t288, (⟨t289, t290⟩ : S36), x6_1⟩ : S38) [.int .i64 t286, .string t287, .int .i64 t288, .int .i64 t289, .int .i64 t290, .int .i64 x6_1] (fun k_ => k_ ≠ gb294) (fun _ => False) rfl (by first | (go_simp; done) | (go_simp; rfl)) ?aP (fun _ hk => hk.elim) ?aF ?aO ?aB ?aS ?aL ?_; (case aP => exact k38_mkM _ _ _ (⟨t286, t287, t288, (⟨t289, t290⟩ : S36), x6_1⟩ : S38)); (case aB => exact (by repeat (first | (with_reducible first | exact HB2.out | apply below_alloc | apply pw_below_drewN | apply below_drew1 | refine below_set ?_ GE294.out) | exact HB2.out))); (case aF => exact (fun k_ hk => Kd.freshB (g := gb294) (o := .cells #[.int .i64 t286, .string t287, .int .i64 t288, .int .i64 t289, .int .i64 t290, .int .i64 x6_1] 38 (0, 0)) (by (with_reducible repeat (first | refine blk_drewN ?_ _ | refine blk_drew ?_ | refine blk_alloc ?_ _)); exact BK2.out) k_ hk)); (case aO => exact (by (with_reducible repeat (first | apply Kd.R_alloc | apply Kd.R_drewN | apply Kd.R_drew)); exact Kd.R_mono HO2.out (fun _ hk => hk.2))); (case aS => exact (below_size (by repeat (first | (with_reducible first | exact HB2.out | apply below_alloc | apply pw_below_drewN | apply below_drew1 | refine below_set ?_ GE294.out) | exact HB2.out)))); (case aL => have := LMc18.out; omega); intro v296 w22 ho hb hg hat; rw [← Ny295.out] at ho; have HB := Aside0.mk (hb); have HO297 := Aside0.mk (ho); clear ho hb hg hat))
                        go_roundg kj5
                        case measure => have := HK1.out; have := HJ5.out; omega
                        case rel => exact ⟨(y295), (t292), (by first | rfl | (simp; done) | (simp [*]; done)), H', ⟨by have := HK1.out; have := HJ5.out; omega⟩, ⟨by (with_reducible repeat (first | apply Kd.R_alloc | apply Kd.R_drewN | apply Kd.R_drew)); exact Kd.R_mono HO297.out (fun _ hk => trivial)⟩, ⟨by repeat (first | (with_reducible first | exact HB.out | apply below_alloc | apply pw_below_drewN | apply below_drew1 | refine below_set ?_ GE294.out) | exact HB.out)⟩⟩
                      · rw [if_neg c18] at H
                        exact absurd H (by simp)
                    · rw [if_neg c17] at H
                      have c17b0 : (t293 == 0) = false := beq_eq_false_iff_ne.mpr c17
                      have c17b1 : (t293 != 0) = true := bne_iff_ne.mpr c17
                      simp only [Option.some.injEq, Prod.mk.injEq] at H
                      obtain ⟨rfl, rfl, rfl⟩ := H
                      go_wp2_with (first | ((with_reducible refine gate_callee (f := 14) rfl ?_); refine goesL_ (some 46) rfl rfl Tryz.func14 (by kernel_rfl) rfl #[.string a0, .int .i64 x6_1] rfl (by (try simp only [List.map_toArray, List.map_cons, List.map_nil]); first | done | rfl | (simp only [List.length_drop, List.length_take]; rfl)) ?_; (with_reducible refine (lychgateref08_one.calls kj5 a0 x6_1 t286 t287 t288 t289 t290 t291 t292 t293 _ A16.out).mono ?_); rintro e w23 ⟨rfl, hb⟩; refine ⟨_, rfl, ?_⟩; have n0_ := Aside0.mk (Kd.R_below (by (with_reducible repeat (first | apply Kd.R_alloc | apply Kd.R_drewN | apply Kd.R_drew)); exact HO_5.out) hb); have n1_ := Aside0.mk (below_step (by repeat (first | (with_reducible first | exact HB.out | apply below_alloc | apply pw_below_drewN | apply below_drew1) | exact HB.out)) hb); clear HO_5; clear HB; have HO_5 := n0_; have HB := n1_; clear n0_ n1_; (try clear hb); (try clear hb2); (try clear hk); (try clear hi)) | ((with_reducible refine gate_dst (N := 8) rfl ?_); refine box_event ?hg (N := 8) ?hd (cs := #[.int .i64 0, .string (⟨#[]⟩ : ByteArray), .int .i64 0, .int .i64 0, .int .i64 0, .int .i64 0]) (t := 38) ?hr ?_; (case hd => rfl); (case hg => rfl); (case hr => first | (go_simp; done) | (go_simp; rfl)); intro gb294 hg w24 hbox hb; have n0_ := Aside0.mk (Kd.R_below (Kd.R_elderB (by (with_reducible repeat (first | apply Kd.R_alloc | apply Kd.R_drewN | apply Kd.R_drew)); exact HO_5.out) gb294 (Nat.le_of_eq hg.symm)) hb); have n1_ := Aside0.mk (below_step (by repeat (first | (with_reducible first | exact HB.out | apply below_alloc | apply pw_below_drewN | apply below_drew1) | exact HB.out)) hb); have n2_ := Aside0.mk (hbox); have n3_ := Aside0.mk ((by rw [hg]; exact (below_size (by repeat (first | (with_reducible first | exact HB.out | apply below_alloc | apply pw_below_drewN | apply below_drew1) | exact HB.out))) : w.heap.size ≤ gb294)); have n4_ := Aside0.mk ((by rw [hg]; exact (below_size (by repeat (first | (with_reducible first | exact HB.out | apply below_alloc | apply pw_below_drewN | apply below_drew1) | exact HB.out))) : w.heap.size ≤ gb294)); clear HO_5; clear HB; have HO_5 := n0_; have HB := n1_; have BK294 := n2_; have GW294 := n3_; have GE294 := n4_; clear n0_ n1_ n2_ n3_ n4_; clear hb hbox hg; have hcz25_0 : w24.cell? ⟨gb294, 0, none⟩ = some (.int .i64 0) := (blk_cell BK294.out 0).trans rfl; have hcz25_1 : w24.cell? ⟨gb294, 1, none⟩ = some (.string (⟨#[]⟩ : ByteArray)) := (blk_cell BK294.out 1).trans rfl; have hcz25_2 : w24.cell? ⟨gb294, 2, none⟩ = some (.int .i64 0) := (blk_cell BK294.out 2).trans rfl; have hcz25_3 : w24.cell? ⟨gb294, 3, none⟩ = some (.int .i64 0) := (blk_cell BK294.out 3).trans rfl; have hcz25_4 : w24.cell? ⟨gb294, 4, none⟩ = some (.int .i64 0) := (blk_cell BK294.out 4).trans rfl; have hcz25_5 : w24.cell? ⟨gb294, 5, none⟩ = some (.int .i64 0) := (blk_cell BK294.out 5).trans rfl; have hfz25_0 := blk_frozen BK294.out 0; have hfz25_1 := blk_frozen BK294.out 1; have hfz25_2 := blk_frozen BK294.out 2; have hfz25_3 := blk_frozen BK294.out 3; have hfz25_4 := blk_frozen BK294.out 4; have hfz25_5 := blk_frozen BK294.out 5))
                      go_ret3
                      exact ⟨_, by first | rfl | (simp [errW_none, errW_some] <;> rfl) | (simp [*, errW_none, errW_some] <;> rfl), by first | exact Kd.R_nil _ _ _ _ _ | exact Kd.N_nil _ _ _ _ _ | exact Kd.V_nil _ _ _ _ _ | exact Kd.Q_nil _ _ _ _ _ | exact Kd.S_nil _ _ _ _ _, by repeat (first | (with_reducible first | exact HB.out | apply below_alloc | apply pw_below_drewN | apply below_drew1 | refine below_set ?_ GE294.out) | exact HB.out)⟩
          · rw [if_neg c4] at H
            exact absurd H (by simp)
        · rw [if_neg c3] at H
          have c3b0 : decide (x6_1 < (a0.size : Int)) = false := decide_eq_false c3
          clear c3
          by_cases c26 : x5_1.length < 2513169434916
          · rw [if_pos c26] at H
            have LMc26 := Aside0.mk c26
            clear c26
            obtain ⟨y283, hy283⟩ : ∃ y_ : List (S38), y_ = (x5_1 ++ [(⟨8, (⟨#[]⟩ : ByteArray), 0, (⟨0, 0⟩ : S36), (a0.size : Int)⟩ : S38)]) := ⟨_, rfl⟩
            replace H : (some (y283, 0, 0)) = some (r1, r2, r3) := by first | (rw [hy283]; with_reducible exact H) | (have H2_ := (Option.bind_some _ _).symm.trans H; rw [hy283]; with_reducible exact H2_) | (have H2_ := (Option.bind_some _ _).symm.trans H; with_reducible exact H2_) | with_reducible exact H | (rw [hy283]; exact H) | exact H
            have Ny283 := Aside0.mk hy283
            clear hy283
            simp only [Option.some.injEq, Prod.mk.injEq] at H
            obtain ⟨rfl, rfl, rfl⟩ := H
            go_wp2_with (first | ((with_reducible refine gate_builtin (b := .append) (xs := #[.tmp 61, .tmp 65]) rfl ?_); at_builtin; refine Kd.R_append k38 (w0 := w) w.heap.size rfl (.tmp 61) (.tmp 65) 26 38 (.agg #[(.int .i64 0), (.string ⟨#[]⟩), (.int .i64 0), (.int .i64 0), (.int .i64 0), (.int .i64 0)]) 56 rfl Tryz.underlying26 info38 rfl (by decide) (by omega) u5 x5_1 (⟨8, (⟨#[]⟩ : ByteArray), 0, (⟨0, 0⟩ : S36), (a0.size : Int)⟩ : S38) [.int .i64 8, .string (⟨#[]⟩ : ByteArray), .int .i64 0, .int .i64 0, .int .i64 0, .int .i64 (a0.size : Int)] (fun _ => True) (fun _ => False) rfl rfl ?aP (fun _ hk => hk.elim) ?aF ?aO ?aB ?aS ?aL ?_; (case aP => exact k38_mkM _ _ _ (⟨8, (⟨#[]⟩ : ByteArray), 0, (⟨0, 0⟩ : S36), (a0.size : Int)⟩ : S38)); (case aB => exact (by repeat (first | (with_reducible first | exact HB.out | apply below_alloc | apply pw_below_drewN | apply below_drew1) | exact HB.out))); (case aF => exact (fun _ _ => trivial)); (case aO => exact (by (with_reducible repeat (first | apply Kd.R_alloc | apply Kd.R_drewN | apply Kd.R_drew)); exact HO_5.out)); (case aS => exact (below_size (by repeat (first | (with_reducible first | exact HB.out | apply below_alloc | apply pw_below_drewN | apply below_drew1) | exact HB.out)))); (case aL => have := LMc26.out; omega); intro v284 w27 ho hb hg hat; rw [← Ny283.out] at ho; have n0_ := Aside0.mk (hb); have n1_ := Aside0.mk (ho); clear HB; clear HO_5; have HB := n0_; have HO285 := n1_; clear n0_ n1_; clear ho hb hg hat))
            go_ret3
            exact ⟨_, by first | rfl | (simp [errW_none, errW_some] <;> rfl) | (simp [*, errW_none, errW_some] <;> rfl), by (with_reducible repeat (first | apply Kd.R_alloc | apply Kd.R_drewN | apply Kd.R_drew)); exact HO285.out, by repeat (first | (with_reducible first | exact HB.out | apply below_alloc | apply pw_below_drewN | apply below_drew1) | exact HB.out)⟩
          · rw [if_neg c26] at H
            exact absurd H (by simp)

def lychgatelaw08_same.l0 : Nat → List (S38) → List (S38) → Int → Option (Bool)
  | 0, _, _, _ => none
  | k + 1, x0, x1, x5 => if x5 < (x0.length : Int) then (if 0 ≤ x5 then (if x5 < (x1.length : Int) then (if (!(((rd_T38 x0 x5).f0) == ((rd_T38 x1 x5).f0)) || (!((((rd_T38 x0 x5).f1).toList) == (((rd_T38 x1 x5).f1).toList)) || (!(((rd_T38 x0 x5).f2) == ((rd_T38 x1 x5).f2)) || ((!(((rd_T38 x0 x5).f3.f0) == ((rd_T38 x1 x5).f3.f0)) || (!(((rd_T38 x0 x5).f3.f1) == ((rd_T38 x1 x5).f3.f1)))) || (!(((rd_T38 x0 x5).f4) == ((rd_T38 x1 x5).f4))))))) = true then (some false) else (lychgatelaw08_same.l0 k x0 x1 (wrap64 (x5 + 1)))) else (none)) else (none)) else (some true)
def lychgatelaw08_same.f (k : Nat) (l0 : List (S38)) (l1 : List (S38)) : Option (Bool) := if (l0.length : Int) = (l1.length : Int) then (lychgatelaw08_same.l0 k l0 l1 0) else (some false)
set_option maxHeartbeats 8000000 in
set_option maxRecDepth 100000 in
theorem lychgatelaw08_same.calls (k : Nat) (A0 : Option Addr) (c0 : Nat) (l0 : List (S38)) (A1 : Option Addr) (c1 : Nat) (l1 : List (S38)) (r : Bool) (w : World) (hr0 : Kd.C k38 w A0 l0.length l0) (hc0 : l0.length ≤ c0) (hr1 : Kd.C k38 w A1 l1.length l1) (hc1 : l1.length ≤ c1) (h : lychgatelaw08_same.f k l0 l1 = some r) :
    Calls Tryz.prog 8 #[.slice A0 l0.length c0, .slice A1 l1.length c1] w fun e w' => e = .returned (.bool r) ∧ Drawn0 w w' := by
  have hu38 := Tryz.underlying38
  have HR0 := Aside0.mk hr0
  have HC0 := Aside0.mk hc0
  clear hr0 hc0
  have HR1 := Aside0.mk hr1
  have HC1 := Aside0.mk hc1
  clear hr1 hc1
  have H : (if (l0.length : Int) = (l1.length : Int) then (lychgatelaw08_same.l0 k l0 l1 0) else (some false)) = some r := h
  clear h
  by_cases c3 : (l0.length : Int) = (l1.length : Int)
  · rw [if_pos c3] at H
    have c3b0 : ((l0.length : Int) == (l1.length : Int)) = true := beq_iff_eq.mpr c3
    have c3b1 : ((l0.length : Int) != (l1.length : Int)) = false := bne_eq_false_iff_eq.mpr c3
    have c3b2 : (l0.length == l1.length) = true := by first | simpa using c3 | (simp at c3 ⊢; omega)
    clear c3
    have H' := Aside0.mk H
    clear H
    go_enter Tryz.func8, Tryz.ntmps8
    go_wp2
    repeat (go_quiet (fail); try go_wp2)
    go_loopg [5] k (fun kq v5 w' => ∃ (x5_1 : Int), v5 = .int .i64 x5_1 ∧ Aside0 (lychgatelaw08_same.l0 kq l0 l1 x5_1 = some r) ∧ Aside0 (kq ≤ k) ∧ Drawn0 w w')
    case atStart => exact ⟨(0), (by first | rfl | (simp; done) | (simp [*]; done)), H', ⟨Nat.le_refl _⟩, by repeat (first | exact Drawn0.refl _ | apply Drawn0.step)⟩
    case round =>
      clear H'
      try clear c1
      try clear p2
      try clear c3
      try clear c3b0
      try clear c3b1
      try clear c3b2
      obtain ⟨x5_1, rfl, HA, HK1, ⟨m1, rfl⟩⟩ := hrel
      cases gk with
      | zero => exact absurd HA.out (by simp [lychgatelaw08_same.l0])
      | succ k1 =>
        have H := HA.out
        clear HA
        simp only [lychgatelaw08_same.l0] at H
        by_cases c4 : x5_1 < (l0.length : Int)
        · rw [if_pos c4] at H
          have c4b0 : decide (x5_1 < (l0.length : Int)) = true := decide_eq_true c4
          clear c4
          by_cases c5 : 0 ≤ x5_1
          · rw [if_pos c5] at H
            have c5b0 : decide (0 ≤ x5_1) = true := decide_eq_true c5
            clear c5
            by_cases c6 : x5_1 < (l1.length : Int)
            · rw [if_pos c6] at H
              have c6b0 : decide (x5_1 < (l1.length : Int)) = true := decide_eq_true c6
              clear c6
              by_cases c7 : (!(((rd_T38 l0 x5_1).f0) == ((rd_T38 l1 x5_1).f0)) || (!((((rd_T38 l0 x5_1).f1).toList) == (((rd_T38 l1 x5_1).f1).toList)) || (!(((rd_T38 l0 x5_1).f2) == ((rd_T38 l1 x5_1).f2)) || ((!(((rd_T38 l0 x5_1).f3.f0) == ((rd_T38 l1 x5_1).f3.f0)) || (!(((rd_T38 l0 x5_1).f3.f1) == ((rd_T38 l1 x5_1).f3.f1)))) || (!(((rd_T38 l0 x5_1).f4) == ((rd_T38 l1 x5_1).f4))))))) = true
              · rw [if_pos c7] at H
                have c7b0 : (!(((rd_T38 l0 x5_1).f0) == ((rd_T38 l1 x5_1).f0)) || (!((((rd_T38 l0 x5_1).f1).toList) == (((rd_T38 l1 x5_1).f1).toList)) || (!(((rd_T38 l0 x5_1).f2) == ((rd_T38 l1 x5_1).f2)) || ((!(((rd_T38 l0 x5_1).f3.f0) == ((rd_T38 l1 x5_1).f3.f0)) || (!(((rd_T38 l0 x5_1).f3.f1) == ((rd_T38 l1 x5_1).f3.f1)))) || (!(((rd_T38 l0 x5_1).f4) == ((rd_T38 l1 x5_1).f4))))))) = true := c7
                clear c7
                obtain rfl := Option.some.inj H
                have p298 : 0 ≤ (x5_1 : Int) := of_decide_eq_true (by first | (with_reducible assumption) | assumption)
                have q298 : x5_1 < (l0.length : Int) := of_decide_eq_true (by first | (with_reducible assumption) | assumption)
                obtain ⟨ad298, e298, hx298_0, hx298_1, hx298_2, hx298_3, hx298_4, hx298_5⟩ := at_T38 HR0.out x5_1 p298 q298
                cases e298
                replace p298 := eq_true p298
                replace q298 := eq_true q298
                have p299 : 0 ≤ (x5_1 : Int) := of_decide_eq_true (by first | (with_reducible assumption) | assumption)
                have q299 : x5_1 < (l1.length : Int) := of_decide_eq_true (by first | (with_reducible assumption) | assumption)
                obtain ⟨ad299, e299, hx299_0, hx299_1, hx299_2, hx299_3, hx299_4, hx299_5⟩ := at_T38 HR1.out x5_1 p299 q299
                cases e299
                replace p299 := eq_true p299
                replace q299 := eq_true q299
                go_wp2
                repeat (go_quiet (fail); try go_wp2)
                go_ret
                exact ⟨by first | rfl | (simp; done) | (simp [*]; done), by repeat (first | exact Drawn0.refl _ | apply Drawn0.step)⟩
              · rw [if_neg c7] at H
                have c7b0 : (!(((rd_T38 l0 x5_1).f0) == ((rd_T38 l1 x5_1).f0)) || (!((((rd_T38 l0 x5_1).f1).toList) == (((rd_T38 l1 x5_1).f1).toList)) || (!(((rd_T38 l0 x5_1).f2) == ((rd_T38 l1 x5_1).f2)) || ((!(((rd_T38 l0 x5_1).f3.f0) == ((rd_T38 l1 x5_1).f3.f0)) || (!(((rd_T38 l0 x5_1).f3.f1) == ((rd_T38 l1 x5_1).f3.f1)))) || (!(((rd_T38 l0 x5_1).f4) == ((rd_T38 l1 x5_1).f4))))))) = false := by simpa using c7
                clear c7
                have H' := Aside0.mk H
                clear H
                have p298 : 0 ≤ (x5_1 : Int) := of_decide_eq_true (by first | (with_reducible assumption) | assumption)
                have q298 : x5_1 < (l0.length : Int) := of_decide_eq_true (by first | (with_reducible assumption) | assumption)
                obtain ⟨ad298, e298, hx298_0, hx298_1, hx298_2, hx298_3, hx298_4, hx298_5⟩ := at_T38 HR0.out x5_1 p298 q298
                cases e298
                replace p298 := eq_true p298
                replace q298 := eq_true q298
                have p299 : 0 ≤ (x5_1 : Int) := of_decide_eq_true (by first | (with_reducible assumption) | assumption)
                have q299 : x5_1 < (l1.length : Int) := of_decide_eq_true (by first | (with_reducible assumption) | assumption)
                obtain ⟨ad299, e299, hx299_0, hx299_1, hx299_2, hx299_3, hx299_4, hx299_5⟩ := at_T38 HR1.out x5_1 p299 q299
                cases e299
                replace p299 := eq_true p299
                replace q299 := eq_true q299
                go_wp2
                repeat (go_quiet (fail); try go_wp2)
                go_roundg k1
                case measure => have := HK1.out; omega
                case rel => exact ⟨(wrap64 (x5_1 + 1)), (by first | rfl | (simp; done) | (simp [*]; done)), H', ⟨by have := HK1.out; omega⟩, by repeat (first | exact Drawn0.refl _ | apply Drawn0.step)⟩
            · rw [if_neg c6] at H
              exact absurd H (by simp)
          · rw [if_neg c5] at H
            exact absurd H (by simp)
        · rw [if_neg c4] at H
          have c4b0 : decide (x5_1 < (l0.length : Int)) = false := decide_eq_false c4
          clear c4
          obtain rfl := Option.some.inj H
          go_wp2
          repeat (go_quiet (fail); try go_wp2)
          go_ret
          exact ⟨by first | rfl | (simp; done) | (simp [*]; done), by repeat (first | exact Drawn0.refl _ | apply Drawn0.step)⟩
  · rw [if_neg c3] at H
    have c3b0 : ((l0.length : Int) == (l1.length : Int)) = false := beq_eq_false_iff_ne.mpr c3
    have c3b1 : ((l0.length : Int) != (l1.length : Int)) = true := bne_iff_ne.mpr c3
    have c3b2 : (l0.length == l1.length) = false := by first | simpa using c3 | (simp at c3 ⊢; omega)
    obtain rfl := Option.some.inj H
    go_enter Tryz.func8, Tryz.ntmps8
    go_wp2
    repeat (go_quiet (fail); try go_wp2)
    go_ret
    exact ⟨by first | rfl | (simp; done) | (simp [*]; done), by repeat (first | exact Drawn0.refl _ | apply Drawn0.step)⟩

end Go.Proofs.YthllfnmebdjpfaaGreatDoor.H

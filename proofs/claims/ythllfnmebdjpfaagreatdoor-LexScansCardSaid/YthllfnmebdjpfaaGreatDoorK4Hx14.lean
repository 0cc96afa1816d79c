/- Contracts of Go functions as plain Lean functions, written by a program of this session (wip/hand) out of the translation. -/
import Derived.Test.YthllfnmebdjpfaaGreatDoorK4Hx0
import Derived.Test.YthllfnmebdjpfaaGreatDoorK4Hx2
import Derived.Test.YthllfnmebdjpfaaGreatDoorK4Hx6
import Derived.Test.YthllfnmebdjpfaaGreatDoorK4Hx7
import Derived.Test.YthllfnmebdjpfaaGreatDoorK4Hx12
import Derived.Test.YthllfnmebdjpfaaGreatDoorK4Hx13
namespace Go.Proofs.YthllfnmebdjpfaaGreatDoor.H
open Go.RowKit Go.Proofs.YthllfnmebdjpfaaGreatDoor.Hand Go.Proofs.YthllfnmebdjpfaaGreatDoorW.PrintWords Go.Proofs.YthllfnmebdjpfaaGreatDoorW.PrintLast Go.Proofs.YthllfnmebdjpfaaGreatDoorW.PrintMore
attribute [local go_sem] max2_int min2_int max_two min_two max_three min_three max_four min_four   -- for this text's walks alone
set_option linter.unusedVariables false
set_option linter.unusedSimpArgs false

def lychgatelaw08_LexScans.l0 : Nat → Bool → List ByteArray → List (List (S38)) → List (List (S38)) → Int → Option (Bool)
  | 0, _, _, _, _, _ => none
  | k + 1, x5, x6, x7, x8, x9 => if x9 < (x6.length : Int) then (if 0 ≤ x9 then ((lex_Scan.f k (rdOf ByteArray.empty x6 x9)).bind fun bt307 => ((lychgateref08_Scan.f k (rdOf ByteArray.empty x6 x9)).bind fun bt313 => ((lychgatelaw08_same.f k bt307.1 bt313.1).bind fun t318 => (if t318 = true then (if bt307.2.1 = bt313.2.1 then (if bt307.2.2 = bt313.2.2 then (if x7.length < 5864062014805 then (if x8.length < 5864062014805 then (lychgatelaw08_LexScans.l0 k x5 x6 (x7 ++ [bt307.1]) (x8 ++ [bt313.1]) (wrap64 (x9 + 1))) else (none)) else (none)) else (none)) else (none)) else (none))))) else (none)) else ((lychgatelaw08_apart.f x7 x8).bind fun t305 => (if x5 = true then (some t305) else (none)))
def lychgatelaw08_LexScans.f (k : Nat) (a0 : ByteArray) (a1 : ByteArray) : Option (Bool) := (lychgatelaw08_add.f (a0.size : Int) (a1.size : Int)).bind fun t300 => (if (wrap64 (4 * (mn t300 2147483647))) > 2147483647 then (some true) else ((lychgatelaw08_awake.f k).bind fun t301 => (if a0.size + a1.size ≤ 9223372036854775807 then (if a0.size + 1 ≤ 9223372036854775807 then (if (a0 ++ (⟨#[32]⟩ : ByteArray)).size + a1.size ≤ 9223372036854775807 then (if (a0 ++ (⟨#[35]⟩ : ByteArray)).size + a1.size ≤ 9223372036854775807 then (if ((a0 ++ (⟨#[35]⟩ : ByteArray)) ++ a1).size + 1 ≤ 9223372036854775807 then (if (((a0 ++ (⟨#[35]⟩ : ByteArray)) ++ a1) ++ (⟨#[10]⟩ : ByteArray)).size + a0.size ≤ 9223372036854775807 then (lychgatelaw08_LexScans.l0 k t301 (([a0, a1, a0, a0 ++ a1, (a0 ++ (⟨#[32]⟩ : ByteArray)) ++ a1, (((a0 ++ (⟨#[35]⟩ : ByteArray)) ++ a1) ++ (⟨#[10]⟩ : ByteArray)) ++ a0] : List ByteArray)) ([] : List (List (S38))) ([] : List (List (S38))) 0) else (none)) else (none)) else (none)) else (none)) else (none)) else (none))))
set_option maxHeartbeats 8000000 in
set_option maxRecDepth 100000 in
theorem lychgatelaw08_LexScans.calls (k : Nat) (a0 : ByteArray) (a1 : ByteArray) (r : Bool) (w : World) (hInv : Inv w) (h : lychgatelaw08_LexScans.f k a0 a1 = some r) :
    Calls Tryz.prog 3 #[.string a0, .string a1] w fun e w' => e = .returned (.bool r) ∧ Below w.heap.size w w' := by
  have HB := Aside0.mk (Below.refl w.heap.size w)
  have HI_ := Aside0.mk hInv
  clear hInv
  have H : ((lychgatelaw08_add.f (a0.size : Int) (a1.size : Int)).bind fun t300 => (if (wrap64 (4 * (mn t300 2147483647))) > 2147483647 then (some true) else ((lychgatelaw08_awake.f k).bind fun t301 => (if a0.size + a1.size ≤ 9223372036854775807 then (if a0.size + 1 ≤ 9223372036854775807 then (if (a0 ++ (⟨#[32]⟩ : ByteArray)).size + a1.size ≤ 9223372036854775807 then (if (a0 ++ (⟨#[35]⟩ : ByteArray)).size + a1.size ≤ 9223372036854775807 then (if ((a0 ++ (⟨#[35]⟩ : ByteArray)) ++ a1).size + 1 ≤ 9223372036854775807 then (if (((a0 ++ (⟨#[35]⟩ : ByteArray)) ++ a1) ++ (⟨#[10]⟩ : ByteArray)).size + a0.size ≤ 9223372036854775807 then (lychgatelaw08_LexScans.l0 k t301 (([a0, a1, a0, a0 ++ a1, (a0 ++ (⟨#[32]⟩ : ByteArray)) ++ a1, (((a0 ++ (⟨#[35]⟩ : ByteArray)) ++ a1) ++ (⟨#[10]⟩ : ByteArray)) ++ a0] : List ByteArray)) ([] : List (List (S38))) ([] : List (List (S38))) 0) else (none)) else (none)) else (none)) else (none)) else (none)) else (none))))) = some r := h
  clear h
  replace H := Option.bind_eq_some_iff.mp H
  obtain ⟨t300, A30, H⟩ := H
  replace H : (if (wrap64 (4 * (mn t300 2147483647))) > 2147483647 then (some true) else ((lychgatelaw08_awake.f k).bind fun t301 => (if a0.size + a1.size ≤ 9223372036854775807 then (if a0.size + 1 ≤ 9223372036854775807 then (if (a0 ++ (⟨#[32]⟩ : ByteArray)).size + a1.size ≤ 9223372036854775807 then (if (a0 ++ (⟨#[35]⟩ : ByteArray)).size + a1.size ≤ 9223372036854775807 then (if ((a0 ++ (⟨#[35]⟩ : ByteArray)) ++ a1).size + 1 ≤ 9223372036854775807 then (if (((a0 ++ (⟨#[35]⟩ : ByteArray)) ++ a1) ++ (⟨#[10]⟩ : ByteArray)).size + a0.size ≤ 9223372036854775807 then (lychgatelaw08_LexScans.l0 k t301 (([a0, a1, a0, a0 ++ a1, (a0 ++ (⟨#[32]⟩ : ByteArray)) ++ a1, (((a0 ++ (⟨#[35]⟩ : ByteArray)) ++ a1) ++ (⟨#[10]⟩ : ByteArray)) ++ a0] : List ByteArray)) ([] : List (List (S38))) ([] : List (List (S38))) 0) else (none)) else (none)) else (none)) else (none)) else (none)) else (none)))) = some r := H
  have A3 := Aside0.mk A30
  clear A30
  obtain ⟨ji4, hji4⟩ : ∃ j_ : Int, (mn t300 2147483647) = j_ := ⟨_, rfl⟩
  replace H : (if (wrap64 (4 * (ji4))) > 2147483647 then (some true) else ((lychgatelaw08_awake.f k).bind fun t301 => (if a0.size + a1.size ≤ 9223372036854775807 then (if a0.size + 1 ≤ 9223372036854775807 then (if (a0 ++ (⟨#[32]⟩ : ByteArray)).size + a1.size ≤ 9223372036854775807 then (if (a0 ++ (⟨#[35]⟩ : ByteArray)).size + a1.size ≤ 9223372036854775807 then (if ((a0 ++ (⟨#[35]⟩ : ByteArray)) ++ a1).size + 1 ≤ 9223372036854775807 then (if (((a0 ++ (⟨#[35]⟩ : ByteArray)) ++ a1) ++ (⟨#[10]⟩ : ByteArray)).size + a0.size ≤ 9223372036854775807 then (lychgatelaw08_LexScans.l0 k t301 (([a0, a1, a0, a0 ++ a1, (a0 ++ (⟨#[32]⟩ : ByteArray)) ++ a1, (((a0 ++ (⟨#[35]⟩ : ByteArray)) ++ a1) ++ (⟨#[10]⟩ : ByteArray)) ++ a0] : List ByteArray)) ([] : List (List (S38))) ([] : List (List (S38))) 0) else (none)) else (none)) else (none)) else (none)) else (none)) else (none)))) = some r := by first | (rw [hji4] at H; exact H) | (simp only [hji4] at H ⊢; exact H)
  (try rw [hji4] at A3)
  (try (have hji4h : ji4 ≤ 2147483647 := by (rw [← hji4]; unfold mn; (repeat' split) <;> omega)))
  (try (have hji4g : ji4 ≤ 64 := by omega))
  have hji4_ : (if 2147483647 < t300 then 2147483647 else t300) = ji4 := hji4
  by_cases c5 : (wrap64 (4 * (ji4))) > 2147483647
  · rw [if_pos c5] at H
    have c5b0 : decide (2147483647 < (wrap64 (4 * (ji4)))) = true := decide_eq_true c5
    clear c5
    first
    | (simp at H; done)
    | obtain rfl := Option.some.inj H
      go_enter Tryz.func3, Tryz.ntmps3
      go_wp2_with (first | ((with_reducible refine gate_callee (f := 4) rfl ?_); refine goesL_ (some 22) rfl rfl Tryz.func4 (by kernel_rfl) rfl #[.int .i64 (a0.size : Int), .int .i64 (a1.size : Int)] rfl (by (try simp only [List.map_toArray, List.map_cons, List.map_nil]); first | done | rfl | (simp only [List.length_drop, List.length_take]; rfl)) ?_; (with_reducible refine (lychgatelaw08_add.calls (a0.size : Int) (a1.size : Int) t300 _ A3.out).mono ?_); rintro e w' ⟨rfl, ⟨nd, rfl⟩⟩; refine ⟨_, rfl, ?_⟩))
      go_ret
      exact ⟨by first | rfl | (simp [errW_none, errW_some] <;> rfl) | (simp only [← hji4]; first | rfl | (simp [errW_none, errW_some] <;> rfl)) | (simp [*, errW_none, errW_some] <;> rfl), by repeat (first | (with_reducible first | exact HB.out | apply below_alloc | apply pw_below_drewN | apply below_drew1) | exact HB.out)⟩
  · rw [if_neg c5] at H
    have c5b0 : decide (2147483647 < (wrap64 (4 * (ji4)))) = false := decide_eq_false c5
    clear c5
    replace H := Option.bind_eq_some_iff.mp H
    obtain ⟨t301, A60, H⟩ := H
    replace H : (if a0.size + a1.size ≤ 9223372036854775807 then (if a0.size + 1 ≤ 9223372036854775807 then (if (a0 ++ (⟨#[32]⟩ : ByteArray)).size + a1.size ≤ 9223372036854775807 then (if (a0 ++ (⟨#[35]⟩ : ByteArray)).size + a1.size ≤ 9223372036854775807 then (if ((a0 ++ (⟨#[35]⟩ : ByteArray)) ++ a1).size + 1 ≤ 9223372036854775807 then (if (((a0 ++ (⟨#[35]⟩ : ByteArray)) ++ a1) ++ (⟨#[10]⟩ : ByteArray)).size + a0.size ≤ 9223372036854775807 then (lychgatelaw08_LexScans.l0 k t301 (([a0, a1, a0, a0 ++ a1, (a0 ++ (⟨#[32]⟩ : ByteArray)) ++ a1, (((a0 ++ (⟨#[35]⟩ : ByteArray)) ++ a1) ++ (⟨#[10]⟩ : ByteArray)) ++ a0] : List ByteArray)) ([] : List (List (S38))) ([] : List (List (S38))) 0) else (none)) else (none)) else (none)) else (none)) else (none)) else (none)) = some r := H
    have A6 := Aside0.mk A60
    clear A60
    by_cases c7 : a0.size + a1.size ≤ 9223372036854775807
    · rw [if_pos c7] at H
      have c7b0 := eq_true c7
      have c7b1 : decide (a0.size + a1.size ≤ 9223372036854775807) = true := decide_eq_true c7
      try have c7b2 : (9223372036854775807 < a0.size + a1.size) = False := eq_false (Nat.not_lt.2 c7)
      by_cases c8 : a0.size + 1 ≤ 9223372036854775807
      · rw [if_pos c8] at H
        have c8b0 := eq_true c8
        have c8b1 : decide (a0.size + 1 ≤ 9223372036854775807) = true := decide_eq_true c8
        try have c8b2 : (9223372036854775807 < a0.size + 1) = False := eq_false (Nat.not_lt.2 c8)
        by_cases c9 : (a0 ++ (⟨#[32]⟩ : ByteArray)).size + a1.size ≤ 9223372036854775807
        · rw [if_pos c9] at H
          have c9b0 := eq_true c9
          have c9b1 : decide ((a0 ++ (⟨#[32]⟩ : ByteArray)).size + a1.size ≤ 9223372036854775807) = true := decide_eq_true c9
          try have c9b2 : (9223372036854775807 < (a0 ++ (⟨#[32]⟩ : ByteArray)).size + a1.size) = False := eq_false (Nat.not_lt.2 c9)
          try have c9b3 : (9223372036854775807 < a0.size + 1 + a1.size) = False := eq_false (by have e_ := c9; have g1_ : (⟨#[32]⟩ : ByteArray).size = 1 := rfl; have g2_ : (⟨#[35]⟩ : ByteArray).size = 1 := rfl; have g3_ : (⟨#[10]⟩ : ByteArray).size = 1 := rfl; simp only [ByteArray.size_append] at e_; omega)
          by_cases c10 : (a0 ++ (⟨#[35]⟩ : ByteArray)).size + a1.size ≤ 9223372036854775807
          · rw [if_pos c10] at H
            have c10b0 := eq_true c10
            have c10b1 : decide ((a0 ++ (⟨#[35]⟩ : ByteArray)).size + a1.size ≤ 9223372036854775807) = true := decide_eq_true c10
            try have c10b2 : (9223372036854775807 < (a0 ++ (⟨#[35]⟩ : ByteArray)).size + a1.size) = False := eq_false (Nat.not_lt.2 c10)
            try have c10b3 : (9223372036854775807 < a0.size + 1 + a1.size) = False := eq_false (by have e_ := c10; have g1_ : (⟨#[32]⟩ : ByteArray).size = 1 := rfl; have g2_ : (⟨#[35]⟩ : ByteArray).size = 1 := rfl; have g3_ : (⟨#[10]⟩ : ByteArray).size = 1 := rfl; simp only [ByteArray.size_append] at e_; omega)
            by_cases c11 : ((a0 ++ (⟨#[35]⟩ : ByteArray)) ++ a1).size + 1 ≤ 9223372036854775807
            · rw [if_pos c11] at H
              have c11b0 := eq_true c11
              have c11b1 : decide (((a0 ++ (⟨#[35]⟩ : ByteArray)) ++ a1).size + 1 ≤ 9223372036854775807) = true := decide_eq_true c11
              try have c11b2 : (9223372036854775807 < ((a0 ++ (⟨#[35]⟩ : ByteArray)) ++ a1).size + 1) = False := eq_false (Nat.not_lt.2 c11)
              try have c11b3 : (9223372036854775807 < a0.size + 1 + a1.size + 1) = False := eq_false (by have e_ := c11; have g1_ : (⟨#[32]⟩ : ByteArray).size = 1 := rfl; have g2_ : (⟨#[35]⟩ : ByteArray).size = 1 := rfl; have g3_ : (⟨#[10]⟩ : ByteArray).size = 1 := rfl; simp only [ByteArray.size_append] at e_; omega)
              by_cases c12 : (((a0 ++ (⟨#[35]⟩ : ByteArray)) ++ a1) ++ (⟨#[10]⟩ : ByteArray)).size + a0.size ≤ 9223372036854775807
              · rw [if_pos c12] at H
                have c12b0 := eq_true c12
                have c12b1 : decide ((((a0 ++ (⟨#[35]⟩ : ByteArray)) ++ a1) ++ (⟨#[10]⟩ : ByteArray)).size + a0.size ≤ 9223372036854775807) = true := decide_eq_true c12
                try have c12b2 : (9223372036854775807 < (((a0 ++ (⟨#[35]⟩ : ByteArray)) ++ a1) ++ (⟨#[10]⟩ : ByteArray)).size + a0.size) = False := eq_false (Nat.not_lt.2 c12)
                try have c12b3 : (9223372036854775807 < a0.size + 1 + a1.size + 1 + a0.size) = False := eq_false (by have e_ := c12; have g1_ : (⟨#[32]⟩ : ByteArray).size = 1 := rfl; have g2_ : (⟨#[35]⟩ : ByteArray).size = 1 := rfl; have g3_ : (⟨#[10]⟩ : ByteArray).size = 1 := rfl; simp only [ByteArray.size_append] at e_; omega)
                obtain ⟨y302, hy302⟩ : ∃ y_ : List ByteArray, y_ = (([a0, a1, a0, a0 ++ a1, (a0 ++ (⟨#[32]⟩ : ByteArray)) ++ a1, (((a0 ++ (⟨#[35]⟩ : ByteArray)) ++ a1) ++ (⟨#[10]⟩ : ByteArray)) ++ a0] : List ByteArray)) := ⟨_, rfl⟩
                replace H : (lychgatelaw08_LexScans.l0 k t301 y302 ([] : List (List (S38))) ([] : List (List (S38))) 0) = some r := by first | (rw [hy302]; with_reducible exact H) | (have H2_ := (Option.bind_some _ _).symm.trans H; rw [hy302]; with_reducible exact H2_) | (have H2_ := (Option.bind_some _ _).symm.trans H; with_reducible exact H2_) | with_reducible exact H | (rw [hy302]; exact H) | exact H
                have Ny302 := Aside0.mk hy302
                clear hy302
                have H' := Aside0.mk H
                clear H
                go_enter Tryz.func3, Tryz.ntmps3
                go_wp2_with (first | ((with_reducible refine gate_callee (f := 4) rfl ?_); refine goesL_ (some 22) rfl rfl Tryz.func4 (by kernel_rfl) rfl #[.int .i64 (a0.size : Int), .int .i64 (a1.size : Int)] rfl (by (try simp only [List.map_toArray, List.map_cons, List.map_nil]); first | done | rfl | (simp only [List.length_drop, List.length_take]; rfl)) ?_; (with_reducible refine (lychgatelaw08_add.calls (a0.size : Int) (a1.size : Int) t300 _ A3.out).mono ?_); rintro e w' ⟨rfl, ⟨nd, rfl⟩⟩; refine ⟨_, rfl, ?_⟩) | ((with_reducible refine gate_callee (f := 5) rfl ?_); refine goesL_ (some 26) rfl rfl Tryz.func5 (by kernel_rfl) rfl #[] rfl (by (try simp only [List.map_toArray, List.map_cons, List.map_nil]); first | done | rfl | (simp only [List.length_drop, List.length_take]; rfl)) ?_; (with_reducible refine (lychgatelaw08_awake.calls k  t301 _ ?side1 A6.out).mono ?_); (case side1 => exact Inv.below HI_.out (by repeat (first | (with_reducible first | exact HB.out | apply below_alloc | apply pw_below_drewN | apply below_drew1) | exact HB.out))); rintro e w13 ⟨rfl, hb⟩; refine ⟨_, rfl, ?_⟩; have n0_ := Aside0.mk (below_step (by repeat (first | (with_reducible first | exact HB.out | apply below_alloc | apply pw_below_drewN | apply below_drew1) | exact HB.out)) hb); clear HB; have HB := n0_; clear n0_; (try clear hb); (try clear hb2); (try clear hk); (try clear hi)) | ((with_reducible refine gate_dst (N := 44) rfl ?_); refine Kd.R_lit Kd.string _ 9 ?hg (N := 44) ?hd (xs := ([a0, a1, a0, a0 ++ a1, (a0 ++ (⟨#[32]⟩ : ByteArray)) ++ a1, (((a0 ++ (⟨#[35]⟩ : ByteArray)) ++ a1) ++ (⟨#[10]⟩ : ByteArray)) ++ a0] : List ByteArray)) (inner := [.string a0, .string a1, .string a0, .string (a0 ++ a1), .string ((a0 ++ (⟨#[32]⟩ : ByteArray)) ++ a1), .string ((((a0 ++ (⟨#[35]⟩ : ByteArray)) ++ a1) ++ (⟨#[10]⟩ : ByteArray)) ++ a0)]) (ok := fun _ => True) (okp := fun _ => True) ?hr ?hp (fun _ hk => hk) trivial (Below.refl _ _) (Nat.le_refl _) (by simp) ?_; (case hd => rfl); (case hg => rfl); (case hr => first | (go_simp; done) | (go_simp; rfl)); (case hp => exact (Reps.one (show Kd.M Kd.string _ _ _ a0 [.string a0] from rfl) (Reps.one (show Kd.M Kd.string _ _ _ a1 [.string a1] from rfl) (Reps.one (show Kd.M Kd.string _ _ _ a0 [.string a0] from rfl) (Reps.one (show Kd.M Kd.string _ _ _ (a0 ++ a1) [.string (a0 ++ a1)] from rfl) (Reps.one (show Kd.M Kd.string _ _ _ ((a0 ++ (⟨#[32]⟩ : ByteArray)) ++ a1) [.string ((a0 ++ (⟨#[32]⟩ : ByteArray)) ++ a1)] from rfl) (Reps.one (show Kd.M Kd.string _ _ _ ((((a0 ++ (⟨#[35]⟩ : ByteArray)) ++ a1) ++ (⟨#[10]⟩ : ByteArray)) ++ a0) [.string ((((a0 ++ (⟨#[35]⟩ : ByteArray)) ++ a1) ++ (⟨#[10]⟩ : ByteArray)) ++ a0)] from rfl) (Reps.none _ _)))))))); intro v303 w14 ho15 hb hg_ hnew_; clear hg_ hnew_; (first | rw [← Ny302.out] at ho15 | (simp only [Int.reduceToNat] at ho15; rw [← Ny302.out] at ho15)); have n0_ := Aside0.mk (Kd.R_lower ho15 (below_size (by repeat (first | (with_reducible first | exact HB.out | apply below_alloc | apply pw_below_drewN | apply below_drew1) | exact HB.out)))); have n1_ := Aside0.mk (below_step (by repeat (first | (with_reducible first | exact HB.out | apply below_alloc | apply pw_below_drewN | apply below_drew1) | exact HB.out)) hb); clear HB; have HO304 := n0_; have HB := n1_; clear n0_ n1_; clear hb ho15))
                go_loopg [7, 8, 9] k (fun kq v7 v8 v9 w' => ∃ (x7_1 : List (List (S38))) (x8_1 : List (List (S38))) (x9_1 : Int), v9 = .int .i64 x9_1 ∧ Aside0 (lychgatelaw08_LexScans.l0 kq t301 y302 x7_1 x8_1 x9_1 = some r) ∧ Aside0 (kq ≤ k) ∧ Aside0 (Kd.R Kd.string 9 w' w.heap.size (fun _ => True) v303 y302) ∧ Aside0 (Kd.S (Kd.slice 38 k38) 26 w' w.heap.size (fun k_ => some k_ ≠ (v8 : Value).ownBlock) v7 x7_1) ∧ Aside0 (Kd.S (Kd.slice 38 k38) 26 w' w.heap.size (fun k_ => some k_ ≠ (v7 : Value).ownBlock) v8 x8_1) ∧ Aside0 (Below w.heap.size w w'))
                case atStart => exact ⟨(([] : List (List (S38)))), (([] : List (List (S38)))), (0), (by first | rfl | (simp; done) | (simp [*]; done)), H', ⟨Nat.le_refl _⟩, ⟨by (with_reducible repeat (first | apply Kd.R_alloc | apply Kd.R_drewN | apply Kd.R_drew)); exact HO304.out⟩, ⟨by first | exact Kd.S_nil _ _ _ _ _ | exact Kd.N_nil _ _ _ _ _ | exact Kd.V_nil _ _ _ _ _ | exact Kd.Q_nil _ _ _ _ _ | exact Kd.R_nil _ _ _ _ _⟩, ⟨by first | exact Kd.S_nil _ _ _ _ _ | exact Kd.N_nil _ _ _ _ _ | exact Kd.V_nil _ _ _ _ _ | exact Kd.Q_nil _ _ _ _ _ | exact Kd.R_nil _ _ _ _ _⟩, ⟨by repeat (first | (with_reducible first | exact HB.out | apply below_alloc | apply pw_below_drewN | apply below_drew1) | exact HB.out)⟩⟩
                case round =>
                  clear H'
                  try clear c1
                  try clear p2
                  try clear c3
                  try clear c4
                  try clear c5
                  try clear c5b0
                  try clear p6
                  try clear c7
                  try clear c7b0
                  try clear c7b1
                  try clear c7b2
                  try clear c8
                  try clear c8b0
                  try clear c8b1
                  try clear c8b2
                  try clear c9
                  try clear c9b0
                  try clear c9b1
                  try clear c9b2
                  try clear c10
                  try clear c10b0
                  try clear c10b1
                  try clear c10b2
                  try clear c11
                  try clear c11b0
                  try clear c11b1
                  try clear c11b2
                  try clear c12
                  try clear c12b0
                  try clear c12b1
                  try clear c12b2
                  obtain ⟨x7_1, x8_1, x9_1, rfl, HA, HK1, HO_6, HO_7, HO_8, HB⟩ := hrel
                  cases gk with
                  | zero => exact absurd HA.out (by simp [lychgatelaw08_LexScans.l0])
                  | succ k1 =>
                    have H := HA.out
                    clear HA
                    simp only [lychgatelaw08_LexScans.l0] at H
                    by_cases c16 : x9_1 < (y302.length : Int)
                    · rw [if_pos c16] at H
                      have c16b0 : decide (x9_1 < (y302.length : Int)) = true := decide_eq_true c16
                      clear c16
                      by_cases c17 : 0 ≤ x9_1
                      · rw [if_pos c17] at H
                        have c17b0 : decide (0 ≤ x9_1) = true := decide_eq_true c17
                        clear c17
                        replace H := Option.bind_eq_some_iff.mp H
                        obtain ⟨⟨t307, t308, t309⟩, A180, H⟩ := H
                        replace H : ((lychgateref08_Scan.f k1 (rdOf ByteArray.empty y302 x9_1)).bind fun bt313 => ((lychgatelaw08_same.f k1 t307 bt313.1).bind fun t318 => (if t318 = true then (if t308 = bt313.2.1 then (if t309 = bt313.2.2 then (if x7_1.length < 5864062014805 then (if x8_1.length < 5864062014805 then (lychgatelaw08_LexScans.l0 k1 t301 y302 (x7_1 ++ [t307]) (x8_1 ++ [bt313.1]) (wrap64 (x9_1 + 1))) else (none)) else (none)) else (none)) else (none)) else (none)))) = some r := H
                        have A18 := Aside0.mk A180
                        clear A180
                        replace H := Option.bind_eq_some_iff.mp H
                        obtain ⟨⟨t313, t314, t315⟩, A190, H⟩ := H
                        replace H : ((lychgatelaw08_same.f k1 t307 t313).bind fun t318 => (if t318 = true then (if t308 = t314 then (if t309 = t315 then (if x7_1.length < 5864062014805 then (if x8_1.length < 5864062014805 then (lychgatelaw08_LexScans.l0 k1 t301 y302 (x7_1 ++ [t307]) (x8_1 ++ [t313]) (wrap64 (x9_1 + 1))) else (none)) else (none)) else (none)) else (none)) else (none))) = some r := H
                        have A19 := Aside0.mk A190
                        clear A190
                        replace H := Option.bind_eq_some_iff.mp H
                        obtain ⟨t318, A200, H⟩ := H
                        replace H : (if t318 = true then (if t308 = t314 then (if t309 = t315 then (if x7_1.length < 5864062014805 then (if x8_1.length < 5864062014805 then (lychgatelaw08_LexScans.l0 k1 t301 y302 (x7_1 ++ [t307]) (x8_1 ++ [t313]) (wrap64 (x9_1 + 1))) else (none)) else (none)) else (none)) else (none)) else (none)) = some r := H
                        have A20 := Aside0.mk A200
                        clear A200
                        by_cases c21 : t318 = true
                        · subst c21
                          have H1 : (if t308 = t314 then (if t309 = t315 then (if x7_1.length < 5864062014805 then (if x8_1.length < 5864062014805 then (lychgatelaw08_LexScans.l0 k1 t301 y302 (x7_1 ++ [t307]) (x8_1 ++ [t313]) (wrap64 (x9_1 + 1))) else (none)) else (none)) else (none)) else (none)) = some r := by rw [if_pos rfl] at H; exact H
                          clear H
                          have H := H1
                          clear H1
                          by_cases c22 : t308 = t314
                          · rw [if_pos c22] at H
                            have c22b0 : (t308 == t314) = true := beq_iff_eq.mpr c22
                            have c22b1 : (t308 != t314) = false := bne_eq_false_iff_eq.mpr c22
                            clear c22
                            by_cases c23 : t309 = t315
                            · rw [if_pos c23] at H
                              have c23b0 : (t309 == t315) = true := beq_iff_eq.mpr c23
                              have c23b1 : (t309 != t315) = false := bne_eq_false_iff_eq.mpr c23
                              clear c23
                              by_cases c24 : x7_1.length < 5864062014805
                              · rw [if_pos c24] at H
                                have LMc24 := Aside0.mk c24
                                clear c24
                                obtain ⟨y319, hy319⟩ : ∃ y_ : List (List (S38)), y_ = (x7_1 ++ [t307]) := ⟨_, rfl⟩
                                replace H : (if x8_1.length < 5864062014805 then (lychgatelaw08_LexScans.l0 k1 t301 y302 y319 (x8_1 ++ [t313]) (wrap64 (x9_1 + 1))) else (none)) = some r := by first | (rw [hy319]; with_reducible exact H) | (have H2_ := (Option.bind_some _ _).symm.trans H; rw [hy319]; with_reducible exact H2_) | (have H2_ := (Option.bind_some _ _).symm.trans H; with_reducible exact H2_) | with_reducible exact H | (rw [hy319]; exact H) | exact H
                                have Ny319 := Aside0.mk hy319
                                clear hy319
                                by_cases c25 : x8_1.length < 5864062014805
                                · rw [if_pos c25] at H
                                  have LMc25 := Aside0.mk c25
                                  clear c25
                                  obtain ⟨y322, hy322⟩ : ∃ y_ : List (List (S38)), y_ = (x8_1 ++ [t313]) := ⟨_, rfl⟩
                                  replace H : (lychgatelaw08_LexScans.l0 k1 t301 y302 y319 y322 (wrap64 (x9_1 + 1))) = some r := by first | (rw [hy322]; with_reducible exact H) | (have H2_ := (Option.bind_some _ _).symm.trans H; rw [hy322]; with_reducible exact H2_) | (have H2_ := (Option.bind_some _ _).symm.trans H; with_reducible exact H2_) | with_reducible exact H | (rw [hy322]; exact H) | exact H
                                  have Ny322 := Aside0.mk hy322
                                  clear hy322
                                  have H' := Aside0.mk H
                                  clear H
                                  obtain ⟨Ao26, co26, eo26⟩ := Kd.R_slice HO_6.out
                                  subst eo26
                                  have p306 : 0 ≤ (x9_1 : Int) := of_decide_eq_true (by first | (with_reducible assumption) | assumption)
                                  have q306 : x9_1 < (y302.length : Int) := of_decide_eq_true (by first | (with_reducible assumption) | assumption)
                                  obtain ⟨ad306, e306, hx306_0⟩ := Kd.at_string (Kd.R_reads' HO_6.out).2.2 x9_1 p306 q306
                                  cases e306
                                  replace p306 := eq_true p306
                                  replace q306 := eq_true q306
                                  go_wp2_with (first | ((with_reducible refine gate_callee (f := 6) rfl ?_); refine goesL_ (some 56) rfl rfl Tryz.func6 (by kernel_rfl) rfl #[.string (rdOf ByteArray.empty y302 x9_1)] rfl (by (try simp only [List.map_toArray, List.map_cons, List.map_nil]); first | done | rfl | (simp only [List.length_drop, List.length_take]; rfl)) ?_; (with_reducible refine (lex_Scan.calls k1 (rdOf ByteArray.empty y302 x9_1) t307 t308 t309 _ ?side1 A18.out).mono ?_); (case side1 => exact Inv.below HI_.out (by repeat (first | (with_reducible first | exact HB.out | apply below_alloc | apply pw_below_drewN | apply below_drew1) | exact HB.out))); rintro e w27 ⟨v310, rfl, ho0, hb⟩; refine ⟨_, rfl, ?_⟩; have n0_ := Aside0.mk (Kd.R_below (by (with_reducible repeat (first | apply Kd.R_alloc | apply Kd.R_drewN | apply Kd.R_drew)); exact HO_6.out) hb); have n1_ := Aside0.mk (Kd.S_elder' (by (with_reducible repeat (first | apply Kd.S_alloc | apply Kd.S_drewN | apply Kd.S_drew)); exact HO_7.out) (Kd.R_base ho0) hb); have n2_ := Aside0.mk (Kd.S_elder' (by (with_reducible repeat (first | apply Kd.S_alloc | apply Kd.S_drewN | apply Kd.S_drew)); exact HO_8.out) (Kd.R_base ho0) hb); have n3_ := Aside0.mk (Kd.R_lower ho0 (below_size (by repeat (first | (with_reducible first | exact HB.out | apply below_alloc | apply pw_below_drewN | apply below_drew1) | exact HB.out)))); have n4_ := Aside0.mk (below_step (by repeat (first | (with_reducible first | exact HB.out | apply below_alloc | apply pw_below_drewN | apply below_drew1) | exact HB.out)) hb); clear HO_6; clear HO_7; clear HO_8; clear HB; have HO_6 := n0_; have HO_7 := n1_; have HO_8 := n2_; have HO311 := n3_; have HB := n4_; clear n0_ n1_ n2_ n3_ n4_; (try clear hb); (try clear hb2); (try clear hk); (try clear hi); (try clear ho0); have p312 : 0 ≤ (x9_1 : Int) := of_decide_eq_true (by first | (with_reducible assumption) | assumption); have q312 : x9_1 < (y302.length : Int) := of_decide_eq_true (by first | (with_reducible assumption) | assumption); obtain ⟨ad312, e312, hx312_0⟩ := Kd.at_string (Kd.R_reads' HO_6.out).2.2 x9_1 p312 q312; obtain rfl : ad306 = ad312 := (by injection e312); replace p312 := eq_true p312; replace q312 := eq_true q312) | ((with_reducible refine gate_callee (f := 7) rfl ?_); refine goesL_ (some 65) rfl rfl Tryz.func7 (by kernel_rfl) rfl #[.string (rdOf ByteArray.empty y302 x9_1)] rfl (by (try simp only [List.map_toArray, List.map_cons, List.map_nil]); first | done | rfl | (simp only [List.length_drop, List.length_take]; rfl)) ?_; (with_reducible refine (lychgateref08_Scan.calls k1 (rdOf ByteArray.empty y302 x9_1) t313 t314 t315 _ A19.out).mono ?_); rintro e w28 ⟨v316, rfl, ho0, hb⟩; refine ⟨_, rfl, ?_⟩; have n0_ := Aside0.mk (Kd.R_below (by (with_reducible repeat (first | apply Kd.R_alloc | apply Kd.R_drewN | apply Kd.R_drew)); exact HO_6.out) hb); have n1_ := Aside0.mk (Kd.S_elder' (by (with_reducible repeat (first | apply Kd.S_alloc | apply Kd.S_drewN | apply Kd.S_drew)); exact HO_7.out) (Kd.R_base ho0) hb); have n2_ := Aside0.mk (Kd.S_elder' (by (with_reducible repeat (first | apply Kd.S_alloc | apply Kd.S_drewN | apply Kd.S_drew)); exact HO_8.out) (Kd.R_base ho0) hb); have n3_ := Aside0.mk (Kd.R_elder' (by (with_reducible repeat (first | apply Kd.R_alloc | apply Kd.R_drewN | apply Kd.R_drew)); exact HO311.out) (Kd.R_base ho0) hb); have n4_ := Aside0.mk (Kd.R_lower (Kd.R_new' ho0 (Kd.R_lt (by (with_reducible repeat (first | apply Kd.R_alloc | apply Kd.R_drewN | apply Kd.R_drew)); exact HO311.out))) (below_size (by repeat (first | (with_reducible first | exact HB.out | apply below_alloc | apply pw_below_drewN | apply below_drew1) | exact HB.out)))); have n5_ := Aside0.mk (below_step (by repeat (first | (with_reducible first | exact HB.out | apply below_alloc | apply pw_below_drewN | apply below_drew1) | exact HB.out)) hb); clear HO_6; clear HO_7; clear HO_8; clear HO311; clear HB; have HO_6 := n0_; have HO_7 := n1_; have HO_8 := n2_; have HO311 := n3_; have HO317 := n4_; have HB := n5_; clear n0_ n1_ n2_ n3_ n4_ n5_; (try clear hb); (try clear hb2); (try clear hk); (try clear hi); (try clear ho0); obtain ⟨Ao29, co29, eo29⟩ := Kd.R_slice HO311.out; subst eo29; obtain ⟨Ao30, co30, eo30⟩ := Kd.R_slice HO317.out; subst eo30) | ((with_reducible refine gate_callee (f := 8) rfl ?_); refine goesL_ (some 71) rfl rfl Tryz.func8 (by kernel_rfl) rfl #[.slice Ao29 t307.length co29, .slice Ao30 t313.length co30] rfl (by (try simp only [List.map_toArray, List.map_cons, List.map_nil]); first | done | rfl | (simp only [List.length_drop, List.length_take]; rfl)) ?_; (with_reducible refine (lychgatelaw08_same.calls k1 _ _ t307 _ _ t313 true _ ?side1 ?side2 ?side3 ?side4 A20.out).mono ?_); (case side1 => repeat (first | exact (Kd.R_reads' HO311.out).2.2 | (with_reducible refine Kd.C_alloc ?_ _) | (with_reducible refine Kd.C_drewN ?_ _) | (with_reducible refine Kd.C_drew ?_))); (case side2 => exact (Kd.R_reads' HO311.out).2.1); (case side3 => repeat (first | exact (Kd.R_reads' HO317.out).2.2 | (with_reducible refine Kd.C_alloc ?_ _) | (with_reducible refine Kd.C_drewN ?_ _) | (with_reducible refine Kd.C_drew ?_))); (case side4 => exact (Kd.R_reads' HO317.out).2.1); rintro e w' ⟨rfl, ⟨nd, rfl⟩⟩; refine ⟨_, rfl, ?_⟩) | ((with_reducible refine gate_builtin (b := .append) (xs := #[.tmp 84, .tmp 86]) rfl ?_); at_builtin; refine Kd.S_append (Kd.slice 38 k38) (w0 := w) w.heap.size rfl (.tmp 84) (.tmp 86) 25 26 (.slice none 0 0) 24 rfl Tryz.underlying25 info26 rfl (by decide) (by omega) u7 x7_1 t307 [.slice Ao29 t307.length co29] (fun k_ => some k_ ≠ (u8 : Value).ownBlock ∧ some k_ ≠ (.slice Ao30 t313.length co30 : Value).ownBlock) (fun k_ => some k_ = (.slice Ao29 t307.length co29 : Value).ownBlock) rfl rfl ?aP (fun k_ hk_ => ((Kd.R_mono (ok' := fun k_ => ((fun k_ => some k_ ≠ (u8 : Value).ownBlock ∧ some k_ ≠ (.slice Ao30 t313.length co30 : Value).ownBlock)) k_ ∧ some k_ ≠ (u7 : Value).ownBlock) (Kd.R_apart' (Kd.R_apart' (HO311.out) (Kd.S_typed HO_8.out) (by decide)) (Kd.S_typed HO_7.out) (by decide)) (fun k_ hk => ⟨⟨hk.1.2, hk.1.1.2⟩, hk.2⟩))).1 k_ hk_.symm) ?aF ?aO ?aB ?aS ?aL ?_; (case aP => exact Kd.M_row (Kd.R_mono (Kd.R_tight rfl (Kd.R_mono (ok' := fun k_ => ((fun k_ => some k_ ≠ (u8 : Value).ownBlock ∧ some k_ ≠ (.slice Ao30 t313.length co30 : Value).ownBlock)) k_ ∧ some k_ ≠ (u7 : Value).ownBlock) (Kd.R_apart' (Kd.R_apart' (HO311.out) (Kd.S_typed HO_8.out) (by decide)) (Kd.S_typed HO_7.out) (by decide)) (fun k_ hk => ⟨⟨hk.1.2, hk.1.1.2⟩, hk.2⟩))) (fun _ h_ => h_))); (case aB => exact (by repeat (first | (with_reducible first | exact HB.out | apply below_alloc | apply pw_below_drewN | apply below_drew1) | exact HB.out))); (case aF => exact (fun k_ hk => ⟨Kd.fresh' (Kd.S_lt (by (with_reducible repeat (first | apply Kd.S_alloc | apply Kd.S_drewN | apply Kd.S_drew)); exact HO_8.out)) k_ hk, Kd.fresh' (Kd.R_lt (by (with_reducible repeat (first | apply Kd.R_alloc | apply Kd.R_drewN | apply Kd.R_drew)); exact HO317.out)) k_ hk⟩)); (case aO => exact (by (with_reducible repeat (first | apply Kd.S_alloc | apply Kd.S_drewN | apply Kd.S_drew)); exact Kd.S_mono HO_7.out (fun k_ hk => ⟨⟨hk.1.1, hk.2⟩, fun e_ => hk.1.2 e_⟩))); (case aS => exact (below_size (by repeat (first | (with_reducible first | exact HB.out | apply below_alloc | apply pw_below_drewN | apply below_drew1) | exact HB.out)))); (case aL => have := LMc24.out; omega); intro v320 w31 ho hb hg hat; rw [← Ny319.out] at ho; have n0_ := Aside0.mk (Kd.R_over' (by (with_reducible repeat (first | apply Kd.R_alloc | apply Kd.R_drewN | apply Kd.R_drew)); exact HO_6.out) (Kd.S_typed (by (with_reducible repeat (first | apply Kd.S_alloc | apply Kd.S_drewN | apply Kd.S_drew)); exact HO_7.out)) (by decide) hg); have n1_ := Aside0.mk (Kd.S_after (ok := (fun k_ => some k_ ≠ (.slice Ao29 t307.length co29 : Value).ownBlock ∧ some k_ ≠ (.slice Ao30 t313.length co30 : Value).ownBlock)) (by (with_reducible repeat (first | apply Kd.S_alloc | apply Kd.S_drewN | apply Kd.S_drew)); exact Kd.S_mono HO_8.out (fun _ hk => ⟨⟨hk.1.2, hk.2⟩, hk.1.1⟩)) hg hat); have n2_ := Aside0.mk (Kd.R_over' (by (with_reducible repeat (first | apply Kd.R_alloc | apply Kd.R_drewN | apply Kd.R_drew)); exact HO317.out) (Kd.S_typed (by (with_reducible repeat (first | apply Kd.S_alloc | apply Kd.S_drewN | apply Kd.S_drew)); exact HO_7.out)) (by decide) hg); have n3_ := Aside0.mk (hb); have n4_ := Aside0.mk (ho); clear HO_6; clear HO_8; clear HO317; clear HB; clear HO_7; clear HO311; have HO_6 := n0_; have HO_8 := n1_; have HO317 := n2_; have HB := n3_; have HO321 := n4_; clear n0_ n1_ n2_ n3_ n4_; clear ho hb hg hat) | ((with_reducible refine gate_builtin (b := .append) (xs := #[.tmp 88, .tmp 90]) rfl ?_); at_builtin; refine Kd.S_append (Kd.slice 38 k38) (w0 := w) w.heap.size rfl (.tmp 88) (.tmp 90) 25 26 (.slice none 0 0) 24 rfl Tryz.underlying25 info26 rfl (by decide) (by omega) u8 x8_1 t313 [.slice Ao30 t313.length co30] (fun k_ => some k_ ≠ (v320 : Value).ownBlock) (fun k_ => some k_ = (.slice Ao30 t313.length co30 : Value).ownBlock) rfl rfl ?aP (fun k_ hk_ => ((Kd.R_mono (ok' := fun k_ => ((fun k_ => some k_ ≠ (v320 : Value).ownBlock)) k_ ∧ some k_ ≠ (u8 : Value).ownBlock) (Kd.R_apart' (Kd.R_apart' (HO317.out) (Kd.S_typed HO321.out) (by decide)) (Kd.S_typed HO_8.out) (by decide)) (fun k_ hk => ⟨hk.1.2, hk.2⟩))).1 k_ hk_.symm) ?aF ?aO ?aB ?aS ?aL ?_; (case aP => exact Kd.M_row (Kd.R_mono (Kd.R_tight rfl (Kd.R_mono (ok' := fun k_ => ((fun k_ => some k_ ≠ (v320 : Value).ownBlock)) k_ ∧ some k_ ≠ (u8 : Value).ownBlock) (Kd.R_apart' (Kd.R_apart' (HO317.out) (Kd.S_typed HO321.out) (by decide)) (Kd.S_typed HO_8.out) (by decide)) (fun k_ hk => ⟨hk.1.2, hk.2⟩))) (fun _ h_ => h_))); (case aB => exact (by repeat (first | (with_reducible first | exact HB.out | apply below_alloc | apply pw_below_drewN | apply below_drew1) | exact HB.out))); (case aF => exact (fun k_ hk => Kd.fresh' (Kd.S_lt (by (with_reducible repeat (first | apply Kd.S_alloc | apply Kd.S_drewN | apply Kd.S_drew)); exact HO321.out)) k_ hk)); (case aO => exact (by (with_reducible repeat (first | apply Kd.S_alloc | apply Kd.S_drewN | apply Kd.S_drew)); exact Kd.S_mono HO_8.out (fun k_ hk => ⟨hk.2, fun e_ => hk.1.2 e_⟩))); (case aS => exact (below_size (by repeat (first | (with_reducible first | exact HB.out | apply below_alloc | apply pw_below_drewN | apply below_drew1) | exact HB.out)))); (case aL => have := LMc25.out; omega); intro v323 w32 ho hb hg hat; rw [← Ny322.out] at ho; have n0_ := Aside0.mk (Kd.R_over' (by (with_reducible repeat (first | apply Kd.R_alloc | apply Kd.R_drewN | apply Kd.R_drew)); exact HO_6.out) (Kd.S_typed (by (with_reducible repeat (first | apply Kd.S_alloc | apply Kd.S_drewN | apply Kd.S_drew)); exact HO_8.out)) (by decide) hg); have n1_ := Aside0.mk (Kd.S_after (ok := (fun k_ => some k_ ≠ (.slice Ao30 t313.length co30 : Value).ownBlock)) (by (with_reducible repeat (first | apply Kd.S_alloc | apply Kd.S_drewN | apply Kd.S_drew)); exact Kd.S_mono HO321.out (fun _ hk => ⟨hk.2, hk.1⟩)) hg hat); have n2_ := Aside0.mk (hb); have n3_ := Aside0.mk (ho); clear HO_6; clear HO321; clear HB; clear HO_8; clear HO317; have HO_6 := n0_; have HO321 := n1_; have HB := n2_; have HO324 := n3_; clear n0_ n1_ n2_ n3_; clear ho hb hg hat))
                                  go_roundg k1
                                  case measure => have := HK1.out; omega
                                  case rel => exact ⟨(y319), (y322), (wrap64 (x9_1 + 1)), (by first | rfl | (simp; done) | (simp [*]; done)), H', ⟨by have := HK1.out; omega⟩, ⟨by (with_reducible repeat (first | apply Kd.R_alloc | apply Kd.R_drewN | apply Kd.R_drew)); exact HO_6.out⟩, ⟨by (with_reducible repeat (first | apply Kd.S_alloc | apply Kd.S_drewN | apply Kd.S_drew)); exact Kd.S_mono HO321.out (fun _ hk => hk.2)⟩, ⟨by (with_reducible repeat (first | apply Kd.S_alloc | apply Kd.S_drewN | apply Kd.S_drew)); exact HO324.out⟩, ⟨by repeat (first | (with_reducible first | exact HB.out | apply below_alloc | apply pw_below_drewN | apply below_drew1) | exact HB.out)⟩⟩
                                · rw [if_neg c25] at H
                                  exact absurd H (by simp)
                              · rw [if_neg c24] at H
                                exact absurd H (by simp)
                            · rw [if_neg c23] at H
                              have c23b0 : (t309 == t315) = false := beq_eq_false_iff_ne.mpr c23
                              have c23b1 : (t309 != t315) = true := bne_iff_ne.mpr c23
                              exact absurd H (by simp)
                          · rw [if_neg c22] at H
                            have c22b0 : (t308 == t314) = false := beq_eq_false_iff_ne.mpr c22
                            have c22b1 : (t308 != t314) = true := bne_iff_ne.mpr c22
                            exact absurd H (by simp)
                        · replace c21 := Bool.eq_false_iff.mpr c21
                          subst c21
                          have H1 : (none) = some r := by rw [if_neg (show ¬ (false = true) by decide)] at H; exact H
                          clear H
                          have H := H1
                          clear H1
                          exact absurd H (by simp)
                      · rw [if_neg c17] at H
                        exact absurd H (by simp)
                    · rw [if_neg c16] at H
                      have c16b0 : decide (x9_1 < (y302.length : Int)) = false := decide_eq_false c16
                      clear c16
                      replace H := Option.bind_eq_some_iff.mp H
                      obtain ⟨t305, A480, H⟩ := H
                      replace H : (if t301 = true then (some t305) else (none)) = some r := H
                      have A48 := Aside0.mk A480
                      clear A480
                      by_cases c49 : t301 = true
                      · subst c49
                        have H1 : (some t305) = some r := by rw [if_pos rfl] at H; exact H
                        clear H
                        have H := H1
                        clear H1
                        first
                        | (simp at H; done)
                        | obtain rfl := Option.some.inj H
                          obtain ⟨Ao50, co50, eo50⟩ := Kd.R_slice HO_6.out
                          subst eo50
                          obtain ⟨Ao51, co51, eo51⟩ := Kd.S_slice HO_7.out
                          subst eo51
                          obtain ⟨Ao52, co52, eo52⟩ := Kd.S_slice HO_8.out
                          subst eo52
                          go_wp2_with (first | ((with_reducible refine gate_callee (f := 9) rfl ?_); refine goesL_ (some 94) rfl rfl Tryz.func9 (by kernel_rfl) rfl #[.slice Ao51 x7_1.length co51, .slice Ao52 x8_1.length co52] rfl (by (try simp only [List.map_toArray, List.map_cons, List.map_nil]); first | done | rfl | (simp only [List.length_drop, List.length_take]; rfl)) ?_; refine (lychgatelaw08_apart.own w _ _ _ _ _ _ _ t305 HB.out HO_7.out HO_8.out A48.out).mono ?_; rintro e w53 ⟨rfl, hb⟩; refine ⟨_, rfl, ?_⟩; have n3_ := Aside0.mk hb; clear HO_6; clear HO_7; clear HO_8; clear HB; have HB := n3_; clear n3_; clear hb))
                          go_ret
                          exact ⟨by first | rfl | (simp [errW_none, errW_some] <;> rfl) | (simp only [← hji4]; first | rfl | (simp [errW_none, errW_some] <;> rfl)) | (simp [*, errW_none, errW_some] <;> rfl), by repeat (first | (with_reducible first | exact HB.out | apply below_alloc | apply pw_below_drewN | apply below_drew1) | exact HB.out)⟩
                      · replace c49 := Bool.eq_false_iff.mpr c49
                        subst c49
                        have H1 : (none) = some r := by rw [if_neg (show ¬ (false = true) by decide)] at H; exact H
                        clear H
                        have H := H1
                        clear H1
                        exact absurd H (by simp)
              · rw [if_neg c12] at H
                exact absurd H (by simp)
            · rw [if_neg c11] at H
              exact absurd H (by simp)
          · rw [if_neg c10] at H
            exact absurd H (by simp)
        · rw [if_neg c9] at H
          exact absurd H (by simp)
      · rw [if_neg c8] at H
        exact absurd H (by simp)
    · rw [if_neg c7] at H
      exact absurd H (by simp)

end Go.Proofs.YthllfnmebdjpfaaGreatDoor.H

/- Contracts of Go functions as plain Lean functions, written by a program of this session (wip/hand) out of the translation. -/
import Derived.Test.YthllfnmebdjpfaaDoorK2Hx0
import Derived.Test.YthllfnmebdjpfaaDoorK2Hx6
import Derived.Test.YthllfnmebdjpfaaDoorK2Hx8
namespace Go.Proofs.YthllfnmebdjpfaaDoor.H
open Go.RowKit Go.Proofs.YthllfnmebdjpfaaDoor.Hand Go.Proofs.YthllfnmebdjpfaaDoorW.PrintWords Go.Proofs.YthllfnmebdjpfaaDoorW.PrintLast Go.Proofs.YthllfnmebdjpfaaDoorW.PrintMore
attribute [local go_sem] max2_int min2_int max_two min_two max_three min_three max_four min_four   -- for this text's walks alone
set_option linter.unusedVariables false
set_option linter.unusedSimpArgs false

mutual
def lychgatelaw08_LexFaults.j0 : Nat → ByteArray → ByteArray → Bool → Int → Int → Bool → Option (Bool)
  | 0, _, _, _, _, _, _ => none
  | k + 1, x0, x1, x5, x7, x8, x38 => if x38 = true then (some x5) else (if x7 = 84 then (if (x0.size : Int) > 8000 then (some (x8 == 8000)) else (none)) else (if x8 < 0 then (lychgatelaw08_LexFaults.j1 k x0 x1 x7 x8 true) else (lychgatelaw08_LexFaults.j1 k x0 x1 x7 x8 (decide (x8 ≥ (x0.size : Int))))))
def lychgatelaw08_LexFaults.j1 : Nat → ByteArray → ByteArray → Int → Int → Bool → Option (Bool)
  | 0, _, _, _, _, _ => none
  | k + 1, x0, x1, x7, x8, x56 => if x56 = true then (none) else (if 0 ≤ x8 then (if x8 ≤ (x0.size : Int) then ((lex_Scan.f k (x0.extract 0 (x8 : Int).toNat)).bind fun bt274 => (if bt274.2.1 = 0 then (lychgatelaw08_LexFaults.l0 k x0 x1 x7 x8 (wrap64 (x8 + 1))) else (none))) else (none)) else (none))
def lychgatelaw08_LexFaults.l0 : Nat → ByteArray → ByteArray → Int → Int → Int → Option (Bool)
  | 0, _, _, _, _, _ => none
  | k + 1, x0, x1, x7, x8, x12 => if x12 < (x0.size : Int) then (if 0 ≤ x12 then (if (bt x0 x12) = 32 then (if x12 ≤ (x0.size : Int) then (if (x0.extract 0 (x12 : Int).toNat).size + 1 ≤ 9223372036854775807 then (if ((x0.extract 0 (x12 : Int).toNat) ++ (⟨#[32]⟩ : ByteArray)).size + x1.size ≤ 9223372036854775807 then ((lex_Scan.f k (((x0.extract 0 (x12 : Int).toNat) ++ (⟨#[32]⟩ : ByteArray)) ++ x1)).bind fun bt279 => (if x7 = 83 then (some true) else (if ((((x0.extract 0 (x12 : Int).toNat) ++ (⟨#[32]⟩ : ByteArray)) ++ x1).size : Int) > 8000 then (some true) else (if bt279.2.1 = x7 then (some (bt279.2.2 == x8)) else (none))))) else (none)) else (none)) else (none)) else (if (bt x0 x12) = 10 then (if x12 ≤ (x0.size : Int) then (if (x0.extract 0 (x12 : Int).toNat).size + 1 ≤ 9223372036854775807 then (if ((x0.extract 0 (x12 : Int).toNat) ++ (⟨#[32]⟩ : ByteArray)).size + x1.size ≤ 9223372036854775807 then ((lex_Scan.f k (((x0.extract 0 (x12 : Int).toNat) ++ (⟨#[32]⟩ : ByteArray)) ++ x1)).bind fun bt284 => (if x7 = 83 then (some true) else (if ((((x0.extract 0 (x12 : Int).toNat) ++ (⟨#[32]⟩ : ByteArray)) ++ x1).size : Int) > 8000 then (some true) else (if bt284.2.1 = x7 then (some (bt284.2.2 == x8)) else (none))))) else (none)) else (none)) else (none)) else (lychgatelaw08_LexFaults.l0 k x0 x1 x7 x8 (wrap64 (x12 + 1))))) else (none)) else (if 0 ≤ x12 then (if x12 ≤ (x0.size : Int) then (if (x0.extract 0 (x12 : Int).toNat).size + 1 ≤ 9223372036854775807 then (if ((x0.extract 0 (x12 : Int).toNat) ++ (⟨#[32]⟩ : ByteArray)).size + x1.size ≤ 9223372036854775807 then ((lex_Scan.f k (((x0.extract 0 (x12 : Int).toNat) ++ (⟨#[32]⟩ : ByteArray)) ++ x1)).bind fun bt289 => (if x7 = 83 then (some true) else (if ((((x0.extract 0 (x12 : Int).toNat) ++ (⟨#[32]⟩ : ByteArray)) ++ x1).size : Int) > 8000 then (some true) else (if bt289.2.1 = x7 then (some (bt289.2.2 == x8)) else (none))))) else (none)) else (none)) else (none)) else (none))
end
def lychgatelaw08_LexFaults.f (k : Nat) (a0 : ByteArray) (a1 : ByteArray) : Option (Bool) := (lychgatelaw08_add.f (a0.size : Int) (a0.size : Int)).bind fun t266 => ((lychgatelaw08_add.f t266 (a1.size : Int)).bind fun t267 => (if t267 > 2147483647 then (some true) else ((lychgatelaw08_awake.f k).bind fun t268 => ((lex_Scan.f k a0).bind fun bt269 => (if t268 = true then (lychgatelaw08_LexFaults.j0 k a0 a1 t268 bt269.2.1 bt269.2.2 (bt269.2.1 == 0)) else (lychgatelaw08_LexFaults.j0 k a0 a1 t268 bt269.2.1 bt269.2.2 true))))))
set_option maxHeartbeats 8000000 in
set_option maxRecDepth 100000 in
theorem lychgatelaw08_LexFaults.calls (k : Nat) (a0 : ByteArray) (a1 : ByteArray) (r : Bool) (w : World) (hInv : Inv w) (h : lychgatelaw08_LexFaults.f k a0 a1 = some r) :
    Calls Tryd.prog 5 #[.string a0, .string a1] w fun e w' => e = .returned (.bool r) ∧ Below w.heap.size w w' := by
  have HB := Aside0.mk (Below.refl w.heap.size w)
  have HI_ := Aside0.mk hInv
  clear hInv
  have H : ((lychgatelaw08_add.f (a0.size : Int) (a0.size : Int)).bind fun t266 => ((lychgatelaw08_add.f t266 (a1.size : Int)).bind fun t267 => (if t267 > 2147483647 then (some true) else ((lychgatelaw08_awake.f k).bind fun t268 => ((lex_Scan.f k a0).bind fun bt269 => (if t268 = true then (lychgatelaw08_LexFaults.j0 k a0 a1 t268 bt269.2.1 bt269.2.2 (bt269.2.1 == 0)) else (lychgatelaw08_LexFaults.j0 k a0 a1 t268 bt269.2.1 bt269.2.2 true))))))) = some r := h
  clear h
  replace H := Option.bind_eq_some_iff.mp H
  obtain ⟨t266, A30, H⟩ := H
  replace H : ((lychgatelaw08_add.f t266 (a1.size : Int)).bind fun t267 => (if t267 > 2147483647 then (some true) else ((lychgatelaw08_awake.f k).bind fun t268 => ((lex_Scan.f k a0).bind fun bt269 => (if t268 = true then (lychgatelaw08_LexFaults.j0 k a0 a1 t268 bt269.2.1 bt269.2.2 (bt269.2.1 == 0)) else (lychgatelaw08_LexFaults.j0 k a0 a1 t268 bt269.2.1 bt269.2.2 true)))))) = some r := H
  have A3 := Aside0.mk A30
  clear A30
  replace H := Option.bind_eq_some_iff.mp H
  obtain ⟨t267, A40, H⟩ := H
  replace H : (if t267 > 2147483647 then (some true) else ((lychgatelaw08_awake.f k).bind fun t268 => ((lex_Scan.f k a0).bind fun bt269 => (if t268 = true then (lychgatelaw08_LexFaults.j0 k a0 a1 t268 bt269.2.1 bt269.2.2 (bt269.2.1 == 0)) else (lychgatelaw08_LexFaults.j0 k a0 a1 t268 bt269.2.1 bt269.2.2 true))))) = some r := H
  have A4 := Aside0.mk A40
  clear A40
  by_cases c5 : t267 > 2147483647
  · rw [if_pos c5] at H
    have c5b0 : decide (2147483647 < t267) = true := decide_eq_true c5
    clear c5
    first
    | (simp at H; done)
    | obtain rfl := Option.some.inj H
      go_enter Tryd.func5, Tryd.ntmps5
      go_wp2_with (first | ((with_reducible refine gate_callee (f := 13) rfl ?_); refine goesL_ (some 21) rfl rfl Tryd.func13 (by kernel_rfl) rfl #[.int .i64 (a0.size : Int), .int .i64 (a0.size : Int)] rfl (by (try simp only [List.map_toArray, List.map_cons, List.map_nil]); first | done | rfl | (simp only [List.length_drop, List.length_take]; rfl)) ?_; (with_reducible refine (lychgatelaw08_add.calls (a0.size : Int) (a0.size : Int) t266 _ A3.out).mono ?_); rintro e w' ⟨rfl, ⟨nd, rfl⟩⟩; refine ⟨_, rfl, ?_⟩) | ((with_reducible refine gate_callee (f := 13) rfl ?_); refine goesL_ (some 24) rfl rfl Tryd.func13 (by kernel_rfl) rfl #[.int .i64 t266, .int .i64 (a1.size : Int)] rfl (by (try simp only [List.map_toArray, List.map_cons, List.map_nil]); first | done | rfl | (simp only [List.length_drop, List.length_take]; rfl)) ?_; (with_reducible refine (lychgatelaw08_add.calls t266 (a1.size : Int) t267 _ A4.out).mono ?_); rintro e w' ⟨rfl, ⟨nd, rfl⟩⟩; refine ⟨_, rfl, ?_⟩))
      go_ret
      exact ⟨by first | rfl | (simp [errW_none, errW_some] <;> rfl) | (simp [*, errW_none, errW_some] <;> rfl), by repeat (first | (with_reducible first | exact HB.out | apply below_alloc | apply pw_below_drewN | apply below_drew1) | exact HB.out)⟩
  · rw [if_neg c5] at H
    have c5b0 : decide (2147483647 < t267) = false := decide_eq_false c5
    clear c5
    replace H := Option.bind_eq_some_iff.mp H
    obtain ⟨t268, A60, H⟩ := H
    replace H : ((lex_Scan.f k a0).bind fun bt269 => (if t268 = true then (lychgatelaw08_LexFaults.j0 k a0 a1 t268 bt269.2.1 bt269.2.2 (bt269.2.1 == 0)) else (lychgatelaw08_LexFaults.j0 k a0 a1 t268 bt269.2.1 bt269.2.2 true))) = some r := H
    have A6 := Aside0.mk A60
    clear A60
    replace H := Option.bind_eq_some_iff.mp H
    obtain ⟨⟨t269, t270, t271⟩, A70, H⟩ := H
    replace H : (if t268 = true then (lychgatelaw08_LexFaults.j0 k a0 a1 t268 t270 t271 (t270 == 0)) else (lychgatelaw08_LexFaults.j0 k a0 a1 t268 t270 t271 true)) = some r := H
    have A7 := Aside0.mk A70
    clear A70
    have HC8 := Aside0.mk H
    clear H
    go_enter Tryd.func5, Tryd.ntmps5
    go_upto_region 5 with (first | ((with_reducible refine gate_callee (f := 13) rfl ?_); refine goesL_ (some 21) rfl rfl Tryd.func13 (by kernel_rfl) rfl #[.int .i64 (a0.size : Int), .int .i64 (a0.size : Int)] rfl (by (try simp only [List.map_toArray, List.map_cons, List.map_nil]); first | done | rfl | (simp only [List.length_drop, List.length_take]; rfl)) ?_; (with_reducible refine (lychgatelaw08_add.calls (a0.size : Int) (a0.size : Int) t266 _ A3.out).mono ?_); rintro e w' ⟨rfl, ⟨nd, rfl⟩⟩; refine ⟨_, rfl, ?_⟩) | ((with_reducible refine gate_callee (f := 13) rfl ?_); refine goesL_ (some 24) rfl rfl Tryd.func13 (by kernel_rfl) rfl #[.int .i64 t266, .int .i64 (a1.size : Int)] rfl (by (try simp only [List.map_toArray, List.map_cons, List.map_nil]); first | done | rfl | (simp only [List.length_drop, List.length_take]; rfl)) ?_; (with_reducible refine (lychgatelaw08_add.calls t266 (a1.size : Int) t267 _ A4.out).mono ?_); rintro e w' ⟨rfl, ⟨nd, rfl⟩⟩; refine ⟨_, rfl, ?_⟩) | ((with_reducible refine gate_callee (f := 6) rfl ?_); refine goesL_ (some 26) rfl rfl Tryd.func6 (by kernel_rfl) rfl #[] rfl (by (try simp only [List.map_toArray, List.map_cons, List.map_nil]); first | done | rfl | (simp only [List.length_drop, List.length_take]; rfl)) ?_; (with_reducible refine (lychgatelaw08_awake.calls k  t268 _ ?side1 A6.out).mono ?_); (case side1 => exact Inv.below HI_.out (by repeat (first | (with_reducible first | exact HB.out | apply below_alloc | apply pw_below_drewN | apply below_drew1) | exact HB.out))); rintro e w9 ⟨rfl, hb⟩; refine ⟨_, rfl, ?_⟩; have n0_ := Aside0.mk (below_step (by repeat (first | (with_reducible first | exact HB.out | apply below_alloc | apply pw_below_drewN | apply below_drew1) | exact HB.out)) hb); clear HB; have HB := n0_; clear n0_; (try clear hb); (try clear hb2); (try clear hk); (try clear hi)) | ((with_reducible refine gate_callee (f := 14) rfl ?_); refine goesL_ (some 29) rfl rfl Tryd.func14 (by kernel_rfl) rfl #[.string a0] rfl (by (try simp only [List.map_toArray, List.map_cons, List.map_nil]); first | done | rfl | (simp only [List.length_drop, List.length_take]; rfl)) ?_; (with_reducible refine (lex_Scan.calls k a0 t269 t270 t271 _ ?side1 A7.out).mono ?_); (case side1 => exact Inv.below HI_.out (by repeat (first | (with_reducible first | exact HB.out | apply below_alloc | apply pw_below_drewN | apply below_drew1) | exact HB.out))); rintro e w10 ⟨v272, rfl, ho0, hb⟩; refine ⟨_, rfl, ?_⟩; have n0_ := Aside0.mk (Kd.R_lower ho0 (below_size (by repeat (first | (with_reducible first | exact HB.out | apply below_alloc | apply pw_below_drewN | apply below_drew1) | exact HB.out)))); have n1_ := Aside0.mk (below_step (by repeat (first | (with_reducible first | exact HB.out | apply below_alloc | apply pw_below_drewN | apply below_drew1) | exact HB.out)) hb); clear HB; have HO273 := n0_; have HB := n1_; clear n0_ n1_; (try clear hb); (try clear hb2); (try clear hk); (try clear hi); (try clear ho0)))
    (try simp only [Act.put, List.setIfInBounds_toArray, List.set_cons_zero, List.set_cons_succ])
    go_cut [38] (fun v38 wc => ∃ (kq : Nat) (x38_7 : Bool), v38 = .bool x38_7 ∧ Aside0 (lychgatelaw08_LexFaults.j0 kq a0 a1 t268 t270 t271 x38_7 = some r) ∧ Aside0 (kq ≤ k) ∧ Aside0 (Below w.heap.size w wc))
    case first =>
      have H := HC8.out
      clear HC8
      by_cases c11 : t268 = true
      · subst c11
        have H1 : (lychgatelaw08_LexFaults.j0 k a0 a1 true t270 t271 (t270 == 0)) = some r := by rw [if_pos rfl] at H; exact H
        clear H
        have H := H1
        clear H1
        have H' := Aside0.mk H
        clear H
        go_wp2
        go_meet
        case rel => exact ⟨_, ((t270 == 0)), (by first | rfl | (simp; done) | (simp [*]; done)), H', ⟨by first | omega | exact Nat.le_refl _⟩, ⟨by repeat (first | (with_reducible first | exact HB.out | apply below_alloc | apply pw_below_drewN | apply below_drew1) | exact HB.out)⟩⟩
      · replace c11 := Bool.eq_false_iff.mpr c11
        subst c11
        have H1 : (lychgatelaw08_LexFaults.j0 k a0 a1 false t270 t271 true) = some r := by rw [if_neg (show ¬ (false = true) by decide)] at H; exact H
        clear H
        have H := H1
        clear H1
        have H' := Aside0.mk H
        clear H
        go_wp2
        go_meet
        case rel => exact ⟨_, (true), (by first | rfl | (simp; done) | (simp [*]; done)), H', ⟨by first | omega | exact Nat.le_refl _⟩, ⟨by repeat (first | (with_reducible first | exact HB.out | apply below_alloc | apply pw_below_drewN | apply below_drew1) | exact HB.out)⟩⟩
    case rest =>
      clear HC8
      try clear c1
      try clear p2
      try clear c5
      try clear c5b0
      try clear c6
      try clear c11
      obtain ⟨kq, x38_7, rfl, HA, HJ7, HB⟩ := hcut
      cases kq with
      | zero => exact absurd HA.out (by simp [lychgatelaw08_LexFaults.j0])
      | succ kj7 =>
        have H := HA.out
        clear HA
        simp only [lychgatelaw08_LexFaults.j0] at H
        by_cases c12 : x38_7 = true
        · subst c12
          have H1 : (some t268) = some r := by rw [if_pos rfl] at H; exact H
          clear H
          have H := H1
          clear H1
          first
          | (simp at H; done)
          | obtain rfl := Option.some.inj H
            go_wp2
            go_ret
            exact ⟨by first | rfl | (simp [errW_none, errW_some] <;> rfl) | (simp [*, errW_none, errW_some] <;> rfl), by repeat (first | (with_reducible first | exact HB.out | apply below_alloc | apply pw_below_drewN | apply below_drew1) | exact HB.out)⟩
        · replace c12 := Bool.eq_false_iff.mpr c12
          subst c12
          have H1 : (if t270 = 84 then (if (a0.size : Int) > 8000 then (some (t271 == 8000)) else (none)) else (if t271 < 0 then (lychgatelaw08_LexFaults.j1 kj7 a0 a1 t270 t271 true) else (lychgatelaw08_LexFaults.j1 kj7 a0 a1 t270 t271 (decide (t271 ≥ (a0.size : Int)))))) = some r := by rw [if_neg (show ¬ (false = true) by decide)] at H; exact H
          clear H
          have H := H1
          clear H1
          by_cases c13 : t270 = 84
          · rw [if_pos c13] at H
            have c13b0 : (t270 == 84) = true := beq_iff_eq.mpr c13
            have c13b1 : (t270 != 84) = false := bne_eq_false_iff_eq.mpr c13
            clear c13
            by_cases c14 : (a0.size : Int) > 8000
            · rw [if_pos c14] at H
              have c14b0 : decide (8000 < (a0.size : Int)) = true := decide_eq_true c14
              have c14b1 : decide (8000 < a0.size) = true := decide_eq_true (by omega)
              clear c14
              first
              | (simp at H; done)
              | obtain rfl := Option.some.inj H
                go_wp2
                go_ret
                exact ⟨by first | rfl | (simp [errW_none, errW_some] <;> rfl) | (simp [*, errW_none, errW_some] <;> rfl), by repeat (first | (with_reducible first | exact HB.out | apply below_alloc | apply pw_below_drewN | apply below_drew1) | exact HB.out)⟩
            · rw [if_neg c14] at H
              have c14b0 : decide (8000 < (a0.size : Int)) = false := decide_eq_false c14
              have c14b1 : decide (8000 < a0.size) = false := decide_eq_false (by omega)
              clear c14
              exact absurd H (by simp)
          · rw [if_neg c13] at H
            have c13b0 : (t270 == 84) = false := beq_eq_false_iff_ne.mpr c13
            have c13b1 : (t270 != 84) = true := bne_iff_ne.mpr c13
            have HC15 := Aside0.mk H
            clear H
            go_upto_region 9 with (fail)
            go_cut [56] (fun v56 wc => ∃ (kq : Nat) (x56_14 : Bool), v56 = .bool x56_14 ∧ Aside0 (lychgatelaw08_LexFaults.j1 kq a0 a1 t270 t271 x56_14 = some r) ∧ Aside0 (kq ≤ kj7) ∧ Aside0 (Below w.heap.size w wc))
            case first =>
              have H := HC15.out
              clear HC15
              by_cases c16 : t271 < 0
              · rw [if_pos c16] at H
                have c16b0 : decide (t271 < 0) = true := decide_eq_true c16
                clear c16
                (first | rw [c16b0] | (simp only [i64_w, i32_w]; rw [c16b0]) | skip)
                have H' := Aside0.mk H
                clear H
                go_wp2
                go_meet
                case rel => exact ⟨_, (true), (by first | rfl | (simp; done) | (simp [*]; done)), H', ⟨by have := HJ7.out; first | omega | exact Nat.le_refl _⟩, ⟨by repeat (first | (with_reducible first | exact HB.out | apply below_alloc | apply pw_below_drewN | apply below_drew1) | exact HB.out)⟩⟩
              · rw [if_neg c16] at H
                have c16b0 : decide (t271 < 0) = false := decide_eq_false c16
                clear c16
                (first | rw [c16b0] | (simp only [i64_w, i32_w]; rw [c16b0]) | skip)
                have H' := Aside0.mk H
                clear H
                go_wp2
                go_meet
                case rel => exact ⟨_, (decide (t271 ≥ (a0.size : Int))), (by first | rfl | (simp; done) | (simp [*]; done)), H', ⟨by have := HJ7.out; first | omega | exact Nat.le_refl _⟩, ⟨by repeat (first | (with_reducible first | exact HB.out | apply below_alloc | apply pw_below_drewN | apply below_drew1) | exact HB.out)⟩⟩
            case rest =>
              clear HC15
              try clear c1
              try clear p2
              try clear c5
              try clear c5b0
              try clear c6
              try clear c11
              try clear c12
              try clear c13
              try clear c13b0
              try clear c13b1
              try clear c14
              try clear c14b0
              try clear c14b1
              try clear c16
              try clear c16b0
              try clear p2
              obtain ⟨kq, x56_14, rfl, HA, HJ14, HB⟩ := hcut
              cases kq with
              | zero => exact absurd HA.out (by simp [lychgatelaw08_LexFaults.j1])
              | succ kj14 =>
                have H := HA.out
                clear HA
                simp only [lychgatelaw08_LexFaults.j1] at H
                by_cases c17 : x56_14 = true
                · subst c17
                  have H1 : (none) = some r := by rw [if_pos rfl] at H; exact H
                  clear H
                  have H := H1
                  clear H1
                  exact absurd H (by simp)
                · replace c17 := Bool.eq_false_iff.mpr c17
                  subst c17
                  have H1 : (if 0 ≤ t271 then (if t271 ≤ (a0.size : Int) then ((lex_Scan.f kj14 (a0.extract 0 (t271 : Int).toNat)).bind fun bt274 => (if bt274.2.1 = 0 then (lychgatelaw08_LexFaults.l0 kj14 a0 a1 t270 t271 (wrap64 (t271 + 1))) else (none))) else (none)) else (none)) = some r := by rw [if_neg (show ¬ (false = true) by decide)] at H; exact H
                  clear H
                  have H := H1
                  clear H1
                  by_cases c18 : 0 ≤ t271
                  · rw [if_pos c18] at H
                    have c18b0 := eq_true c18
                    have c18b1 : decide (0 ≤ t271) = true := decide_eq_true c18
                    clear c18
                    by_cases c19 : t271 ≤ (a0.size : Int)
                    · rw [if_pos c19] at H
                      have c19b0 := eq_true c19
                      have c19b1 : decide (t271 ≤ (a0.size : Int)) = true := decide_eq_true c19
                      clear c19
                      replace H := Option.bind_eq_some_iff.mp H
                      obtain ⟨⟨t274, t275, t276⟩, A200, H⟩ := H
                      replace H : (if t275 = 0 then (lychgatelaw08_LexFaults.l0 kj14 a0 a1 t270 t271 (wrap64 (t271 + 1))) else (none)) = some r := H
                      have A20 := Aside0.mk A200
                      clear A200
                      by_cases c21 : t275 = 0
                      · rw [if_pos c21] at H
                        have c21b0 : (t275 == 0) = true := beq_iff_eq.mpr c21
                        have c21b1 : (t275 != 0) = false := bne_eq_false_iff_eq.mpr c21
                        clear c21
                        have H' := Aside0.mk H
                        clear H
                        go_wp2_with (first | ((with_reducible refine gate_callee (f := 14) rfl ?_); refine goesL_ (some 61) rfl rfl Tryd.func14 (by kernel_rfl) rfl #[.string (a0.extract 0 (t271 : Int).toNat)] rfl (by (try simp only [List.map_toArray, List.map_cons, List.map_nil]); first | done | rfl | (simp only [List.length_drop, List.length_take]; rfl)) ?_; (with_reducible refine (lex_Scan.calls kj14 (a0.extract 0 (t271 : Int).toNat) t274 t275 t276 _ ?side1 A20.out).mono ?_); (case side1 => exact Inv.below HI_.out (by repeat (first | (with_reducible first | exact HB.out | apply below_alloc | apply pw_below_drewN | apply below_drew1) | exact HB.out))); rintro e w22 ⟨v277, rfl, ho0, hb⟩; refine ⟨_, rfl, ?_⟩; have n0_ := Aside0.mk (Kd.R_lower ho0 (below_size (by repeat (first | (with_reducible first | exact HB.out | apply below_alloc | apply pw_below_drewN | apply below_drew1) | exact HB.out)))); have n1_ := Aside0.mk (below_step (by repeat (first | (with_reducible first | exact HB.out | apply below_alloc | apply pw_below_drewN | apply below_drew1) | exact HB.out)) hb); clear HB; have HO278 := n0_; have HB := n1_; clear n0_ n1_; (try clear hb); (try clear hb2); (try clear hk); (try clear hi); (try clear ho0)))
                        go_loopg [12] kj14 (fun kq v12 w' => ∃ (x12_3 : Int), v12 = .int .i64 x12_3 ∧ Aside0 (lychgatelaw08_LexFaults.l0 kq a0 a1 t270 t271 x12_3 = some r) ∧ Aside0 (kq ≤ kj14) ∧ Aside0 (Below w.heap.size w w'))
                        case atStart => exact ⟨(wrap64 (t271 + 1)), (by first | rfl | (simp; done) | (simp [*]; done)), H', ⟨Nat.le_refl _⟩, ⟨by repeat (first | (with_reducible first | exact HB.out | apply below_alloc | apply pw_below_drewN | apply below_drew1) | exact HB.out)⟩⟩
                        case round =>
                          clear H'
                          try clear c1
                          try clear c2
                          try clear p2
                          try clear c5
                          try clear c5b0
                          try clear c6
                          try clear p6
                          try clear c11
                          try clear c12
                          try clear c13
                          try clear c13b0
                          try clear c13b1
                          try clear c14
                          try clear c14b0
                          try clear c14b1
                          try clear c16
                          try clear c16b0
                          try clear c17
                          try clear c18
                          try clear c18b0
                          try clear c18b1
                          try clear c19
                          try clear c19b0
                          try clear c19b1
                          try clear c21
                          try clear c21b0
                          try clear c21b1
                          try clear p2
                          obtain ⟨x12_3, rfl, HA, HK3, HB⟩ := hrel
                          cases gk with
                          | zero => exact absurd HA.out (by simp [lychgatelaw08_LexFaults.l0])
                          | succ k3 =>
                            have H := HA.out
                            clear HA
                            simp only [lychgatelaw08_LexFaults.l0] at H
                            by_cases c23 : x12_3 < (a0.size : Int)
                            · rw [if_pos c23] at H
                              have c23b0 : decide (x12_3 < (a0.size : Int)) = true := decide_eq_true c23
                              clear c23
                              by_cases c24 : 0 ≤ x12_3
                              · rw [if_pos c24] at H
                                have c24b0 : decide (0 ≤ x12_3) = true := decide_eq_true c24
                                clear c24
                                by_cases c26 : (bt a0 x12_3) = 32
                                · rw [if_pos c26] at H
                                  have c26b0 : ((bt a0 x12_3) == 32) = true := beq_iff_eq.mpr c26
                                  have c26b1 : ((bt a0 x12_3) != 32) = false := bne_eq_false_iff_eq.mpr c26
                                  clear c26
                                  have c27b0 := eq_true (of_decide_eq_true (by first | (with_reducible assumption) | assumption) : 0 ≤ x12_3)
                                  by_cases c28 : x12_3 ≤ (a0.size : Int)
                                  · rw [if_pos c28] at H
                                    have c28b0 := eq_true c28
                                    have c28b1 : decide (x12_3 ≤ (a0.size : Int)) = true := decide_eq_true c28
                                    clear c28
                                    by_cases c29 : (a0.extract 0 (x12_3 : Int).toNat).size + 1 ≤ 9223372036854775807
                                    · rw [if_pos c29] at H
                                      have c29b0 := eq_true c29
                                      have c29b1 : decide ((a0.extract 0 (x12_3 : Int).toNat).size + 1 ≤ 9223372036854775807) = true := decide_eq_true c29
                                      try have c29b2 : (9223372036854775807 < (a0.extract 0 (x12_3 : Int).toNat).size + 1) = False := eq_false (Nat.not_lt.2 c29)
                                      try have c29b3 : (9223372036854775807 < x12_3.toNat + 1) = False := eq_false (by have e_ := c29; have f_ : x12_3 ≤ (a0.size : Int) := of_decide_eq_true (by assumption); simp only [ByteArray.size_extract] at e_; omega)
                                      by_cases c30 : ((a0.extract 0 (x12_3 : Int).toNat) ++ (⟨#[32]⟩ : ByteArray)).size + a1.size ≤ 9223372036854775807
                                      · rw [if_pos c30] at H
                                        have c30b0 := eq_true c30
                                        have c30b1 : decide (((a0.extract 0 (x12_3 : Int).toNat) ++ (⟨#[32]⟩ : ByteArray)).size + a1.size ≤ 9223372036854775807) = true := decide_eq_true c30
                                        try have c30b2 : (9223372036854775807 < ((a0.extract 0 (x12_3 : Int).toNat) ++ (⟨#[32]⟩ : ByteArray)).size + a1.size) = False := eq_false (Nat.not_lt.2 c30)
                                        replace H := Option.bind_eq_some_iff.mp H
                                        obtain ⟨⟨t279, t280, t281⟩, A310, H⟩ := H
                                        replace H : (if t270 = 83 then (some true) else (if ((((a0.extract 0 (x12_3 : Int).toNat) ++ (⟨#[32]⟩ : ByteArray)) ++ a1).size : Int) > 8000 then (some true) else (if t280 = t270 then (some (t281 == t271)) else (none)))) = some r := H
                                        have A31 := Aside0.mk A310
                                        clear A310
                                        by_cases c32 : t270 = 83
                                        · rw [if_pos c32] at H
                                          have c32b0 : (t270 == 83) = true := beq_iff_eq.mpr c32
                                          have c32b1 : (t270 != 83) = false := bne_eq_false_iff_eq.mpr c32
                                          clear c32
                                          first
                                          | (simp at H; done)
                                          | obtain rfl := Option.some.inj H
                                            have p25 : 0 ≤ (x12_3 : Int) := of_decide_eq_true (by first | (with_reducible assumption) | assumption)
                                            have q25 : x12_3 < (a0.size : Int) := of_decide_eq_true (by first | (with_reducible assumption) | assumption)
                                            have hx25 := bt_at a0 x12_3
                                            replace p25 := eq_true p25
                                            replace q25 := eq_true q25
                                            go_wp2_with (first | ((with_reducible refine gate_callee (f := 14) rfl ?_); refine goesL_ (some 95) rfl rfl Tryd.func14 (by kernel_rfl) rfl #[.string (((a0.extract 0 (x12_3 : Int).toNat) ++ (⟨#[32]⟩ : ByteArray)) ++ a1)] rfl (by (try simp only [List.map_toArray, List.map_cons, List.map_nil]); first | done | rfl | (simp only [List.length_drop, List.length_take]; rfl)) ?_; (with_reducible refine (lex_Scan.calls k3 (((a0.extract 0 (x12_3 : Int).toNat) ++ (⟨#[32]⟩ : ByteArray)) ++ a1) t279 t280 t281 _ ?side1 A31.out).mono ?_); (case side1 => exact Inv.below HI_.out (by repeat (first | (with_reducible first | exact HB.out | apply below_alloc | apply pw_below_drewN | apply below_drew1) | exact HB.out))); rintro e w33 ⟨v282, rfl, ho0, hb⟩; refine ⟨_, rfl, ?_⟩; have n0_ := Aside0.mk (Kd.R_lower ho0 (below_size (by repeat (first | (with_reducible first | exact HB.out | apply below_alloc | apply pw_below_drewN | apply below_drew1) | exact HB.out)))); have n1_ := Aside0.mk (below_step (by repeat (first | (with_reducible first | exact HB.out | apply below_alloc | apply pw_below_drewN | apply below_drew1) | exact HB.out)) hb); clear HB; have HO283 := n0_; have HB := n1_; clear n0_ n1_; (try clear hb); (try clear hb2); (try clear hk); (try clear hi); (try clear ho0)))
                                            go_ret
                                            exact ⟨by first | rfl | (simp [errW_none, errW_some] <;> rfl) | (simp [*, errW_none, errW_some] <;> rfl), by repeat (first | (with_reducible first | exact HB.out | apply below_alloc | apply pw_below_drewN | apply below_drew1) | exact HB.out)⟩
                                        · rw [if_neg c32] at H
                                          have c32b0 : (t270 == 83) = false := beq_eq_false_iff_ne.mpr c32
                                          have c32b1 : (t270 != 83) = true := bne_iff_ne.mpr c32
                                          by_cases c34 : ((((a0.extract 0 (x12_3 : Int).toNat) ++ (⟨#[32]⟩ : ByteArray)) ++ a1).size : Int) > 8000
                                          · rw [if_pos c34] at H
                                            have c34b0 : decide (8000 < ((((a0.extract 0 (x12_3 : Int).toNat) ++ (⟨#[32]⟩ : ByteArray)) ++ a1).size : Int)) = true := decide_eq_true c34
                                            have c34b1 : decide (8000 < (((a0.extract 0 (x12_3 : Int).toNat) ++ (⟨#[32]⟩ : ByteArray)) ++ a1).size) = true := decide_eq_true (by omega)
                                            have c34b5 : (8000 < max x12_3 0 + 1 + (a1.size : Int)) = True := eq_true (by have e_ := of_decide_eq_true c34b1; have f_ : x12_3 ≤ (a0.size : Int) := of_decide_eq_true (by assumption); have g_ : (⟨#[32]⟩ : ByteArray).size = 1 := rfl; simp only [ByteArray.size_append, ByteArray.size_extract] at e_; omega)
                                            clear c34
                                            first
                                            | (simp at H; done)
                                            | obtain rfl := Option.some.inj H
                                              have p25 : 0 ≤ (x12_3 : Int) := of_decide_eq_true (by first | (with_reducible assumption) | assumption)
                                              have q25 : x12_3 < (a0.size : Int) := of_decide_eq_true (by first | (with_reducible assumption) | assumption)
                                              have hx25 := bt_at a0 x12_3
                                              replace p25 := eq_true p25
                                              replace q25 := eq_true q25
                                              go_wp2_with (first | ((with_reducible refine gate_callee (f := 14) rfl ?_); refine goesL_ (some 95) rfl rfl Tryd.func14 (by kernel_rfl) rfl #[.string (((a0.extract 0 (x12_3 : Int).toNat) ++ (⟨#[32]⟩ : ByteArray)) ++ a1)] rfl (by (try simp only [List.map_toArray, List.map_cons, List.map_nil]); first | done | rfl | (simp only [List.length_drop, List.length_take]; rfl)) ?_; (with_reducible refine (lex_Scan.calls k3 (((a0.extract 0 (x12_3 : Int).toNat) ++ (⟨#[32]⟩ : ByteArray)) ++ a1) t279 t280 t281 _ ?side1 A31.out).mono ?_); (case side1 => exact Inv.below HI_.out (by repeat (first | (with_reducible first | exact HB.out | apply below_alloc | apply pw_below_drewN | apply below_drew1) | exact HB.out))); rintro e w35 ⟨v282, rfl, ho0, hb⟩; refine ⟨_, rfl, ?_⟩; have n0_ := Aside0.mk (Kd.R_lower ho0 (below_size (by repeat (first | (with_reducible first | exact HB.out | apply below_alloc | apply pw_below_drewN | apply below_drew1) | exact HB.out)))); have n1_ := Aside0.mk (below_step (by repeat (first | (with_reducible first | exact HB.out | apply below_alloc | apply pw_below_drewN | apply below_drew1) | exact HB.out)) hb); clear HB; have HO283 := n0_; have HB := n1_; clear n0_ n1_; (try clear hb); (try clear hb2); (try clear hk); (try clear hi); (try clear ho0)))
                                              go_ret
                                              exact ⟨by first | rfl | (simp [errW_none, errW_some] <;> rfl) | (simp [*, errW_none, errW_some] <;> rfl), by repeat (first | (with_reducible first | exact HB.out | apply below_alloc | apply pw_below_drewN | apply below_drew1) | exact HB.out)⟩
                                          · rw [if_neg c34] at H
                                            have c34b0 : decide (8000 < ((((a0.extract 0 (x12_3 : Int).toNat) ++ (⟨#[32]⟩ : ByteArray)) ++ a1).size : Int)) = false := decide_eq_false c34
                                            have c34b1 : decide (8000 < (((a0.extract 0 (x12_3 : Int).toNat) ++ (⟨#[32]⟩ : ByteArray)) ++ a1).size) = false := decide_eq_false (by omega)
                                            have c34b5 : (8000 < max x12_3 0 + 1 + (a1.size : Int)) = False := eq_false (by have e_ := of_decide_eq_false c34b1; have f_ : x12_3 ≤ (a0.size : Int) := of_decide_eq_true (by assumption); have g_ : (⟨#[32]⟩ : ByteArray).size = 1 := rfl; simp only [ByteArray.size_append, ByteArray.size_extract] at e_; omega)
                                            clear c34
                                            by_cases c36 : t280 = t270
                                            · rw [if_pos c36] at H
                                              have c36b0 : (t280 == t270) = true := beq_iff_eq.mpr c36
                                              have c36b1 : (t280 != t270) = false := bne_eq_false_iff_eq.mpr c36
                                              clear c36
                                              first
                                              | (simp at H; done)
                                              | obtain rfl := Option.some.inj H
                                                have p25 : 0 ≤ (x12_3 : Int) := of_decide_eq_true (by first | (with_reducible assumption) | assumption)
                                                have q25 : x12_3 < (a0.size : Int) := of_decide_eq_true (by first | (with_reducible assumption) | assumption)
                                                have hx25 := bt_at a0 x12_3
                                                replace p25 := eq_true p25
                                                replace q25 := eq_true q25
                                                go_wp2_with (first | ((with_reducible refine gate_callee (f := 14) rfl ?_); refine goesL_ (some 95) rfl rfl Tryd.func14 (by kernel_rfl) rfl #[.string (((a0.extract 0 (x12_3 : Int).toNat) ++ (⟨#[32]⟩ : ByteArray)) ++ a1)] rfl (by (try simp only [List.map_toArray, List.map_cons, List.map_nil]); first | done | rfl | (simp only [List.length_drop, List.length_take]; rfl)) ?_; (with_reducible refine (lex_Scan.calls k3 (((a0.extract 0 (x12_3 : Int).toNat) ++ (⟨#[32]⟩ : ByteArray)) ++ a1) t279 t280 t281 _ ?side1 A31.out).mono ?_); (case side1 => exact Inv.below HI_.out (by repeat (first | (with_reducible first | exact HB.out | apply below_alloc | apply pw_below_drewN | apply below_drew1) | exact HB.out))); rintro e w37 ⟨v282, rfl, ho0, hb⟩; refine ⟨_, rfl, ?_⟩; have n0_ := Aside0.mk (Kd.R_lower ho0 (below_size (by repeat (first | (with_reducible first | exact HB.out | apply below_alloc | apply pw_below_drewN | apply below_drew1) | exact HB.out)))); have n1_ := Aside0.mk (below_step (by repeat (first | (with_reducible first | exact HB.out | apply below_alloc | apply pw_below_drewN | apply below_drew1) | exact HB.out)) hb); clear HB; have HO283 := n0_; have HB := n1_; clear n0_ n1_; (try clear hb); (try clear hb2); (try clear hk); (try clear hi); (try clear ho0)))
                                                go_ret
                                                exact ⟨by first | rfl | (simp [errW_none, errW_some] <;> rfl) | (simp [*, errW_none, errW_some] <;> rfl), by repeat (first | (with_reducible first | exact HB.out | apply below_alloc | apply pw_below_drewN | apply below_drew1) | exact HB.out)⟩
                                            · rw [if_neg c36] at H
                                              have c36b0 : (t280 == t270) = false := beq_eq_false_iff_ne.mpr c36
                                              have c36b1 : (t280 != t270) = true := bne_iff_ne.mpr c36
                                              exact absurd H (by simp)
                                      · rw [if_neg c30] at H
                                        exact absurd H (by simp)
                                    · rw [if_neg c29] at H
                                      exact absurd H (by simp)
                                  · rw [if_neg c28] at H
                                    exact absurd H (by simp)
                                · rw [if_neg c26] at H
                                  have c26b0 : ((bt a0 x12_3) == 32) = false := beq_eq_false_iff_ne.mpr c26
                                  have c26b1 : ((bt a0 x12_3) != 32) = true := bne_iff_ne.mpr c26
                                  by_cases c40 : (bt a0 x12_3) = 10
                                  · rw [if_pos c40] at H
                                    have c40b0 : ((bt a0 x12_3) == 10) = true := beq_iff_eq.mpr c40
                                    have c40b1 : ((bt a0 x12_3) != 10) = false := bne_eq_false_iff_eq.mpr c40
                                    clear c40
                                    have c41b0 := eq_true (of_decide_eq_true (by first | (with_reducible assumption) | assumption) : 0 ≤ x12_3)
                                    by_cases c42 : x12_3 ≤ (a0.size : Int)
                                    · rw [if_pos c42] at H
                                      have c42b0 := eq_true c42
                                      have c42b1 : decide (x12_3 ≤ (a0.size : Int)) = true := decide_eq_true c42
                                      clear c42
                                      by_cases c43 : (a0.extract 0 (x12_3 : Int).toNat).size + 1 ≤ 9223372036854775807
                                      · rw [if_pos c43] at H
                                        have c43b0 := eq_true c43
                                        have c43b1 : decide ((a0.extract 0 (x12_3 : Int).toNat).size + 1 ≤ 9223372036854775807) = true := decide_eq_true c43
                                        try have c43b2 : (9223372036854775807 < (a0.extract 0 (x12_3 : Int).toNat).size + 1) = False := eq_false (Nat.not_lt.2 c43)
                                        try have c43b3 : (9223372036854775807 < x12_3.toNat + 1) = False := eq_false (by have e_ := c43; have f_ : x12_3 ≤ (a0.size : Int) := of_decide_eq_true (by assumption); simp only [ByteArray.size_extract] at e_; omega)
                                        by_cases c44 : ((a0.extract 0 (x12_3 : Int).toNat) ++ (⟨#[32]⟩ : ByteArray)).size + a1.size ≤ 9223372036854775807
                                        · rw [if_pos c44] at H
                                          have c44b0 := eq_true c44
                                          have c44b1 : decide (((a0.extract 0 (x12_3 : Int).toNat) ++ (⟨#[32]⟩ : ByteArray)).size + a1.size ≤ 9223372036854775807) = true := decide_eq_true c44
                                          try have c44b2 : (9223372036854775807 < ((a0.extract 0 (x12_3 : Int).toNat) ++ (⟨#[32]⟩ : ByteArray)).size + a1.size) = False := eq_false (Nat.not_lt.2 c44)
                                          replace H := Option.bind_eq_some_iff.mp H
                                          obtain ⟨⟨t284, t285, t286⟩, A450, H⟩ := H
                                          replace H : (if t270 = 83 then (some true) else (if ((((a0.extract 0 (x12_3 : Int).toNat) ++ (⟨#[32]⟩ : ByteArray)) ++ a1).size : Int) > 8000 then (some true) else (if t285 = t270 then (some (t286 == t271)) else (none)))) = some r := H
                                          have A45 := Aside0.mk A450
                                          clear A450
                                          by_cases c46 : t270 = 83
                                          · rw [if_pos c46] at H
                                            have c46b0 : (t270 == 83) = true := beq_iff_eq.mpr c46
                                            have c46b1 : (t270 != 83) = false := bne_eq_false_iff_eq.mpr c46
                                            clear c46
                                            first
                                            | (simp at H; done)
                                            | obtain rfl := Option.some.inj H
                                              have p25 : 0 ≤ (x12_3 : Int) := of_decide_eq_true (by first | (with_reducible assumption) | assumption)
                                              have q25 : x12_3 < (a0.size : Int) := of_decide_eq_true (by first | (with_reducible assumption) | assumption)
                                              have hx25 := bt_at a0 x12_3
                                              replace p25 := eq_true p25
                                              replace q25 := eq_true q25
                                              have p39 : 0 ≤ (x12_3 : Int) := of_decide_eq_true (by first | (with_reducible assumption) | assumption)
                                              have q39 : x12_3 < (a0.size : Int) := of_decide_eq_true (by first | (with_reducible assumption) | assumption)
                                              have hx39 := bt_at a0 x12_3
                                              replace p39 := eq_true p39
                                              replace q39 := eq_true q39
                                              go_wp2_with (first | ((with_reducible refine gate_callee (f := 14) rfl ?_); refine goesL_ (some 95) rfl rfl Tryd.func14 (by kernel_rfl) rfl #[.string (((a0.extract 0 (x12_3 : Int).toNat) ++ (⟨#[32]⟩ : ByteArray)) ++ a1)] rfl (by (try simp only [List.map_toArray, List.map_cons, List.map_nil]); first | done | rfl | (simp only [List.length_drop, List.length_take]; rfl)) ?_; (with_reducible refine (lex_Scan.calls k3 (((a0.extract 0 (x12_3 : Int).toNat) ++ (⟨#[32]⟩ : ByteArray)) ++ a1) t284 t285 t286 _ ?side1 A45.out).mono ?_); (case side1 => exact Inv.below HI_.out (by repeat (first | (with_reducible first | exact HB.out | apply below_alloc | apply pw_below_drewN | apply below_drew1) | exact HB.out))); rintro e w47 ⟨v287, rfl, ho0, hb⟩; refine ⟨_, rfl, ?_⟩; have n0_ := Aside0.mk (Kd.R_lower ho0 (below_size (by repeat (first | (with_reducible first | exact HB.out | apply below_alloc | apply pw_below_drewN | apply below_drew1) | exact HB.out)))); have n1_ := Aside0.mk (below_step (by repeat (first | (with_reducible first | exact HB.out | apply below_alloc | apply pw_below_drewN | apply below_drew1) | exact HB.out)) hb); clear HB; have HO288 := n0_; have HB := n1_; clear n0_ n1_; (try clear hb); (try clear hb2); (try clear hk); (try clear hi); (try clear ho0)))
                                              go_ret
                                              exact ⟨by first | rfl | (simp [errW_none, errW_some] <;> rfl) | (simp [*, errW_none, errW_some] <;> rfl), by repeat (first | (with_reducible first | exact HB.out | apply below_alloc | apply pw_below_drewN | apply below_drew1) | exact HB.out)⟩
                                          · rw [if_neg c46] at H
                                            have c46b0 : (t270 == 83) = false := beq_eq_false_iff_ne.mpr c46
                                            have c46b1 : (t270 != 83) = true := bne_iff_ne.mpr c46
                                            by_cases c48 : ((((a0.extract 0 (x12_3 : Int).toNat) ++ (⟨#[32]⟩ : ByteArray)) ++ a1).size : Int) > 8000
                                            · rw [if_pos c48] at H
                                              have c48b0 : decide (8000 < ((((a0.extract 0 (x12_3 : Int).toNat) ++ (⟨#[32]⟩ : ByteArray)) ++ a1).size : Int)) = true := decide_eq_true c48
                                              have c48b1 : decide (8000 < (((a0.extract 0 (x12_3 : Int).toNat) ++ (⟨#[32]⟩ : ByteArray)) ++ a1).size) = true := decide_eq_true (by omega)
                                              have c48b5 : (8000 < max x12_3 0 + 1 + (a1.size : Int)) = True := eq_true (by have e_ := of_decide_eq_true c48b1; have f_ : x12_3 ≤ (a0.size : Int) := of_decide_eq_true (by assumption); have g_ : (⟨#[32]⟩ : ByteArray).size = 1 := rfl; simp only [ByteArray.size_append, ByteArray.size_extract] at e_; omega)
                                              clear c48
                                              first
                                              | (simp at H; done)
                                              | obtain rfl := Option.some.inj H
                                                have p25 : 0 ≤ (x12_3 : Int) := of_decide_eq_true (by first | (with_reducible assumption) | assumption)
                                                have q25 : x12_3 < (a0.size : Int) := of_decide_eq_true (by first | (with_reducible assumption) | assumption)
                                                have hx25 := bt_at a0 x12_3
                                                replace p25 := eq_true p25
                                                replace q25 := eq_true q25
                                                have p39 : 0 ≤ (x12_3 : Int) := of_decide_eq_true (by first | (with_reducible assumption) | assumption)
                                                have q39 : x12_3 < (a0.size : Int) := of_decide_eq_true (by first | (with_reducible assumption) | assumption)
                                                have hx39 := bt_at a0 x12_3
                                                replace p39 := eq_true p39
                                                replace q39 := eq_true q39
                                                go_wp2_with (first | ((with_reducible refine gate_callee (f := 14) rfl ?_); refine goesL_ (some 95) rfl rfl Tryd.func14 (by kernel_rfl) rfl #[.string (((a0.extract 0 (x12_3 : Int).toNat) ++ (⟨#[32]⟩ : ByteArray)) ++ a1)] rfl (by (try simp only [List.map_toArray, List.map_cons, List.map_nil]); first | done | rfl | (simp only [List.length_drop, List.length_take]; rfl)) ?_; (with_reducible refine (lex_Scan.calls k3 (((a0.extract 0 (x12_3 : Int).toNat) ++ (⟨#[32]⟩ : ByteArray)) ++ a1) t284 t285 t286 _ ?side1 A45.out).mono ?_); (case side1 => exact Inv.below HI_.out (by repeat (first | (with_reducible first | exact HB.out | apply below_alloc | apply pw_below_drewN | apply below_drew1) | exact HB.out))); rintro e w49 ⟨v287, rfl, ho0, hb⟩; refine ⟨_, rfl, ?_⟩; have n0_ := Aside0.mk (Kd.R_lower ho0 (below_size (by repeat (first | (with_reducible first | exact HB.out | apply below_alloc | apply pw_below_drewN | apply below_drew1) | exact HB.out)))); have n1_ := Aside0.mk (below_step (by repeat (first | (with_reducible first | exact HB.out | apply below_alloc | apply pw_below_drewN | apply below_drew1) | exact HB.out)) hb); clear HB; have HO288 := n0_; have HB := n1_; clear n0_ n1_; (try clear hb); (try clear hb2); (try clear hk); (try clear hi); (try clear ho0)))
                                                go_ret
                                                exact ⟨by first | rfl | (simp [errW_none, errW_some] <;> rfl) | (simp [*, errW_none, errW_some] <;> rfl), by repeat (first | (with_reducible first | exact HB.out | apply below_alloc | apply pw_below_drewN | apply below_drew1) | exact HB.out)⟩
                                            · rw [if_neg c48] at H
                                              have c48b0 : decide (8000 < ((((a0.extract 0 (x12_3 : Int).toNat) ++ (⟨#[32]⟩ : ByteArray)) ++ a1).size : Int)) = false := decide_eq_false c48
                                              have c48b1 : decide (8000 < (((a0.extract 0 (x12_3 : Int).toNat) ++ (⟨#[32]⟩ : ByteArray)) ++ a1).size) = false := decide_eq_false (by omega)
                                              have c48b5 : (8000 < max x12_3 0 + 1 + (a1.size : Int)) = False := eq_false (by have e_ := of_decide_eq_false c48b1; have f_ : x12_3 ≤ (a0.size : Int) := of_decide_eq_true (by assumption); have g_ : (⟨#[32]⟩ : ByteArray).size = 1 := rfl; simp only [ByteArray.size_append, ByteArray.size_extract] at e_; omega)
                                              clear c48
                                              by_cases c50 : t285 = t270
                                              · rw [if_pos c50] at H
                                                have c50b0 : (t285 == t270) = true := beq_iff_eq.mpr c50
                                                have c50b1 : (t285 != t270) = false := bne_eq_false_iff_eq.mpr c50
                                                clear c50
                                                first
                                                | (simp at H; done)
                                                | obtain rfl := Option.some.inj H
                                                  have p25 : 0 ≤ (x12_3 : Int) := of_decide_eq_true (by first | (with_reducible assumption) | assumption)
                                                  have q25 : x12_3 < (a0.size : Int) := of_decide_eq_true (by first | (with_reducible assumption) | assumption)
                                                  have hx25 := bt_at a0 x12_3
                                                  replace p25 := eq_true p25
                                                  replace q25 := eq_true q25
                                                  have p39 : 0 ≤ (x12_3 : Int) := of_decide_eq_true (by first | (with_reducible assumption) | assumption)
                                                  have q39 : x12_3 < (a0.size : Int) := of_decide_eq_true (by first | (with_reducible assumption) | assumption)
                                                  have hx39 := bt_at a0 x12_3
                                                  replace p39 := eq_true p39
                                                  replace q39 := eq_true q39
                                                  go_wp2_with (first | ((with_reducible refine gate_callee (f := 14) rfl ?_); refine goesL_ (some 95) rfl rfl Tryd.func14 (by kernel_rfl) rfl #[.string (((a0.extract 0 (x12_3 : Int).toNat) ++ (⟨#[32]⟩ : ByteArray)) ++ a1)] rfl (by (try simp only [List.map_toArray, List.map_cons, List.map_nil]); first | done | rfl | (simp only [List.length_drop, List.length_take]; rfl)) ?_; (with_reducible refine (lex_Scan.calls k3 (((a0.extract 0 (x12_3 : Int).toNat) ++ (⟨#[32]⟩ : ByteArray)) ++ a1) t284 t285 t286 _ ?side1 A45.out).mono ?_); (case side1 => exact Inv.below HI_.out (by repeat (first | (with_reducible first | exact HB.out | apply below_alloc | apply pw_below_drewN | apply below_drew1) | exact HB.out))); rintro e w51 ⟨v287, rfl, ho0, hb⟩; refine ⟨_, rfl, ?_⟩; have n0_ := Aside0.mk (Kd.R_lower ho0 (below_size (by repeat (first | (with_reducible first | exact HB.out | apply below_alloc | apply pw_below_drewN | apply below_drew1) | exact HB.out)))); have n1_ := Aside0.mk (below_step (by repeat (first | (with_reducible first | exact HB.out | apply below_alloc | apply pw_below_drewN | apply below_drew1) | exact HB.out)) hb); clear HB; have HO288 := n0_; have HB := n1_; clear n0_ n1_; (try clear hb); (try clear hb2); (try clear hk); (try clear hi); (try clear ho0)))
                                                  go_ret
                                                  exact ⟨by first | rfl | (simp [errW_none, errW_some] <;> rfl) | (simp [*, errW_none, errW_some] <;> rfl), by repeat (first | (with_reducible first | exact HB.out | apply below_alloc | apply pw_below_drewN | apply below_drew1) | exact HB.out)⟩
                                              · rw [if_neg c50] at H
                                                have c50b0 : (t285 == t270) = false := beq_eq_false_iff_ne.mpr c50
                                                have c50b1 : (t285 != t270) = true := bne_iff_ne.mpr c50
                                                exact absurd H (by simp)
                                        · rw [if_neg c44] at H
                                          exact absurd H (by simp)
                                      · rw [if_neg c43] at H
                                        exact absurd H (by simp)
                                    · rw [if_neg c42] at H
                                      exact absurd H (by simp)
                                  · rw [if_neg c40] at H
                                    have c40b0 : ((bt a0 x12_3) == 10) = false := beq_eq_false_iff_ne.mpr c40
                                    have c40b1 : ((bt a0 x12_3) != 10) = true := bne_iff_ne.mpr c40
                                    have H' := Aside0.mk H
                                    clear H
                                    have p25 : 0 ≤ (x12_3 : Int) := of_decide_eq_true (by first | (with_reducible assumption) | assumption)
                                    have q25 : x12_3 < (a0.size : Int) := of_decide_eq_true (by first | (with_reducible assumption) | assumption)
                                    have hx25 := bt_at a0 x12_3
                                    replace p25 := eq_true p25
                                    replace q25 := eq_true q25
                                    have p39 : 0 ≤ (x12_3 : Int) := of_decide_eq_true (by first | (with_reducible assumption) | assumption)
                                    have q39 : x12_3 < (a0.size : Int) := of_decide_eq_true (by first | (with_reducible assumption) | assumption)
                                    have hx39 := bt_at a0 x12_3
                                    replace p39 := eq_true p39
                                    replace q39 := eq_true q39
                                    go_wp2
                                    go_roundg k3
                                    case measure => have := HJ7.out; have := HJ14.out; have := HK3.out; omega
                                    case rel => exact ⟨(wrap64 (x12_3 + 1)), (by first | rfl | (simp; done) | (simp [*]; done)), H', ⟨by have := HJ7.out; have := HJ14.out; have := HK3.out; omega⟩, ⟨by repeat (first | (with_reducible first | exact HB.out | apply below_alloc | apply pw_below_drewN | apply below_drew1) | exact HB.out)⟩⟩
                              · rw [if_neg c24] at H
                                exact absurd H (by simp)
                            · rw [if_neg c23] at H
                              have c23b0 : decide (x12_3 < (a0.size : Int)) = false := decide_eq_false c23
                              clear c23
                              by_cases c53 : 0 ≤ x12_3
                              · rw [if_pos c53] at H
                                have c53b0 := eq_true c53
                                have c53b1 : decide (0 ≤ x12_3) = true := decide_eq_true c53
                                clear c53
                                by_cases c54 : x12_3 ≤ (a0.size : Int)
                                · rw [if_pos c54] at H
                                  have c54b0 := eq_true c54
                                  have c54b1 : decide (x12_3 ≤ (a0.size : Int)) = true := decide_eq_true c54
                                  clear c54
                                  by_cases c55 : (a0.extract 0 (x12_3 : Int).toNat).size + 1 ≤ 9223372036854775807
                                  · rw [if_pos c55] at H
                                    have c55b0 := eq_true c55
                                    have c55b1 : decide ((a0.extract 0 (x12_3 : Int).toNat).size + 1 ≤ 9223372036854775807) = true := decide_eq_true c55
                                    try have c55b2 : (9223372036854775807 < (a0.extract 0 (x12_3 : Int).toNat).size + 1) = False := eq_false (Nat.not_lt.2 c55)
                                    try have c55b3 : (9223372036854775807 < x12_3.toNat + 1) = False := eq_false (by have e_ := c55; have f_ : x12_3 ≤ (a0.size : Int) := of_decide_eq_true (by assumption); simp only [ByteArray.size_extract] at e_; omega)
                                    by_cases c56 : ((a0.extract 0 (x12_3 : Int).toNat) ++ (⟨#[32]⟩ : ByteArray)).size + a1.size ≤ 9223372036854775807
                                    · rw [if_pos c56] at H
                                      have c56b0 := eq_true c56
                                      have c56b1 : decide (((a0.extract 0 (x12_3 : Int).toNat) ++ (⟨#[32]⟩ : ByteArray)).size + a1.size ≤ 9223372036854775807) = true := decide_eq_true c56
                                      try have c56b2 : (9223372036854775807 < ((a0.extract 0 (x12_3 : Int).toNat) ++ (⟨#[32]⟩ : ByteArray)).size + a1.size) = False := eq_false (Nat.not_lt.2 c56)
                                      replace H := Option.bind_eq_some_iff.mp H
                                      obtain ⟨⟨t289, t290, t291⟩, A570, H⟩ := H
                                      replace H : (if t270 = 83 then (some true) else (if ((((a0.extract 0 (x12_3 : Int).toNat) ++ (⟨#[32]⟩ : ByteArray)) ++ a1).size : Int) > 8000 then (some true) else (if t290 = t270 then (some (t291 == t271)) else (none)))) = some r := H
                                      have A57 := Aside0.mk A570
                                      clear A570
                                      by_cases c58 : t270 = 83
                                      · rw [if_pos c58] at H
                                        have c58b0 : (t270 == 83) = true := beq_iff_eq.mpr c58
                                        have c58b1 : (t270 != 83) = false := bne_eq_false_iff_eq.mpr c58
                                        clear c58
                                        first
                                        | (simp at H; done)
                                        | obtain rfl := Option.some.inj H
                                          go_wp2_with (first | ((with_reducible refine gate_callee (f := 14) rfl ?_); refine goesL_ (some 95) rfl rfl Tryd.func14 (by kernel_rfl) rfl #[.string (((a0.extract 0 (x12_3 : Int).toNat) ++ (⟨#[32]⟩ : ByteArray)) ++ a1)] rfl (by (try simp only [List.map_toArray, List.map_cons, List.map_nil]); first | done | rfl | (simp only [List.length_drop, List.length_take]; rfl)) ?_; (with_reducible refine (lex_Scan.calls k3 (((a0.extract 0 (x12_3 : Int).toNat) ++ (⟨#[32]⟩ : ByteArray)) ++ a1) t289 t290 t291 _ ?side1 A57.out).mono ?_); (case side1 => exact Inv.below HI_.out (by repeat (first | (with_reducible first | exact HB.out | apply below_alloc | apply pw_below_drewN | apply below_drew1) | exact HB.out))); rintro e w59 ⟨v292, rfl, ho0, hb⟩; refine ⟨_, rfl, ?_⟩; have n0_ := Aside0.mk (Kd.R_lower ho0 (below_size (by repeat (first | (with_reducible first | exact HB.out | apply below_alloc | apply pw_below_drewN | apply below_drew1) | exact HB.out)))); have n1_ := Aside0.mk (below_step (by repeat (first | (with_reducible first | exact HB.out | apply below_alloc | apply pw_below_drewN | apply below_drew1) | exact HB.out)) hb); clear HB; have HO293 := n0_; have HB := n1_; clear n0_ n1_; (try clear hb); (try clear hb2); (try clear hk); (try clear hi); (try clear ho0)))
                                          go_ret
                                          exact ⟨by first | rfl | (simp [errW_none, errW_some] <;> rfl) | (simp [*, errW_none, errW_some] <;> rfl), by repeat (first | (with_reducible first | exact HB.out | apply below_alloc | apply pw_below_drewN | apply below_drew1) | exact HB.out)⟩
                                      · rw [if_neg c58] at H
                                        have c58b0 : (t270 == 83) = false := beq_eq_false_iff_ne.mpr c58
                                        have c58b1 : (t270 != 83) = true := bne_iff_ne.mpr c58
                                        by_cases c60 : ((((a0.extract 0 (x12_3 : Int).toNat) ++ (⟨#[32]⟩ : ByteArray)) ++ a1).size : Int) > 8000
                                        · rw [if_pos c60] at H
                                          have c60b0 : decide (8000 < ((((a0.extract 0 (x12_3 : Int).toNat) ++ (⟨#[32]⟩ : ByteArray)) ++ a1).size : Int)) = true := decide_eq_true c60
                                          have c60b1 : decide (8000 < (((a0.extract 0 (x12_3 : Int).toNat) ++ (⟨#[32]⟩ : ByteArray)) ++ a1).size) = true := decide_eq_true (by omega)
                                          have c60b5 : (8000 < max x12_3 0 + 1 + (a1.size : Int)) = True := eq_true (by have e_ := of_decide_eq_true c60b1; have f_ : x12_3 ≤ (a0.size : Int) := of_decide_eq_true (by assumption); have g_ : (⟨#[32]⟩ : ByteArray).size = 1 := rfl; simp only [ByteArray.size_append, ByteArray.size_extract] at e_; omega)
                                          clear c60
                                          first
                                          | (simp at H; done)
                                          | obtain rfl := Option.some.inj H
                                            go_wp2_with (first | ((with_reducible refine gate_callee (f := 14) rfl ?_); refine goesL_ (some 95) rfl rfl Tryd.func14 (by kernel_rfl) rfl #[.string (((a0.extract 0 (x12_3 : Int).toNat) ++ (⟨#[32]⟩ : ByteArray)) ++ a1)] rfl (by (try simp only [List.map_toArray, List.map_cons, List.map_nil]); first | done | rfl | (simp only [List.length_drop, List.length_take]; rfl)) ?_; (with_reducible refine (lex_Scan.calls k3 (((a0.extract 0 (x12_3 : Int).toNat) ++ (⟨#[32]⟩ : ByteArray)) ++ a1) t289 t290 t291 _ ?side1 A57.out).mono ?_); (case side1 => exact Inv.below HI_.out (by repeat (first | (with_reducible first | exact HB.out | apply below_alloc | apply pw_below_drewN | apply below_drew1) | exact HB.out))); rintro e w61 ⟨v292, rfl, ho0, hb⟩; refine ⟨_, rfl, ?_⟩; have n0_ := Aside0.mk (Kd.R_lower ho0 (below_size (by repeat (first | (with_reducible first | exact HB.out | apply below_alloc | apply pw_below_drewN | apply below_drew1) | exact HB.out)))); have n1_ := Aside0.mk (below_step (by repeat (first | (with_reducible first | exact HB.out | apply below_alloc | apply pw_below_drewN | apply below_drew1) | exact HB.out)) hb); clear HB; have HO293 := n0_; have HB := n1_; clear n0_ n1_; (try clear hb); (try clear hb2); (try clear hk); (try clear hi); (try clear ho0)))
                                            go_ret
                                            exact ⟨by first | rfl | (simp [errW_none, errW_some] <;> rfl) | (simp [*, errW_none, errW_some] <;> rfl), by repeat (first | (with_reducible first | exact HB.out | apply below_alloc | apply pw_below_drewN | apply below_drew1) | exact HB.out)⟩
                                        · rw [if_neg c60] at H
                                          have c60b0 : decide (8000 < ((((a0.extract 0 (x12_3 : Int).toNat) ++ (⟨#[32]⟩ : ByteArray)) ++ a1).size : Int)) = false := decide_eq_false c60
                                          have c60b1 : decide (8000 < (((a0.extract 0 (x12_3 : Int).toNat) ++ (⟨#[32]⟩ : ByteArray)) ++ a1).size) = false := decide_eq_false (by omega)
                                          have c60b5 : (8000 < max x12_3 0 + 1 + (a1.size : Int)) = False := eq_false (by have e_ := of_decide_eq_false c60b1; have f_ : x12_3 ≤ (a0.size : Int) := of_decide_eq_true (by assumption); have g_ : (⟨#[32]⟩ : ByteArray).size = 1 := rfl; simp only [ByteArray.size_append, ByteArray.size_extract] at e_; omega)
                                          clear c60
                                          by_cases c62 : t290 = t270
                                          · rw [if_pos c62] at H
                                            have c62b0 : (t290 == t270) = true := beq_iff_eq.mpr c62
                                            have c62b1 : (t290 != t270) = false := bne_eq_false_iff_eq.mpr c62
                                            clear c62
                                            first
                                            | (simp at H; done)
                                            | obtain rfl := Option.some.inj H
                                              go_wp2_with (first | ((with_reducible refine gate_callee (f := 14) rfl ?_); refine goesL_ (some 95) rfl rfl Tryd.func14 (by kernel_rfl) rfl #[.string (((a0.extract 0 (x12_3 : Int).toNat) ++ (⟨#[32]⟩ : ByteArray)) ++ a1)] rfl (by (try simp only [List.map_toArray, List.map_cons, List.map_nil]); first | done | rfl | (simp only [List.length_drop, List.length_take]; rfl)) ?_; (with_reducible refine (lex_Scan.calls k3 (((a0.extract 0 (x12_3 : Int).toNat) ++ (⟨#[32]⟩ : ByteArray)) ++ a1) t289 t290 t291 _ ?side1 A57.out).mono ?_); (case side1 => exact Inv.below HI_.out (by repeat (first | (with_reducible first | exact HB.out | apply below_alloc | apply pw_below_drewN | apply below_drew1) | exact HB.out))); rintro e w63 ⟨v292, rfl, ho0, hb⟩; refine ⟨_, rfl, ?_⟩; have n0_ := Aside0.mk (Kd.R_lower ho0 (below_size (by repeat (first | (with_reducible first | exact HB.out | apply below_alloc | apply pw_below_drewN | apply below_drew1) | exact HB.out)))); have n1_ := Aside0.mk (below_step (by repeat (first | (with_reducible first | exact HB.out | apply below_alloc | apply pw_below_drewN | apply below_drew1) | exact HB.out)) hb); clear HB; have HO293 := n0_; have HB := n1_; clear n0_ n1_; (try clear hb); (try clear hb2); (try clear hk); (try clear hi); (try clear ho0)))
                                              go_ret
                                              exact ⟨by first | rfl | (simp [errW_none, errW_some] <;> rfl) | (simp [*, errW_none, errW_some] <;> rfl), by repeat (first | (with_reducible first | exact HB.out | apply below_alloc | apply pw_below_drewN | apply below_drew1) | exact HB.out)⟩
                                          · rw [if_neg c62] at H
                                            have c62b0 : (t290 == t270) = false := beq_eq_false_iff_ne.mpr c62
                                            have c62b1 : (t290 != t270) = true := bne_iff_ne.mpr c62
                                            exact absurd H (by simp)
                                    · rw [if_neg c56] at H
                                      exact absurd H (by simp)
                                  · rw [if_neg c55] at H
                                    exact absurd H (by simp)
                                · rw [if_neg c54] at H
                                  exact absurd H (by simp)
                              · rw [if_neg c53] at H
                                exact absurd H (by simp)
                      · rw [if_neg c21] at H
                        have c21b0 : (t275 == 0) = false := beq_eq_false_iff_ne.mpr c21
                        have c21b1 : (t275 != 0) = true := bne_iff_ne.mpr c21
                        exact absurd H (by simp)
                    · rw [if_neg c19] at H
                      exact absurd H (by simp)
                  · rw [if_neg c18] at H
                    exact absurd H (by simp)

end Go.Proofs.YthllfnmebdjpfaaDoor.H

/- Contracts of Go functions as plain Lean functions, written by a program of this session (wip/hand) out of the translation. -/
import Derived.Test.YthllfnmebdjpfaaGreatDoorK4Hx0
import Derived.Test.YthllfnmebdjpfaaGreatDoorK4Hx1
import Derived.Test.YthllfnmebdjpfaaGreatDoorK4Hx2
import Derived.Test.YthllfnmebdjpfaaGreatDoorK4Hx6
namespace Go.Proofs.YthllfnmebdjpfaaGreatDoor.H
open Go.RowKit Go.Proofs.YthllfnmebdjpfaaGreatDoor.Hand Go.Proofs.YthllfnmebdjpfaaGreatDoorW.PrintWords Go.Proofs.YthllfnmebdjpfaaGreatDoorW.PrintLast Go.Proofs.YthllfnmebdjpfaaGreatDoorW.PrintMore
attribute [local go_sem] max2_int min2_int max_two min_two max_three min_three max_four min_four   -- for this text's walks alone
set_option linter.unusedVariables false
set_option linter.unusedSimpArgs false

attribute [local go_sem high] eqA38
def lychgatelaw08_awake.j0 : Nat → List (S38) → Bool → Option (Bool)
  | 0, _, _ => none
  | k + 1, x1, x59 => if x59 = true then (none) else (if 0 < (x1.length : Int) then (if (((rd_T38 x1 0).f0) == 1 && ((((rd_T38 x1 0).f1).toList) == ([108, 101, 116] : List UInt8) && (((rd_T38 x1 0).f2) == 0 && ((((rd_T38 x1 0).f3.f0) == 0 && (((rd_T38 x1 0).f3.f1) == 0)) && (((rd_T38 x1 0).f4) == 0))))) = true then (if 3 < (x1.length : Int) then (if (((rd_T38 x1 3).f0) == 6 && ((((rd_T38 x1 3).f1).toList) == ([120, 34, 121] : List UInt8) && (((rd_T38 x1 3).f2) == 0 && ((((rd_T38 x1 3).f3.f0) == 0 && (((rd_T38 x1 3).f3.f1) == 0)) && (((rd_T38 x1 3).f4) == 10))))) = true then (if 5 < (x1.length : Int) then (if (((rd_T38 x1 5).f0) == 8 && ((((rd_T38 x1 5).f1).toList) == ([] : List UInt8) && (((rd_T38 x1 5).f2) == 0 && ((((rd_T38 x1 5).f3.f0) == 0 && (((rd_T38 x1 5).f3.f1) == 0)) && (((rd_T38 x1 5).f4) == 21))))) = true then ((lex_IsName.f k (⟨#[97, 95, 45, 49]⟩ : ByteArray)).bind fun t209 => (if t209 = true then ((lex_IsName.f k (⟨#[119, 104, 101, 110]⟩ : ByteArray)).bind fun t210 => (if t210 = true then (none) else ((lex_IsWord.f k (⟨#[119, 104, 101, 110]⟩ : ByteArray)).bind fun t211 => (if t211 = true then ((lex_IsWord.f k (⟨#[97]⟩ : ByteArray)).bind fun t212 => (some (!t212))) else (none))))) else (none))) else (none)) else (none)) else (none)) else (none)) else (none)) else (none))
def lychgatelaw08_awake.f (k : Nat)  : Option (Bool) := (lex_Scan.f k (⟨#[108, 101, 116, 32, 97, 45, 49, 32, 61, 32, 34, 120, 92, 34, 121, 34, 59, 32, 35, 32, 122]⟩ : ByteArray)).bind fun bt192 => ((lex_Scan.f k (⟨#[97, 32, 34, 98]⟩ : ByteArray)).bind fun bt197 => ((lex_Quote.f k (⟨#[97, 34]⟩ : ByteArray)).bind fun bt202 => ((lex_Quote.f k (⟨#[10]⟩ : ByteArray)).bind fun bt204 => (if (bt192.1.length : Int) = 6 then (if bt192.2.1 = 0 then (if bt192.2.2 = 0 then (if bt197.2.1 = 83 then (if bt197.2.2 = 2 then (if bt202.1.toList = ([34, 97, 92, 34, 34] : List UInt8) then (if bt202.2 = 0 then (lychgatelaw08_awake.j0 k bt192.1 (bt204.2 != 1)) else (lychgatelaw08_awake.j0 k bt192.1 true)) else (lychgatelaw08_awake.j0 k bt192.1 true)) else (lychgatelaw08_awake.j0 k bt192.1 true)) else (lychgatelaw08_awake.j0 k bt192.1 true)) else (lychgatelaw08_awake.j0 k bt192.1 true)) else (lychgatelaw08_awake.j0 k bt192.1 true)) else (lychgatelaw08_awake.j0 k bt192.1 true)))))
theorem lychgatelaw08_awake.mono_l : ∀ k, (∀ y0 y1, LeO (lychgatelaw08_awake.j0 k y0 y1) (lychgatelaw08_awake.j0 (k + 1) y0 y1))
  | 0 => fun _ _ r h => by simp [lychgatelaw08_awake.j0] at h
  | k + 1 => by
    have ih0 := lychgatelaw08_awake.mono_l k
    · intro y0 y1
      unfold lychgatelaw08_awake.j0
      repeat' first
      | (with_reducible exact ih0 _ _)
      | (with_reducible exact lex_IsName.mono _ _)
      | (with_reducible exact lex_IsWord.mono _ _)
      | (with_reducible exact lex_Quote.mono _ _)
      | (with_reducible exact lex_Scan.mono _ _)
      | (with_reducible exact LeO.refl _)
      | (with_reducible exact LeO.none _)
      | (with_reducible refine LeO.ite ?_ ?_)
      | (with_reducible refine LeO.bind ?_ (fun _ => ?_))
      | exact ih0 _ _
      | exact lex_IsName.mono _ _
      | exact lex_IsWord.mono _ _
      | exact lex_Quote.mono _ _
      | exact lex_Scan.mono _ _
      | exact LeO.none _
      | refine LeO.ite ?_ ?_
      | refine LeO.bind ?_ (fun _ => ?_)
theorem lychgatelaw08_awake.mono : ∀ k, LeO (lychgatelaw08_awake.f k ) (lychgatelaw08_awake.f (k + 1) ) := by
  intro  k
  have ih0 := lychgatelaw08_awake.mono_l k
  unfold lychgatelaw08_awake.f
  repeat' first
      | (with_reducible exact ih0 _ _)
      | (with_reducible exact lex_IsName.mono _ _)
      | (with_reducible exact lex_IsWord.mono _ _)
      | (with_reducible exact lex_Quote.mono _ _)
      | (with_reducible exact lex_Scan.mono _ _)
      | (with_reducible exact LeO.refl _)
      | (with_reducible exact LeO.none _)
      | (with_reducible refine LeO.ite ?_ ?_)
      | (with_reducible refine LeO.bind ?_ (fun _ => ?_))
      | exact ih0 _ _
      | exact lex_IsName.mono _ _
      | exact lex_IsWord.mono _ _
      | exact lex_Quote.mono _ _
      | exact lex_Scan.mono _ _
      | exact LeO.none _
      | refine LeO.ite ?_ ?_
      | refine LeO.bind ?_ (fun _ => ?_)
set_option maxHeartbeats 8000000 in
set_option maxRecDepth 100000 in
theorem lychgatelaw08_awake.calls (k : Nat)  (r : Bool) (w : World) (hInv : Inv w) (h : lychgatelaw08_awake.f k  = some r) :
    Calls Tryz.prog 5 #[] w fun e w' => e = .returned (.bool r) ∧ Below w.heap.size w w' := by
  have hu38 := Tryz.underlying38
  have HB := Aside0.mk (Below.refl w.heap.size w)
  have HI_ := Aside0.mk hInv
  clear hInv
  have H : ((lex_Scan.f k (⟨#[108, 101, 116, 32, 97, 45, 49, 32, 61, 32, 34, 120, 92, 34, 121, 34, 59, 32, 35, 32, 122]⟩ : ByteArray)).bind fun bt192 => ((lex_Scan.f k (⟨#[97, 32, 34, 98]⟩ : ByteArray)).bind fun bt197 => ((lex_Quote.f k (⟨#[97, 34]⟩ : ByteArray)).bind fun bt202 => ((lex_Quote.f k (⟨#[10]⟩ : ByteArray)).bind fun bt204 => (if (bt192.1.length : Int) = 6 then (if bt192.2.1 = 0 then (if bt192.2.2 = 0 then (if bt197.2.1 = 83 then (if bt197.2.2 = 2 then (if bt202.1.toList = ([34, 97, 92, 34, 34] : List UInt8) then (if bt202.2 = 0 then (lychgatelaw08_awake.j0 k bt192.1 (bt204.2 != 1)) else (lychgatelaw08_awake.j0 k bt192.1 true)) else (lychgatelaw08_awake.j0 k bt192.1 true)) else (lychgatelaw08_awake.j0 k bt192.1 true)) else (lychgatelaw08_awake.j0 k bt192.1 true)) else (lychgatelaw08_awake.j0 k bt192.1 true)) else (lychgatelaw08_awake.j0 k bt192.1 true)) else (lychgatelaw08_awake.j0 k bt192.1 true)))))) = some r := h
  clear h
  replace H := Option.bind_eq_some_iff.mp H
  obtain ⟨⟨t192, t193, t194⟩, A10, H⟩ := H
  replace H : ((lex_Scan.f k (⟨#[97, 32, 34, 98]⟩ : ByteArray)).bind fun bt197 => ((lex_Quote.f k (⟨#[97, 34]⟩ : ByteArray)).bind fun bt202 => ((lex_Quote.f k (⟨#[10]⟩ : ByteArray)).bind fun bt204 => (if (t192.length : Int) = 6 then (if t193 = 0 then (if t194 = 0 then (if bt197.2.1 = 83 then (if bt197.2.2 = 2 then (if bt202.1.toList = ([34, 97, 92, 34, 34] : List UInt8) then (if bt202.2 = 0 then (lychgatelaw08_awake.j0 k t192 (bt204.2 != 1)) else (lychgatelaw08_awake.j0 k t192 true)) else (lychgatelaw08_awake.j0 k t192 true)) else (lychgatelaw08_awake.j0 k t192 true)) else (lychgatelaw08_awake.j0 k t192 true)) else (lychgatelaw08_awake.j0 k t192 true)) else (lychgatelaw08_awake.j0 k t192 true)) else (lychgatelaw08_awake.j0 k t192 true))))) = some r := H
  have A1 := Aside0.mk A10
  clear A10
  replace H := Option.bind_eq_some_iff.mp H
  obtain ⟨⟨t197, t198, t199⟩, A20, H⟩ := H
  replace H : ((lex_Quote.f k (⟨#[97, 34]⟩ : ByteArray)).bind fun bt202 => ((lex_Quote.f k (⟨#[10]⟩ : ByteArray)).bind fun bt204 => (if (t192.length : Int) = 6 then (if t193 = 0 then (if t194 = 0 then (if t198 = 83 then (if t199 = 2 then (if bt202.1.toList = ([34, 97, 92, 34, 34] : List UInt8) then (if bt202.2 = 0 then (lychgatelaw08_awake.j0 k t192 (bt204.2 != 1)) else (lychgatelaw08_awake.j0 k t192 true)) else (lychgatelaw08_awake.j0 k t192 true)) else (lychgatelaw08_awake.j0 k t192 true)) else (lychgatelaw08_awake.j0 k t192 true)) else (lychgatelaw08_awake.j0 k t192 true)) else (lychgatelaw08_awake.j0 k t192 true)) else (lychgatelaw08_awake.j0 k t192 true)))) = some r := H
  have A2 := Aside0.mk A20
  clear A20
  replace H := Option.bind_eq_some_iff.mp H
  obtain ⟨⟨t202, t203⟩, A30, H⟩ := H
  replace H : ((lex_Quote.f k (⟨#[10]⟩ : ByteArray)).bind fun bt204 => (if (t192.length : Int) = 6 then (if t193 = 0 then (if t194 = 0 then (if t198 = 83 then (if t199 = 2 then (if t202.toList = ([34, 97, 92, 34, 34] : List UInt8) then (if t203 = 0 then (lychgatelaw08_awake.j0 k t192 (bt204.2 != 1)) else (lychgatelaw08_awake.j0 k t192 true)) else (lychgatelaw08_awake.j0 k t192 true)) else (lychgatelaw08_awake.j0 k t192 true)) else (lychgatelaw08_awake.j0 k t192 true)) else (lychgatelaw08_awake.j0 k t192 true)) else (lychgatelaw08_awake.j0 k t192 true)) else (lychgatelaw08_awake.j0 k t192 true))) = some r := H
  have A3 := Aside0.mk A30
  clear A30
  replace H := Option.bind_eq_some_iff.mp H
  obtain ⟨⟨t204, t205⟩, A40, H⟩ := H
  replace H : (if (t192.length : Int) = 6 then (if t193 = 0 then (if t194 = 0 then (if t198 = 83 then (if t199 = 2 then (if t202.toList = ([34, 97, 92, 34, 34] : List UInt8) then (if t203 = 0 then (lychgatelaw08_awake.j0 k t192 (t205 != 1)) else (lychgatelaw08_awake.j0 k t192 true)) else (lychgatelaw08_awake.j0 k t192 true)) else (lychgatelaw08_awake.j0 k t192 true)) else (lychgatelaw08_awake.j0 k t192 true)) else (lychgatelaw08_awake.j0 k t192 true)) else (lychgatelaw08_awake.j0 k t192 true)) else (lychgatelaw08_awake.j0 k t192 true)) = some r := H
  have A4 := Aside0.mk A40
  clear A40
  have HC5 := Aside0.mk H
  clear H
  go_enter Tryz.func5, Tryz.ntmps5
  go_upto_region 5 with (first | ((with_reducible refine gate_callee (f := 6) rfl ?_); refine goesL_ (some 12) rfl rfl Tryz.func6 (by kernel_rfl) rfl #[.string (⟨#[108, 101, 116, 32, 97, 45, 49, 32, 61, 32, 34, 120, 92, 34, 121, 34, 59, 32, 35, 32, 122]⟩ : ByteArray)] rfl (by (try simp only [List.map_toArray, List.map_cons, List.map_nil]); first | done | rfl | (simp only [List.length_drop, List.length_take]; rfl)) ?_; (with_reducible refine (lex_Scan.calls k (⟨#[108, 101, 116, 32, 97, 45, 49, 32, 61, 32, 34, 120, 92, 34, 121, 34, 59, 32, 35, 32, 122]⟩ : ByteArray) t192 t193 t194 _ ?side1 A1.out).mono ?_); (case side1 => exact Inv.below HI_.out (by repeat (first | (with_reducible first | exact HB.out | apply below_alloc | apply pw_below_drewN | apply below_drew1) | exact HB.out))); rintro e w6 ⟨v195, rfl, ho0, hb⟩; refine ⟨_, rfl, ?_⟩; have n0_ := Aside0.mk (Kd.R_lower ho0 (below_size (by repeat (first | (with_reducible first | exact HB.out | apply below_alloc | apply pw_below_drewN | apply below_drew1) | exact HB.out)))); have n1_ := Aside0.mk (below_step (by repeat (first | (with_reducible first | exact HB.out | apply below_alloc | apply pw_below_drewN | apply below_drew1) | exact HB.out)) hb); clear HB; have HO196 := n0_; have HB := n1_; clear n0_ n1_; (try clear hb); (try clear hb2); (try clear hk); (try clear hi); (try clear ho0)) | ((with_reducible refine gate_callee (f := 6) rfl ?_); refine goesL_ (some 17) rfl rfl Tryz.func6 (by kernel_rfl) rfl #[.string (⟨#[97, 32, 34, 98]⟩ : ByteArray)] rfl (by (try simp only [List.map_toArray, List.map_cons, List.map_nil]); first | done | rfl | (simp only [List.length_drop, List.length_take]; rfl)) ?_; (with_reducible refine (lex_Scan.calls k (⟨#[97, 32, 34, 98]⟩ : ByteArray) t197 t198 t199 _ ?side1 A2.out).mono ?_); (case side1 => exact Inv.below HI_.out (by repeat (first | (with_reducible first | exact HB.out | apply below_alloc | apply pw_below_drewN | apply below_drew1) | exact HB.out))); rintro e w7 ⟨v200, rfl, ho0, hb⟩; refine ⟨_, rfl, ?_⟩; have n0_ := Aside0.mk (Kd.R_elder' (by (with_reducible repeat (first | apply Kd.R_alloc | apply Kd.R_drewN | apply Kd.R_drew)); exact HO196.out) (Kd.R_base ho0) hb); have n1_ := Aside0.mk (Kd.R_lower (Kd.R_new' ho0 (Kd.R_lt (by (with_reducible repeat (first | apply Kd.R_alloc | apply Kd.R_drewN | apply Kd.R_drew)); exact HO196.out))) (below_size (by repeat (first | (with_reducible first | exact HB.out | apply below_alloc | apply pw_below_drewN | apply below_drew1) | exact HB.out)))); have n2_ := Aside0.mk (below_step (by repeat (first | (with_reducible first | exact HB.out | apply below_alloc | apply pw_below_drewN | apply below_drew1) | exact HB.out)) hb); clear HO196; clear HB; have HO196 := n0_; have HO201 := n1_; have HB := n2_; clear n0_ n1_ n2_; (try clear hb); (try clear hb2); (try clear hk); (try clear hi); (try clear ho0)) | ((with_reducible refine gate_callee (f := 10) rfl ?_); refine goesL_ (some 22) rfl rfl Tryz.func10 (by kernel_rfl) rfl #[.string (⟨#[97, 34]⟩ : ByteArray)] rfl (by (try simp only [List.map_toArray, List.map_cons, List.map_nil]); first | done | rfl | (simp only [List.length_drop, List.length_take]; rfl)) ?_; (with_reducible refine (lex_Quote.calls k (⟨#[97, 34]⟩ : ByteArray) t202 t203 _ A3.out).mono ?_); rintro e w8 ⟨rfl, hb⟩; refine ⟨_, rfl, ?_⟩; have n0_ := Aside0.mk (Kd.R_below (by (with_reducible repeat (first | apply Kd.R_alloc | apply Kd.R_drewN | apply Kd.R_drew)); exact HO196.out) hb); have n1_ := Aside0.mk (Kd.R_below (by (with_reducible repeat (first | apply Kd.R_alloc | apply Kd.R_drewN | apply Kd.R_drew)); exact HO201.out) hb); have n2_ := Aside0.mk (below_step (by repeat (first | (with_reducible first | exact HB.out | apply below_alloc | apply pw_below_drewN | apply below_drew1) | exact HB.out)) hb); clear HO196; clear HO201; clear HB; have HO196 := n0_; have HO201 := n1_; have HB := n2_; clear n0_ n1_ n2_; (try clear hb); (try clear hb2); (try clear hk); (try clear hi)) | ((with_reducible refine gate_callee (f := 10) rfl ?_); refine goesL_ (some 26) rfl rfl Tryz.func10 (by kernel_rfl) rfl #[.string (⟨#[10]⟩ : ByteArray)] rfl (by (try simp only [List.map_toArray, List.map_cons, List.map_nil]); first | done | rfl | (simp only [List.length_drop, List.length_take]; rfl)) ?_; (with_reducible refine (lex_Quote.calls k (⟨#[10]⟩ : ByteArray) t204 t205 _ A4.out).mono ?_); rintro e w9 ⟨rfl, hb⟩; refine ⟨_, rfl, ?_⟩; have n0_ := Aside0.mk (Kd.R_below (by (with_reducible repeat (first | apply Kd.R_alloc | apply Kd.R_drewN | apply Kd.R_drew)); exact HO196.out) hb); have n1_ := Aside0.mk (Kd.R_below (by (with_reducible repeat (first | apply Kd.R_alloc | apply Kd.R_drewN | apply Kd.R_drew)); exact HO201.out) hb); have n2_ := Aside0.mk (below_step (by repeat (first | (with_reducible first | exact HB.out | apply below_alloc | apply pw_below_drewN | apply below_drew1) | exact HB.out)) hb); clear HO196; clear HO201; clear HB; have HO196 := n0_; have HO201 := n1_; have HB := n2_; clear n0_ n1_ n2_; (try clear hb); (try clear hb2); (try clear hk); (try clear hi)))
  (try simp only [Act.put, List.setIfInBounds_toArray, List.set_cons_zero, List.set_cons_succ])
  go_cut [59] (fun v59 wc => ∃ (kq : Nat) (x59_4 : Bool), v59 = .bool x59_4 ∧ Aside0 (lychgatelaw08_awake.j0 kq t192 x59_4 = some r) ∧ Aside0 (kq ≤ k) ∧ Aside0 (Kd.R k38 38 wc w.heap.size (fun _ => True) v195 t192) ∧ Aside0 (Below w.heap.size w wc))
  case first =>
    have H := HC5.out
    clear HC5
    by_cases c10 : (t192.length : Int) = 6
    · rw [if_pos c10] at H
      have c10b0 : ((t192.length : Int) == 6) = true := beq_iff_eq.mpr c10
      have c10b1 : ((t192.length : Int) != 6) = false := bne_eq_false_iff_eq.mpr c10
      clear c10
      (first | rw [c10b0] | (simp only [i64_w, i32_w]; rw [c10b0]) | skip)
      by_cases c11 : t193 = 0
      · rw [if_pos c11] at H
        have c11b0 : (t193 == 0) = true := beq_iff_eq.mpr c11
        have c11b1 : (t193 != 0) = false := bne_eq_false_iff_eq.mpr c11
        clear c11
        by_cases c12 : t194 = 0
        · rw [if_pos c12] at H
          have c12b0 : (t194 == 0) = true := beq_iff_eq.mpr c12
          have c12b1 : (t194 != 0) = false := bne_eq_false_iff_eq.mpr c12
          clear c12
          by_cases c13 : t198 = 83
          · rw [if_pos c13] at H
            have c13b0 : (t198 == 83) = true := beq_iff_eq.mpr c13
            have c13b1 : (t198 != 83) = false := bne_eq_false_iff_eq.mpr c13
            clear c13
            by_cases c14 : t199 = 2
            · rw [if_pos c14] at H
              have c14b0 : (t199 == 2) = true := beq_iff_eq.mpr c14
              have c14b1 : (t199 != 2) = false := bne_eq_false_iff_eq.mpr c14
              clear c14
              by_cases c15 : t202.toList = ([34, 97, 92, 34, 34] : List UInt8)
              · rw [if_pos c15] at H
                have c15b0 : (t202.toList == ([34, 97, 92, 34, 34] : List UInt8)) = true := beq_iff_eq.mpr c15
                have c15b1 : (t202.toList != ([34, 97, 92, 34, 34] : List UInt8)) = false := bne_eq_false_iff_eq.mpr c15
                clear c15
                by_cases c16 : t203 = 0
                · rw [if_pos c16] at H
                  have c16b0 : (t203 == 0) = true := beq_iff_eq.mpr c16
                  have c16b1 : (t203 != 0) = false := bne_eq_false_iff_eq.mpr c16
                  clear c16
                  have H' := Aside0.mk H
                  clear H
                  obtain ⟨Ao17, co17, eo17⟩ := Kd.R_slice HO196.out
                  subst eo17
                  go_wp2
                  go_meet
                  case rel => exact ⟨_, ((t205 != 1)), (by first | rfl | (simp; done) | (simp [*]; done)), H', ⟨by first | omega | exact Nat.le_refl _⟩, ⟨by (with_reducible repeat (first | apply Kd.R_alloc | apply Kd.R_drewN | apply Kd.R_drew)); exact Kd.R_mono HO196.out (fun _ hk => trivial)⟩, ⟨by repeat (first | (with_reducible first | exact HB.out | apply below_alloc | apply pw_below_drewN | apply below_drew1) | exact HB.out)⟩⟩
                · rw [if_neg c16] at H
                  have c16b0 : (t203 == 0) = false := beq_eq_false_iff_ne.mpr c16
                  have c16b1 : (t203 != 0) = true := bne_iff_ne.mpr c16
                  have H' := Aside0.mk H
                  clear H
                  obtain ⟨Ao18, co18, eo18⟩ := Kd.R_slice HO196.out
                  subst eo18
                  go_wp2
                  go_meet
                  case rel => exact ⟨_, (true), (by first | rfl | (simp; done) | (simp [*]; done)), H', ⟨by first | omega | exact Nat.le_refl _⟩, ⟨by (with_reducible repeat (first | apply Kd.R_alloc | apply Kd.R_drewN | apply Kd.R_drew)); exact Kd.R_mono HO196.out (fun _ hk => trivial)⟩, ⟨by repeat (first | (with_reducible first | exact HB.out | apply below_alloc | apply pw_below_drewN | apply below_drew1) | exact HB.out)⟩⟩
              · rw [if_neg c15] at H
                have c15b0 : (t202.toList == ([34, 97, 92, 34, 34] : List UInt8)) = false := beq_eq_false_iff_ne.mpr c15
                have c15b1 : (t202.toList != ([34, 97, 92, 34, 34] : List UInt8)) = true := bne_iff_ne.mpr c15
                have H' := Aside0.mk H
                clear H
                obtain ⟨Ao19, co19, eo19⟩ := Kd.R_slice HO196.out
                subst eo19
                go_wp2
                go_meet
                case rel => exact ⟨_, (true), (by first | rfl | (simp; done) | (simp [*]; done)), H', ⟨by first | omega | exact Nat.le_refl _⟩, ⟨by (with_reducible repeat (first | apply Kd.R_alloc | apply Kd.R_drewN | apply Kd.R_drew)); exact Kd.R_mono HO196.out (fun _ hk => trivial)⟩, ⟨by repeat (first | (with_reducible first | exact HB.out | apply below_alloc | apply pw_below_drewN | apply below_drew1) | exact HB.out)⟩⟩
            · rw [if_neg c14] at H
              have c14b0 : (t199 == 2) = false := beq_eq_false_iff_ne.mpr c14
              have c14b1 : (t199 != 2) = true := bne_iff_ne.mpr c14
              have H' := Aside0.mk H
              clear H
              obtain ⟨Ao20, co20, eo20⟩ := Kd.R_slice HO196.out
              subst eo20
              go_wp2
              go_meet
              case rel => exact ⟨_, (true), (by first | rfl | (simp; done) | (simp [*]; done)), H', ⟨by first | omega | exact Nat.le_refl _⟩, ⟨by (with_reducible repeat (first | apply Kd.R_alloc | apply Kd.R_drewN | apply Kd.R_drew)); exact Kd.R_mono HO196.out (fun _ hk => trivial)⟩, ⟨by repeat (first | (with_reducible first | exact HB.out | apply below_alloc | apply pw_below_drewN | apply below_drew1) | exact HB.out)⟩⟩
          · rw [if_neg c13] at H
            have c13b0 : (t198 == 83) = false := beq_eq_false_iff_ne.mpr c13
            have c13b1 : (t198 != 83) = true := bne_iff_ne.mpr c13
            have H' := Aside0.mk H
            clear H
            obtain ⟨Ao21, co21, eo21⟩ := Kd.R_slice HO196.out
            subst eo21
            go_wp2
            go_meet
            case rel => exact ⟨_, (true), (by first | rfl | (simp; done) | (simp [*]; done)), H', ⟨by first | omega | exact Nat.le_refl _⟩, ⟨by (with_reducible repeat (first | apply Kd.R_alloc | apply Kd.R_drewN | apply Kd.R_drew)); exact Kd.R_mono HO196.out (fun _ hk => trivial)⟩, ⟨by repeat (first | (with_reducible first | exact HB.out | apply below_alloc | apply pw_below_drewN | apply below_drew1) | exact HB.out)⟩⟩
        · rw [if_neg c12] at H
          have c12b0 : (t194 == 0) = false := beq_eq_false_iff_ne.mpr c12
          have c12b1 : (t194 != 0) = true := bne_iff_ne.mpr c12
          have H' := Aside0.mk H
          clear H
          obtain ⟨Ao22, co22, eo22⟩ := Kd.R_slice HO196.out
          subst eo22
          go_wp2
          go_meet
          case rel => exact ⟨_, (true), (by first | rfl | (simp; done) | (simp [*]; done)), H', ⟨by first | omega | exact Nat.le_refl _⟩, ⟨by (with_reducible repeat (first | apply Kd.R_alloc | apply Kd.R_drewN | apply Kd.R_drew)); exact Kd.R_mono HO196.out (fun _ hk => trivial)⟩, ⟨by repeat (first | (with_reducible first | exact HB.out | apply below_alloc | apply pw_below_drewN | apply below_drew1) | exact HB.out)⟩⟩
      · rw [if_neg c11] at H
        have c11b0 : (t193 == 0) = false := beq_eq_false_iff_ne.mpr c11
        have c11b1 : (t193 != 0) = true := bne_iff_ne.mpr c11
        have H' := Aside0.mk H
        clear H
        obtain ⟨Ao23, co23, eo23⟩ := Kd.R_slice HO196.out
        subst eo23
        go_wp2
        go_meet
        case rel => exact ⟨_, (true), (by first | rfl | (simp; done) | (simp [*]; done)), H', ⟨by first | omega | exact Nat.le_refl _⟩, ⟨by (with_reducible repeat (first | apply Kd.R_alloc | apply Kd.R_drewN | apply Kd.R_drew)); exact Kd.R_mono HO196.out (fun _ hk => trivial)⟩, ⟨by repeat (first | (with_reducible first | exact HB.out | apply below_alloc | apply pw_below_drewN | apply below_drew1) | exact HB.out)⟩⟩
    · rw [if_neg c10] at H
      have c10b0 : ((t192.length : Int) == 6) = false := beq_eq_false_iff_ne.mpr c10
      have c10b1 : ((t192.length : Int) != 6) = true := bne_iff_ne.mpr c10
      (first | rw [c10b0] | (simp only [i64_w, i32_w]; rw [c10b0]) | skip)
      have H' := Aside0.mk H
      clear H
      obtain ⟨Ao24, co24, eo24⟩ := Kd.R_slice HO196.out
      subst eo24
      go_wp2
      go_meet
      case rel => exact ⟨_, (true), (by first | rfl | (simp; done) | (simp [*]; done)), H', ⟨by first | omega | exact Nat.le_refl _⟩, ⟨by (with_reducible repeat (first | apply Kd.R_alloc | apply Kd.R_drewN | apply Kd.R_drew)); exact Kd.R_mono HO196.out (fun _ hk => trivial)⟩, ⟨by repeat (first | (with_reducible first | exact HB.out | apply below_alloc | apply pw_below_drewN | apply below_drew1) | exact HB.out)⟩⟩
  case rest =>
    clear HC5
    try clear c1
    try clear p2
    try clear c5
    try clear c6
    try clear c10
    try clear c10b0
    try clear c10b1
    try clear c11
    try clear c11b0
    try clear c11b1
    try clear c12
    try clear c12b0
    try clear c12b1
    try clear c13
    try clear c13b0
    try clear c13b1
    try clear c14
    try clear c14b0
    try clear c14b1
    try clear c15
    try clear c15b0
    try clear c15b1
    try clear c16
    try clear c16b0
    try clear c16b1
    obtain ⟨kq, x59_4, rfl, HA, HJ4, HO_1, HB⟩ := hcut
    cases kq with
    | zero => exact absurd HA.out (by simp [lychgatelaw08_awake.j0])
    | succ kj4 =>
      have H := HA.out
      clear HA
      simp only [lychgatelaw08_awake.j0] at H
      by_cases c25 : x59_4 = true
      · subst c25
        have H1 : (none) = some r := by rw [if_pos rfl] at H; exact H
        clear H
        have H := H1
        clear H1
        exact absurd H (by simp)
      · replace c25 := Bool.eq_false_iff.mpr c25
        subst c25
        have H1 : (if 0 < (t192.length : Int) then (if (((rd_T38 t192 0).f0) == 1 && ((((rd_T38 t192 0).f1).toList) == ([108, 101, 116] : List UInt8) && (((rd_T38 t192 0).f2) == 0 && ((((rd_T38 t192 0).f3.f0) == 0 && (((rd_T38 t192 0).f3.f1) == 0)) && (((rd_T38 t192 0).f4) == 0))))) = true then (if 3 < (t192.length : Int) then (if (((rd_T38 t192 3).f0) == 6 && ((((rd_T38 t192 3).f1).toList) == ([120, 34, 121] : List UInt8) && (((rd_T38 t192 3).f2) == 0 && ((((rd_T38 t192 3).f3.f0) == 0 && (((rd_T38 t192 3).f3.f1) == 0)) && (((rd_T38 t192 3).f4) == 10))))) = true then (if 5 < (t192.length : Int) then (if (((rd_T38 t192 5).f0) == 8 && ((((rd_T38 t192 5).f1).toList) == ([] : List UInt8) && (((rd_T38 t192 5).f2) == 0 && ((((rd_T38 t192 5).f3.f0) == 0 && (((rd_T38 t192 5).f3.f1) == 0)) && (((rd_T38 t192 5).f4) == 21))))) = true then ((lex_IsName.f kj4 (⟨#[97, 95, 45, 49]⟩ : ByteArray)).bind fun t209 => (if t209 = true then ((lex_IsName.f kj4 (⟨#[119, 104, 101, 110]⟩ : ByteArray)).bind fun t210 => (if t210 = true then (none) else ((lex_IsWord.f kj4 (⟨#[119, 104, 101, 110]⟩ : ByteArray)).bind fun t211 => (if t211 = true then ((lex_IsWord.f kj4 (⟨#[97]⟩ : ByteArray)).bind fun t212 => (some (!t212))) else (none))))) else (none))) else (none)) else (none)) else (none)) else (none)) else (none)) else (none)) = some r := by rw [if_neg (show ¬ (false = true) by decide)] at H; exact H
        clear H
        have H := H1
        clear H1
        by_cases c26 : 0 < (t192.length : Int)
        · rw [if_pos c26] at H
          have c26b0 : decide (0 < (t192.length : Int)) = true := decide_eq_true c26
          have c26b1 : decide (0 < t192.length) = true := decide_eq_true (by omega)
          clear c26
          by_cases c27 : (((rd_T38 t192 0).f0) == 1 && ((((rd_T38 t192 0).f1).toList) == ([108, 101, 116] : List UInt8) && (((rd_T38 t192 0).f2) == 0 && ((((rd_T38 t192 0).f3.f0) == 0 && (((rd_T38 t192 0).f3.f1) == 0)) && (((rd_T38 t192 0).f4) == 0))))) = true
          · rw [if_pos c27] at H
            have c27b0 : (((rd_T38 t192 0).f0) == 1 && ((((rd_T38 t192 0).f1).toList) == ([108, 101, 116] : List UInt8) && (((rd_T38 t192 0).f2) == 0 && ((((rd_T38 t192 0).f3.f0) == 0 && (((rd_T38 t192 0).f3.f1) == 0)) && (((rd_T38 t192 0).f4) == 0))))) = true := c27
            (try (have c27b1 : decide (((rd_T38 t192 0).f0) = 1 && ((((rd_T38 t192 0).f1).toList) == ([108, 101, 116] : List UInt8) && (((rd_T38 t192 0).f2) == 0 && ((((rd_T38 t192 0).f3.f0) == 0 && (((rd_T38 t192 0).f3.f1) == 0)) && (((rd_T38 t192 0).f4) == 0))))) = true := by simpa using c27))
            (try (have c27b2 : (((rd_T38 t192 0).f0) == 1 && ((((rd_T38 t192 0).f1).toList) == ([108, 101, 116] : List UInt8) && (((rd_T38 t192 0).f2) == 0 && ((((rd_T38 t192 0).f3.f0) == 0 && (((rd_T38 t192 0).f3.f1) == 0)) && (((rd_T38 t192 0).f4) == 0))))) = true := by simpa using c27))
            clear c27
            by_cases c28 : 3 < (t192.length : Int)
            · rw [if_pos c28] at H
              have c28b0 : decide (3 < (t192.length : Int)) = true := decide_eq_true c28
              have c28b1 : decide (3 < t192.length) = true := decide_eq_true (by omega)
              clear c28
              by_cases c29 : (((rd_T38 t192 3).f0) == 6 && ((((rd_T38 t192 3).f1).toList) == ([120, 34, 121] : List UInt8) && (((rd_T38 t192 3).f2) == 0 && ((((rd_T38 t192 3).f3.f0) == 0 && (((rd_T38 t192 3).f3.f1) == 0)) && (((rd_T38 t192 3).f4) == 10))))) = true
              · rw [if_pos c29] at H
                have c29b0 : (((rd_T38 t192 3).f0) == 6 && ((((rd_T38 t192 3).f1).toList) == ([120, 34, 121] : List UInt8) && (((rd_T38 t192 3).f2) == 0 && ((((rd_T38 t192 3).f3.f0) == 0 && (((rd_T38 t192 3).f3.f1) == 0)) && (((rd_T38 t192 3).f4) == 10))))) = true := c29
                (try (have c29b1 : decide (((rd_T38 t192 3).f0) = 6 && ((((rd_T38 t192 3).f1).toList) == ([120, 34, 121] : List UInt8) && (((rd_T38 t192 3).f2) == 0 && ((((rd_T38 t192 3).f3.f0) == 0 && (((rd_T38 t192 3).f3.f1) == 0)) && (((rd_T38 t192 3).f4) == 10))))) = true := by simpa using c29))
                (try (have c29b2 : (((rd_T38 t192 3).f0) == 6 && ((((rd_T38 t192 3).f1).toList) == ([120, 34, 121] : List UInt8) && (((rd_T38 t192 3).f2) == 0 && ((((rd_T38 t192 3).f3.f0) == 0 && (((rd_T38 t192 3).f3.f1) == 0)) && (((rd_T38 t192 3).f4) == 10))))) = true := by simpa using c29))
                clear c29
                by_cases c30 : 5 < (t192.length : Int)
                · rw [if_pos c30] at H
                  have c30b0 : decide (5 < (t192.length : Int)) = true := decide_eq_true c30
                  have c30b1 : decide (5 < t192.length) = true := decide_eq_true (by omega)
                  clear c30
                  by_cases c31 : (((rd_T38 t192 5).f0) == 8 && ((((rd_T38 t192 5).f1).toList) == ([] : List UInt8) && (((rd_T38 t192 5).f2) == 0 && ((((rd_T38 t192 5).f3.f0) == 0 && (((rd_T38 t192 5).f3.f1) == 0)) && (((rd_T38 t192 5).f4) == 21))))) = true
                  · rw [if_pos c31] at H
                    have c31b0 : (((rd_T38 t192 5).f0) == 8 && ((((rd_T38 t192 5).f1).toList) == ([] : List UInt8) && (((rd_T38 t192 5).f2) == 0 && ((((rd_T38 t192 5).f3.f0) == 0 && (((rd_T38 t192 5).f3.f1) == 0)) && (((rd_T38 t192 5).f4) == 21))))) = true := c31
                    (try (have c31b1 : decide (((rd_T38 t192 5).f0) = 8 && ((((rd_T38 t192 5).f1).toList) == ([] : List UInt8) && (((rd_T38 t192 5).f2) == 0 && ((((rd_T38 t192 5).f3.f0) == 0 && (((rd_T38 t192 5).f3.f1) == 0)) && (((rd_T38 t192 5).f4) == 21))))) = true := by simpa using c31))
                    (try (have c31b2 : (((rd_T38 t192 5).f0) == 8 && ((((rd_T38 t192 5).f1).toList) == ([] : List UInt8) && (((rd_T38 t192 5).f2) == 0 && ((((rd_T38 t192 5).f3.f0) == 0 && (((rd_T38 t192 5).f3.f1) == 0)) && (((rd_T38 t192 5).f4) == 21))))) = true := by simpa using c31))
                    clear c31
                    replace H := Option.bind_eq_some_iff.mp H
                    obtain ⟨t209, A320, H⟩ := H
                    replace H : (if t209 = true then ((lex_IsName.f kj4 (⟨#[119, 104, 101, 110]⟩ : ByteArray)).bind fun t210 => (if t210 = true then (none) else ((lex_IsWord.f kj4 (⟨#[119, 104, 101, 110]⟩ : ByteArray)).bind fun t211 => (if t211 = true then ((lex_IsWord.f kj4 (⟨#[97]⟩ : ByteArray)).bind fun t212 => (some (!t212))) else (none))))) else (none)) = some r := H
                    have A32 := Aside0.mk A320
                    clear A320
                    by_cases c33 : t209 = true
                    · subst c33
                      have H1 : ((lex_IsName.f kj4 (⟨#[119, 104, 101, 110]⟩ : ByteArray)).bind fun t210 => (if t210 = true then (none) else ((lex_IsWord.f kj4 (⟨#[119, 104, 101, 110]⟩ : ByteArray)).bind fun t211 => (if t211 = true then ((lex_IsWord.f kj4 (⟨#[97]⟩ : ByteArray)).bind fun t212 => (some (!t212))) else (none))))) = some r := by rw [if_pos rfl] at H; exact H
                      clear H
                      have H := H1
                      clear H1
                      replace H := Option.bind_eq_some_iff.mp H
                      obtain ⟨t210, A340, H⟩ := H
                      replace H : (if t210 = true then (none) else ((lex_IsWord.f kj4 (⟨#[119, 104, 101, 110]⟩ : ByteArray)).bind fun t211 => (if t211 = true then ((lex_IsWord.f kj4 (⟨#[97]⟩ : ByteArray)).bind fun t212 => (some (!t212))) else (none)))) = some r := H
                      have A34 := Aside0.mk A340
                      clear A340
                      by_cases c35 : t210 = true
                      · subst c35
                        have H1 : (none) = some r := by rw [if_pos rfl] at H; exact H
                        clear H
                        have H := H1
                        clear H1
                        exact absurd H (by simp)
                      · replace c35 := Bool.eq_false_iff.mpr c35
                        subst c35
                        have H1 : ((lex_IsWord.f kj4 (⟨#[119, 104, 101, 110]⟩ : ByteArray)).bind fun t211 => (if t211 = true then ((lex_IsWord.f kj4 (⟨#[97]⟩ : ByteArray)).bind fun t212 => (some (!t212))) else (none))) = some r := by rw [if_neg (show ¬ (false = true) by decide)] at H; exact H
                        clear H
                        have H := H1
                        clear H1
                        replace H := Option.bind_eq_some_iff.mp H
                        obtain ⟨t211, A390, H⟩ := H
                        replace H : (if t211 = true then ((lex_IsWord.f kj4 (⟨#[97]⟩ : ByteArray)).bind fun t212 => (some (!t212))) else (none)) = some r := H
                        have A39 := Aside0.mk A390
                        clear A390
                        by_cases c40 : t211 = true
                        · subst c40
                          have H1 : ((lex_IsWord.f kj4 (⟨#[97]⟩ : ByteArray)).bind fun t212 => (some (!t212))) = some r := by rw [if_pos rfl] at H; exact H
                          clear H
                          have H := H1
                          clear H1
                          replace H := Option.bind_eq_some_iff.mp H
                          obtain ⟨t212, A410, H⟩ := H
                          replace H : (some (!t212)) = some r := H
                          have A41 := Aside0.mk A410
                          clear A410
                          first
                          | (simp at H; done)
                          | obtain rfl := Option.some.inj H
                            obtain ⟨Ao42, co42, eo42⟩ := Kd.R_slice HO_1.out
                            subst eo42
                            have p206 : 0 ≤ (0 : Int) := (by omega)
                            have q206 : 0 < (t192.length : Int) := of_decide_eq_true (by first | (with_reducible assumption) | assumption)
                            obtain ⟨ad206, e206, hx206_0, hx206_1, hx206_2, hx206_3, hx206_4, hx206_5⟩ := at_T38 (Kd.R_reads' HO_1.out).2.2 0 p206 q206
                            cases e206
                            have qi206 : (0 < t192.length) = True := eq_true (by omega)
                            (try rw [show ((0 : Int)).toNat = 0 from rfl] at hx206_0)
                            (try rw [show 0 * 6 = 0 from rfl] at hx206_0)
                            (try rw [Addr.add_zero'] at hx206_0)
                            (try rw [show ((0 : Int)).toNat = 0 from rfl] at hx206_1)
                            (try rw [show 0 * 6 = 0 from rfl] at hx206_1)
                            (try rw [Addr.add_zero'] at hx206_1)
                            (try rw [show ((0 : Int)).toNat = 0 from rfl] at hx206_2)
                            (try rw [show 0 * 6 = 0 from rfl] at hx206_2)
                            (try rw [Addr.add_zero'] at hx206_2)
                            (try rw [show ((0 : Int)).toNat = 0 from rfl] at hx206_3)
                            (try rw [show 0 * 6 = 0 from rfl] at hx206_3)
                            (try rw [Addr.add_zero'] at hx206_3)
                            (try rw [show ((0 : Int)).toNat = 0 from rfl] at hx206_4)
                            (try rw [show 0 * 6 = 0 from rfl] at hx206_4)
                            (try rw [Addr.add_zero'] at hx206_4)
                            (try rw [show ((0 : Int)).toNat = 0 from rfl] at hx206_5)
                            (try rw [show 0 * 6 = 0 from rfl] at hx206_5)
                            (try rw [Addr.add_zero'] at hx206_5)
                            replace p206 := eq_true p206
                            replace q206 := eq_true q206
                            have p207 : 0 ≤ (3 : Int) := (by omega)
                            have q207 : 3 < (t192.length : Int) := of_decide_eq_true (by first | (with_reducible assumption) | assumption)
                            obtain ⟨ad207, e207, hx207_0, hx207_1, hx207_2, hx207_3, hx207_4, hx207_5⟩ := at_T38 (Kd.R_reads' HO_1.out).2.2 3 p207 q207
                            obtain rfl : ad206 = ad207 := (by injection e207)
                            (try simp only [show (3 : Int).toNat = 3 from rfl, Nat.reduceMul, Nat.reduceEqDiff, Go.Addr.add, ↓reduceIte] at hx207_0)
                            (try simp only [show (3 : Int).toNat = 3 from rfl, Nat.reduceMul, Nat.reduceEqDiff, Go.Addr.add, ↓reduceIte] at hx207_1)
                            (try simp only [show (3 : Int).toNat = 3 from rfl, Nat.reduceMul, Nat.reduceEqDiff, Go.Addr.add, ↓reduceIte] at hx207_2)
                            (try simp only [show (3 : Int).toNat = 3 from rfl, Nat.reduceMul, Nat.reduceEqDiff, Go.Addr.add, ↓reduceIte] at hx207_3)
                            (try simp only [show (3 : Int).toNat = 3 from rfl, Nat.reduceMul, Nat.reduceEqDiff, Go.Addr.add, ↓reduceIte] at hx207_4)
                            (try simp only [show (3 : Int).toNat = 3 from rfl, Nat.reduceMul, Nat.reduceEqDiff, Go.Addr.add, ↓reduceIte] at hx207_5)
                            have qi207 : (3 < t192.length) = True := eq_true (by omega)
                            (try rw [show ((3 : Int)).toNat = 3 from rfl] at hx207_0)
                            (try rw [show 3 * 6 = 18 from rfl] at hx207_0)
                            (try rw [show ((3 : Int)).toNat = 3 from rfl] at hx207_1)
                            (try rw [show 3 * 6 = 18 from rfl] at hx207_1)
                            (try rw [show ((3 : Int)).toNat = 3 from rfl] at hx207_2)
                            (try rw [show 3 * 6 = 18 from rfl] at hx207_2)
                            (try rw [show ((3 : Int)).toNat = 3 from rfl] at hx207_3)
                            (try rw [show 3 * 6 = 18 from rfl] at hx207_3)
                            (try rw [show ((3 : Int)).toNat = 3 from rfl] at hx207_4)
                            (try rw [show 3 * 6 = 18 from rfl] at hx207_4)
                            (try rw [show ((3 : Int)).toNat = 3 from rfl] at hx207_5)
                            (try rw [show 3 * 6 = 18 from rfl] at hx207_5)
                            replace p207 := eq_true p207
                            replace q207 := eq_true q207
                            have p208 : 0 ≤ (5 : Int) := (by omega)
                            have q208 : 5 < (t192.length : Int) := of_decide_eq_true (by first | (with_reducible assumption) | assumption)
                            obtain ⟨ad208, e208, hx208_0, hx208_1, hx208_2, hx208_3, hx208_4, hx208_5⟩ := at_T38 (Kd.R_reads' HO_1.out).2.2 5 p208 q208
                            obtain rfl : ad206 = ad208 := (by injection e208)
                            (try simp only [show (5 : Int).toNat = 5 from rfl, Nat.reduceMul, Nat.reduceEqDiff, Go.Addr.add, ↓reduceIte] at hx208_0)
                            (try simp only [show (5 : Int).toNat = 5 from rfl, Nat.reduceMul, Nat.reduceEqDiff, Go.Addr.add, ↓reduceIte] at hx208_1)
                            (try simp only [show (5 : Int).toNat = 5 from rfl, Nat.reduceMul, Nat.reduceEqDiff, Go.Addr.add, ↓reduceIte] at hx208_2)
                            (try simp only [show (5 : Int).toNat = 5 from rfl, Nat.reduceMul, Nat.reduceEqDiff, Go.Addr.add, ↓reduceIte] at hx208_3)
                            (try simp only [show (5 : Int).toNat = 5 from rfl, Nat.reduceMul, Nat.reduceEqDiff, Go.Addr.add, ↓reduceIte] at hx208_4)
                            (try simp only [show (5 : Int).toNat = 5 from rfl, Nat.reduceMul, Nat.reduceEqDiff, Go.Addr.add, ↓reduceIte] at hx208_5)
                            have qi208 : (5 < t192.length) = True := eq_true (by omega)
                            (try rw [show ((5 : Int)).toNat = 5 from rfl] at hx208_0)
                            (try rw [show 5 * 6 = 30 from rfl] at hx208_0)
                            (try rw [show ((5 : Int)).toNat = 5 from rfl] at hx208_1)
                            (try rw [show 5 * 6 = 30 from rfl] at hx208_1)
                            (try rw [show ((5 : Int)).toNat = 5 from rfl] at hx208_2)
                            (try rw [show 5 * 6 = 30 from rfl] at hx208_2)
                            (try rw [show ((5 : Int)).toNat = 5 from rfl] at hx208_3)
                            (try rw [show 5 * 6 = 30 from rfl] at hx208_3)
                            (try rw [show ((5 : Int)).toNat = 5 from rfl] at hx208_4)
                            (try rw [show 5 * 6 = 30 from rfl] at hx208_4)
                            (try rw [show ((5 : Int)).toNat = 5 from rfl] at hx208_5)
                            (try rw [show 5 * 6 = 30 from rfl] at hx208_5)
                            replace p208 := eq_true p208
                            replace q208 := eq_true q208
                            go_wp2_with (first | (go_at_call 11; (with_reducible refine (lex_IsName.calls kj4 (⟨#[97, 95, 45, 49]⟩ : ByteArray) true _ ?side1 A32.out).mono ?_); (case side1 => exact Inv.below HI_.out (by repeat (first | (with_reducible first | exact HB.out | apply below_alloc | apply pw_below_drewN | apply below_drew1) | exact HB.out))); rintro e w43 ⟨rfl, hb⟩; have n0_ := Aside0.mk (Kd.R_below (by (with_reducible repeat (first | apply Kd.R_alloc | apply Kd.R_drewN | apply Kd.R_drew)); exact HO_1.out) hb); have n1_ := Aside0.mk (below_step (by repeat (first | (with_reducible first | exact HB.out | apply below_alloc | apply pw_below_drewN | apply below_drew1) | exact HB.out)) hb); clear HO_1; clear HB; have HO_1 := n0_; have HB := n1_; clear n0_ n1_; (try clear hb); (try clear hb2); (try clear hk); (try clear hi)) | (go_at_call 11; (with_reducible refine (lex_IsName.calls kj4 (⟨#[119, 104, 101, 110]⟩ : ByteArray) false _ ?side1 A34.out).mono ?_); (case side1 => exact Inv.below HI_.out (by repeat (first | (with_reducible first | exact HB.out | apply below_alloc | apply pw_below_drewN | apply below_drew1) | exact HB.out))); rintro e w44 ⟨rfl, hb⟩; have n0_ := Aside0.mk (Kd.R_below (by (with_reducible repeat (first | apply Kd.R_alloc | apply Kd.R_drewN | apply Kd.R_drew)); exact HO_1.out) hb); have n1_ := Aside0.mk (below_step (by repeat (first | (with_reducible first | exact HB.out | apply below_alloc | apply pw_below_drewN | apply below_drew1) | exact HB.out)) hb); clear HO_1; clear HB; have HO_1 := n0_; have HB := n1_; clear n0_ n1_; (try clear hb); (try clear hb2); (try clear hk); (try clear hi)) | (go_at_call 12; (with_reducible refine (lex_IsWord.calls kj4 (⟨#[119, 104, 101, 110]⟩ : ByteArray) true _ ?side1 A39.out).mono ?_); (case side1 => exact Inv.below HI_.out (by repeat (first | (with_reducible first | exact HB.out | apply below_alloc | apply pw_below_drewN | apply below_drew1) | exact HB.out))); rintro e w45 ⟨rfl, hb⟩; have n0_ := Aside0.mk (Kd.R_below (by (with_reducible repeat (first | apply Kd.R_alloc | apply Kd.R_drewN | apply Kd.R_drew)); exact HO_1.out) hb); have n1_ := Aside0.mk (below_step (by repeat (first | (with_reducible first | exact HB.out | apply below_alloc | apply pw_below_drewN | apply below_drew1) | exact HB.out)) hb); clear HO_1; clear HB; have HO_1 := n0_; have HB := n1_; clear n0_ n1_; (try clear hb); (try clear hb2); (try clear hk); (try clear hi)) | (go_at_call 12; (with_reducible refine (lex_IsWord.calls kj4 (⟨#[97]⟩ : ByteArray) t212 _ ?side1 A41.out).mono ?_); (case side1 => exact Inv.below HI_.out (by repeat (first | (with_reducible first | exact HB.out | apply below_alloc | apply pw_below_drewN | apply below_drew1) | exact HB.out))); rintro e w46 ⟨rfl, hb⟩; have n0_ := Aside0.mk (Kd.R_below (by (with_reducible repeat (first | apply Kd.R_alloc | apply Kd.R_drewN | apply Kd.R_drew)); exact HO_1.out) hb); have n1_ := Aside0.mk (below_step (by repeat (first | (with_reducible first | exact HB.out | apply below_alloc | apply pw_below_drewN | apply below_drew1) | exact HB.out)) hb); clear HO_1; clear HB; have HO_1 := n0_; have HB := n1_; clear n0_ n1_; (try clear hb); (try clear hb2); (try clear hk); (try clear hi)))
                            go_ret
                            exact ⟨by first | rfl | (simp [errW_none, errW_some] <;> rfl) | (simp [*, errW_none, errW_some] <;> rfl), by repeat (first | (with_reducible first | exact HB.out | apply below_alloc | apply pw_below_drewN | apply below_drew1) | exact HB.out)⟩
                            all_goals (exfalso; rename_i hx_; first | (simp only [Bool.and_eq_true, beq_iff_eq] at c31b0; exact hx_ c31b0))
                        · replace c40 := Bool.eq_false_iff.mpr c40
                          subst c40
                          have H1 : (none) = some r := by rw [if_neg (show ¬ (false = true) by decide)] at H; exact H
                          clear H
                          have H := H1
                          clear H1
                          exact absurd H (by simp)
                    · replace c33 := Bool.eq_false_iff.mpr c33
                      subst c33
                      have H1 : (none) = some r := by rw [if_neg (show ¬ (false = true) by decide)] at H; exact H
                      clear H
                      have H := H1
                      clear H1
                      exact absurd H (by simp)
                  · rw [if_neg c31] at H
                    have c31b0 : (((rd_T38 t192 5).f0) == 8 && ((((rd_T38 t192 5).f1).toList) == ([] : List UInt8) && (((rd_T38 t192 5).f2) == 0 && ((((rd_T38 t192 5).f3.f0) == 0 && (((rd_T38 t192 5).f3.f1) == 0)) && (((rd_T38 t192 5).f4) == 21))))) = false := by simpa using c31
                    (try (have c31b1 : decide (((rd_T38 t192 5).f0) = 8 && ((((rd_T38 t192 5).f1).toList) == ([] : List UInt8) && (((rd_T38 t192 5).f2) == 0 && ((((rd_T38 t192 5).f3.f0) == 0 && (((rd_T38 t192 5).f3.f1) == 0)) && (((rd_T38 t192 5).f4) == 21))))) = false := by simpa using c31))
                    (try (have c31b2 : (((rd_T38 t192 5).f0) == 8 && ((((rd_T38 t192 5).f1).toList) == ([] : List UInt8) && (((rd_T38 t192 5).f2) == 0 && ((((rd_T38 t192 5).f3.f0) == 0 && (((rd_T38 t192 5).f3.f1) == 0)) && (((rd_T38 t192 5).f4) == 21))))) = false := by simpa using c31))
                    (try (have c31b3 : ¬ (((rd_T38 t192 5).f0) = 8 && ((((rd_T38 t192 5).f1).toList) == ([] : List UInt8) && (((rd_T38 t192 5).f2) == 0 && ((((rd_T38 t192 5).f3.f0) == 0 && (((rd_T38 t192 5).f3.f1) == 0)) && (((rd_T38 t192 5).f4) == 21))))) := by simpa using c31))
                    clear c31
                    exact absurd H (by simp)
                · rw [if_neg c30] at H
                  exact absurd H (by simp)
              · rw [if_neg c29] at H
                have c29b0 : (((rd_T38 t192 3).f0) == 6 && ((((rd_T38 t192 3).f1).toList) == ([120, 34, 121] : List UInt8) && (((rd_T38 t192 3).f2) == 0 && ((((rd_T38 t192 3).f3.f0) == 0 && (((rd_T38 t192 3).f3.f1) == 0)) && (((rd_T38 t192 3).f4) == 10))))) = false := by simpa using c29
                (try (have c29b1 : decide (((rd_T38 t192 3).f0) = 6 && ((((rd_T38 t192 3).f1).toList) == ([120, 34, 121] : List UInt8) && (((rd_T38 t192 3).f2) == 0 && ((((rd_T38 t192 3).f3.f0) == 0 && (((rd_T38 t192 3).f3.f1) == 0)) && (((rd_T38 t192 3).f4) == 10))))) = false := by simpa using c29))
                (try (have c29b2 : (((rd_T38 t192 3).f0) == 6 && ((((rd_T38 t192 3).f1).toList) == ([120, 34, 121] : List UInt8) && (((rd_T38 t192 3).f2) == 0 && ((((rd_T38 t192 3).f3.f0) == 0 && (((rd_T38 t192 3).f3.f1) == 0)) && (((rd_T38 t192 3).f4) == 10))))) = false := by simpa using c29))
                (try (have c29b3 : ¬ (((rd_T38 t192 3).f0) = 6 && ((((rd_T38 t192 3).f1).toList) == ([120, 34, 121] : List UInt8) && (((rd_T38 t192 3).f2) == 0 && ((((rd_T38 t192 3).f3.f0) == 0 && (((rd_T38 t192 3).f3.f1) == 0)) && (((rd_T38 t192 3).f4) == 10))))) := by simpa using c29))
                clear c29
                exact absurd H (by simp)
            · rw [if_neg c28] at H
              exact absurd H (by simp)
          · rw [if_neg c27] at H
            have c27b0 : (((rd_T38 t192 0).f0) == 1 && ((((rd_T38 t192 0).f1).toList) == ([108, 101, 116] : List UInt8) && (((rd_T38 t192 0).f2) == 0 && ((((rd_T38 t192 0).f3.f0) == 0 && (((rd_T38 t192 0).f3.f1) == 0)) && (((rd_T38 t192 0).f4) == 0))))) = false := by simpa using c27
            (try (have c27b1 : decide (((rd_T38 t192 0).f0) = 1 && ((((rd_T38 t192 0).f1).toList) == ([108, 101, 116] : List UInt8) && (((rd_T38 t192 0).f2) == 0 && ((((rd_T38 t192 0).f3.f0) == 0 && (((rd_T38 t192 0).f3.f1) == 0)) && (((rd_T38 t192 0).f4) == 0))))) = false := by simpa using c27))
            (try (have c27b2 : (((rd_T38 t192 0).f0) == 1 && ((((rd_T38 t192 0).f1).toList) == ([108, 101, 116] : List UInt8) && (((rd_T38 t192 0).f2) == 0 && ((((rd_T38 t192 0).f3.f0) == 0 && (((rd_T38 t192 0).f3.f1) == 0)) && (((rd_T38 t192 0).f4) == 0))))) = false := by simpa using c27))
            (try (have c27b3 : ¬ (((rd_T38 t192 0).f0) = 1 && ((((rd_T38 t192 0).f1).toList) == ([108, 101, 116] : List UInt8) && (((rd_T38 t192 0).f2) == 0 && ((((rd_T38 t192 0).f3.f0) == 0 && (((rd_T38 t192 0).f3.f1) == 0)) && (((rd_T38 t192 0).f4) == 0))))) := by simpa using c27))
            clear c27
            exact absurd H (by simp)
        · rw [if_neg c26] at H
          exact absurd H (by simp)

def lychgateref08_small.f (a0 : Int) : Option (Bool) := if a0 ≥ 97 then (some (decide (a0 ≤ 122))) else (some false)
set_option maxHeartbeats 8000000 in
set_option maxRecDepth 100000 in
theorem lychgateref08_small.calls (a0 : Int) (r : Bool) (w : World) (h : lychgateref08_small.f a0 = some r) :
    Calls Tryz.prog 21 #[.int .u8 a0] w fun e w' => e = .returned (.bool r) ∧ Drawn0 w w' := by
  have H : (if a0 ≥ 97 then (some (decide (a0 ≤ 122))) else (some false)) = some r := h
  clear h
  by_cases c2 : a0 ≥ 97
  · rw [if_pos c2] at H
    have c2b0 : decide (97 ≤ a0) = true := decide_eq_true c2
    clear c2
    obtain rfl := Option.some.inj H
    go_enter Tryz.func21, Tryz.ntmps21
    go_wp2
    go_ret
    exact ⟨by first | rfl | (simp; done) | (simp [*]; done), by repeat (first | exact Drawn0.refl _ | apply Drawn0.step)⟩
  · rw [if_neg c2] at H
    have c2b0 : decide (97 ≤ a0) = false := decide_eq_false c2
    clear c2
    obtain rfl := Option.some.inj H
    go_enter Tryz.func21, Tryz.ntmps21
    go_wp2
    go_ret
    exact ⟨by first | rfl | (simp; done) | (simp [*]; done), by repeat (first | exact Drawn0.refl _ | apply Drawn0.step)⟩

def lychgateref08_great.f (a0 : Int) : Option (Bool) := if a0 ≥ 65 then (some (decide (a0 ≤ 90))) else (some false)
set_option maxHeartbeats 8000000 in
set_option maxRecDepth 100000 in
theorem lychgateref08_great.calls (a0 : Int) (r : Bool) (w : World) (h : lychgateref08_great.f a0 = some r) :
    Calls Tryz.prog 22 #[.int .u8 a0] w fun e w' => e = .returned (.bool r) ∧ Drawn0 w w' := by
  have H : (if a0 ≥ 65 then (some (decide (a0 ≤ 90))) else (some false)) = some r := h
  clear h
  by_cases c2 : a0 ≥ 65
  · rw [if_pos c2] at H
    have c2b0 : decide (65 ≤ a0) = true := decide_eq_true c2
    clear c2
    obtain rfl := Option.some.inj H
    go_enter Tryz.func22, Tryz.ntmps22
    go_wp2
    go_ret
    exact ⟨by first | rfl | (simp; done) | (simp [*]; done), by repeat (first | exact Drawn0.refl _ | apply Drawn0.step)⟩
  · rw [if_neg c2] at H
    have c2b0 : decide (65 ≤ a0) = false := decide_eq_false c2
    clear c2
    obtain rfl := Option.some.inj H
    go_enter Tryz.func22, Tryz.ntmps22
    go_wp2
    go_ret
    exact ⟨by first | rfl | (simp; done) | (simp [*]; done), by repeat (first | exact Drawn0.refl _ | apply Drawn0.step)⟩

def lychgateref08_digit.f (a0 : Int) : Option (Bool) := if a0 ≥ 48 then (some (decide (a0 ≤ 57))) else (some false)
set_option maxHeartbeats 8000000 in
set_option maxRecDepth 100000 in
theorem lychgateref08_digit.calls (a0 : Int) (r : Bool) (w : World) (h : lychgateref08_digit.f a0 = some r) :
    Calls Tryz.prog 23 #[.int .u8 a0] w fun e w' => e = .returned (.bool r) ∧ Drawn0 w w' := by
  have H : (if a0 ≥ 48 then (some (decide (a0 ≤ 57))) else (some false)) = some r := h
  clear h
  by_cases c2 : a0 ≥ 48
  · rw [if_pos c2] at H
    have c2b0 : decide (48 ≤ a0) = true := decide_eq_true c2
    clear c2
    obtain rfl := Option.some.inj H
    go_enter Tryz.func23, Tryz.ntmps23
    go_wp2
    go_ret
    exact ⟨by first | rfl | (simp; done) | (simp [*]; done), by repeat (first | exact Drawn0.refl _ | apply Drawn0.step)⟩
  · rw [if_neg c2] at H
    have c2b0 : decide (48 ≤ a0) = false := decide_eq_false c2
    clear c2
    obtain rfl := Option.some.inj H
    go_enter Tryz.func23, Tryz.ntmps23
    go_wp2
    go_ret
    exact ⟨by first | rfl | (simp; done) | (simp [*]; done), by repeat (first | exact Drawn0.refl _ | apply Drawn0.step)⟩

def lychgateref08_within.f (a0 : Int) (a1 : Int) : Option (Bool) := (lychgateref08_small.f a1).bind fun t213 => ((lychgateref08_digit.f a1).bind fun t214 => ((lychgateref08_great.f a1).bind fun t215 => (if a0 = 1 then (if t213 = true then (some true) else (if t214 = true then (some true) else (if a1 = 95 then (some true) else (some (a1 == 45))))) else (if a0 = 2 then (some t215) else (if t214 = true then (some true) else (if a1 = 46 then (some true) else (some (a1 == 47))))))))
set_option maxHeartbeats 8000000 in
set_option maxRecDepth 100000 in
theorem lychgateref08_within.calls (a0 : Int) (a1 : Int) (r : Bool) (w : World) (h : lychgateref08_within.f a0 a1 = some r) :
    Calls Tryz.prog 40 #[.int .i64 a0, .int .u8 a1] w fun e w' => e = .returned (.bool r) ∧ Drawn0 w w' := by
  have H : ((lychgateref08_small.f a1).bind fun t213 => ((lychgateref08_digit.f a1).bind fun t214 => ((lychgateref08_great.f a1).bind fun t215 => (if a0 = 1 then (if t213 = true then (some true) else (if t214 = true then (some true) else (if a1 = 95 then (some true) else (some (a1 == 45))))) else (if a0 = 2 then (some t215) else (if t214 = true then (some true) else (if a1 = 46 then (some true) else (some (a1 == 47))))))))) = some r := h
  clear h
  replace H := Option.bind_eq_some_iff.mp H
  obtain ⟨t213, A30, H⟩ := H
  replace H : ((lychgateref08_digit.f a1).bind fun t214 => ((lychgateref08_great.f a1).bind fun t215 => (if a0 = 1 then (if t213 = true then (some true) else (if t214 = true then (some true) else (if a1 = 95 then (some true) else (some (a1 == 45))))) else (if a0 = 2 then (some t215) else (if t214 = true then (some true) else (if a1 = 46 then (some true) else (some (a1 == 47)))))))) = some r := H
  have A3 := Aside0.mk A30
  clear A30
  replace H := Option.bind_eq_some_iff.mp H
  obtain ⟨t214, A40, H⟩ := H
  replace H : ((lychgateref08_great.f a1).bind fun t215 => (if a0 = 1 then (if t213 = true then (some true) else (if t214 = true then (some true) else (if a1 = 95 then (some true) else (some (a1 == 45))))) else (if a0 = 2 then (some t215) else (if t214 = true then (some true) else (if a1 = 46 then (some true) else (some (a1 == 47))))))) = some r := H
  have A4 := Aside0.mk A40
  clear A40
  replace H := Option.bind_eq_some_iff.mp H
  obtain ⟨t215, A50, H⟩ := H
  replace H : (if a0 = 1 then (if t213 = true then (some true) else (if t214 = true then (some true) else (if a1 = 95 then (some true) else (some (a1 == 45))))) else (if a0 = 2 then (some t215) else (if t214 = true then (some true) else (if a1 = 46 then (some true) else (some (a1 == 47)))))) = some r := H
  have A5 := Aside0.mk A50
  clear A50
  by_cases c6 : a0 = 1
  · rw [if_pos c6] at H
    have c6b0 : (a0 == 1) = true := beq_iff_eq.mpr c6
    have c6b1 : (a0 != 1) = false := bne_eq_false_iff_eq.mpr c6
    clear c6
    by_cases c7 : t213 = true
    · subst c7
      have H1 : (some true) = some r := by rw [if_pos rfl] at H; exact H
      clear H
      have H := H1
      clear H1
      obtain rfl := Option.some.inj H
      go_enter Tryz.func40, Tryz.ntmps40
      go_wp2_with (first | ((with_reducible refine gate_callee (f := 21) rfl ?_); refine goesL_ (some 9) rfl rfl Tryz.func21 (by kernel_rfl) rfl #[.int .u8 a1] rfl (by (try simp only [List.map_toArray, List.map_cons, List.map_nil]); first | done | rfl | (simp only [List.length_drop, List.length_take]; rfl)) ?_; (with_reducible refine (lychgateref08_small.calls a1 true _ A3.out).mono ?_); rintro e w' ⟨rfl, ⟨nd, rfl⟩⟩; refine ⟨_, rfl, ?_⟩) | ((with_reducible refine gate_callee (f := 23) rfl ?_); refine goesL_ (some 11) rfl rfl Tryz.func23 (by kernel_rfl) rfl #[.int .u8 a1] rfl (by (try simp only [List.map_toArray, List.map_cons, List.map_nil]); first | done | rfl | (simp only [List.length_drop, List.length_take]; rfl)) ?_; (with_reducible refine (lychgateref08_digit.calls a1 t214 _ A4.out).mono ?_); rintro e w' ⟨rfl, ⟨nd, rfl⟩⟩; refine ⟨_, rfl, ?_⟩) | ((with_reducible refine gate_callee (f := 22) rfl ?_); refine goesL_ (some 13) rfl rfl Tryz.func22 (by kernel_rfl) rfl #[.int .u8 a1] rfl (by (try simp only [List.map_toArray, List.map_cons, List.map_nil]); first | done | rfl | (simp only [List.length_drop, List.length_take]; rfl)) ?_; (with_reducible refine (lychgateref08_great.calls a1 t215 _ A5.out).mono ?_); rintro e w' ⟨rfl, ⟨nd, rfl⟩⟩; refine ⟨_, rfl, ?_⟩))
      go_ret
      exact ⟨by first | rfl | (simp; done) | (simp [*]; done), by repeat (first | exact Drawn0.refl _ | apply Drawn0.step)⟩
    · replace c7 := Bool.eq_false_iff.mpr c7
      subst c7
      have H1 : (if t214 = true then (some true) else (if a1 = 95 then (some true) else (some (a1 == 45)))) = some r := by rw [if_neg (show ¬ (false = true) by decide)] at H; exact H
      clear H
      have H := H1
      clear H1
      by_cases c8 : t214 = true
      · subst c8
        have H1 : (some true) = some r := by rw [if_pos rfl] at H; exact H
        clear H
        have H := H1
        clear H1
        obtain rfl := Option.some.inj H
        go_enter Tryz.func40, Tryz.ntmps40
        go_wp2_with (first | ((with_reducible refine gate_callee (f := 21) rfl ?_); refine goesL_ (some 9) rfl rfl Tryz.func21 (by kernel_rfl) rfl #[.int .u8 a1] rfl (by (try simp only [List.map_toArray, List.map_cons, List.map_nil]); first | done | rfl | (simp only [List.length_drop, List.length_take]; rfl)) ?_; (with_reducible refine (lychgateref08_small.calls a1 false _ A3.out).mono ?_); rintro e w' ⟨rfl, ⟨nd, rfl⟩⟩; refine ⟨_, rfl, ?_⟩) | ((with_reducible refine gate_callee (f := 23) rfl ?_); refine goesL_ (some 11) rfl rfl Tryz.func23 (by kernel_rfl) rfl #[.int .u8 a1] rfl (by (try simp only [List.map_toArray, List.map_cons, List.map_nil]); first | done | rfl | (simp only [List.length_drop, List.length_take]; rfl)) ?_; (with_reducible refine (lychgateref08_digit.calls a1 true _ A4.out).mono ?_); rintro e w' ⟨rfl, ⟨nd, rfl⟩⟩; refine ⟨_, rfl, ?_⟩) | ((with_reducible refine gate_callee (f := 22) rfl ?_); refine goesL_ (some 13) rfl rfl Tryz.func22 (by kernel_rfl) rfl #[.int .u8 a1] rfl (by (try simp only [List.map_toArray, List.map_cons, List.map_nil]); first | done | rfl | (simp only [List.length_drop, List.length_take]; rfl)) ?_; (with_reducible refine (lychgateref08_great.calls a1 t215 _ A5.out).mono ?_); rintro e w' ⟨rfl, ⟨nd, rfl⟩⟩; refine ⟨_, rfl, ?_⟩))
        go_ret
        exact ⟨by first | rfl | (simp; done) | (simp [*]; done), by repeat (first | exact Drawn0.refl _ | apply Drawn0.step)⟩
      · replace c8 := Bool.eq_false_iff.mpr c8
        subst c8
        have H1 : (if a1 = 95 then (some true) else (some (a1 == 45))) = some r := by rw [if_neg (show ¬ (false = true) by decide)] at H; exact H
        clear H
        have H := H1
        clear H1
        by_cases c9 : a1 = 95
        · rw [if_pos c9] at H
          have c9b0 : (a1 == 95) = true := beq_iff_eq.mpr c9
          have c9b1 : (a1 != 95) = false := bne_eq_false_iff_eq.mpr c9
          clear c9
          obtain rfl := Option.some.inj H
          go_enter Tryz.func40, Tryz.ntmps40
          go_wp2_with (first | ((with_reducible refine gate_callee (f := 21) rfl ?_); refine goesL_ (some 9) rfl rfl Tryz.func21 (by kernel_rfl) rfl #[.int .u8 a1] rfl (by (try simp only [List.map_toArray, List.map_cons, List.map_nil]); first | done | rfl | (simp only [List.length_drop, List.length_take]; rfl)) ?_; (with_reducible refine (lychgateref08_small.calls a1 false _ A3.out).mono ?_); rintro e w' ⟨rfl, ⟨nd, rfl⟩⟩; refine ⟨_, rfl, ?_⟩) | ((with_reducible refine gate_callee (f := 23) rfl ?_); refine goesL_ (some 11) rfl rfl Tryz.func23 (by kernel_rfl) rfl #[.int .u8 a1] rfl (by (try simp only [List.map_toArray, List.map_cons, List.map_nil]); first | done | rfl | (simp only [List.length_drop, List.length_take]; rfl)) ?_; (with_reducible refine (lychgateref08_digit.calls a1 false _ A4.out).mono ?_); rintro e w' ⟨rfl, ⟨nd, rfl⟩⟩; refine ⟨_, rfl, ?_⟩) | ((with_reducible refine gate_callee (f := 22) rfl ?_); refine goesL_ (some 13) rfl rfl Tryz.func22 (by kernel_rfl) rfl #[.int .u8 a1] rfl (by (try simp only [List.map_toArray, List.map_cons, List.map_nil]); first | done | rfl | (simp only [List.length_drop, List.length_take]; rfl)) ?_; (with_reducible refine (lychgateref08_great.calls a1 t215 _ A5.out).mono ?_); rintro e w' ⟨rfl, ⟨nd, rfl⟩⟩; refine ⟨_, rfl, ?_⟩))
          go_ret
          exact ⟨by first | rfl | (simp; done) | (simp [*]; done), by repeat (first | exact Drawn0.refl _ | apply Drawn0.step)⟩
        · rw [if_neg c9] at H
          have c9b0 : (a1 == 95) = false := beq_eq_false_iff_ne.mpr c9
          have c9b1 : (a1 != 95) = true := bne_iff_ne.mpr c9
          obtain rfl := Option.some.inj H
          go_enter Tryz.func40, Tryz.ntmps40
          go_wp2_with (first | ((with_reducible refine gate_callee (f := 21) rfl ?_); refine goesL_ (some 9) rfl rfl Tryz.func21 (by kernel_rfl) rfl #[.int .u8 a1] rfl (by (try simp only [List.map_toArray, List.map_cons, List.map_nil]); first | done | rfl | (simp only [List.length_drop, List.length_take]; rfl)) ?_; (with_reducible refine (lychgateref08_small.calls a1 false _ A3.out).mono ?_); rintro e w' ⟨rfl, ⟨nd, rfl⟩⟩; refine ⟨_, rfl, ?_⟩) | ((with_reducible refine gate_callee (f := 23) rfl ?_); refine goesL_ (some 11) rfl rfl Tryz.func23 (by kernel_rfl) rfl #[.int .u8 a1] rfl (by (try simp only [List.map_toArray, List.map_cons, List.map_nil]); first | done | rfl | (simp only [List.length_drop, List.length_take]; rfl)) ?_; (with_reducible refine (lychgateref08_digit.calls a1 false _ A4.out).mono ?_); rintro e w' ⟨rfl, ⟨nd, rfl⟩⟩; refine ⟨_, rfl, ?_⟩) | ((with_reducible refine gate_callee (f := 22) rfl ?_); refine goesL_ (some 13) rfl rfl Tryz.func22 (by kernel_rfl) rfl #[.int .u8 a1] rfl (by (try simp only [List.map_toArray, List.map_cons, List.map_nil]); first | done | rfl | (simp only [List.length_drop, List.length_take]; rfl)) ?_; (with_reducible refine (lychgateref08_great.calls a1 t215 _ A5.out).mono ?_); rintro e w' ⟨rfl, ⟨nd, rfl⟩⟩; refine ⟨_, rfl, ?_⟩))
          go_ret
          exact ⟨by first | rfl | (simp; done) | (simp [*]; done), by repeat (first | exact Drawn0.refl _ | apply Drawn0.step)⟩
  · rw [if_neg c6] at H
    have c6b0 : (a0 == 1) = false := beq_eq_false_iff_ne.mpr c6
    have c6b1 : (a0 != 1) = true := bne_iff_ne.mpr c6
    by_cases c10 : a0 = 2
    · rw [if_pos c10] at H
      have c10b0 : (a0 == 2) = true := beq_iff_eq.mpr c10
      have c10b1 : (a0 != 2) = false := bne_eq_false_iff_eq.mpr c10
      clear c10
      obtain rfl := Option.some.inj H
      go_enter Tryz.func40, Tryz.ntmps40
      go_wp2_with (first | ((with_reducible refine gate_callee (f := 21) rfl ?_); refine goesL_ (some 9) rfl rfl Tryz.func21 (by kernel_rfl) rfl #[.int .u8 a1] rfl (by (try simp only [List.map_toArray, List.map_cons, List.map_nil]); first | done | rfl | (simp only [List.length_drop, List.length_take]; rfl)) ?_; (with_reducible refine (lychgateref08_small.calls a1 t213 _ A3.out).mono ?_); rintro e w' ⟨rfl, ⟨nd, rfl⟩⟩; refine ⟨_, rfl, ?_⟩) | ((with_reducible refine gate_callee (f := 23) rfl ?_); refine goesL_ (some 11) rfl rfl Tryz.func23 (by kernel_rfl) rfl #[.int .u8 a1] rfl (by (try simp only [List.map_toArray, List.map_cons, List.map_nil]); first | done | rfl | (simp only [List.length_drop, List.length_take]; rfl)) ?_; (with_reducible refine (lychgateref08_digit.calls a1 t214 _ A4.out).mono ?_); rintro e w' ⟨rfl, ⟨nd, rfl⟩⟩; refine ⟨_, rfl, ?_⟩) | ((with_reducible refine gate_callee (f := 22) rfl ?_); refine goesL_ (some 13) rfl rfl Tryz.func22 (by kernel_rfl) rfl #[.int .u8 a1] rfl (by (try simp only [List.map_toArray, List.map_cons, List.map_nil]); first | done | rfl | (simp only [List.length_drop, List.length_take]; rfl)) ?_; (with_reducible refine (lychgateref08_great.calls a1 t215 _ A5.out).mono ?_); rintro e w' ⟨rfl, ⟨nd, rfl⟩⟩; refine ⟨_, rfl, ?_⟩))
      go_ret
      exact ⟨by first | rfl | (simp; done) | (simp [*]; done), by repeat (first | exact Drawn0.refl _ | apply Drawn0.step)⟩
    · rw [if_neg c10] at H
      have c10b0 : (a0 == 2) = false := beq_eq_false_iff_ne.mpr c10
      have c10b1 : (a0 != 2) = true := bne_iff_ne.mpr c10
      by_cases c11 : t214 = true
      · subst c11
        have H1 : (some true) = some r := by rw [if_pos rfl] at H; exact H
        clear H
        have H := H1
        clear H1
        obtain rfl := Option.some.inj H
        go_enter Tryz.func40, Tryz.ntmps40
        go_wp2_with (first | ((with_reducible refine gate_callee (f := 21) rfl ?_); refine goesL_ (some 9) rfl rfl Tryz.func21 (by kernel_rfl) rfl #[.int .u8 a1] rfl (by (try simp only [List.map_toArray, List.map_cons, List.map_nil]); first | done | rfl | (simp only [List.length_drop, List.length_take]; rfl)) ?_; (with_reducible refine (lychgateref08_small.calls a1 t213 _ A3.out).mono ?_); rintro e w' ⟨rfl, ⟨nd, rfl⟩⟩; refine ⟨_, rfl, ?_⟩) | ((with_reducible refine gate_callee (f := 23) rfl ?_); refine goesL_ (some 11) rfl rfl Tryz.func23 (by kernel_rfl) rfl #[.int .u8 a1] rfl (by (try simp only [List.map_toArray, List.map_cons, List.map_nil]); first | done | rfl | (simp only [List.length_drop, List.length_take]; rfl)) ?_; (with_reducible refine (lychgateref08_digit.calls a1 true _ A4.out).mono ?_); rintro e w' ⟨rfl, ⟨nd, rfl⟩⟩; refine ⟨_, rfl, ?_⟩) | ((with_reducible refine gate_callee (f := 22) rfl ?_); refine goesL_ (some 13) rfl rfl Tryz.func22 (by kernel_rfl) rfl #[.int .u8 a1] rfl (by (try simp only [List.map_toArray, List.map_cons, List.map_nil]); first | done | rfl | (simp only [List.length_drop, List.length_take]; rfl)) ?_; (with_reducible refine (lychgateref08_great.calls a1 t215 _ A5.out).mono ?_); rintro e w' ⟨rfl, ⟨nd, rfl⟩⟩; refine ⟨_, rfl, ?_⟩))
        go_ret
        exact ⟨by first | rfl | (simp; done) | (simp [*]; done), by repeat (first | exact Drawn0.refl _ | apply Drawn0.step)⟩
      · replace c11 := Bool.eq_false_iff.mpr c11
        subst c11
        have H1 : (if a1 = 46 then (some true) else (some (a1 == 47))) = some r := by rw [if_neg (show ¬ (false = true) by decide)] at H; exact H
        clear H
        have H := H1
        clear H1
        by_cases c12 : a1 = 46
        · rw [if_pos c12] at H
          have c12b0 : (a1 == 46) = true := beq_iff_eq.mpr c12
          have c12b1 : (a1 != 46) = false := bne_eq_false_iff_eq.mpr c12
          clear c12
          obtain rfl := Option.some.inj H
          go_enter Tryz.func40, Tryz.ntmps40
          go_wp2_with (first | ((with_reducible refine gate_callee (f := 21) rfl ?_); refine goesL_ (some 9) rfl rfl Tryz.func21 (by kernel_rfl) rfl #[.int .u8 a1] rfl (by (try simp only [List.map_toArray, List.map_cons, List.map_nil]); first | done | rfl | (simp only [List.length_drop, List.length_take]; rfl)) ?_; (with_reducible refine (lychgateref08_small.calls a1 t213 _ A3.out).mono ?_); rintro e w' ⟨rfl, ⟨nd, rfl⟩⟩; refine ⟨_, rfl, ?_⟩) | ((with_reducible refine gate_callee (f := 23) rfl ?_); refine goesL_ (some 11) rfl rfl Tryz.func23 (by kernel_rfl) rfl #[.int .u8 a1] rfl (by (try simp only [List.map_toArray, List.map_cons, List.map_nil]); first | done | rfl | (simp only [List.length_drop, List.length_take]; rfl)) ?_; (with_reducible refine (lychgateref08_digit.calls a1 false _ A4.out).mono ?_); rintro e w' ⟨rfl, ⟨nd, rfl⟩⟩; refine ⟨_, rfl, ?_⟩) | ((with_reducible refine gate_callee (f := 22) rfl ?_); refine goesL_ (some 13) rfl rfl Tryz.func22 (by kernel_rfl) rfl #[.int .u8 a1] rfl (by (try simp only [List.map_toArray, List.map_cons, List.map_nil]); first | done | rfl | (simp only [List.length_drop, List.length_take]; rfl)) ?_; (with_reducible refine (lychgateref08_great.calls a1 t215 _ A5.out).mono ?_); rintro e w' ⟨rfl, ⟨nd, rfl⟩⟩; refine ⟨_, rfl, ?_⟩))
          go_ret
          exact ⟨by first | rfl | (simp; done) | (simp [*]; done), by repeat (first | exact Drawn0.refl _ | apply Drawn0.step)⟩
        · rw [if_neg c12] at H
          have c12b0 : (a1 == 46) = false := beq_eq_false_iff_ne.mpr c12
          have c12b1 : (a1 != 46) = true := bne_iff_ne.mpr c12
          obtain rfl := Option.some.inj H
          go_enter Tryz.func40, Tryz.ntmps40
          go_wp2_with (first | ((with_reducible refine gate_callee (f := 21) rfl ?_); refine goesL_ (some 9) rfl rfl Tryz.func21 (by kernel_rfl) rfl #[.int .u8 a1] rfl (by (try simp only [List.map_toArray, List.map_cons, List.map_nil]); first | done | rfl | (simp only [List.length_drop, List.length_take]; rfl)) ?_; (with_reducible refine (lychgateref08_small.calls a1 t213 _ A3.out).mono ?_); rintro e w' ⟨rfl, ⟨nd, rfl⟩⟩; refine ⟨_, rfl, ?_⟩) | ((with_reducible refine gate_callee (f := 23) rfl ?_); refine goesL_ (some 11) rfl rfl Tryz.func23 (by kernel_rfl) rfl #[.int .u8 a1] rfl (by (try simp only [List.map_toArray, List.map_cons, List.map_nil]); first | done | rfl | (simp only [List.length_drop, List.length_take]; rfl)) ?_; (with_reducible refine (lychgateref08_digit.calls a1 false _ A4.out).mono ?_); rintro e w' ⟨rfl, ⟨nd, rfl⟩⟩; refine ⟨_, rfl, ?_⟩) | ((with_reducible refine gate_callee (f := 22) rfl ?_); refine goesL_ (some 13) rfl rfl Tryz.func22 (by kernel_rfl) rfl #[.int .u8 a1] rfl (by (try simp only [List.map_toArray, List.map_cons, List.map_nil]); first | done | rfl | (simp only [List.length_drop, List.length_take]; rfl)) ?_; (with_reducible refine (lychgateref08_great.calls a1 t215 _ A5.out).mono ?_); rintro e w' ⟨rfl, ⟨nd, rfl⟩⟩; refine ⟨_, rfl, ?_⟩))
          go_ret
          exact ⟨by first | rfl | (simp; done) | (simp [*]; done), by repeat (first | exact Drawn0.refl _ | apply Drawn0.step)⟩

def lychgateref08_run.l0 : Nat → Int → ByteArray → Int → Option (Int)
  | 0, _, _, _ => none
  | k + 1, x0, x1, x2 => if x2 < (x1.size : Int) then (if 0 ≤ x2 then ((lychgateref08_within.f x0 (bt x1 x2)).bind fun t216 => (if t216 = true then (lychgateref08_run.l0 k x0 x1 (wrap64 (x2 + 1))) else (some x2))) else (none)) else (some x2)
def lychgateref08_run.f (k : Nat) (a0 : Int) (a1 : ByteArray) (a2 : Int) : Option (Int) := lychgateref08_run.l0 k a0 a1 a2
set_option maxHeartbeats 8000000 in
set_option maxRecDepth 100000 in
theorem lychgateref08_run.calls (k : Nat) (a0 : Int) (a1 : ByteArray) (a2 : Int) (r : Int) (w : World) (h : lychgateref08_run.f k a0 a1 a2 = some r) :
    Calls Tryz.prog 24 #[.int .i64 a0, .string a1, .int .i64 a2] w fun e w' => e = .returned (.int .i64 r) ∧ Drawn0 w w' := by
  have H : (lychgateref08_run.l0 k a0 a1 a2) = some r := h
  clear h
  have H' := Aside0.mk H
  clear H
  go_enter Tryz.func24, Tryz.ntmps24
  go_wp2
  go_loopg [2] k (fun kq v2 w' => ∃ (x2_1 : Int), v2 = .int .i64 x2_1 ∧ Aside0 (lychgateref08_run.l0 kq a0 a1 x2_1 = some r) ∧ Aside0 (kq ≤ k) ∧ Drawn0 w w')
  case atStart => exact ⟨(a2), (by first | rfl | (simp; done) | (simp [*]; done)), H', ⟨Nat.le_refl _⟩, by repeat (first | exact Drawn0.refl _ | apply Drawn0.step)⟩
  case round =>
    clear H'
    try clear c2
    try clear p2
    obtain ⟨x2_1, rfl, HA, HK1, ⟨m1, rfl⟩⟩ := hrel
    cases gk with
    | zero => exact absurd HA.out (by simp [lychgateref08_run.l0])
    | succ k1 =>
      have H := HA.out
      clear HA
      simp only [lychgateref08_run.l0] at H
      by_cases c4 : x2_1 < (a1.size : Int)
      · rw [if_pos c4] at H
        have c4b0 : decide (x2_1 < (a1.size : Int)) = true := decide_eq_true c4
        clear c4
        by_cases c5 : 0 ≤ x2_1
        · rw [if_pos c5] at H
          have c5b0 : decide (0 ≤ x2_1) = true := decide_eq_true c5
          clear c5
          replace H := Option.bind_eq_some_iff.mp H
          obtain ⟨t216, A70, H⟩ := H
          replace H : (if t216 = true then (lychgateref08_run.l0 k1 a0 a1 (wrap64 (x2_1 + 1))) else (some x2_1)) = some r := H
          have A7 := Aside0.mk A70
          clear A70
          by_cases c8 : t216 = true
          · subst c8
            have H1 : (lychgateref08_run.l0 k1 a0 a1 (wrap64 (x2_1 + 1))) = some r := by rw [if_pos rfl] at H; exact H
            clear H
            have H := H1
            clear H1
            have H' := Aside0.mk H
            clear H
            have p6 : 0 ≤ (x2_1 : Int) := of_decide_eq_true (by first | (with_reducible assumption) | assumption)
            have q6 : x2_1 < (a1.size : Int) := of_decide_eq_true (by first | (with_reducible assumption) | assumption)
            have hx6 := bt_at a1 x2_1
            replace p6 := eq_true p6
            replace q6 := eq_true q6
            go_wp2_with (first | ((with_reducible refine gate_callee (f := 40) rfl ?_); refine goesL_ (some 16) rfl rfl Tryz.func40 (by kernel_rfl) rfl #[.int .i64 a0, .int .u8 (bt a1 x2_1)] rfl (by (try simp only [List.map_toArray, List.map_cons, List.map_nil]); first | done | rfl | (simp only [List.length_drop, List.length_take]; rfl)) ?_; (with_reducible refine (lychgateref08_within.calls a0 (bt a1 x2_1) true _ A7.out).mono ?_); rintro e w' ⟨rfl, ⟨nd, rfl⟩⟩; refine ⟨_, rfl, ?_⟩))
            go_roundg k1
            case measure => have := HK1.out; omega
            case rel => exact ⟨(wrap64 (x2_1 + 1)), (by first | rfl | (simp; done) | (simp [*]; done)), H', ⟨by have := HK1.out; omega⟩, by repeat (first | exact Drawn0.refl _ | apply Drawn0.step)⟩
          · replace c8 := Bool.eq_false_iff.mpr c8
            subst c8
            have H1 : (some x2_1) = some r := by rw [if_neg (show ¬ (false = true) by decide)] at H; exact H
            clear H
            have H := H1
            clear H1
            obtain rfl := Option.some.inj H
            have p6 : 0 ≤ (x2_1 : Int) := of_decide_eq_true (by first | (with_reducible assumption) | assumption)
            have q6 : x2_1 < (a1.size : Int) := of_decide_eq_true (by first | (with_reducible assumption) | assumption)
            have hx6 := bt_at a1 x2_1
            replace p6 := eq_true p6
            replace q6 := eq_true q6
            go_wp2_with (first | ((with_reducible refine gate_callee (f := 40) rfl ?_); refine goesL_ (some 16) rfl rfl Tryz.func40 (by kernel_rfl) rfl #[.int .i64 a0, .int .u8 (bt a1 x2_1)] rfl (by (try simp only [List.map_toArray, List.map_cons, List.map_nil]); first | done | rfl | (simp only [List.length_drop, List.length_take]; rfl)) ?_; (with_reducible refine (lychgateref08_within.calls a0 (bt a1 x2_1) false _ A7.out).mono ?_); rintro e w' ⟨rfl, ⟨nd, rfl⟩⟩; refine ⟨_, rfl, ?_⟩))
            go_ret
            exact ⟨by first | rfl | (simp; done) | (simp [*]; done), by repeat (first | exact Drawn0.refl _ | apply Drawn0.step)⟩
        · rw [if_neg c5] at H
          exact absurd H (by simp)
      · rw [if_neg c4] at H
        have c4b0 : decide (x2_1 < (a1.size : Int)) = false := decide_eq_false c4
        clear c4
        obtain rfl := Option.some.inj H
        go_wp2
        go_ret
        exact ⟨by first | rfl | (simp; done) | (simp [*]; done), by repeat (first | exact Drawn0.refl _ | apply Drawn0.step)⟩

def lychgateref08_words.f  : Option (List ByteArray) := some (([(⟨#[108, 101, 116]⟩ : ByteArray), (⟨#[97, 108, 108, 111, 119]⟩ : ByteArray), (⟨#[100, 101, 110, 121]⟩ : ByteArray), (⟨#[119, 104, 101, 110]⟩ : ByteArray), (⟨#[97, 110, 100]⟩ : ByteArray), (⟨#[111, 114]⟩ : ByteArray), (⟨#[110, 111, 116]⟩ : ByteArray), (⟨#[116, 114, 117, 101]⟩ : ByteArray), (⟨#[102, 97, 108, 115, 101]⟩ : ByteArray), (⟨#[105, 110]⟩ : ByteArray), (⟨#[97, 100, 100, 114]⟩ : ByteArray), (⟨#[112, 111, 114, 116]⟩ : ByteArray), (⟨#[109, 101, 116, 104, 111, 100]⟩ : ByteArray), (⟨#[112, 97, 116, 104]⟩ : ByteArray), (⟨#[104, 101, 97, 100, 101, 114]⟩ : ByteArray), (⟨#[104, 97, 115]⟩ : ByteArray)] : List ByteArray))
set_option maxHeartbeats 8000000 in
set_option maxRecDepth 100000 in
theorem lychgateref08_words.calls  (r : List ByteArray) (w : World) (h : lychgateref08_words.f  = some r) :
    Calls Tryz.prog 41 #[] w fun e w' => ∃ v0_ : Value, e = .returned (v0_) ∧ Kd.R Kd.string 9 w' w.heap.size (fun _ => True) v0_ r ∧ Below w.heap.size w w' := by
  have HB := Aside0.mk (Below.refl w.heap.size w)
  have H : (some (([(⟨#[108, 101, 116]⟩ : ByteArray), (⟨#[97, 108, 108, 111, 119]⟩ : ByteArray), (⟨#[100, 101, 110, 121]⟩ : ByteArray), (⟨#[119, 104, 101, 110]⟩ : ByteArray), (⟨#[97, 110, 100]⟩ : ByteArray), (⟨#[111, 114]⟩ : ByteArray), (⟨#[110, 111, 116]⟩ : ByteArray), (⟨#[116, 114, 117, 101]⟩ : ByteArray), (⟨#[102, 97, 108, 115, 101]⟩ : ByteArray), (⟨#[105, 110]⟩ : ByteArray), (⟨#[97, 100, 100, 114]⟩ : ByteArray), (⟨#[112, 111, 114, 116]⟩ : ByteArray), (⟨#[109, 101, 116, 104, 111, 100]⟩ : ByteArray), (⟨#[112, 97, 116, 104]⟩ : ByteArray), (⟨#[104, 101, 97, 100, 101, 114]⟩ : ByteArray), (⟨#[104, 97, 115]⟩ : ByteArray)] : List ByteArray))) = some r := h
  clear h
  obtain ⟨y217, hy217⟩ : ∃ y_ : List ByteArray, y_ = (([(⟨#[108, 101, 116]⟩ : ByteArray), (⟨#[97, 108, 108, 111, 119]⟩ : ByteArray), (⟨#[100, 101, 110, 121]⟩ : ByteArray), (⟨#[119, 104, 101, 110]⟩ : ByteArray), (⟨#[97, 110, 100]⟩ : ByteArray), (⟨#[111, 114]⟩ : ByteArray), (⟨#[110, 111, 116]⟩ : ByteArray), (⟨#[116, 114, 117, 101]⟩ : ByteArray), (⟨#[102, 97, 108, 115, 101]⟩ : ByteArray), (⟨#[105, 110]⟩ : ByteArray), (⟨#[97, 100, 100, 114]⟩ : ByteArray), (⟨#[112, 111, 114, 116]⟩ : ByteArray), (⟨#[109, 101, 116, 104, 111, 100]⟩ : ByteArray), (⟨#[112, 97, 116, 104]⟩ : ByteArray), (⟨#[104, 101, 97, 100, 101, 114]⟩ : ByteArray), (⟨#[104, 97, 115]⟩ : ByteArray)] : List ByteArray)) := ⟨_, rfl⟩
  replace H : (some y217) = some r := by first | (rw [hy217]; with_reducible exact H) | (have H2_ := (Option.bind_some _ _).symm.trans H; rw [hy217]; with_reducible exact H2_) | (have H2_ := (Option.bind_some _ _).symm.trans H; with_reducible exact H2_) | with_reducible exact H | (rw [hy217]; exact H) | exact H
  have Ny217 := Aside0.mk hy217
  clear hy217
  obtain rfl := Option.some.inj H
  go_enter Tryz.func41, Tryz.ntmps41
  go_wp2_with (first | ((with_reducible refine gate_dst (N := 1) rfl ?_); refine Kd.R_lit Kd.string _ 9 ?hg (N := 1) ?hd (xs := ([(⟨#[108, 101, 116]⟩ : ByteArray), (⟨#[97, 108, 108, 111, 119]⟩ : ByteArray), (⟨#[100, 101, 110, 121]⟩ : ByteArray), (⟨#[119, 104, 101, 110]⟩ : ByteArray), (⟨#[97, 110, 100]⟩ : ByteArray), (⟨#[111, 114]⟩ : ByteArray), (⟨#[110, 111, 116]⟩ : ByteArray), (⟨#[116, 114, 117, 101]⟩ : ByteArray), (⟨#[102, 97, 108, 115, 101]⟩ : ByteArray), (⟨#[105, 110]⟩ : ByteArray), (⟨#[97, 100, 100, 114]⟩ : ByteArray), (⟨#[112, 111, 114, 116]⟩ : ByteArray), (⟨#[109, 101, 116, 104, 111, 100]⟩ : ByteArray), (⟨#[112, 97, 116, 104]⟩ : ByteArray), (⟨#[104, 101, 97, 100, 101, 114]⟩ : ByteArray), (⟨#[104, 97, 115]⟩ : ByteArray)] : List ByteArray)) (inner := [.string (⟨#[108, 101, 116]⟩ : ByteArray), .string (⟨#[97, 108, 108, 111, 119]⟩ : ByteArray), .string (⟨#[100, 101, 110, 121]⟩ : ByteArray), .string (⟨#[119, 104, 101, 110]⟩ : ByteArray), .string (⟨#[97, 110, 100]⟩ : ByteArray), .string (⟨#[111, 114]⟩ : ByteArray), .string (⟨#[110, 111, 116]⟩ : ByteArray), .string (⟨#[116, 114, 117, 101]⟩ : ByteArray), .string (⟨#[102, 97, 108, 115, 101]⟩ : ByteArray), .string (⟨#[105, 110]⟩ : ByteArray), .string (⟨#[97, 100, 100, 114]⟩ : ByteArray), .string (⟨#[112, 111, 114, 116]⟩ : ByteArray), .string (⟨#[109, 101, 116, 104, 111, 100]⟩ : ByteArray), .string (⟨#[112, 97, 116, 104]⟩ : ByteArray), .string (⟨#[104, 101, 97, 100, 101, 114]⟩ : ByteArray), .string (⟨#[104, 97, 115]⟩ : ByteArray)]) (ok := fun _ => True) (okp := fun _ => True) ?hr ?hp (fun _ hk => hk) trivial (Below.refl _ _) (Nat.le_refl _) (by simp) ?_; (case hd => rfl); (case hg => rfl); (case hr => first | (go_simp; done) | (go_simp; rfl)); (case hp => exact (Reps.one (show Kd.M Kd.string _ _ _ (⟨#[108, 101, 116]⟩ : ByteArray) [.string (⟨#[108, 101, 116]⟩ : ByteArray)] from rfl) (Reps.one (show Kd.M Kd.string _ _ _ (⟨#[97, 108, 108, 111, 119]⟩ : ByteArray) [.string (⟨#[97, 108, 108, 111, 119]⟩ : ByteArray)] from rfl) (Reps.one (show Kd.M Kd.string _ _ _ (⟨#[100, 101, 110, 121]⟩ : ByteArray) [.string (⟨#[100, 101, 110, 121]⟩ : ByteArray)] from rfl) (Reps.one (show Kd.M Kd.string _ _ _ (⟨#[119, 104, 101, 110]⟩ : ByteArray) [.string (⟨#[119, 104, 101, 110]⟩ : ByteArray)] from rfl) (Reps.one (show Kd.M Kd.string _ _ _ (⟨#[97, 110, 100]⟩ : ByteArray) [.string (⟨#[97, 110, 100]⟩ : ByteArray)] from rfl) (Reps.one (show Kd.M Kd.string _ _ _ (⟨#[111, 114]⟩ : ByteArray) [.string (⟨#[111, 114]⟩ : ByteArray)] from rfl) (Reps.one (show Kd.M Kd.string _ _ _ (⟨#[110, 111, 116]⟩ : ByteArray) [.string (⟨#[110, 111, 116]⟩ : ByteArray)] from rfl) (Reps.one (show Kd.M Kd.string _ _ _ (⟨#[116, 114, 117, 101]⟩ : ByteArray) [.string (⟨#[116, 114, 117, 101]⟩ : ByteArray)] from rfl) (Reps.one (show Kd.M Kd.string _ _ _ (⟨#[102, 97, 108, 115, 101]⟩ : ByteArray) [.string (⟨#[102, 97, 108, 115, 101]⟩ : ByteArray)] from rfl) (Reps.one (show Kd.M Kd.string _ _ _ (⟨#[105, 110]⟩ : ByteArray) [.string (⟨#[105, 110]⟩ : ByteArray)] from rfl) (Reps.one (show Kd.M Kd.string _ _ _ (⟨#[97, 100, 100, 114]⟩ : ByteArray) [.string (⟨#[97, 100, 100, 114]⟩ : ByteArray)] from rfl) (Reps.one (show Kd.M Kd.string _ _ _ (⟨#[112, 111, 114, 116]⟩ : ByteArray) [.string (⟨#[112, 111, 114, 116]⟩ : ByteArray)] from rfl) (Reps.one (show Kd.M Kd.string _ _ _ (⟨#[109, 101, 116, 104, 111, 100]⟩ : ByteArray) [.string (⟨#[109, 101, 116, 104, 111, 100]⟩ : ByteArray)] from rfl) (Reps.one (show Kd.M Kd.string _ _ _ (⟨#[112, 97, 116, 104]⟩ : ByteArray) [.string (⟨#[112, 97, 116, 104]⟩ : ByteArray)] from rfl) (Reps.one (show Kd.M Kd.string _ _ _ (⟨#[104, 101, 97, 100, 101, 114]⟩ : ByteArray) [.string (⟨#[104, 101, 97, 100, 101, 114]⟩ : ByteArray)] from rfl) (Reps.one (show Kd.M Kd.string _ _ _ (⟨#[104, 97, 115]⟩ : ByteArray) [.string (⟨#[104, 97, 115]⟩ : ByteArray)] from rfl) (Reps.none _ _)))))))))))))))))); intro v218 w1 ho2 hb hg_ hnew_; clear hg_ hnew_; (first | rw [← Ny217.out] at ho2 | (simp only [Int.reduceToNat] at ho2; rw [← Ny217.out] at ho2)); have n0_ := Aside0.mk (Kd.R_lower ho2 (below_size (by repeat (first | (with_reducible first | exact HB.out | apply below_alloc | apply pw_below_drewN | apply below_drew1) | exact HB.out)))); have n1_ := Aside0.mk (below_step (by repeat (first | (with_reducible first | exact HB.out | apply below_alloc | apply pw_below_drewN | apply below_drew1) | exact HB.out)) hb); clear HB; have HO219 := n0_; have HB := n1_; clear n0_ n1_; clear hb ho2))
  go_ret
  exact ⟨_, by first | rfl | (simp [errW_none, errW_some] <;> rfl) | (simp [*, errW_none, errW_some] <;> rfl), by (with_reducible repeat (first | apply Kd.R_alloc | apply Kd.R_drewN | apply Kd.R_drew)); exact HO219.out, by repeat (first | (with_reducible first | exact HB.out | apply below_alloc | apply pw_below_drewN | apply below_drew1) | exact HB.out)⟩

end Go.Proofs.YthllfnmebdjpfaaGreatDoor.H

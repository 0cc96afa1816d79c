/- Contracts of Go functions as plain Lean functions, written by a program of this session (wip/hand) out of the translation. -/
import Derived.Test.YthllfnmebdjpfaaDoorK1Hx0
import Derived.Test.YthllfnmebdjpfaaDoorK1Hx1
import Derived.Test.YthllfnmebdjpfaaDoorK1Hx2
import Derived.Test.YthllfnmebdjpfaaDoorK1Hx4
import Derived.Test.YthllfnmebdjpfaaDoorK1Hx6
namespace Go.Proofs.YthllfnmebdjpfaaDoor.H
open Go.RowKit Go.Proofs.YthllfnmebdjpfaaDoor.Hand Go.Proofs.YthllfnmebdjpfaaDoorW.PrintWords Go.Proofs.YthllfnmebdjpfaaDoorW.PrintLast Go.Proofs.YthllfnmebdjpfaaDoorW.PrintMore
attribute [local go_sem] max2_int min2_int max_two min_two max_three min_three max_four min_four   -- for this text's walks alone
set_option linter.unusedVariables false
set_option linter.unusedSimpArgs false

attribute [local go_sem high] eqA37
def lychgatelaw08_awake.j0 : Nat → List (S37) → Bool → Option (Bool)
  | 0, _, _ => none
  | k + 1, x1, x59 => if x59 = true then (none) else (if 0 < (x1.length : Int) then (if (((rd_T37 x1 0).f0) == 1 && ((((rd_T37 x1 0).f1).toList) == ([108, 101, 116] : List UInt8) && (((rd_T37 x1 0).f2) == 0 && ((((rd_T37 x1 0).f3.f0) == 0 && (((rd_T37 x1 0).f3.f1) == 0)) && (((rd_T37 x1 0).f4) == 0))))) = true then (if 3 < (x1.length : Int) then (if (((rd_T37 x1 3).f0) == 6 && ((((rd_T37 x1 3).f1).toList) == ([120, 34, 121] : List UInt8) && (((rd_T37 x1 3).f2) == 0 && ((((rd_T37 x1 3).f3.f0) == 0 && (((rd_T37 x1 3).f3.f1) == 0)) && (((rd_T37 x1 3).f4) == 10))))) = true then (if 5 < (x1.length : Int) then (if (((rd_T37 x1 5).f0) == 8 && ((((rd_T37 x1 5).f1).toList) == ([] : List UInt8) && (((rd_T37 x1 5).f2) == 0 && ((((rd_T37 x1 5).f3.f0) == 0 && (((rd_T37 x1 5).f3.f1) == 0)) && (((rd_T37 x1 5).f4) == 21))))) = true then ((lex_IsName.f k (⟨#[97, 95, 45, 49]⟩ : ByteArray)).bind fun t209 => (if t209 = true then ((lex_IsName.f k (⟨#[119, 104, 101, 110]⟩ : ByteArray)).bind fun t210 => (if t210 = true then (none) else ((lex_IsWord.f k (⟨#[119, 104, 101, 110]⟩ : ByteArray)).bind fun t211 => (if t211 = true then ((lex_IsWord.f k (⟨#[97]⟩ : ByteArray)).bind fun t212 => (some (!t212))) else (none))))) else (none))) else (none)) else (none)) else (none)) else (none)) else (none)) else (none))
def lychgatelaw08_awake.f (k : Nat)  : Option (Bool) := (lex_Scan.f k (⟨#[108, 101, 116, 32, 97, 45, 49, 32, 61, 32, 34, 120, 92, 34, 121, 34, 59, 32, 35, 32, 122]⟩ : ByteArray)).bind fun bt192 => ((lex_Scan.f k (⟨#[97, 32, 34, 98]⟩ : ByteArray)).bind fun bt197 => ((lex_Quote.f k (⟨#[97, 34]⟩ : ByteArray)).bind fun bt202 => ((lex_Quote.f k (⟨#[10]⟩ : ByteArray)).bind fun bt204 => (if (bt192.1.length : Int) = 6 then (if bt192.2.1 = 0 then (if bt192.2.2 = 0 then (if bt197.2.1 = 83 then (if bt197.2.2 = 2 then (if bt202.1.toList = ([34, 97, 92, 34, 34] : List UInt8) then (if bt202.2 = 0 then (lychgatelaw08_awake.j0 k bt192.1 (bt204.2 != 1)) else (lychgatelaw08_awake.j0 k bt192.1 true)) else (lychgatelaw08_awake.j0 k bt192.1 true)) else (lychgatelaw08_awake.j0 k bt192.1 true)) else (lychgatelaw08_awake.j0 k bt192.1 true)) else (lychgatelaw08_awake.j0 k bt192.1 true)) else (lychgatelaw08_awake.j0 k bt192.1 true)) else (lychgatelaw08_awake.j0 k bt192.1 true)))))
theorem lychgatelaw08_awake.mono_l : ∀ k, (∀ y0 y1, LeO (lychgatelaw08_awake.j0 k y0 y1) (lychgatelaw08_awake.j0 (k + 1) y0 y1))
  | 0 => fun _ _ r h => by simp [lychgatelaw08_awake.j0] at h
  | k + 1 => by
    have ih0 := lychgatelaw08_awake.mono_l k
    · intro y0 y1
      unfold lychgatelaw08_awake.j0
      repeat' first
      | (with_reducible exact ih0 _ _)
      | (with_reducible exact lex_IsName.mono _ _)
      | (with_reducible exact lex_IsWord.mono _ _)
      | (with_reducible exact lex_Quote.mono _ _)
      | (with_reducible exact lex_Scan.mono _ _)
      | (with_reducible exact LeO.refl _)
      | (with_reducible exact LeO.none _)
      | (with_reducible refine LeO.ite ?_ ?_)
      | (with_reducible refine LeO.bind ?_ (fun _ => ?_))
      | exact ih0 _ _
      | exact lex_IsName.mono _ _
      | exact lex_IsWord.mono _ _
      | exact lex_Quote.mono _ _
      | exact lex_Scan.mono _ _
      | exact LeO.none _
      | refine LeO.ite ?_ ?_
      | refine LeO.bind ?_ (fun _ => ?_)
theorem lychgatelaw08_awake.mono : ∀ k, LeO (lychgatelaw08_awake.f k ) (lychgatelaw08_awake.f (k + 1) ) := by
  intro  k
  have ih0 := lychgatelaw08_awake.mono_l k
  unfold lychgatelaw08_awake.f
  repeat' first
      | (with_reducible exact ih0 _ _)
      | (with_reducible exact lex_IsName.mono _ _)
      | (with_reducible exact lex_IsWord.mono _ _)
      | (with_reducible exact lex_Quote.mono _ _)
      | (with_reducible exact lex_Scan.mono _ _)
      | (with_reducible exact LeO.refl _)
      | (with_reducible exact LeO.none _)
      | (with_reducible refine LeO.ite ?_ ?_)
      | (with_reducible refine LeO.bind ?_ (fun _ => ?_))
      | exact ih0 _ _
      | exact lex_IsName.mono _ _
      | exact lex_IsWord.mono _ _
      | exact lex_Quote.mono _ _
      | exact lex_Scan.mono _ _
      | exact LeO.none _
      | refine LeO.ite ?_ ?_
      | refine LeO.bind ?_ (fun _ => ?_)
set_option maxHeartbeats 8000000 in
set_option maxRecDepth 100000 in
theorem lychgatelaw08_awake.calls (k : Nat)  (r : Bool) (w : World) (hInv : Inv w) (h : lychgatelaw08_awake.f k  = some r) :
    Calls Tryd.prog 6 #[] w fun e w' => e = .returned (.bool r) ∧ Below w.heap.size w w' := by
  have hu37 := Tryd.underlying37
  have HB := Aside0.mk (Below.refl w.heap.size w)
  have HI_ := Aside0.mk hInv
  clear hInv
  have H : ((lex_Scan.f k (⟨#[108, 101, 116, 32, 97, 45, 49, 32, 61, 32, 34, 120, 92, 34, 121, 34, 59, 32, 35, 32, 122]⟩ : ByteArray)).bind fun bt192 => ((lex_Scan.f k (⟨#[97, 32, 34, 98]⟩ : ByteArray)).bind fun bt197 => ((lex_Quote.f k (⟨#[97, 34]⟩ : ByteArray)).bind fun bt202 => ((lex_Quote.f k (⟨#[10]⟩ : ByteArray)).bind fun bt204 => (if (bt192.1.length : Int) = 6 then (if bt192.2.1 = 0 then (if bt192.2.2 = 0 then (if bt197.2.1 = 83 then (if bt197.2.2 = 2 then (if bt202.1.toList = ([34, 97, 92, 34, 34] : List UInt8) then (if bt202.2 = 0 then (lychgatelaw08_awake.j0 k bt192.1 (bt204.2 != 1)) else (lychgatelaw08_awake.j0 k bt192.1 true)) else (lychgatelaw08_awake.j0 k bt192.1 true)) else (lychgatelaw08_awake.j0 k bt192.1 true)) else (lychgatelaw08_awake.j0 k bt192.1 true)) else (lychgatelaw08_awake.j0 k bt192.1 true)) else (lychgatelaw08_awake.j0 k bt192.1 true)) else (lychgatelaw08_awake.j0 k bt192.1 true)))))) = some r := h
  clear h
  replace H := Option.bind_eq_some_iff.mp H
  obtain ⟨⟨t192, t193, t194⟩, A10, H⟩ := H
  replace H : ((lex_Scan.f k (⟨#[97, 32, 34, 98]⟩ : ByteArray)).bind fun bt197 => ((lex_Quote.f k (⟨#[97, 34]⟩ : ByteArray)).bind fun bt202 => ((lex_Quote.f k (⟨#[10]⟩ : ByteArray)).bind fun bt204 => (if (t192.length : Int) = 6 then (if t193 = 0 then (if t194 = 0 then (if bt197.2.1 = 83 then (if bt197.2.2 = 2 then (if bt202.1.toList = ([34, 97, 92, 34, 34] : List UInt8) then (if bt202.2 = 0 then (lychgatelaw08_awake.j0 k t192 (bt204.2 != 1)) else (lychgatelaw08_awake.j0 k t192 true)) else (lychgatelaw08_awake.j0 k t192 true)) else (lychgatelaw08_awake.j0 k t192 true)) else (lychgatelaw08_awake.j0 k t192 true)) else (lychgatelaw08_awake.j0 k t192 true)) else (lychgatelaw08_awake.j0 k t192 true)) else (lychgatelaw08_awake.j0 k t192 true))))) = some r := H
  have A1 := Aside0.mk A10
  clear A10
  replace H := Option.bind_eq_some_iff.mp H
  obtain ⟨⟨t197, t198, t199⟩, A20, H⟩ := H
  replace H : ((lex_Quote.f k (⟨#[97, 34]⟩ : ByteArray)).bind fun bt202 => ((lex_Quote.f k (⟨#[10]⟩ : ByteArray)).bind fun bt204 => (if (t192.length : Int) = 6 then (if t193 = 0 then (if t194 = 0 then (if t198 = 83 then (if t199 = 2 then (if bt202.1.toList = ([34, 97, 92, 34, 34] : List UInt8) then (if bt202.2 = 0 then (lychgatelaw08_awake.j0 k t192 (bt204.2 != 1)) else (lychgatelaw08_awake.j0 k t192 true)) else (lychgatelaw08_awake.j0 k t192 true)) else (lychgatelaw08_awake.j0 k t192 true)) else (lychgatelaw08_awake.j0 k t192 true)) else (lychgatelaw08_awake.j0 k t192 true)) else (lychgatelaw08_awake.j0 k t192 true)) else (lychgatelaw08_awake.j0 k t192 true)))) = some r := H
  have A2 := Aside0.mk A20
  clear A20
  replace H := Option.bind_eq_some_iff.mp H
  obtain ⟨⟨t202, t203⟩, A30, H⟩ := H
  replace H : ((lex_Quote.f k (⟨#[10]⟩ : ByteArray)).bind fun bt204 => (if (t192.length : Int) = 6 then (if t193 = 0 then (if t194 = 0 then (if t198 = 83 then (if t199 = 2 then (if t202.toList = ([34, 97, 92, 34, 34] : List UInt8) then (if t203 = 0 then (lychgatelaw08_awake.j0 k t192 (bt204.2 != 1)) else (lychgatelaw08_awake.j0 k t192 true)) else (lychgatelaw08_awake.j0 k t192 true)) else (lychgatelaw08_awake.j0 k t192 true)) else (lychgatelaw08_awake.j0 k t192 true)) else (lychgatelaw08_awake.j0 k t192 true)) else (lychgatelaw08_awake.j0 k t192 true)) else (lychgatelaw08_awake.j0 k t192 true))) = some r := H
  have A3 := Aside0.mk A30
  clear A30
  replace H := Option.bind_eq_some_iff.mp H
  obtain ⟨⟨t204, t205⟩, A40, H⟩ := H
  replace H : (if (t192.length : Int) = 6 then (if t193 = 0 then (if t194 = 0 then (if t198 = 83 then (if t199 = 2 then (if t202.toList = ([34, 97, 92, 34, 34] : List UInt8) then (if t203 = 0 then (lychgatelaw08_awake.j0 k t192 (t205 != 1)) else (lychgatelaw08_awake.j0 k t192 true)) else (lychgatelaw08_awake.j0 k t192 true)) else (lychgatelaw08_awake.j0 k t192 true)) else (lychgatelaw08_awake.j0 k t192 true)) else (lychgatelaw08_awake.j0 k t192 true)) else (lychgatelaw08_awake.j0 k t192 true)) else (lychgatelaw08_awake.j0 k t192 true)) = some r := H
  have A4 := Aside0.mk A40
  clear A40
  have HC5 := Aside0.mk H
  clear H
  go_enter Tryd.func6, Tryd.ntmps6
  go_upto_region 5 with (first | ((with_reducible refine gate_callee (f := 14) rfl ?_); refine goesL_ (some 12) rfl rfl Tryd.func14 (by kernel_rfl) rfl #[.string (⟨#[108, 101, 116, 32, 97, 45, 49, 32, 61, 32, 34, 120, 92, 34, 121, 34, 59, 32, 35, 32, 122]⟩ : ByteArray)] rfl (by (try simp only [List.map_toArray, List.map_cons, List.map_nil]); first | done | rfl | (simp only [List.length_drop, List.length_take]; rfl)) ?_; (with_reducible refine (lex_Scan.calls k (⟨#[108, 101, 116, 32, 97, 45, 49, 32, 61, 32, 34, 120, 92, 34, 121, 34, 59, 32, 35, 32, 122]⟩ : ByteArray) t192 t193 t194 _ ?side1 A1.out).mono ?_); (case side1 => exact Inv.below HI_.out (by repeat (first | (with_reducible first | exact HB.out | apply below_alloc | apply pw_below_drewN | apply below_drew1) | exact HB.out))); rintro e w6 ⟨v195, rfl, ho0, hb⟩; refine ⟨_, rfl, ?_⟩; have n0_ := Aside0.mk (Kd.R_lower ho0 (below_size (by repeat (first | (with_reducible first | exact HB.out | apply below_alloc | apply pw_below_drewN | apply below_drew1) | exact HB.out)))); have n1_ := Aside0.mk (below_step (by repeat (first | (with_reducible first | exact HB.out | apply below_alloc | apply pw_below_drewN | apply below_drew1) | exact HB.out)) hb); clear HB; have HO196 := n0_; have HB := n1_; clear n0_ n1_; (try clear hb); (try clear hb2); (try clear hk); (try clear hi); (try clear ho0)) | ((with_reducible refine gate_callee (f := 14) rfl ?_); refine goesL_ (some 17) rfl rfl Tryd.func14 (by kernel_rfl) rfl #[.string (⟨#[97, 32, 34, 98]⟩ : ByteArray)] rfl (by (try simp only [List.map_toArray, List.map_cons, List.map_nil]); first | done | rfl | (simp only [List.length_drop, List.length_take]; rfl)) ?_; (with_reducible refine (lex_Scan.calls k (⟨#[97, 32, 34, 98]⟩ : ByteArray) t197 t198 t199 _ ?side1 A2.out).mono ?_); (case side1 => exact Inv.below HI_.out (by repeat (first | (with_reducible first | exact HB.out | apply below_alloc | apply pw_below_drewN | apply below_drew1) | exact HB.out))); rintro e w7 ⟨v200, rfl, ho0, hb⟩; refine ⟨_, rfl, ?_⟩; have n0_ := Aside0.mk (Kd.R_elder' (by (with_reducible repeat (first | apply Kd.R_alloc | apply Kd.R_drewN | apply Kd.R_drew)); exact HO196.out) (Kd.R_base ho0) hb); have n1_ := Aside0.mk (Kd.R_lower (Kd.R_new' ho0 (Kd.R_lt (by (with_reducible repeat (first | apply Kd.R_alloc | apply Kd.R_drewN | apply Kd.R_drew)); exact HO196.out))) (below_size (by repeat (first | (with_reducible first | exact HB.out | apply below_alloc | apply pw_below_drewN | apply below_drew1) | exact HB.out)))); have n2_ := Aside0.mk (below_step (by repeat (first | (with_reducible first | exact HB.out | apply below_alloc | apply pw_below_drewN | apply below_drew1) | exact HB.out)) hb); clear HO196; clear HB; have HO196 := n0_; have HO201 := n1_; have HB := n2_; clear n0_ n1_ n2_; (try clear hb); (try clear hb2); (try clear hk); (try clear hi); (try clear ho0)) | ((with_reducible refine gate_callee (f := 7) rfl ?_); refine goesL_ (some 22) rfl rfl Tryd.func7 (by kernel_rfl) rfl #[.string (⟨#[97, 34]⟩ : ByteArray)] rfl (by (try simp only [List.map_toArray, List.map_cons, List.map_nil]); first | done | rfl | (simp only [List.length_drop, List.length_take]; rfl)) ?_; (with_reducible refine (lex_Quote.calls k (⟨#[97, 34]⟩ : ByteArray) t202 t203 _ A3.out).mono ?_); rintro e w8 ⟨rfl, hb⟩; refine ⟨_, rfl, ?_⟩; have n0_ := Aside0.mk (Kd.R_below (by (with_reducible repeat (first | apply Kd.R_alloc | apply Kd.R_drewN | apply Kd.R_drew)); exact HO196.out) hb); have n1_ := Aside0.mk (Kd.R_below (by (with_reducible repeat (first | apply Kd.R_alloc | apply Kd.R_drewN | apply Kd.R_drew)); exact HO201.out) hb); have n2_ := Aside0.mk (below_step (by repeat (first | (with_reducible first | exact HB.out | apply below_alloc | apply pw_below_drewN | apply below_drew1) | exact HB.out)) hb); clear HO196; clear HO201; clear HB; have HO196 := n0_; have HO201 := n1_; have HB := n2_; clear n0_ n1_ n2_; (try clear hb); (try clear hb2); (try clear hk); (try clear hi)) | ((with_reducible refine gate_callee (f := 7) rfl ?_); refine goesL_ (some 26) rfl rfl Tryd.func7 (by kernel_rfl) rfl #[.string (⟨#[10]⟩ : ByteArray)] rfl (by (try simp only [List.map_toArray, List.map_cons, List.map_nil]); first | done | rfl | (simp only [List.length_drop, List.length_take]; rfl)) ?_; (with_reducible refine (lex_Quote.calls k (⟨#[10]⟩ : ByteArray) t204 t205 _ A4.out).mono ?_); rintro e w9 ⟨rfl, hb⟩; refine ⟨_, rfl, ?_⟩; have n0_ := Aside0.mk (Kd.R_below (by (with_reducible repeat (first | apply Kd.R_alloc | apply Kd.R_drewN | apply Kd.R_drew)); exact HO196.out) hb); have n1_ := Aside0.mk (Kd.R_below (by (with_reducible repeat (first | apply Kd.R_alloc | apply Kd.R_drewN | apply Kd.R_drew)); exact HO201.out) hb); have n2_ := Aside0.mk (below_step (by repeat (first | (with_reducible first | exact HB.out | apply below_alloc | apply pw_below_drewN | apply below_drew1) | exact HB.out)) hb); clear HO196; clear HO201; clear HB; have HO196 := n0_; have HO201 := n1_; have HB := n2_; clear n0_ n1_ n2_; (try clear hb); (try clear hb2); (try clear hk); (try clear hi)))
  (try simp only [Act.put, List.setIfInBounds_toArray, List.set_cons_zero, List.set_cons_succ])
  go_cut [59] (fun v59 wc => ∃ (kq : Nat) (x59_4 : Bool), v59 = .bool x59_4 ∧ Aside0 (lychgatelaw08_awake.j0 kq t192 x59_4 = some r) ∧ Aside0 (kq ≤ k) ∧ Aside0 (Kd.R k37 37 wc w.heap.size (fun _ => True) v195 t192) ∧ Aside0 (Below w.heap.size w wc))
  case first =>
    have H := HC5.out
    clear HC5
    by_cases c10 : (t192.length : Int) = 6
    · rw [if_pos c10] at H
      have c10b0 : ((t192.length : Int) == 6) = true := beq_iff_eq.mpr c10
      have c10b1 : ((t192.length : Int) != 6) = false := bne_eq_false_iff_eq.mpr c10
      clear c10
      (first | rw [c10b0] | (simp only [i64_w, i32_w]; rw [c10b0]) | skip)
      by_cases c11 : t193 = 0
      · rw [if_pos c11] at H
        have c11b0 : (t193 == 0) = true := beq_iff_eq.mpr c11
        have c11b1 : (t193 != 0) = false := bne_eq_false_iff_eq.mpr c11
        clear c11
        by_cases c12 : t194 = 0
        · rw [if_pos c12] at H
          have c12b0 : (t194 == 0) = true := beq_iff_eq.mpr c12
          have c12b1 : (t194 != 0) = false := bne_eq_false_iff_eq.mpr c12
          clear c12
          by_cases c13 : t198 = 83
          · rw [if_pos c13] at H
            have c13b0 : (t198 == 83) = true := beq_iff_eq.mpr c13
            have c13b1 : (t198 != 83) = false := bne_eq_false_iff_eq.mpr c13
            clear c13
            by_cases c14 : t199 = 2
            · rw [if_pos c14] at H
              have c14b0 : (t199 == 2) = true := beq_iff_eq.mpr c14
              have c14b1 : (t199 != 2) = false := bne_eq_false_iff_eq.mpr c14
              clear c14
              by_cases c15 : t202.toList = ([34, 97, 92, 34, 34] : List UInt8)
              · rw [if_pos c15] at H
                have c15b0 : (t202.toList == ([34, 97, 92, 34, 34] : List UInt8)) = true := beq_iff_eq.mpr c15
                have c15b1 : (t202.toList != ([34, 97, 92, 34, 34] : List UInt8)) = false := bne_eq_false_iff_eq.mpr c15
                clear c15
                by_cases c16 : t203 = 0
                · rw [if_pos c16] at H
                  have c16b0 : (t203 == 0) = true := beq_iff_eq.mpr c16
                  have c16b1 : (t203 != 0) = false := bne_eq_false_iff_eq.mpr c16
                  clear c16
                  have H' := Aside0.mk H
                  clear H
                  obtain ⟨Ao17, co17, eo17⟩ := Kd.R_slice HO196.out
                  subst eo17
                  go_wp2
                  go_meet
                  case rel => exact ⟨_, ((t205 != 1)), (by first | rfl | (simp; done) | (simp [*]; done)), H', ⟨by first | omega | exact Nat.le_refl _⟩, ⟨by (with_reducible repeat (first | apply Kd.R_alloc | apply Kd.R_drewN | apply Kd.R_drew)); exact Kd.R_mono HO196.out (fun _ hk => trivial)⟩, ⟨by repeat (first | (with_reducible first | exact HB.out | apply below_alloc | apply pw_below_drewN | apply below_drew1) | exact HB.out)⟩⟩
                · rw [if_neg c16] at H
                  have c16b0 : (t203 == 0) = false := beq_eq_false_iff_ne.mpr c16
                  have c16b1 : (t203 != 0) = true := bne_iff_ne.mpr c16
                  have H' := Aside0.mk H
                  clear H
                  obtain ⟨Ao18, co18, eo18⟩ := Kd.R_slice HO196.out
                  subst eo18
                  go_wp2
                  go_meet
                  case rel => exact ⟨_, (true), (by first | rfl | (simp; done) | (simp [*]; done)), H', ⟨by first | omega | exact Nat.le_refl _⟩, ⟨by (with_reducible repeat (first | apply Kd.R_alloc | apply Kd.R_drewN | apply Kd.R_drew)); exact Kd.R_mono HO196.out (fun _ hk => trivial)⟩, ⟨by repeat (first | (with_reducible first | exact HB.out | apply below_alloc | apply pw_below_drewN | apply below_drew1) | exact HB.out)⟩⟩
              · rw [if_neg c15] at H
                have c15b0 : (t202.toList == ([34, 97, 92, 34, 34] : List UInt8)) = false := beq_eq_false_iff_ne.mpr c15
                have c15b1 : (t202.toList != ([34, 97, 92, 34, 34] : List UInt8)) = true := bne_iff_ne.mpr c15
                have H' := Aside0.mk H
                clear H
                obtain ⟨Ao19, co19, eo19⟩ := Kd.R_slice HO196.out
                subst eo19
                go_wp2
                go_meet
                case rel => exact ⟨_, (true), (by first | rfl | (simp; done) | (simp [*]; done)), H', ⟨by first | omega | exact Nat.le_refl _⟩, ⟨by (with_reducible repeat (first | apply Kd.R_alloc | apply Kd.R_drewN | apply Kd.R_drew)); exact Kd.R_mono HO196.out (fun _ hk => trivial)⟩, ⟨by repeat (first | (with_reducible first | exact HB.out | apply below_alloc | apply pw_below_drewN | apply below_drew1) | exact HB.out)⟩⟩
            · rw [if_neg c14] at H
              have c14b0 : (t199 == 2) = false := beq_eq_false_iff_ne.mpr c14
              have c14b1 : (t199 != 2) = true := bne_iff_ne.mpr c14
              have H' := Aside0.mk H
              clear H
              obtain ⟨Ao20, co20, eo20⟩ := Kd.R_slice HO196.out
              subst eo20
              go_wp2
              go_meet
              case rel => exact ⟨_, (true), (by first | rfl | (simp; done) | (simp [*]; done)), H', ⟨by first | omega | exact Nat.le_refl _⟩, ⟨by (with_reducible repeat (first | apply Kd.R_alloc | apply Kd.R_drewN | apply Kd.R_drew)); exact Kd.R_mono HO196.out (fun _ hk => trivial)⟩, ⟨by repeat (first | (with_reducible first | exact HB.out | apply below_alloc | apply pw_below_drewN | apply below_drew1) | exact HB.out)⟩⟩
          · rw [if_neg c13] at H
            have c13b0 : (t198 == 83) = false := beq_eq_false_iff_ne.mpr c13
            have c13b1 : (t198 != 83) = true := bne_iff_ne.mpr c13
            have H' := Aside0.mk H
            clear H
            obtain ⟨Ao21, co21, eo21⟩ := Kd.R_slice HO196.out
            subst eo21
            go_wp2
            go_meet
            case rel => exact ⟨_, (true), (by first | rfl | (simp; done) | (simp [*]; done)), H', ⟨by first | omega | exact Nat.le_refl _⟩, ⟨by (with_reducible repeat (first | apply Kd.R_alloc | apply Kd.R_drewN | apply Kd.R_drew)); exact Kd.R_mono HO196.out (fun _ hk => trivial)⟩, ⟨by repeat (first | (with_reducible first | exact HB.out | apply below_alloc | apply pw_below_drewN | apply below_drew1) | exact HB.out)⟩⟩
        · rw [if_neg c12] at H
          have c12b0 : (t194 == 0) = false := beq_eq_false_iff_ne.mpr c12
          have c12b1 : (t194 != 0) = true := bne_iff_ne.mpr c12
          have H' := Aside0.mk H
          clear H
          obtain ⟨Ao22, co22, eo22⟩ := Kd.R_slice HO196.out
          subst eo22
          go_wp2
          go_meet
          case rel => exact ⟨_, (true), (by first | rfl | (simp; done) | (simp [*]; done)), H', ⟨by first | omega | exact Nat.le_refl _⟩, ⟨by (with_reducible repeat (first | apply Kd.R_alloc | apply Kd.R_drewN | apply Kd.R_drew)); exact Kd.R_mono HO196.out (fun _ hk => trivial)⟩, ⟨by repeat (first | (with_reducible first | exact HB.out | apply below_alloc | apply pw_below_drewN | apply below_drew1) | exact HB.out)⟩⟩
      · rw [if_neg c11] at H
        have c11b0 : (t193 == 0) = false := beq_eq_false_iff_ne.mpr c11
        have c11b1 : (t193 != 0) = true := bne_iff_ne.mpr c11
        have H' := Aside0.mk H
        clear H
        obtain ⟨Ao23, co23, eo23⟩ := Kd.R_slice HO196.out
        subst eo23
        go_wp2
        go_meet
        case rel => exact ⟨_, (true), (by first | rfl | (simp; done) | (simp [*]; done)), H', ⟨by first | omega | exact Nat.le_refl _⟩, ⟨by (with_reducible repeat (first | apply Kd.R_alloc | apply Kd.R_drewN | apply Kd.R_drew)); exact Kd.R_mono HO196.out (fun _ hk => trivial)⟩, ⟨by repeat (first | (with_reducible first | exact HB.out | apply below_alloc | apply pw_below_drewN | apply below_drew1) | exact HB.out)⟩⟩
    · rw [if_neg c10] at H
      have c10b0 : ((t192.length : Int) == 6) = false := beq_eq_false_iff_ne.mpr c10
      have c10b1 : ((t192.length : Int) != 6) = true := bne_iff_ne.mpr c10
      (first | rw [c10b0] | (simp only [i64_w, i32_w]; rw [c10b0]) | skip)
      have H' := Aside0.mk H
      clear H
      obtain ⟨Ao24, co24, eo24⟩ := Kd.R_slice HO196.out
      subst eo24
      go_wp2
      go_meet
      case rel => exact ⟨_, (true), (by first | rfl | (simp; done) | (simp [*]; done)), H', ⟨by first | omega | exact Nat.le_refl _⟩, ⟨by (with_reducible repeat (first | apply Kd.R_alloc | apply Kd.R_drewN | apply Kd.R_drew)); exact Kd.R_mono HO196.out (fun _ hk => trivial)⟩, ⟨by repeat (first | (with_reducible first | exact HB.out | apply below_alloc | apply pw_below_drewN | apply below_drew1) | exact HB.out)⟩⟩
  case rest =>
    clear HC5
    try clear c1
    try clear p2
    try clear c6
    try clear c7
    try clear c10
    try clear c10b0
    try clear c10b1
    try clear c11
    try clear c11b0
    try clear c11b1
    try clear c12
    try clear c12b0
    try clear c12b1
    try clear c13
    try clear c13b0
    try clear c13b1
    try clear c14
    try clear c14b0
    try clear c14b1
    try clear c15
    try clear c15b0
    try clear c15b1
    try clear c16
    try clear c16b0
    try clear c16b1
    obtain ⟨kq, x59_4, rfl, HA, HJ4, HO_1, HB⟩ := hcut
    cases kq with
    | zero => exact absurd HA.out (by simp [lychgatelaw08_awake.j0])
    | succ kj4 =>
      have H := HA.out
      clear HA
      simp only [lychgatelaw08_awake.j0] at H
      by_cases c25 : x59_4 = true
      · subst c25
        have H1 : (none) = some r := by rw [if_pos rfl] at H; exact H
        clear H
        have H := H1
        clear H1
        first
        | (simp at H; done)
        | obtain rfl := Option.some.inj H
          go_wp2
          go_ret
          exact ⟨by first | rfl | (simp [errW_none, errW_some] <;> rfl) | (simp [*, errW_none, errW_some] <;> rfl), by repeat (first | (with_reducible first | exact HB.out | apply below_alloc | apply pw_below_drewN | apply below_drew1) | exact HB.out)⟩
          all_goals (exfalso; rename_i hx_; first | (simp only [Bool.and_eq_true, beq_iff_eq] at c31b0; exact hx_ c31b0))
      · replace c25 := Bool.eq_false_iff.mpr c25
        subst c25
        have H1 : (if 0 < (t192.length : Int) then (if (((rd_T37 t192 0).f0) == 1 && ((((rd_T37 t192 0).f1).toList) == ([108, 101, 116] : List UInt8) && (((rd_T37 t192 0).f2) == 0 && ((((rd_T37 t192 0).f3.f0) == 0 && (((rd_T37 t192 0).f3.f1) == 0)) && (((rd_T37 t192 0).f4) == 0))))) = true then (if 3 < (t192.length : Int) then (if (((rd_T37 t192 3).f0) == 6 && ((((rd_T37 t192 3).f1).toList) == ([120, 34, 121] : List UInt8) && (((rd_T37 t192 3).f2) == 0 && ((((rd_T37 t192 3).f3.f0) == 0 && (((rd_T37 t192 3).f3.f1) == 0)) && (((rd_T37 t192 3).f4) == 10))))) = true then (if 5 < (t192.length : Int) then (if (((rd_T37 t192 5).f0) == 8 && ((((rd_T37 t192 5).f1).toList) == ([] : List UInt8) && (((rd_T37 t192 5).f2) == 0 && ((((rd_T37 t192 5).f3.f0) == 0 && (((rd_T37 t192 5).f3.f1) == 0)) && (((rd_T37 t192 5).f4) == 21))))) = true then ((lex_IsName.f kj4 (⟨#[97, 95, 45, 49]⟩ : ByteArray)).bind fun t209 => (if t209 = true then ((lex_IsName.f kj4 (⟨#[119, 104, 101, 110]⟩ : ByteArray)).bind fun t210 => (if t210 = true then (none) else ((lex_IsWord.f kj4 (⟨#[119, 104, 101, 110]⟩ : ByteArray)).bind fun t211 => (if t211 = true then ((lex_IsWord.f kj4 (⟨#[97]⟩ : ByteArray)).bind fun t212 => (some (!t212))) else (none))))) else (none))) else (none)) else (none)) else (none)) else (none)) else (none)) else (none)) = some r := by rw [if_neg (show ¬ (false = true) by decide)] at H; exact H
        clear H
        have H := H1
        clear H1
        by_cases c26 : 0 < (t192.length : Int)
        · rw [if_pos c26] at H
          have c26b0 : decide (0 < (t192.length : Int)) = true := decide_eq_true c26
          have c26b1 : decide (0 < t192.length) = true := decide_eq_true (by omega)
          clear c26
          by_cases c27 : (((rd_T37 t192 0).f0) == 1 && ((((rd_T37 t192 0).f1).toList) == ([108, 101, 116] : List UInt8) && (((rd_T37 t192 0).f2) == 0 && ((((rd_T37 t192 0).f3.f0) == 0 && (((rd_T37 t192 0).f3.f1) == 0)) && (((rd_T37 t192 0).f4) == 0))))) = true
          · rw [if_pos c27] at H
            have c27b0 : (((rd_T37 t192 0).f0) == 1 && ((((rd_T37 t192 0).f1).toList) == ([108, 101, 116] : List UInt8) && (((rd_T37 t192 0).f2) == 0 && ((((rd_T37 t192 0).f3.f0) == 0 && (((rd_T37 t192 0).f3.f1) == 0)) && (((rd_T37 t192 0).f4) == 0))))) = true := c27
            (try (have c27b1 : decide (((rd_T37 t192 0).f0) = 1 && ((((rd_T37 t192 0).f1).toList) == ([108, 101, 116] : List UInt8) && (((rd_T37 t192 0).f2) == 0 && ((((rd_T37 t192 0).f3.f0) == 0 && (((rd_T37 t192 0).f3.f1) == 0)) && (((rd_T37 t192 0).f4) == 0))))) = true := by simpa using c27))
            (try (have c27b2 : (((rd_T37 t192 0).f0) == 1 && ((((rd_T37 t192 0).f1).toList) == ([108, 101, 116] : List UInt8) && (((rd_T37 t192 0).f2) == 0 && ((((rd_T37 t192 0).f3.f0) == 0 && (((rd_T37 t192 0).f3.f1) == 0)) && (((rd_T37 t192 0).f4) == 0))))) = true := by simpa using c27))
            clear c27
            by_cases c28 : 3 < (t192.length : Int)
            · rw [if_pos c28] at H
              have c28b0 : decide (3 < (t192.length : Int)) = true := decide_eq_true c28
              have c28b1 : decide (3 < t192.length) = true := decide_eq_true (by omega)
              clear c28
              by_cases c29 : (((rd_T37 t192 3).f0) == 6 && ((((rd_T37 t192 3).f1).toList) == ([120, 34, 121] : List UInt8) && (((rd_T37 t192 3).f2) == 0 && ((((rd_T37 t192 3).f3.f0) == 0 && (((rd_T37 t192 3).f3.f1) == 0)) && (((rd_T37 t192 3).f4) == 10))))) = true
              · rw [if_pos c29] at H
                have c29b0 : (((rd_T37 t192 3).f0) == 6 && ((((rd_T37 t192 3).f1).toList) == ([120, 34, 121] : List UInt8) && (((rd_T37 t192 3).f2) == 0 && ((((rd_T37 t192 3).f3.f0) == 0 && (((rd_T37 t192 3).f3.f1) == 0)) && (((rd_T37 t192 3).f4) == 10))))) = true := c29
                (try (have c29b1 : decide (((rd_T37 t192 3).f0) = 6 && ((((rd_T37 t192 3).f1).toList) == ([120, 34, 121] : List UInt8) && (((rd_T37 t192 3).f2) == 0 && ((((rd_T37 t192 3).f3.f0) == 0 && (((rd_T37 t192 3).f3.f1) == 0)) && (((rd_T37 t192 3).f4) == 10))))) = true := by simpa using c29))
                (try (have c29b2 : (((rd_T37 t192 3).f0) == 6 && ((((rd_T37 t192 3).f1).toList) == ([120, 34, 121] : List UInt8) && (((rd_T37 t192 3).f2) == 0 && ((((rd_T37 t192 3).f3.f0) == 0 && (((rd_T37 t192 3).f3.f1) == 0)) && (((rd_T37 t192 3).f4) == 10))))) = true := by simpa using c29))
                clear c29
                by_cases c30 : 5 < (t192.length : Int)
                · rw [if_pos c30] at H
                  have c30b0 : decide (5 < (t192.length : Int)) = true := decide_eq_true c30
                  have c30b1 : decide (5 < t192.length) = true := decide_eq_true (by omega)
                  clear c30
                  by_cases c31 : (((rd_T37 t192 5).f0) == 8 && ((((rd_T37 t192 5).f1).toList) == ([] : List UInt8) && (((rd_T37 t192 5).f2) == 0 && ((((rd_T37 t192 5).f3.f0) == 0 && (((rd_T37 t192 5).f3.f1) == 0)) && (((rd_T37 t192 5).f4) == 21))))) = true
                  · rw [if_pos c31] at H
                    have c31b0 : (((rd_T37 t192 5).f0) == 8 && ((((rd_T37 t192 5).f1).toList) == ([] : List UInt8) && (((rd_T37 t192 5).f2) == 0 && ((((rd_T37 t192 5).f3.f0) == 0 && (((rd_T37 t192 5).f3.f1) == 0)) && (((rd_T37 t192 5).f4) == 21))))) = true := c31
                    (try (have c31b1 : decide (((rd_T37 t192 5).f0) = 8 && ((((rd_T37 t192 5).f1).toList) == ([] : List UInt8) && (((rd_T37 t192 5).f2) == 0 && ((((rd_T37 t192 5).f3.f0) == 0 && (((rd_T37 t192 5).f3.f1) == 0)) && (((rd_T37 t192 5).f4) == 21))))) = true := by simpa using c31))
                    (try (have c31b2 : (((rd_T37 t192 5).f0) == 8 && ((((rd_T37 t192 5).f1).toList) == ([] : List UInt8) && (((rd_T37 t192 5).f2) == 0 && ((((rd_T37 t192 5).f3.f0) == 0 && (((rd_T37 t192 5).f3.f1) == 0)) && (((rd_T37 t192 5).f4) == 21))))) = true := by simpa using c31))
                    clear c31
                    replace H := Option.bind_eq_some_iff.mp H
                    obtain ⟨t209, A320, H⟩ := H
                    replace H : (if t209 = true then ((lex_IsName.f kj4 (⟨#[119, 104, 101, 110]⟩ : ByteArray)).bind fun t210 => (if t210 = true then (none) else ((lex_IsWord.f kj4 (⟨#[119, 104, 101, 110]⟩ : ByteArray)).bind fun t211 => (if t211 = true then ((lex_IsWord.f kj4 (⟨#[97]⟩ : ByteArray)).bind fun t212 => (some (!t212))) else (none))))) else (none)) = some r := H
                    have A32 := Aside0.mk A320
                    clear A320
                    by_cases c33 : t209 = true
                    · subst c33
                      have H1 : ((lex_IsName.f kj4 (⟨#[119, 104, 101, 110]⟩ : ByteArray)).bind fun t210 => (if t210 = true then (none) else ((lex_IsWord.f kj4 (⟨#[119, 104, 101, 110]⟩ : ByteArray)).bind fun t211 => (if t211 = true then ((lex_IsWord.f kj4 (⟨#[97]⟩ : ByteArray)).bind fun t212 => (some (!t212))) else (none))))) = some r := by rw [if_pos rfl] at H; exact H
                      clear H
                      have H := H1
                      clear H1
                      replace H := Option.bind_eq_some_iff.mp H
                      obtain ⟨t210, A340, H⟩ := H
                      replace H : (if t210 = true then (none) else ((lex_IsWord.f kj4 (⟨#[119, 104, 101, 110]⟩ : ByteArray)).bind fun t211 => (if t211 = true then ((lex_IsWord.f kj4 (⟨#[97]⟩ : ByteArray)).bind fun t212 => (some (!t212))) else (none)))) = some r := H
                      have A34 := Aside0.mk A340
                      clear A340
                      by_cases c35 : t210 = true
                      · subst c35
                        have H1 : (none) = some r := by rw [if_pos rfl] at H; exact H
                        clear H
                        have H := H1
                        clear H1
                        first
                        | (simp at H; done)
                        | obtain rfl := Option.some.inj H
                          obtain ⟨Ao36, co36, eo36⟩ := Kd.R_slice HO_1.out
                          subst eo36
                          have p206 : 0 ≤ (0 : Int) := (by omega)
                          have q206 : 0 < (t192.length : Int) := of_decide_eq_true (by first | (with_reducible assumption) | assumption)
                          obtain ⟨ad206, e206, hx206_0, hx206_1, hx206_2, hx206_3, hx206_4, hx206_5⟩ := at_T37 (Kd.R_reads' HO_1.out).2.2 0 p206 q206
                          cases e206
                          have qi206 : (0 < t192.length) = True := eq_true (by omega)
                          (try rw [show ((0 : Int)).toNat = 0 from rfl] at hx206_0)
                          (try rw [show 0 * 6 = 0 from rfl] at hx206_0)
                          (try rw [Addr.add_zero'] at hx206_0)
                          (try rw [show ((0 : Int)).toNat = 0 from rfl] at hx206_1)
                          (try rw [show 0 * 6 = 0 from rfl] at hx206_1)
                          (try rw [Addr.add_zero'] at hx206_1)
                          (try rw [show ((0 : Int)).toNat = 0 from rfl] at hx206_2)
                          (try rw [show 0 * 6 = 0 from rfl] at hx206_2)
                          (try rw [Addr.add_zero'] at hx206_2)
                          (try rw [show ((0 : Int)).toNat = 0 from rfl] at hx206_3)
                          (try rw [show 0 * 6 = 0 from rfl] at hx206_3)
                          (try rw [Addr.add_zero'] at hx206_3)
                          (try rw [show ((0 : Int)).toNat = 0 from rfl] at hx206_4)
                          (try rw [show 0 * 6 = 0 from rfl] at hx206_4)
                          (try rw [Addr.add_zero'] at hx206_4)
                          (try rw [show ((0 : Int)).toNat = 0 from rfl] at hx206_5)
                          (try rw [show 0 * 6 = 0 from rfl] at hx206_5)
                          (try rw [Addr.add_zero'] at hx206_5)
                          replace p206 := eq_true p206
                          replace q206 := eq_true q206
                          have p207 : 0 ≤ (3 : Int) := (by omega)
                          have q207 : 3 < (t192.length : Int) := of_decide_eq_true (by first | (with_reducible assumption) | assumption)
                          obtain ⟨ad207, e207, hx207_0, hx207_1, hx207_2, hx207_3, hx207_4, hx207_5⟩ := at_T37 (Kd.R_reads' HO_1.out).2.2 3 p207 q207
                          obtain rfl : ad206 = ad207 := (by injection e207)
                          (try simp only [show (3 : Int).toNat = 3 from rfl, Nat.reduceMul, Nat.reduceEqDiff, Go.Addr.add, ↓reduceIte] at hx207_0)
                          (try simp only [show (3 : Int).toNat = 3 from rfl, Nat.reduceMul, Nat.reduceEqDiff, Go.Addr.add, ↓reduceIte] at hx207_1)
                          (try simp only [show (3 : Int).toNat = 3 from rfl, Nat.reduceMul, Nat.reduceEqDiff, Go.Addr.add, ↓reduceIte] at hx207_2)
                          (try simp only [show (3 : Int).toNat = 3 from rfl, Nat.reduceMul, Nat.reduceEqDiff, Go.Addr.add, ↓reduceIte] at hx207_3)
                          (try simp only [show (3 : Int).toNat = 3 from rfl, Nat.reduceMul, Nat.reduceEqDiff, Go.Addr.add, ↓reduceIte] at hx207_4)
                          (try simp only [show (3 : Int).toNat = 3 from rfl, Nat.reduceMul, Nat.reduceEqDiff, Go.Addr.add, ↓reduceIte] at hx207_5)
                          have qi207 : (3 < t192.length) = True := eq_true (by omega)
                          (try rw [show ((3 : Int)).toNat = 3 from rfl] at hx207_0)
                          (try rw [show 3 * 6 = 18 from rfl] at hx207_0)
                          (try rw [show ((3 : Int)).toNat = 3 from rfl] at hx207_1)
                          (try rw [show 3 * 6 = 18 from rfl] at hx207_1)
                          (try rw [show ((3 : Int)).toNat = 3 from rfl] at hx207_2)
                          (try rw [show 3 * 6 = 18 from rfl] at hx207_2)
                          (try rw [show ((3 : Int)).toNat = 3 from rfl] at hx207_3)
                          (try rw [show 3 * 6 = 18 from rfl] at hx207_3)
                          (try rw [show ((3 : Int)).toNat = 3 from rfl] at hx207_4)
                          (try rw [show 3 * 6 = 18 from rfl] at hx207_4)
                          (try rw [show ((3 : Int)).toNat = 3 from rfl] at hx207_5)
                          (try rw [show 3 * 6 = 18 from rfl] at hx207_5)
                          replace p207 := eq_true p207
                          replace q207 := eq_true q207
                          have p208 : 0 ≤ (5 : Int) := (by omega)
                          have q208 : 5 < (t192.length : Int) := of_decide_eq_true (by first | (with_reducible assumption) | assumption)
                          obtain ⟨ad208, e208, hx208_0, hx208_1, hx208_2, hx208_3, hx208_4, hx208_5⟩ := at_T37 (Kd.R_reads' HO_1.out).2.2 5 p208 q208
                          obtain rfl : ad206 = ad208 := (by injection e208)
                          (try simp only [show (5 : Int).toNat = 5 from rfl, Nat.reduceMul, Nat.reduceEqDiff, Go.Addr.add, ↓reduceIte] at hx208_0)
                          (try simp only [show (5 : Int).toNat = 5 from rfl, Nat.reduceMul, Nat.reduceEqDiff, Go.Addr.add, ↓reduceIte] at hx208_1)
                          (try simp only [show (5 : Int).toNat = 5 from rfl, Nat.reduceMul, Nat.reduceEqDiff, Go.Addr.add, ↓reduceIte] at hx208_2)
                          (try simp only [show (5 : Int).toNat = 5 from rfl, Nat.reduceMul, Nat.reduceEqDiff, Go.Addr.add, ↓reduceIte] at hx208_3)
                          (try simp only [show (5 : Int).toNat = 5 from rfl, Nat.reduceMul, Nat.reduceEqDiff, Go.Addr.add, ↓reduceIte] at hx208_4)
                          (try simp only [show (5 : Int).toNat = 5 from rfl, Nat.reduceMul, Nat.reduceEqDiff, Go.Addr.add, ↓reduceIte] at hx208_5)
                          have qi208 : (5 < t192.length) = True := eq_true (by omega)
                          (try rw [show ((5 : Int)).toNat = 5 from rfl] at hx208_0)
                          (try rw [show 5 * 6 = 30 from rfl] at hx208_0)
                          (try rw [show ((5 : Int)).toNat = 5 from rfl] at hx208_1)
                          (try rw [show 5 * 6 = 30 from rfl] at hx208_1)
                          (try rw [show ((5 : Int)).toNat = 5 from rfl] at hx208_2)
                          (try rw [show 5 * 6 = 30 from rfl] at hx208_2)
                          (try rw [show ((5 : Int)).toNat = 5 from rfl] at hx208_3)
                          (try rw [show 5 * 6 = 30 from rfl] at hx208_3)
                          (try rw [show ((5 : Int)).toNat = 5 from rfl] at hx208_4)
                          (try rw [show 5 * 6 = 30 from rfl] at hx208_4)
                          (try rw [show ((5 : Int)).toNat = 5 from rfl] at hx208_5)
                          (try rw [show 5 * 6 = 30 from rfl] at hx208_5)
                          replace p208 := eq_true p208
                          replace q208 := eq_true q208
                          go_wp2_with (first | (go_at_call 11; (with_reducible refine (lex_IsName.calls kj4 (⟨#[97, 95, 45, 49]⟩ : ByteArray) true _ ?side1 A32.out).mono ?_); (case side1 => exact Inv.below HI_.out (by repeat (first | (with_reducible first | exact HB.out | apply below_alloc | apply pw_below_drewN | apply below_drew1) | exact HB.out))); rintro e w37 ⟨rfl, hb⟩; have n0_ := Aside0.mk (Kd.R_below (by (with_reducible repeat (first | apply Kd.R_alloc | apply Kd.R_drewN | apply Kd.R_drew)); exact HO_1.out) hb); have n1_ := Aside0.mk (below_step (by repeat (first | (with_reducible first | exact HB.out | apply below_alloc | apply pw_below_drewN | apply below_drew1) | exact HB.out)) hb); clear HO_1; clear HB; have HO_1 := n0_; have HB := n1_; clear n0_ n1_; (try clear hb); (try clear hb2); (try clear hk); (try clear hi)) | (go_at_call 11; (with_reducible refine (lex_IsName.calls kj4 (⟨#[119, 104, 101, 110]⟩ : ByteArray) true _ ?side1 A34.out).mono ?_); (case side1 => exact Inv.below HI_.out (by repeat (first | (with_reducible first | exact HB.out | apply below_alloc | apply pw_below_drewN | apply below_drew1) | exact HB.out))); rintro e w38 ⟨rfl, hb⟩; have n0_ := Aside0.mk (Kd.R_below (by (with_reducible repeat (first | apply Kd.R_alloc | apply Kd.R_drewN | apply Kd.R_drew)); exact HO_1.out) hb); have n1_ := Aside0.mk (below_step (by repeat (first | (with_reducible first | exact HB.out | apply below_alloc | apply pw_below_drewN | apply below_drew1) | exact HB.out)) hb); clear HO_1; clear HB; have HO_1 := n0_; have HB := n1_; clear n0_ n1_; (try clear hb); (try clear hb2); (try clear hk); (try clear hi)))
                          go_ret
                          exact ⟨by first | rfl | (simp [errW_none, errW_some] <;> rfl) | (simp [*, errW_none, errW_some] <;> rfl), by repeat (first | (with_reducible first | exact HB.out | apply below_alloc | apply pw_below_drewN | apply below_drew1) | exact HB.out)⟩
                          all_goals (exfalso; rename_i hx_; first | (simp only [Bool.and_eq_true, beq_iff_eq] at c31b0; exact hx_ c31b0))
                      · replace c35 := Bool.eq_false_iff.mpr c35
                        subst c35
                        have H1 : ((lex_IsWord.f kj4 (⟨#[119, 104, 101, 110]⟩ : ByteArray)).bind fun t211 => (if t211 = true then ((lex_IsWord.f kj4 (⟨#[97]⟩ : ByteArray)).bind fun t212 => (some (!t212))) else (none))) = some r := by rw [if_neg (show ¬ (false = true) by decide)] at H; exact H
                        clear H
                        have H := H1
                        clear H1
                        replace H := Option.bind_eq_some_iff.mp H
                        obtain ⟨t211, A390, H⟩ := H
                        replace H : (if t211 = true then ((lex_IsWord.f kj4 (⟨#[97]⟩ : ByteArray)).bind fun t212 => (some (!t212))) else (none)) = some r := H
                        have A39 := Aside0.mk A390
                        clear A390
                        by_cases c40 : t211 = true
                        · subst c40
                          have H1 : ((lex_IsWord.f kj4 (⟨#[97]⟩ : ByteArray)).bind fun t212 => (some (!t212))) = some r := by rw [if_pos rfl] at H; exact H
                          clear H
                          have H := H1
                          clear H1
                          replace H := Option.bind_eq_some_iff.mp H
                          obtain ⟨t212, A410, H⟩ := H
                          replace H : (some (!t212)) = some r := H
                          have A41 := Aside0.mk A410
                          clear A410
                          first
                          | (simp at H; done)
                          | obtain rfl := Option.some.inj H
                            obtain ⟨Ao42, co42, eo42⟩ := Kd.R_slice HO_1.out
                            subst eo42
                            have p206 : 0 ≤ (0 : Int) := (by omega)
                            have q206 : 0 < (t192.length : Int) := of_decide_eq_true (by first | (with_reducible assumption) | assumption)
                            obtain ⟨ad206, e206, hx206_0, hx206_1, hx206_2, hx206_3, hx206_4, hx206_5⟩ := at_T37 (Kd.R_reads' HO_1.out).2.2 0 p206 q206
                            cases e206
                            have qi206 : (0 < t192.length) = True := eq_true (by omega)
                            (try rw [show ((0 : Int)).toNat = 0 from rfl] at hx206_0)
                            (try rw [show 0 * 6 = 0 from rfl] at hx206_0)
                            (try rw [Addr.add_zero'] at hx206_0)
                            (try rw [show ((0 : Int)).toNat = 0 from rfl] at hx206_1)
                            (try rw [show 0 * 6 = 0 from rfl] at hx206_1)
                            (try rw [Addr.add_zero'] at hx206_1)
                            (try rw [show ((0 : Int)).toNat = 0 from rfl] at hx206_2)
                            (try rw [show 0 * 6 = 0 from rfl] at hx206_2)
                            (try rw [Addr.add_zero'] at hx206_2)
                            (try rw [show ((0 : Int)).toNat = 0 from rfl] at hx206_3)
                            (try rw [show 0 * 6 = 0 from rfl] at hx206_3)
                            (try rw [Addr.add_zero'] at hx206_3)
                            (try rw [show ((0 : Int)).toNat = 0 from rfl] at hx206_4)
                            (try rw [show 0 * 6 = 0 from rfl] at hx206_4)
                            (try rw [Addr.add_zero'] at hx206_4)
                            (try rw [show ((0 : Int)).toNat = 0 from rfl] at hx206_5)
                            (try rw [show 0 * 6 = 0 from rfl] at hx206_5)
                            (try rw [Addr.add_zero'] at hx206_5)
                            replace p206 := eq_true p206
                            replace q206 := eq_true q206
                            have p207 : 0 ≤ (3 : Int) := (by omega)
                            have q207 : 3 < (t192.length : Int) := of_decide_eq_true (by first | (with_reducible assumption) | assumption)
                            obtain ⟨ad207, e207, hx207_0, hx207_1, hx207_2, hx207_3, hx207_4, hx207_5⟩ := at_T37 (Kd.R_reads' HO_1.out).2.2 3 p207 q207
                            obtain rfl : ad206 = ad207 := (by injection e207)
                            (try simp only [show (3 : Int).toNat = 3 from rfl, Nat.reduceMul, Nat.reduceEqDiff, Go.Addr.add, ↓reduceIte] at hx207_0)
                            (try simp only [show (3 : Int).toNat = 3 from rfl, Nat.reduceMul, Nat.reduceEqDiff, Go.Addr.add, ↓reduceIte] at hx207_1)
                            (try simp only [show (3 : Int).toNat = 3 from rfl, Nat.reduceMul, Nat.reduceEqDiff, Go.Addr.add, ↓reduceIte] at hx207_2)
                            (try simp only [show (3 : Int).toNat = 3 from rfl, Nat.reduceMul, Nat.reduceEqDiff, Go.Addr.add, ↓reduceIte] at hx207_3)
                            (try simp only [show (3 : Int).toNat = 3 from rfl, Nat.reduceMul, Nat.reduceEqDiff, Go.Addr.add, ↓reduceIte] at hx207_4)
                            (try simp only [show (3 : Int).toNat = 3 from rfl, Nat.reduceMul, Nat.reduceEqDiff, Go.Addr.add, ↓reduceIte] at hx207_5)
                            have qi207 : (3 < t192.length) = True := eq_true (by omega)
                            (try rw [show ((3 : Int)).toNat = 3 from rfl] at hx207_0)
                            (try rw [show 3 * 6 = 18 from rfl] at hx207_0)
                            (try rw [show ((3 : Int)).toNat = 3 from rfl] at hx207_1)
                            (try rw [show 3 * 6 = 18 from rfl] at hx207_1)
                            (try rw [show ((3 : Int)).toNat = 3 from rfl] at hx207_2)
                            (try rw [show 3 * 6 = 18 from rfl] at hx207_2)
                            (try rw [show ((3 : Int)).toNat = 3 from rfl] at hx207_3)
                            (try rw [show 3 * 6 = 18 from rfl] at hx207_3)
                            (try rw [show ((3 : Int)).toNat = 3 from rfl] at hx207_4)
                            (try rw [show 3 * 6 = 18 from rfl] at hx207_4)
                            (try rw [show ((3 : Int)).toNat = 3 from rfl] at hx207_5)
                            (try rw [show 3 * 6 = 18 from rfl] at hx207_5)
                            replace p207 := eq_true p207
                            replace q207 := eq_true q207
                            have p208 : 0 ≤ (5 : Int) := (by omega)
                            have q208 : 5 < (t192.length : Int) := of_decide_eq_true (by first | (with_reducible assumption) | assumption)
                            obtain ⟨ad208, e208, hx208_0, hx208_1, hx208_2, hx208_3, hx208_4, hx208_5⟩ := at_T37 (Kd.R_reads' HO_1.out).2.2 5 p208 q208
                            obtain rfl : ad206 = ad208 := (by injection e208)
                            (try simp only [show (5 : Int).toNat = 5 from rfl, Nat.reduceMul, Nat.reduceEqDiff, Go.Addr.add, ↓reduceIte] at hx208_0)
                            (try simp only [show (5 : Int).toNat = 5 from rfl, Nat.reduceMul, Nat.reduceEqDiff, Go.Addr.add, ↓reduceIte] at hx208_1)
                            (try simp only [show (5 : Int).toNat = 5 from rfl, Nat.reduceMul, Nat.reduceEqDiff, Go.Addr.add, ↓reduceIte] at hx208_2)
                            (try simp only [show (5 : Int).toNat = 5 from rfl, Nat.reduceMul, Nat.reduceEqDiff, Go.Addr.add, ↓reduceIte] at hx208_3)
                            (try simp only [show (5 : Int).toNat = 5 from rfl, Nat.reduceMul, Nat.reduceEqDiff, Go.Addr.add, ↓reduceIte] at hx208_4)
                            (try simp only [show (5 : Int).toNat = 5 from rfl, Nat.reduceMul, Nat.reduceEqDiff, Go.Addr.add, ↓reduceIte] at hx208_5)
                            have qi208 : (5 < t192.length) = True := eq_true (by omega)
                            (try rw [show ((5 : Int)).toNat = 5 from rfl] at hx208_0)
                            (try rw [show 5 * 6 = 30 from rfl] at hx208_0)
                            (try rw [show ((5 : Int)).toNat = 5 from rfl] at hx208_1)
                            (try rw [show 5 * 6 = 30 from rfl] at hx208_1)
                            (try rw [show ((5 : Int)).toNat = 5 from rfl] at hx208_2)
                            (try rw [show 5 * 6 = 30 from rfl] at hx208_2)
                            (try rw [show ((5 : Int)).toNat = 5 from rfl] at hx208_3)
                            (try rw [show 5 * 6 = 30 from rfl] at hx208_3)
                            (try rw [show ((5 : Int)).toNat = 5 from rfl] at hx208_4)
                            (try rw [show 5 * 6 = 30 from rfl] at hx208_4)
                            (try rw [show ((5 : Int)).toNat = 5 from rfl] at hx208_5)
                            (try rw [show 5 * 6 = 30 from rfl] at hx208_5)
                            replace p208 := eq_true p208
                            replace q208 := eq_true q208
                            go_wp2_with (first | (go_at_call 11; (with_reducible refine (lex_IsName.calls kj4 (⟨#[97, 95, 45, 49]⟩ : ByteArray) true _ ?side1 A32.out).mono ?_); (case side1 => exact Inv.below HI_.out (by repeat (first | (with_reducible first | exact HB.out | apply below_alloc | apply pw_below_drewN | apply below_drew1) | exact HB.out))); rintro e w43 ⟨rfl, hb⟩; have n0_ := Aside0.mk (Kd.R_below (by (with_reducible repeat (first | apply Kd.R_alloc | apply Kd.R_drewN | apply Kd.R_drew)); exact HO_1.out) hb); have n1_ := Aside0.mk (below_step (by repeat (first | (with_reducible first | exact HB.out | apply below_alloc | apply pw_below_drewN | apply below_drew1) | exact HB.out)) hb); clear HO_1; clear HB; have HO_1 := n0_; have HB := n1_; clear n0_ n1_; (try clear hb); (try clear hb2); (try clear hk); (try clear hi)) | (go_at_call 11; (with_reducible refine (lex_IsName.calls kj4 (⟨#[119, 104, 101, 110]⟩ : ByteArray) false _ ?side1 A34.out).mono ?_); (case side1 => exact Inv.below HI_.out (by repeat (first | (with_reducible first | exact HB.out | apply below_alloc | apply pw_below_drewN | apply below_drew1) | exact HB.out))); rintro e w44 ⟨rfl, hb⟩; have n0_ := Aside0.mk (Kd.R_below (by (with_reducible repeat (first | apply Kd.R_alloc | apply Kd.R_drewN | apply Kd.R_drew)); exact HO_1.out) hb); have n1_ := Aside0.mk (below_step (by repeat (first | (with_reducible first | exact HB.out | apply below_alloc | apply pw_below_drewN | apply below_drew1) | exact HB.out)) hb); clear HO_1; clear HB; have HO_1 := n0_; have HB := n1_; clear n0_ n1_; (try clear hb); (try clear hb2); (try clear hk); (try clear hi)) | (go_at_call 9; (with_reducible refine (lex_IsWord.calls kj4 (⟨#[119, 104, 101, 110]⟩ : ByteArray) true _ ?side1 A39.out).mono ?_); (case side1 => exact Inv.below HI_.out (by repeat (first | (with_reducible first | exact HB.out | apply below_alloc | apply pw_below_drewN | apply below_drew1) | exact HB.out))); rintro e w45 ⟨rfl, hb⟩; have n0_ := Aside0.mk (Kd.R_below (by (with_reducible repeat (first | apply Kd.R_alloc | apply Kd.R_drewN | apply Kd.R_drew)); exact HO_1.out) hb); have n1_ := Aside0.mk (below_step (by repeat (first | (with_reducible first | exact HB.out | apply below_alloc | apply pw_below_drewN | apply below_drew1) | exact HB.out)) hb); clear HO_1; clear HB; have HO_1 := n0_; have HB := n1_; clear n0_ n1_; (try clear hb); (try clear hb2); (try clear hk); (try clear hi)) | (go_at_call 9; (with_reducible refine (lex_IsWord.calls kj4 (⟨#[97]⟩ : ByteArray) t212 _ ?side1 A41.out).mono ?_); (case side1 => exact Inv.below HI_.out (by repeat (first | (with_reducible first | exact HB.out | apply below_alloc | apply pw_below_drewN | apply below_drew1) | exact HB.out))); rintro e w46 ⟨rfl, hb⟩; have n0_ := Aside0.mk (Kd.R_below (by (with_reducible repeat (first | apply Kd.R_alloc | apply Kd.R_drewN | apply Kd.R_drew)); exact HO_1.out) hb); have n1_ := Aside0.mk (below_step (by repeat (first | (with_reducible first | exact HB.out | apply below_alloc | apply pw_below_drewN | apply below_drew1) | exact HB.out)) hb); clear HO_1; clear HB; have HO_1 := n0_; have HB := n1_; clear n0_ n1_; (try clear hb); (try clear hb2); (try clear hk); (try clear hi)))
                            go_ret
                            exact ⟨by first | rfl | (simp [errW_none, errW_some] <;> rfl) | (simp [*, errW_none, errW_some] <;> rfl), by repeat (first | (with_reducible first | exact HB.out | apply below_alloc | apply pw_below_drewN | apply below_drew1) | exact HB.out)⟩
                            all_goals (exfalso; rename_i hx_; first | (simp only [Bool.and_eq_true, beq_iff_eq] at c31b0; exact hx_ c31b0))
                        · replace c40 := Bool.eq_false_iff.mpr c40
                          subst c40
                          have H1 : (none) = some r := by rw [if_neg (show ¬ (false = true) by decide)] at H; exact H
                          clear H
                          have H := H1
                          clear H1
                          first
                          | (simp at H; done)
                          | obtain rfl := Option.some.inj H
                            obtain ⟨Ao47, co47, eo47⟩ := Kd.R_slice HO_1.out
                            subst eo47
                            have p206 : 0 ≤ (0 : Int) := (by omega)
                            have q206 : 0 < (t192.length : Int) := of_decide_eq_true (by first | (with_reducible assumption) | assumption)
                            obtain ⟨ad206, e206, hx206_0, hx206_1, hx206_2, hx206_3, hx206_4, hx206_5⟩ := at_T37 (Kd.R_reads' HO_1.out).2.2 0 p206 q206
                            cases e206
                            have qi206 : (0 < t192.length) = True := eq_true (by omega)
                            (try rw [show ((0 : Int)).toNat = 0 from rfl] at hx206_0)
                            (try rw [show 0 * 6 = 0 from rfl] at hx206_0)
                            (try rw [Addr.add_zero'] at hx206_0)
                            (try rw [show ((0 : Int)).toNat = 0 from rfl] at hx206_1)
                            (try rw [show 0 * 6 = 0 from rfl] at hx206_1)
                            (try rw [Addr.add_zero'] at hx206_1)
                            (try rw [show ((0 : Int)).toNat = 0 from rfl] at hx206_2)
                            (try rw [show 0 * 6 = 0 from rfl] at hx206_2)
                            (try rw [Addr.add_zero'] at hx206_2)
                            (try rw [show ((0 : Int)).toNat = 0 from rfl] at hx206_3)
                            (try rw [show 0 * 6 = 0 from rfl] at hx206_3)
                            (try rw [Addr.add_zero'] at hx206_3)
                            (try rw [show ((0 : Int)).toNat = 0 from rfl] at hx206_4)
                            (try rw [show 0 * 6 = 0 from rfl] at hx206_4)
                            (try rw [Addr.add_zero'] at hx206_4)
                            (try rw [show ((0 : Int)).toNat = 0 from rfl] at hx206_5)
                            (try rw [show 0 * 6 = 0 from rfl] at hx206_5)
                            (try rw [Addr.add_zero'] at hx206_5)
                            replace p206 := eq_true p206
                            replace q206 := eq_true q206
                            have p207 : 0 ≤ (3 : Int) := (by omega)
                            have q207 : 3 < (t192.length : Int) := of_decide_eq_true (by first | (with_reducible assumption) | assumption)
                            obtain ⟨ad207, e207, hx207_0, hx207_1, hx207_2, hx207_3, hx207_4, hx207_5⟩ := at_T37 (Kd.R_reads' HO_1.out).2.2 3 p207 q207
                            obtain rfl : ad206 = ad207 := (by injection e207)
                            (try simp only [show (3 : Int).toNat = 3 from rfl, Nat.reduceMul, Nat.reduceEqDiff, Go.Addr.add, ↓reduceIte] at hx207_0)
                            (try simp only [show (3 : Int).toNat = 3 from rfl, Nat.reduceMul, Nat.reduceEqDiff, Go.Addr.add, ↓reduceIte] at hx207_1)
                            (try simp only [show (3 : Int).toNat = 3 from rfl, Nat.reduceMul, Nat.reduceEqDiff, Go.Addr.add, ↓reduceIte] at hx207_2)
                            (try simp only [show (3 : Int).toNat = 3 from rfl, Nat.reduceMul, Nat.reduceEqDiff, Go.Addr.add, ↓reduceIte] at hx207_3)
                            (try simp only [show (3 : Int).toNat = 3 from rfl, Nat.reduceMul, Nat.reduceEqDiff, Go.Addr.add, ↓reduceIte] at hx207_4)
                            (try simp only [show (3 : Int).toNat = 3 from rfl, Nat.reduceMul, Nat.reduceEqDiff, Go.Addr.add, ↓reduceIte] at hx207_5)
                            have qi207 : (3 < t192.length) = True := eq_true (by omega)
                            (try rw [show ((3 : Int)).toNat = 3 from rfl] at hx207_0)
                            (try rw [show 3 * 6 = 18 from rfl] at hx207_0)
                            (try rw [show ((3 : Int)).toNat = 3 from rfl] at hx207_1)
                            (try rw [show 3 * 6 = 18 from rfl] at hx207_1)
                            (try rw [show ((3 : Int)).toNat = 3 from rfl] at hx207_2)
                            (try rw [show 3 * 6 = 18 from rfl] at hx207_2)
                            (try rw [show ((3 : Int)).toNat = 3 from rfl] at hx207_3)
                            (try rw [show 3 * 6 = 18 from rfl] at hx207_3)
                            (try rw [show ((3 : Int)).toNat = 3 from rfl] at hx207_4)
                            (try rw [show 3 * 6 = 18 from rfl] at hx207_4)
                            (try rw [show ((3 : Int)).toNat = 3 from rfl] at hx207_5)
                            (try rw [show 3 * 6 = 18 from rfl] at hx207_5)
                            replace p207 := eq_true p207
                            replace q207 := eq_true q207
                            have p208 : 0 ≤ (5 : Int) := (by omega)
                            have q208 : 5 < (t192.length : Int) := of_decide_eq_true (by first | (with_reducible assumption) | assumption)
                            obtain ⟨ad208, e208, hx208_0, hx208_1, hx208_2, hx208_3, hx208_4, hx208_5⟩ := at_T37 (Kd.R_reads' HO_1.out).2.2 5 p208 q208
                            obtain rfl : ad206 = ad208 := (by injection e208)
                            (try simp only [show (5 : Int).toNat = 5 from rfl, Nat.reduceMul, Nat.reduceEqDiff, Go.Addr.add, ↓reduceIte] at hx208_0)
                            (try simp only [show (5 : Int).toNat = 5 from rfl, Nat.reduceMul, Nat.reduceEqDiff, Go.Addr.add, ↓reduceIte] at hx208_1)
                            (try simp only [show (5 : Int).toNat = 5 from rfl, Nat.reduceMul, Nat.reduceEqDiff, Go.Addr.add, ↓reduceIte] at hx208_2)
                            (try simp only [show (5 : Int).toNat = 5 from rfl, Nat.reduceMul, Nat.reduceEqDiff, Go.Addr.add, ↓reduceIte] at hx208_3)
                            (try simp only [show (5 : Int).toNat = 5 from rfl, Nat.reduceMul, Nat.reduceEqDiff, Go.Addr.add, ↓reduceIte] at hx208_4)
                            (try simp only [show (5 : Int).toNat = 5 from rfl, Nat.reduceMul, Nat.reduceEqDiff, Go.Addr.add, ↓reduceIte] at hx208_5)
                            have qi208 : (5 < t192.length) = True := eq_true (by omega)
                            (try rw [show ((5 : Int)).toNat = 5 from rfl] at hx208_0)
                            (try rw [show 5 * 6 = 30 from rfl] at hx208_0)
                            (try rw [show ((5 : Int)).toNat = 5 from rfl] at hx208_1)
                            (try rw [show 5 * 6 = 30 from rfl] at hx208_1)
                            (try rw [show ((5 : Int)).toNat = 5 from rfl] at hx208_2)
                            (try rw [show 5 * 6 = 30 from rfl] at hx208_2)
                            (try rw [show ((5 : Int)).toNat = 5 from rfl] at hx208_3)
                            (try rw [show 5 * 6 = 30 from rfl] at hx208_3)
                            (try rw [show ((5 : Int)).toNat = 5 from rfl] at hx208_4)
                            (try rw [show 5 * 6 = 30 from rfl] at hx208_4)
                            (try rw [show ((5 : Int)).toNat = 5 from rfl] at hx208_5)
                            (try rw [show 5 * 6 = 30 from rfl] at hx208_5)
                            replace p208 := eq_true p208
                            replace q208 := eq_true q208
                            go_wp2_with (first | (go_at_call 11; (with_reducible refine (lex_IsName.calls kj4 (⟨#[97, 95, 45, 49]⟩ : ByteArray) true _ ?side1 A32.out).mono ?_); (case side1 => exact Inv.below HI_.out (by repeat (first | (with_reducible first | exact HB.out | apply below_alloc | apply pw_below_drewN | apply below_drew1) | exact HB.out))); rintro e w48 ⟨rfl, hb⟩; have n0_ := Aside0.mk (Kd.R_below (by (with_reducible repeat (first | apply Kd.R_alloc | apply Kd.R_drewN | apply Kd.R_drew)); exact HO_1.out) hb); have n1_ := Aside0.mk (below_step (by repeat (first | (with_reducible first | exact HB.out | apply below_alloc | apply pw_below_drewN | apply below_drew1) | exact HB.out)) hb); clear HO_1; clear HB; have HO_1 := n0_; have HB := n1_; clear n0_ n1_; (try clear hb); (try clear hb2); (try clear hk); (try clear hi)) | (go_at_call 11; (with_reducible refine (lex_IsName.calls kj4 (⟨#[119, 104, 101, 110]⟩ : ByteArray) false _ ?side1 A34.out).mono ?_); (case side1 => exact Inv.below HI_.out (by repeat (first | (with_reducible first | exact HB.out | apply below_alloc | apply pw_below_drewN | apply below_drew1) | exact HB.out))); rintro e w49 ⟨rfl, hb⟩; have n0_ := Aside0.mk (Kd.R_below (by (with_reducible repeat (first | apply Kd.R_alloc | apply Kd.R_drewN | apply Kd.R_drew)); exact HO_1.out) hb); have n1_ := Aside0.mk (below_step (by repeat (first | (with_reducible first | exact HB.out | apply below_alloc | apply pw_below_drewN | apply below_drew1) | exact HB.out)) hb); clear HO_1; clear HB; have HO_1 := n0_; have HB := n1_; clear n0_ n1_; (try clear hb); (try clear hb2); (try clear hk); (try clear hi)) | (go_at_call 9; (with_reducible refine (lex_IsWord.calls kj4 (⟨#[119, 104, 101, 110]⟩ : ByteArray) false _ ?side1 A39.out).mono ?_); (case side1 => exact Inv.below HI_.out (by repeat (first | (with_reducible first | exact HB.out | apply below_alloc | apply pw_below_drewN | apply below_drew1) | exact HB.out))); rintro e w50 ⟨rfl, hb⟩; have n0_ := Aside0.mk (Kd.R_below (by (with_reducible repeat (first | apply Kd.R_alloc | apply Kd.R_drewN | apply Kd.R_drew)); exact HO_1.out) hb); have n1_ := Aside0.mk (below_step (by repeat (first | (with_reducible first | exact HB.out | apply below_alloc | apply pw_below_drewN | apply below_drew1) | exact HB.out)) hb); clear HO_1; clear HB; have HO_1 := n0_; have HB := n1_; clear n0_ n1_; (try clear hb); (try clear hb2); (try clear hk); (try clear hi)))
                            go_ret
                            exact ⟨by first | rfl | (simp [errW_none, errW_some] <;> rfl) | (simp [*, errW_none, errW_some] <;> rfl), by repeat (first | (with_reducible first | exact HB.out | apply below_alloc | apply pw_below_drewN | apply below_drew1) | exact HB.out)⟩
                            all_goals (exfalso; rename_i hx_; first | (simp only [Bool.and_eq_true, beq_iff_eq] at c31b0; exact hx_ c31b0))
                    · replace c33 := Bool.eq_false_iff.mpr c33
                      subst c33
                      have H1 : (none) = some r := by rw [if_neg (show ¬ (false = true) by decide)] at H; exact H
                      clear H
                      have H := H1
                      clear H1
                      first
                      | (simp at H; done)
                      | obtain rfl := Option.some.inj H
                        obtain ⟨Ao51, co51, eo51⟩ := Kd.R_slice HO_1.out
                        subst eo51
                        have p206 : 0 ≤ (0 : Int) := (by omega)
                        have q206 : 0 < (t192.length : Int) := of_decide_eq_true (by first | (with_reducible assumption) | assumption)
                        obtain ⟨ad206, e206, hx206_0, hx206_1, hx206_2, hx206_3, hx206_4, hx206_5⟩ := at_T37 (Kd.R_reads' HO_1.out).2.2 0 p206 q206
                        cases e206
                        have qi206 : (0 < t192.length) = True := eq_true (by omega)
                        (try rw [show ((0 : Int)).toNat = 0 from rfl] at hx206_0)
                        (try rw [show 0 * 6 = 0 from rfl] at hx206_0)
                        (try rw [Addr.add_zero'] at hx206_0)
                        (try rw [show ((0 : Int)).toNat = 0 from rfl] at hx206_1)
                        (try rw [show 0 * 6 = 0 from rfl] at hx206_1)
                        (try rw [Addr.add_zero'] at hx206_1)
                        (try rw [show ((0 : Int)).toNat = 0 from rfl] at hx206_2)
                        (try rw [show 0 * 6 = 0 from rfl] at hx206_2)
                        (try rw [Addr.add_zero'] at hx206_2)
                        (try rw [show ((0 : Int)).toNat = 0 from rfl] at hx206_3)
                        (try rw [show 0 * 6 = 0 from rfl] at hx206_3)
                        (try rw [Addr.add_zero'] at hx206_3)
                        (try rw [show ((0 : Int)).toNat = 0 from rfl] at hx206_4)
                        (try rw [show 0 * 6 = 0 from rfl] at hx206_4)
                        (try rw [Addr.add_zero'] at hx206_4)
                        (try rw [show ((0 : Int)).toNat = 0 from rfl] at hx206_5)
                        (try rw [show 0 * 6 = 0 from rfl] at hx206_5)
                        (try rw [Addr.add_zero'] at hx206_5)
                        replace p206 := eq_true p206
                        replace q206 := eq_true q206
                        have p207 : 0 ≤ (3 : Int) := (by omega)
                        have q207 : 3 < (t192.length : Int) := of_decide_eq_true (by first | (with_reducible assumption) | assumption)
                        obtain ⟨ad207, e207, hx207_0, hx207_1, hx207_2, hx207_3, hx207_4, hx207_5⟩ := at_T37 (Kd.R_reads' HO_1.out).2.2 3 p207 q207
                        obtain rfl : ad206 = ad207 := (by injection e207)
                        (try simp only [show (3 : Int).toNat = 3 from rfl, Nat.reduceMul, Nat.reduceEqDiff, Go.Addr.add, ↓reduceIte] at hx207_0)
                        (try simp only [show (3 : Int).toNat = 3 from rfl, Nat.reduceMul, Nat.reduceEqDiff, Go.Addr.add, ↓reduceIte] at hx207_1)
                        (try simp only [show (3 : Int).toNat = 3 from rfl, Nat.reduceMul, Nat.reduceEqDiff, Go.Addr.add, ↓reduceIte] at hx207_2)
                        (try simp only [show (3 : Int).toNat = 3 from rfl, Nat.reduceMul, Nat.reduceEqDiff, Go.Addr.add, ↓reduceIte] at hx207_3)
                        (try simp only [show (3 : Int).toNat = 3 from rfl, Nat.reduceMul, Nat.reduceEqDiff, Go.Addr.add, ↓reduceIte] at hx207_4)
                        (try simp only [show (3 : Int).toNat = 3 from rfl, Nat.reduceMul, Nat.reduceEqDiff, Go.Addr.add, ↓reduceIte] at hx207_5)
                        have qi207 : (3 < t192.length) = True := eq_true (by omega)
                        (try rw [show ((3 : Int)).toNat = 3 from rfl] at hx207_0)
                        (try rw [show 3 * 6 = 18 from rfl] at hx207_0)
                        (try rw [show ((3 : Int)).toNat = 3 from rfl] at hx207_1)
                        (try rw [show 3 * 6 = 18 from rfl] at hx207_1)
                        (try rw [show ((3 : Int)).toNat = 3 from rfl] at hx207_2)
                        (try rw [show 3 * 6 = 18 from rfl] at hx207_2)
                        (try rw [show ((3 : Int)).toNat = 3 from rfl] at hx207_3)
                        (try rw [show 3 * 6 = 18 from rfl] at hx207_3)
                        (try rw [show ((3 : Int)).toNat = 3 from rfl] at hx207_4)
                        (try rw [show 3 * 6 = 18 from rfl] at hx207_4)
                        (try rw [show ((3 : Int)).toNat = 3 from rfl] at hx207_5)
                        (try rw [show 3 * 6 = 18 from rfl] at hx207_5)
                        replace p207 := eq_true p207
                        replace q207 := eq_true q207
                        have p208 : 0 ≤ (5 : Int) := (by omega)
                        have q208 : 5 < (t192.length : Int) := of_decide_eq_true (by first | (with_reducible assumption) | assumption)
                        obtain ⟨ad208, e208, hx208_0, hx208_1, hx208_2, hx208_3, hx208_4, hx208_5⟩ := at_T37 (Kd.R_reads' HO_1.out).2.2 5 p208 q208
                        obtain rfl : ad206 = ad208 := (by injection e208)
                        (try simp only [show (5 : Int).toNat = 5 from rfl, Nat.reduceMul, Nat.reduceEqDiff, Go.Addr.add, ↓reduceIte] at hx208_0)
                        (try simp only [show (5 : Int).toNat = 5 from rfl, Nat.reduceMul, Nat.reduceEqDiff, Go.Addr.add, ↓reduceIte] at hx208_1)
                        (try simp only [show (5 : Int).toNat = 5 from rfl, Nat.reduceMul, Nat.reduceEqDiff, Go.Addr.add, ↓reduceIte] at hx208_2)
                        (try simp only [show (5 : Int).toNat = 5 from rfl, Nat.reduceMul, Nat.reduceEqDiff, Go.Addr.add, ↓reduceIte] at hx208_3)
                        (try simp only [show (5 : Int).toNat = 5 from rfl, Nat.reduceMul, Nat.reduceEqDiff, Go.Addr.add, ↓reduceIte] at hx208_4)
                        (try simp only [show (5 : Int).toNat = 5 from rfl, Nat.reduceMul, Nat.reduceEqDiff, Go.Addr.add, ↓reduceIte] at hx208_5)
                        have qi208 : (5 < t192.length) = True := eq_true (by omega)
                        (try rw [show ((5 : Int)).toNat = 5 from rfl] at hx208_0)
                        (try rw [show 5 * 6 = 30 from rfl] at hx208_0)
                        (try rw [show ((5 : Int)).toNat = 5 from rfl] at hx208_1)
                        (try rw [show 5 * 6 = 30 from rfl] at hx208_1)
                        (try rw [show ((5 : Int)).toNat = 5 from rfl] at hx208_2)
                        (try rw [show 5 * 6 = 30 from rfl] at hx208_2)
                        (try rw [show ((5 : Int)).toNat = 5 from rfl] at hx208_3)
                        (try rw [show 5 * 6 = 30 from rfl] at hx208_3)
                        (try rw [show ((5 : Int)).toNat = 5 from rfl] at hx208_4)
                        (try rw [show 5 * 6 = 30 from rfl] at hx208_4)
                        (try rw [show ((5 : Int)).toNat = 5 from rfl] at hx208_5)
                        (try rw [show 5 * 6 = 30 from rfl] at hx208_5)
                        replace p208 := eq_true p208
                        replace q208 := eq_true q208
                        go_wp2_with (first | (go_at_call 11; (with_reducible refine (lex_IsName.calls kj4 (⟨#[97, 95, 45, 49]⟩ : ByteArray) false _ ?side1 A32.out).mono ?_); (case side1 => exact Inv.below HI_.out (by repeat (first | (with_reducible first | exact HB.out | apply below_alloc | apply pw_below_drewN | apply below_drew1) | exact HB.out))); rintro e w52 ⟨rfl, hb⟩; have n0_ := Aside0.mk (Kd.R_below (by (with_reducible repeat (first | apply Kd.R_alloc | apply Kd.R_drewN | apply Kd.R_drew)); exact HO_1.out) hb); have n1_ := Aside0.mk (below_step (by repeat (first | (with_reducible first | exact HB.out | apply below_alloc | apply pw_below_drewN | apply below_drew1) | exact HB.out)) hb); clear HO_1; clear HB; have HO_1 := n0_; have HB := n1_; clear n0_ n1_; (try clear hb); (try clear hb2); (try clear hk); (try clear hi)))
                        go_ret
                        exact ⟨by first | rfl | (simp [errW_none, errW_some] <;> rfl) | (simp [*, errW_none, errW_some] <;> rfl), by repeat (first | (with_reducible first | exact HB.out | apply below_alloc | apply pw_below_drewN | apply below_drew1) | exact HB.out)⟩
                        all_goals (exfalso; rename_i hx_; first | (simp only [Bool.and_eq_true, beq_iff_eq] at c31b0; exact hx_ c31b0))
                  · rw [if_neg c31] at H
                    have c31b0 : (((rd_T37 t192 5).f0) == 8 && ((((rd_T37 t192 5).f1).toList) == ([] : List UInt8) && (((rd_T37 t192 5).f2) == 0 && ((((rd_T37 t192 5).f3.f0) == 0 && (((rd_T37 t192 5).f3.f1) == 0)) && (((rd_T37 t192 5).f4) == 21))))) = false := by simpa using c31
                    (try (have c31b1 : decide (((rd_T37 t192 5).f0) = 8 && ((((rd_T37 t192 5).f1).toList) == ([] : List UInt8) && (((rd_T37 t192 5).f2) == 0 && ((((rd_T37 t192 5).f3.f0) == 0 && (((rd_T37 t192 5).f3.f1) == 0)) && (((rd_T37 t192 5).f4) == 21))))) = false := by simpa using c31))
                    (try (have c31b2 : (((rd_T37 t192 5).f0) == 8 && ((((rd_T37 t192 5).f1).toList) == ([] : List UInt8) && (((rd_T37 t192 5).f2) == 0 && ((((rd_T37 t192 5).f3.f0) == 0 && (((rd_T37 t192 5).f3.f1) == 0)) && (((rd_T37 t192 5).f4) == 21))))) = false := by simpa using c31))
                    (try (have c31b3 : ¬ (((rd_T37 t192 5).f0) = 8 && ((((rd_T37 t192 5).f1).toList) == ([] : List UInt8) && (((rd_T37 t192 5).f2) == 0 && ((((rd_T37 t192 5).f3.f0) == 0 && (((rd_T37 t192 5).f3.f1) == 0)) && (((rd_T37 t192 5).f4) == 21))))) := by simpa using c31))
                    clear c31
                    first
                    | (simp at H; done)
                    | obtain rfl := Option.some.inj H
                      obtain ⟨Ao53, co53, eo53⟩ := Kd.R_slice HO_1.out
                      subst eo53
                      have p206 : 0 ≤ (0 : Int) := (by omega)
                      have q206 : 0 < (t192.length : Int) := of_decide_eq_true (by first | (with_reducible assumption) | assumption)
                      obtain ⟨ad206, e206, hx206_0, hx206_1, hx206_2, hx206_3, hx206_4, hx206_5⟩ := at_T37 (Kd.R_reads' HO_1.out).2.2 0 p206 q206
                      cases e206
                      have qi206 : (0 < t192.length) = True := eq_true (by omega)
                      (try rw [show ((0 : Int)).toNat = 0 from rfl] at hx206_0)
                      (try rw [show 0 * 6 = 0 from rfl] at hx206_0)
                      (try rw [Addr.add_zero'] at hx206_0)
                      (try rw [show ((0 : Int)).toNat = 0 from rfl] at hx206_1)
                      (try rw [show 0 * 6 = 0 from rfl] at hx206_1)
                      (try rw [Addr.add_zero'] at hx206_1)
                      (try rw [show ((0 : Int)).toNat = 0 from rfl] at hx206_2)
                      (try rw [show 0 * 6 = 0 from rfl] at hx206_2)
                      (try rw [Addr.add_zero'] at hx206_2)
                      (try rw [show ((0 : Int)).toNat = 0 from rfl] at hx206_3)
                      (try rw [show 0 * 6 = 0 from rfl] at hx206_3)
                      (try rw [Addr.add_zero'] at hx206_3)
                      (try rw [show ((0 : Int)).toNat = 0 from rfl] at hx206_4)
                      (try rw [show 0 * 6 = 0 from rfl] at hx206_4)
                      (try rw [Addr.add_zero'] at hx206_4)
                      (try rw [show ((0 : Int)).toNat = 0 from rfl] at hx206_5)
                      (try rw [show 0 * 6 = 0 from rfl] at hx206_5)
                      (try rw [Addr.add_zero'] at hx206_5)
                      replace p206 := eq_true p206
                      replace q206 := eq_true q206
                      have p207 : 0 ≤ (3 : Int) := (by omega)
                      have q207 : 3 < (t192.length : Int) := of_decide_eq_true (by first | (with_reducible assumption) | assumption)
                      obtain ⟨ad207, e207, hx207_0, hx207_1, hx207_2, hx207_3, hx207_4, hx207_5⟩ := at_T37 (Kd.R_reads' HO_1.out).2.2 3 p207 q207
                      obtain rfl : ad206 = ad207 := (by injection e207)
                      (try simp only [show (3 : Int).toNat = 3 from rfl, Nat.reduceMul, Nat.reduceEqDiff, Go.Addr.add, ↓reduceIte] at hx207_0)
                      (try simp only [show (3 : Int).toNat = 3 from rfl, Nat.reduceMul, Nat.reduceEqDiff, Go.Addr.add, ↓reduceIte] at hx207_1)
                      (try simp only [show (3 : Int).toNat = 3 from rfl, Nat.reduceMul, Nat.reduceEqDiff, Go.Addr.add, ↓reduceIte] at hx207_2)
                      (try simp only [show (3 : Int).toNat = 3 from rfl, Nat.reduceMul, Nat.reduceEqDiff, Go.Addr.add, ↓reduceIte] at hx207_3)
                      (try simp only [show (3 : Int).toNat = 3 from rfl, Nat.reduceMul, Nat.reduceEqDiff, Go.Addr.add, ↓reduceIte] at hx207_4)
                      (try simp only [show (3 : Int).toNat = 3 from rfl, Nat.reduceMul, Nat.reduceEqDiff, Go.Addr.add, ↓reduceIte] at hx207_5)
                      have qi207 : (3 < t192.length) = True := eq_true (by omega)
                      (try rw [show ((3 : Int)).toNat = 3 from rfl] at hx207_0)
                      (try rw [show 3 * 6 = 18 from rfl] at hx207_0)
                      (try rw [show ((3 : Int)).toNat = 3 from rfl] at hx207_1)
                      (try rw [show 3 * 6 = 18 from rfl] at hx207_1)
                      (try rw [show ((3 : Int)).toNat = 3 from rfl] at hx207_2)
                      (try rw [show 3 * 6 = 18 from rfl] at hx207_2)
                      (try rw [show ((3 : Int)).toNat = 3 from rfl] at hx207_3)
                      (try rw [show 3 * 6 = 18 from rfl] at hx207_3)
                      (try rw [show ((3 : Int)).toNat = 3 from rfl] at hx207_4)
                      (try rw [show 3 * 6 = 18 from rfl] at hx207_4)
                      (try rw [show ((3 : Int)).toNat = 3 from rfl] at hx207_5)
                      (try rw [show 3 * 6 = 18 from rfl] at hx207_5)
                      replace p207 := eq_true p207
                      replace q207 := eq_true q207
                      have p208 : 0 ≤ (5 : Int) := (by omega)
                      have q208 : 5 < (t192.length : Int) := of_decide_eq_true (by first | (with_reducible assumption) | assumption)
                      obtain ⟨ad208, e208, hx208_0, hx208_1, hx208_2, hx208_3, hx208_4, hx208_5⟩ := at_T37 (Kd.R_reads' HO_1.out).2.2 5 p208 q208
                      obtain rfl : ad206 = ad208 := (by injection e208)
                      (try simp only [show (5 : Int).toNat = 5 from rfl, Nat.reduceMul, Nat.reduceEqDiff, Go.Addr.add, ↓reduceIte] at hx208_0)
                      (try simp only [show (5 : Int).toNat = 5 from rfl, Nat.reduceMul, Nat.reduceEqDiff, Go.Addr.add, ↓reduceIte] at hx208_1)
                      (try simp only [show (5 : Int).toNat = 5 from rfl, Nat.reduceMul, Nat.reduceEqDiff, Go.Addr.add, ↓reduceIte] at hx208_2)
                      (try simp only [show (5 : Int).toNat = 5 from rfl, Nat.reduceMul, Nat.reduceEqDiff, Go.Addr.add, ↓reduceIte] at hx208_3)
                      (try simp only [show (5 : Int).toNat = 5 from rfl, Nat.reduceMul, Nat.reduceEqDiff, Go.Addr.add, ↓reduceIte] at hx208_4)
                      (try simp only [show (5 : Int).toNat = 5 from rfl, Nat.reduceMul, Nat.reduceEqDiff, Go.Addr.add, ↓reduceIte] at hx208_5)
                      have qi208 : (5 < t192.length) = True := eq_true (by omega)
                      (try rw [show ((5 : Int)).toNat = 5 from rfl] at hx208_0)
                      (try rw [show 5 * 6 = 30 from rfl] at hx208_0)
                      (try rw [show ((5 : Int)).toNat = 5 from rfl] at hx208_1)
                      (try rw [show 5 * 6 = 30 from rfl] at hx208_1)
                      (try rw [show ((5 : Int)).toNat = 5 from rfl] at hx208_2)
                      (try rw [show 5 * 6 = 30 from rfl] at hx208_2)
                      (try rw [show ((5 : Int)).toNat = 5 from rfl] at hx208_3)
                      (try rw [show 5 * 6 = 30 from rfl] at hx208_3)
                      (try rw [show ((5 : Int)).toNat = 5 from rfl] at hx208_4)
                      (try rw [show 5 * 6 = 30 from rfl] at hx208_4)
                      (try rw [show ((5 : Int)).toNat = 5 from rfl] at hx208_5)
                      (try rw [show 5 * 6 = 30 from rfl] at hx208_5)
                      replace p208 := eq_true p208
                      replace q208 := eq_true q208
                      go_wp2
                      go_ret
                      exact ⟨by first | rfl | (simp [errW_none, errW_some] <;> rfl) | (simp [*, errW_none, errW_some] <;> rfl), by repeat (first | (with_reducible first | exact HB.out | apply below_alloc | apply pw_below_drewN | apply below_drew1) | exact HB.out)⟩
                      all_goals (exfalso; rename_i hx_; first | (simp only [Bool.and_eq_true, beq_iff_eq] at c31b0; exact hx_ c31b0))
                · rw [if_neg c30] at H
                  exact absurd H (by simp)
              · rw [if_neg c29] at H
                have c29b0 : (((rd_T37 t192 3).f0) == 6 && ((((rd_T37 t192 3).f1).toList) == ([120, 34, 121] : List UInt8) && (((rd_T37 t192 3).f2) == 0 && ((((rd_T37 t192 3).f3.f0) == 0 && (((rd_T37 t192 3).f3.f1) == 0)) && (((rd_T37 t192 3).f4) == 10))))) = false := by simpa using c29
                (try (have c29b1 : decide (((rd_T37 t192 3).f0) = 6 && ((((rd_T37 t192 3).f1).toList) == ([120, 34, 121] : List UInt8) && (((rd_T37 t192 3).f2) == 0 && ((((rd_T37 t192 3).f3.f0) == 0 && (((rd_T37 t192 3).f3.f1) == 0)) && (((rd_T37 t192 3).f4) == 10))))) = false := by simpa using c29))
                (try (have c29b2 : (((rd_T37 t192 3).f0) == 6 && ((((rd_T37 t192 3).f1).toList) == ([120, 34, 121] : List UInt8) && (((rd_T37 t192 3).f2) == 0 && ((((rd_T37 t192 3).f3.f0) == 0 && (((rd_T37 t192 3).f3.f1) == 0)) && (((rd_T37 t192 3).f4) == 10))))) = false := by simpa using c29))
                (try (have c29b3 : ¬ (((rd_T37 t192 3).f0) = 6 && ((((rd_T37 t192 3).f1).toList) == ([120, 34, 121] : List UInt8) && (((rd_T37 t192 3).f2) == 0 && ((((rd_T37 t192 3).f3.f0) == 0 && (((rd_T37 t192 3).f3.f1) == 0)) && (((rd_T37 t192 3).f4) == 10))))) := by simpa using c29))
                clear c29
                first
                | (simp at H; done)
                | obtain rfl := Option.some.inj H
                  obtain ⟨Ao54, co54, eo54⟩ := Kd.R_slice HO_1.out
                  subst eo54
                  have p206 : 0 ≤ (0 : Int) := (by omega)
                  have q206 : 0 < (t192.length : Int) := of_decide_eq_true (by first | (with_reducible assumption) | assumption)
                  obtain ⟨ad206, e206, hx206_0, hx206_1, hx206_2, hx206_3, hx206_4, hx206_5⟩ := at_T37 (Kd.R_reads' HO_1.out).2.2 0 p206 q206
                  cases e206
                  have qi206 : (0 < t192.length) = True := eq_true (by omega)
                  (try rw [show ((0 : Int)).toNat = 0 from rfl] at hx206_0)
                  (try rw [show 0 * 6 = 0 from rfl] at hx206_0)
                  (try rw [Addr.add_zero'] at hx206_0)
                  (try rw [show ((0 : Int)).toNat = 0 from rfl] at hx206_1)
                  (try rw [show 0 * 6 = 0 from rfl] at hx206_1)
                  (try rw [Addr.add_zero'] at hx206_1)
                  (try rw [show ((0 : Int)).toNat = 0 from rfl] at hx206_2)
                  (try rw [show 0 * 6 = 0 from rfl] at hx206_2)
                  (try rw [Addr.add_zero'] at hx206_2)
                  (try rw [show ((0 : Int)).toNat = 0 from rfl] at hx206_3)
                  (try rw [show 0 * 6 = 0 from rfl] at hx206_3)
                  (try rw [Addr.add_zero'] at hx206_3)
                  (try rw [show ((0 : Int)).toNat = 0 from rfl] at hx206_4)
                  (try rw [show 0 * 6 = 0 from rfl] at hx206_4)
                  (try rw [Addr.add_zero'] at hx206_4)
                  (try rw [show ((0 : Int)).toNat = 0 from rfl] at hx206_5)
                  (try rw [show 0 * 6 = 0 from rfl] at hx206_5)
                  (try rw [Addr.add_zero'] at hx206_5)
                  replace p206 := eq_true p206
                  replace q206 := eq_true q206
                  have p207 : 0 ≤ (3 : Int) := (by omega)
                  have q207 : 3 < (t192.length : Int) := of_decide_eq_true (by first | (with_reducible assumption) | assumption)
                  obtain ⟨ad207, e207, hx207_0, hx207_1, hx207_2, hx207_3, hx207_4, hx207_5⟩ := at_T37 (Kd.R_reads' HO_1.out).2.2 3 p207 q207
                  obtain rfl : ad206 = ad207 := (by injection e207)
                  (try simp only [show (3 : Int).toNat = 3 from rfl, Nat.reduceMul, Nat.reduceEqDiff, Go.Addr.add, ↓reduceIte] at hx207_0)
                  (try simp only [show (3 : Int).toNat = 3 from rfl, Nat.reduceMul, Nat.reduceEqDiff, Go.Addr.add, ↓reduceIte] at hx207_1)
                  (try simp only [show (3 : Int).toNat = 3 from rfl, Nat.reduceMul, Nat.reduceEqDiff, Go.Addr.add, ↓reduceIte] at hx207_2)
                  (try simp only [show (3 : Int).toNat = 3 from rfl, Nat.reduceMul, Nat.reduceEqDiff, Go.Addr.add, ↓reduceIte] at hx207_3)
                  (try simp only [show (3 : Int).toNat = 3 from rfl, Nat.reduceMul, Nat.reduceEqDiff, Go.Addr.add, ↓reduceIte] at hx207_4)
                  (try simp only [show (3 : Int).toNat = 3 from rfl, Nat.reduceMul, Nat.reduceEqDiff, Go.Addr.add, ↓reduceIte] at hx207_5)
                  have qi207 : (3 < t192.length) = True := eq_true (by omega)
                  (try rw [show ((3 : Int)).toNat = 3 from rfl] at hx207_0)
                  (try rw [show 3 * 6 = 18 from rfl] at hx207_0)
                  (try rw [show ((3 : Int)).toNat = 3 from rfl] at hx207_1)
                  (try rw [show 3 * 6 = 18 from rfl] at hx207_1)
                  (try rw [show ((3 : Int)).toNat = 3 from rfl] at hx207_2)
                  (try rw [show 3 * 6 = 18 from rfl] at hx207_2)
                  (try rw [show ((3 : Int)).toNat = 3 from rfl] at hx207_3)
                  (try rw [show 3 * 6 = 18 from rfl] at hx207_3)
                  (try rw [show ((3 : Int)).toNat = 3 from rfl] at hx207_4)
                  (try rw [show 3 * 6 = 18 from rfl] at hx207_4)
                  (try rw [show ((3 : Int)).toNat = 3 from rfl] at hx207_5)
                  (try rw [show 3 * 6 = 18 from rfl] at hx207_5)
                  replace p207 := eq_true p207
                  replace q207 := eq_true q207
                  go_wp2
                  go_ret
                  exact ⟨by first | rfl | (simp [errW_none, errW_some] <;> rfl) | (simp [*, errW_none, errW_some] <;> rfl), by repeat (first | (with_reducible first | exact HB.out | apply below_alloc | apply pw_below_drewN | apply below_drew1) | exact HB.out)⟩
                  all_goals (exfalso; rename_i hx_; first | (simp only [Bool.and_eq_true, beq_iff_eq] at c31b0; exact hx_ c31b0))
            · rw [if_neg c28] at H
              exact absurd H (by simp)
          · rw [if_neg c27] at H
            have c27b0 : (((rd_T37 t192 0).f0) == 1 && ((((rd_T37 t192 0).f1).toList) == ([108, 101, 116] : List UInt8) && (((rd_T37 t192 0).f2) == 0 && ((((rd_T37 t192 0).f3.f0) == 0 && (((rd_T37 t192 0).f3.f1) == 0)) && (((rd_T37 t192 0).f4) == 0))))) = false := by simpa using c27
            (try (have c27b1 : decide (((rd_T37 t192 0).f0) = 1 && ((((rd_T37 t192 0).f1).toList) == ([108, 101, 116] : List UInt8) && (((rd_T37 t192 0).f2) == 0 && ((((rd_T37 t192 0).f3.f0) == 0 && (((rd_T37 t192 0).f3.f1) == 0)) && (((rd_T37 t192 0).f4) == 0))))) = false := by simpa using c27))
            (try (have c27b2 : (((rd_T37 t192 0).f0) == 1 && ((((rd_T37 t192 0).f1).toList) == ([108, 101, 116] : List UInt8) && (((rd_T37 t192 0).f2) == 0 && ((((rd_T37 t192 0).f3.f0) == 0 && (((rd_T37 t192 0).f3.f1) == 0)) && (((rd_T37 t192 0).f4) == 0))))) = false := by simpa using c27))
            (try (have c27b3 : ¬ (((rd_T37 t192 0).f0) = 1 && ((((rd_T37 t192 0).f1).toList) == ([108, 101, 116] : List UInt8) && (((rd_T37 t192 0).f2) == 0 && ((((rd_T37 t192 0).f3.f0) == 0 && (((rd_T37 t192 0).f3.f1) == 0)) && (((rd_T37 t192 0).f4) == 0))))) := by simpa using c27))
            clear c27
            first
            | (simp at H; done)
            | obtain rfl := Option.some.inj H
              obtain ⟨Ao55, co55, eo55⟩ := Kd.R_slice HO_1.out
              subst eo55
              have p206 : 0 ≤ (0 : Int) := (by omega)
              have q206 : 0 < (t192.length : Int) := of_decide_eq_true (by first | (with_reducible assumption) | assumption)
              obtain ⟨ad206, e206, hx206_0, hx206_1, hx206_2, hx206_3, hx206_4, hx206_5⟩ := at_T37 (Kd.R_reads' HO_1.out).2.2 0 p206 q206
              cases e206
              have qi206 : (0 < t192.length) = True := eq_true (by omega)
              (try rw [show ((0 : Int)).toNat = 0 from rfl] at hx206_0)
              (try rw [show 0 * 6 = 0 from rfl] at hx206_0)
              (try rw [Addr.add_zero'] at hx206_0)
              (try rw [show ((0 : Int)).toNat = 0 from rfl] at hx206_1)
              (try rw [show 0 * 6 = 0 from rfl] at hx206_1)
              (try rw [Addr.add_zero'] at hx206_1)
              (try rw [show ((0 : Int)).toNat = 0 from rfl] at hx206_2)
              (try rw [show 0 * 6 = 0 from rfl] at hx206_2)
              (try rw [Addr.add_zero'] at hx206_2)
              (try rw [show ((0 : Int)).toNat = 0 from rfl] at hx206_3)
              (try rw [show 0 * 6 = 0 from rfl] at hx206_3)
              (try rw [Addr.add_zero'] at hx206_3)
              (try rw [show ((0 : Int)).toNat = 0 from rfl] at hx206_4)
              (try rw [show 0 * 6 = 0 from rfl] at hx206_4)
              (try rw [Addr.add_zero'] at hx206_4)
              (try rw [show ((0 : Int)).toNat = 0 from rfl] at hx206_5)
              (try rw [show 0 * 6 = 0 from rfl] at hx206_5)
              (try rw [Addr.add_zero'] at hx206_5)
              replace p206 := eq_true p206
              replace q206 := eq_true q206
              go_wp2
              go_ret
              exact ⟨by first | rfl | (simp [errW_none, errW_some] <;> rfl) | (simp [*, errW_none, errW_some] <;> rfl), by repeat (first | (with_reducible first | exact HB.out | apply below_alloc | apply pw_below_drewN | apply below_drew1) | exact HB.out)⟩
              all_goals (exfalso; rename_i hx_; first | (simp only [Bool.and_eq_true, beq_iff_eq] at c31b0; exact hx_ c31b0))
        · rw [if_neg c26] at H
          exact absurd H (by simp)

end Go.Proofs.YthllfnmebdjpfaaDoor.H

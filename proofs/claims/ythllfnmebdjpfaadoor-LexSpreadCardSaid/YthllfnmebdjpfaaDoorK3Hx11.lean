/- Contracts of Go functions as plain Lean functions, written by a program of this session (wip/hand) out of the translation. -/
import Derived.Test.YthllfnmebdjpfaaDoorK3Hx0
import Derived.Test.YthllfnmebdjpfaaDoorK3Hx1
import Derived.Test.YthllfnmebdjpfaaDoorK3Hx2
import Derived.Test.YthllfnmebdjpfaaDoorK3Hx4
import Derived.Test.YthllfnmebdjpfaaDoorK3Hx6
import Derived.Test.YthllfnmebdjpfaaDoorK3Hx8
import Derived.Test.YthllfnmebdjpfaaDoorK3Hx10
namespace Go.Proofs.YthllfnmebdjpfaaDoor.H
open Go.RowKit Go.Proofs.YthllfnmebdjpfaaDoor.Hand Go.Proofs.YthllfnmebdjpfaaDoorW.PrintWords Go.Proofs.YthllfnmebdjpfaaDoorW.PrintLast Go.Proofs.YthllfnmebdjpfaaDoorW.PrintMore
attribute [local go_sem] max2_int min2_int max_two min_two max_three min_three max_four min_four   -- for this text's walks alone
set_option linter.unusedVariables false
set_option linter.unusedSimpArgs false

attribute [local go_sem high] eqA37
mutual
def lychgatelaw08_LexSpread.j1 : Nat → ByteArray → ByteArray → Bool → Option (Bool)
  | 0, _, _, _ => none
  | k + 1, x1, x2, x7 => (lex_Quote.f k x1).bind fun bt340 => ((lex_Scan.f k bt340.1).bind fun bt342 => (if bt340.2 = 0 then (if bt342.2.1 = 0 then (if (bt342.1.length : Int) = 2 then (if 0 < (bt342.1.length : Int) then (if (!(((rd_T37 bt342.1 0).f0) == 6) || (!((((rd_T37 bt342.1 0).f1).toList) == x1.toList) || (!(((rd_T37 bt342.1 0).f2) == 0) || ((!(((rd_T37 bt342.1 0).f3.f0) == 0) || (!(((rd_T37 bt342.1 0).f3.f1) == 0))) || (!(((rd_T37 bt342.1 0).f4) == 0)))))) = true then (lychgatelaw08_LexSpread.j2 k x2 x7 true) else (if 1 < (bt342.1.length : Int) then (lychgatelaw08_LexSpread.j2 k x2 x7 (((rd_T37 bt342.1 1).f4) != (bt340.1.size : Int))) else (none))) else (none)) else (lychgatelaw08_LexSpread.j2 k x2 x7 true)) else (lychgatelaw08_LexSpread.j2 k x2 x7 true)) else (lychgatelaw08_LexSpread.j2 k x2 x7 false)))
def lychgatelaw08_LexSpread.j2 : Nat → ByteArray → Bool → Bool → Option (Bool)
  | 0, _, _, _ => none
  | k + 1, x2, x7, x146 => if x146 = true then (none) else ((lex_IsWord.f k x2).bind fun t349 => ((lex_IsName.f k x2).bind fun t350 => ((lex_Scan.f k x2).bind fun bt351 => (if bt351.2.1 = 0 then (if (bt351.1.length : Int) = 2 then (if 0 < (bt351.1.length : Int) then (if ((rd_T37 bt351.1 0).f1).toList = x2.toList then (if ((rd_T37 bt351.1 0).f4) = 0 then (if 1 < (bt351.1.length : Int) then (if x7 = true then (if t349 = true then (if t350 = true then (none) else (if ((rd_T37 bt351.1 1).f4) = (x2.size : Int) then (if (t349 == (((rd_T37 bt351.1 0).f0) == 1)) = true then (some (t350 == (((rd_T37 bt351.1 0).f0) == 2))) else (none)) else (if (t349 == false) = true then (some (t350 == false)) else (none)))) else (if ((rd_T37 bt351.1 1).f4) = (x2.size : Int) then (if (t349 == (((rd_T37 bt351.1 0).f0) == 1)) = true then (some (t350 == (((rd_T37 bt351.1 0).f0) == 2))) else (none)) else (if (t349 == false) = true then (some (t350 == false)) else (none)))) else (none)) else (none)) else (if x7 = true then (if t349 = true then (if t350 = true then (none) else (if (t349 == false) = true then (some (t350 == false)) else (none))) else (if (t349 == false) = true then (some (t350 == false)) else (none))) else (none))) else (if x7 = true then (if t349 = true then (if t350 = true then (none) else (if (t349 == false) = true then (some (t350 == false)) else (none))) else (if (t349 == false) = true then (some (t350 == false)) else (none))) else (none))) else (none)) else (if x7 = true then (if t349 = true then (if t350 = true then (none) else (if (t349 == false) = true then (some (t350 == false)) else (none))) else (if (t349 == false) = true then (some (t350 == false)) else (none))) else (none))) else (if x7 = true then (if t349 = true then (if t350 = true then (none) else (if (t349 == false) = true then (some (t350 == false)) else (none))) else (if (t349 == false) = true then (some (t350 == false)) else (none))) else (none))))))
def lychgatelaw08_LexSpread.l0 : Nat → ByteArray → ByteArray → ByteArray → Bool → List (S37) → List Int → Int → Option (Bool)
  | 0, _, _, _, _, _, _, _ => none
  | k + 1, x0, x1, x2, x7, x8, x11, x12 => if (wrap64 (x12 + 1)) < (x8.length : Int) then (if 0 ≤ x12 then (if x12 < (x8.length : Int) then (if 0 ≤ (wrap64 (x12 + 1)) then (if 0 ≤ ((rd_T37 x8 x12).f4) then (if ((rd_T37 x8 x12).f4) ≤ ((rd_T37 x8 (wrap64 (x12 + 1))).f4) then (if ((rd_T37 x8 (wrap64 (x12 + 1))).f4) ≤ (x0.size : Int) then (if x11.length + (x0.extract (((rd_T37 x8 x12).f4) : Int).toNat (((rd_T37 x8 (wrap64 (x12 + 1))).f4) : Int).toNat).size < 140737488355328 then ((some (x11 ++ bytesOf (x0.extract (((rd_T37 x8 x12).f4) : Int).toNat (((rd_T37 x8 (wrap64 (x12 + 1))).f4) : Int).toNat) : List Int)).bind fun y322 => (if (Int.tmod x12 2) = 0 then (if y322.length < 140737488355328 then (lychgatelaw08_LexSpread.l0 k x0 x1 x2 x7 x8 (y322 ++ [10]) (wrap64 (x12 + 1))) else (none)) else ((some (([10, 32] : List Int) : List Int)).bind fun y328 => (if y322.length + y328.length < 140737488355328 then (lychgatelaw08_LexSpread.l0 k x0 x1 x2 x7 x8 (y322 ++ y328) (wrap64 (x12 + 1))) else (none))))) else (none)) else (none)) else (none)) else (none)) else (none)) else (none)) else (none)) else ((lex_Scan.f k (strOfNums x11)).bind fun bt334 => ((lychgatelaw08_alike.f k x8 bt334.1).bind fun t339 => (if (x11.length : Int) ≤ 8000 then (if bt334.2.1 = 0 then (if bt334.2.2 = 0 then (if t339 = true then (lychgatelaw08_LexSpread.j1 k x1 x2 x7) else (none)) else (none)) else (none)) else (lychgatelaw08_LexSpread.j1 k x1 x2 x7))))
end
def lychgatelaw08_LexSpread.f (k : Nat) (a0 : ByteArray) (a1 : ByteArray) (a2 : ByteArray) : Option (Bool) := (lychgatelaw08_add.f (a0.size : Int) (a0.size : Int)).bind fun t310 => ((lychgatelaw08_add.f (a1.size : Int) (a1.size : Int)).bind fun t311 => ((lychgatelaw08_add.f t311 (a2.size : Int)).bind fun t312 => ((lychgatelaw08_add.f t310 t312).bind fun t313 => (if t313 > 2147483647 then (some true) else ((lychgatelaw08_awake.f k).bind fun t314 => ((lex_Scan.f k a0).bind fun bt315 => (if bt315.2.1 = 0 then (lychgatelaw08_LexSpread.l0 k a0 a1 a2 t314 bt315.1 ([] : List Int) 0) else (if (bt315.1.length : Int) = 0 then (lychgatelaw08_LexSpread.j1 k a1 a2 t314) else (none)))))))))
def lychgatelaw08_LexSpread.T10 : Bool × List (List Nat × List Nat) := (true, [([], []), ([], []), ([], []), ([], []), ([2, 3], [2, 3]), ([4], [4]), ([5], [5]), ([], []), ([], []), ([8], [8]), ([7, 9], [7, 9]), ([10], [10]), ([11], [11]), ([1, 6, 12], [1, 6, 12]), ([0, 13], [0, 13]), ([14, 14, 0, 1, 2, 3, 4, 5, 6, 7, 8, 9, 10, 11, 12, 13, 14], [0, 14])])
def lychgatelaw08_LexSpread.B10 : List Nat := [0, 0, 0, 0, 12, 28, 60, 0, 0, 256, 896, 1920, 3968, 8190, 16383, 32767]
theorem lychgatelaw08_LexSpread.tab10 : rtab .any (opsOf Tryd.f4 10) = lychgatelaw08_LexSpread.T10 := by kernel_rfl
theorem lychgatelaw08_LexSpread.bits10 : waitsOk lychgatelaw08_LexSpread.T10.2 lychgatelaw08_LexSpread.B10 = true := by kernel_rfl
set_option maxHeartbeats 8000000 in
set_option maxRecDepth 100000 in
theorem lychgatelaw08_LexSpread.calls (k : Nat) (a0 : ByteArray) (a1 : ByteArray) (a2 : ByteArray) (r : Bool) (w : World) (hInv : Inv w) (h : lychgatelaw08_LexSpread.f k a0 a1 a2 = some r) :
    Calls Tryd.prog 4 #[.string a0, .string a1, .string a2] w fun e w' => e = .returned (.bool r) ∧ Below w.heap.size w w' := by
  have hu37 := Tryd.underlying37
  have HB := Aside0.mk (Below.refl w.heap.size w)
  have HI_ := Aside0.mk hInv
  clear hInv
  have H : ((lychgatelaw08_add.f (a0.size : Int) (a0.size : Int)).bind fun t310 => ((lychgatelaw08_add.f (a1.size : Int) (a1.size : Int)).bind fun t311 => ((lychgatelaw08_add.f t311 (a2.size : Int)).bind fun t312 => ((lychgatelaw08_add.f t310 t312).bind fun t313 => (if t313 > 2147483647 then (some true) else ((lychgatelaw08_awake.f k).bind fun t314 => ((lex_Scan.f k a0).bind fun bt315 => (if bt315.2.1 = 0 then (lychgatelaw08_LexSpread.l0 k a0 a1 a2 t314 bt315.1 ([] : List Int) 0) else (if (bt315.1.length : Int) = 0 then (lychgatelaw08_LexSpread.j1 k a1 a2 t314) else (none)))))))))) = some r := h
  clear h
  replace H := Option.bind_eq_some_iff.mp H
  obtain ⟨t310, A40, H⟩ := H
  replace H : ((lychgatelaw08_add.f (a1.size : Int) (a1.size : Int)).bind fun t311 => ((lychgatelaw08_add.f t311 (a2.size : Int)).bind fun t312 => ((lychgatelaw08_add.f t310 t312).bind fun t313 => (if t313 > 2147483647 then (some true) else ((lychgatelaw08_awake.f k).bind fun t314 => ((lex_Scan.f k a0).bind fun bt315 => (if bt315.2.1 = 0 then (lychgatelaw08_LexSpread.l0 k a0 a1 a2 t314 bt315.1 ([] : List Int) 0) else (if (bt315.1.length : Int) = 0 then (lychgatelaw08_LexSpread.j1 k a1 a2 t314) else (none))))))))) = some r := H
  have A4 := Aside0.mk A40
  clear A40
  replace H := Option.bind_eq_some_iff.mp H
  obtain ⟨t311, A50, H⟩ := H
  replace H : ((lychgatelaw08_add.f t311 (a2.size : Int)).bind fun t312 => ((lychgatelaw08_add.f t310 t312).bind fun t313 => (if t313 > 2147483647 then (some true) else ((lychgatelaw08_awake.f k).bind fun t314 => ((lex_Scan.f k a0).bind fun bt315 => (if bt315.2.1 = 0 then (lychgatelaw08_LexSpread.l0 k a0 a1 a2 t314 bt315.1 ([] : List Int) 0) else (if (bt315.1.length : Int) = 0 then (lychgatelaw08_LexSpread.j1 k a1 a2 t314) else (none)))))))) = some r := H
  have A5 := Aside0.mk A50
  clear A50
  replace H := Option.bind_eq_some_iff.mp H
  obtain ⟨t312, A60, H⟩ := H
  replace H : ((lychgatelaw08_add.f t310 t312).bind fun t313 => (if t313 > 2147483647 then (some true) else ((lychgatelaw08_awake.f k).bind fun t314 => ((lex_Scan.f k a0).bind fun bt315 => (if bt315.2.1 = 0 then (lychgatelaw08_LexSpread.l0 k a0 a1 a2 t314 bt315.1 ([] : List Int) 0) else (if (bt315.1.length : Int) = 0 then (lychgatelaw08_LexSpread.j1 k a1 a2 t314) else (none))))))) = some r := H
  have A6 := Aside0.mk A60
  clear A60
  replace H := Option.bind_eq_some_iff.mp H
  obtain ⟨t313, A70, H⟩ := H
  replace H : (if t313 > 2147483647 then (some true) else ((lychgatelaw08_awake.f k).bind fun t314 => ((lex_Scan.f k a0).bind fun bt315 => (if bt315.2.1 = 0 then (lychgatelaw08_LexSpread.l0 k a0 a1 a2 t314 bt315.1 ([] : List Int) 0) else (if (bt315.1.length : Int) = 0 then (lychgatelaw08_LexSpread.j1 k a1 a2 t314) else (none)))))) = some r := H
  have A7 := Aside0.mk A70
  clear A70
  by_cases c8 : t313 > 2147483647
  · rw [if_pos c8] at H
    have c8b0 : decide (2147483647 < t313) = true := decide_eq_true c8
    clear c8
    as_aux_lemma =>
      first
      | (simp at H; done)
      | obtain rfl := Option.some.inj H
        go_enter Tryd.func4, Tryd.ntmps4
        go_wp2_with (first | ((with_reducible refine gate_callee (f := 13) rfl ?_); refine goesL_ (some 29) rfl rfl Tryd.func13 (by kernel_rfl) rfl #[.int .i64 (a0.size : Int), .int .i64 (a0.size : Int)] rfl (by (try simp only [List.map_toArray, List.map_cons, List.map_nil]); first | done | rfl | (simp only [List.length_drop, List.length_take]; rfl)) ?_; (with_reducible refine (lychgatelaw08_add.calls (a0.size : Int) (a0.size : Int) t310 _ A4.out).mono ?_); rintro e w' ⟨rfl, ⟨nd, rfl⟩⟩; refine ⟨_, rfl, ?_⟩) | ((with_reducible refine gate_callee (f := 13) rfl ?_); refine goesL_ (some 34) rfl rfl Tryd.func13 (by kernel_rfl) rfl #[.int .i64 (a1.size : Int), .int .i64 (a1.size : Int)] rfl (by (try simp only [List.map_toArray, List.map_cons, List.map_nil]); first | done | rfl | (simp only [List.length_drop, List.length_take]; rfl)) ?_; (with_reducible refine (lychgatelaw08_add.calls (a1.size : Int) (a1.size : Int) t311 _ A5.out).mono ?_); rintro e w' ⟨rfl, ⟨nd, rfl⟩⟩; refine ⟨_, rfl, ?_⟩) | ((with_reducible refine gate_callee (f := 13) rfl ?_); refine goesL_ (some 37) rfl rfl Tryd.func13 (by kernel_rfl) rfl #[.int .i64 t311, .int .i64 (a2.size : Int)] rfl (by (try simp only [List.map_toArray, List.map_cons, List.map_nil]); first | done | rfl | (simp only [List.length_drop, List.length_take]; rfl)) ?_; (with_reducible refine (lychgatelaw08_add.calls t311 (a2.size : Int) t312 _ A6.out).mono ?_); rintro e w' ⟨rfl, ⟨nd, rfl⟩⟩; refine ⟨_, rfl, ?_⟩) | ((with_reducible refine gate_callee (f := 13) rfl ?_); refine goesL_ (some 38) rfl rfl Tryd.func13 (by kernel_rfl) rfl #[.int .i64 t310, .int .i64 t312] rfl (by (try simp only [List.map_toArray, List.map_cons, List.map_nil]); first | done | rfl | (simp only [List.length_drop, List.length_take]; rfl)) ?_; (with_reducible refine (lychgatelaw08_add.calls t310 t312 t313 _ A7.out).mono ?_); rintro e w' ⟨rfl, ⟨nd, rfl⟩⟩; refine ⟨_, rfl, ?_⟩))
        go_ret
        exact ⟨by first | rfl | (simp [errW_none, errW_some] <;> rfl) | (simp [*, errW_none, errW_some] <;> rfl), by repeat (first | (with_reducible first | exact HB.out | apply below_alloc | apply pw_below_drewN | apply below_drew1) | exact HB.out)⟩
  · rw [if_neg c8] at H
    have c8b0 : decide (2147483647 < t313) = false := decide_eq_false c8
    clear c8
    replace H := Option.bind_eq_some_iff.mp H
    obtain ⟨t314, A90, H⟩ := H
    replace H : ((lex_Scan.f k a0).bind fun bt315 => (if bt315.2.1 = 0 then (lychgatelaw08_LexSpread.l0 k a0 a1 a2 t314 bt315.1 ([] : List Int) 0) else (if (bt315.1.length : Int) = 0 then (lychgatelaw08_LexSpread.j1 k a1 a2 t314) else (none)))) = some r := H
    have A9 := Aside0.mk A90
    clear A90
    replace H := Option.bind_eq_some_iff.mp H
    obtain ⟨⟨t315, t316, t317⟩, A100, H⟩ := H
    replace H : (if t316 = 0 then (lychgatelaw08_LexSpread.l0 k a0 a1 a2 t314 t315 ([] : List Int) 0) else (if (t315.length : Int) = 0 then (lychgatelaw08_LexSpread.j1 k a1 a2 t314) else (none))) = some r := H
    have A10 := Aside0.mk A100
    clear A100
    have HC11 := Aside0.mk H
    clear H
    go_enter Tryd.func4, Tryd.ntmps4
    go_upto_if 48 with (first | ((with_reducible refine gate_callee (f := 13) rfl ?_); refine goesL_ (some 29) rfl rfl Tryd.func13 (by kernel_rfl) rfl #[.int .i64 (a0.size : Int), .int .i64 (a0.size : Int)] rfl (by (try simp only [List.map_toArray, List.map_cons, List.map_nil]); first | done | rfl | (simp only [List.length_drop, List.length_take]; rfl)) ?_; (with_reducible refine (lychgatelaw08_add.calls (a0.size : Int) (a0.size : Int) t310 _ A4.out).mono ?_); rintro e w' ⟨rfl, ⟨nd, rfl⟩⟩; refine ⟨_, rfl, ?_⟩) | ((with_reducible refine gate_callee (f := 13) rfl ?_); refine goesL_ (some 34) rfl rfl Tryd.func13 (by kernel_rfl) rfl #[.int .i64 (a1.size : Int), .int .i64 (a1.size : Int)] rfl (by (try simp only [List.map_toArray, List.map_cons, List.map_nil]); first | done | rfl | (simp only [List.length_drop, List.length_take]; rfl)) ?_; (with_reducible refine (lychgatelaw08_add.calls (a1.size : Int) (a1.size : Int) t311 _ A5.out).mono ?_); rintro e w' ⟨rfl, ⟨nd, rfl⟩⟩; refine ⟨_, rfl, ?_⟩) | ((with_reducible refine gate_callee (f := 13) rfl ?_); refine goesL_ (some 37) rfl rfl Tryd.func13 (by kernel_rfl) rfl #[.int .i64 t311, .int .i64 (a2.size : Int)] rfl (by (try simp only [List.map_toArray, List.map_cons, List.map_nil]); first | done | rfl | (simp only [List.length_drop, List.length_take]; rfl)) ?_; (with_reducible refine (lychgatelaw08_add.calls t311 (a2.size : Int) t312 _ A6.out).mono ?_); rintro e w' ⟨rfl, ⟨nd, rfl⟩⟩; refine ⟨_, rfl, ?_⟩) | ((with_reducible refine gate_callee (f := 13) rfl ?_); refine goesL_ (some 38) rfl rfl Tryd.func13 (by kernel_rfl) rfl #[.int .i64 t310, .int .i64 t312] rfl (by (try simp only [List.map_toArray, List.map_cons, List.map_nil]); first | done | rfl | (simp only [List.length_drop, List.length_take]; rfl)) ?_; (with_reducible refine (lychgatelaw08_add.calls t310 t312 t313 _ A7.out).mono ?_); rintro e w' ⟨rfl, ⟨nd, rfl⟩⟩; refine ⟨_, rfl, ?_⟩) | ((with_reducible refine gate_callee (f := 6) rfl ?_); refine goesL_ (some 40) rfl rfl Tryd.func6 (by kernel_rfl) rfl #[] rfl (by (try simp only [List.map_toArray, List.map_cons, List.map_nil]); first | done | rfl | (simp only [List.length_drop, List.length_take]; rfl)) ?_; (with_reducible refine (lychgatelaw08_awake.calls k  t314 _ ?side1 A9.out).mono ?_); (case side1 => exact Inv.below HI_.out (by repeat (first | (with_reducible first | exact HB.out | apply below_alloc | apply pw_below_drewN | apply below_drew1) | exact HB.out))); rintro e w12 ⟨rfl, hb⟩; refine ⟨_, rfl, ?_⟩; have n0_ := Aside0.mk (below_step (by repeat (first | (with_reducible first | exact HB.out | apply below_alloc | apply pw_below_drewN | apply below_drew1) | exact HB.out)) hb); clear HB; have HB := n0_; clear n0_; (try clear hb); (try clear hb2); (try clear hk); (try clear hi)) | ((with_reducible refine gate_callee (f := 14) rfl ?_); refine goesL_ (some 43) rfl rfl Tryd.func14 (by kernel_rfl) rfl #[.string a0] rfl (by (try simp only [List.map_toArray, List.map_cons, List.map_nil]); first | done | rfl | (simp only [List.length_drop, List.length_take]; rfl)) ?_; (with_reducible refine (lex_Scan.calls k a0 t315 t316 t317 _ ?side1 A10.out).mono ?_); (case side1 => exact Inv.below HI_.out (by repeat (first | (with_reducible first | exact HB.out | apply below_alloc | apply pw_below_drewN | apply below_drew1) | exact HB.out))); rintro e w13 ⟨v318, rfl, ho0, hb⟩; refine ⟨_, rfl, ?_⟩; have n0_ := Aside0.mk (Kd.R_lower ho0 (below_size (by repeat (first | (with_reducible first | exact HB.out | apply below_alloc | apply pw_below_drewN | apply below_drew1) | exact HB.out)))); have n1_ := Aside0.mk (below_step (by repeat (first | (with_reducible first | exact HB.out | apply below_alloc | apply pw_below_drewN | apply below_drew1) | exact HB.out)) hb); clear HB; have HO319 := n0_; have HB := n1_; clear n0_ n1_; (try clear hb); (try clear hb2); (try clear hk); (try clear hi); (try clear ho0)))
    (try simp only [Act.put, List.setIfInBounds_toArray, List.set_cons_zero, List.set_cons_succ])
    go_cut [] (fun wc => ∃ (kq : Nat), Aside0 (lychgatelaw08_LexSpread.j1 kq a1 a2 t314 = some r) ∧ Aside0 (kq ≤ k) ∧ Aside0 (Below w.heap.size w wc))
    case first =>
      have H := HC11.out
      clear HC11
      by_cases c14 : t316 = 0
      · rw [if_pos c14] at H
        have c14b0 : (t316 == 0) = true := beq_iff_eq.mpr c14
        have c14b1 : (t316 != 0) = false := bne_eq_false_iff_eq.mpr c14
        clear c14
        (first | rw [c14b0] | (simp only [i64_w, i32_w]; rw [c14b0]) | skip)
        have H' := Aside0.mk H
        clear H
        go_wp2
        go_loopg [11, 12] k (fun kq v11 v12 w' => ∃ (x11_1 : List Int) (x12_1 : Int), v12 = .int .i64 x12_1 ∧ Aside0 (lychgatelaw08_LexSpread.l0 kq a0 a1 a2 t314 t315 x11_1 x12_1 = some r) ∧ Aside0 (kq ≤ k) ∧ Aside0 (Kd.R k37 37 w' w.heap.size (fun _ => True) v318 t315) ∧ Aside0 (Kd.R (Kd.int .u8) 5 w' w.heap.size (fun _ => True) v11 x11_1) ∧ Aside0 (Below w.heap.size w w'))
        case atStart => exact ⟨(([] : List Int)), (0), (by first | rfl | (simp; done) | (simp [*]; done)), H', ⟨Nat.le_refl _⟩, ⟨by (with_reducible repeat (first | apply Kd.R_alloc | apply Kd.R_drewN | apply Kd.R_drew)); exact HO319.out⟩, ⟨by first | exact Kd.R_nil _ _ _ _ _ | exact Kd.N_nil _ _ _ _ _ | exact Kd.V_nil _ _ _ _ _ | exact Kd.Q_nil _ _ _ _ _ | exact Kd.S_nil _ _ _ _ _⟩, ⟨by repeat (first | (with_reducible first | exact HB.out | apply below_alloc | apply pw_below_drewN | apply below_drew1) | exact HB.out)⟩⟩
        case round =>
          clear H'
          try clear c1
          try clear p2
          try clear c4
          try clear c6
          try clear c8
          try clear c8b0
          try clear c13
          try clear c14
          try clear c14b0
          try clear c14b1
          obtain ⟨x11_1, x12_1, rfl, HA, HK1, HO_8, HO_11, HB⟩ := hrel
          cases gk with
          | zero => exact absurd HA.out (by simp [lychgatelaw08_LexSpread.l0])
          | succ k1 =>
            have H := HA.out
            clear HA
            simp only [lychgatelaw08_LexSpread.l0] at H
            by_cases c15 : (wrap64 (x12_1 + 1)) < (t315.length : Int)
            · rw [if_pos c15] at H
              have c15b0 : decide ((wrap64 (x12_1 + 1)) < (t315.length : Int)) = true := decide_eq_true c15
              clear c15
              by_cases c16 : 0 ≤ x12_1
              · rw [if_pos c16] at H
                have c16b0 : decide (0 ≤ x12_1) = true := decide_eq_true c16
                clear c16
                by_cases c17 : x12_1 < (t315.length : Int)
                · rw [if_pos c17] at H
                  have c17b0 : decide (x12_1 < (t315.length : Int)) = true := decide_eq_true c17
                  clear c17
                  obtain ⟨ji18, hji18⟩ : ∃ j_ : Int, (wrap64 (x12_1 + 1)) = j_ := ⟨_, rfl⟩
                  replace H : (if 0 ≤ (ji18) then (if 0 ≤ ((rd_T37 t315 x12_1).f4) then (if ((rd_T37 t315 x12_1).f4) ≤ ((rd_T37 t315 (ji18)).f4) then (if ((rd_T37 t315 (ji18)).f4) ≤ (a0.size : Int) then (if x11_1.length + (a0.extract (((rd_T37 t315 x12_1).f4) : Int).toNat (((rd_T37 t315 (ji18)).f4) : Int).toNat).size < 140737488355328 then ((some (x11_1 ++ bytesOf (a0.extract (((rd_T37 t315 x12_1).f4) : Int).toNat (((rd_T37 t315 (ji18)).f4) : Int).toNat) : List Int)).bind fun y322 => (if (Int.tmod x12_1 2) = 0 then (if y322.length < 140737488355328 then (lychgatelaw08_LexSpread.l0 k1 a0 a1 a2 t314 t315 (y322 ++ [10]) ji18) else (none)) else ((some (([10, 32] : List Int) : List Int)).bind fun y328 => (if y322.length + y328.length < 140737488355328 then (lychgatelaw08_LexSpread.l0 k1 a0 a1 a2 t314 t315 (y322 ++ y328) ji18) else (none))))) else (none)) else (none)) else (none)) else (none)) else (none)) = some r := by first | (rw [hji18] at H; exact H) | (simp only [hji18] at H ⊢; exact H)
                  (try rw [hji18] at c15b0)
                  have hji18w : (IntKind.i64.wrap (x12_1 + 1)) = ji18 := (i64_w _).trans hji18
                  by_cases c19 : 0 ≤ (ji18)
                  · rw [if_pos c19] at H
                    have c19b0 : decide (0 ≤ (ji18)) = true := decide_eq_true c19
                    clear c19
                    by_cases c20 : 0 ≤ ((rd_T37 t315 x12_1).f4)
                    · rw [if_pos c20] at H
                      have c20b0 := eq_true c20
                      have c20b1 : decide (0 ≤ ((rd_T37 t315 x12_1).f4)) = true := decide_eq_true c20
                      clear c20
                      by_cases c21 : ((rd_T37 t315 x12_1).f4) ≤ ((rd_T37 t315 (ji18)).f4)
                      · rw [if_pos c21] at H
                        have c21b0 := eq_true c21
                        have c21b1 : decide (((rd_T37 t315 x12_1).f4) ≤ ((rd_T37 t315 (ji18)).f4)) = true := decide_eq_true c21
                        clear c21
                        by_cases c22 : ((rd_T37 t315 (ji18)).f4) ≤ (a0.size : Int)
                        · rw [if_pos c22] at H
                          have c22b0 := eq_true c22
                          have c22b1 : decide (((rd_T37 t315 (ji18)).f4) ≤ (a0.size : Int)) = true := decide_eq_true c22
                          clear c22
                          by_cases c23 : x11_1.length + (a0.extract (((rd_T37 t315 x12_1).f4) : Int).toNat (((rd_T37 t315 (ji18)).f4) : Int).toNat).size < 140737488355328
                          · rw [if_pos c23] at H
                            have LMc23 := Aside0.mk c23
                            clear c23
                            obtain ⟨y322, hy322⟩ : ∃ y_ : List Int, y_ = (x11_1 ++ bytesOf (a0.extract (((rd_T37 t315 x12_1).f4) : Int).toNat (((rd_T37 t315 (ji18)).f4) : Int).toNat)) := ⟨_, rfl⟩
                            replace H : (if (Int.tmod x12_1 2) = 0 then (if y322.length < 140737488355328 then (lychgatelaw08_LexSpread.l0 k1 a0 a1 a2 t314 t315 (y322 ++ [10]) ji18) else (none)) else ((some (([10, 32] : List Int) : List Int)).bind fun y328 => (if y322.length + y328.length < 140737488355328 then (lychgatelaw08_LexSpread.l0 k1 a0 a1 a2 t314 t315 (y322 ++ y328) ji18) else (none)))) = some r := by first | (rw [hy322]; with_reducible exact H) | (have H2_ := (Option.bind_some _ _).symm.trans H; rw [hy322]; with_reducible exact H2_) | (have H2_ := (Option.bind_some _ _).symm.trans H; with_reducible exact H2_) | with_reducible exact H | (rw [hy322]; exact H) | exact H
                            have Ny322 := Aside0.mk hy322
                            clear hy322
                            by_cases c24 : (Int.tmod x12_1 2) = 0
                            · rw [if_pos c24] at H
                              have c24b0 : ((Int.tmod x12_1 2) == 0) = true := beq_iff_eq.mpr c24
                              have c24b1 : ((Int.tmod x12_1 2) != 0) = false := bne_eq_false_iff_eq.mpr c24
                              clear c24
                              by_cases c25 : y322.length < 140737488355328
                              · rw [if_pos c25] at H
                                have LMc25 := Aside0.mk c25
                                clear c25
                                obtain ⟨y325, hy325⟩ : ∃ y_ : List Int, y_ = (y322 ++ [10]) := ⟨_, rfl⟩
                                replace H : (lychgatelaw08_LexSpread.l0 k1 a0 a1 a2 t314 t315 y325 ji18) = some r := by first | (rw [hy325]; with_reducible exact H) | (have H2_ := (Option.bind_some _ _).symm.trans H; rw [hy325]; with_reducible exact H2_) | (have H2_ := (Option.bind_some _ _).symm.trans H; with_reducible exact H2_) | with_reducible exact H | (rw [hy325]; exact H) | exact H
                                have Ny325 := Aside0.mk hy325
                                clear hy325
                                as_aux_lemma =>
                                  have H' := Aside0.mk H
                                  clear H
                                  obtain ⟨Ao26, co26, eo26⟩ := Kd.R_slice HO_8.out
                                  subst eo26
                                  try go_wp2
                                  have n0_ := Aside0.mk (Kd.R_drew HO_8.out)
                                  have n1_ := Aside0.mk (Kd.R_drew HO_11.out)
                                  have n2_ := Aside0.mk (below_drew1 HB.out)
                                  clear HO_8
                                  clear HO_11
                                  clear HB
                                  have HO_8 := n0_
                                  have HO_11 := n1_
                                  have HB := n2_
                                  clear n0_ n1_ n2_
                                  have p320 : 0 ≤ (x12_1 : Int) := of_decide_eq_true (by first | (with_reducible assumption) | assumption)
                                  have q320 : x12_1 < (t315.length : Int) := of_decide_eq_true (by first | (with_reducible assumption) | assumption)
                                  obtain ⟨ad320, e320, hx320_0, hx320_1, hx320_2, hx320_3, hx320_4, hx320_5⟩ := at_T37 (Kd.R_reads' HO_8.out).2.2 x12_1 p320 q320
                                  cases e320
                                  replace p320 := eq_true p320
                                  replace q320 := eq_true q320
                                  have p321 : 0 ≤ ((ji18) : Int) := of_decide_eq_true (by first | (with_reducible assumption) | assumption)
                                  have q321 : (ji18) < (t315.length : Int) := of_decide_eq_true (by first | (with_reducible assumption) | assumption)
                                  obtain ⟨ad321, e321, hx321_0, hx321_1, hx321_2, hx321_3, hx321_4, hx321_5⟩ := at_T37 (Kd.R_reads' HO_8.out).2.2 (ji18) p321 q321
                                  obtain rfl : ad320 = ad321 := (by injection e321)
                                  replace p321 := eq_true p321
                                  replace q321 := eq_true q321
                                  refine start_ (n := 16) (S := fun w' => w'.cell? (ad320.add ((x12_1).toNat * 6)) = some (.int .i64 ((rd_T37 t315 x12_1).f0)) ∧ w'.cell? ⟨(ad320.add ((x12_1).toNat * 6)).block, (ad320.add ((x12_1).toNat * 6)).off + 1, none⟩ = some (.string ((rd_T37 t315 x12_1).f1)) ∧ w'.cell? ⟨(ad320.add ((x12_1).toNat * 6)).block, (ad320.add ((x12_1).toNat * 6)).off + 2, none⟩ = some (.int .i64 ((rd_T37 t315 x12_1).f2)) ∧ w'.cell? ⟨(ad320.add ((x12_1).toNat * 6)).block, (ad320.add ((x12_1).toNat * 6)).off + 3, none⟩ = some (.int .i64 ((rd_T37 t315 x12_1).f3.f0)) ∧ w'.cell? ⟨(ad320.add ((x12_1).toNat * 6)).block, (ad320.add ((x12_1).toNat * 6)).off + 4, none⟩ = some (.int .i64 ((rd_T37 t315 x12_1).f3.f1)) ∧ w'.cell? ⟨(ad320.add ((x12_1).toNat * 6)).block, (ad320.add ((x12_1).toNat * 6)).off + 5, none⟩ = some (.int .i64 ((rd_T37 t315 x12_1).f4)) ∧ w'.cell? (ad320.add (((ji18)).toNat * 6)) = some (.int .i64 ((rd_T37 t315 (ji18)).f0)) ∧ w'.cell? ⟨(ad320.add (((ji18)).toNat * 6)).block, (ad320.add (((ji18)).toNat * 6)).off + 1, none⟩ = some (.string ((rd_T37 t315 (ji18)).f1)) ∧ w'.cell? ⟨(ad320.add (((ji18)).toNat * 6)).block, (ad320.add (((ji18)).toNat * 6)).off + 2, none⟩ = some (.int .i64 ((rd_T37 t315 (ji18)).f2)) ∧ w'.cell? ⟨(ad320.add (((ji18)).toNat * 6)).block, (ad320.add (((ji18)).toNat * 6)).off + 3, none⟩ = some (.int .i64 ((rd_T37 t315 (ji18)).f3.f0)) ∧ w'.cell? ⟨(ad320.add (((ji18)).toNat * 6)).block, (ad320.add (((ji18)).toNat * 6)).off + 4, none⟩ = some (.int .i64 ((rd_T37 t315 (ji18)).f3.f1)) ∧ w'.cell? ⟨(ad320.add (((ji18)).toNat * 6)).block, (ad320.add (((ji18)).toNat * 6)).off + 5, none⟩ = some (.int .i64 ((rd_T37 t315 (ji18)).f4))) (ds := [14]) #[false, false, false, false, false, false, false, false, false, false, false, false, false, false, false, false] (by kernel_rfl) rfl rfl ⟨hx320_0, hx320_1, hx320_2, hx320_3, hx320_4, hx320_5, hx321_0, hx321_1, hx321_2, hx321_3, hx321_4, hx321_5⟩ (fun hHeld => ?_); refine with_tabW lychgatelaw08_LexSpread.tab10 lychgatelaw08_LexSpread.bits10 (fun HT_ HW_ => ?_)
                                  generalize wr.drew = w27 at HO_8 HO_11 HB hx320_0 hx320_1 hx320_2 hx320_3 hx320_4 hx320_5 hx321_0 hx321_1 hx321_2 hx321_3 hx321_4 hx321_5 hHeld ⊢
                                  refine pure_ (i := 0) (N := some 56) (v := ?_) (a' := ?_) #[true, false, false, false, false, false, false, false, false, false, false, false, false, false, false, false] rfl rfl (any_of HT_.out (by kernel_rfl)) (fun _ _ _ h => h) (Or.inl ⟨by rfl, ?_⟩) ?_ ?_
                                  rotate_left
                                  · intro w'
                                    go_simp
                                    with_reducible rfl
                                  rotate_left
                                  · simp only [Act.put, List.setIfInBounds_toArray, List.set_cons_zero, List.set_cons_succ, i64_w, i32_w]
                                    rfl
                                  refine pure_ (i := 1) (N := some 57) (v := ?_) (a' := ?_) #[true, true, false, false, false, false, false, false, false, false, false, false, false, false, false, false] rfl rfl (any_of HT_.out (by kernel_rfl)) (fun _ _ _ h => h) (Or.inl ⟨by rfl, ?_⟩) ?_ ?_
                                  rotate_left
                                  · intro w'
                                    go_simp
                                    with_reducible rfl
                                  rotate_left
                                  · simp only [Act.put, List.setIfInBounds_toArray, List.set_cons_zero, List.set_cons_succ, i64_w, i32_w]
                                    rfl
                                  refine pure_ (i := 2) (N := some 58) (v := ?_) (a' := ?_) #[true, true, true, false, false, false, false, false, false, false, false, false, false, false, false, false] rfl rfl (any_of HT_.out (by kernel_rfl)) (fun _ _ _ h => h) (Or.inl ⟨by rfl, ?_⟩) ?_ ?_
                                  rotate_left
                                  · intro w'
                                    go_simp
                                    with_reducible rfl
                                  rotate_left
                                  · simp only [Act.put, List.setIfInBounds_toArray, List.set_cons_zero, List.set_cons_succ, i64_w, i32_w]
                                    rfl
                                  refine pure_ (i := 3) (N := some 59) (v := ?_) (a' := ?_) #[true, true, true, true, false, false, false, false, false, false, false, false, false, false, false, false] rfl rfl (any_of HT_.out (by kernel_rfl)) (fun _ _ _ h => h) (Or.inl ⟨by rfl, ?_⟩) ?_ ?_
                                  rotate_left
                                  · intro w'
                                    go_simp
                                    with_reducible rfl
                                  rotate_left
                                  · simp only [Act.put, List.setIfInBounds_toArray, List.set_cons_zero, List.set_cons_succ, i64_w, i32_w]
                                    rfl
                                  refine pure_ (i := 4) (N := some 60) (v := ?_) (a' := ?_) #[true, true, true, true, true, false, false, false, false, false, false, false, false, false, false, false] rfl rfl (any_of HT_.out (by kernel_rfl)) (fun _ _ _ h => h) (Or.inl ⟨by rfl, ?_⟩) ?_ ?_
                                  rotate_left
                                  · intro w'
                                    go_simp
                                    with_reducible rfl
                                  rotate_left
                                  · simp only [Act.put, List.setIfInBounds_toArray, List.set_cons_zero, List.set_cons_succ, i64_w, i32_w]
                                    rfl
                                  refine pure_ (i := 5) (N := some 61) (v := ?_) (a' := ?_) #[true, true, true, true, true, true, false, false, false, false, false, false, false, false, false, false] rfl rfl (any_of HT_.out (by kernel_rfl)) (fun _ _ _ h => h) (Or.inl ⟨by rfl, ?_⟩) ?_ ?_
                                  rotate_left
                                  · intro w'
                                    go_simp
                                    with_reducible rfl
                                  rotate_left
                                  · simp only [Act.put, List.setIfInBounds_toArray, List.set_cons_zero, List.set_cons_succ, i64_w, i32_w]
                                    rfl
                                  refine pure_ (i := 7) (N := some 63) (v := ?_) (a' := ?_) #[true, true, true, true, true, true, false, true, false, false, false, false, false, false, false, false] rfl rfl (any_of HT_.out (by kernel_rfl)) (fun _ _ _ h => h) (Or.inl ⟨by rfl, ?_⟩) ?_ ?_
                                  rotate_left
                                  · intro w'
                                    go_simp
                                    with_reducible rfl
                                  rotate_left
                                  · simp only [Act.put, List.setIfInBounds_toArray, List.set_cons_zero, List.set_cons_succ, i64_w, i32_w]
                                    rfl
                                  refine pure_ (i := 8) (N := some 64) (v := ?_) (a' := ?_) #[true, true, true, true, true, true, false, true, true, false, false, false, false, false, false, false] rfl rfl (any_of HT_.out (by kernel_rfl)) (fun _ _ _ h => h) (Or.inl ⟨by rfl, ?_⟩) ?_ ?_
                                  rotate_left
                                  · intro w'
                                    go_simp
                                    with_reducible rfl
                                  rotate_left
                                  · simp only [Act.put, List.setIfInBounds_toArray, List.set_cons_zero, List.set_cons_succ, i64_w, i32_w]
                                    rfl
                                  refine pure_ (i := 9) (N := some 65) (v := ?_) (a' := ?_) #[true, true, true, true, true, true, false, true, true, true, false, false, false, false, false, false] rfl rfl (any_of HT_.out (by kernel_rfl)) (fun _ _ _ h => h) (Or.inl ⟨by rfl, ?_⟩) ?_ ?_
                                  rotate_left
                                  · intro w'
                                    go_simp
                                    with_reducible rfl
                                  rotate_left
                                  · simp only [Act.put, List.setIfInBounds_toArray, List.set_cons_zero, List.set_cons_succ, i64_w, i32_w]
                                    rfl
                                  refine pure_ (i := 10) (N := some 66) (v := ?_) (a' := ?_) #[true, true, true, true, true, true, false, true, true, true, true, false, false, false, false, false] rfl rfl (any_of HT_.out (by kernel_rfl)) (fun _ _ _ h => h) (Or.inl ⟨by rfl, ?_⟩) ?_ ?_
                                  rotate_left
                                  · intro w'
                                    go_simp
                                    with_reducible rfl
                                  rotate_left
                                  · simp only [Act.put, List.setIfInBounds_toArray, List.set_cons_zero, List.set_cons_succ, i64_w, i32_w]
                                    rfl
                                  refine pure_ (i := 11) (N := some 67) (v := ?_) (a' := ?_) #[true, true, true, true, true, true, false, true, true, true, true, true, false, false, false, false] rfl rfl (any_of HT_.out (by kernel_rfl)) (fun _ _ _ h => h) (Or.inl ⟨by rfl, ?_⟩) ?_ ?_
                                  rotate_left
                                  · intro w'
                                    go_simp
                                    with_reducible rfl
                                  rotate_left
                                  · simp only [Act.put, List.setIfInBounds_toArray, List.set_cons_zero, List.set_cons_succ, i64_w, i32_w]
                                    rfl
                                  refine take_ (i := 6) (N := some 62) (v := ?_) (a' := ?_) #[true, true, true, true, true, true, true, true, true, true, true, true, false, false, false, false] rfl rfl (take_ofW HT_.out HW_.out (by kernel_rfl)) (fun _ _ _ h => h) (Or.inl ⟨by rfl, ?_⟩) hHeld ?_ ?_
                                  rotate_left
                                  · rintro w' ⟨s0, s1, s2, s3, s4, s5, s6, s7, s8, s9, s10, s11⟩
                                    go_simp
                                    with_reducible rfl
                                  rotate_left
                                  · simp only [Act.put, List.setIfInBounds_toArray, List.set_cons_zero, List.set_cons_succ, i64_w, i32_w]
                                    rfl
                                  refine take_ (i := 12) (N := some 68) (v := ?_) (a' := ?_) #[true, true, true, true, true, true, true, true, true, true, true, true, true, false, false, false] rfl rfl (take_ofW HT_.out HW_.out (by kernel_rfl)) (fun _ _ _ h => h) (Or.inl ⟨by rfl, ?_⟩) hHeld ?_ ?_
                                  rotate_left
                                  · rintro w' ⟨s0, s1, s2, s3, s4, s5, s6, s7, s8, s9, s10, s11⟩
                                    go_simp
                                    with_reducible rfl
                                  rotate_left
                                  · simp only [Act.put, List.setIfInBounds_toArray, List.set_cons_zero, List.set_cons_succ, i64_w, i32_w]
                                    rfl
                                  refine pure_ (i := 13) (N := some 69) (v := ?_) (a' := ?_) #[true, true, true, true, true, true, true, true, true, true, true, true, true, true, false, false] rfl rfl (any_of HT_.out (by kernel_rfl)) (fun _ _ _ h => h) (Or.inl ⟨by rfl, ?_⟩) ?_ ?_
                                  rotate_left
                                  · intro w'
                                    go_simp
                                    with_reducible rfl
                                  rotate_left
                                  · simp only [Act.put, List.setIfInBounds_toArray, List.set_cons_zero, List.set_cons_succ, i64_w, i32_w]
                                    rfl
                                  refine last_ (i := 14) (N := some 70) #[true, true, true, true, true, true, true, true, true, true, true, true, true, true, true, false] rfl rfl (one_of HT_.out (by kernel_rfl)) (by decide) (fun K hK => ?_)
                                  refine print_append_str_step (w0 := w) w.heap.size (by rfl) (.tmp 56) _ 33 9 5 rfl Tryd.underlying33 Tryd.underlying9 info5 u11 x11_1 (a0.extract (((rd_T37 t315 x12_1).f4) : Int).toNat (((rd_T37 t315 (ji18)).f4) : Int).toNat) rfl rfl ?aO ?aB ?aS ?aL ?_
                                  (case aB => exact (by repeat (first | (with_reducible first | exact HB.out | apply below_alloc | apply pw_below_drewN | apply below_drew1) | exact HB.out)))
                                  (case aO => exact (Kd.own_of_R (by (with_reducible repeat (first | apply Kd.R_alloc | apply Kd.R_drewN | apply Kd.R_drew)); exact HO_11.out)))
                                  (case aS => exact (below_size (by repeat (first | (with_reducible first | exact HB.out | apply below_alloc | apply pw_below_drewN | apply below_drew1) | exact HB.out))))
                                  (case aL => have := LMc23.out; omega)
                                  intro v323 w28 ho0 hb hg
                                  have ho := Kd.R_of_own (h1 := fun _ => rfl) (ok := fun _ => True) ho0 (fun _ _ => trivial)
                                  clear ho0
                                  have hat := True.intro
                                  rw [← Ny322.out] at ho
                                  change Kd.R (Kd.int .u8) 5 w28 w.heap.size (fun _ => True) v323 y322 at ho
                                  have n0_ := Aside0.mk (Kd.R_over' (by (with_reducible repeat (first | apply Kd.R_alloc | apply Kd.R_drewN | apply Kd.R_drew)); exact HO_8.out) (Kd.R_typed (by (with_reducible repeat (first | apply Kd.R_alloc | apply Kd.R_drewN | apply Kd.R_drew)); exact HO_11.out)) (by decide) hg)
                                  have n1_ := Aside0.mk (hb)
                                  have n2_ := Aside0.mk (ho)
                                  clear HO_8
                                  clear HB
                                  clear HO_11
                                  have HO_8 := n0_
                                  have HB := n1_
                                  have HO324 := n2_
                                  clear n0_ n1_ n2_
                                  clear ho hb hg hat
                                  refine hK.out _ _ ?_
                                  clear hK K
                                  refine norm_ (a' := ?_) ?_ ?_
                                  rotate_left
                                  · show Act.put _ (some 70) _ = _
                                    simp only [Act.put, List.setIfInBounds_toArray, List.set_cons_zero, List.set_cons_succ, i64_w, i32_w]
                                    rfl
                                  refine pure_ (i := 15) (N := some 11) (v := ?_) (a' := ?_) #[true, true, true, true, true, true, true, true, true, true, true, true, true, true, true, true] rfl rfl (any_of HT_.out (by kernel_rfl)) (fun _ _ _ h => h) (Or.inl ⟨by rfl, ?_⟩) ?_ ?_
                                  rotate_left
                                  · intro w'
                                    go_simp
                                    with_reducible rfl
                                  rotate_left
                                  · simp only [Act.put, List.setIfInBounds_toArray, List.set_cons_zero, List.set_cons_succ, i64_w, i32_w]
                                    rfl
                                  refine done_ (done_of HT_.out (by kernel_rfl)) ?_
                                  try go_wp2_with (first | ((with_reducible refine gate_builtin (b := .append) (xs := #[.tmp 74, .tmp 75]) rfl ?_); (try (refine gate_guard (by rfl) ?_; dsimp only)); at_builtin; refine Kd.R_append (Kd.int .u8) (w0 := w) w.heap.size rfl (.tmp 74) (.tmp 75) 33 5 (.int .u8 0) 1 rfl Tryd.underlying33 info5 rfl (by decide) (by omega) v323 y322 10 [.int .u8 10] (fun _ => True) (fun _ => False) rfl rfl ?aP (fun _ hk => hk.elim) ?aF ?aO ?aB ?aS ?aL ?_; (case aP => exact rfl); (case aB => exact (by repeat (first | (with_reducible first | exact HB.out | apply below_alloc | apply pw_below_drewN | apply below_drew1) | exact HB.out))); (case aF => exact (fun _ _ => trivial)); (case aO => exact (by (with_reducible repeat (first | apply Kd.R_alloc | apply Kd.R_drewN | apply Kd.R_drew)); exact HO324.out)); (case aS => exact (below_size (by repeat (first | (with_reducible first | exact HB.out | apply below_alloc | apply pw_below_drewN | apply below_drew1) | exact HB.out)))); (case aL => have := LMc25.out; omega); intro v326 w29 ho hb hg hat; rw [← Ny325.out] at ho; have n0_ := Aside0.mk (Kd.R_over' (by (with_reducible repeat (first | apply Kd.R_alloc | apply Kd.R_drewN | apply Kd.R_drew)); exact HO_8.out) (Kd.R_typed (by (with_reducible repeat (first | apply Kd.R_alloc | apply Kd.R_drewN | apply Kd.R_drew)); exact HO324.out)) (by decide) hg); have n1_ := Aside0.mk (hb); have n2_ := Aside0.mk (ho); clear HO_8; clear HB; clear HO324; have HO_8 := n0_; have HB := n1_; have HO327 := n2_; clear n0_ n1_ n2_; clear ho hb hg hat))
                                  go_roundg k1
                                  case measure => have := HK1.out; omega
                                  case rel => exact ⟨(y325), (ji18), (by first | rfl | (simp; done) | (simp only [← hji18] <;> (first | rfl | simp)) | (simp [*]; done)), H', ⟨by have := HK1.out; omega⟩, ⟨by (with_reducible repeat (first | apply Kd.R_alloc | apply Kd.R_drewN | apply Kd.R_drew)); exact HO_8.out⟩, ⟨by (with_reducible repeat (first | apply Kd.R_alloc | apply Kd.R_drewN | apply Kd.R_drew)); exact HO327.out⟩, ⟨by repeat (first | (with_reducible first | exact HB.out | apply below_alloc | apply pw_below_drewN | apply below_drew1) | exact HB.out)⟩⟩
                              · rw [if_neg c25] at H
                                exact absurd H (by simp)
                            · rw [if_neg c24] at H
                              have c24b0 : ((Int.tmod x12_1 2) == 0) = false := beq_eq_false_iff_ne.mpr c24
                              have c24b1 : ((Int.tmod x12_1 2) != 0) = true := bne_iff_ne.mpr c24
                              obtain ⟨y328, hy328⟩ : ∃ y_ : List Int, y_ = (([10, 32] : List Int)) := ⟨_, rfl⟩
                              replace H : (if y322.length + y328.length < 140737488355328 then (lychgatelaw08_LexSpread.l0 k1 a0 a1 a2 t314 t315 (y322 ++ y328) ji18) else (none)) = some r := by first | (rw [hy328]; with_reducible exact H) | (have H2_ := (Option.bind_some _ _).symm.trans H; rw [hy328]; with_reducible exact H2_) | (have H2_ := (Option.bind_some _ _).symm.trans H; with_reducible exact H2_) | with_reducible exact H | (rw [hy328]; exact H) | exact H
                              have Ny328 := Aside0.mk hy328
                              clear hy328
                              by_cases c30 : y322.length + y328.length < 140737488355328
                              · rw [if_pos c30] at H
                                have LMc30 := Aside0.mk c30
                                clear c30
                                obtain ⟨y331, hy331⟩ : ∃ y_ : List Int, y_ = (y322 ++ y328) := ⟨_, rfl⟩
                                replace H : (lychgatelaw08_LexSpread.l0 k1 a0 a1 a2 t314 t315 y331 ji18) = some r := by first | (rw [hy331]; with_reducible exact H) | (have H2_ := (Option.bind_some _ _).symm.trans H; rw [hy331]; with_reducible exact H2_) | (have H2_ := (Option.bind_some _ _).symm.trans H; with_reducible exact H2_) | with_reducible exact H | (rw [hy331]; exact H) | exact H
                                have Ny331 := Aside0.mk hy331
                                clear hy331
                                as_aux_lemma =>
                                  have H' := Aside0.mk H
                                  clear H
                                  obtain ⟨Ao31, co31, eo31⟩ := Kd.R_slice HO_8.out
                                  subst eo31
                                  try go_wp2
                                  have n0_ := Aside0.mk (Kd.R_drew HO_8.out)
                                  have n1_ := Aside0.mk (Kd.R_drew HO_11.out)
                                  have n2_ := Aside0.mk (below_drew1 HB.out)
                                  clear HO_8
                                  clear HO_11
                                  clear HB
                                  have HO_8 := n0_
                                  have HO_11 := n1_
                                  have HB := n2_
                                  clear n0_ n1_ n2_
                                  have p320 : 0 ≤ (x12_1 : Int) := of_decide_eq_true (by first | (with_reducible assumption) | assumption)
                                  have q320 : x12_1 < (t315.length : Int) := of_decide_eq_true (by first | (with_reducible assumption) | assumption)
                                  obtain ⟨ad320, e320, hx320_0, hx320_1, hx320_2, hx320_3, hx320_4, hx320_5⟩ := at_T37 (Kd.R_reads' HO_8.out).2.2 x12_1 p320 q320
                                  cases e320
                                  replace p320 := eq_true p320
                                  replace q320 := eq_true q320
                                  have p321 : 0 ≤ ((ji18) : Int) := of_decide_eq_true (by first | (with_reducible assumption) | assumption)
                                  have q321 : (ji18) < (t315.length : Int) := of_decide_eq_true (by first | (with_reducible assumption) | assumption)
                                  obtain ⟨ad321, e321, hx321_0, hx321_1, hx321_2, hx321_3, hx321_4, hx321_5⟩ := at_T37 (Kd.R_reads' HO_8.out).2.2 (ji18) p321 q321
                                  obtain rfl : ad320 = ad321 := (by injection e321)
                                  replace p321 := eq_true p321
                                  replace q321 := eq_true q321
                                  refine start_ (n := 16) (S := fun w' => w'.cell? (ad320.add ((x12_1).toNat * 6)) = some (.int .i64 ((rd_T37 t315 x12_1).f0)) ∧ w'.cell? ⟨(ad320.add ((x12_1).toNat * 6)).block, (ad320.add ((x12_1).toNat * 6)).off + 1, none⟩ = some (.string ((rd_T37 t315 x12_1).f1)) ∧ w'.cell? ⟨(ad320.add ((x12_1).toNat * 6)).block, (ad320.add ((x12_1).toNat * 6)).off + 2, none⟩ = some (.int .i64 ((rd_T37 t315 x12_1).f2)) ∧ w'.cell? ⟨(ad320.add ((x12_1).toNat * 6)).block, (ad320.add ((x12_1).toNat * 6)).off + 3, none⟩ = some (.int .i64 ((rd_T37 t315 x12_1).f3.f0)) ∧ w'.cell? ⟨(ad320.add ((x12_1).toNat * 6)).block, (ad320.add ((x12_1).toNat * 6)).off + 4, none⟩ = some (.int .i64 ((rd_T37 t315 x12_1).f3.f1)) ∧ w'.cell? ⟨(ad320.add ((x12_1).toNat * 6)).block, (ad320.add ((x12_1).toNat * 6)).off + 5, none⟩ = some (.int .i64 ((rd_T37 t315 x12_1).f4)) ∧ w'.cell? (ad320.add (((ji18)).toNat * 6)) = some (.int .i64 ((rd_T37 t315 (ji18)).f0)) ∧ w'.cell? ⟨(ad320.add (((ji18)).toNat * 6)).block, (ad320.add (((ji18)).toNat * 6)).off + 1, none⟩ = some (.string ((rd_T37 t315 (ji18)).f1)) ∧ w'.cell? ⟨(ad320.add (((ji18)).toNat * 6)).block, (ad320.add (((ji18)).toNat * 6)).off + 2, none⟩ = some (.int .i64 ((rd_T37 t315 (ji18)).f2)) ∧ w'.cell? ⟨(ad320.add (((ji18)).toNat * 6)).block, (ad320.add (((ji18)).toNat * 6)).off + 3, none⟩ = some (.int .i64 ((rd_T37 t315 (ji18)).f3.f0)) ∧ w'.cell? ⟨(ad320.add (((ji18)).toNat * 6)).block, (ad320.add (((ji18)).toNat * 6)).off + 4, none⟩ = some (.int .i64 ((rd_T37 t315 (ji18)).f3.f1)) ∧ w'.cell? ⟨(ad320.add (((ji18)).toNat * 6)).block, (ad320.add (((ji18)).toNat * 6)).off + 5, none⟩ = some (.int .i64 ((rd_T37 t315 (ji18)).f4))) (ds := [14]) #[false, false, false, false, false, false, false, false, false, false, false, false, false, false, false, false] (by kernel_rfl) rfl rfl ⟨hx320_0, hx320_1, hx320_2, hx320_3, hx320_4, hx320_5, hx321_0, hx321_1, hx321_2, hx321_3, hx321_4, hx321_5⟩ (fun hHeld => ?_); refine with_tabW lychgatelaw08_LexSpread.tab10 lychgatelaw08_LexSpread.bits10 (fun HT_ HW_ => ?_)
                                  generalize wr.drew = w32 at HO_8 HO_11 HB hx320_0 hx320_1 hx320_2 hx320_3 hx320_4 hx320_5 hx321_0 hx321_1 hx321_2 hx321_3 hx321_4 hx321_5 hHeld ⊢
                                  refine pure_ (i := 0) (N := some 56) (v := ?_) (a' := ?_) #[true, false, false, false, false, false, false, false, false, false, false, false, false, false, false, false] rfl rfl (any_of HT_.out (by kernel_rfl)) (fun _ _ _ h => h) (Or.inl ⟨by rfl, ?_⟩) ?_ ?_
                                  rotate_left
                                  · intro w'
                                    go_simp
                                    with_reducible rfl
                                  rotate_left
                                  · simp only [Act.put, List.setIfInBounds_toArray, List.set_cons_zero, List.set_cons_succ, i64_w, i32_w]
                                    rfl
                                  refine pure_ (i := 1) (N := some 57) (v := ?_) (a' := ?_) #[true, true, false, false, false, false, false, false, false, false, false, false, false, false, false, false] rfl rfl (any_of HT_.out (by kernel_rfl)) (fun _ _ _ h => h) (Or.inl ⟨by rfl, ?_⟩) ?_ ?_
                                  rotate_left
                                  · intro w'
                                    go_simp
                                    with_reducible rfl
                                  rotate_left
                                  · simp only [Act.put, List.setIfInBounds_toArray, List.set_cons_zero, List.set_cons_succ, i64_w, i32_w]
                                    rfl
                                  refine pure_ (i := 2) (N := some 58) (v := ?_) (a' := ?_) #[true, true, true, false, false, false, false, false, false, false, false, false, false, false, false, false] rfl rfl (any_of HT_.out (by kernel_rfl)) (fun _ _ _ h => h) (Or.inl ⟨by rfl, ?_⟩) ?_ ?_
                                  rotate_left
                                  · intro w'
                                    go_simp
                                    with_reducible rfl
                                  rotate_left
                                  · simp only [Act.put, List.setIfInBounds_toArray, List.set_cons_zero, List.set_cons_succ, i64_w, i32_w]
                                    rfl
                                  refine pure_ (i := 3) (N := some 59) (v := ?_) (a' := ?_) #[true, true, true, true, false, false, false, false, false, false, false, false, false, false, false, false] rfl rfl (any_of HT_.out (by kernel_rfl)) (fun _ _ _ h => h) (Or.inl ⟨by rfl, ?_⟩) ?_ ?_
                                  rotate_left
                                  · intro w'
                                    go_simp
                                    with_reducible rfl
                                  rotate_left
                                  · simp only [Act.put, List.setIfInBounds_toArray, List.set_cons_zero, List.set_cons_succ, i64_w, i32_w]
                                    rfl
                                  refine pure_ (i := 4) (N := some 60) (v := ?_) (a' := ?_) #[true, true, true, true, true, false, false, false, false, false, false, false, false, false, false, false] rfl rfl (any_of HT_.out (by kernel_rfl)) (fun _ _ _ h => h) (Or.inl ⟨by rfl, ?_⟩) ?_ ?_
                                  rotate_left
                                  · intro w'
                                    go_simp
                                    with_reducible rfl
                                  rotate_left
                                  · simp only [Act.put, List.setIfInBounds_toArray, List.set_cons_zero, List.set_cons_succ, i64_w, i32_w]
                                    rfl
                                  refine pure_ (i := 5) (N := some 61) (v := ?_) (a' := ?_) #[true, true, true, true, true, true, false, false, false, false, false, false, false, false, false, false] rfl rfl (any_of HT_.out (by kernel_rfl)) (fun _ _ _ h => h) (Or.inl ⟨by rfl, ?_⟩) ?_ ?_
                                  rotate_left
                                  · intro w'
                                    go_simp
                                    with_reducible rfl
                                  rotate_left
                                  · simp only [Act.put, List.setIfInBounds_toArray, List.set_cons_zero, List.set_cons_succ, i64_w, i32_w]
                                    rfl
                                  refine pure_ (i := 7) (N := some 63) (v := ?_) (a' := ?_) #[true, true, true, true, true, true, false, true, false, false, false, false, false, false, false, false] rfl rfl (any_of HT_.out (by kernel_rfl)) (fun _ _ _ h => h) (Or.inl ⟨by rfl, ?_⟩) ?_ ?_
                                  rotate_left
                                  · intro w'
                                    go_simp
                                    with_reducible rfl
                                  rotate_left
                                  · simp only [Act.put, List.setIfInBounds_toArray, List.set_cons_zero, List.set_cons_succ, i64_w, i32_w]
                                    rfl
                                  refine pure_ (i := 8) (N := some 64) (v := ?_) (a' := ?_) #[true, true, true, true, true, true, false, true, true, false, false, false, false, false, false, false] rfl rfl (any_of HT_.out (by kernel_rfl)) (fun _ _ _ h => h) (Or.inl ⟨by rfl, ?_⟩) ?_ ?_
                                  rotate_left
                                  · intro w'
                                    go_simp
                                    with_reducible rfl
                                  rotate_left
                                  · simp only [Act.put, List.setIfInBounds_toArray, List.set_cons_zero, List.set_cons_succ, i64_w, i32_w]
                                    rfl
                                  refine pure_ (i := 9) (N := some 65) (v := ?_) (a' := ?_) #[true, true, true, true, true, true, false, true, true, true, false, false, false, false, false, false] rfl rfl (any_of HT_.out (by kernel_rfl)) (fun _ _ _ h => h) (Or.inl ⟨by rfl, ?_⟩) ?_ ?_
                                  rotate_left
                                  · intro w'
                                    go_simp
                                    with_reducible rfl
                                  rotate_left
                                  · simp only [Act.put, List.setIfInBounds_toArray, List.set_cons_zero, List.set_cons_succ, i64_w, i32_w]
                                    rfl
                                  refine pure_ (i := 10) (N := some 66) (v := ?_) (a' := ?_) #[true, true, true, true, true, true, false, true, true, true, true, false, false, false, false, false] rfl rfl (any_of HT_.out (by kernel_rfl)) (fun _ _ _ h => h) (Or.inl ⟨by rfl, ?_⟩) ?_ ?_
                                  rotate_left
                                  · intro w'
                                    go_simp
                                    with_reducible rfl
                                  rotate_left
                                  · simp only [Act.put, List.setIfInBounds_toArray, List.set_cons_zero, List.set_cons_succ, i64_w, i32_w]
                                    rfl
                                  refine pure_ (i := 11) (N := some 67) (v := ?_) (a' := ?_) #[true, true, true, true, true, true, false, true, true, true, true, true, false, false, false, false] rfl rfl (any_of HT_.out (by kernel_rfl)) (fun _ _ _ h => h) (Or.inl ⟨by rfl, ?_⟩) ?_ ?_
                                  rotate_left
                                  · intro w'
                                    go_simp
                                    with_reducible rfl
                                  rotate_left
                                  · simp only [Act.put, List.setIfInBounds_toArray, List.set_cons_zero, List.set_cons_succ, i64_w, i32_w]
                                    rfl
                                  refine take_ (i := 6) (N := some 62) (v := ?_) (a' := ?_) #[true, true, true, true, true, true, true, true, true, true, true, true, false, false, false, false] rfl rfl (take_ofW HT_.out HW_.out (by kernel_rfl)) (fun _ _ _ h => h) (Or.inl ⟨by rfl, ?_⟩) hHeld ?_ ?_
                                  rotate_left
                                  · rintro w' ⟨s0, s1, s2, s3, s4, s5, s6, s7, s8, s9, s10, s11⟩
                                    go_simp
                                    with_reducible rfl
                                  rotate_left
                                  · simp only [Act.put, List.setIfInBounds_toArray, List.set_cons_zero, List.set_cons_succ, i64_w, i32_w]
                                    rfl
                                  refine take_ (i := 12) (N := some 68) (v := ?_) (a' := ?_) #[true, true, true, true, true, true, true, true, true, true, true, true, true, false, false, false] rfl rfl (take_ofW HT_.out HW_.out (by kernel_rfl)) (fun _ _ _ h => h) (Or.inl ⟨by rfl, ?_⟩) hHeld ?_ ?_
                                  rotate_left
                                  · rintro w' ⟨s0, s1, s2, s3, s4, s5, s6, s7, s8, s9, s10, s11⟩
                                    go_simp
                                    with_reducible rfl
                                  rotate_left
                                  · simp only [Act.put, List.setIfInBounds_toArray, List.set_cons_zero, List.set_cons_succ, i64_w, i32_w]
                                    rfl
                                  refine pure_ (i := 13) (N := some 69) (v := ?_) (a' := ?_) #[true, true, true, true, true, true, true, true, true, true, true, true, true, true, false, false] rfl rfl (any_of HT_.out (by kernel_rfl)) (fun _ _ _ h => h) (Or.inl ⟨by rfl, ?_⟩) ?_ ?_
                                  rotate_left
                                  · intro w'
                                    go_simp
                                    with_reducible rfl
                                  rotate_left
                                  · simp only [Act.put, List.setIfInBounds_toArray, List.set_cons_zero, List.set_cons_succ, i64_w, i32_w]
                                    rfl
                                  refine last_ (i := 14) (N := some 70) #[true, true, true, true, true, true, true, true, true, true, true, true, true, true, true, false] rfl rfl (one_of HT_.out (by kernel_rfl)) (by decide) (fun K hK => ?_)
                                  refine print_append_str_step (w0 := w) w.heap.size (by rfl) (.tmp 56) _ 33 9 5 rfl Tryd.underlying33 Tryd.underlying9 info5 u11 x11_1 (a0.extract (((rd_T37 t315 x12_1).f4) : Int).toNat (((rd_T37 t315 (ji18)).f4) : Int).toNat) rfl rfl ?aO ?aB ?aS ?aL ?_
                                  (case aB => exact (by repeat (first | (with_reducible first | exact HB.out | apply below_alloc | apply pw_below_drewN | apply below_drew1) | exact HB.out)))
                                  (case aO => exact (Kd.own_of_R (by (with_reducible repeat (first | apply Kd.R_alloc | apply Kd.R_drewN | apply Kd.R_drew)); exact HO_11.out)))
                                  (case aS => exact (below_size (by repeat (first | (with_reducible first | exact HB.out | apply below_alloc | apply pw_below_drewN | apply below_drew1) | exact HB.out))))
                                  (case aL => have := LMc23.out; omega)
                                  intro v323 w33 ho0 hb hg
                                  have ho := Kd.R_of_own (h1 := fun _ => rfl) (ok := fun _ => True) ho0 (fun _ _ => trivial)
                                  clear ho0
                                  have hat := True.intro
                                  rw [← Ny322.out] at ho
                                  change Kd.R (Kd.int .u8) 5 w33 w.heap.size (fun _ => True) v323 y322 at ho
                                  have n0_ := Aside0.mk (Kd.R_over' (by (with_reducible repeat (first | apply Kd.R_alloc | apply Kd.R_drewN | apply Kd.R_drew)); exact HO_8.out) (Kd.R_typed (by (with_reducible repeat (first | apply Kd.R_alloc | apply Kd.R_drewN | apply Kd.R_drew)); exact HO_11.out)) (by decide) hg)
                                  have n1_ := Aside0.mk (hb)
                                  have n2_ := Aside0.mk (ho)
                                  clear HO_8
                                  clear HB
                                  clear HO_11
                                  have HO_8 := n0_
                                  have HB := n1_
                                  have HO324 := n2_
                                  clear n0_ n1_ n2_
                                  clear ho hb hg hat
                                  refine hK.out _ _ ?_
                                  clear hK K
                                  refine norm_ (a' := ?_) ?_ ?_
                                  rotate_left
                                  · show Act.put _ (some 70) _ = _
                                    simp only [Act.put, List.setIfInBounds_toArray, List.set_cons_zero, List.set_cons_succ, i64_w, i32_w]
                                    rfl
                                  refine pure_ (i := 15) (N := some 11) (v := ?_) (a' := ?_) #[true, true, true, true, true, true, true, true, true, true, true, true, true, true, true, true] rfl rfl (any_of HT_.out (by kernel_rfl)) (fun _ _ _ h => h) (Or.inl ⟨by rfl, ?_⟩) ?_ ?_
                                  rotate_left
                                  · intro w'
                                    go_simp
                                    with_reducible rfl
                                  rotate_left
                                  · simp only [Act.put, List.setIfInBounds_toArray, List.set_cons_zero, List.set_cons_succ, i64_w, i32_w]
                                    rfl
                                  refine done_ (done_of HT_.out (by kernel_rfl)) ?_
                                  try go_wp2_with (first | ((with_reducible refine gate_dst (N := 78) rfl ?_); (try (refine gate_guard (by rfl) ?_; dsimp only)); refine Kd.R_lit (Kd.int .u8) _ 5 ?hg (N := 78) ?hd (xs := ([10, 32] : List Int)) (inner := [.int .u8 10, .int .u8 32]) (ok := fun _ => True) (okp := fun _ => True) ?hr ?hp (fun _ hk => hk) trivial (Below.refl _ _) (Nat.le_refl _) (by simp) ?_; (case hd => rfl); (case hg => rfl); (case hr => first | (go_simp; done) | (go_simp; rfl)); (case hp => exact (Reps.one (show Kd.M (Kd.int .u8) _ _ _ 10 [.int .u8 10] from rfl) (Reps.one (show Kd.M (Kd.int .u8) _ _ _ 32 [.int .u8 32] from rfl) (Reps.none _ _)))); intro v329 w34 ho35 hb hg_ hnew_; clear hg_ hnew_; (first | rw [← Ny328.out] at ho35 | (simp only [Int.reduceToNat] at ho35; rw [← Ny328.out] at ho35)); have n0_ := Aside0.mk (Kd.R_below (by (with_reducible repeat (first | apply Kd.R_alloc | apply Kd.R_drewN | apply Kd.R_drew)); exact HO_8.out) hb); have n1_ := Aside0.mk (Kd.R_elder' (by (with_reducible repeat (first | apply Kd.R_alloc | apply Kd.R_drewN | apply Kd.R_drew)); exact HO324.out) (Kd.R_base ho35) hb); have n2_ := Aside0.mk (Kd.R_lower (Kd.R_new' ho35 (Kd.R_lt (by (with_reducible repeat (first | apply Kd.R_alloc | apply Kd.R_drewN | apply Kd.R_drew)); exact HO324.out))) (below_size (by repeat (first | (with_reducible first | exact HB.out | apply below_alloc | apply pw_below_drewN | apply below_drew1) | exact HB.out)))); have n3_ := Aside0.mk (below_step (by repeat (first | (with_reducible first | exact HB.out | apply below_alloc | apply pw_below_drewN | apply below_drew1) | exact HB.out)) hb); clear HO_8; clear HO324; clear HB; have HO_8 := n0_; have HO324 := n1_; have HO330 := n2_; have HB := n3_; clear n0_ n1_ n2_ n3_; clear hb ho35; obtain ⟨Ao37, co37, eo37⟩ := Kd.R_slice HO330.out; subst eo37) | ((with_reducible refine gate_builtin (b := .append) (xs := #[.tmp 77, .tmp 78]) rfl ?_); (try (refine gate_guard (by rfl) ?_; dsimp only)); at_builtin; refine Kd.R_append_rows (Kd.int .u8) (w0 := w) w.heap.size rfl (.tmp 77) (.tmp 78) 33 5 (.int .u8 0) 1 rfl Tryd.underlying33 info5 rfl (by decide) (by omega) v323 y322 y328 _ _ _ (fun k_ => some k_ ≠ (.slice Ao37 y328.length co37 : Value).ownBlock) (fun _ => False) rfl rfl ?aO ?aR (fun _ _ h => h) (fun _ h => h.elim) ?aF ?aB ?aS ?aL ?_; (case aR => repeat (first | exact (Kd.R_reads' HO330.out).2.2 | (with_reducible refine Kd.C_alloc ?_ _) | (with_reducible refine Kd.C_drewN ?_ _) | (with_reducible refine Kd.C_drew ?_))); (case aB => exact (by repeat (first | (with_reducible first | exact HB.out | apply below_alloc | apply pw_below_drewN | apply below_drew1) | exact HB.out))); (case aF => exact (fun k_ hk => Kd.fresh' (Kd.R_lt (by (with_reducible repeat (first | apply Kd.R_alloc | apply Kd.R_drewN | apply Kd.R_drew)); exact HO330.out)) k_ hk)); (case aO => exact (by (with_reducible repeat (first | apply Kd.R_alloc | apply Kd.R_drewN | apply Kd.R_drew)); exact Kd.R_mono HO324.out (fun _ hk => hk.2))); (case aS => exact (below_size (by repeat (first | (with_reducible first | exact HB.out | apply below_alloc | apply pw_below_drewN | apply below_drew1) | exact HB.out)))); (case aL => have := LMc30.out; omega); intro v332 w36 ho hb hg hat; rw [← Ny331.out] at ho; have n0_ := Aside0.mk (Kd.R_over' (by (with_reducible repeat (first | apply Kd.R_alloc | apply Kd.R_drewN | apply Kd.R_drew)); exact HO_8.out) (Kd.R_typed (by (with_reducible repeat (first | apply Kd.R_alloc | apply Kd.R_drewN | apply Kd.R_drew)); exact HO324.out)) (by decide) hg); have n1_ := Aside0.mk (Kd.R_after (ok := (fun _ => True)) (by (with_reducible repeat (first | apply Kd.R_alloc | apply Kd.R_drewN | apply Kd.R_drew)); exact HO330.out) hg hat); have n2_ := Aside0.mk (hb); have n3_ := Aside0.mk (ho); clear HO_8; clear HO330; clear HB; clear HO324; have HO_8 := n0_; have HO330 := n1_; have HB := n2_; have HO333 := n3_; clear n0_ n1_ n2_ n3_; clear ho hb hg hat))
                                  go_roundg k1
                                  case measure => have := HK1.out; omega
                                  case rel => exact ⟨(y331), (ji18), (by first | rfl | (simp; done) | (simp only [← hji18] <;> (first | rfl | simp)) | (simp [*]; done)), H', ⟨by have := HK1.out; omega⟩, ⟨by (with_reducible repeat (first | apply Kd.R_alloc | apply Kd.R_drewN | apply Kd.R_drew)); exact HO_8.out⟩, ⟨by (with_reducible repeat (first | apply Kd.R_alloc | apply Kd.R_drewN | apply Kd.R_drew)); exact Kd.R_mono HO333.out (fun _ hk => trivial)⟩, ⟨by repeat (first | (with_reducible first | exact HB.out | apply below_alloc | apply pw_below_drewN | apply below_drew1) | exact HB.out)⟩⟩
                              · rw [if_neg c30] at H
                                exact absurd H (by simp)
                          · rw [if_neg c23] at H
                            exact absurd H (by simp)
                        · rw [if_neg c22] at H
                          exact absurd H (by simp)
                      · rw [if_neg c21] at H
                        exact absurd H (by simp)
                    · rw [if_neg c20] at H
                      exact absurd H (by simp)
                  · rw [if_neg c19] at H
                    exact absurd H (by simp)
                · rw [if_neg c17] at H
                  exact absurd H (by simp)
              · rw [if_neg c16] at H
                exact absurd H (by simp)
            · rw [if_neg c15] at H
              have c15b0 : decide ((wrap64 (x12_1 + 1)) < (t315.length : Int)) = false := decide_eq_false c15
              clear c15
              replace H := Option.bind_eq_some_iff.mp H
              obtain ⟨⟨t334, t335, t336⟩, A380, H⟩ := H
              replace H : ((lychgatelaw08_alike.f k1 t315 t334).bind fun t339 => (if (x11_1.length : Int) ≤ 8000 then (if t335 = 0 then (if t336 = 0 then (if t339 = true then (lychgatelaw08_LexSpread.j1 k1 a1 a2 t314) else (none)) else (none)) else (none)) else (lychgatelaw08_LexSpread.j1 k1 a1 a2 t314))) = some r := H
              have A38 := Aside0.mk A380
              clear A380
              replace H := Option.bind_eq_some_iff.mp H
              obtain ⟨t339, A390, H⟩ := H
              replace H : (if (x11_1.length : Int) ≤ 8000 then (if t335 = 0 then (if t336 = 0 then (if t339 = true then (lychgatelaw08_LexSpread.j1 k1 a1 a2 t314) else (none)) else (none)) else (none)) else (lychgatelaw08_LexSpread.j1 k1 a1 a2 t314)) = some r := H
              have A39 := Aside0.mk A390
              clear A390
              by_cases c40 : (x11_1.length : Int) ≤ 8000
              · rw [if_pos c40] at H
                have c40b0 : decide ((x11_1.length : Int) ≤ 8000) = true := decide_eq_true c40
                have c40b1 : decide (x11_1.length ≤ 8000) = true := decide_eq_true (by omega)
                clear c40
                by_cases c41 : t335 = 0
                · rw [if_pos c41] at H
                  have c41b0 : (t335 == 0) = true := beq_iff_eq.mpr c41
                  have c41b1 : (t335 != 0) = false := bne_eq_false_iff_eq.mpr c41
                  clear c41
                  by_cases c42 : t336 = 0
                  · rw [if_pos c42] at H
                    have c42b0 : (t336 == 0) = true := beq_iff_eq.mpr c42
                    have c42b1 : (t336 != 0) = false := bne_eq_false_iff_eq.mpr c42
                    clear c42
                    by_cases c43 : t339 = true
                    · subst c43
                      have H1 : (lychgatelaw08_LexSpread.j1 k1 a1 a2 t314) = some r := by rw [if_pos rfl] at H; exact H
                      clear H
                      have H := H1
                      clear H1
                      as_aux_lemma =>
                        have H' := Aside0.mk H
                        clear H
                        obtain ⟨Ao44, co44, eo44⟩ := Kd.R_slice HO_8.out
                        subst eo44
                        have hcv45 := own_string (P := Tryd.prog) Tryd.underlying33 Tryd.underlying5 Tryd.underlying9 (Kd.own_of_R HO_11.out)
                        go_wp2_with (first | ((with_reducible refine gate_callee (f := 14) rfl ?_); refine goesL_ (some 83) rfl rfl Tryd.func14 (by kernel_rfl) rfl #[.string (strOfNums x11_1)] rfl (by (try simp only [List.map_toArray, List.map_cons, List.map_nil]); first | done | rfl | (simp only [List.length_drop, List.length_take]; rfl)) ?_; (with_reducible refine (lex_Scan.calls k1 (strOfNums x11_1) t334 t335 t336 _ ?side1 A38.out).mono ?_); (case side1 => exact Inv.below HI_.out (by repeat (first | (with_reducible first | exact HB.out | apply below_alloc | apply pw_below_drewN | apply below_drew1) | exact HB.out))); rintro e w46 ⟨v337, rfl, ho0, hb⟩; refine ⟨_, rfl, ?_⟩; have n0_ := Aside0.mk (Kd.R_elder' (by (with_reducible repeat (first | apply Kd.R_alloc | apply Kd.R_drewN | apply Kd.R_drew)); exact HO_8.out) (Kd.R_base ho0) hb); have n1_ := Aside0.mk (Kd.R_below (by (with_reducible repeat (first | apply Kd.R_alloc | apply Kd.R_drewN | apply Kd.R_drew)); exact HO_11.out) hb); have n2_ := Aside0.mk (Kd.R_lower (Kd.R_new' ho0 (Kd.R_lt (by (with_reducible repeat (first | apply Kd.R_alloc | apply Kd.R_drewN | apply Kd.R_drew)); exact HO_8.out))) (below_size (by repeat (first | (with_reducible first | exact HB.out | apply below_alloc | apply pw_below_drewN | apply below_drew1) | exact HB.out)))); have n3_ := Aside0.mk (below_step (by repeat (first | (with_reducible first | exact HB.out | apply below_alloc | apply pw_below_drewN | apply below_drew1) | exact HB.out)) hb); clear HO_8; clear HO_11; clear HB; have HO_8 := n0_; have HO_11 := n1_; have HO338 := n2_; have HB := n3_; clear n0_ n1_ n2_ n3_; (try clear hb); (try clear hb2); (try clear hk); (try clear hi); (try clear ho0); obtain ⟨Ao47, co47, eo47⟩ := Kd.R_slice HO338.out; subst eo47) | ((with_reducible refine gate_callee (f := 15) rfl ?_); refine goesL_ (some 89) rfl rfl Tryd.func15 (by kernel_rfl) rfl #[.slice Ao44 t315.length co44, .slice Ao47 t334.length co47] rfl (by (try simp only [List.map_toArray, List.map_cons, List.map_nil]); first | done | rfl | (simp only [List.length_drop, List.length_take]; rfl)) ?_; (with_reducible refine (lychgatelaw08_alike.calls k1 _ _ t315 _ _ t334 true _ ?side1 ?side2 ?side3 ?side4 A39.out).mono ?_); (case side1 => repeat (first | exact (Kd.R_reads' HO_8.out).2.2 | (with_reducible refine Kd.C_alloc ?_ _) | (with_reducible refine Kd.C_drewN ?_ _) | (with_reducible refine Kd.C_drew ?_))); (case side2 => exact (Kd.R_reads' HO_8.out).2.1); (case side3 => repeat (first | exact (Kd.R_reads' HO338.out).2.2 | (with_reducible refine Kd.C_alloc ?_ _) | (with_reducible refine Kd.C_drewN ?_ _) | (with_reducible refine Kd.C_drew ?_))); (case side4 => exact (Kd.R_reads' HO338.out).2.1); rintro e w48 ⟨rfl, hb⟩; refine ⟨_, rfl, ?_⟩; have n0_ := Aside0.mk (Kd.R_below (by (with_reducible repeat (first | apply Kd.R_alloc | apply Kd.R_drewN | apply Kd.R_drew)); exact HO_8.out) hb); have n1_ := Aside0.mk (Kd.R_below (by (with_reducible repeat (first | apply Kd.R_alloc | apply Kd.R_drewN | apply Kd.R_drew)); exact HO_11.out) hb); have n2_ := Aside0.mk (Kd.R_below (by (with_reducible repeat (first | apply Kd.R_alloc | apply Kd.R_drewN | apply Kd.R_drew)); exact HO338.out) hb); have n3_ := Aside0.mk (below_step (by repeat (first | (with_reducible first | exact HB.out | apply below_alloc | apply pw_below_drewN | apply below_drew1) | exact HB.out)) hb); clear HO_8; clear HO_11; clear HO338; clear HB; have HO_8 := n0_; have HO_11 := n1_; have HO338 := n2_; have HB := n3_; clear n0_ n1_ n2_ n3_; (try clear hb); (try clear hb2); (try clear hk); (try clear hi); obtain ⟨Ao49, co49, eo49⟩ := Kd.R_slice HO_11.out; subst eo49))
                        go_meet
                        case rel => exact ⟨_, H', ⟨by have := HK1.out; first | omega | exact Nat.le_refl _⟩, ⟨by repeat (first | (with_reducible first | exact HB.out | apply below_alloc | apply pw_below_drewN | apply below_drew1) | exact HB.out)⟩⟩
                    · replace c43 := Bool.eq_false_iff.mpr c43
                      subst c43
                      have H1 : (none) = some r := by rw [if_neg (show ¬ (false = true) by decide)] at H; exact H
                      clear H
                      have H := H1
                      clear H1
                      as_aux_lemma =>
                        exact absurd H (by simp)
                  · rw [if_neg c42] at H
                    have c42b0 : (t336 == 0) = false := beq_eq_false_iff_ne.mpr c42
                    have c42b1 : (t336 != 0) = true := bne_iff_ne.mpr c42
                    as_aux_lemma =>
                      exact absurd H (by simp)
                · rw [if_neg c41] at H
                  have c41b0 : (t335 == 0) = false := beq_eq_false_iff_ne.mpr c41
                  have c41b1 : (t335 != 0) = true := bne_iff_ne.mpr c41
                  as_aux_lemma =>
                    exact absurd H (by simp)
              · rw [if_neg c40] at H
                have c40b0 : decide ((x11_1.length : Int) ≤ 8000) = false := decide_eq_false c40
                have c40b1 : decide (x11_1.length ≤ 8000) = false := decide_eq_false (by omega)
                clear c40
                as_aux_lemma =>
                  have H' := Aside0.mk H
                  clear H
                  obtain ⟨Ao68, co68, eo68⟩ := Kd.R_slice HO_8.out
                  subst eo68
                  have hcv69 := own_string (P := Tryd.prog) Tryd.underlying33 Tryd.underlying5 Tryd.underlying9 (Kd.own_of_R HO_11.out)
                  go_wp2_with (first | ((with_reducible refine gate_callee (f := 14) rfl ?_); refine goesL_ (some 83) rfl rfl Tryd.func14 (by kernel_rfl) rfl #[.string (strOfNums x11_1)] rfl (by (try simp only [List.map_toArray, List.map_cons, List.map_nil]); first | done | rfl | (simp only [List.length_drop, List.length_take]; rfl)) ?_; (with_reducible refine (lex_Scan.calls k1 (strOfNums x11_1) t334 t335 t336 _ ?side1 A38.out).mono ?_); (case side1 => exact Inv.below HI_.out (by repeat (first | (with_reducible first | exact HB.out | apply below_alloc | apply pw_below_drewN | apply below_drew1) | exact HB.out))); rintro e w70 ⟨v337, rfl, ho0, hb⟩; refine ⟨_, rfl, ?_⟩; have n0_ := Aside0.mk (Kd.R_elder' (by (with_reducible repeat (first | apply Kd.R_alloc | apply Kd.R_drewN | apply Kd.R_drew)); exact HO_8.out) (Kd.R_base ho0) hb); have n1_ := Aside0.mk (Kd.R_below (by (with_reducible repeat (first | apply Kd.R_alloc | apply Kd.R_drewN | apply Kd.R_drew)); exact HO_11.out) hb); have n2_ := Aside0.mk (Kd.R_lower (Kd.R_new' ho0 (Kd.R_lt (by (with_reducible repeat (first | apply Kd.R_alloc | apply Kd.R_drewN | apply Kd.R_drew)); exact HO_8.out))) (below_size (by repeat (first | (with_reducible first | exact HB.out | apply below_alloc | apply pw_below_drewN | apply below_drew1) | exact HB.out)))); have n3_ := Aside0.mk (below_step (by repeat (first | (with_reducible first | exact HB.out | apply below_alloc | apply pw_below_drewN | apply below_drew1) | exact HB.out)) hb); clear HO_8; clear HO_11; clear HB; have HO_8 := n0_; have HO_11 := n1_; have HO338 := n2_; have HB := n3_; clear n0_ n1_ n2_ n3_; (try clear hb); (try clear hb2); (try clear hk); (try clear hi); (try clear ho0); obtain ⟨Ao71, co71, eo71⟩ := Kd.R_slice HO338.out; subst eo71) | ((with_reducible refine gate_callee (f := 15) rfl ?_); refine goesL_ (some 89) rfl rfl Tryd.func15 (by kernel_rfl) rfl #[.slice Ao68 t315.length co68, .slice Ao71 t334.length co71] rfl (by (try simp only [List.map_toArray, List.map_cons, List.map_nil]); first | done | rfl | (simp only [List.length_drop, List.length_take]; rfl)) ?_; (with_reducible refine (lychgatelaw08_alike.calls k1 _ _ t315 _ _ t334 t339 _ ?side1 ?side2 ?side3 ?side4 A39.out).mono ?_); (case side1 => repeat (first | exact (Kd.R_reads' HO_8.out).2.2 | (with_reducible refine Kd.C_alloc ?_ _) | (with_reducible refine Kd.C_drewN ?_ _) | (with_reducible refine Kd.C_drew ?_))); (case side2 => exact (Kd.R_reads' HO_8.out).2.1); (case side3 => repeat (first | exact (Kd.R_reads' HO338.out).2.2 | (with_reducible refine Kd.C_alloc ?_ _) | (with_reducible refine Kd.C_drewN ?_ _) | (with_reducible refine Kd.C_drew ?_))); (case side4 => exact (Kd.R_reads' HO338.out).2.1); rintro e w72 ⟨rfl, hb⟩; refine ⟨_, rfl, ?_⟩; have n0_ := Aside0.mk (Kd.R_below (by (with_reducible repeat (first | apply Kd.R_alloc | apply Kd.R_drewN | apply Kd.R_drew)); exact HO_8.out) hb); have n1_ := Aside0.mk (Kd.R_below (by (with_reducible repeat (first | apply Kd.R_alloc | apply Kd.R_drewN | apply Kd.R_drew)); exact HO_11.out) hb); have n2_ := Aside0.mk (Kd.R_below (by (with_reducible repeat (first | apply Kd.R_alloc | apply Kd.R_drewN | apply Kd.R_drew)); exact HO338.out) hb); have n3_ := Aside0.mk (below_step (by repeat (first | (with_reducible first | exact HB.out | apply below_alloc | apply pw_below_drewN | apply below_drew1) | exact HB.out)) hb); clear HO_8; clear HO_11; clear HO338; clear HB; have HO_8 := n0_; have HO_11 := n1_; have HO338 := n2_; have HB := n3_; clear n0_ n1_ n2_ n3_; (try clear hb); (try clear hb2); (try clear hk); (try clear hi); obtain ⟨Ao73, co73, eo73⟩ := Kd.R_slice HO_11.out; subst eo73))
                  go_meet
                  case rel => exact ⟨_, H', ⟨by have := HK1.out; first | omega | exact Nat.le_refl _⟩, ⟨by repeat (first | (with_reducible first | exact HB.out | apply below_alloc | apply pw_below_drewN | apply below_drew1) | exact HB.out)⟩⟩
      · rw [if_neg c14] at H
        have c14b0 : (t316 == 0) = false := beq_eq_false_iff_ne.mpr c14
        have c14b1 : (t316 != 0) = true := bne_iff_ne.mpr c14
        (first | rw [c14b0] | (simp only [i64_w, i32_w]; rw [c14b0]) | skip)
        by_cases c74 : (t315.length : Int) = 0
        · rw [if_pos c74] at H
          have c74b0 : ((t315.length : Int) == 0) = true := beq_iff_eq.mpr c74
          have c74b1 : ((t315.length : Int) != 0) = false := bne_eq_false_iff_eq.mpr c74
          clear c74
          as_aux_lemma =>
            have H' := Aside0.mk H
            clear H
            obtain ⟨Ao75, co75, eo75⟩ := Kd.R_slice HO319.out
            subst eo75
            go_wp2
            go_meet
            case rel => exact ⟨_, H', ⟨by first | omega | exact Nat.le_refl _⟩, ⟨by repeat (first | (with_reducible first | exact HB.out | apply below_alloc | apply pw_below_drewN | apply below_drew1) | exact HB.out)⟩⟩
        · rw [if_neg c74] at H
          have c74b0 : ((t315.length : Int) == 0) = false := beq_eq_false_iff_ne.mpr c74
          have c74b1 : ((t315.length : Int) != 0) = true := bne_iff_ne.mpr c74
          have c74b2 : ¬ (t315 = []) := fun h_ => c74 (by rw [h_]; rfl)
          as_aux_lemma =>
            exact absurd H (by simp)
    case rest =>
      clear HC11
      try clear c1
      try clear c2
      try clear p2
      try clear c3
      try clear p3
      try clear q3
      try clear hx3
      try clear c4
      try clear hcv4
      try clear hcv5
      try clear c6
      try clear p6
      try clear hcv6
      try clear c7
      try clear c8
      try clear c8b0
      try clear c13
      try clear c14
      try clear c14b0
      try clear c14b1
      try clear c15
      try clear c15b0
      try clear c16
      try clear c16b0
      try clear c17
      try clear c17b0
      try clear c19
      try clear c19b0
      try clear c20
      try clear c20b0
      try clear c20b1
      try clear c21
      try clear c21b0
      try clear c21b1
      try clear c22
      try clear c22b0
      try clear c22b1
      try clear c23
      try clear c24
      try clear c24b0
      try clear c24b1
      try clear c25
      try clear c30
      try clear p32
      try clear q32
      try clear hx32
      try clear c40
      try clear c40b0
      try clear c40b1
      try clear c41
      try clear c41b0
      try clear c41b1
      try clear c42
      try clear c42b0
      try clear c42b1
      try clear c43
      try clear hcv45
      try clear hcv51
      try clear hcv57
      try clear hcv63
      try clear p64
      try clear hcv69
      try clear c74
      try clear c74b0
      try clear c74b1
      try clear c74b2
      try clear hx320_0
      try clear hx320_1
      try clear hx320_2
      try clear hx320_3
      try clear hx320_4
      try clear hx320_5
      try clear hx321_0
      try clear hx321_1
      try clear hx321_2
      try clear hx321_3
      try clear hx321_4
      try clear hx321_5
      try clear p2
      try clear p320
      try clear p321
      try clear q320
      try clear q321
      obtain ⟨kq, HA, HJ10, HB⟩ := hcut
      cases kq with
      | zero => exact absurd HA.out (by simp [lychgatelaw08_LexSpread.j1])
      | succ kj10 =>
        have H := HA.out
        clear HA
        simp only [lychgatelaw08_LexSpread.j1] at H
        replace H := Option.bind_eq_some_iff.mp H
        obtain ⟨⟨t340, t341⟩, A770, H⟩ := H
        replace H : ((lex_Scan.f kj10 t340).bind fun bt342 => (if t341 = 0 then (if bt342.2.1 = 0 then (if (bt342.1.length : Int) = 2 then (if 0 < (bt342.1.length : Int) then (if (!(((rd_T37 bt342.1 0).f0) == 6) || (!((((rd_T37 bt342.1 0).f1).toList) == a1.toList) || (!(((rd_T37 bt342.1 0).f2) == 0) || ((!(((rd_T37 bt342.1 0).f3.f0) == 0) || (!(((rd_T37 bt342.1 0).f3.f1) == 0))) || (!(((rd_T37 bt342.1 0).f4) == 0)))))) = true then (lychgatelaw08_LexSpread.j2 kj10 a2 t314 true) else (if 1 < (bt342.1.length : Int) then (lychgatelaw08_LexSpread.j2 kj10 a2 t314 (((rd_T37 bt342.1 1).f4) != (t340.size : Int))) else (none))) else (none)) else (lychgatelaw08_LexSpread.j2 kj10 a2 t314 true)) else (lychgatelaw08_LexSpread.j2 kj10 a2 t314 true)) else (lychgatelaw08_LexSpread.j2 kj10 a2 t314 false))) = some r := H
        have A77 := Aside0.mk A770
        clear A770
        replace H := Option.bind_eq_some_iff.mp H
        obtain ⟨⟨t342, t343, t344⟩, A780, H⟩ := H
        replace H : (if t341 = 0 then (if t343 = 0 then (if (t342.length : Int) = 2 then (if 0 < (t342.length : Int) then (if (!(((rd_T37 t342 0).f0) == 6) || (!((((rd_T37 t342 0).f1).toList) == a1.toList) || (!(((rd_T37 t342 0).f2) == 0) || ((!(((rd_T37 t342 0).f3.f0) == 0) || (!(((rd_T37 t342 0).f3.f1) == 0))) || (!(((rd_T37 t342 0).f4) == 0)))))) = true then (lychgatelaw08_LexSpread.j2 kj10 a2 t314 true) else (if 1 < (t342.length : Int) then (lychgatelaw08_LexSpread.j2 kj10 a2 t314 (((rd_T37 t342 1).f4) != (t340.size : Int))) else (none))) else (none)) else (lychgatelaw08_LexSpread.j2 kj10 a2 t314 true)) else (lychgatelaw08_LexSpread.j2 kj10 a2 t314 true)) else (lychgatelaw08_LexSpread.j2 kj10 a2 t314 false)) = some r := H
        have A78 := Aside0.mk A780
        clear A780
        have HC79 := Aside0.mk H
        clear H
        go_upto_region 22 with (first | ((with_reducible refine gate_callee (f := 7) rfl ?_); refine goesL_ (some 110) rfl rfl Tryd.func7 (by kernel_rfl) rfl #[.string a1] rfl (by (try simp only [List.map_toArray, List.map_cons, List.map_nil]); first | done | rfl | (simp only [List.length_drop, List.length_take]; rfl)) ?_; (with_reducible refine (lex_Quote.calls kj10 a1 t340 t341 _ A77.out).mono ?_); rintro e w80 ⟨rfl, hb⟩; refine ⟨_, rfl, ?_⟩; have n0_ := Aside0.mk (below_step (by repeat (first | (with_reducible first | exact HB.out | apply below_alloc | apply pw_below_drewN | apply below_drew1) | exact HB.out)) hb); clear HB; have HB := n0_; clear n0_; (try clear hb); (try clear hb2); (try clear hk); (try clear hi)) | ((with_reducible refine gate_callee (f := 14) rfl ?_); refine goesL_ (some 115) rfl rfl Tryd.func14 (by kernel_rfl) rfl #[.string t340] rfl (by (try simp only [List.map_toArray, List.map_cons, List.map_nil]); first | done | rfl | (simp only [List.length_drop, List.length_take]; rfl)) ?_; (with_reducible refine (lex_Scan.calls kj10 t340 t342 t343 t344 _ ?side1 A78.out).mono ?_); (case side1 => exact Inv.below HI_.out (by repeat (first | (with_reducible first | exact HB.out | apply below_alloc | apply pw_below_drewN | apply below_drew1) | exact HB.out))); rintro e w81 ⟨v345, rfl, ho0, hb⟩; refine ⟨_, rfl, ?_⟩; have n0_ := Aside0.mk (Kd.R_lower ho0 (below_size (by repeat (first | (with_reducible first | exact HB.out | apply below_alloc | apply pw_below_drewN | apply below_drew1) | exact HB.out)))); have n1_ := Aside0.mk (below_step (by repeat (first | (with_reducible first | exact HB.out | apply below_alloc | apply pw_below_drewN | apply below_drew1) | exact HB.out)) hb); clear HB; have HO346 := n0_; have HB := n1_; clear n0_ n1_; (try clear hb); (try clear hb2); (try clear hk); (try clear hi); (try clear ho0)))
        (try simp only [Act.put, List.setIfInBounds_toArray, List.set_cons_zero, List.set_cons_succ])
        go_cut [146] (fun v146 wc => ∃ (kq : Nat) (x146_78 : Bool), v146 = .bool x146_78 ∧ Aside0 (lychgatelaw08_LexSpread.j2 kq a2 t314 x146_78 = some r) ∧ Aside0 (kq ≤ kj10) ∧ Aside0 (Below w.heap.size w wc))
        case first =>
          have H := HC79.out
          clear HC79
          by_cases c82 : t341 = 0
          · rw [if_pos c82] at H
            have c82b0 : (t341 == 0) = true := beq_iff_eq.mpr c82
            have c82b1 : (t341 != 0) = false := bne_eq_false_iff_eq.mpr c82
            clear c82
            (first | rw [c82b0] | (simp only [i64_w, i32_w]; rw [c82b0]) | skip)
            by_cases c83 : t343 = 0
            · rw [if_pos c83] at H
              have c83b0 : (t343 == 0) = true := beq_iff_eq.mpr c83
              have c83b1 : (t343 != 0) = false := bne_eq_false_iff_eq.mpr c83
              clear c83
              by_cases c84 : (t342.length : Int) = 2
              · rw [if_pos c84] at H
                have c84b0 : ((t342.length : Int) == 2) = true := beq_iff_eq.mpr c84
                have c84b1 : ((t342.length : Int) != 2) = false := bne_eq_false_iff_eq.mpr c84
                clear c84
                by_cases c85 : 0 < (t342.length : Int)
                · rw [if_pos c85] at H
                  have c85b0 : decide (0 < (t342.length : Int)) = true := decide_eq_true c85
                  have c85b1 : decide (0 < t342.length) = true := decide_eq_true (by omega)
                  clear c85
                  by_cases c86 : (!(((rd_T37 t342 0).f0) == 6) || (!((((rd_T37 t342 0).f1).toList) == a1.toList) || (!(((rd_T37 t342 0).f2) == 0) || ((!(((rd_T37 t342 0).f3.f0) == 0) || (!(((rd_T37 t342 0).f3.f1) == 0))) || (!(((rd_T37 t342 0).f4) == 0)))))) = true
                  · rw [if_pos c86] at H
                    have c86b0 : (!(((rd_T37 t342 0).f0) == 6) || (!((((rd_T37 t342 0).f1).toList) == a1.toList) || (!(((rd_T37 t342 0).f2) == 0) || ((!(((rd_T37 t342 0).f3.f0) == 0) || (!(((rd_T37 t342 0).f3.f1) == 0))) || (!(((rd_T37 t342 0).f4) == 0)))))) = true := c86
                    clear c86
                    as_aux_lemma =>
                      have H' := Aside0.mk H
                      clear H
                      obtain ⟨Ao87, co87, eo87⟩ := Kd.R_slice HO346.out
                      subst eo87
                      have p347 : 0 ≤ (0 : Int) := (by omega)
                      have q347 : 0 < (t342.length : Int) := of_decide_eq_true (by first | (with_reducible assumption) | assumption)
                      obtain ⟨ad347, e347, hx347_0, hx347_1, hx347_2, hx347_3, hx347_4, hx347_5⟩ := at_T37 (Kd.R_reads' HO346.out).2.2 0 p347 q347
                      cases e347
                      have qi347 : (0 < t342.length) = True := eq_true (by omega)
                      (try rw [show ((0 : Int)).toNat = 0 from rfl] at hx347_0)
                      (try rw [show 0 * 6 = 0 from rfl] at hx347_0)
                      (try rw [Addr.add_zero'] at hx347_0)
                      (try rw [show ((0 : Int)).toNat = 0 from rfl] at hx347_1)
                      (try rw [show 0 * 6 = 0 from rfl] at hx347_1)
                      (try rw [Addr.add_zero'] at hx347_1)
                      (try rw [show ((0 : Int)).toNat = 0 from rfl] at hx347_2)
                      (try rw [show 0 * 6 = 0 from rfl] at hx347_2)
                      (try rw [Addr.add_zero'] at hx347_2)
                      (try rw [show ((0 : Int)).toNat = 0 from rfl] at hx347_3)
                      (try rw [show 0 * 6 = 0 from rfl] at hx347_3)
                      (try rw [Addr.add_zero'] at hx347_3)
                      (try rw [show ((0 : Int)).toNat = 0 from rfl] at hx347_4)
                      (try rw [show 0 * 6 = 0 from rfl] at hx347_4)
                      (try rw [Addr.add_zero'] at hx347_4)
                      (try rw [show ((0 : Int)).toNat = 0 from rfl] at hx347_5)
                      (try rw [show 0 * 6 = 0 from rfl] at hx347_5)
                      (try rw [Addr.add_zero'] at hx347_5)
                      replace p347 := eq_true p347
                      replace q347 := eq_true q347
                      go_wp2
                      go_meet
                      case rel => exact ⟨_, (true), (by first | rfl | (simp; done) | (simp [*]; done)), H', ⟨by have := HJ10.out; first | omega | exact Nat.le_refl _⟩, ⟨by repeat (first | (with_reducible first | exact HB.out | apply below_alloc | apply pw_below_drewN | apply below_drew1) | exact HB.out)⟩⟩
                  · rw [if_neg c86] at H
                    have c86b0 : (!(((rd_T37 t342 0).f0) == 6) || (!((((rd_T37 t342 0).f1).toList) == a1.toList) || (!(((rd_T37 t342 0).f2) == 0) || ((!(((rd_T37 t342 0).f3.f0) == 0) || (!(((rd_T37 t342 0).f3.f1) == 0))) || (!(((rd_T37 t342 0).f4) == 0)))))) = false := by first | (simp; done) | (have e_ := c86; simp at e_; done) | simpa using c86
                    clear c86
                    by_cases c88 : 1 < (t342.length : Int)
                    · rw [if_pos c88] at H
                      have c88b0 : decide (1 < (t342.length : Int)) = true := decide_eq_true c88
                      have c88b1 : decide (1 < t342.length) = true := decide_eq_true (by omega)
                      clear c88
                      as_aux_lemma =>
                        have H' := Aside0.mk H
                        clear H
                        obtain ⟨Ao89, co89, eo89⟩ := Kd.R_slice HO346.out
                        subst eo89
                        have p347 : 0 ≤ (0 : Int) := (by omega)
                        have q347 : 0 < (t342.length : Int) := of_decide_eq_true (by first | (with_reducible assumption) | assumption)
                        obtain ⟨ad347, e347, hx347_0, hx347_1, hx347_2, hx347_3, hx347_4, hx347_5⟩ := at_T37 (Kd.R_reads' HO346.out).2.2 0 p347 q347
                        cases e347
                        have qi347 : (0 < t342.length) = True := eq_true (by omega)
                        (try rw [show ((0 : Int)).toNat = 0 from rfl] at hx347_0)
                        (try rw [show 0 * 6 = 0 from rfl] at hx347_0)
                        (try rw [Addr.add_zero'] at hx347_0)
                        (try rw [show ((0 : Int)).toNat = 0 from rfl] at hx347_1)
                        (try rw [show 0 * 6 = 0 from rfl] at hx347_1)
                        (try rw [Addr.add_zero'] at hx347_1)
                        (try rw [show ((0 : Int)).toNat = 0 from rfl] at hx347_2)
                        (try rw [show 0 * 6 = 0 from rfl] at hx347_2)
                        (try rw [Addr.add_zero'] at hx347_2)
                        (try rw [show ((0 : Int)).toNat = 0 from rfl] at hx347_3)
                        (try rw [show 0 * 6 = 0 from rfl] at hx347_3)
                        (try rw [Addr.add_zero'] at hx347_3)
                        (try rw [show ((0 : Int)).toNat = 0 from rfl] at hx347_4)
                        (try rw [show 0 * 6 = 0 from rfl] at hx347_4)
                        (try rw [Addr.add_zero'] at hx347_4)
                        (try rw [show ((0 : Int)).toNat = 0 from rfl] at hx347_5)
                        (try rw [show 0 * 6 = 0 from rfl] at hx347_5)
                        (try rw [Addr.add_zero'] at hx347_5)
                        replace p347 := eq_true p347
                        replace q347 := eq_true q347
                        have p348 : 0 ≤ (1 : Int) := (by omega)
                        have q348 : 1 < (t342.length : Int) := of_decide_eq_true (by first | (with_reducible assumption) | assumption)
                        obtain ⟨ad348, e348, hx348_0, hx348_1, hx348_2, hx348_3, hx348_4, hx348_5⟩ := at_T37 (Kd.R_reads' HO346.out).2.2 1 p348 q348
                        obtain rfl : ad347 = ad348 := (by injection e348)
                        (try simp only [show (1 : Int).toNat = 1 from rfl, Nat.reduceMul, Nat.reduceEqDiff, Go.Addr.add, ↓reduceIte] at hx348_0)
                        (try simp only [show (1 : Int).toNat = 1 from rfl, Nat.reduceMul, Nat.reduceEqDiff, Go.Addr.add, ↓reduceIte] at hx348_1)
                        (try simp only [show (1 : Int).toNat = 1 from rfl, Nat.reduceMul, Nat.reduceEqDiff, Go.Addr.add, ↓reduceIte] at hx348_2)
                        (try simp only [show (1 : Int).toNat = 1 from rfl, Nat.reduceMul, Nat.reduceEqDiff, Go.Addr.add, ↓reduceIte] at hx348_3)
                        (try simp only [show (1 : Int).toNat = 1 from rfl, Nat.reduceMul, Nat.reduceEqDiff, Go.Addr.add, ↓reduceIte] at hx348_4)
                        (try simp only [show (1 : Int).toNat = 1 from rfl, Nat.reduceMul, Nat.reduceEqDiff, Go.Addr.add, ↓reduceIte] at hx348_5)
                        have qi348 : (1 < t342.length) = True := eq_true (by omega)
                        (try rw [show ((1 : Int)).toNat = 1 from rfl] at hx348_0)
                        (try rw [show 1 * 6 = 6 from rfl] at hx348_0)
                        (try rw [show ((1 : Int)).toNat = 1 from rfl] at hx348_1)
                        (try rw [show 1 * 6 = 6 from rfl] at hx348_1)
                        (try rw [show ((1 : Int)).toNat = 1 from rfl] at hx348_2)
                        (try rw [show 1 * 6 = 6 from rfl] at hx348_2)
                        (try rw [show ((1 : Int)).toNat = 1 from rfl] at hx348_3)
                        (try rw [show 1 * 6 = 6 from rfl] at hx348_3)
                        (try rw [show ((1 : Int)).toNat = 1 from rfl] at hx348_4)
                        (try rw [show 1 * 6 = 6 from rfl] at hx348_4)
                        (try rw [show ((1 : Int)).toNat = 1 from rfl] at hx348_5)
                        (try rw [show 1 * 6 = 6 from rfl] at hx348_5)
                        replace p348 := eq_true p348
                        replace q348 := eq_true q348
                        go_wp2
                        go_meet
                        case rel => exact ⟨_, ((((rd_T37 t342 1).f4) != (t340.size : Int))), (by first | rfl | (simp; done) | (simp [*]; done)), H', ⟨by have := HJ10.out; first | omega | exact Nat.le_refl _⟩, ⟨by repeat (first | (with_reducible first | exact HB.out | apply below_alloc | apply pw_below_drewN | apply below_drew1) | exact HB.out)⟩⟩
                    · rw [if_neg c88] at H
                      exact absurd H (by simp)
                · rw [if_neg c85] at H
                  exact absurd H (by simp)
              · rw [if_neg c84] at H
                have c84b0 : ((t342.length : Int) == 2) = false := beq_eq_false_iff_ne.mpr c84
                have c84b1 : ((t342.length : Int) != 2) = true := bne_iff_ne.mpr c84
                as_aux_lemma =>
                  have H' := Aside0.mk H
                  clear H
                  obtain ⟨Ao90, co90, eo90⟩ := Kd.R_slice HO346.out
                  subst eo90
                  go_wp2
                  go_meet
                  case rel => exact ⟨_, (true), (by first | rfl | (simp; done) | (simp [*]; done)), H', ⟨by have := HJ10.out; first | omega | exact Nat.le_refl _⟩, ⟨by repeat (first | (with_reducible first | exact HB.out | apply below_alloc | apply pw_below_drewN | apply below_drew1) | exact HB.out)⟩⟩
            · rw [if_neg c83] at H
              have c83b0 : (t343 == 0) = false := beq_eq_false_iff_ne.mpr c83
              have c83b1 : (t343 != 0) = true := bne_iff_ne.mpr c83
              as_aux_lemma =>
                have H' := Aside0.mk H
                clear H
                go_wp2
                go_meet
                case rel => exact ⟨_, (true), (by first | rfl | (simp; done) | (simp [*]; done)), H', ⟨by have := HJ10.out; first | omega | exact Nat.le_refl _⟩, ⟨by repeat (first | (with_reducible first | exact HB.out | apply below_alloc | apply pw_below_drewN | apply below_drew1) | exact HB.out)⟩⟩
          · rw [if_neg c82] at H
            have c82b0 : (t341 == 0) = false := beq_eq_false_iff_ne.mpr c82
            have c82b1 : (t341 != 0) = true := bne_iff_ne.mpr c82
            (first | rw [c82b0] | (simp only [i64_w, i32_w]; rw [c82b0]) | skip)
            as_aux_lemma =>
              have H' := Aside0.mk H
              clear H
              go_wp2
              go_meet
              case rel => exact ⟨_, (false), (by first | rfl | (simp; done) | (simp [*]; done)), H', ⟨by have := HJ10.out; first | omega | exact Nat.le_refl _⟩, ⟨by repeat (first | (with_reducible first | exact HB.out | apply below_alloc | apply pw_below_drewN | apply below_drew1) | exact HB.out)⟩⟩
        case rest =>
          clear HC79
          try clear c1
          try clear c2
          try clear p2
          try clear c3
          try clear p3
          try clear q3
          try clear hx3
          try clear qi3
          try clear c4
          try clear hcv4
          try clear hcv5
          try clear c6
          try clear p6
          try clear hcv6
          try clear c7
          try clear c8
          try clear c8b0
          try clear c13
          try clear c14
          try clear c14b0
          try clear c14b1
          try clear c15
          try clear c15b0
          try clear c16
          try clear c16b0
          try clear c17
          try clear c17b0
          try clear c19
          try clear c19b0
          try clear c20
          try clear c20b0
          try clear c20b1
          try clear c21
          try clear c21b0
          try clear c21b1
          try clear c22
          try clear c22b0
          try clear c22b1
          try clear c23
          try clear c24
          try clear c24b0
          try clear c24b1
          try clear c25
          try clear c30
          try clear p32
          try clear q32
          try clear hx32
          try clear p34
          try clear q34
          try clear hx34
          try clear qi34
          try clear c40
          try clear c40b0
          try clear c40b1
          try clear c41
          try clear c41b0
          try clear c41b1
          try clear c42
          try clear c42b0
          try clear c42b1
          try clear c43
          try clear hcv45
          try clear hcv51
          try clear hcv57
          try clear hcv63
          try clear p64
          try clear hcv69
          try clear c74
          try clear c74b0
          try clear c74b1
          try clear c74b2
          try clear c82
          try clear c82b0
          try clear c82b1
          try clear c83
          try clear c83b0
          try clear c83b1
          try clear c84
          try clear c84b0
          try clear c84b1
          try clear c85
          try clear c85b0
          try clear c85b1
          try clear c86
          try clear c86b0
          try clear c88
          try clear c88b0
          try clear c88b1
          try clear hx320_0
          try clear hx320_1
          try clear hx320_2
          try clear hx320_3
          try clear hx320_4
          try clear hx320_5
          try clear hx321_0
          try clear hx321_1
          try clear hx321_2
          try clear hx321_3
          try clear hx321_4
          try clear hx321_5
          try clear hx347_0
          try clear hx347_1
          try clear hx347_2
          try clear hx347_3
          try clear hx347_4
          try clear hx347_5
          try clear hx348_0
          try clear hx348_1
          try clear hx348_2
          try clear hx348_3
          try clear hx348_4
          try clear hx348_5
          try clear p2
          try clear p3
          try clear p32
          try clear p320
          try clear p321
          try clear p347
          try clear p348
          try clear p6
          try clear p64
          try clear q3
          try clear q32
          try clear q320
          try clear q321
          try clear q347
          try clear q348
          obtain ⟨kq, x146_78, rfl, HA, HJ78, HB⟩ := hcut
          cases kq with
          | zero => exact absurd HA.out (by simp [lychgatelaw08_LexSpread.j2])
          | succ kj78 =>
            have H := HA.out
            clear HA
            simp only [lychgatelaw08_LexSpread.j2] at H
            by_cases c91 : x146_78 = true
            · subst c91
              have H1 : (none) = some r := by rw [if_pos rfl] at H; exact H
              clear H
              have H := H1
              clear H1
              as_aux_lemma =>
                exact absurd H (by simp)
            · replace c91 := Bool.eq_false_iff.mpr c91
              subst c91
              have H1 : ((lex_IsWord.f kj78 a2).bind fun t349 => ((lex_IsName.f kj78 a2).bind fun t350 => ((lex_Scan.f kj78 a2).bind fun bt351 => (if bt351.2.1 = 0 then (if (bt351.1.length : Int) = 2 then (if 0 < (bt351.1.length : Int) then (if ((rd_T37 bt351.1 0).f1).toList = a2.toList then (if ((rd_T37 bt351.1 0).f4) = 0 then (if 1 < (bt351.1.length : Int) then (if t314 = true then (if t349 = true then (if t350 = true then (none) else (if ((rd_T37 bt351.1 1).f4) = (a2.size : Int) then (if (t349 == (((rd_T37 bt351.1 0).f0) == 1)) = true then (some (t350 == (((rd_T37 bt351.1 0).f0) == 2))) else (none)) else (if (t349 == false) = true then (some (t350 == false)) else (none)))) else (if ((rd_T37 bt351.1 1).f4) = (a2.size : Int) then (if (t349 == (((rd_T37 bt351.1 0).f0) == 1)) = true then (some (t350 == (((rd_T37 bt351.1 0).f0) == 2))) else (none)) else (if (t349 == false) = true then (some (t350 == false)) else (none)))) else (none)) else (none)) else (if t314 = true then (if t349 = true then (if t350 = true then (none) else (if (t349 == false) = true then (some (t350 == false)) else (none))) else (if (t349 == false) = true then (some (t350 == false)) else (none))) else (none))) else (if t314 = true then (if t349 = true then (if t350 = true then (none) else (if (t349 == false) = true then (some (t350 == false)) else (none))) else (if (t349 == false) = true then (some (t350 == false)) else (none))) else (none))) else (none)) else (if t314 = true then (if t349 = true then (if t350 = true then (none) else (if (t349 == false) = true then (some (t350 == false)) else (none))) else (if (t349 == false) = true then (some (t350 == false)) else (none))) else (none))) else (if t314 = true then (if t349 = true then (if t350 = true then (none) else (if (t349 == false) = true then (some (t350 == false)) else (none))) else (if (t349 == false) = true then (some (t350 == false)) else (none))) else (none)))))) = some r := by rw [if_neg (show ¬ (false = true) by decide)] at H; exact H
              clear H
              have H := H1
              clear H1
              replace H := Option.bind_eq_some_iff.mp H
              obtain ⟨t349, A920, H⟩ := H
              replace H : ((lex_IsName.f kj78 a2).bind fun t350 => ((lex_Scan.f kj78 a2).bind fun bt351 => (if bt351.2.1 = 0 then (if (bt351.1.length : Int) = 2 then (if 0 < (bt351.1.length : Int) then (if ((rd_T37 bt351.1 0).f1).toList = a2.toList then (if ((rd_T37 bt351.1 0).f4) = 0 then (if 1 < (bt351.1.length : Int) then (if t314 = true then (if t349 = true then (if t350 = true then (none) else (if ((rd_T37 bt351.1 1).f4) = (a2.size : Int) then (if (t349 == (((rd_T37 bt351.1 0).f0) == 1)) = true then (some (t350 == (((rd_T37 bt351.1 0).f0) == 2))) else (none)) else (if (t349 == false) = true then (some (t350 == false)) else (none)))) else (if ((rd_T37 bt351.1 1).f4) = (a2.size : Int) then (if (t349 == (((rd_T37 bt351.1 0).f0) == 1)) = true then (some (t350 == (((rd_T37 bt351.1 0).f0) == 2))) else (none)) else (if (t349 == false) = true then (some (t350 == false)) else (none)))) else (none)) else (none)) else (if t314 = true then (if t349 = true then (if t350 = true then (none) else (if (t349 == false) = true then (some (t350 == false)) else (none))) else (if (t349 == false) = true then (some (t350 == false)) else (none))) else (none))) else (if t314 = true then (if t349 = true then (if t350 = true then (none) else (if (t349 == false) = true then (some (t350 == false)) else (none))) else (if (t349 == false) = true then (some (t350 == false)) else (none))) else (none))) else (none)) else (if t314 = true then (if t349 = true then (if t350 = true then (none) else (if (t349 == false) = true then (some (t350 == false)) else (none))) else (if (t349 == false) = true then (some (t350 == false)) else (none))) else (none))) else (if t314 = true then (if t349 = true then (if t350 = true then (none) else (if (t349 == false) = true then (some (t350 == false)) else (none))) else (if (t349 == false) = true then (some (t350 == false)) else (none))) else (none))))) = some r := H
              have A92 := Aside0.mk A920
              clear A920
              replace H := Option.bind_eq_some_iff.mp H
              obtain ⟨t350, A930, H⟩ := H
              replace H : ((lex_Scan.f kj78 a2).bind fun bt351 => (if bt351.2.1 = 0 then (if (bt351.1.length : Int) = 2 then (if 0 < (bt351.1.length : Int) then (if ((rd_T37 bt351.1 0).f1).toList = a2.toList then (if ((rd_T37 bt351.1 0).f4) = 0 then (if 1 < (bt351.1.length : Int) then (if t314 = true then (if t349 = true then (if t350 = true then (none) else (if ((rd_T37 bt351.1 1).f4) = (a2.size : Int) then (if (t349 == (((rd_T37 bt351.1 0).f0) == 1)) = true then (some (t350 == (((rd_T37 bt351.1 0).f0) == 2))) else (none)) else (if (t349 == false) = true then (some (t350 == false)) else (none)))) else (if ((rd_T37 bt351.1 1).f4) = (a2.size : Int) then (if (t349 == (((rd_T37 bt351.1 0).f0) == 1)) = true then (some (t350 == (((rd_T37 bt351.1 0).f0) == 2))) else (none)) else (if (t349 == false) = true then (some (t350 == false)) else (none)))) else (none)) else (none)) else (if t314 = true then (if t349 = true then (if t350 = true then (none) else (if (t349 == false) = true then (some (t350 == false)) else (none))) else (if (t349 == false) = true then (some (t350 == false)) else (none))) else (none))) else (if t314 = true then (if t349 = true then (if t350 = true then (none) else (if (t349 == false) = true then (some (t350 == false)) else (none))) else (if (t349 == false) = true then (some (t350 == false)) else (none))) else (none))) else (none)) else (if t314 = true then (if t349 = true then (if t350 = true then (none) else (if (t349 == false) = true then (some (t350 == false)) else (none))) else (if (t349 == false) = true then (some (t350 == false)) else (none))) else (none))) else (if t314 = true then (if t349 = true then (if t350 = true then (none) else (if (t349 == false) = true then (some (t350 == false)) else (none))) else (if (t349 == false) = true then (some (t350 == false)) else (none))) else (none)))) = some r := H
              have A93 := Aside0.mk A930
              clear A930
              replace H := Option.bind_eq_some_iff.mp H
              obtain ⟨⟨t351, t352, t353⟩, A940, H⟩ := H
              replace H : (if t352 = 0 then (if (t351.length : Int) = 2 then (if 0 < (t351.length : Int) then (if ((rd_T37 t351 0).f1).toList = a2.toList then (if ((rd_T37 t351 0).f4) = 0 then (if 1 < (t351.length : Int) then (if t314 = true then (if t349 = true then (if t350 = true then (none) else (if ((rd_T37 t351 1).f4) = (a2.size : Int) then (if (t349 == (((rd_T37 t351 0).f0) == 1)) = true then (some (t350 == (((rd_T37 t351 0).f0) == 2))) else (none)) else (if (t349 == false) = true then (some (t350 == false)) else (none)))) else (if ((rd_T37 t351 1).f4) = (a2.size : Int) then (if (t349 == (((rd_T37 t351 0).f0) == 1)) = true then (some (t350 == (((rd_T37 t351 0).f0) == 2))) else (none)) else (if (t349 == false) = true then (some (t350 == false)) else (none)))) else (none)) else (none)) else (if t314 = true then (if t349 = true then (if t350 = true then (none) else (if (t349 == false) = true then (some (t350 == false)) else (none))) else (if (t349 == false) = true then (some (t350 == false)) else (none))) else (none))) else (if t314 = true then (if t349 = true then (if t350 = true then (none) else (if (t349 == false) = true then (some (t350 == false)) else (none))) else (if (t349 == false) = true then (some (t350 == false)) else (none))) else (none))) else (none)) else (if t314 = true then (if t349 = true then (if t350 = true then (none) else (if (t349 == false) = true then (some (t350 == false)) else (none))) else (if (t349 == false) = true then (some (t350 == false)) else (none))) else (none))) else (if t314 = true then (if t349 = true then (if t350 = true then (none) else (if (t349 == false) = true then (some (t350 == false)) else (none))) else (if (t349 == false) = true then (some (t350 == false)) else (none))) else (none))) = some r := H
              have A94 := Aside0.mk A940
              clear A940
              by_cases c95 : t352 = 0
              · rw [if_pos c95] at H
                have c95b0 : (t352 == 0) = true := beq_iff_eq.mpr c95
                have c95b1 : (t352 != 0) = false := bne_eq_false_iff_eq.mpr c95
                clear c95
                by_cases c96 : (t351.length : Int) = 2
                · rw [if_pos c96] at H
                  have c96b0 : ((t351.length : Int) == 2) = true := beq_iff_eq.mpr c96
                  have c96b1 : ((t351.length : Int) != 2) = false := bne_eq_false_iff_eq.mpr c96
                  clear c96
                  by_cases c97 : 0 < (t351.length : Int)
                  · rw [if_pos c97] at H
                    have c97b0 : decide (0 < (t351.length : Int)) = true := decide_eq_true c97
                    have c97b1 : decide (0 < t351.length) = true := decide_eq_true (by omega)
                    clear c97
                    by_cases c98 : ((rd_T37 t351 0).f1).toList = a2.toList
                    · rw [if_pos c98] at H
                      have c98b0 : (((rd_T37 t351 0).f1).toList == a2.toList) = true := beq_iff_eq.mpr c98
                      have c98b1 : (((rd_T37 t351 0).f1).toList != a2.toList) = false := bne_eq_false_iff_eq.mpr c98
                      clear c98
                      by_cases c99 : ((rd_T37 t351 0).f4) = 0
                      · rw [if_pos c99] at H
                        have c99b0 : (((rd_T37 t351 0).f4) == 0) = true := beq_iff_eq.mpr c99
                        have c99b1 : (((rd_T37 t351 0).f4) != 0) = false := bne_eq_false_iff_eq.mpr c99
                        clear c99
                        by_cases c100 : 1 < (t351.length : Int)
                        · rw [if_pos c100] at H
                          have c100b0 : decide (1 < (t351.length : Int)) = true := decide_eq_true c100
                          have c100b1 : decide (1 < t351.length) = true := decide_eq_true (by omega)
                          clear c100
                          by_cases c101 : t314 = true
                          · subst c101
                            have H1 : (if t349 = true then (if t350 = true then (none) else (if ((rd_T37 t351 1).f4) = (a2.size : Int) then (if (t349 == (((rd_T37 t351 0).f0) == 1)) = true then (some (t350 == (((rd_T37 t351 0).f0) == 2))) else (none)) else (if (t349 == false) = true then (some (t350 == false)) else (none)))) else (if ((rd_T37 t351 1).f4) = (a2.size : Int) then (if (t349 == (((rd_T37 t351 0).f0) == 1)) = true then (some (t350 == (((rd_T37 t351 0).f0) == 2))) else (none)) else (if (t349 == false) = true then (some (t350 == false)) else (none)))) = some r := by rw [if_pos rfl] at H; exact H
                            clear H
                            have H := H1
                            clear H1
                            by_cases c102 : t349 = true
                            · subst c102
                              have H1 : (if t350 = true then (none) else (if ((rd_T37 t351 1).f4) = (a2.size : Int) then (if (true == (((rd_T37 t351 0).f0) == 1)) = true then (some (t350 == (((rd_T37 t351 0).f0) == 2))) else (none)) else (if (true == false) = true then (some (t350 == false)) else (none)))) = some r := by rw [if_pos rfl] at H; exact H
                              clear H
                              have H := H1
                              clear H1
                              by_cases c103 : t350 = true
                              · subst c103
                                have H1 : (none) = some r := by rw [if_pos rfl] at H; exact H
                                clear H
                                have H := H1
                                clear H1
                                as_aux_lemma =>
                                  exact absurd H (by simp)
                              · replace c103 := Bool.eq_false_iff.mpr c103
                                subst c103
                                have H1 : (if ((rd_T37 t351 1).f4) = (a2.size : Int) then (if (true == (((rd_T37 t351 0).f0) == 1)) = true then (some (false == (((rd_T37 t351 0).f0) == 2))) else (none)) else (if (true == false) = true then (some (false == false)) else (none))) = some r := by rw [if_neg (show ¬ (false = true) by decide)] at H; exact H
                                clear H
                                have H := H1
                                clear H1
                                by_cases c108 : ((rd_T37 t351 1).f4) = (a2.size : Int)
                                · rw [if_pos c108] at H
                                  have c108b0 : (((rd_T37 t351 1).f4) == (a2.size : Int)) = true := beq_iff_eq.mpr c108
                                  have c108b1 : (((rd_T37 t351 1).f4) != (a2.size : Int)) = false := bne_eq_false_iff_eq.mpr c108
                                  clear c108
                                  by_cases c109 : (true == (((rd_T37 t351 0).f0) == 1)) = true
                                  · rw [if_pos c109] at H
                                    have c109b0 : (true == (((rd_T37 t351 0).f0) == 1)) = true := c109
                                    (try (have c109b1 : decide (true = (((rd_T37 t351 0).f0) == 1)) = true := by first | (simp; done) | (have e_ := c109; simp at e_; done) | simpa using c109))
                                    (try (have c109b2 : (true == (((rd_T37 t351 0).f0) == 1)) = true := by first | (simp; done) | (have e_ := c109; simp at e_; done) | simpa using c109))
                                    clear c109
                                    as_aux_lemma =>
                                      first
                                      | (simp at H; done)
                                      | obtain rfl := Option.some.inj H
                                        go_wp2_with (first | ((with_reducible refine gate_callee (f := 9) rfl ?_); refine goesL_ (some 148) rfl rfl Tryd.func9 (by kernel_rfl) rfl #[.string a2] rfl (by (try simp only [List.map_toArray, List.map_cons, List.map_nil]); first | done | rfl | (simp only [List.length_drop, List.length_take]; rfl)) ?_; (with_reducible refine (lex_IsWord.calls kj78 a2 true _ ?side1 A92.out).mono ?_); (case side1 => exact Inv.below HI_.out (by repeat (first | (with_reducible first | exact HB.out | apply below_alloc | apply pw_below_drewN | apply below_drew1) | exact HB.out))); rintro e w110 ⟨rfl, hb⟩; refine ⟨_, rfl, ?_⟩; have n0_ := Aside0.mk (below_step (by repeat (first | (with_reducible first | exact HB.out | apply below_alloc | apply pw_below_drewN | apply below_drew1) | exact HB.out)) hb); clear HB; have HB := n0_; clear n0_; (try clear hb); (try clear hb2); (try clear hk); (try clear hi)) | ((with_reducible refine gate_callee (f := 11) rfl ?_); refine goesL_ (some 150) rfl rfl Tryd.func11 (by kernel_rfl) rfl #[.string a2] rfl (by (try simp only [List.map_toArray, List.map_cons, List.map_nil]); first | done | rfl | (simp only [List.length_drop, List.length_take]; rfl)) ?_; (with_reducible refine (lex_IsName.calls kj78 a2 false _ ?side1 A93.out).mono ?_); (case side1 => exact Inv.below HI_.out (by repeat (first | (with_reducible first | exact HB.out | apply below_alloc | apply pw_below_drewN | apply below_drew1) | exact HB.out))); rintro e w111 ⟨rfl, hb⟩; refine ⟨_, rfl, ?_⟩; have n0_ := Aside0.mk (below_step (by repeat (first | (with_reducible first | exact HB.out | apply below_alloc | apply pw_below_drewN | apply below_drew1) | exact HB.out)) hb); clear HB; have HB := n0_; clear n0_; (try clear hb); (try clear hb2); (try clear hk); (try clear hi)) | ((with_reducible refine gate_callee (f := 14) rfl ?_); refine goesL_ (some 153) rfl rfl Tryd.func14 (by kernel_rfl) rfl #[.string a2] rfl (by (try simp only [List.map_toArray, List.map_cons, List.map_nil]); first | done | rfl | (simp only [List.length_drop, List.length_take]; rfl)) ?_; (with_reducible refine (lex_Scan.calls kj78 a2 t351 t352 t353 _ ?side1 A94.out).mono ?_); (case side1 => exact Inv.below HI_.out (by repeat (first | (with_reducible first | exact HB.out | apply below_alloc | apply pw_below_drewN | apply below_drew1) | exact HB.out))); rintro e w112 ⟨v354, rfl, ho0, hb⟩; refine ⟨_, rfl, ?_⟩; have n0_ := Aside0.mk (Kd.R_lower ho0 (below_size (by repeat (first | (with_reducible first | exact HB.out | apply below_alloc | apply pw_below_drewN | apply below_drew1) | exact HB.out)))); have n1_ := Aside0.mk (below_step (by repeat (first | (with_reducible first | exact HB.out | apply below_alloc | apply pw_below_drewN | apply below_drew1) | exact HB.out)) hb); clear HB; have HO355 := n0_; have HB := n1_; clear n0_ n1_; (try clear hb); (try clear hb2); (try clear hk); (try clear hi); (try clear ho0); obtain ⟨Ao113, co113, eo113⟩ := Kd.R_slice HO355.out; subst eo113; have p356 : 0 ≤ (0 : Int) := (by omega); have q356 : 0 < (t351.length : Int) := of_decide_eq_true (by first | (with_reducible assumption) | assumption); obtain ⟨ad356, e356, hx356_0, hx356_1, hx356_2, hx356_3, hx356_4, hx356_5⟩ := at_T37 (Kd.R_reads' HO355.out).2.2 0 p356 q356; cases e356; have qi356 : (0 < t351.length) = True := eq_true (by omega); (try rw [show ((0 : Int)).toNat = 0 from rfl] at hx356_0); (try rw [show 0 * 6 = 0 from rfl] at hx356_0); (try rw [Addr.add_zero'] at hx356_0); (try rw [show ((0 : Int)).toNat = 0 from rfl] at hx356_1); (try rw [show 0 * 6 = 0 from rfl] at hx356_1); (try rw [Addr.add_zero'] at hx356_1); (try rw [show ((0 : Int)).toNat = 0 from rfl] at hx356_2); (try rw [show 0 * 6 = 0 from rfl] at hx356_2); (try rw [Addr.add_zero'] at hx356_2); (try rw [show ((0 : Int)).toNat = 0 from rfl] at hx356_3); (try rw [show 0 * 6 = 0 from rfl] at hx356_3); (try rw [Addr.add_zero'] at hx356_3); (try rw [show ((0 : Int)).toNat = 0 from rfl] at hx356_4); (try rw [show 0 * 6 = 0 from rfl] at hx356_4); (try rw [Addr.add_zero'] at hx356_4); (try rw [show ((0 : Int)).toNat = 0 from rfl] at hx356_5); (try rw [show 0 * 6 = 0 from rfl] at hx356_5); (try rw [Addr.add_zero'] at hx356_5); replace p356 := eq_true p356; replace q356 := eq_true q356; have p357 : 0 ≤ (0 : Int) := (by omega); have q357 : 0 < (t351.length : Int) := of_decide_eq_true (by first | (with_reducible assumption) | assumption); obtain ⟨ad357, e357, hx357_0, hx357_1, hx357_2, hx357_3, hx357_4, hx357_5⟩ := at_T37 (Kd.R_reads' HO355.out).2.2 0 p357 q357; obtain rfl : ad356 = ad357 := (by injection e357); have qi357 : (0 < t351.length) = True := eq_true (by omega); (try rw [show ((0 : Int)).toNat = 0 from rfl] at hx357_0); (try rw [show 0 * 6 = 0 from rfl] at hx357_0); (try rw [Addr.add_zero'] at hx357_0); (try rw [show ((0 : Int)).toNat = 0 from rfl] at hx357_1); (try rw [show 0 * 6 = 0 from rfl] at hx357_1); (try rw [Addr.add_zero'] at hx357_1); (try rw [show ((0 : Int)).toNat = 0 from rfl] at hx357_2); (try rw [show 0 * 6 = 0 from rfl] at hx357_2); (try rw [Addr.add_zero'] at hx357_2); (try rw [show ((0 : Int)).toNat = 0 from rfl] at hx357_3); (try rw [show 0 * 6 = 0 from rfl] at hx357_3); (try rw [Addr.add_zero'] at hx357_3); (try rw [show ((0 : Int)).toNat = 0 from rfl] at hx357_4); (try rw [show 0 * 6 = 0 from rfl] at hx357_4); (try rw [Addr.add_zero'] at hx357_4); (try rw [show ((0 : Int)).toNat = 0 from rfl] at hx357_5); (try rw [show 0 * 6 = 0 from rfl] at hx357_5); (try rw [Addr.add_zero'] at hx357_5); replace p357 := eq_true p357; replace q357 := eq_true q357; have p358 : 0 ≤ (1 : Int) := (by omega); have q358 : 1 < (t351.length : Int) := of_decide_eq_true (by first | (with_reducible assumption) | assumption); obtain ⟨ad358, e358, hx358_0, hx358_1, hx358_2, hx358_3, hx358_4, hx358_5⟩ := at_T37 (Kd.R_reads' HO355.out).2.2 1 p358 q358; obtain rfl : ad356 = ad358 := (by injection e358); (try simp only [show (1 : Int).toNat = 1 from rfl, Nat.reduceMul, Nat.reduceEqDiff, Go.Addr.add, ↓reduceIte] at hx358_0); (try simp only [show (1 : Int).toNat = 1 from rfl, Nat.reduceMul, Nat.reduceEqDiff, Go.Addr.add, ↓reduceIte] at hx358_1); (try simp only [show (1 : Int).toNat = 1 from rfl, Nat.reduceMul, Nat.reduceEqDiff, Go.Addr.add, ↓reduceIte] at hx358_2); (try simp only [show (1 : Int).toNat = 1 from rfl, Nat.reduceMul, Nat.reduceEqDiff, Go.Addr.add, ↓reduceIte] at hx358_3); (try simp only [show (1 : Int).toNat = 1 from rfl, Nat.reduceMul, Nat.reduceEqDiff, Go.Addr.add, ↓reduceIte] at hx358_4); (try simp only [show (1 : Int).toNat = 1 from rfl, Nat.reduceMul, Nat.reduceEqDiff, Go.Addr.add, ↓reduceIte] at hx358_5); have qi358 : (1 < t351.length) = True := eq_true (by omega); (try rw [show ((1 : Int)).toNat = 1 from rfl] at hx358_0); (try rw [show 1 * 6 = 6 from rfl] at hx358_0); (try rw [show ((1 : Int)).toNat = 1 from rfl] at hx358_1); (try rw [show 1 * 6 = 6 from rfl] at hx358_1); (try rw [show ((1 : Int)).toNat = 1 from rfl] at hx358_2); (try rw [show 1 * 6 = 6 from rfl] at hx358_2); (try rw [show ((1 : Int)).toNat = 1 from rfl] at hx358_3); (try rw [show 1 * 6 = 6 from rfl] at hx358_3); (try rw [show ((1 : Int)).toNat = 1 from rfl] at hx358_4); (try rw [show 1 * 6 = 6 from rfl] at hx358_4); (try rw [show ((1 : Int)).toNat = 1 from rfl] at hx358_5); (try rw [show 1 * 6 = 6 from rfl] at hx358_5); replace p358 := eq_true p358; replace q358 := eq_true q358; have p359 : 0 ≤ (0 : Int) := (by omega); have q359 : 0 < (t351.length : Int) := of_decide_eq_true (by first | (with_reducible assumption) | assumption); obtain ⟨ad359, e359, hx359_0, hx359_1, hx359_2, hx359_3, hx359_4, hx359_5⟩ := at_T37 (Kd.R_reads' HO355.out).2.2 0 p359 q359; obtain rfl : ad356 = ad359 := (by injection e359); have qi359 : (0 < t351.length) = True := eq_true (by omega); (try rw [show ((0 : Int)).toNat = 0 from rfl] at hx359_0); (try rw [show 0 * 6 = 0 from rfl] at hx359_0); (try rw [Addr.add_zero'] at hx359_0); (try rw [show ((0 : Int)).toNat = 0 from rfl] at hx359_1); (try rw [show 0 * 6 = 0 from rfl] at hx359_1); (try rw [Addr.add_zero'] at hx359_1); (try rw [show ((0 : Int)).toNat = 0 from rfl] at hx359_2); (try rw [show 0 * 6 = 0 from rfl] at hx359_2); (try rw [Addr.add_zero'] at hx359_2); (try rw [show ((0 : Int)).toNat = 0 from rfl] at hx359_3); (try rw [show 0 * 6 = 0 from rfl] at hx359_3); (try rw [Addr.add_zero'] at hx359_3); (try rw [show ((0 : Int)).toNat = 0 from rfl] at hx359_4); (try rw [show 0 * 6 = 0 from rfl] at hx359_4); (try rw [Addr.add_zero'] at hx359_4); (try rw [show ((0 : Int)).toNat = 0 from rfl] at hx359_5); (try rw [show 0 * 6 = 0 from rfl] at hx359_5); (try rw [Addr.add_zero'] at hx359_5); replace p359 := eq_true p359; replace q359 := eq_true q359; have p360 : 0 ≤ (0 : Int) := (by omega); have q360 : 0 < (t351.length : Int) := of_decide_eq_true (by first | (with_reducible assumption) | assumption); obtain ⟨ad360, e360, hx360_0, hx360_1, hx360_2, hx360_3, hx360_4, hx360_5⟩ := at_T37 (Kd.R_reads' HO355.out).2.2 0 p360 q360; obtain rfl : ad356 = ad360 := (by injection e360); have qi360 : (0 < t351.length) = True := eq_true (by omega); (try rw [show ((0 : Int)).toNat = 0 from rfl] at hx360_0); (try rw [show 0 * 6 = 0 from rfl] at hx360_0); (try rw [Addr.add_zero'] at hx360_0); (try rw [show ((0 : Int)).toNat = 0 from rfl] at hx360_1); (try rw [show 0 * 6 = 0 from rfl] at hx360_1); (try rw [Addr.add_zero'] at hx360_1); (try rw [show ((0 : Int)).toNat = 0 from rfl] at hx360_2); (try rw [show 0 * 6 = 0 from rfl] at hx360_2); (try rw [Addr.add_zero'] at hx360_2); (try rw [show ((0 : Int)).toNat = 0 from rfl] at hx360_3); (try rw [show 0 * 6 = 0 from rfl] at hx360_3); (try rw [Addr.add_zero'] at hx360_3); (try rw [show ((0 : Int)).toNat = 0 from rfl] at hx360_4); (try rw [show 0 * 6 = 0 from rfl] at hx360_4); (try rw [Addr.add_zero'] at hx360_4); (try rw [show ((0 : Int)).toNat = 0 from rfl] at hx360_5); (try rw [show 0 * 6 = 0 from rfl] at hx360_5); (try rw [Addr.add_zero'] at hx360_5); replace p360 := eq_true p360; replace q360 := eq_true q360))
                                        go_ret
                                        exact ⟨by first | rfl | (simp [errW_none, errW_some] <;> rfl) | (simp [*, errW_none, errW_some] <;> rfl), by repeat (first | (with_reducible first | exact HB.out | apply below_alloc | apply pw_below_drewN | apply below_drew1) | exact HB.out)⟩
                                  · rw [if_neg c109] at H
                                    have c109b0 : (true == (((rd_T37 t351 0).f0) == 1)) = false := by first | (simp; done) | (have e_ := c109; simp at e_; done) | simpa using c109
                                    (try (have c109b1 : decide (true = (((rd_T37 t351 0).f0) == 1)) = false := by first | (simp; done) | (have e_ := c109; simp at e_; done) | simpa using c109))
                                    (try (have c109b2 : (true == (((rd_T37 t351 0).f0) == 1)) = false := by first | (simp; done) | (have e_ := c109; simp at e_; done) | simpa using c109))
                                    (try (have c109b3 : ¬ (true = (((rd_T37 t351 0).f0) == 1)) := by first | (simp; done) | (have e_ := c109; simp at e_; done) | simpa using c109))
                                    clear c109
                                    as_aux_lemma =>
                                      exact absurd H (by simp)
                                · rw [if_neg c108] at H
                                  have c108b0 : (((rd_T37 t351 1).f4) == (a2.size : Int)) = false := beq_eq_false_iff_ne.mpr c108
                                  have c108b1 : (((rd_T37 t351 1).f4) != (a2.size : Int)) = true := bne_iff_ne.mpr c108
                                  by_cases c118 : (true == false) = true
                                  · rw [if_pos c118] at H
                                    have c118b0 : (true == false) = true := c118
                                    (try (have c118b1 : decide (true = false) = true := by first | (simp; done) | (have e_ := c118; simp at e_; done) | simpa using c118))
                                    (try (have c118b2 : (true == false) = true := by first | (simp; done) | (have e_ := c118; simp at e_; done) | simpa using c118))
                                    clear c118
                                    as_aux_lemma =>
                                      first
                                      | (simp at H; done)
                                      | obtain rfl := Option.some.inj H
                                        go_wp2_with (first | ((with_reducible refine gate_callee (f := 9) rfl ?_); refine goesL_ (some 148) rfl rfl Tryd.func9 (by kernel_rfl) rfl #[.string a2] rfl (by (try simp only [List.map_toArray, List.map_cons, List.map_nil]); first | done | rfl | (simp only [List.length_drop, List.length_take]; rfl)) ?_; (with_reducible refine (lex_IsWord.calls kj78 a2 true _ ?side1 A92.out).mono ?_); (case side1 => exact Inv.below HI_.out (by repeat (first | (with_reducible first | exact HB.out | apply below_alloc | apply pw_below_drewN | apply below_drew1) | exact HB.out))); rintro e w119 ⟨rfl, hb⟩; refine ⟨_, rfl, ?_⟩; have n0_ := Aside0.mk (below_step (by repeat (first | (with_reducible first | exact HB.out | apply below_alloc | apply pw_below_drewN | apply below_drew1) | exact HB.out)) hb); clear HB; have HB := n0_; clear n0_; (try clear hb); (try clear hb2); (try clear hk); (try clear hi)) | ((with_reducible refine gate_callee (f := 11) rfl ?_); refine goesL_ (some 150) rfl rfl Tryd.func11 (by kernel_rfl) rfl #[.string a2] rfl (by (try simp only [List.map_toArray, List.map_cons, List.map_nil]); first | done | rfl | (simp only [List.length_drop, List.length_take]; rfl)) ?_; (with_reducible refine (lex_IsName.calls kj78 a2 false _ ?side1 A93.out).mono ?_); (case side1 => exact Inv.below HI_.out (by repeat (first | (with_reducible first | exact HB.out | apply below_alloc | apply pw_below_drewN | apply below_drew1) | exact HB.out))); rintro e w120 ⟨rfl, hb⟩; refine ⟨_, rfl, ?_⟩; have n0_ := Aside0.mk (below_step (by repeat (first | (with_reducible first | exact HB.out | apply below_alloc | apply pw_below_drewN | apply below_drew1) | exact HB.out)) hb); clear HB; have HB := n0_; clear n0_; (try clear hb); (try clear hb2); (try clear hk); (try clear hi)) | ((with_reducible refine gate_callee (f := 14) rfl ?_); refine goesL_ (some 153) rfl rfl Tryd.func14 (by kernel_rfl) rfl #[.string a2] rfl (by (try simp only [List.map_toArray, List.map_cons, List.map_nil]); first | done | rfl | (simp only [List.length_drop, List.length_take]; rfl)) ?_; (with_reducible refine (lex_Scan.calls kj78 a2 t351 t352 t353 _ ?side1 A94.out).mono ?_); (case side1 => exact Inv.below HI_.out (by repeat (first | (with_reducible first | exact HB.out | apply below_alloc | apply pw_below_drewN | apply below_drew1) | exact HB.out))); rintro e w121 ⟨v354, rfl, ho0, hb⟩; refine ⟨_, rfl, ?_⟩; have n0_ := Aside0.mk (Kd.R_lower ho0 (below_size (by repeat (first | (with_reducible first | exact HB.out | apply below_alloc | apply pw_below_drewN | apply below_drew1) | exact HB.out)))); have n1_ := Aside0.mk (below_step (by repeat (first | (with_reducible first | exact HB.out | apply below_alloc | apply pw_below_drewN | apply below_drew1) | exact HB.out)) hb); clear HB; have HO355 := n0_; have HB := n1_; clear n0_ n1_; (try clear hb); (try clear hb2); (try clear hk); (try clear hi); (try clear ho0); obtain ⟨Ao122, co122, eo122⟩ := Kd.R_slice HO355.out; subst eo122; have p356 : 0 ≤ (0 : Int) := (by omega); have q356 : 0 < (t351.length : Int) := of_decide_eq_true (by first | (with_reducible assumption) | assumption); obtain ⟨ad356, e356, hx356_0, hx356_1, hx356_2, hx356_3, hx356_4, hx356_5⟩ := at_T37 (Kd.R_reads' HO355.out).2.2 0 p356 q356; cases e356; have qi356 : (0 < t351.length) = True := eq_true (by omega); (try rw [show ((0 : Int)).toNat = 0 from rfl] at hx356_0); (try rw [show 0 * 6 = 0 from rfl] at hx356_0); (try rw [Addr.add_zero'] at hx356_0); (try rw [show ((0 : Int)).toNat = 0 from rfl] at hx356_1); (try rw [show 0 * 6 = 0 from rfl] at hx356_1); (try rw [Addr.add_zero'] at hx356_1); (try rw [show ((0 : Int)).toNat = 0 from rfl] at hx356_2); (try rw [show 0 * 6 = 0 from rfl] at hx356_2); (try rw [Addr.add_zero'] at hx356_2); (try rw [show ((0 : Int)).toNat = 0 from rfl] at hx356_3); (try rw [show 0 * 6 = 0 from rfl] at hx356_3); (try rw [Addr.add_zero'] at hx356_3); (try rw [show ((0 : Int)).toNat = 0 from rfl] at hx356_4); (try rw [show 0 * 6 = 0 from rfl] at hx356_4); (try rw [Addr.add_zero'] at hx356_4); (try rw [show ((0 : Int)).toNat = 0 from rfl] at hx356_5); (try rw [show 0 * 6 = 0 from rfl] at hx356_5); (try rw [Addr.add_zero'] at hx356_5); replace p356 := eq_true p356; replace q356 := eq_true q356; have p357 : 0 ≤ (0 : Int) := (by omega); have q357 : 0 < (t351.length : Int) := of_decide_eq_true (by first | (with_reducible assumption) | assumption); obtain ⟨ad357, e357, hx357_0, hx357_1, hx357_2, hx357_3, hx357_4, hx357_5⟩ := at_T37 (Kd.R_reads' HO355.out).2.2 0 p357 q357; obtain rfl : ad356 = ad357 := (by injection e357); have qi357 : (0 < t351.length) = True := eq_true (by omega); (try rw [show ((0 : Int)).toNat = 0 from rfl] at hx357_0); (try rw [show 0 * 6 = 0 from rfl] at hx357_0); (try rw [Addr.add_zero'] at hx357_0); (try rw [show ((0 : Int)).toNat = 0 from rfl] at hx357_1); (try rw [show 0 * 6 = 0 from rfl] at hx357_1); (try rw [Addr.add_zero'] at hx357_1); (try rw [show ((0 : Int)).toNat = 0 from rfl] at hx357_2); (try rw [show 0 * 6 = 0 from rfl] at hx357_2); (try rw [Addr.add_zero'] at hx357_2); (try rw [show ((0 : Int)).toNat = 0 from rfl] at hx357_3); (try rw [show 0 * 6 = 0 from rfl] at hx357_3); (try rw [Addr.add_zero'] at hx357_3); (try rw [show ((0 : Int)).toNat = 0 from rfl] at hx357_4); (try rw [show 0 * 6 = 0 from rfl] at hx357_4); (try rw [Addr.add_zero'] at hx357_4); (try rw [show ((0 : Int)).toNat = 0 from rfl] at hx357_5); (try rw [show 0 * 6 = 0 from rfl] at hx357_5); (try rw [Addr.add_zero'] at hx357_5); replace p357 := eq_true p357; replace q357 := eq_true q357; have p358 : 0 ≤ (1 : Int) := (by omega); have q358 : 1 < (t351.length : Int) := of_decide_eq_true (by first | (with_reducible assumption) | assumption); obtain ⟨ad358, e358, hx358_0, hx358_1, hx358_2, hx358_3, hx358_4, hx358_5⟩ := at_T37 (Kd.R_reads' HO355.out).2.2 1 p358 q358; obtain rfl : ad356 = ad358 := (by injection e358); (try simp only [show (1 : Int).toNat = 1 from rfl, Nat.reduceMul, Nat.reduceEqDiff, Go.Addr.add, ↓reduceIte] at hx358_0); (try simp only [show (1 : Int).toNat = 1 from rfl, Nat.reduceMul, Nat.reduceEqDiff, Go.Addr.add, ↓reduceIte] at hx358_1); (try simp only [show (1 : Int).toNat = 1 from rfl, Nat.reduceMul, Nat.reduceEqDiff, Go.Addr.add, ↓reduceIte] at hx358_2); (try simp only [show (1 : Int).toNat = 1 from rfl, Nat.reduceMul, Nat.reduceEqDiff, Go.Addr.add, ↓reduceIte] at hx358_3); (try simp only [show (1 : Int).toNat = 1 from rfl, Nat.reduceMul, Nat.reduceEqDiff, Go.Addr.add, ↓reduceIte] at hx358_4); (try simp only [show (1 : Int).toNat = 1 from rfl, Nat.reduceMul, Nat.reduceEqDiff, Go.Addr.add, ↓reduceIte] at hx358_5); have qi358 : (1 < t351.length) = True := eq_true (by omega); (try rw [show ((1 : Int)).toNat = 1 from rfl] at hx358_0); (try rw [show 1 * 6 = 6 from rfl] at hx358_0); (try rw [show ((1 : Int)).toNat = 1 from rfl] at hx358_1); (try rw [show 1 * 6 = 6 from rfl] at hx358_1); (try rw [show ((1 : Int)).toNat = 1 from rfl] at hx358_2); (try rw [show 1 * 6 = 6 from rfl] at hx358_2); (try rw [show ((1 : Int)).toNat = 1 from rfl] at hx358_3); (try rw [show 1 * 6 = 6 from rfl] at hx358_3); (try rw [show ((1 : Int)).toNat = 1 from rfl] at hx358_4); (try rw [show 1 * 6 = 6 from rfl] at hx358_4); (try rw [show ((1 : Int)).toNat = 1 from rfl] at hx358_5); (try rw [show 1 * 6 = 6 from rfl] at hx358_5); replace p358 := eq_true p358; replace q358 := eq_true q358))
                                        go_ret
                                        exact ⟨by first | rfl | (simp [errW_none, errW_some] <;> rfl) | (simp [*, errW_none, errW_some] <;> rfl), by repeat (first | (with_reducible first | exact HB.out | apply below_alloc | apply pw_below_drewN | apply below_drew1) | exact HB.out)⟩
                                  · rw [if_neg c118] at H
                                    have c118b0 : (true == false) = false := by first | (simp; done) | (have e_ := c118; simp at e_; done) | simpa using c118
                                    (try (have c118b1 : decide (true = false) = false := by first | (simp; done) | (have e_ := c118; simp at e_; done) | simpa using c118))
                                    (try (have c118b2 : (true == false) = false := by first | (simp; done) | (have e_ := c118; simp at e_; done) | simpa using c118))
                                    (try (have c118b3 : ¬ (true = false) := by first | (simp; done) | (have e_ := c118; simp at e_; done) | simpa using c118))
                                    clear c118
                                    as_aux_lemma =>
                                      exact absurd H (by simp)
                            · replace c102 := Bool.eq_false_iff.mpr c102
                              subst c102
                              have H1 : (if ((rd_T37 t351 1).f4) = (a2.size : Int) then (if (false == (((rd_T37 t351 0).f0) == 1)) = true then (some (t350 == (((rd_T37 t351 0).f0) == 2))) else (none)) else (if (false == false) = true then (some (t350 == false)) else (none))) = some r := by rw [if_neg (show ¬ (false = true) by decide)] at H; exact H
                              clear H
                              have H := H1
                              clear H1
                              by_cases c127 : ((rd_T37 t351 1).f4) = (a2.size : Int)
                              · rw [if_pos c127] at H
                                have c127b0 : (((rd_T37 t351 1).f4) == (a2.size : Int)) = true := beq_iff_eq.mpr c127
                                have c127b1 : (((rd_T37 t351 1).f4) != (a2.size : Int)) = false := bne_eq_false_iff_eq.mpr c127
                                clear c127
                                by_cases c128 : (false == (((rd_T37 t351 0).f0) == 1)) = true
                                · rw [if_pos c128] at H
                                  have c128b0 : (false == (((rd_T37 t351 0).f0) == 1)) = true := c128
                                  (try (have c128b1 : decide (false = (((rd_T37 t351 0).f0) == 1)) = true := by first | (simp; done) | (have e_ := c128; simp at e_; done) | simpa using c128))
                                  (try (have c128b2 : (false == (((rd_T37 t351 0).f0) == 1)) = true := by first | (simp; done) | (have e_ := c128; simp at e_; done) | simpa using c128))
                                  clear c128
                                  as_aux_lemma =>
                                    first
                                    | (simp at H; done)
                                    | obtain rfl := Option.some.inj H
                                      go_wp2_with (first | ((with_reducible refine gate_callee (f := 9) rfl ?_); refine goesL_ (some 148) rfl rfl Tryd.func9 (by kernel_rfl) rfl #[.string a2] rfl (by (try simp only [List.map_toArray, List.map_cons, List.map_nil]); first | done | rfl | (simp only [List.length_drop, List.length_take]; rfl)) ?_; (with_reducible refine (lex_IsWord.calls kj78 a2 false _ ?side1 A92.out).mono ?_); (case side1 => exact Inv.below HI_.out (by repeat (first | (with_reducible first | exact HB.out | apply below_alloc | apply pw_below_drewN | apply below_drew1) | exact HB.out))); rintro e w129 ⟨rfl, hb⟩; refine ⟨_, rfl, ?_⟩; have n0_ := Aside0.mk (below_step (by repeat (first | (with_reducible first | exact HB.out | apply below_alloc | apply pw_below_drewN | apply below_drew1) | exact HB.out)) hb); clear HB; have HB := n0_; clear n0_; (try clear hb); (try clear hb2); (try clear hk); (try clear hi)) | ((with_reducible refine gate_callee (f := 11) rfl ?_); refine goesL_ (some 150) rfl rfl Tryd.func11 (by kernel_rfl) rfl #[.string a2] rfl (by (try simp only [List.map_toArray, List.map_cons, List.map_nil]); first | done | rfl | (simp only [List.length_drop, List.length_take]; rfl)) ?_; (with_reducible refine (lex_IsName.calls kj78 a2 t350 _ ?side1 A93.out).mono ?_); (case side1 => exact Inv.below HI_.out (by repeat (first | (with_reducible first | exact HB.out | apply below_alloc | apply pw_below_drewN | apply below_drew1) | exact HB.out))); rintro e w130 ⟨rfl, hb⟩; refine ⟨_, rfl, ?_⟩; have n0_ := Aside0.mk (below_step (by repeat (first | (with_reducible first | exact HB.out | apply below_alloc | apply pw_below_drewN | apply below_drew1) | exact HB.out)) hb); clear HB; have HB := n0_; clear n0_; (try clear hb); (try clear hb2); (try clear hk); (try clear hi)) | ((with_reducible refine gate_callee (f := 14) rfl ?_); refine goesL_ (some 153) rfl rfl Tryd.func14 (by kernel_rfl) rfl #[.string a2] rfl (by (try simp only [List.map_toArray, List.map_cons, List.map_nil]); first | done | rfl | (simp only [List.length_drop, List.length_take]; rfl)) ?_; (with_reducible refine (lex_Scan.calls kj78 a2 t351 t352 t353 _ ?side1 A94.out).mono ?_); (case side1 => exact Inv.below HI_.out (by repeat (first | (with_reducible first | exact HB.out | apply below_alloc | apply pw_below_drewN | apply below_drew1) | exact HB.out))); rintro e w131 ⟨v354, rfl, ho0, hb⟩; refine ⟨_, rfl, ?_⟩; have n0_ := Aside0.mk (Kd.R_lower ho0 (below_size (by repeat (first | (with_reducible first | exact HB.out | apply below_alloc | apply pw_below_drewN | apply below_drew1) | exact HB.out)))); have n1_ := Aside0.mk (below_step (by repeat (first | (with_reducible first | exact HB.out | apply below_alloc | apply pw_below_drewN | apply below_drew1) | exact HB.out)) hb); clear HB; have HO355 := n0_; have HB := n1_; clear n0_ n1_; (try clear hb); (try clear hb2); (try clear hk); (try clear hi); (try clear ho0); obtain ⟨Ao132, co132, eo132⟩ := Kd.R_slice HO355.out; subst eo132; have p356 : 0 ≤ (0 : Int) := (by omega); have q356 : 0 < (t351.length : Int) := of_decide_eq_true (by first | (with_reducible assumption) | assumption); obtain ⟨ad356, e356, hx356_0, hx356_1, hx356_2, hx356_3, hx356_4, hx356_5⟩ := at_T37 (Kd.R_reads' HO355.out).2.2 0 p356 q356; cases e356; have qi356 : (0 < t351.length) = True := eq_true (by omega); (try rw [show ((0 : Int)).toNat = 0 from rfl] at hx356_0); (try rw [show 0 * 6 = 0 from rfl] at hx356_0); (try rw [Addr.add_zero'] at hx356_0); (try rw [show ((0 : Int)).toNat = 0 from rfl] at hx356_1); (try rw [show 0 * 6 = 0 from rfl] at hx356_1); (try rw [Addr.add_zero'] at hx356_1); (try rw [show ((0 : Int)).toNat = 0 from rfl] at hx356_2); (try rw [show 0 * 6 = 0 from rfl] at hx356_2); (try rw [Addr.add_zero'] at hx356_2); (try rw [show ((0 : Int)).toNat = 0 from rfl] at hx356_3); (try rw [show 0 * 6 = 0 from rfl] at hx356_3); (try rw [Addr.add_zero'] at hx356_3); (try rw [show ((0 : Int)).toNat = 0 from rfl] at hx356_4); (try rw [show 0 * 6 = 0 from rfl] at hx356_4); (try rw [Addr.add_zero'] at hx356_4); (try rw [show ((0 : Int)).toNat = 0 from rfl] at hx356_5); (try rw [show 0 * 6 = 0 from rfl] at hx356_5); (try rw [Addr.add_zero'] at hx356_5); replace p356 := eq_true p356; replace q356 := eq_true q356; have p357 : 0 ≤ (0 : Int) := (by omega); have q357 : 0 < (t351.length : Int) := of_decide_eq_true (by first | (with_reducible assumption) | assumption); obtain ⟨ad357, e357, hx357_0, hx357_1, hx357_2, hx357_3, hx357_4, hx357_5⟩ := at_T37 (Kd.R_reads' HO355.out).2.2 0 p357 q357; obtain rfl : ad356 = ad357 := (by injection e357); have qi357 : (0 < t351.length) = True := eq_true (by omega); (try rw [show ((0 : Int)).toNat = 0 from rfl] at hx357_0); (try rw [show 0 * 6 = 0 from rfl] at hx357_0); (try rw [Addr.add_zero'] at hx357_0); (try rw [show ((0 : Int)).toNat = 0 from rfl] at hx357_1); (try rw [show 0 * 6 = 0 from rfl] at hx357_1); (try rw [Addr.add_zero'] at hx357_1); (try rw [show ((0 : Int)).toNat = 0 from rfl] at hx357_2); (try rw [show 0 * 6 = 0 from rfl] at hx357_2); (try rw [Addr.add_zero'] at hx357_2); (try rw [show ((0 : Int)).toNat = 0 from rfl] at hx357_3); (try rw [show 0 * 6 = 0 from rfl] at hx357_3); (try rw [Addr.add_zero'] at hx357_3); (try rw [show ((0 : Int)).toNat = 0 from rfl] at hx357_4); (try rw [show 0 * 6 = 0 from rfl] at hx357_4); (try rw [Addr.add_zero'] at hx357_4); (try rw [show ((0 : Int)).toNat = 0 from rfl] at hx357_5); (try rw [show 0 * 6 = 0 from rfl] at hx357_5); (try rw [Addr.add_zero'] at hx357_5); replace p357 := eq_true p357; replace q357 := eq_true q357; have p358 : 0 ≤ (1 : Int) := (by omega); have q358 : 1 < (t351.length : Int) := of_decide_eq_true (by first | (with_reducible assumption) | assumption); obtain ⟨ad358, e358, hx358_0, hx358_1, hx358_2, hx358_3, hx358_4, hx358_5⟩ := at_T37 (Kd.R_reads' HO355.out).2.2 1 p358 q358; obtain rfl : ad356 = ad358 := (by injection e358); (try simp only [show (1 : Int).toNat = 1 from rfl, Nat.reduceMul, Nat.reduceEqDiff, Go.Addr.add, ↓reduceIte] at hx358_0); (try simp only [show (1 : Int).toNat = 1 from rfl, Nat.reduceMul, Nat.reduceEqDiff, Go.Addr.add, ↓reduceIte] at hx358_1); (try simp only [show (1 : Int).toNat = 1 from rfl, Nat.reduceMul, Nat.reduceEqDiff, Go.Addr.add, ↓reduceIte] at hx358_2); (try simp only [show (1 : Int).toNat = 1 from rfl, Nat.reduceMul, Nat.reduceEqDiff, Go.Addr.add, ↓reduceIte] at hx358_3); (try simp only [show (1 : Int).toNat = 1 from rfl, Nat.reduceMul, Nat.reduceEqDiff, Go.Addr.add, ↓reduceIte] at hx358_4); (try simp only [show (1 : Int).toNat = 1 from rfl, Nat.reduceMul, Nat.reduceEqDiff, Go.Addr.add, ↓reduceIte] at hx358_5); have qi358 : (1 < t351.length) = True := eq_true (by omega); (try rw [show ((1 : Int)).toNat = 1 from rfl] at hx358_0); (try rw [show 1 * 6 = 6 from rfl] at hx358_0); (try rw [show ((1 : Int)).toNat = 1 from rfl] at hx358_1); (try rw [show 1 * 6 = 6 from rfl] at hx358_1); (try rw [show ((1 : Int)).toNat = 1 from rfl] at hx358_2); (try rw [show 1 * 6 = 6 from rfl] at hx358_2); (try rw [show ((1 : Int)).toNat = 1 from rfl] at hx358_3); (try rw [show 1 * 6 = 6 from rfl] at hx358_3); (try rw [show ((1 : Int)).toNat = 1 from rfl] at hx358_4); (try rw [show 1 * 6 = 6 from rfl] at hx358_4); (try rw [show ((1 : Int)).toNat = 1 from rfl] at hx358_5); (try rw [show 1 * 6 = 6 from rfl] at hx358_5); replace p358 := eq_true p358; replace q358 := eq_true q358; have p361 : 0 ≤ (0 : Int) := (by omega); have q361 : 0 < (t351.length : Int) := of_decide_eq_true (by first | (with_reducible assumption) | assumption); obtain ⟨ad361, e361, hx361_0, hx361_1, hx361_2, hx361_3, hx361_4, hx361_5⟩ := at_T37 (Kd.R_reads' HO355.out).2.2 0 p361 q361; obtain rfl : ad356 = ad361 := (by injection e361); have qi361 : (0 < t351.length) = True := eq_true (by omega); (try rw [show ((0 : Int)).toNat = 0 from rfl] at hx361_0); (try rw [show 0 * 6 = 0 from rfl] at hx361_0); (try rw [Addr.add_zero'] at hx361_0); (try rw [show ((0 : Int)).toNat = 0 from rfl] at hx361_1); (try rw [show 0 * 6 = 0 from rfl] at hx361_1); (try rw [Addr.add_zero'] at hx361_1); (try rw [show ((0 : Int)).toNat = 0 from rfl] at hx361_2); (try rw [show 0 * 6 = 0 from rfl] at hx361_2); (try rw [Addr.add_zero'] at hx361_2); (try rw [show ((0 : Int)).toNat = 0 from rfl] at hx361_3); (try rw [show 0 * 6 = 0 from rfl] at hx361_3); (try rw [Addr.add_zero'] at hx361_3); (try rw [show ((0 : Int)).toNat = 0 from rfl] at hx361_4); (try rw [show 0 * 6 = 0 from rfl] at hx361_4); (try rw [Addr.add_zero'] at hx361_4); (try rw [show ((0 : Int)).toNat = 0 from rfl] at hx361_5); (try rw [show 0 * 6 = 0 from rfl] at hx361_5); (try rw [Addr.add_zero'] at hx361_5); replace p361 := eq_true p361; replace q361 := eq_true q361; have p362 : 0 ≤ (0 : Int) := (by omega); have q362 : 0 < (t351.length : Int) := of_decide_eq_true (by first | (with_reducible assumption) | assumption); obtain ⟨ad362, e362, hx362_0, hx362_1, hx362_2, hx362_3, hx362_4, hx362_5⟩ := at_T37 (Kd.R_reads' HO355.out).2.2 0 p362 q362; obtain rfl : ad356 = ad362 := (by injection e362); have qi362 : (0 < t351.length) = True := eq_true (by omega); (try rw [show ((0 : Int)).toNat = 0 from rfl] at hx362_0); (try rw [show 0 * 6 = 0 from rfl] at hx362_0); (try rw [Addr.add_zero'] at hx362_0); (try rw [show ((0 : Int)).toNat = 0 from rfl] at hx362_1); (try rw [show 0 * 6 = 0 from rfl] at hx362_1); (try rw [Addr.add_zero'] at hx362_1); (try rw [show ((0 : Int)).toNat = 0 from rfl] at hx362_2); (try rw [show 0 * 6 = 0 from rfl] at hx362_2); (try rw [Addr.add_zero'] at hx362_2); (try rw [show ((0 : Int)).toNat = 0 from rfl] at hx362_3); (try rw [show 0 * 6 = 0 from rfl] at hx362_3); (try rw [Addr.add_zero'] at hx362_3); (try rw [show ((0 : Int)).toNat = 0 from rfl] at hx362_4); (try rw [show 0 * 6 = 0 from rfl] at hx362_4); (try rw [Addr.add_zero'] at hx362_4); (try rw [show ((0 : Int)).toNat = 0 from rfl] at hx362_5); (try rw [show 0 * 6 = 0 from rfl] at hx362_5); (try rw [Addr.add_zero'] at hx362_5); replace p362 := eq_true p362; replace q362 := eq_true q362))
                                      go_ret
                                      exact ⟨by first | rfl | (simp [errW_none, errW_some] <;> rfl) | (simp [*, errW_none, errW_some] <;> rfl), by repeat (first | (with_reducible first | exact HB.out | apply below_alloc | apply pw_below_drewN | apply below_drew1) | exact HB.out)⟩
                                · rw [if_neg c128] at H
                                  have c128b0 : (false == (((rd_T37 t351 0).f0) == 1)) = false := by first | (simp; done) | (have e_ := c128; simp at e_; done) | simpa using c128
                                  (try (have c128b1 : decide (false = (((rd_T37 t351 0).f0) == 1)) = false := by first | (simp; done) | (have e_ := c128; simp at e_; done) | simpa using c128))
                                  (try (have c128b2 : (false == (((rd_T37 t351 0).f0) == 1)) = false := by first | (simp; done) | (have e_ := c128; simp at e_; done) | simpa using c128))
                                  (try (have c128b3 : ¬ (false = (((rd_T37 t351 0).f0) == 1)) := by first | (simp; done) | (have e_ := c128; simp at e_; done) | simpa using c128))
                                  clear c128
                                  as_aux_lemma =>
                                    exact absurd H (by simp)
                              · rw [if_neg c127] at H
                                have c127b0 : (((rd_T37 t351 1).f4) == (a2.size : Int)) = false := beq_eq_false_iff_ne.mpr c127
                                have c127b1 : (((rd_T37 t351 1).f4) != (a2.size : Int)) = true := bne_iff_ne.mpr c127
                                by_cases c137 : (false == false) = true
                                · rw [if_pos c137] at H
                                  have c137b0 : (false == false) = true := c137
                                  (try (have c137b1 : decide (false = false) = true := by first | (simp; done) | (have e_ := c137; simp at e_; done) | simpa using c137))
                                  (try (have c137b2 : (false == false) = true := by first | (simp; done) | (have e_ := c137; simp at e_; done) | simpa using c137))
                                  clear c137
                                  as_aux_lemma =>
                                    first
                                    | (simp at H; done)
                                    | obtain rfl := Option.some.inj H
                                      go_wp2_with (first | ((with_reducible refine gate_callee (f := 9) rfl ?_); refine goesL_ (some 148) rfl rfl Tryd.func9 (by kernel_rfl) rfl #[.string a2] rfl (by (try simp only [List.map_toArray, List.map_cons, List.map_nil]); first | done | rfl | (simp only [List.length_drop, List.length_take]; rfl)) ?_; (with_reducible refine (lex_IsWord.calls kj78 a2 false _ ?side1 A92.out).mono ?_); (case side1 => exact Inv.below HI_.out (by repeat (first | (with_reducible first | exact HB.out | apply below_alloc | apply pw_below_drewN | apply below_drew1) | exact HB.out))); rintro e w138 ⟨rfl, hb⟩; refine ⟨_, rfl, ?_⟩; have n0_ := Aside0.mk (below_step (by repeat (first | (with_reducible first | exact HB.out | apply below_alloc | apply pw_below_drewN | apply below_drew1) | exact HB.out)) hb); clear HB; have HB := n0_; clear n0_; (try clear hb); (try clear hb2); (try clear hk); (try clear hi)) | ((with_reducible refine gate_callee (f := 11) rfl ?_); refine goesL_ (some 150) rfl rfl Tryd.func11 (by kernel_rfl) rfl #[.string a2] rfl (by (try simp only [List.map_toArray, List.map_cons, List.map_nil]); first | done | rfl | (simp only [List.length_drop, List.length_take]; rfl)) ?_; (with_reducible refine (lex_IsName.calls kj78 a2 t350 _ ?side1 A93.out).mono ?_); (case side1 => exact Inv.below HI_.out (by repeat (first | (with_reducible first | exact HB.out | apply below_alloc | apply pw_below_drewN | apply below_drew1) | exact HB.out))); rintro e w139 ⟨rfl, hb⟩; refine ⟨_, rfl, ?_⟩; have n0_ := Aside0.mk (below_step (by repeat (first | (with_reducible first | exact HB.out | apply below_alloc | apply pw_below_drewN | apply below_drew1) | exact HB.out)) hb); clear HB; have HB := n0_; clear n0_; (try clear hb); (try clear hb2); (try clear hk); (try clear hi)) | ((with_reducible refine gate_callee (f := 14) rfl ?_); refine goesL_ (some 153) rfl rfl Tryd.func14 (by kernel_rfl) rfl #[.string a2] rfl (by (try simp only [List.map_toArray, List.map_cons, List.map_nil]); first | done | rfl | (simp only [List.length_drop, List.length_take]; rfl)) ?_; (with_reducible refine (lex_Scan.calls kj78 a2 t351 t352 t353 _ ?side1 A94.out).mono ?_); (case side1 => exact Inv.below HI_.out (by repeat (first | (with_reducible first | exact HB.out | apply below_alloc | apply pw_below_drewN | apply below_drew1) | exact HB.out))); rintro e w140 ⟨v354, rfl, ho0, hb⟩; refine ⟨_, rfl, ?_⟩; have n0_ := Aside0.mk (Kd.R_lower ho0 (below_size (by repeat (first | (with_reducible first | exact HB.out | apply below_alloc | apply pw_below_drewN | apply below_drew1) | exact HB.out)))); have n1_ := Aside0.mk (below_step (by repeat (first | (with_reducible first | exact HB.out | apply below_alloc | apply pw_below_drewN | apply below_drew1) | exact HB.out)) hb); clear HB; have HO355 := n0_; have HB := n1_; clear n0_ n1_; (try clear hb); (try clear hb2); (try clear hk); (try clear hi); (try clear ho0); obtain ⟨Ao141, co141, eo141⟩ := Kd.R_slice HO355.out; subst eo141; have p356 : 0 ≤ (0 : Int) := (by omega); have q356 : 0 < (t351.length : Int) := of_decide_eq_true (by first | (with_reducible assumption) | assumption); obtain ⟨ad356, e356, hx356_0, hx356_1, hx356_2, hx356_3, hx356_4, hx356_5⟩ := at_T37 (Kd.R_reads' HO355.out).2.2 0 p356 q356; cases e356; have qi356 : (0 < t351.length) = True := eq_true (by omega); (try rw [show ((0 : Int)).toNat = 0 from rfl] at hx356_0); (try rw [show 0 * 6 = 0 from rfl] at hx356_0); (try rw [Addr.add_zero'] at hx356_0); (try rw [show ((0 : Int)).toNat = 0 from rfl] at hx356_1); (try rw [show 0 * 6 = 0 from rfl] at hx356_1); (try rw [Addr.add_zero'] at hx356_1); (try rw [show ((0 : Int)).toNat = 0 from rfl] at hx356_2); (try rw [show 0 * 6 = 0 from rfl] at hx356_2); (try rw [Addr.add_zero'] at hx356_2); (try rw [show ((0 : Int)).toNat = 0 from rfl] at hx356_3); (try rw [show 0 * 6 = 0 from rfl] at hx356_3); (try rw [Addr.add_zero'] at hx356_3); (try rw [show ((0 : Int)).toNat = 0 from rfl] at hx356_4); (try rw [show 0 * 6 = 0 from rfl] at hx356_4); (try rw [Addr.add_zero'] at hx356_4); (try rw [show ((0 : Int)).toNat = 0 from rfl] at hx356_5); (try rw [show 0 * 6 = 0 from rfl] at hx356_5); (try rw [Addr.add_zero'] at hx356_5); replace p356 := eq_true p356; replace q356 := eq_true q356; have p357 : 0 ≤ (0 : Int) := (by omega); have q357 : 0 < (t351.length : Int) := of_decide_eq_true (by first | (with_reducible assumption) | assumption); obtain ⟨ad357, e357, hx357_0, hx357_1, hx357_2, hx357_3, hx357_4, hx357_5⟩ := at_T37 (Kd.R_reads' HO355.out).2.2 0 p357 q357; obtain rfl : ad356 = ad357 := (by injection e357); have qi357 : (0 < t351.length) = True := eq_true (by omega); (try rw [show ((0 : Int)).toNat = 0 from rfl] at hx357_0); (try rw [show 0 * 6 = 0 from rfl] at hx357_0); (try rw [Addr.add_zero'] at hx357_0); (try rw [show ((0 : Int)).toNat = 0 from rfl] at hx357_1); (try rw [show 0 * 6 = 0 from rfl] at hx357_1); (try rw [Addr.add_zero'] at hx357_1); (try rw [show ((0 : Int)).toNat = 0 from rfl] at hx357_2); (try rw [show 0 * 6 = 0 from rfl] at hx357_2); (try rw [Addr.add_zero'] at hx357_2); (try rw [show ((0 : Int)).toNat = 0 from rfl] at hx357_3); (try rw [show 0 * 6 = 0 from rfl] at hx357_3); (try rw [Addr.add_zero'] at hx357_3); (try rw [show ((0 : Int)).toNat = 0 from rfl] at hx357_4); (try rw [show 0 * 6 = 0 from rfl] at hx357_4); (try rw [Addr.add_zero'] at hx357_4); (try rw [show ((0 : Int)).toNat = 0 from rfl] at hx357_5); (try rw [show 0 * 6 = 0 from rfl] at hx357_5); (try rw [Addr.add_zero'] at hx357_5); replace p357 := eq_true p357; replace q357 := eq_true q357; have p358 : 0 ≤ (1 : Int) := (by omega); have q358 : 1 < (t351.length : Int) := of_decide_eq_true (by first | (with_reducible assumption) | assumption); obtain ⟨ad358, e358, hx358_0, hx358_1, hx358_2, hx358_3, hx358_4, hx358_5⟩ := at_T37 (Kd.R_reads' HO355.out).2.2 1 p358 q358; obtain rfl : ad356 = ad358 := (by injection e358); (try simp only [show (1 : Int).toNat = 1 from rfl, Nat.reduceMul, Nat.reduceEqDiff, Go.Addr.add, ↓reduceIte] at hx358_0); (try simp only [show (1 : Int).toNat = 1 from rfl, Nat.reduceMul, Nat.reduceEqDiff, Go.Addr.add, ↓reduceIte] at hx358_1); (try simp only [show (1 : Int).toNat = 1 from rfl, Nat.reduceMul, Nat.reduceEqDiff, Go.Addr.add, ↓reduceIte] at hx358_2); (try simp only [show (1 : Int).toNat = 1 from rfl, Nat.reduceMul, Nat.reduceEqDiff, Go.Addr.add, ↓reduceIte] at hx358_3); (try simp only [show (1 : Int).toNat = 1 from rfl, Nat.reduceMul, Nat.reduceEqDiff, Go.Addr.add, ↓reduceIte] at hx358_4); (try simp only [show (1 : Int).toNat = 1 from rfl, Nat.reduceMul, Nat.reduceEqDiff, Go.Addr.add, ↓reduceIte] at hx358_5); have qi358 : (1 < t351.length) = True := eq_true (by omega); (try rw [show ((1 : Int)).toNat = 1 from rfl] at hx358_0); (try rw [show 1 * 6 = 6 from rfl] at hx358_0); (try rw [show ((1 : Int)).toNat = 1 from rfl] at hx358_1); (try rw [show 1 * 6 = 6 from rfl] at hx358_1); (try rw [show ((1 : Int)).toNat = 1 from rfl] at hx358_2); (try rw [show 1 * 6 = 6 from rfl] at hx358_2); (try rw [show ((1 : Int)).toNat = 1 from rfl] at hx358_3); (try rw [show 1 * 6 = 6 from rfl] at hx358_3); (try rw [show ((1 : Int)).toNat = 1 from rfl] at hx358_4); (try rw [show 1 * 6 = 6 from rfl] at hx358_4); (try rw [show ((1 : Int)).toNat = 1 from rfl] at hx358_5); (try rw [show 1 * 6 = 6 from rfl] at hx358_5); replace p358 := eq_true p358; replace q358 := eq_true q358))
                                      go_ret
                                      exact ⟨by first | rfl | (simp [errW_none, errW_some] <;> rfl) | (simp [*, errW_none, errW_some] <;> rfl), by repeat (first | (with_reducible first | exact HB.out | apply below_alloc | apply pw_below_drewN | apply below_drew1) | exact HB.out)⟩
                                · rw [if_neg c137] at H
                                  have c137b0 : (false == false) = false := by first | (simp; done) | (have e_ := c137; simp at e_; done) | simpa using c137
                                  (try (have c137b1 : decide (false = false) = false := by first | (simp; done) | (have e_ := c137; simp at e_; done) | simpa using c137))
                                  (try (have c137b2 : (false == false) = false := by first | (simp; done) | (have e_ := c137; simp at e_; done) | simpa using c137))
                                  (try (have c137b3 : ¬ (false = false) := by first | (simp; done) | (have e_ := c137; simp at e_; done) | simpa using c137))
                                  clear c137
                                  as_aux_lemma =>
                                    exact absurd H (by simp)
                          · replace c101 := Bool.eq_false_iff.mpr c101
                            subst c101
                            have H1 : (none) = some r := by rw [if_neg (show ¬ (false = true) by decide)] at H; exact H
                            clear H
                            have H := H1
                            clear H1
                            as_aux_lemma =>
                              exact absurd H (by simp)
                        · rw [if_neg c100] at H
                          exact absurd H (by simp)
                      · rw [if_neg c99] at H
                        have c99b0 : (((rd_T37 t351 0).f4) == 0) = false := beq_eq_false_iff_ne.mpr c99
                        have c99b1 : (((rd_T37 t351 0).f4) != 0) = true := bne_iff_ne.mpr c99
                        by_cases c150 : t314 = true
                        · subst c150
                          have H1 : (if t349 = true then (if t350 = true then (none) else (if (t349 == false) = true then (some (t350 == false)) else (none))) else (if (t349 == false) = true then (some (t350 == false)) else (none))) = some r := by rw [if_pos rfl] at H; exact H
                          clear H
                          have H := H1
                          clear H1
                          by_cases c151 : t349 = true
                          · subst c151
                            have H1 : (if t350 = true then (none) else (if (true == false) = true then (some (t350 == false)) else (none))) = some r := by rw [if_pos rfl] at H; exact H
                            clear H
                            have H := H1
                            clear H1
                            by_cases c152 : t350 = true
                            · subst c152
                              have H1 : (none) = some r := by rw [if_pos rfl] at H; exact H
                              clear H
                              have H := H1
                              clear H1
                              as_aux_lemma =>
                                exact absurd H (by simp)
                            · replace c152 := Bool.eq_false_iff.mpr c152
                              subst c152
                              have H1 : (if (true == false) = true then (some (false == false)) else (none)) = some r := by rw [if_neg (show ¬ (false = true) by decide)] at H; exact H
                              clear H
                              have H := H1
                              clear H1
                              by_cases c157 : (true == false) = true
                              · rw [if_pos c157] at H
                                have c157b0 : (true == false) = true := c157
                                (try (have c157b1 : decide (true = false) = true := by first | (simp; done) | (have e_ := c157; simp at e_; done) | simpa using c157))
                                (try (have c157b2 : (true == false) = true := by first | (simp; done) | (have e_ := c157; simp at e_; done) | simpa using c157))
                                clear c157
                                as_aux_lemma =>
                                  first
                                  | (simp at H; done)
                                  | obtain rfl := Option.some.inj H
                                    go_wp2_with (first | ((with_reducible refine gate_callee (f := 9) rfl ?_); refine goesL_ (some 148) rfl rfl Tryd.func9 (by kernel_rfl) rfl #[.string a2] rfl (by (try simp only [List.map_toArray, List.map_cons, List.map_nil]); first | done | rfl | (simp only [List.length_drop, List.length_take]; rfl)) ?_; (with_reducible refine (lex_IsWord.calls kj78 a2 true _ ?side1 A92.out).mono ?_); (case side1 => exact Inv.below HI_.out (by repeat (first | (with_reducible first | exact HB.out | apply below_alloc | apply pw_below_drewN | apply below_drew1) | exact HB.out))); rintro e w158 ⟨rfl, hb⟩; refine ⟨_, rfl, ?_⟩; have n0_ := Aside0.mk (below_step (by repeat (first | (with_reducible first | exact HB.out | apply below_alloc | apply pw_below_drewN | apply below_drew1) | exact HB.out)) hb); clear HB; have HB := n0_; clear n0_; (try clear hb); (try clear hb2); (try clear hk); (try clear hi)) | ((with_reducible refine gate_callee (f := 11) rfl ?_); refine goesL_ (some 150) rfl rfl Tryd.func11 (by kernel_rfl) rfl #[.string a2] rfl (by (try simp only [List.map_toArray, List.map_cons, List.map_nil]); first | done | rfl | (simp only [List.length_drop, List.length_take]; rfl)) ?_; (with_reducible refine (lex_IsName.calls kj78 a2 false _ ?side1 A93.out).mono ?_); (case side1 => exact Inv.below HI_.out (by repeat (first | (with_reducible first | exact HB.out | apply below_alloc | apply pw_below_drewN | apply below_drew1) | exact HB.out))); rintro e w159 ⟨rfl, hb⟩; refine ⟨_, rfl, ?_⟩; have n0_ := Aside0.mk (below_step (by repeat (first | (with_reducible first | exact HB.out | apply below_alloc | apply pw_below_drewN | apply below_drew1) | exact HB.out)) hb); clear HB; have HB := n0_; clear n0_; (try clear hb); (try clear hb2); (try clear hk); (try clear hi)) | ((with_reducible refine gate_callee (f := 14) rfl ?_); refine goesL_ (some 153) rfl rfl Tryd.func14 (by kernel_rfl) rfl #[.string a2] rfl (by (try simp only [List.map_toArray, List.map_cons, List.map_nil]); first | done | rfl | (simp only [List.length_drop, List.length_take]; rfl)) ?_; (with_reducible refine (lex_Scan.calls kj78 a2 t351 t352 t353 _ ?side1 A94.out).mono ?_); (case side1 => exact Inv.below HI_.out (by repeat (first | (with_reducible first | exact HB.out | apply below_alloc | apply pw_below_drewN | apply below_drew1) | exact HB.out))); rintro e w160 ⟨v354, rfl, ho0, hb⟩; refine ⟨_, rfl, ?_⟩; have n0_ := Aside0.mk (Kd.R_lower ho0 (below_size (by repeat (first | (with_reducible first | exact HB.out | apply below_alloc | apply pw_below_drewN | apply below_drew1) | exact HB.out)))); have n1_ := Aside0.mk (below_step (by repeat (first | (with_reducible first | exact HB.out | apply below_alloc | apply pw_below_drewN | apply below_drew1) | exact HB.out)) hb); clear HB; have HO355 := n0_; have HB := n1_; clear n0_ n1_; (try clear hb); (try clear hb2); (try clear hk); (try clear hi); (try clear ho0); obtain ⟨Ao161, co161, eo161⟩ := Kd.R_slice HO355.out; subst eo161; have p356 : 0 ≤ (0 : Int) := (by omega); have q356 : 0 < (t351.length : Int) := of_decide_eq_true (by first | (with_reducible assumption) | assumption); obtain ⟨ad356, e356, hx356_0, hx356_1, hx356_2, hx356_3, hx356_4, hx356_5⟩ := at_T37 (Kd.R_reads' HO355.out).2.2 0 p356 q356; cases e356; have qi356 : (0 < t351.length) = True := eq_true (by omega); (try rw [show ((0 : Int)).toNat = 0 from rfl] at hx356_0); (try rw [show 0 * 6 = 0 from rfl] at hx356_0); (try rw [Addr.add_zero'] at hx356_0); (try rw [show ((0 : Int)).toNat = 0 from rfl] at hx356_1); (try rw [show 0 * 6 = 0 from rfl] at hx356_1); (try rw [Addr.add_zero'] at hx356_1); (try rw [show ((0 : Int)).toNat = 0 from rfl] at hx356_2); (try rw [show 0 * 6 = 0 from rfl] at hx356_2); (try rw [Addr.add_zero'] at hx356_2); (try rw [show ((0 : Int)).toNat = 0 from rfl] at hx356_3); (try rw [show 0 * 6 = 0 from rfl] at hx356_3); (try rw [Addr.add_zero'] at hx356_3); (try rw [show ((0 : Int)).toNat = 0 from rfl] at hx356_4); (try rw [show 0 * 6 = 0 from rfl] at hx356_4); (try rw [Addr.add_zero'] at hx356_4); (try rw [show ((0 : Int)).toNat = 0 from rfl] at hx356_5); (try rw [show 0 * 6 = 0 from rfl] at hx356_5); (try rw [Addr.add_zero'] at hx356_5); replace p356 := eq_true p356; replace q356 := eq_true q356; have p357 : 0 ≤ (0 : Int) := (by omega); have q357 : 0 < (t351.length : Int) := of_decide_eq_true (by first | (with_reducible assumption) | assumption); obtain ⟨ad357, e357, hx357_0, hx357_1, hx357_2, hx357_3, hx357_4, hx357_5⟩ := at_T37 (Kd.R_reads' HO355.out).2.2 0 p357 q357; obtain rfl : ad356 = ad357 := (by injection e357); have qi357 : (0 < t351.length) = True := eq_true (by omega); (try rw [show ((0 : Int)).toNat = 0 from rfl] at hx357_0); (try rw [show 0 * 6 = 0 from rfl] at hx357_0); (try rw [Addr.add_zero'] at hx357_0); (try rw [show ((0 : Int)).toNat = 0 from rfl] at hx357_1); (try rw [show 0 * 6 = 0 from rfl] at hx357_1); (try rw [Addr.add_zero'] at hx357_1); (try rw [show ((0 : Int)).toNat = 0 from rfl] at hx357_2); (try rw [show 0 * 6 = 0 from rfl] at hx357_2); (try rw [Addr.add_zero'] at hx357_2); (try rw [show ((0 : Int)).toNat = 0 from rfl] at hx357_3); (try rw [show 0 * 6 = 0 from rfl] at hx357_3); (try rw [Addr.add_zero'] at hx357_3); (try rw [show ((0 : Int)).toNat = 0 from rfl] at hx357_4); (try rw [show 0 * 6 = 0 from rfl] at hx357_4); (try rw [Addr.add_zero'] at hx357_4); (try rw [show ((0 : Int)).toNat = 0 from rfl] at hx357_5); (try rw [show 0 * 6 = 0 from rfl] at hx357_5); (try rw [Addr.add_zero'] at hx357_5); replace p357 := eq_true p357; replace q357 := eq_true q357))
                                    go_ret
                                    exact ⟨by first | rfl | (simp [errW_none, errW_some] <;> rfl) | (simp [*, errW_none, errW_some] <;> rfl), by repeat (first | (with_reducible first | exact HB.out | apply below_alloc | apply pw_below_drewN | apply below_drew1) | exact HB.out)⟩
                              · rw [if_neg c157] at H
                                have c157b0 : (true == false) = false := by first | (simp; done) | (have e_ := c157; simp at e_; done) | simpa using c157
                                (try (have c157b1 : decide (true = false) = false := by first | (simp; done) | (have e_ := c157; simp at e_; done) | simpa using c157))
                                (try (have c157b2 : (true == false) = false := by first | (simp; done) | (have e_ := c157; simp at e_; done) | simpa using c157))
                                (try (have c157b3 : ¬ (true = false) := by first | (simp; done) | (have e_ := c157; simp at e_; done) | simpa using c157))
                                clear c157
                                as_aux_lemma =>
                                  exact absurd H (by simp)
                          · replace c151 := Bool.eq_false_iff.mpr c151
                            subst c151
                            have H1 : (if (false == false) = true then (some (t350 == false)) else (none)) = some r := by rw [if_neg (show ¬ (false = true) by decide)] at H; exact H
                            clear H
                            have H := H1
                            clear H1
                            by_cases c166 : (false == false) = true
                            · rw [if_pos c166] at H
                              have c166b0 : (false == false) = true := c166
                              (try (have c166b1 : decide (false = false) = true := by first | (simp; done) | (have e_ := c166; simp at e_; done) | simpa using c166))
                              (try (have c166b2 : (false == false) = true := by first | (simp; done) | (have e_ := c166; simp at e_; done) | simpa using c166))
                              clear c166
                              as_aux_lemma =>
                                first
                                | (simp at H; done)
                                | obtain rfl := Option.some.inj H
                                  go_wp2_with (first | ((with_reducible refine gate_callee (f := 9) rfl ?_); refine goesL_ (some 148) rfl rfl Tryd.func9 (by kernel_rfl) rfl #[.string a2] rfl (by (try simp only [List.map_toArray, List.map_cons, List.map_nil]); first | done | rfl | (simp only [List.length_drop, List.length_take]; rfl)) ?_; (with_reducible refine (lex_IsWord.calls kj78 a2 false _ ?side1 A92.out).mono ?_); (case side1 => exact Inv.below HI_.out (by repeat (first | (with_reducible first | exact HB.out | apply below_alloc | apply pw_below_drewN | apply below_drew1) | exact HB.out))); rintro e w167 ⟨rfl, hb⟩; refine ⟨_, rfl, ?_⟩; have n0_ := Aside0.mk (below_step (by repeat (first | (with_reducible first | exact HB.out | apply below_alloc | apply pw_below_drewN | apply below_drew1) | exact HB.out)) hb); clear HB; have HB := n0_; clear n0_; (try clear hb); (try clear hb2); (try clear hk); (try clear hi)) | ((with_reducible refine gate_callee (f := 11) rfl ?_); refine goesL_ (some 150) rfl rfl Tryd.func11 (by kernel_rfl) rfl #[.string a2] rfl (by (try simp only [List.map_toArray, List.map_cons, List.map_nil]); first | done | rfl | (simp only [List.length_drop, List.length_take]; rfl)) ?_; (with_reducible refine (lex_IsName.calls kj78 a2 t350 _ ?side1 A93.out).mono ?_); (case side1 => exact Inv.below HI_.out (by repeat (first | (with_reducible first | exact HB.out | apply below_alloc | apply pw_below_drewN | apply below_drew1) | exact HB.out))); rintro e w168 ⟨rfl, hb⟩; refine ⟨_, rfl, ?_⟩; have n0_ := Aside0.mk (below_step (by repeat (first | (with_reducible first | exact HB.out | apply below_alloc | apply pw_below_drewN | apply below_drew1) | exact HB.out)) hb); clear HB; have HB := n0_; clear n0_; (try clear hb); (try clear hb2); (try clear hk); (try clear hi)) | ((with_reducible refine gate_callee (f := 14) rfl ?_); refine goesL_ (some 153) rfl rfl Tryd.func14 (by kernel_rfl) rfl #[.string a2] rfl (by (try simp only [List.map_toArray, List.map_cons, List.map_nil]); first | done | rfl | (simp only [List.length_drop, List.length_take]; rfl)) ?_; (with_reducible refine (lex_Scan.calls kj78 a2 t351 t352 t353 _ ?side1 A94.out).mono ?_); (case side1 => exact Inv.below HI_.out (by repeat (first | (with_reducible first | exact HB.out | apply below_alloc | apply pw_below_drewN | apply below_drew1) | exact HB.out))); rintro e w169 ⟨v354, rfl, ho0, hb⟩; refine ⟨_, rfl, ?_⟩; have n0_ := Aside0.mk (Kd.R_lower ho0 (below_size (by repeat (first | (with_reducible first | exact HB.out | apply below_alloc | apply pw_below_drewN | apply below_drew1) | exact HB.out)))); have n1_ := Aside0.mk (below_step (by repeat (first | (with_reducible first | exact HB.out | apply below_alloc | apply pw_below_drewN | apply below_drew1) | exact HB.out)) hb); clear HB; have HO355 := n0_; have HB := n1_; clear n0_ n1_; (try clear hb); (try clear hb2); (try clear hk); (try clear hi); (try clear ho0); obtain ⟨Ao170, co170, eo170⟩ := Kd.R_slice HO355.out; subst eo170; have p356 : 0 ≤ (0 : Int) := (by omega); have q356 : 0 < (t351.length : Int) := of_decide_eq_true (by first | (with_reducible assumption) | assumption); obtain ⟨ad356, e356, hx356_0, hx356_1, hx356_2, hx356_3, hx356_4, hx356_5⟩ := at_T37 (Kd.R_reads' HO355.out).2.2 0 p356 q356; cases e356; have qi356 : (0 < t351.length) = True := eq_true (by omega); (try rw [show ((0 : Int)).toNat = 0 from rfl] at hx356_0); (try rw [show 0 * 6 = 0 from rfl] at hx356_0); (try rw [Addr.add_zero'] at hx356_0); (try rw [show ((0 : Int)).toNat = 0 from rfl] at hx356_1); (try rw [show 0 * 6 = 0 from rfl] at hx356_1); (try rw [Addr.add_zero'] at hx356_1); (try rw [show ((0 : Int)).toNat = 0 from rfl] at hx356_2); (try rw [show 0 * 6 = 0 from rfl] at hx356_2); (try rw [Addr.add_zero'] at hx356_2); (try rw [show ((0 : Int)).toNat = 0 from rfl] at hx356_3); (try rw [show 0 * 6 = 0 from rfl] at hx356_3); (try rw [Addr.add_zero'] at hx356_3); (try rw [show ((0 : Int)).toNat = 0 from rfl] at hx356_4); (try rw [show 0 * 6 = 0 from rfl] at hx356_4); (try rw [Addr.add_zero'] at hx356_4); (try rw [show ((0 : Int)).toNat = 0 from rfl] at hx356_5); (try rw [show 0 * 6 = 0 from rfl] at hx356_5); (try rw [Addr.add_zero'] at hx356_5); replace p356 := eq_true p356; replace q356 := eq_true q356; have p357 : 0 ≤ (0 : Int) := (by omega); have q357 : 0 < (t351.length : Int) := of_decide_eq_true (by first | (with_reducible assumption) | assumption); obtain ⟨ad357, e357, hx357_0, hx357_1, hx357_2, hx357_3, hx357_4, hx357_5⟩ := at_T37 (Kd.R_reads' HO355.out).2.2 0 p357 q357; obtain rfl : ad356 = ad357 := (by injection e357); have qi357 : (0 < t351.length) = True := eq_true (by omega); (try rw [show ((0 : Int)).toNat = 0 from rfl] at hx357_0); (try rw [show 0 * 6 = 0 from rfl] at hx357_0); (try rw [Addr.add_zero'] at hx357_0); (try rw [show ((0 : Int)).toNat = 0 from rfl] at hx357_1); (try rw [show 0 * 6 = 0 from rfl] at hx357_1); (try rw [Addr.add_zero'] at hx357_1); (try rw [show ((0 : Int)).toNat = 0 from rfl] at hx357_2); (try rw [show 0 * 6 = 0 from rfl] at hx357_2); (try rw [Addr.add_zero'] at hx357_2); (try rw [show ((0 : Int)).toNat = 0 from rfl] at hx357_3); (try rw [show 0 * 6 = 0 from rfl] at hx357_3); (try rw [Addr.add_zero'] at hx357_3); (try rw [show ((0 : Int)).toNat = 0 from rfl] at hx357_4); (try rw [show 0 * 6 = 0 from rfl] at hx357_4); (try rw [Addr.add_zero'] at hx357_4); (try rw [show ((0 : Int)).toNat = 0 from rfl] at hx357_5); (try rw [show 0 * 6 = 0 from rfl] at hx357_5); (try rw [Addr.add_zero'] at hx357_5); replace p357 := eq_true p357; replace q357 := eq_true q357))
                                  go_ret
                                  exact ⟨by first | rfl | (simp [errW_none, errW_some] <;> rfl) | (simp [*, errW_none, errW_some] <;> rfl), by repeat (first | (with_reducible first | exact HB.out | apply below_alloc | apply pw_below_drewN | apply below_drew1) | exact HB.out)⟩
                            · rw [if_neg c166] at H
                              have c166b0 : (false == false) = false := by first | (simp; done) | (have e_ := c166; simp at e_; done) | simpa using c166
                              (try (have c166b1 : decide (false = false) = false := by first | (simp; done) | (have e_ := c166; simp at e_; done) | simpa using c166))
                              (try (have c166b2 : (false == false) = false := by first | (simp; done) | (have e_ := c166; simp at e_; done) | simpa using c166))
                              (try (have c166b3 : ¬ (false = false) := by first | (simp; done) | (have e_ := c166; simp at e_; done) | simpa using c166))
                              clear c166
                              as_aux_lemma =>
                                exact absurd H (by simp)
                        · replace c150 := Bool.eq_false_iff.mpr c150
                          subst c150
                          have H1 : (none) = some r := by rw [if_neg (show ¬ (false = true) by decide)] at H; exact H
                          clear H
                          have H := H1
                          clear H1
                          as_aux_lemma =>
                            exact absurd H (by simp)
                    · rw [if_neg c98] at H
                      have c98b0 : (((rd_T37 t351 0).f1).toList == a2.toList) = false := beq_eq_false_iff_ne.mpr c98
                      have c98b1 : (((rd_T37 t351 0).f1).toList != a2.toList) = true := bne_iff_ne.mpr c98
                      by_cases c179 : t314 = true
                      · subst c179
                        have H1 : (if t349 = true then (if t350 = true then (none) else (if (t349 == false) = true then (some (t350 == false)) else (none))) else (if (t349 == false) = true then (some (t350 == false)) else (none))) = some r := by rw [if_pos rfl] at H; exact H
                        clear H
                        have H := H1
                        clear H1
                        by_cases c180 : t349 = true
                        · subst c180
                          have H1 : (if t350 = true then (none) else (if (true == false) = true then (some (t350 == false)) else (none))) = some r := by rw [if_pos rfl] at H; exact H
                          clear H
                          have H := H1
                          clear H1
                          by_cases c181 : t350 = true
                          · subst c181
                            have H1 : (none) = some r := by rw [if_pos rfl] at H; exact H
                            clear H
                            have H := H1
                            clear H1
                            as_aux_lemma =>
                              exact absurd H (by simp)
                          · replace c181 := Bool.eq_false_iff.mpr c181
                            subst c181
                            have H1 : (if (true == false) = true then (some (false == false)) else (none)) = some r := by rw [if_neg (show ¬ (false = true) by decide)] at H; exact H
                            clear H
                            have H := H1
                            clear H1
                            by_cases c186 : (true == false) = true
                            · rw [if_pos c186] at H
                              have c186b0 : (true == false) = true := c186
                              (try (have c186b1 : decide (true = false) = true := by first | (simp; done) | (have e_ := c186; simp at e_; done) | simpa using c186))
                              (try (have c186b2 : (true == false) = true := by first | (simp; done) | (have e_ := c186; simp at e_; done) | simpa using c186))
                              clear c186
                              as_aux_lemma =>
                                first
                                | (simp at H; done)
                                | obtain rfl := Option.some.inj H
                                  go_wp2_with (first | ((with_reducible refine gate_callee (f := 9) rfl ?_); refine goesL_ (some 148) rfl rfl Tryd.func9 (by kernel_rfl) rfl #[.string a2] rfl (by (try simp only [List.map_toArray, List.map_cons, List.map_nil]); first | done | rfl | (simp only [List.length_drop, List.length_take]; rfl)) ?_; (with_reducible refine (lex_IsWord.calls kj78 a2 true _ ?side1 A92.out).mono ?_); (case side1 => exact Inv.below HI_.out (by repeat (first | (with_reducible first | exact HB.out | apply below_alloc | apply pw_below_drewN | apply below_drew1) | exact HB.out))); rintro e w187 ⟨rfl, hb⟩; refine ⟨_, rfl, ?_⟩; have n0_ := Aside0.mk (below_step (by repeat (first | (with_reducible first | exact HB.out | apply below_alloc | apply pw_below_drewN | apply below_drew1) | exact HB.out)) hb); clear HB; have HB := n0_; clear n0_; (try clear hb); (try clear hb2); (try clear hk); (try clear hi)) | ((with_reducible refine gate_callee (f := 11) rfl ?_); refine goesL_ (some 150) rfl rfl Tryd.func11 (by kernel_rfl) rfl #[.string a2] rfl (by (try simp only [List.map_toArray, List.map_cons, List.map_nil]); first | done | rfl | (simp only [List.length_drop, List.length_take]; rfl)) ?_; (with_reducible refine (lex_IsName.calls kj78 a2 false _ ?side1 A93.out).mono ?_); (case side1 => exact Inv.below HI_.out (by repeat (first | (with_reducible first | exact HB.out | apply below_alloc | apply pw_below_drewN | apply below_drew1) | exact HB.out))); rintro e w188 ⟨rfl, hb⟩; refine ⟨_, rfl, ?_⟩; have n0_ := Aside0.mk (below_step (by repeat (first | (with_reducible first | exact HB.out | apply below_alloc | apply pw_below_drewN | apply below_drew1) | exact HB.out)) hb); clear HB; have HB := n0_; clear n0_; (try clear hb); (try clear hb2); (try clear hk); (try clear hi)) | ((with_reducible refine gate_callee (f := 14) rfl ?_); refine goesL_ (some 153) rfl rfl Tryd.func14 (by kernel_rfl) rfl #[.string a2] rfl (by (try simp only [List.map_toArray, List.map_cons, List.map_nil]); first | done | rfl | (simp only [List.length_drop, List.length_take]; rfl)) ?_; (with_reducible refine (lex_Scan.calls kj78 a2 t351 t352 t353 _ ?side1 A94.out).mono ?_); (case side1 => exact Inv.below HI_.out (by repeat (first | (with_reducible first | exact HB.out | apply below_alloc | apply pw_below_drewN | apply below_drew1) | exact HB.out))); rintro e w189 ⟨v354, rfl, ho0, hb⟩; refine ⟨_, rfl, ?_⟩; have n0_ := Aside0.mk (Kd.R_lower ho0 (below_size (by repeat (first | (with_reducible first | exact HB.out | apply below_alloc | apply pw_below_drewN | apply below_drew1) | exact HB.out)))); have n1_ := Aside0.mk (below_step (by repeat (first | (with_reducible first | exact HB.out | apply below_alloc | apply pw_below_drewN | apply below_drew1) | exact HB.out)) hb); clear HB; have HO355 := n0_; have HB := n1_; clear n0_ n1_; (try clear hb); (try clear hb2); (try clear hk); (try clear hi); (try clear ho0); obtain ⟨Ao190, co190, eo190⟩ := Kd.R_slice HO355.out; subst eo190; have p356 : 0 ≤ (0 : Int) := (by omega); have q356 : 0 < (t351.length : Int) := of_decide_eq_true (by first | (with_reducible assumption) | assumption); obtain ⟨ad356, e356, hx356_0, hx356_1, hx356_2, hx356_3, hx356_4, hx356_5⟩ := at_T37 (Kd.R_reads' HO355.out).2.2 0 p356 q356; cases e356; have qi356 : (0 < t351.length) = True := eq_true (by omega); (try rw [show ((0 : Int)).toNat = 0 from rfl] at hx356_0); (try rw [show 0 * 6 = 0 from rfl] at hx356_0); (try rw [Addr.add_zero'] at hx356_0); (try rw [show ((0 : Int)).toNat = 0 from rfl] at hx356_1); (try rw [show 0 * 6 = 0 from rfl] at hx356_1); (try rw [Addr.add_zero'] at hx356_1); (try rw [show ((0 : Int)).toNat = 0 from rfl] at hx356_2); (try rw [show 0 * 6 = 0 from rfl] at hx356_2); (try rw [Addr.add_zero'] at hx356_2); (try rw [show ((0 : Int)).toNat = 0 from rfl] at hx356_3); (try rw [show 0 * 6 = 0 from rfl] at hx356_3); (try rw [Addr.add_zero'] at hx356_3); (try rw [show ((0 : Int)).toNat = 0 from rfl] at hx356_4); (try rw [show 0 * 6 = 0 from rfl] at hx356_4); (try rw [Addr.add_zero'] at hx356_4); (try rw [show ((0 : Int)).toNat = 0 from rfl] at hx356_5); (try rw [show 0 * 6 = 0 from rfl] at hx356_5); (try rw [Addr.add_zero'] at hx356_5); replace p356 := eq_true p356; replace q356 := eq_true q356))
                                  go_ret
                                  exact ⟨by first | rfl | (simp [errW_none, errW_some] <;> rfl) | (simp [*, errW_none, errW_some] <;> rfl), by repeat (first | (with_reducible first | exact HB.out | apply below_alloc | apply pw_below_drewN | apply below_drew1) | exact HB.out)⟩
                            · rw [if_neg c186] at H
                              have c186b0 : (true == false) = false := by first | (simp; done) | (have e_ := c186; simp at e_; done) | simpa using c186
                              (try (have c186b1 : decide (true = false) = false := by first | (simp; done) | (have e_ := c186; simp at e_; done) | simpa using c186))
                              (try (have c186b2 : (true == false) = false := by first | (simp; done) | (have e_ := c186; simp at e_; done) | simpa using c186))
                              (try (have c186b3 : ¬ (true = false) := by first | (simp; done) | (have e_ := c186; simp at e_; done) | simpa using c186))
                              clear c186
                              as_aux_lemma =>
                                exact absurd H (by simp)
                        · replace c180 := Bool.eq_false_iff.mpr c180
                          subst c180
                          have H1 : (if (false == false) = true then (some (t350 == false)) else (none)) = some r := by rw [if_neg (show ¬ (false = true) by decide)] at H; exact H
                          clear H
                          have H := H1
                          clear H1
                          by_cases c195 : (false == false) = true
                          · rw [if_pos c195] at H
                            have c195b0 : (false == false) = true := c195
                            (try (have c195b1 : decide (false = false) = true := by first | (simp; done) | (have e_ := c195; simp at e_; done) | simpa using c195))
                            (try (have c195b2 : (false == false) = true := by first | (simp; done) | (have e_ := c195; simp at e_; done) | simpa using c195))
                            clear c195
                            as_aux_lemma =>
                              first
                              | (simp at H; done)
                              | obtain rfl := Option.some.inj H
                                go_wp2_with (first | ((with_reducible refine gate_callee (f := 9) rfl ?_); refine goesL_ (some 148) rfl rfl Tryd.func9 (by kernel_rfl) rfl #[.string a2] rfl (by (try simp only [List.map_toArray, List.map_cons, List.map_nil]); first | done | rfl | (simp only [List.length_drop, List.length_take]; rfl)) ?_; (with_reducible refine (lex_IsWord.calls kj78 a2 false _ ?side1 A92.out).mono ?_); (case side1 => exact Inv.below HI_.out (by repeat (first | (with_reducible first | exact HB.out | apply below_alloc | apply pw_below_drewN | apply below_drew1) | exact HB.out))); rintro e w196 ⟨rfl, hb⟩; refine ⟨_, rfl, ?_⟩; have n0_ := Aside0.mk (below_step (by repeat (first | (with_reducible first | exact HB.out | apply below_alloc | apply pw_below_drewN | apply below_drew1) | exact HB.out)) hb); clear HB; have HB := n0_; clear n0_; (try clear hb); (try clear hb2); (try clear hk); (try clear hi)) | ((with_reducible refine gate_callee (f := 11) rfl ?_); refine goesL_ (some 150) rfl rfl Tryd.func11 (by kernel_rfl) rfl #[.string a2] rfl (by (try simp only [List.map_toArray, List.map_cons, List.map_nil]); first | done | rfl | (simp only [List.length_drop, List.length_take]; rfl)) ?_; (with_reducible refine (lex_IsName.calls kj78 a2 t350 _ ?side1 A93.out).mono ?_); (case side1 => exact Inv.below HI_.out (by repeat (first | (with_reducible first | exact HB.out | apply below_alloc | apply pw_below_drewN | apply below_drew1) | exact HB.out))); rintro e w197 ⟨rfl, hb⟩; refine ⟨_, rfl, ?_⟩; have n0_ := Aside0.mk (below_step (by repeat (first | (with_reducible first | exact HB.out | apply below_alloc | apply pw_below_drewN | apply below_drew1) | exact HB.out)) hb); clear HB; have HB := n0_; clear n0_; (try clear hb); (try clear hb2); (try clear hk); (try clear hi)) | ((with_reducible refine gate_callee (f := 14) rfl ?_); refine goesL_ (some 153) rfl rfl Tryd.func14 (by kernel_rfl) rfl #[.string a2] rfl (by (try simp only [List.map_toArray, List.map_cons, List.map_nil]); first | done | rfl | (simp only [List.length_drop, List.length_take]; rfl)) ?_; (with_reducible refine (lex_Scan.calls kj78 a2 t351 t352 t353 _ ?side1 A94.out).mono ?_); (case side1 => exact Inv.below HI_.out (by repeat (first | (with_reducible first | exact HB.out | apply below_alloc | apply pw_below_drewN | apply below_drew1) | exact HB.out))); rintro e w198 ⟨v354, rfl, ho0, hb⟩; refine ⟨_, rfl, ?_⟩; have n0_ := Aside0.mk (Kd.R_lower ho0 (below_size (by repeat (first | (with_reducible first | exact HB.out | apply below_alloc | apply pw_below_drewN | apply below_drew1) | exact HB.out)))); have n1_ := Aside0.mk (below_step (by repeat (first | (with_reducible first | exact HB.out | apply below_alloc | apply pw_below_drewN | apply below_drew1) | exact HB.out)) hb); clear HB; have HO355 := n0_; have HB := n1_; clear n0_ n1_; (try clear hb); (try clear hb2); (try clear hk); (try clear hi); (try clear ho0); obtain ⟨Ao199, co199, eo199⟩ := Kd.R_slice HO355.out; subst eo199; have p356 : 0 ≤ (0 : Int) := (by omega); have q356 : 0 < (t351.length : Int) := of_decide_eq_true (by first | (with_reducible assumption) | assumption); obtain ⟨ad356, e356, hx356_0, hx356_1, hx356_2, hx356_3, hx356_4, hx356_5⟩ := at_T37 (Kd.R_reads' HO355.out).2.2 0 p356 q356; cases e356; have qi356 : (0 < t351.length) = True := eq_true (by omega); (try rw [show ((0 : Int)).toNat = 0 from rfl] at hx356_0); (try rw [show 0 * 6 = 0 from rfl] at hx356_0); (try rw [Addr.add_zero'] at hx356_0); (try rw [show ((0 : Int)).toNat = 0 from rfl] at hx356_1); (try rw [show 0 * 6 = 0 from rfl] at hx356_1); (try rw [Addr.add_zero'] at hx356_1); (try rw [show ((0 : Int)).toNat = 0 from rfl] at hx356_2); (try rw [show 0 * 6 = 0 from rfl] at hx356_2); (try rw [Addr.add_zero'] at hx356_2); (try rw [show ((0 : Int)).toNat = 0 from rfl] at hx356_3); (try rw [show 0 * 6 = 0 from rfl] at hx356_3); (try rw [Addr.add_zero'] at hx356_3); (try rw [show ((0 : Int)).toNat = 0 from rfl] at hx356_4); (try rw [show 0 * 6 = 0 from rfl] at hx356_4); (try rw [Addr.add_zero'] at hx356_4); (try rw [show ((0 : Int)).toNat = 0 from rfl] at hx356_5); (try rw [show 0 * 6 = 0 from rfl] at hx356_5); (try rw [Addr.add_zero'] at hx356_5); replace p356 := eq_true p356; replace q356 := eq_true q356))
                                go_ret
                                exact ⟨by first | rfl | (simp [errW_none, errW_some] <;> rfl) | (simp [*, errW_none, errW_some] <;> rfl), by repeat (first | (with_reducible first | exact HB.out | apply below_alloc | apply pw_below_drewN | apply below_drew1) | exact HB.out)⟩
                          · rw [if_neg c195] at H
                            have c195b0 : (false == false) = false := by first | (simp; done) | (have e_ := c195; simp at e_; done) | simpa using c195
                            (try (have c195b1 : decide (false = false) = false := by first | (simp; done) | (have e_ := c195; simp at e_; done) | simpa using c195))
                            (try (have c195b2 : (false == false) = false := by first | (simp; done) | (have e_ := c195; simp at e_; done) | simpa using c195))
                            (try (have c195b3 : ¬ (false = false) := by first | (simp; done) | (have e_ := c195; simp at e_; done) | simpa using c195))
                            clear c195
                            as_aux_lemma =>
                              exact absurd H (by simp)
                      · replace c179 := Bool.eq_false_iff.mpr c179
                        subst c179
                        have H1 : (none) = some r := by rw [if_neg (show ¬ (false = true) by decide)] at H; exact H
                        clear H
                        have H := H1
                        clear H1
                        as_aux_lemma =>
                          exact absurd H (by simp)
                  · rw [if_neg c97] at H
                    exact absurd H (by simp)
                · rw [if_neg c96] at H
                  have c96b0 : ((t351.length : Int) == 2) = false := beq_eq_false_iff_ne.mpr c96
                  have c96b1 : ((t351.length : Int) != 2) = true := bne_iff_ne.mpr c96
                  by_cases c208 : t314 = true
                  · subst c208
                    have H1 : (if t349 = true then (if t350 = true then (none) else (if (t349 == false) = true then (some (t350 == false)) else (none))) else (if (t349 == false) = true then (some (t350 == false)) else (none))) = some r := by rw [if_pos rfl] at H; exact H
                    clear H
                    have H := H1
                    clear H1
                    by_cases c209 : t349 = true
                    · subst c209
                      have H1 : (if t350 = true then (none) else (if (true == false) = true then (some (t350 == false)) else (none))) = some r := by rw [if_pos rfl] at H; exact H
                      clear H
                      have H := H1
                      clear H1
                      by_cases c210 : t350 = true
                      · subst c210
                        have H1 : (none) = some r := by rw [if_pos rfl] at H; exact H
                        clear H
                        have H := H1
                        clear H1
                        as_aux_lemma =>
                          exact absurd H (by simp)
                      · replace c210 := Bool.eq_false_iff.mpr c210
                        subst c210
                        have H1 : (if (true == false) = true then (some (false == false)) else (none)) = some r := by rw [if_neg (show ¬ (false = true) by decide)] at H; exact H
                        clear H
                        have H := H1
                        clear H1
                        by_cases c215 : (true == false) = true
                        · rw [if_pos c215] at H
                          have c215b0 : (true == false) = true := c215
                          (try (have c215b1 : decide (true = false) = true := by first | (simp; done) | (have e_ := c215; simp at e_; done) | simpa using c215))
                          (try (have c215b2 : (true == false) = true := by first | (simp; done) | (have e_ := c215; simp at e_; done) | simpa using c215))
                          clear c215
                          as_aux_lemma =>
                            first
                            | (simp at H; done)
                            | obtain rfl := Option.some.inj H
                              go_wp2_with (first | ((with_reducible refine gate_callee (f := 9) rfl ?_); refine goesL_ (some 148) rfl rfl Tryd.func9 (by kernel_rfl) rfl #[.string a2] rfl (by (try simp only [List.map_toArray, List.map_cons, List.map_nil]); first | done | rfl | (simp only [List.length_drop, List.length_take]; rfl)) ?_; (with_reducible refine (lex_IsWord.calls kj78 a2 true _ ?side1 A92.out).mono ?_); (case side1 => exact Inv.below HI_.out (by repeat (first | (with_reducible first | exact HB.out | apply below_alloc | apply pw_below_drewN | apply below_drew1) | exact HB.out))); rintro e w216 ⟨rfl, hb⟩; refine ⟨_, rfl, ?_⟩; have n0_ := Aside0.mk (below_step (by repeat (first | (with_reducible first | exact HB.out | apply below_alloc | apply pw_below_drewN | apply below_drew1) | exact HB.out)) hb); clear HB; have HB := n0_; clear n0_; (try clear hb); (try clear hb2); (try clear hk); (try clear hi)) | ((with_reducible refine gate_callee (f := 11) rfl ?_); refine goesL_ (some 150) rfl rfl Tryd.func11 (by kernel_rfl) rfl #[.string a2] rfl (by (try simp only [List.map_toArray, List.map_cons, List.map_nil]); first | done | rfl | (simp only [List.length_drop, List.length_take]; rfl)) ?_; (with_reducible refine (lex_IsName.calls kj78 a2 false _ ?side1 A93.out).mono ?_); (case side1 => exact Inv.below HI_.out (by repeat (first | (with_reducible first | exact HB.out | apply below_alloc | apply pw_below_drewN | apply below_drew1) | exact HB.out))); rintro e w217 ⟨rfl, hb⟩; refine ⟨_, rfl, ?_⟩; have n0_ := Aside0.mk (below_step (by repeat (first | (with_reducible first | exact HB.out | apply below_alloc | apply pw_below_drewN | apply below_drew1) | exact HB.out)) hb); clear HB; have HB := n0_; clear n0_; (try clear hb); (try clear hb2); (try clear hk); (try clear hi)) | ((with_reducible refine gate_callee (f := 14) rfl ?_); refine goesL_ (some 153) rfl rfl Tryd.func14 (by kernel_rfl) rfl #[.string a2] rfl (by (try simp only [List.map_toArray, List.map_cons, List.map_nil]); first | done | rfl | (simp only [List.length_drop, List.length_take]; rfl)) ?_; (with_reducible refine (lex_Scan.calls kj78 a2 t351 t352 t353 _ ?side1 A94.out).mono ?_); (case side1 => exact Inv.below HI_.out (by repeat (first | (with_reducible first | exact HB.out | apply below_alloc | apply pw_below_drewN | apply below_drew1) | exact HB.out))); rintro e w218 ⟨v354, rfl, ho0, hb⟩; refine ⟨_, rfl, ?_⟩; have n0_ := Aside0.mk (Kd.R_lower ho0 (below_size (by repeat (first | (with_reducible first | exact HB.out | apply below_alloc | apply pw_below_drewN | apply below_drew1) | exact HB.out)))); have n1_ := Aside0.mk (below_step (by repeat (first | (with_reducible first | exact HB.out | apply below_alloc | apply pw_below_drewN | apply below_drew1) | exact HB.out)) hb); clear HB; have HO355 := n0_; have HB := n1_; clear n0_ n1_; (try clear hb); (try clear hb2); (try clear hk); (try clear hi); (try clear ho0); obtain ⟨Ao219, co219, eo219⟩ := Kd.R_slice HO355.out; subst eo219))
                              go_ret
                              exact ⟨by first | rfl | (simp [errW_none, errW_some] <;> rfl) | (simp [*, errW_none, errW_some] <;> rfl), by repeat (first | (with_reducible first | exact HB.out | apply below_alloc | apply pw_below_drewN | apply below_drew1) | exact HB.out)⟩
                        · rw [if_neg c215] at H
                          have c215b0 : (true == false) = false := by first | (simp; done) | (have e_ := c215; simp at e_; done) | simpa using c215
                          (try (have c215b1 : decide (true = false) = false := by first | (simp; done) | (have e_ := c215; simp at e_; done) | simpa using c215))
                          (try (have c215b2 : (true == false) = false := by first | (simp; done) | (have e_ := c215; simp at e_; done) | simpa using c215))
                          (try (have c215b3 : ¬ (true = false) := by first | (simp; done) | (have e_ := c215; simp at e_; done) | simpa using c215))
                          clear c215
                          as_aux_lemma =>
                            exact absurd H (by simp)
                    · replace c209 := Bool.eq_false_iff.mpr c209
                      subst c209
                      have H1 : (if (false == false) = true then (some (t350 == false)) else (none)) = some r := by rw [if_neg (show ¬ (false = true) by decide)] at H; exact H
                      clear H
                      have H := H1
                      clear H1
                      by_cases c224 : (false == false) = true
                      · rw [if_pos c224] at H
                        have c224b0 : (false == false) = true := c224
                        (try (have c224b1 : decide (false = false) = true := by first | (simp; done) | (have e_ := c224; simp at e_; done) | simpa using c224))
                        (try (have c224b2 : (false == false) = true := by first | (simp; done) | (have e_ := c224; simp at e_; done) | simpa using c224))
                        clear c224
                        as_aux_lemma =>
                          first
                          | (simp at H; done)
                          | obtain rfl := Option.some.inj H
                            go_wp2_with (first | ((with_reducible refine gate_callee (f := 9) rfl ?_); refine goesL_ (some 148) rfl rfl Tryd.func9 (by kernel_rfl) rfl #[.string a2] rfl (by (try simp only [List.map_toArray, List.map_cons, List.map_nil]); first | done | rfl | (simp only [List.length_drop, List.length_take]; rfl)) ?_; (with_reducible refine (lex_IsWord.calls kj78 a2 false _ ?side1 A92.out).mono ?_); (case side1 => exact Inv.below HI_.out (by repeat (first | (with_reducible first | exact HB.out | apply below_alloc | apply pw_below_drewN | apply below_drew1) | exact HB.out))); rintro e w225 ⟨rfl, hb⟩; refine ⟨_, rfl, ?_⟩; have n0_ := Aside0.mk (below_step (by repeat (first | (with_reducible first | exact HB.out | apply below_alloc | apply pw_below_drewN | apply below_drew1) | exact HB.out)) hb); clear HB; have HB := n0_; clear n0_; (try clear hb); (try clear hb2); (try clear hk); (try clear hi)) | ((with_reducible refine gate_callee (f := 11) rfl ?_); refine goesL_ (some 150) rfl rfl Tryd.func11 (by kernel_rfl) rfl #[.string a2] rfl (by (try simp only [List.map_toArray, List.map_cons, List.map_nil]); first | done | rfl | (simp only [List.length_drop, List.length_take]; rfl)) ?_; (with_reducible refine (lex_IsName.calls kj78 a2 t350 _ ?side1 A93.out).mono ?_); (case side1 => exact Inv.below HI_.out (by repeat (first | (with_reducible first | exact HB.out | apply below_alloc | apply pw_below_drewN | apply below_drew1) | exact HB.out))); rintro e w226 ⟨rfl, hb⟩; refine ⟨_, rfl, ?_⟩; have n0_ := Aside0.mk (below_step (by repeat (first | (with_reducible first | exact HB.out | apply below_alloc | apply pw_below_drewN | apply below_drew1) | exact HB.out)) hb); clear HB; have HB := n0_; clear n0_; (try clear hb); (try clear hb2); (try clear hk); (try clear hi)) | ((with_reducible refine gate_callee (f := 14) rfl ?_); refine goesL_ (some 153) rfl rfl Tryd.func14 (by kernel_rfl) rfl #[.string a2] rfl (by (try simp only [List.map_toArray, List.map_cons, List.map_nil]); first | done | rfl | (simp only [List.length_drop, List.length_take]; rfl)) ?_; (with_reducible refine (lex_Scan.calls kj78 a2 t351 t352 t353 _ ?side1 A94.out).mono ?_); (case side1 => exact Inv.below HI_.out (by repeat (first | (with_reducible first | exact HB.out | apply below_alloc | apply pw_below_drewN | apply below_drew1) | exact HB.out))); rintro e w227 ⟨v354, rfl, ho0, hb⟩; refine ⟨_, rfl, ?_⟩; have n0_ := Aside0.mk (Kd.R_lower ho0 (below_size (by repeat (first | (with_reducible first | exact HB.out | apply below_alloc | apply pw_below_drewN | apply below_drew1) | exact HB.out)))); have n1_ := Aside0.mk (below_step (by repeat (first | (with_reducible first | exact HB.out | apply below_alloc | apply pw_below_drewN | apply below_drew1) | exact HB.out)) hb); clear HB; have HO355 := n0_; have HB := n1_; clear n0_ n1_; (try clear hb); (try clear hb2); (try clear hk); (try clear hi); (try clear ho0); obtain ⟨Ao228, co228, eo228⟩ := Kd.R_slice HO355.out; subst eo228))
                            go_ret
                            exact ⟨by first | rfl | (simp [errW_none, errW_some] <;> rfl) | (simp [*, errW_none, errW_some] <;> rfl), by repeat (first | (with_reducible first | exact HB.out | apply below_alloc | apply pw_below_drewN | apply below_drew1) | exact HB.out)⟩
                      · rw [if_neg c224] at H
                        have c224b0 : (false == false) = false := by first | (simp; done) | (have e_ := c224; simp at e_; done) | simpa using c224
                        (try (have c224b1 : decide (false = false) = false := by first | (simp; done) | (have e_ := c224; simp at e_; done) | simpa using c224))
                        (try (have c224b2 : (false == false) = false := by first | (simp; done) | (have e_ := c224; simp at e_; done) | simpa using c224))
                        (try (have c224b3 : ¬ (false = false) := by first | (simp; done) | (have e_ := c224; simp at e_; done) | simpa using c224))
                        clear c224
                        as_aux_lemma =>
                          exact absurd H (by simp)
                  · replace c208 := Bool.eq_false_iff.mpr c208
                    subst c208
                    have H1 : (none) = some r := by rw [if_neg (show ¬ (false = true) by decide)] at H; exact H
                    clear H
                    have H := H1
                    clear H1
                    as_aux_lemma =>
                      exact absurd H (by simp)
              · rw [if_neg c95] at H
                have c95b0 : (t352 == 0) = false := beq_eq_false_iff_ne.mpr c95
                have c95b1 : (t352 != 0) = true := bne_iff_ne.mpr c95
                by_cases c237 : t314 = true
                · subst c237
                  have H1 : (if t349 = true then (if t350 = true then (none) else (if (t349 == false) = true then (some (t350 == false)) else (none))) else (if (t349 == false) = true then (some (t350 == false)) else (none))) = some r := by rw [if_pos rfl] at H; exact H
                  clear H
                  have H := H1
                  clear H1
                  by_cases c238 : t349 = true
                  · subst c238
                    have H1 : (if t350 = true then (none) else (if (true == false) = true then (some (t350 == false)) else (none))) = some r := by rw [if_pos rfl] at H; exact H
                    clear H
                    have H := H1
                    clear H1
                    by_cases c239 : t350 = true
                    · subst c239
                      have H1 : (none) = some r := by rw [if_pos rfl] at H; exact H
                      clear H
                      have H := H1
                      clear H1
                      as_aux_lemma =>
                        exact absurd H (by simp)
                    · replace c239 := Bool.eq_false_iff.mpr c239
                      subst c239
                      have H1 : (if (true == false) = true then (some (false == false)) else (none)) = some r := by rw [if_neg (show ¬ (false = true) by decide)] at H; exact H
                      clear H
                      have H := H1
                      clear H1
                      by_cases c243 : (true == false) = true
                      · rw [if_pos c243] at H
                        have c243b0 : (true == false) = true := c243
                        (try (have c243b1 : decide (true = false) = true := by first | (simp; done) | (have e_ := c243; simp at e_; done) | simpa using c243))
                        (try (have c243b2 : (true == false) = true := by first | (simp; done) | (have e_ := c243; simp at e_; done) | simpa using c243))
                        clear c243
                        as_aux_lemma =>
                          first
                          | (simp at H; done)
                          | obtain rfl := Option.some.inj H
                            go_wp2_with (first | ((with_reducible refine gate_callee (f := 9) rfl ?_); refine goesL_ (some 148) rfl rfl Tryd.func9 (by kernel_rfl) rfl #[.string a2] rfl (by (try simp only [List.map_toArray, List.map_cons, List.map_nil]); first | done | rfl | (simp only [List.length_drop, List.length_take]; rfl)) ?_; (with_reducible refine (lex_IsWord.calls kj78 a2 true _ ?side1 A92.out).mono ?_); (case side1 => exact Inv.below HI_.out (by repeat (first | (with_reducible first | exact HB.out | apply below_alloc | apply pw_below_drewN | apply below_drew1) | exact HB.out))); rintro e w244 ⟨rfl, hb⟩; refine ⟨_, rfl, ?_⟩; have n0_ := Aside0.mk (below_step (by repeat (first | (with_reducible first | exact HB.out | apply below_alloc | apply pw_below_drewN | apply below_drew1) | exact HB.out)) hb); clear HB; have HB := n0_; clear n0_; (try clear hb); (try clear hb2); (try clear hk); (try clear hi)) | ((with_reducible refine gate_callee (f := 11) rfl ?_); refine goesL_ (some 150) rfl rfl Tryd.func11 (by kernel_rfl) rfl #[.string a2] rfl (by (try simp only [List.map_toArray, List.map_cons, List.map_nil]); first | done | rfl | (simp only [List.length_drop, List.length_take]; rfl)) ?_; (with_reducible refine (lex_IsName.calls kj78 a2 false _ ?side1 A93.out).mono ?_); (case side1 => exact Inv.below HI_.out (by repeat (first | (with_reducible first | exact HB.out | apply below_alloc | apply pw_below_drewN | apply below_drew1) | exact HB.out))); rintro e w245 ⟨rfl, hb⟩; refine ⟨_, rfl, ?_⟩; have n0_ := Aside0.mk (below_step (by repeat (first | (with_reducible first | exact HB.out | apply below_alloc | apply pw_below_drewN | apply below_drew1) | exact HB.out)) hb); clear HB; have HB := n0_; clear n0_; (try clear hb); (try clear hb2); (try clear hk); (try clear hi)) | ((with_reducible refine gate_callee (f := 14) rfl ?_); refine goesL_ (some 153) rfl rfl Tryd.func14 (by kernel_rfl) rfl #[.string a2] rfl (by (try simp only [List.map_toArray, List.map_cons, List.map_nil]); first | done | rfl | (simp only [List.length_drop, List.length_take]; rfl)) ?_; (with_reducible refine (lex_Scan.calls kj78 a2 t351 t352 t353 _ ?side1 A94.out).mono ?_); (case side1 => exact Inv.below HI_.out (by repeat (first | (with_reducible first | exact HB.out | apply below_alloc | apply pw_below_drewN | apply below_drew1) | exact HB.out))); rintro e w246 ⟨v354, rfl, ho0, hb⟩; refine ⟨_, rfl, ?_⟩; have n0_ := Aside0.mk (Kd.R_lower ho0 (below_size (by repeat (first | (with_reducible first | exact HB.out | apply below_alloc | apply pw_below_drewN | apply below_drew1) | exact HB.out)))); have n1_ := Aside0.mk (below_step (by repeat (first | (with_reducible first | exact HB.out | apply below_alloc | apply pw_below_drewN | apply below_drew1) | exact HB.out)) hb); clear HB; have HO355 := n0_; have HB := n1_; clear n0_ n1_; (try clear hb); (try clear hb2); (try clear hk); (try clear hi); (try clear ho0)))
                            go_ret
                            exact ⟨by first | rfl | (simp [errW_none, errW_some] <;> rfl) | (simp [*, errW_none, errW_some] <;> rfl), by repeat (first | (with_reducible first | exact HB.out | apply below_alloc | apply pw_below_drewN | apply below_drew1) | exact HB.out)⟩
                      · rw [if_neg c243] at H
                        have c243b0 : (true == false) = false := by first | (simp; done) | (have e_ := c243; simp at e_; done) | simpa using c243
                        (try (have c243b1 : decide (true = false) = false := by first | (simp; done) | (have e_ := c243; simp at e_; done) | simpa using c243))
                        (try (have c243b2 : (true == false) = false := by first | (simp; done) | (have e_ := c243; simp at e_; done) | simpa using c243))
                        (try (have c243b3 : ¬ (true = false) := by first | (simp; done) | (have e_ := c243; simp at e_; done) | simpa using c243))
                        clear c243
                        as_aux_lemma =>
                          exact absurd H (by simp)
                  · replace c238 := Bool.eq_false_iff.mpr c238
                    subst c238
                    have H1 : (if (false == false) = true then (some (t350 == false)) else (none)) = some r := by rw [if_neg (show ¬ (false = true) by decide)] at H; exact H
                    clear H
                    have H := H1
                    clear H1
                    by_cases c250 : (false == false) = true
                    · rw [if_pos c250] at H
                      have c250b0 : (false == false) = true := c250
                      (try (have c250b1 : decide (false = false) = true := by first | (simp; done) | (have e_ := c250; simp at e_; done) | simpa using c250))
                      (try (have c250b2 : (false == false) = true := by first | (simp; done) | (have e_ := c250; simp at e_; done) | simpa using c250))
                      clear c250
                      as_aux_lemma =>
                        first
                        | (simp at H; done)
                        | obtain rfl := Option.some.inj H
                          go_wp2_with (first | ((with_reducible refine gate_callee (f := 9) rfl ?_); refine goesL_ (some 148) rfl rfl Tryd.func9 (by kernel_rfl) rfl #[.string a2] rfl (by (try simp only [List.map_toArray, List.map_cons, List.map_nil]); first | done | rfl | (simp only [List.length_drop, List.length_take]; rfl)) ?_; (with_reducible refine (lex_IsWord.calls kj78 a2 false _ ?side1 A92.out).mono ?_); (case side1 => exact Inv.below HI_.out (by repeat (first | (with_reducible first | exact HB.out | apply below_alloc | apply pw_below_drewN | apply below_drew1) | exact HB.out))); rintro e w251 ⟨rfl, hb⟩; refine ⟨_, rfl, ?_⟩; have n0_ := Aside0.mk (below_step (by repeat (first | (with_reducible first | exact HB.out | apply below_alloc | apply pw_below_drewN | apply below_drew1) | exact HB.out)) hb); clear HB; have HB := n0_; clear n0_; (try clear hb); (try clear hb2); (try clear hk); (try clear hi)) | ((with_reducible refine gate_callee (f := 11) rfl ?_); refine goesL_ (some 150) rfl rfl Tryd.func11 (by kernel_rfl) rfl #[.string a2] rfl (by (try simp only [List.map_toArray, List.map_cons, List.map_nil]); first | done | rfl | (simp only [List.length_drop, List.length_take]; rfl)) ?_; (with_reducible refine (lex_IsName.calls kj78 a2 t350 _ ?side1 A93.out).mono ?_); (case side1 => exact Inv.below HI_.out (by repeat (first | (with_reducible first | exact HB.out | apply below_alloc | apply pw_below_drewN | apply below_drew1) | exact HB.out))); rintro e w252 ⟨rfl, hb⟩; refine ⟨_, rfl, ?_⟩; have n0_ := Aside0.mk (below_step (by repeat (first | (with_reducible first | exact HB.out | apply below_alloc | apply pw_below_drewN | apply below_drew1) | exact HB.out)) hb); clear HB; have HB := n0_; clear n0_; (try clear hb); (try clear hb2); (try clear hk); (try clear hi)) | ((with_reducible refine gate_callee (f := 14) rfl ?_); refine goesL_ (some 153) rfl rfl Tryd.func14 (by kernel_rfl) rfl #[.string a2] rfl (by (try simp only [List.map_toArray, List.map_cons, List.map_nil]); first | done | rfl | (simp only [List.length_drop, List.length_take]; rfl)) ?_; (with_reducible refine (lex_Scan.calls kj78 a2 t351 t352 t353 _ ?side1 A94.out).mono ?_); (case side1 => exact Inv.below HI_.out (by repeat (first | (with_reducible first | exact HB.out | apply below_alloc | apply pw_below_drewN | apply below_drew1) | exact HB.out))); rintro e w253 ⟨v354, rfl, ho0, hb⟩; refine ⟨_, rfl, ?_⟩; have n0_ := Aside0.mk (Kd.R_lower ho0 (below_size (by repeat (first | (with_reducible first | exact HB.out | apply below_alloc | apply pw_below_drewN | apply below_drew1) | exact HB.out)))); have n1_ := Aside0.mk (below_step (by repeat (first | (with_reducible first | exact HB.out | apply below_alloc | apply pw_below_drewN | apply below_drew1) | exact HB.out)) hb); clear HB; have HO355 := n0_; have HB := n1_; clear n0_ n1_; (try clear hb); (try clear hb2); (try clear hk); (try clear hi); (try clear ho0)))
                          go_ret
                          exact ⟨by first | rfl | (simp [errW_none, errW_some] <;> rfl) | (simp [*, errW_none, errW_some] <;> rfl), by repeat (first | (with_reducible first | exact HB.out | apply below_alloc | apply pw_below_drewN | apply below_drew1) | exact HB.out)⟩
                    · rw [if_neg c250] at H
                      have c250b0 : (false == false) = false := by first | (simp; done) | (have e_ := c250; simp at e_; done) | simpa using c250
                      (try (have c250b1 : decide (false = false) = false := by first | (simp; done) | (have e_ := c250; simp at e_; done) | simpa using c250))
                      (try (have c250b2 : (false == false) = false := by first | (simp; done) | (have e_ := c250; simp at e_; done) | simpa using c250))
                      (try (have c250b3 : ¬ (false = false) := by first | (simp; done) | (have e_ := c250; simp at e_; done) | simpa using c250))
                      clear c250
                      as_aux_lemma =>
                        exact absurd H (by simp)
                · replace c237 := Bool.eq_false_iff.mpr c237
                  subst c237
                  have H1 : (none) = some r := by rw [if_neg (show ¬ (false = true) by decide)] at H; exact H
                  clear H
                  have H := H1
                  clear H1
                  as_aux_lemma =>
                    exact absurd H (by simp)
end Go.Proofs.YthllfnmebdjpfaaDoor.H

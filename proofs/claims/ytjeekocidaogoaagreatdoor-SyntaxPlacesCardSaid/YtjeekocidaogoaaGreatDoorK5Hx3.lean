/- Contracts of Go functions as plain Lean functions, written by a program of this session (wip/hand) out of the translation. -/
import Derived.Test.YtjeekocidaogoaaGreatDoorK5Src
set_option linter.unusedVariables false
set_option linter.unusedSimpArgs false
set_option maxRecDepth 100000
set_option maxHeartbeats 8000000
namespace Go.Proofs.YtjeekocidaogoaaGreatDoor.H
open Go.RowKit Go.Proofs.YtjeekocidaogoaaGreatDoor.Hand Go.Proofs.YtjeekocidaogoaaGreatDoorW.PrintWords Go.Proofs.YtjeekocidaogoaaGreatDoorW.PrintLast Go.Proofs.YtjeekocidaogoaaGreatDoorW.PrintMore
section
attribute [local go_sem] zdq zdo zeg zef zcw zcv zdp zdn
def lychgatelaw09_add.f (a0 : Int) (a1 : Int) : Option (Int) := if a1 > (wrap64 (2147483647 - a0)) then (some 2147483648) else (some (wrap64 (a0 + a1)))
theorem lychgatelaw09_add.calls (a0 : Int) (a1 : Int) (r : Int) (w : World) (h : lychgatelaw09_add.f a0 a1 = some r) :
  Calls Tryz.prog 9 #[.int .i64 a0, .int .i64 a1] w fun e w' => e = .returned (.int .i64 r) ∧ Drawn0 w w' := by
 have H : (if a1 > (wrap64 (2147483647 - a0)) then (some 2147483648) else (some (wrap64 (a0 + a1)))) = some r := h
 clear h
 by_cases c3 : a1 > (wrap64 (2147483647 - a0))
 ·rw [if_pos c3] at H
  have c3b0 : decide ((wrap64 (2147483647 - a0)) < a1) = true := decide_eq_true c3
  clear c3
  obtain rfl := Option.some.inj H
  go_enter Tryz.func9, Tryz.ntmps9
  go_wp2
  go_ret
  exact ⟨by first | rfl | (simp; done) | (simp [*]; done), by repeat (first | exact Drawn0.refl _ | apply Drawn0.step)⟩
 ·rw [if_neg c3] at H
  have c3b0 : decide ((wrap64 (2147483647 - a0)) < a1) = false := decide_eq_false c3
  clear c3
  obtain rfl := Option.some.inj H
  go_enter Tryz.func9, Tryz.ntmps9
  go_wp2
  go_ret
  exact ⟨by first | rfl | (simp; done) | (simp [*]; done), by repeat (first | exact Drawn0.refl _ | apply Drawn0.step)⟩
def lychgatelaw09_thrice.f (a0 : Int) : Option (Int) := (lychgatelaw09_add.f a0 a0).bind fun t101 => ((lychgatelaw09_add.f a0 t101).bind fun t102 => (some t102))
theorem lychgatelaw09_thrice.calls (a0 : Int) (r : Int) (w : World) (h : lychgatelaw09_thrice.f a0 = some r) :
  Calls Tryz.prog 8 #[.int .i64 a0] w fun e w' => e = .returned (.int .i64 r) ∧ Drawn0 w w' := by
 have H : ((lychgatelaw09_add.f a0 a0).bind fun t101 => ((lychgatelaw09_add.f a0 t101).bind fun t102 => (some t102))) = some r := h
 clear h
 replace H := Option.bind_eq_some_iff.mp H
 obtain ⟨t101, A20, H⟩ := H
 replace H : ((lychgatelaw09_add.f a0 t101).bind fun t102 => (some t102)) = some r := H
 have A2 := Zq.mk A20
 clear A20
 replace H := Option.bind_eq_some_iff.mp H
 obtain ⟨t102, A30, H⟩ := H
 replace H : (some t102) = some r := H
 have A3 := Zq.mk A30
 clear A30
 obtain rfl := Option.some.inj H
 go_enter Tryz.func8, Tryz.ntmps8
 go_wp2_with (first | ((with_reducible refine zap (f := 9) rfl ?_); refine zaw (some 6) rfl rfl Tryz.func9 (by kernel_rfl) rfl #[.int .i64 a0, .int .i64 a0] rfl (by (try simp only [List.map_toArray, List.map_cons, List.map_nil]); first | done | rfl | (simp only [List.length_drop, List.length_take]; rfl)) ?_; (with_reducible refine (lychgatelaw09_add.calls a0 a0 t101 _ A2.out).mono ?_); rintro e w' ⟨rfl, ⟨nd, rfl⟩⟩; refine ⟨_, rfl, ?_⟩) | ((with_reducible refine zap (f := 9) rfl ?_); refine zaw (some 7) rfl rfl Tryz.func9 (by kernel_rfl) rfl #[.int .i64 a0, .int .i64 t101] rfl (by (try simp only [List.map_toArray, List.map_cons, List.map_nil]); first | done | rfl | (simp only [List.length_drop, List.length_take]; rfl)) ?_; (with_reducible refine (lychgatelaw09_add.calls a0 t101 t102 _ A3.out).mono ?_); rintro e w' ⟨rfl, ⟨nd, rfl⟩⟩; refine ⟨_, rfl, ?_⟩))
 go_ret
 exact ⟨by first | rfl | (simp; done) | (simp [*]; done), by repeat (first | exact Drawn0.refl _ | apply Drawn0.step)⟩
def lex_isSmall.f (a0 : Int) : Option (Bool) := if a0 ≥ 97 then (some (decide (a0 ≤ 122))) else (some false)
theorem lex_isSmall.calls (a0 : Int) (r : Bool) (w : World) (h : lex_isSmall.f a0 = some r) :
  Calls Tryz.prog 93 #[.int .i32 a0] w fun e w' => e = .returned (.bool r) ∧ Drawn0 w w' := by
 have H : (if a0 ≥ 97 then (some (decide (a0 ≤ 122))) else (some false)) = some r := h
 clear h
 by_cases c2 : a0 ≥ 97
 ·rw [if_pos c2] at H
  have c2b0 : decide (97 ≤ a0) = true := decide_eq_true c2
  clear c2
  obtain rfl := Option.some.inj H
  go_enter Tryz.func93, Tryz.ntmps93
  go_wp2
  go_ret
  exact ⟨by first | rfl | (simp; done) | (simp [*]; done), by repeat (first | exact Drawn0.refl _ | apply Drawn0.step)⟩
 ·rw [if_neg c2] at H
  have c2b0 : decide (97 ≤ a0) = false := decide_eq_false c2
  clear c2
  obtain rfl := Option.some.inj H
  go_enter Tryz.func93, Tryz.ntmps93
  go_wp2
  go_ret
  exact ⟨by first | rfl | (simp; done) | (simp [*]; done), by repeat (first | exact Drawn0.refl _ | apply Drawn0.step)⟩
def lex_isGreat.f (a0 : Int) : Option (Bool) := if a0 ≥ 65 then (some (decide (a0 ≤ 90))) else (some false)
theorem lex_isGreat.calls (a0 : Int) (r : Bool) (w : World) (h : lex_isGreat.f a0 = some r) :
  Calls Tryz.prog 94 #[.int .i32 a0] w fun e w' => e = .returned (.bool r) ∧ Drawn0 w w' := by
 have H : (if a0 ≥ 65 then (some (decide (a0 ≤ 90))) else (some false)) = some r := h
 clear h
 by_cases c2 : a0 ≥ 65
 ·rw [if_pos c2] at H
  have c2b0 : decide (65 ≤ a0) = true := decide_eq_true c2
  clear c2
  obtain rfl := Option.some.inj H
  go_enter Tryz.func94, Tryz.ntmps94
  go_wp2
  go_ret
  exact ⟨by first | rfl | (simp; done) | (simp [*]; done), by repeat (first | exact Drawn0.refl _ | apply Drawn0.step)⟩
 ·rw [if_neg c2] at H
  have c2b0 : decide (65 ≤ a0) = false := decide_eq_false c2
  clear c2
  obtain rfl := Option.some.inj H
  go_enter Tryz.func94, Tryz.ntmps94
  go_wp2
  go_ret
  exact ⟨by first | rfl | (simp; done) | (simp [*]; done), by repeat (first | exact Drawn0.refl _ | apply Drawn0.step)⟩
def lex_isDigit.f (a0 : Int) : Option (Bool) := if a0 ≥ 48 then (some (decide (a0 ≤ 57))) else (some false)
theorem lex_isDigit.calls (a0 : Int) (r : Bool) (w : World) (h : lex_isDigit.f a0 = some r) :
  Calls Tryz.prog 95 #[.int .i32 a0] w fun e w' => e = .returned (.bool r) ∧ Drawn0 w w' := by
 have H : (if a0 ≥ 48 then (some (decide (a0 ≤ 57))) else (some false)) = some r := h
 clear h
 by_cases c2 : a0 ≥ 48
 ·rw [if_pos c2] at H
  have c2b0 : decide (48 ≤ a0) = true := decide_eq_true c2
  clear c2
  obtain rfl := Option.some.inj H
  go_enter Tryz.func95, Tryz.ntmps95
  go_wp2
  go_ret
  exact ⟨by first | rfl | (simp; done) | (simp [*]; done), by repeat (first | exact Drawn0.refl _ | apply Drawn0.step)⟩
 ·rw [if_neg c2] at H
  have c2b0 : decide (48 ≤ a0) = false := decide_eq_false c2
  clear c2
  obtain rfl := Option.some.inj H
  go_enter Tryz.func95, Tryz.ntmps95
  go_wp2
  go_ret
  exact ⟨by first | rfl | (simp; done) | (simp [*]; done), by repeat (first | exact Drawn0.refl _ | apply Drawn0.step)⟩
def lex_begins.f (a0 : Int) : Option (Int) := (strings_ContainsRune.f (⟨#[32, 9, 10, 13]⟩ : ByteArray) a0).bind fun t103 => (if t103 = true then (some 1) else (if a0 = 35 then (some 2) else ((lex_isSmall.f a0).bind fun t104 => (if t104 = true then (some 3) else ((lex_isGreat.f a0).bind fun t105 => (if t105 = true then (some 4) else ((lex_isDigit.f a0).bind fun t106 => (if t106 = true then (some 5) else (if a0 = 34 then (some 6) else ((strings_ContainsRune.f (⟨#[123, 125, 40, 41, 44, 59, 61, 126, 45]⟩ : ByteArray) a0).bind fun t107 => (if t107 = true then (some 7) else (some 0))))))))))))
theorem lex_begins.calls (a0 : Int) (r : Int) (w : World) (h : lex_begins.f a0 = some r) :
  Calls Tryz.prog 60 #[.int .i32 a0] w fun e w' => e = .returned (.int .i64 r) ∧ Below w.heap.size w w' := by
 have HB := Zq.mk (Below.refl w.heap.size w)
 have H : ((strings_ContainsRune.f (⟨#[32, 9, 10, 13]⟩ : ByteArray) a0).bind fun t103 => (if t103 = true then (some 1) else (if a0 = 35 then (some 2) else ((lex_isSmall.f a0).bind fun t104 => (if t104 = true then (some 3) else ((lex_isGreat.f a0).bind fun t105 => (if t105 = true then (some 4) else ((lex_isDigit.f a0).bind fun t106 => (if t106 = true then (some 5) else (if a0 = 34 then (some 6) else ((strings_ContainsRune.f (⟨#[123, 125, 40, 41, 44, 59, 61, 126, 45]⟩ : ByteArray) a0).bind fun t107 => (if t107 = true then (some 7) else (some 0))))))))))))) = some r := h
 clear h
 replace H := Option.bind_eq_some_iff.mp H
 obtain ⟨t103, A20, H⟩ := H
 replace H : (if t103 = true then (some 1) else (if a0 = 35 then (some 2) else ((lex_isSmall.f a0).bind fun t104 => (if t104 = true then (some 3) else ((lex_isGreat.f a0).bind fun t105 => (if t105 = true then (some 4) else ((lex_isDigit.f a0).bind fun t106 => (if t106 = true then (some 5) else (if a0 = 34 then (some 6) else ((strings_ContainsRune.f (⟨#[123, 125, 40, 41, 44, 59, 61, 126, 45]⟩ : ByteArray) a0).bind fun t107 => (if t107 = true then (some 7) else (some 0)))))))))))) = some r := H
 have A2 := Zq.mk A20
 clear A20
 by_cases c3 : t103 = true
 ·subst c3
  rw [if_pos rfl] at H
  obtain rfl := Option.some.inj H
  go_enter Tryz.func60, Tryz.ntmps60
  go_wp2_with (first | ((with_reducible refine zap (f := 92) rfl ?_); refine zaw (some 5) rfl rfl Tryz.func92 (by kernel_rfl) rfl #[.string (⟨#[32, 9, 10, 13]⟩ : ByteArray), .int .i32 a0] rfl (by (try simp only [List.map_toArray, List.map_cons, List.map_nil]); first | done | rfl | (simp only [List.length_drop, List.length_take]; rfl)) ?_; (with_reducible refine (strings_ContainsRune.calls (⟨#[32, 9, 10, 13]⟩ : ByteArray) a0 true _ A2.out).mono ?_); rintro e w4 ⟨rfl, hb⟩; refine ⟨_, rfl, ?_⟩; have n0_ := Zq.mk (zaj (by repeat (first | (with_reducible first | exact HB.out | apply zab | apply zaa | apply zac) | exact HB.out)) hb); clear HB; have HB := n0_; clear n0_; (try clear hb); (try clear hb2); (try clear hk); (try clear hi)))
  go_ret
  exact ⟨by first | rfl | (simp [zan, zam] <;> rfl) | (simp [*, zan, zam] <;> rfl), by repeat (first | (with_reducible first | exact HB.out | apply zab | apply zaa | apply zac) | exact HB.out)⟩
 ·replace c3 := Bool.eq_false_iff.mpr c3
  subst c3
  rw [if_neg (show ¬ (false = true) by decide)] at H
  by_cases c5 : a0 = 35
  ·rw [if_pos c5] at H
   have c5b0 : (a0 == 35) = true := beq_iff_eq.mpr c5
   have c5b1 : (a0 != 35) = false := bne_eq_false_iff_eq.mpr c5
   clear c5
   obtain rfl := Option.some.inj H
   go_enter Tryz.func60, Tryz.ntmps60
   go_wp2_with (first | ((with_reducible refine zap (f := 92) rfl ?_); refine zaw (some 5) rfl rfl Tryz.func92 (by kernel_rfl) rfl #[.string (⟨#[32, 9, 10, 13]⟩ : ByteArray), .int .i32 a0] rfl (by (try simp only [List.map_toArray, List.map_cons, List.map_nil]); first | done | rfl | (simp only [List.length_drop, List.length_take]; rfl)) ?_; (with_reducible refine (strings_ContainsRune.calls (⟨#[32, 9, 10, 13]⟩ : ByteArray) a0 false _ A2.out).mono ?_); rintro e w6 ⟨rfl, hb⟩; refine ⟨_, rfl, ?_⟩; have n0_ := Zq.mk (zaj (by repeat (first | (with_reducible first | exact HB.out | apply zab | apply zaa | apply zac) | exact HB.out)) hb); clear HB; have HB := n0_; clear n0_; (try clear hb); (try clear hb2); (try clear hk); (try clear hi)))
   go_ret
   exact ⟨by first | rfl | (simp [zan, zam] <;> rfl) | (simp [*, zan, zam] <;> rfl), by repeat (first | (with_reducible first | exact HB.out | apply zab | apply zaa | apply zac) | exact HB.out)⟩
  ·rw [if_neg c5] at H
   have c5b0 : (a0 == 35) = false := beq_eq_false_iff_ne.mpr c5
   have c5b1 : (a0 != 35) = true := bne_iff_ne.mpr c5
   replace H := Option.bind_eq_some_iff.mp H
   obtain ⟨t104, A70, H⟩ := H
   replace H : (if t104 = true then (some 3) else ((lex_isGreat.f a0).bind fun t105 => (if t105 = true then (some 4) else ((lex_isDigit.f a0).bind fun t106 => (if t106 = true then (some 5) else (if a0 = 34 then (some 6) else ((strings_ContainsRune.f (⟨#[123, 125, 40, 41, 44, 59, 61, 126, 45]⟩ : ByteArray) a0).bind fun t107 => (if t107 = true then (some 7) else (some 0))))))))) = some r := H
   have A7 := Zq.mk A70
   clear A70
   by_cases c8 : t104 = true
   ·subst c8
    rw [if_pos rfl] at H
    obtain rfl := Option.some.inj H
    go_enter Tryz.func60, Tryz.ntmps60
    go_wp2_with (first | ((with_reducible refine zap (f := 92) rfl ?_); refine zaw (some 5) rfl rfl Tryz.func92 (by kernel_rfl) rfl #[.string (⟨#[32, 9, 10, 13]⟩ : ByteArray), .int .i32 a0] rfl (by (try simp only [List.map_toArray, List.map_cons, List.map_nil]); first | done | rfl | (simp only [List.length_drop, List.length_take]; rfl)) ?_; (with_reducible refine (strings_ContainsRune.calls (⟨#[32, 9, 10, 13]⟩ : ByteArray) a0 false _ A2.out).mono ?_); rintro e w9 ⟨rfl, hb⟩; refine ⟨_, rfl, ?_⟩; have n0_ := Zq.mk (zaj (by repeat (first | (with_reducible first | exact HB.out | apply zab | apply zaa | apply zac) | exact HB.out)) hb); clear HB; have HB := n0_; clear n0_; (try clear hb); (try clear hb2); (try clear hk); (try clear hi)) | ((with_reducible refine zap (f := 93) rfl ?_); refine zaw (some 11) rfl rfl Tryz.func93 (by kernel_rfl) rfl #[.int .i32 a0] rfl (by (try simp only [List.map_toArray, List.map_cons, List.map_nil]); first | done | rfl | (simp only [List.length_drop, List.length_take]; rfl)) ?_; (with_reducible refine (lex_isSmall.calls a0 true _ A7.out).mono ?_); rintro e w' ⟨rfl, ⟨nd, rfl⟩⟩; refine ⟨_, rfl, ?_⟩))
    go_ret
    exact ⟨by first | rfl | (simp [zan, zam] <;> rfl) | (simp [*, zan, zam] <;> rfl), by repeat (first | (with_reducible first | exact HB.out | apply zab | apply zaa | apply zac) | exact HB.out)⟩
   ·replace c8 := Bool.eq_false_iff.mpr c8
    subst c8
    rw [if_neg (show ¬ (false = true) by decide)] at H
    replace H := Option.bind_eq_some_iff.mp H
    obtain ⟨t105, A100, H⟩ := H
    replace H : (if t105 = true then (some 4) else ((lex_isDigit.f a0).bind fun t106 => (if t106 = true then (some 5) else (if a0 = 34 then (some 6) else ((strings_ContainsRune.f (⟨#[123, 125, 40, 41, 44, 59, 61, 126, 45]⟩ : ByteArray) a0).bind fun t107 => (if t107 = true then (some 7) else (some 0))))))) = some r := H
    have A10 := Zq.mk A100
    clear A100
    by_cases c11 : t105 = true
    ·subst c11
     rw [if_pos rfl] at H
     obtain rfl := Option.some.inj H
     go_enter Tryz.func60, Tryz.ntmps60
     go_wp2_with (first | ((with_reducible refine zap (f := 92) rfl ?_); refine zaw (some 5) rfl rfl Tryz.func92 (by kernel_rfl) rfl #[.string (⟨#[32, 9, 10, 13]⟩ : ByteArray), .int .i32 a0] rfl (by (try simp only [List.map_toArray, List.map_cons, List.map_nil]); first | done | rfl | (simp only [List.length_drop, List.length_take]; rfl)) ?_; (with_reducible refine (strings_ContainsRune.calls (⟨#[32, 9, 10, 13]⟩ : ByteArray) a0 false _ A2.out).mono ?_); rintro e w12 ⟨rfl, hb⟩; refine ⟨_, rfl, ?_⟩; have n0_ := Zq.mk (zaj (by repeat (first | (with_reducible first | exact HB.out | apply zab | apply zaa | apply zac) | exact HB.out)) hb); clear HB; have HB := n0_; clear n0_; (try clear hb); (try clear hb2); (try clear hk); (try clear hi)) | ((with_reducible refine zap (f := 93) rfl ?_); refine zaw (some 11) rfl rfl Tryz.func93 (by kernel_rfl) rfl #[.int .i32 a0] rfl (by (try simp only [List.map_toArray, List.map_cons, List.map_nil]); first | done | rfl | (simp only [List.length_drop, List.length_take]; rfl)) ?_; (with_reducible refine (lex_isSmall.calls a0 false _ A7.out).mono ?_); rintro e w' ⟨rfl, ⟨nd, rfl⟩⟩; refine ⟨_, rfl, ?_⟩) | ((with_reducible refine zap (f := 94) rfl ?_); refine zaw (some 14) rfl rfl Tryz.func94 (by kernel_rfl) rfl #[.int .i32 a0] rfl (by (try simp only [List.map_toArray, List.map_cons, List.map_nil]); first | done | rfl | (simp only [List.length_drop, List.length_take]; rfl)) ?_; (with_reducible refine (lex_isGreat.calls a0 true _ A10.out).mono ?_); rintro e w' ⟨rfl, ⟨nd, rfl⟩⟩; refine ⟨_, rfl, ?_⟩))
     go_ret
     exact ⟨by first | rfl | (simp [zan, zam] <;> rfl) | (simp [*, zan, zam] <;> rfl), by repeat (first | (with_reducible first | exact HB.out | apply zab | apply zaa | apply zac) | exact HB.out)⟩
    ·replace c11 := Bool.eq_false_iff.mpr c11
     subst c11
     rw [if_neg (show ¬ (false = true) by decide)] at H
     replace H := Option.bind_eq_some_iff.mp H
     obtain ⟨t106, A130, H⟩ := H
     replace H : (if t106 = true then (some 5) else (if a0 = 34 then (some 6) else ((strings_ContainsRune.f (⟨#[123, 125, 40, 41, 44, 59, 61, 126, 45]⟩ : ByteArray) a0).bind fun t107 => (if t107 = true then (some 7) else (some 0))))) = some r := H
     have A13 := Zq.mk A130
     clear A130
     by_cases c14 : t106 = true
     ·subst c14
      rw [if_pos rfl] at H
      obtain rfl := Option.some.inj H
      go_enter Tryz.func60, Tryz.ntmps60
      go_wp2_with (first | ((with_reducible refine zap (f := 92) rfl ?_); refine zaw (some 5) rfl rfl Tryz.func92 (by kernel_rfl) rfl #[.string (⟨#[32, 9, 10, 13]⟩ : ByteArray), .int .i32 a0] rfl (by (try simp only [List.map_toArray, List.map_cons, List.map_nil]); first | done | rfl | (simp only [List.length_drop, List.length_take]; rfl)) ?_; (with_reducible refine (strings_ContainsRune.calls (⟨#[32, 9, 10, 13]⟩ : ByteArray) a0 false _ A2.out).mono ?_); rintro e w15 ⟨rfl, hb⟩; refine ⟨_, rfl, ?_⟩; have n0_ := Zq.mk (zaj (by repeat (first | (with_reducible first | exact HB.out | apply zab | apply zaa | apply zac) | exact HB.out)) hb); clear HB; have HB := n0_; clear n0_; (try clear hb); (try clear hb2); (try clear hk); (try clear hi)) | ((with_reducible refine zap (f := 93) rfl ?_); refine zaw (some 11) rfl rfl Tryz.func93 (by kernel_rfl) rfl #[.int .i32 a0] rfl (by (try simp only [List.map_toArray, List.map_cons, List.map_nil]); first | done | rfl | (simp only [List.length_drop, List.length_take]; rfl)) ?_; (with_reducible refine (lex_isSmall.calls a0 false _ A7.out).mono ?_); rintro e w' ⟨rfl, ⟨nd, rfl⟩⟩; refine ⟨_, rfl, ?_⟩) | ((with_reducible refine zap (f := 94) rfl ?_); refine zaw (some 14) rfl rfl Tryz.func94 (by kernel_rfl) rfl #[.int .i32 a0] rfl (by (try simp only [List.map_toArray, List.map_cons, List.map_nil]); first | done | rfl | (simp only [List.length_drop, List.length_take]; rfl)) ?_; (with_reducible refine (lex_isGreat.calls a0 false _ A10.out).mono ?_); rintro e w' ⟨rfl, ⟨nd, rfl⟩⟩; refine ⟨_, rfl, ?_⟩) | ((with_reducible refine zap (f := 95) rfl ?_); refine zaw (some 17) rfl rfl Tryz.func95 (by kernel_rfl) rfl #[.int .i32 a0] rfl (by (try simp only [List.map_toArray, List.map_cons, List.map_nil]); first | done | rfl | (simp only [List.length_drop, List.length_take]; rfl)) ?_; (with_reducible refine (lex_isDigit.calls a0 true _ A13.out).mono ?_); rintro e w' ⟨rfl, ⟨nd, rfl⟩⟩; refine ⟨_, rfl, ?_⟩))
      go_ret
      exact ⟨by first | rfl | (simp [zan, zam] <;> rfl) | (simp [*, zan, zam] <;> rfl), by repeat (first | (with_reducible first | exact HB.out | apply zab | apply zaa | apply zac) | exact HB.out)⟩
     ·replace c14 := Bool.eq_false_iff.mpr c14
      subst c14
      rw [if_neg (show ¬ (false = true) by decide)] at H
      by_cases c16 : a0 = 34
      ·rw [if_pos c16] at H
       have c16b0 : (a0 == 34) = true := beq_iff_eq.mpr c16
       have c16b1 : (a0 != 34) = false := bne_eq_false_iff_eq.mpr c16
       clear c16
       obtain rfl := Option.some.inj H
       go_enter Tryz.func60, Tryz.ntmps60
       go_wp2_with (first | ((with_reducible refine zap (f := 92) rfl ?_); refine zaw (some 5) rfl rfl Tryz.func92 (by kernel_rfl) rfl #[.string (⟨#[32, 9, 10, 13]⟩ : ByteArray), .int .i32 a0] rfl (by (try simp only [List.map_toArray, List.map_cons, List.map_nil]); first | done | rfl | (simp only [List.length_drop, List.length_take]; rfl)) ?_; (with_reducible refine (strings_ContainsRune.calls (⟨#[32, 9, 10, 13]⟩ : ByteArray) a0 false _ A2.out).mono ?_); rintro e w17 ⟨rfl, hb⟩; refine ⟨_, rfl, ?_⟩; have n0_ := Zq.mk (zaj (by repeat (first | (with_reducible first | exact HB.out | apply zab | apply zaa | apply zac) | exact HB.out)) hb); clear HB; have HB := n0_; clear n0_; (try clear hb); (try clear hb2); (try clear hk); (try clear hi)) | ((with_reducible refine zap (f := 93) rfl ?_); refine zaw (some 11) rfl rfl Tryz.func93 (by kernel_rfl) rfl #[.int .i32 a0] rfl (by (try simp only [List.map_toArray, List.map_cons, List.map_nil]); first | done | rfl | (simp only [List.length_drop, List.length_take]; rfl)) ?_; (with_reducible refine (lex_isSmall.calls a0 false _ A7.out).mono ?_); rintro e w' ⟨rfl, ⟨nd, rfl⟩⟩; refine ⟨_, rfl, ?_⟩) | ((with_reducible refine zap (f := 94) rfl ?_); refine zaw (some 14) rfl rfl Tryz.func94 (by kernel_rfl) rfl #[.int .i32 a0] rfl (by (try simp only [List.map_toArray, List.map_cons, List.map_nil]); first | done | rfl | (simp only [List.length_drop, List.length_take]; rfl)) ?_; (with_reducible refine (lex_isGreat.calls a0 false _ A10.out).mono ?_); rintro e w' ⟨rfl, ⟨nd, rfl⟩⟩; refine ⟨_, rfl, ?_⟩) | ((with_reducible refine zap (f := 95) rfl ?_); refine zaw (some 17) rfl rfl Tryz.func95 (by kernel_rfl) rfl #[.int .i32 a0] rfl (by (try simp only [List.map_toArray, List.map_cons, List.map_nil]); first | done | rfl | (simp only [List.length_drop, List.length_take]; rfl)) ?_; (with_reducible refine (lex_isDigit.calls a0 false _ A13.out).mono ?_); rintro e w' ⟨rfl, ⟨nd, rfl⟩⟩; refine ⟨_, rfl, ?_⟩))
       go_ret
       exact ⟨by first | rfl | (simp [zan, zam] <;> rfl) | (simp [*, zan, zam] <;> rfl), by repeat (first | (with_reducible first | exact HB.out | apply zab | apply zaa | apply zac) | exact HB.out)⟩
      ·rw [if_neg c16] at H
       have c16b0 : (a0 == 34) = false := beq_eq_false_iff_ne.mpr c16
       have c16b1 : (a0 != 34) = true := bne_iff_ne.mpr c16
       replace H := Option.bind_eq_some_iff.mp H
       obtain ⟨t107, A180, H⟩ := H
       replace H : (if t107 = true then (some 7) else (some 0)) = some r := H
       have A18 := Zq.mk A180
       clear A180
       by_cases c19 : t107 = true
       ·subst c19
        rw [if_pos rfl] at H
        obtain rfl := Option.some.inj H
        go_enter Tryz.func60, Tryz.ntmps60
        go_wp2_with (first | ((with_reducible refine zap (f := 92) rfl ?_); refine zaw (some 5) rfl rfl Tryz.func92 (by kernel_rfl) rfl #[.string (⟨#[32, 9, 10, 13]⟩ : ByteArray), .int .i32 a0] rfl (by (try simp only [List.map_toArray, List.map_cons, List.map_nil]); first | done | rfl | (simp only [List.length_drop, List.length_take]; rfl)) ?_; (with_reducible refine (strings_ContainsRune.calls (⟨#[32, 9, 10, 13]⟩ : ByteArray) a0 false _ A2.out).mono ?_); rintro e w20 ⟨rfl, hb⟩; refine ⟨_, rfl, ?_⟩; have n0_ := Zq.mk (zaj (by repeat (first | (with_reducible first | exact HB.out | apply zab | apply zaa | apply zac) | exact HB.out)) hb); clear HB; have HB := n0_; clear n0_; (try clear hb); (try clear hb2); (try clear hk); (try clear hi)) | ((with_reducible refine zap (f := 93) rfl ?_); refine zaw (some 11) rfl rfl Tryz.func93 (by kernel_rfl) rfl #[.int .i32 a0] rfl (by (try simp only [List.map_toArray, List.map_cons, List.map_nil]); first | done | rfl | (simp only [List.length_drop, List.length_take]; rfl)) ?_; (with_reducible refine (lex_isSmall.calls a0 false _ A7.out).mono ?_); rintro e w' ⟨rfl, ⟨nd, rfl⟩⟩; refine ⟨_, rfl, ?_⟩) | ((with_reducible refine zap (f := 94) rfl ?_); refine zaw (some 14) rfl rfl Tryz.func94 (by kernel_rfl) rfl #[.int .i32 a0] rfl (by (try simp only [List.map_toArray, List.map_cons, List.map_nil]); first | done | rfl | (simp only [List.length_drop, List.length_take]; rfl)) ?_; (with_reducible refine (lex_isGreat.calls a0 false _ A10.out).mono ?_); rintro e w' ⟨rfl, ⟨nd, rfl⟩⟩; refine ⟨_, rfl, ?_⟩) | ((with_reducible refine zap (f := 95) rfl ?_); refine zaw (some 17) rfl rfl Tryz.func95 (by kernel_rfl) rfl #[.int .i32 a0] rfl (by (try simp only [List.map_toArray, List.map_cons, List.map_nil]); first | done | rfl | (simp only [List.length_drop, List.length_take]; rfl)) ?_; (with_reducible refine (lex_isDigit.calls a0 false _ A13.out).mono ?_); rintro e w' ⟨rfl, ⟨nd, rfl⟩⟩; refine ⟨_, rfl, ?_⟩) | ((with_reducible refine zap (f := 92) rfl ?_); refine zaw (some 23) rfl rfl Tryz.func92 (by kernel_rfl) rfl #[.string (⟨#[123, 125, 40, 41, 44, 59, 61, 126, 45]⟩ : ByteArray), .int .i32 a0] rfl (by (try simp only [List.map_toArray, List.map_cons, List.map_nil]); first | done | rfl | (simp only [List.length_drop, List.length_take]; rfl)) ?_; (with_reducible refine (strings_ContainsRune.calls (⟨#[123, 125, 40, 41, 44, 59, 61, 126, 45]⟩ : ByteArray) a0 true _ A18.out).mono ?_); rintro e w21 ⟨rfl, hb⟩; refine ⟨_, rfl, ?_⟩; have n0_ := Zq.mk (zaj (by repeat (first | (with_reducible first | exact HB.out | apply zab | apply zaa | apply zac) | exact HB.out)) hb); clear HB; have HB := n0_; clear n0_; (try clear hb); (try clear hb2); (try clear hk); (try clear hi)))
        go_ret
        exact ⟨by first | rfl | (simp [zan, zam] <;> rfl) | (simp [*, zan, zam] <;> rfl), by repeat (first | (with_reducible first | exact HB.out | apply zab | apply zaa | apply zac) | exact HB.out)⟩
       ·replace c19 := Bool.eq_false_iff.mpr c19
        subst c19
        rw [if_neg (show ¬ (false = true) by decide)] at H
        obtain rfl := Option.some.inj H
        go_enter Tryz.func60, Tryz.ntmps60
        go_wp2_with (first | ((with_reducible refine zap (f := 92) rfl ?_); refine zaw (some 5) rfl rfl Tryz.func92 (by kernel_rfl) rfl #[.string (⟨#[32, 9, 10, 13]⟩ : ByteArray), .int .i32 a0] rfl (by (try simp only [List.map_toArray, List.map_cons, List.map_nil]); first | done | rfl | (simp only [List.length_drop, List.length_take]; rfl)) ?_; (with_reducible refine (strings_ContainsRune.calls (⟨#[32, 9, 10, 13]⟩ : ByteArray) a0 false _ A2.out).mono ?_); rintro e w22 ⟨rfl, hb⟩; refine ⟨_, rfl, ?_⟩; have n0_ := Zq.mk (zaj (by repeat (first | (with_reducible first | exact HB.out | apply zab | apply zaa | apply zac) | exact HB.out)) hb); clear HB; have HB := n0_; clear n0_; (try clear hb); (try clear hb2); (try clear hk); (try clear hi)) | ((with_reducible refine zap (f := 93) rfl ?_); refine zaw (some 11) rfl rfl Tryz.func93 (by kernel_rfl) rfl #[.int .i32 a0] rfl (by (try simp only [List.map_toArray, List.map_cons, List.map_nil]); first | done | rfl | (simp only [List.length_drop, List.length_take]; rfl)) ?_; (with_reducible refine (lex_isSmall.calls a0 false _ A7.out).mono ?_); rintro e w' ⟨rfl, ⟨nd, rfl⟩⟩; refine ⟨_, rfl, ?_⟩) | ((with_reducible refine zap (f := 94) rfl ?_); refine zaw (some 14) rfl rfl Tryz.func94 (by kernel_rfl) rfl #[.int .i32 a0] rfl (by (try simp only [List.map_toArray, List.map_cons, List.map_nil]); first | done | rfl | (simp only [List.length_drop, List.length_take]; rfl)) ?_; (with_reducible refine (lex_isGreat.calls a0 false _ A10.out).mono ?_); rintro e w' ⟨rfl, ⟨nd, rfl⟩⟩; refine ⟨_, rfl, ?_⟩) | ((with_reducible refine zap (f := 95) rfl ?_); refine zaw (some 17) rfl rfl Tryz.func95 (by kernel_rfl) rfl #[.int .i32 a0] rfl (by (try simp only [List.map_toArray, List.map_cons, List.map_nil]); first | done | rfl | (simp only [List.length_drop, List.length_take]; rfl)) ?_; (with_reducible refine (lex_isDigit.calls a0 false _ A13.out).mono ?_); rintro e w' ⟨rfl, ⟨nd, rfl⟩⟩; refine ⟨_, rfl, ?_⟩) | ((with_reducible refine zap (f := 92) rfl ?_); refine zaw (some 23) rfl rfl Tryz.func92 (by kernel_rfl) rfl #[.string (⟨#[123, 125, 40, 41, 44, 59, 61, 126, 45]⟩ : ByteArray), .int .i32 a0] rfl (by (try simp only [List.map_toArray, List.map_cons, List.map_nil]); first | done | rfl | (simp only [List.length_drop, List.length_take]; rfl)) ?_; (with_reducible refine (strings_ContainsRune.calls (⟨#[123, 125, 40, 41, 44, 59, 61, 126, 45]⟩ : ByteArray) a0 false _ A18.out).mono ?_); rintro e w23 ⟨rfl, hb⟩; refine ⟨_, rfl, ?_⟩; have n0_ := Zq.mk (zaj (by repeat (first | (with_reducible first | exact HB.out | apply zab | apply zaa | apply zac) | exact HB.out)) hb); clear HB; have HB := n0_; clear n0_; (try clear hb); (try clear hb2); (try clear hk); (try clear hi)))
        go_ret
        exact ⟨by first | rfl | (simp [zan, zam] <;> rfl) | (simp [*, zan, zam] <;> rfl), by repeat (first | (with_reducible first | exact HB.out | apply zab | apply zaa | apply zac) | exact HB.out)⟩
def lex_quoted.l0 : Nat → ByteArray → List Int → Int → Option (ByteArray × Int × Bool)
 | 0, _, _, _ => none
 | k + 1, x0, x5, x6 => if x6 < (x0.size : Int) then (if 0 ≤ x6 then (if (bt x0 x6) = 34 then (some (strOfNums x5, wrap64 (x6 + 1), decide ((x5.length : Int) ≤ 200))) else (if (bt x0 x6) = 92 then (if (wrap64 (x6 + 1)) = (x0.size : Int) then (some ((⟨#[]⟩ : ByteArray), 0, false)) else (if 0 ≤ (wrap64 (x6 + 1)) then (if (wrap64 (x6 + 1)) < (x0.size : Int) then (if (bt x0 (wrap64 (x6 + 1))) = 34 then (if x5.length < 140737488355328 then (lex_quoted.l0 k x0 (x5 ++ [bt x0 (wrap64 (x6 + 1))]) (wrap64 ((wrap64 (x6 + 1)) + 1))) else (none)) else (if (bt x0 (wrap64 (x6 + 1))) = 92 then (if x5.length < 140737488355328 then (lex_quoted.l0 k x0 (x5 ++ [bt x0 (wrap64 (x6 + 1))]) (wrap64 ((wrap64 (x6 + 1)) + 1))) else (none)) else (some ((⟨#[]⟩ : ByteArray), 0, false)))) else (none)) else (none))) else (if (bt x0 x6) < 32 then (some ((⟨#[]⟩ : ByteArray), 0, false)) else (if (bt x0 x6) > 126 then (some ((⟨#[]⟩ : ByteArray), 0, false)) else (if x5.length < 140737488355328 then (lex_quoted.l0 k x0 (x5 ++ [bt x0 x6]) (wrap64 (x6 + 1))) else (none)))))) else (none)) else (some ((⟨#[]⟩ : ByteArray), 0, false))
def lex_quoted.f (k : Nat) (a0 : ByteArray) : Option (ByteArray × Int × Bool) := lex_quoted.l0 k a0 ([] : List Int) 1
theorem lex_quoted.mono_l : ∀ k, (∀ y0 y1 y2, LeO (lex_quoted.l0 k y0 y1 y2) (lex_quoted.l0 (k + 1) y0 y1 y2))
 | 0 => fun _ _ _ r h => by simp [lex_quoted.l0] at h
 | k + 1 => by
  have ih0 := lex_quoted.mono_l k
  ·intro y0 y1 y2
   unfold lex_quoted.l0
   repeat' first
   | (with_reducible exact ih0 _ _ _)
   | (with_reducible exact LeO.refl _)
   | (with_reducible exact LeO.none _)
   | (with_reducible refine LeO.ite ?_ ?_)
   | (with_reducible refine LeO.bind ?_ (fun _ => ?_))
   | exact ih0 _ _ _
   | exact LeO.none _
   | refine LeO.ite ?_ ?_
   | refine LeO.bind ?_ (fun _ => ?_)
theorem lex_quoted.mono : ∀ a0 k, LeO (lex_quoted.f k a0) (lex_quoted.f (k + 1) a0) := by
 intro a0 k
 have ih0 := lex_quoted.mono_l k
 unfold lex_quoted.f
 repeat' first
   | (with_reducible exact ih0 _ _ _)
   | (with_reducible exact LeO.refl _)
   | (with_reducible exact LeO.none _)
   | (with_reducible refine LeO.ite ?_ ?_)
   | (with_reducible refine LeO.bind ?_ (fun _ => ?_))
   | exact ih0 _ _ _
   | exact LeO.none _
   | refine LeO.ite ?_ ?_
   | refine LeO.bind ?_ (fun _ => ?_)
theorem lex_quoted.calls (k : Nat) (a0 : ByteArray) (r1 : ByteArray) (r2 : Int) (r3 : Bool) (w : World) (h : lex_quoted.f k a0 = some (r1, r2, r3)) :
  Calls Tryz.prog 61 #[.string a0] w fun e w' => e = .returned (.tuple #[.string r1, .int .i64 r2, .bool r3]) ∧ Below w.heap.size w w' := by
 have HB := Zq.mk (Below.refl w.heap.size w)
 have H : (lex_quoted.l0 k a0 ([] : List Int) 1) = some (r1, r2, r3) := h
 clear h
 have H' := Zq.mk H
 clear H
 go_enter Tryz.func61, Tryz.ntmps61
 go_wp2
 go_loopg [5, 6] k (fun kq v5 v6 w' => ∃ (x5_1 : List Int) (x6_1 : Int), v6 = .int .i64 x6_1 ∧ Zq (lex_quoted.l0 kq a0 x5_1 x6_1 = some (r1, r2, r3)) ∧ Zq (kq ≤ k) ∧ Zq (Kd.R (Kd.int .u8) 5 w' w.heap.size (fun _ => True) v5 x5_1) ∧ Zq (Below w.heap.size w w'))
 case atStart => exact ⟨(([] : List Int)), (1), (by first | rfl | (simp; done) | (simp [*]; done)), H', ⟨Nat.le_refl _⟩, ⟨by first | exact Kd.R_nil _ _ _ _ _ | exact Kd.N_nil _ _ _ _ _ | exact Kd.V_nil _ _ _ _ _ | exact Kd.Q_nil _ _ _ _ _ | exact Kd.S_nil _ _ _ _ _⟩, ⟨by repeat (first | (with_reducible first | exact HB.out | apply zab | apply zaa | apply zac) | exact HB.out)⟩⟩
 case round =>
  clear H'
  obtain ⟨x5_1, x6_1, rfl, HA, HK1, HO_5, HB⟩ := hrel
  cases gk with
  | zero => exact absurd HA.out (by simp [lex_quoted.l0])
  | succ k1 =>
   have H := HA.out
   clear HA
   simp only [lex_quoted.l0] at H
   by_cases c2 : x6_1 < (a0.size : Int)
   ·rw [if_pos c2] at H
    have c2b0 : decide (x6_1 < (a0.size : Int)) = true := decide_eq_true c2
    clear c2
    by_cases c3 : 0 ≤ x6_1
    ·rw [if_pos c3] at H
     have c3b0 : decide (0 ≤ x6_1) = true := decide_eq_true c3
     clear c3
     by_cases c5 : (bt a0 x6_1) = 34
     ·rw [if_pos c5] at H
      have c5b0 : ((bt a0 x6_1) == 34) = true := beq_iff_eq.mpr c5
      have c5b1 : ((bt a0 x6_1) != 34) = false := bne_eq_false_iff_eq.mpr c5
      clear c5
      simp only [Option.some.injEq, Prod.mk.injEq] at H
      obtain ⟨rfl, rfl, rfl⟩ := H
      have p4 : 0 ≤ (x6_1 : Int) := of_decide_eq_true (by first | (with_reducible assumption) | assumption)
      have q4 : x6_1 < (a0.size : Int) := of_decide_eq_true (by first | (with_reducible assumption) | assumption)
      have hx4 := zdm a0 x6_1
      replace p4 := eq_true p4
      replace q4 := eq_true q4
      have hcv6 := zkx (P := Tryz.prog) Tryz.underlying64 Tryz.underlying5 Tryz.underlying9 (Kd.own_of_R HO_5.out)
      obtain ⟨Ao7, co7, eo7⟩ := Kd.R_slice HO_5.out
      subst eo7
      go_wp2
      go_ret3
      exact ⟨by first | rfl | (simp [zan, zam] <;> rfl) | (simp [*, zan, zam] <;> rfl), by repeat (first | (with_reducible first | exact HB.out | apply zab | apply zaa | apply zac) | exact HB.out)⟩
     ·rw [if_neg c5] at H
      have c5b0 : ((bt a0 x6_1) == 34) = false := beq_eq_false_iff_ne.mpr c5
      have c5b1 : ((bt a0 x6_1) != 34) = true := bne_iff_ne.mpr c5
      by_cases c8 : (bt a0 x6_1) = 92
      ·rw [if_pos c8] at H
       have c8b0 : ((bt a0 x6_1) == 92) = true := beq_iff_eq.mpr c8
       have c8b1 : ((bt a0 x6_1) != 92) = false := bne_eq_false_iff_eq.mpr c8
       clear c8
       by_cases c9 : (wrap64 (x6_1 + 1)) = (a0.size : Int)
       ·rw [if_pos c9] at H
        have c9b0 : ((wrap64 (x6_1 + 1)) == (a0.size : Int)) = true := beq_iff_eq.mpr c9
        have c9b1 : ((wrap64 (x6_1 + 1)) != (a0.size : Int)) = false := bne_eq_false_iff_eq.mpr c9
        clear c9
        simp only [Option.some.injEq, Prod.mk.injEq] at H
        obtain ⟨rfl, rfl, rfl⟩ := H
        have p4 : 0 ≤ (x6_1 : Int) := of_decide_eq_true (by first | (with_reducible assumption) | assumption)
        have q4 : x6_1 < (a0.size : Int) := of_decide_eq_true (by first | (with_reducible assumption) | assumption)
        have hx4 := zdm a0 x6_1
        replace p4 := eq_true p4
        replace q4 := eq_true q4
        go_wp2
        go_ret3
        exact ⟨by first | rfl | (simp [zan, zam] <;> rfl) | (simp [*, zan, zam] <;> rfl), by repeat (first | (with_reducible first | exact HB.out | apply zab | apply zaa | apply zac) | exact HB.out)⟩
       ·rw [if_neg c9] at H
        have c9b0 : ((wrap64 (x6_1 + 1)) == (a0.size : Int)) = false := beq_eq_false_iff_ne.mpr c9
        have c9b1 : ((wrap64 (x6_1 + 1)) != (a0.size : Int)) = true := bne_iff_ne.mpr c9
        obtain ⟨ji10, hji10⟩ : ∃ j_ : Int, (wrap64 (x6_1 + 1)) = j_ := ⟨_, rfl⟩
        replace H : (if 0 ≤ (ji10) then (if (ji10) < (a0.size : Int) then (if (bt a0 (ji10)) = 34 then (if x5_1.length < 140737488355328 then (lex_quoted.l0 k1 a0 (x5_1 ++ [bt a0 (ji10)]) (wrap64 ((ji10) + 1))) else (none)) else (if (bt a0 (ji10)) = 92 then (if x5_1.length < 140737488355328 then (lex_quoted.l0 k1 a0 (x5_1 ++ [bt a0 (ji10)]) (wrap64 ((ji10) + 1))) else (none)) else (some ((⟨#[]⟩ : ByteArray), 0, false)))) else (none)) else (none)) = some (r1, r2, r3) := by first | (rw [hji10] at H; exact H) | (simp only [hji10] at H ⊢; exact H)
        (try rw [hji10] at c9b0)
        (try rw [hji10] at c9b1)
        have hji10w : (IntKind.i64.wrap (x6_1 + 1)) = ji10 := (zrf _).trans hji10
        by_cases c11 : 0 ≤ (ji10)
        ·rw [if_pos c11] at H
         have c11b0 : decide (0 ≤ (ji10)) = true := decide_eq_true c11
         clear c11
         by_cases c12 : (ji10) < (a0.size : Int)
         ·rw [if_pos c12] at H
          have c12b0 : decide ((ji10) < (a0.size : Int)) = true := decide_eq_true c12
          clear c12
          by_cases c14 : (bt a0 (ji10)) = 34
          ·rw [if_pos c14] at H
           have c14b0 : ((bt a0 (ji10)) == 34) = true := beq_iff_eq.mpr c14
           have c14b1 : ((bt a0 (ji10)) != 34) = false := bne_eq_false_iff_eq.mpr c14
           clear c14
           by_cases c16 : x5_1.length < 140737488355328
           ·rw [if_pos c16] at H
            have LMc16 := Zq.mk c16
            clear c16
            obtain ⟨y108, hy108⟩ : ∃ y_ : List Int, y_ = (x5_1 ++ [bt a0 (ji10)]) := ⟨_, rfl⟩
            replace H : (lex_quoted.l0 k1 a0 y108 (wrap64 ((ji10) + 1))) = some (r1, r2, r3) := by first | (rw [hy108]; with_reducible exact H) | (have H2_ := (Option.bind_some _ _).symm.trans H; rw [hy108]; with_reducible exact H2_) | (have H2_ := (Option.bind_some _ _).symm.trans H; with_reducible exact H2_) | with_reducible exact H | (rw [hy108]; exact H) | exact H
            have Ny108 := Zq.mk hy108
            clear hy108
            have H' := Zq.mk H
            clear H
            have p4 : 0 ≤ (x6_1 : Int) := of_decide_eq_true (by first | (with_reducible assumption) | assumption)
            have q4 : x6_1 < (a0.size : Int) := of_decide_eq_true (by first | (with_reducible assumption) | assumption)
            have hx4 := zdm a0 x6_1
            replace p4 := eq_true p4
            replace q4 := eq_true q4
            have p13 : 0 ≤ ((ji10) : Int) := of_decide_eq_true (by first | (with_reducible assumption) | assumption)
            have q13 : (ji10) < (a0.size : Int) := of_decide_eq_true (by first | (with_reducible assumption) | assumption)
            have hx13 := zdm a0 (ji10)
            replace p13 := eq_true p13
            replace q13 := eq_true q13
            have p15 : 0 ≤ ((ji10) : Int) := of_decide_eq_true (by first | (with_reducible assumption) | assumption)
            have q15 : (ji10) < (a0.size : Int) := of_decide_eq_true (by first | (with_reducible assumption) | assumption)
            have hx15 := zdm a0 (ji10)
            replace p15 := eq_true p15
            replace q15 := eq_true q15
            go_wp2_with (first | ((with_reducible refine zbd (b := .append) (xs := #[.tmp 58, .tmp 60]) rfl ?_); at_builtin; refine Kd.R_append (Kd.int .u8) (w0 := w) w.heap.size rfl (.tmp 58) (.tmp 60) 64 5 (.int .u8 0) 1 rfl Tryz.underlying64 zmb rfl (by decide) (by omega) u5 x5_1 (bt a0 (ji10)) [.int .u8 (bt a0 (ji10))] (fun _ => True) (fun _ => False) rfl rfl ?aP (fun _ hk => hk.elim) ?aF ?aO ?aB ?aS ?aL ?_; (case aP => exact rfl); (case aB => exact (by repeat (first | (with_reducible first | exact HB.out | apply zab | apply zaa | apply zac) | exact HB.out))); (case aF => exact (fun _ _ => trivial)); (case aO => exact (by (with_reducible repeat (first | apply Kd.R_alloc | apply Kd.R_drewN | apply Kd.R_drew)); exact HO_5.out)); (case aS => exact (zal (by repeat (first | (with_reducible first | exact HB.out | apply zab | apply zaa | apply zac) | exact HB.out)))); (case aL => have := LMc16.out; omega); intro v109 w17 ho hb hg hat; rw [← Ny108.out] at ho; have n0_ := Zq.mk (hb); have n1_ := Zq.mk (ho); clear HB; clear HO_5; have HB := n0_; have HO110 := n1_; clear n0_ n1_; clear ho hb hg hat))
            go_roundg k1
            case measure => have := HK1.out; omega
            case rel => exact ⟨(y108), (wrap64 ((ji10) + 1)), (by first | rfl | (simp; done) | (simp only [← hji10] <;> (first | rfl | simp)) | (simp [*]; done)), H', ⟨by have := HK1.out; omega⟩, ⟨by (with_reducible repeat (first | apply Kd.R_alloc | apply Kd.R_drewN | apply Kd.R_drew)); exact HO110.out⟩, ⟨by repeat (first | (with_reducible first | exact HB.out | apply zab | apply zaa | apply zac) | exact HB.out)⟩⟩
           ·rw [if_neg c16] at H
            exact absurd H (by simp)
          ·rw [if_neg c14] at H
           have c14b0 : ((bt a0 (ji10)) == 34) = false := beq_eq_false_iff_ne.mpr c14
           have c14b1 : ((bt a0 (ji10)) != 34) = true := bne_iff_ne.mpr c14
           by_cases c19 : (bt a0 (ji10)) = 92
           ·rw [if_pos c19] at H
            have c19b0 : ((bt a0 (ji10)) == 92) = true := beq_iff_eq.mpr c19
            have c19b1 : ((bt a0 (ji10)) != 92) = false := bne_eq_false_iff_eq.mpr c19
            clear c19
            by_cases c21 : x5_1.length < 140737488355328
            ·rw [if_pos c21] at H
             have LMc21 := Zq.mk c21
             clear c21
             obtain ⟨y111, hy111⟩ : ∃ y_ : List Int, y_ = (x5_1 ++ [bt a0 (ji10)]) := ⟨_, rfl⟩
             replace H : (lex_quoted.l0 k1 a0 y111 (wrap64 ((ji10) + 1))) = some (r1, r2, r3) := by first | (rw [hy111]; with_reducible exact H) | (have H2_ := (Option.bind_some _ _).symm.trans H; rw [hy111]; with_reducible exact H2_) | (have H2_ := (Option.bind_some _ _).symm.trans H; with_reducible exact H2_) | with_reducible exact H | (rw [hy111]; exact H) | exact H
             have Ny111 := Zq.mk hy111
             clear hy111
             have H' := Zq.mk H
             clear H
             have p4 : 0 ≤ (x6_1 : Int) := of_decide_eq_true (by first | (with_reducible assumption) | assumption)
             have q4 : x6_1 < (a0.size : Int) := of_decide_eq_true (by first | (with_reducible assumption) | assumption)
             have hx4 := zdm a0 x6_1
             replace p4 := eq_true p4
             replace q4 := eq_true q4
             have p13 : 0 ≤ ((ji10) : Int) := of_decide_eq_true (by first | (with_reducible assumption) | assumption)
             have q13 : (ji10) < (a0.size : Int) := of_decide_eq_true (by first | (with_reducible assumption) | assumption)
             have hx13 := zdm a0 (ji10)
             replace p13 := eq_true p13
             replace q13 := eq_true q13
             have p18 : 0 ≤ ((ji10) : Int) := of_decide_eq_true (by first | (with_reducible assumption) | assumption)
             have q18 : (ji10) < (a0.size : Int) := of_decide_eq_true (by first | (with_reducible assumption) | assumption)
             have hx18 := zdm a0 (ji10)
             replace p18 := eq_true p18
             replace q18 := eq_true q18
             have p20 : 0 ≤ ((ji10) : Int) := of_decide_eq_true (by first | (with_reducible assumption) | assumption)
             have q20 : (ji10) < (a0.size : Int) := of_decide_eq_true (by first | (with_reducible assumption) | assumption)
             have hx20 := zdm a0 (ji10)
             replace p20 := eq_true p20
             replace q20 := eq_true q20
             go_wp2_with (first | ((with_reducible refine zbd (b := .append) (xs := #[.tmp 58, .tmp 60]) rfl ?_); at_builtin; refine Kd.R_append (Kd.int .u8) (w0 := w) w.heap.size rfl (.tmp 58) (.tmp 60) 64 5 (.int .u8 0) 1 rfl Tryz.underlying64 zmb rfl (by decide) (by omega) u5 x5_1 (bt a0 (ji10)) [.int .u8 (bt a0 (ji10))] (fun _ => True) (fun _ => False) rfl rfl ?aP (fun _ hk => hk.elim) ?aF ?aO ?aB ?aS ?aL ?_; (case aP => exact rfl); (case aB => exact (by repeat (first | (with_reducible first | exact HB.out | apply zab | apply zaa | apply zac) | exact HB.out))); (case aF => exact (fun _ _ => trivial)); (case aO => exact (by (with_reducible repeat (first | apply Kd.R_alloc | apply Kd.R_drewN | apply Kd.R_drew)); exact HO_5.out)); (case aS => exact (zal (by repeat (first | (with_reducible first | exact HB.out | apply zab | apply zaa | apply zac) | exact HB.out)))); (case aL => have := LMc21.out; omega); intro v112 w22 ho hb hg hat; rw [← Ny111.out] at ho; have n0_ := Zq.mk (hb); have n1_ := Zq.mk (ho); clear HB; clear HO_5; have HB := n0_; have HO113 := n1_; clear n0_ n1_; clear ho hb hg hat))
             go_roundg k1
             case measure => have := HK1.out; omega
             case rel => exact ⟨(y111), (wrap64 ((ji10) + 1)), (by first | rfl | (simp; done) | (simp only [← hji10] <;> (first | rfl | simp)) | (simp [*]; done)), H', ⟨by have := HK1.out; omega⟩, ⟨by (with_reducible repeat (first | apply Kd.R_alloc | apply Kd.R_drewN | apply Kd.R_drew)); exact HO113.out⟩, ⟨by repeat (first | (with_reducible first | exact HB.out | apply zab | apply zaa | apply zac) | exact HB.out)⟩⟩
            ·rw [if_neg c21] at H
             exact absurd H (by simp)
           ·rw [if_neg c19] at H
            have c19b0 : ((bt a0 (ji10)) == 92) = false := beq_eq_false_iff_ne.mpr c19
            have c19b1 : ((bt a0 (ji10)) != 92) = true := bne_iff_ne.mpr c19
            simp only [Option.some.injEq, Prod.mk.injEq] at H
            obtain ⟨rfl, rfl, rfl⟩ := H
            have p4 : 0 ≤ (x6_1 : Int) := of_decide_eq_true (by first | (with_reducible assumption) | assumption)
            have q4 : x6_1 < (a0.size : Int) := of_decide_eq_true (by first | (with_reducible assumption) | assumption)
            have hx4 := zdm a0 x6_1
            replace p4 := eq_true p4
            replace q4 := eq_true q4
            have p13 : 0 ≤ ((ji10) : Int) := of_decide_eq_true (by first | (with_reducible assumption) | assumption)
            have q13 : (ji10) < (a0.size : Int) := of_decide_eq_true (by first | (with_reducible assumption) | assumption)
            have hx13 := zdm a0 (ji10)
            replace p13 := eq_true p13
            replace q13 := eq_true q13
            have p18 : 0 ≤ ((ji10) : Int) := of_decide_eq_true (by first | (with_reducible assumption) | assumption)
            have q18 : (ji10) < (a0.size : Int) := of_decide_eq_true (by first | (with_reducible assumption) | assumption)
            have hx18 := zdm a0 (ji10)
            replace p18 := eq_true p18
            replace q18 := eq_true q18
            go_wp2
            go_ret3
            exact ⟨by first | rfl | (simp [zan, zam] <;> rfl) | (simp only [← hji10]; first | rfl | (simp [zan, zam] <;> rfl)) | (simp [*, zan, zam] <;> rfl), by repeat (first | (with_reducible first | exact HB.out | apply zab | apply zaa | apply zac) | exact HB.out)⟩
         ·rw [if_neg c12] at H
          exact absurd H (by simp)
        ·rw [if_neg c11] at H
         exact absurd H (by simp)
      ·rw [if_neg c8] at H
       have c8b0 : ((bt a0 x6_1) == 92) = false := beq_eq_false_iff_ne.mpr c8
       have c8b1 : ((bt a0 x6_1) != 92) = true := bne_iff_ne.mpr c8
       by_cases c23 : (bt a0 x6_1) < 32
       ·rw [if_pos c23] at H
        have c23b0 : decide ((bt a0 x6_1) < 32) = true := decide_eq_true c23
        clear c23
        simp only [Option.some.injEq, Prod.mk.injEq] at H
        obtain ⟨rfl, rfl, rfl⟩ := H
        have p4 : 0 ≤ (x6_1 : Int) := of_decide_eq_true (by first | (with_reducible assumption) | assumption)
        have q4 : x6_1 < (a0.size : Int) := of_decide_eq_true (by first | (with_reducible assumption) | assumption)
        have hx4 := zdm a0 x6_1
        replace p4 := eq_true p4
        replace q4 := eq_true q4
        go_wp2
        go_ret3
        exact ⟨by first | rfl | (simp [zan, zam] <;> rfl) | (simp [*, zan, zam] <;> rfl), by repeat (first | (with_reducible first | exact HB.out | apply zab | apply zaa | apply zac) | exact HB.out)⟩
       ·rw [if_neg c23] at H
        have c23b0 : decide ((bt a0 x6_1) < 32) = false := decide_eq_false c23
        clear c23
        by_cases c24 : (bt a0 x6_1) > 126
        ·rw [if_pos c24] at H
         have c24b0 : decide (126 < (bt a0 x6_1)) = true := decide_eq_true c24
         clear c24
         simp only [Option.some.injEq, Prod.mk.injEq] at H
         obtain ⟨rfl, rfl, rfl⟩ := H
         have p4 : 0 ≤ (x6_1 : Int) := of_decide_eq_true (by first | (with_reducible assumption) | assumption)
         have q4 : x6_1 < (a0.size : Int) := of_decide_eq_true (by first | (with_reducible assumption) | assumption)
         have hx4 := zdm a0 x6_1
         replace p4 := eq_true p4
         replace q4 := eq_true q4
         go_wp2
         go_ret3
         exact ⟨by first | rfl | (simp [zan, zam] <;> rfl) | (simp [*, zan, zam] <;> rfl), by repeat (first | (with_reducible first | exact HB.out | apply zab | apply zaa | apply zac) | exact HB.out)⟩
        ·rw [if_neg c24] at H
         have c24b0 : decide (126 < (bt a0 x6_1)) = false := decide_eq_false c24
         clear c24
         by_cases c25 : x5_1.length < 140737488355328
         ·rw [if_pos c25] at H
          have LMc25 := Zq.mk c25
          clear c25
          obtain ⟨y114, hy114⟩ : ∃ y_ : List Int, y_ = (x5_1 ++ [bt a0 x6_1]) := ⟨_, rfl⟩
          replace H : (lex_quoted.l0 k1 a0 y114 (wrap64 (x6_1 + 1))) = some (r1, r2, r3) := by first | (rw [hy114]; with_reducible exact H) | (have H2_ := (Option.bind_some _ _).symm.trans H; rw [hy114]; with_reducible exact H2_) | (have H2_ := (Option.bind_some _ _).symm.trans H; with_reducible exact H2_) | with_reducible exact H | (rw [hy114]; exact H) | exact H
          have Ny114 := Zq.mk hy114
          clear hy114
          have H' := Zq.mk H
          clear H
          have p4 : 0 ≤ (x6_1 : Int) := of_decide_eq_true (by first | (with_reducible assumption) | assumption)
          have q4 : x6_1 < (a0.size : Int) := of_decide_eq_true (by first | (with_reducible assumption) | assumption)
          have hx4 := zdm a0 x6_1
          replace p4 := eq_true p4
          replace q4 := eq_true q4
          go_wp2_with (first | ((with_reducible refine zbd (b := .append) (xs := #[.tmp 58, .tmp 60]) rfl ?_); at_builtin; refine Kd.R_append (Kd.int .u8) (w0 := w) w.heap.size rfl (.tmp 58) (.tmp 60) 64 5 (.int .u8 0) 1 rfl Tryz.underlying64 zmb rfl (by decide) (by omega) u5 x5_1 (bt a0 x6_1) [.int .u8 (bt a0 x6_1)] (fun _ => True) (fun _ => False) rfl rfl ?aP (fun _ hk => hk.elim) ?aF ?aO ?aB ?aS ?aL ?_; (case aP => exact rfl); (case aB => exact (by repeat (first | (with_reducible first | exact HB.out | apply zab | apply zaa | apply zac) | exact HB.out))); (case aF => exact (fun _ _ => trivial)); (case aO => exact (by (with_reducible repeat (first | apply Kd.R_alloc | apply Kd.R_drewN | apply Kd.R_drew)); exact HO_5.out)); (case aS => exact (zal (by repeat (first | (with_reducible first | exact HB.out | apply zab | apply zaa | apply zac) | exact HB.out)))); (case aL => have := LMc25.out; omega); intro v115 w26 ho hb hg hat; rw [← Ny114.out] at ho; have n0_ := Zq.mk (hb); have n1_ := Zq.mk (ho); clear HB; clear HO_5; have HB := n0_; have HO116 := n1_; clear n0_ n1_; clear ho hb hg hat))
          go_roundg k1
          case measure => have := HK1.out; omega
          case rel => exact ⟨(y114), (wrap64 (x6_1 + 1)), (by first | rfl | (simp; done) | (simp [*]; done)), H', ⟨by have := HK1.out; omega⟩, ⟨by (with_reducible repeat (first | apply Kd.R_alloc | apply Kd.R_drewN | apply Kd.R_drew)); exact HO116.out⟩, ⟨by repeat (first | (with_reducible first | exact HB.out | apply zab | apply zaa | apply zac) | exact HB.out)⟩⟩
         ·rw [if_neg c25] at H
          exact absurd H (by simp)
    ·rw [if_neg c3] at H
     exact absurd H (by simp)
   ·rw [if_neg c2] at H
    have c2b0 : decide (x6_1 < (a0.size : Int)) = false := decide_eq_false c2
    clear c2
    simp only [Option.some.injEq, Prod.mk.injEq] at H
    obtain ⟨rfl, rfl, rfl⟩ := H
    go_wp2
    go_ret3
    exact ⟨by first | rfl | (simp [zan, zam] <;> rfl) | (simp [*, zan, zam] <;> rfl), by repeat (first | (with_reducible first | exact HB.out | apply zab | apply zaa | apply zac) | exact HB.out)⟩
def lex_goesOn.f (a0 : Int) (a1 : Int) : Option (Bool) := if a0 = 1 then ((lex_begins.f a1).bind fun t117 => (some (t117 == 1))) else (if a0 = 2 then (some (a1 != 10)) else (if a0 = 3 then ((lex_isSmall.f a1).bind fun t118 => (if t118 = true then (some true) else ((lex_isDigit.f a1).bind fun t119 => (if t119 = true then (some true) else (if a1 = 95 then (some true) else (some (a1 == 45))))))) else (if a0 = 4 then ((lex_isGreat.f a1).bind fun t120 => (some t120)) else (if a0 = 5 then ((lex_isDigit.f a1).bind fun t121 => (if t121 = true then (some true) else (if a1 = 46 then (some true) else (some (a1 == 47))))) else (some false)))))
theorem lex_goesOn.calls (a0 : Int) (a1 : Int) (r : Bool) (w : World) (h : lex_goesOn.f a0 a1 = some r) :
  Calls Tryz.prog 96 #[.int .i64 a0, .int .i32 a1] w fun e w' => e = .returned (.bool r) ∧ Below w.heap.size w w' := by
 have HB := Zq.mk (Below.refl w.heap.size w)
 have H : (if a0 = 1 then ((lex_begins.f a1).bind fun t117 => (some (t117 == 1))) else (if a0 = 2 then (some (a1 != 10)) else (if a0 = 3 then ((lex_isSmall.f a1).bind fun t118 => (if t118 = true then (some true) else ((lex_isDigit.f a1).bind fun t119 => (if t119 = true then (some true) else (if a1 = 95 then (some true) else (some (a1 == 45))))))) else (if a0 = 4 then ((lex_isGreat.f a1).bind fun t120 => (some t120)) else (if a0 = 5 then ((lex_isDigit.f a1).bind fun t121 => (if t121 = true then (some true) else (if a1 = 46 then (some true) else (some (a1 == 47))))) else (some false)))))) = some r := h
 clear h
 by_cases c3 : a0 = 1
 ·rw [if_pos c3] at H
  have c3b0 : (a0 == 1) = true := beq_iff_eq.mpr c3
  have c3b1 : (a0 != 1) = false := bne_eq_false_iff_eq.mpr c3
  clear c3
  replace H := Option.bind_eq_some_iff.mp H
  obtain ⟨t117, A40, H⟩ := H
  replace H : (some (t117 == 1)) = some r := H
  have A4 := Zq.mk A40
  clear A40
  obtain rfl := Option.some.inj H
  go_enter Tryz.func96, Tryz.ntmps96
  go_wp2_with (first | ((with_reducible refine zap (f := 60) rfl ?_); refine zaw (some 9) rfl rfl Tryz.func60 (by kernel_rfl) rfl #[.int .i32 a1] rfl (by (try simp only [List.map_toArray, List.map_cons, List.map_nil]); first | done | rfl | (simp only [List.length_drop, List.length_take]; rfl)) ?_; (with_reducible refine (lex_begins.calls a1 t117 _ A4.out).mono ?_); rintro e w5 ⟨rfl, hb⟩; refine ⟨_, rfl, ?_⟩; have n0_ := Zq.mk (zaj (by repeat (first | (with_reducible first | exact HB.out | apply zab | apply zaa | apply zac) | exact HB.out)) hb); clear HB; have HB := n0_; clear n0_; (try clear hb); (try clear hb2); (try clear hk); (try clear hi)))
  go_ret
  exact ⟨by first | rfl | (simp [zan, zam] <;> rfl) | (simp [*, zan, zam] <;> rfl), by repeat (first | (with_reducible first | exact HB.out | apply zab | apply zaa | apply zac) | exact HB.out)⟩
 ·rw [if_neg c3] at H
  have c3b0 : (a0 == 1) = false := beq_eq_false_iff_ne.mpr c3
  have c3b1 : (a0 != 1) = true := bne_iff_ne.mpr c3
  by_cases c6 : a0 = 2
  ·rw [if_pos c6] at H
   have c6b0 : (a0 == 2) = true := beq_iff_eq.mpr c6
   have c6b1 : (a0 != 2) = false := bne_eq_false_iff_eq.mpr c6
   clear c6
   obtain rfl := Option.some.inj H
   go_enter Tryz.func96, Tryz.ntmps96
   go_wp2
   go_ret
   exact ⟨by first | rfl | (simp [zan, zam] <;> rfl) | (simp [*, zan, zam] <;> rfl), by repeat (first | (with_reducible first | exact HB.out | apply zab | apply zaa | apply zac) | exact HB.out)⟩
  ·rw [if_neg c6] at H
   have c6b0 : (a0 == 2) = false := beq_eq_false_iff_ne.mpr c6
   have c6b1 : (a0 != 2) = true := bne_iff_ne.mpr c6
   by_cases c7 : a0 = 3
   ·rw [if_pos c7] at H
    have c7b0 : (a0 == 3) = true := beq_iff_eq.mpr c7
    have c7b1 : (a0 != 3) = false := bne_eq_false_iff_eq.mpr c7
    clear c7
    replace H := Option.bind_eq_some_iff.mp H
    obtain ⟨t118, A80, H⟩ := H
    replace H : (if t118 = true then (some true) else ((lex_isDigit.f a1).bind fun t119 => (if t119 = true then (some true) else (if a1 = 95 then (some true) else (some (a1 == 45)))))) = some r := H
    have A8 := Zq.mk A80
    clear A80
    by_cases c9 : t118 = true
    ·subst c9
     rw [if_pos rfl] at H
     obtain rfl := Option.some.inj H
     go_enter Tryz.func96, Tryz.ntmps96
     go_wp2_with (first | ((with_reducible refine zap (f := 93) rfl ?_); refine zaw (some 18) rfl rfl Tryz.func93 (by kernel_rfl) rfl #[.int .i32 a1] rfl (by (try simp only [List.map_toArray, List.map_cons, List.map_nil]); first | done | rfl | (simp only [List.length_drop, List.length_take]; rfl)) ?_; (with_reducible refine (lex_isSmall.calls a1 true _ A8.out).mono ?_); rintro e w' ⟨rfl, ⟨nd, rfl⟩⟩; refine ⟨_, rfl, ?_⟩))
     go_ret
     exact ⟨by first | rfl | (simp [zan, zam] <;> rfl) | (simp [*, zan, zam] <;> rfl), by repeat (first | (with_reducible first | exact HB.out | apply zab | apply zaa | apply zac) | exact HB.out)⟩
    ·replace c9 := Bool.eq_false_iff.mpr c9
     subst c9
     rw [if_neg (show ¬ (false = true) by decide)] at H
     replace H := Option.bind_eq_some_iff.mp H
     obtain ⟨t119, A100, H⟩ := H
     replace H : (if t119 = true then (some true) else (if a1 = 95 then (some true) else (some (a1 == 45)))) = some r := H
     have A10 := Zq.mk A100
     clear A100
     by_cases c11 : t119 = true
     ·subst c11
      rw [if_pos rfl] at H
      obtain rfl := Option.some.inj H
      go_enter Tryz.func96, Tryz.ntmps96
      go_wp2_with (first | ((with_reducible refine zap (f := 93) rfl ?_); refine zaw (some 18) rfl rfl Tryz.func93 (by kernel_rfl) rfl #[.int .i32 a1] rfl (by (try simp only [List.map_toArray, List.map_cons, List.map_nil]); first | done | rfl | (simp only [List.length_drop, List.length_take]; rfl)) ?_; (with_reducible refine (lex_isSmall.calls a1 false _ A8.out).mono ?_); rintro e w' ⟨rfl, ⟨nd, rfl⟩⟩; refine ⟨_, rfl, ?_⟩) | (go_at_call 95; (with_reducible refine (lex_isDigit.calls a1 true _ A10.out).mono ?_); rintro e w' ⟨rfl, ⟨nd, rfl⟩⟩))
      go_ret
      exact ⟨by first | rfl | (simp [zan, zam] <;> rfl) | (simp [*, zan, zam] <;> rfl), by repeat (first | (with_reducible first | exact HB.out | apply zab | apply zaa | apply zac) | exact HB.out)⟩
     ·replace c11 := Bool.eq_false_iff.mpr c11
      subst c11
      rw [if_neg (show ¬ (false = true) by decide)] at H
      by_cases c12 : a1 = 95
      ·rw [if_pos c12] at H
       have c12b0 : (a1 == 95) = true := beq_iff_eq.mpr c12
       have c12b1 : (a1 != 95) = false := bne_eq_false_iff_eq.mpr c12
       clear c12
       obtain rfl := Option.some.inj H
       go_enter Tryz.func96, Tryz.ntmps96
       go_wp2_with (first | ((with_reducible refine zap (f := 93) rfl ?_); refine zaw (some 18) rfl rfl Tryz.func93 (by kernel_rfl) rfl #[.int .i32 a1] rfl (by (try simp only [List.map_toArray, List.map_cons, List.map_nil]); first | done | rfl | (simp only [List.length_drop, List.length_take]; rfl)) ?_; (with_reducible refine (lex_isSmall.calls a1 false _ A8.out).mono ?_); rintro e w' ⟨rfl, ⟨nd, rfl⟩⟩; refine ⟨_, rfl, ?_⟩) | (go_at_call 95; (with_reducible refine (lex_isDigit.calls a1 false _ A10.out).mono ?_); rintro e w' ⟨rfl, ⟨nd, rfl⟩⟩))
       go_ret
       exact ⟨by first | rfl | (simp [zan, zam] <;> rfl) | (simp [*, zan, zam] <;> rfl), by repeat (first | (with_reducible first | exact HB.out | apply zab | apply zaa | apply zac) | exact HB.out)⟩
      ·rw [if_neg c12] at H
       have c12b0 : (a1 == 95) = false := beq_eq_false_iff_ne.mpr c12
       have c12b1 : (a1 != 95) = true := bne_iff_ne.mpr c12
       obtain rfl := Option.some.inj H
       go_enter Tryz.func96, Tryz.ntmps96
       go_wp2_with (first | ((with_reducible refine zap (f := 93) rfl ?_); refine zaw (some 18) rfl rfl Tryz.func93 (by kernel_rfl) rfl #[.int .i32 a1] rfl (by (try simp only [List.map_toArray, List.map_cons, List.map_nil]); first | done | rfl | (simp only [List.length_drop, List.length_take]; rfl)) ?_; (with_reducible refine (lex_isSmall.calls a1 false _ A8.out).mono ?_); rintro e w' ⟨rfl, ⟨nd, rfl⟩⟩; refine ⟨_, rfl, ?_⟩) | (go_at_call 95; (with_reducible refine (lex_isDigit.calls a1 false _ A10.out).mono ?_); rintro e w' ⟨rfl, ⟨nd, rfl⟩⟩))
       go_ret
       exact ⟨by first | rfl | (simp [zan, zam] <;> rfl) | (simp [*, zan, zam] <;> rfl), by repeat (first | (with_reducible first | exact HB.out | apply zab | apply zaa | apply zac) | exact HB.out)⟩
   ·rw [if_neg c7] at H
    have c7b0 : (a0 == 3) = false := beq_eq_false_iff_ne.mpr c7
    have c7b1 : (a0 != 3) = true := bne_iff_ne.mpr c7
    by_cases c13 : a0 = 4
    ·rw [if_pos c13] at H
     have c13b0 : (a0 == 4) = true := beq_iff_eq.mpr c13
     have c13b1 : (a0 != 4) = false := bne_eq_false_iff_eq.mpr c13
     clear c13
     replace H := Option.bind_eq_some_iff.mp H
     obtain ⟨t120, A140, H⟩ := H
     replace H : (some t120) = some r := H
     have A14 := Zq.mk A140
     clear A140
     obtain rfl := Option.some.inj H
     go_enter Tryz.func96, Tryz.ntmps96
     go_wp2_with (first | ((with_reducible refine zap (f := 94) rfl ?_); refine zaw (some 34) rfl rfl Tryz.func94 (by kernel_rfl) rfl #[.int .i32 a1] rfl (by (try simp only [List.map_toArray, List.map_cons, List.map_nil]); first | done | rfl | (simp only [List.length_drop, List.length_take]; rfl)) ?_; (with_reducible refine (lex_isGreat.calls a1 t120 _ A14.out).mono ?_); rintro e w' ⟨rfl, ⟨nd, rfl⟩⟩; refine ⟨_, rfl, ?_⟩))
     go_ret
     exact ⟨by first | rfl | (simp [zan, zam] <;> rfl) | (simp [*, zan, zam] <;> rfl), by repeat (first | (with_reducible first | exact HB.out | apply zab | apply zaa | apply zac) | exact HB.out)⟩
    ·rw [if_neg c13] at H
     have c13b0 : (a0 == 4) = false := beq_eq_false_iff_ne.mpr c13
     have c13b1 : (a0 != 4) = true := bne_iff_ne.mpr c13
     by_cases c15 : a0 = 5
     ·rw [if_pos c15] at H
      have c15b0 : (a0 == 5) = true := beq_iff_eq.mpr c15
      have c15b1 : (a0 != 5) = false := bne_eq_false_iff_eq.mpr c15
      clear c15
      replace H := Option.bind_eq_some_iff.mp H
      obtain ⟨t121, A160, H⟩ := H
      replace H : (if t121 = true then (some true) else (if a1 = 46 then (some true) else (some (a1 == 47)))) = some r := H
      have A16 := Zq.mk A160
      clear A160
      by_cases c17 : t121 = true
      ·subst c17
       rw [if_pos rfl] at H
       obtain rfl := Option.some.inj H
       go_enter Tryz.func96, Tryz.ntmps96
       go_wp2_with (first | ((with_reducible refine zap (f := 95) rfl ?_); refine zaw (some 38) rfl rfl Tryz.func95 (by kernel_rfl) rfl #[.int .i32 a1] rfl (by (try simp only [List.map_toArray, List.map_cons, List.map_nil]); first | done | rfl | (simp only [List.length_drop, List.length_take]; rfl)) ?_; (with_reducible refine (lex_isDigit.calls a1 true _ A16.out).mono ?_); rintro e w' ⟨rfl, ⟨nd, rfl⟩⟩; refine ⟨_, rfl, ?_⟩))
       go_ret
       exact ⟨by first | rfl | (simp [zan, zam] <;> rfl) | (simp [*, zan, zam] <;> rfl), by repeat (first | (with_reducible first | exact HB.out | apply zab | apply zaa | apply zac) | exact HB.out)⟩
      ·replace c17 := Bool.eq_false_iff.mpr c17
       subst c17
       rw [if_neg (show ¬ (false = true) by decide)] at H
       by_cases c18 : a1 = 46
       ·rw [if_pos c18] at H
        have c18b0 : (a1 == 46) = true := beq_iff_eq.mpr c18
        have c18b1 : (a1 != 46) = false := bne_eq_false_iff_eq.mpr c18
        clear c18
        obtain rfl := Option.some.inj H
        go_enter Tryz.func96, Tryz.ntmps96
        go_wp2_with (first | ((with_reducible refine zap (f := 95) rfl ?_); refine zaw (some 38) rfl rfl Tryz.func95 (by kernel_rfl) rfl #[.int .i32 a1] rfl (by (try simp only [List.map_toArray, List.map_cons, List.map_nil]); first | done | rfl | (simp only [List.length_drop, List.length_take]; rfl)) ?_; (with_reducible refine (lex_isDigit.calls a1 false _ A16.out).mono ?_); rintro e w' ⟨rfl, ⟨nd, rfl⟩⟩; refine ⟨_, rfl, ?_⟩))
        go_ret
        exact ⟨by first | rfl | (simp [zan, zam] <;> rfl) | (simp [*, zan, zam] <;> rfl), by repeat (first | (with_reducible first | exact HB.out | apply zab | apply zaa | apply zac) | exact HB.out)⟩
       ·rw [if_neg c18] at H
        have c18b0 : (a1 == 46) = false := beq_eq_false_iff_ne.mpr c18
        have c18b1 : (a1 != 46) = true := bne_iff_ne.mpr c18
        obtain rfl := Option.some.inj H
        go_enter Tryz.func96, Tryz.ntmps96
        go_wp2_with (first | ((with_reducible refine zap (f := 95) rfl ?_); refine zaw (some 38) rfl rfl Tryz.func95 (by kernel_rfl) rfl #[.int .i32 a1] rfl (by (try simp only [List.map_toArray, List.map_cons, List.map_nil]); first | done | rfl | (simp only [List.length_drop, List.length_take]; rfl)) ?_; (with_reducible refine (lex_isDigit.calls a1 false _ A16.out).mono ?_); rintro e w' ⟨rfl, ⟨nd, rfl⟩⟩; refine ⟨_, rfl, ?_⟩))
        go_ret
        exact ⟨by first | rfl | (simp [zan, zam] <;> rfl) | (simp [*, zan, zam] <;> rfl), by repeat (first | (with_reducible first | exact HB.out | apply zab | apply zaa | apply zac) | exact HB.out)⟩
     ·rw [if_neg c15] at H
      have c15b0 : (a0 == 5) = false := beq_eq_false_iff_ne.mpr c15
      have c15b1 : (a0 != 5) = true := bne_iff_ne.mpr c15
      obtain rfl := Option.some.inj H
      go_enter Tryz.func96, Tryz.ntmps96
      go_wp2
      go_ret
      exact ⟨by first | rfl | (simp [zan, zam] <;> rfl) | (simp [*, zan, zam] <;> rfl), by repeat (first | (with_reducible first | exact HB.out | apply zab | apply zaa | apply zac) | exact HB.out)⟩
end
end Go.Proofs.YtjeekocidaogoaaGreatDoor.H

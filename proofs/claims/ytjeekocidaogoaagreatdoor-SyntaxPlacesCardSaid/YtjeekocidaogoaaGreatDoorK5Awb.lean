/- The first calls, whose answers are fixed: the walk. -/
/- What a row's condition on package-level variables gives: the library's tables and errors as the contracts ask them; the builder of a row whose world is shaped and laid. -/
/- Plain law: the parser on tokens that are cut, or that others stand behind: what is looked at. -/
import Derived.Test.YtjeekocidaogoaaGreatDoorK5PrG
import Derived.Test.YtjeekocidaogoaaGreatDoorRows
import Derived.Test.YtjeekocidaogoaaGreatDoorK5Shelf
import Derived.ProofKit
import Derived.SizedLaws
import Derived.HandedShaped
import Derived.LaidMore
import Derived.Lay
import Derived.Lib.LaidTab
import Derived.Lib.LaidU8
import Derived.Stop.LaidErr
import Derived.Test.YtjeekocidaogoaaGreatDoorK5Oper
set_option linter.unusedVariables false
set_option linter.unusedSimpArgs false
set_option maxRecDepth 100000
set_option maxHeartbeats 8000000
namespace Go.Proofs.YtjeekocidaogoaaGreatDoor.H
open Go.RowKit Go.Proofs.YtjeekocidaogoaaGreatDoor.Hand Go.Proofs.YtjeekocidaogoaaGreatDoorW.PrintWords Go.Proofs.YtjeekocidaogoaaGreatDoorW.PrintLast Go.Proofs.YtjeekocidaogoaaGreatDoorW.PrintMore
section
theorem zio.reads : ∀ {l : List S62} {W : World} {b : Nat} {cells : List Value} {L : List Nat}, zio W b l cells L → ∀ j p, l[j]? = some p → ∃ cs, cs.length = 11 ∧ k62.K W p cs ∧ ∀ r, r < 11 → cells[j * 11 + r]? = cs[r]?
 | [], _, _, _, _, _, j, p, h => by simp at h
 | x :: l, W, b, cells, L, ⟨t, ts, M, N, h1, h2, h3, _⟩, j, p, h => by
  have hl := h1.length
  subst h3
  cases j with
  | zero =>
   have : x = p := by simpa using h
   subst this
   obtain ⟨A3, c3, A4, c4, A5, c5, A6, c6, rfl, l3, g3, l4, g4, l5, g5, l6, g6⟩ := zbo h1.K
   refine ⟨_, rfl, zoi W x l3 g3 l4 g4 l5 g5 l6 g6, fun r hr => ?_⟩
   rw [Nat.zero_mul, Nat.zero_add, List.getElem?_append_left (by simpa using hr)]
   rfl
  | succ j =>
   obtain ⟨cs, k1, k2, k3⟩ := zio.reads h2 j p (by simpa using h)
   refine ⟨cs, k1, k2, fun r hr => ?_⟩
   rw [List.getElem?_append_right (by simp [hl]; omega), ← k3 r hr]
   congr 1
   simp [hl]
   omega
theorem Pol.C {W : World} {b : Nat} {l : List S62} {v : Value} (h : Pol W b l v) : ∃ A c, v = .slice A l.length c ∧ l.length ≤ c ∧ k62.C W A l.length l := by
 obtain ⟨cells, L, hr, hi, -, -⟩ := h
 obtain ⟨A, c, rfl, hc, -⟩ := hr.form
 exact ⟨A, c, rfl, hc, Row.C (d := k62) hr rfl fun j p hj => hi.reads j p hj⟩
def zrd : Nat → S60 → Bool
 | 0, _ => true
 | k + 1, x => (x.f4.all fun p => decide (-9223372036854775808 ≤ p.f0) && decide (p.f0 ≤ 9223372036854775807) && decide (-9223372036854775808 ≤ p.f1) && decide (p.f1 ≤ 9223372036854775807)) && x.f6.all (zrd k)
theorem znk : ∀ (k : Nat) (x : S60), zrd k x = true → Wide k x
 | 0, _, _ => trivial
 | k + 1, x, h => by
  unfold zrd at h
  rw [Bool.and_eq_true, List.all_eq_true, List.all_eq_true] at h
  refine ⟨fun p hp => ?_, fun y hy => znk k y (h.2 y hy)⟩
  have := h.1 p hp
  simp only [Bool.and_eq_true, decide_eq_true_eq] at this
  exact ⟨⟨this.1.1.1, this.1.1.2⟩, this.1.2, this.2⟩
theorem zqn : ∀ x ∈ [zfl], Wide 16 x.f2 := fun x hx => by
 have : x = zfl := by simpa using hx
 subst this
 exact znk 16 _ (by decide +kernel)
theorem wide_0 : ∀ x ∈ [(⟨0, ⟨#[]⟩, z60, 0⟩ : S62)], Wide 16 x.f2 := fun x hx => by
 have : x = ⟨0, ⟨#[]⟩, z60, 0⟩ := by simpa using hx
 subst this
 exact znk 16 _ (by decide +kernel)
theorem zpr {α : Type} (d : Kd α) (W : World) (A : Option Addr) : d.C W A 0 [] := ⟨rfl, by omega, fun h => absurd h (by decide)⟩
theorem zero_C (W : World) : k62.C (W.alloc (.cells #[.int .i64 0, .string ⟨#[]⟩, .int .i64 0, .string ⟨#[]⟩, .string ⟨#[]⟩, .slice none 0 0, .slice none 0 0, .slice none 0 0, .slice none 0 0, .int .i64 0, .int .i64 0] 62)) (some ⟨W.heap.size, 0, none⟩) 1 [⟨0, ⟨#[]⟩, z60, 0⟩] := by
 refine Row.C (d := k62) (b := W.heap.size) (ty := 62) (c := 1) (cells := [.int .i64 0, .string ⟨#[]⟩, .int .i64 0, .string ⟨#[]⟩, .string ⟨#[]⟩, .slice none 0 0, .slice none 0 0, .slice none 0 0, .slice none 0 0, .int .i64 0, .int .i64 0]) ?_ rfl fun j p hj => ?_
 ·exact ⟨rfl, .inr ⟨W.heap.size, 1, _, rfl, Nat.le_refl _, heap_alloc_new W _, Nat.le_refl _, by simp only [maxLen]; omega, by decide, rfl⟩⟩
 ·have hj0 : j = 0 := by have := (List.getElem?_eq_some_iff.1 hj).1; simp at this; exact this
  subst hj0
  have : (⟨0, ⟨#[]⟩, z60, 0⟩ : S62) = p := by simpa using hj
  subst this
  exact ⟨_, rfl, zoi _ _ (A5 := none) (c5 := 0) (Nat.le_refl _) (zpr _ _ _) (A6 := none) (c6 := 0) (Nat.le_refl _) (zpr _ _ _) (A7 := none) (c7 := 0) (Nat.le_refl _) (zpr _ _ _) (A8 := none) (c8 := 0) (Nat.le_refl _) (zpr _ _ _), fun r hr => by rw [Nat.zero_mul, Nat.zero_add]; rfl⟩
theorem awake_calls (W : World) (hInv : Inv W) :
  Calls Tryz.prog 10 #[] W fun e W' => e = .returned (.bool true) ∧ Below W.heap.size W W' := by
 have HI := Zq.mk hInv
 have HP1 := Zq.mk (show Calls Tryz.prog 11 #[.string srcA] W (zhm W [zfl] 0 0) from by have := zbw srcA W hInv; rwa [parse_A] at this)
 have HP2 := Zq.mk (fun w (h : Below W.heap.size W w) => show Calls Tryz.prog 11 #[.string srcB] w (zhm w [] 90 8) from by have := zbw srcB w (hInv.below h); rwa [parse_B] at this)
 have HR1 := Zq.mk (fun w A c (h : Below W.heap.size W w) (hC : k62.C w A 1 [zfl]) (hc : 1 ≤ c) => show Calls Tryz.prog 20 #[.agg #[.slice A 1 c]] w fun e W' => e = .returned (.tuple #[.string ⟨#[108, 101, 116, 32, 97, 61, 110, 111, 116, 40, 116, 114, 117, 101, 32, 111, 114, 32, 98, 41, 97, 110, 100, 32, 112, 111, 114, 116, 32, 105, 110, 123, 56, 48, 44, 49, 45, 57, 125, 59]⟩, .int .i64 0]) ∧ Below w.heap.size w W' from by
  have := zib w (hInv.below h) A c [zfl] hC hc (by decide) zqn (by decide +kernel)
  rw [show zji [zfl] = (outA, 0) from by unfold zji; rw [zpk]; rfl] at this
  exact this)
 have HR2 := Zq.mk (fun w n (h : Below W.heap.size W w) (hn : w.heap.size = n) => show Calls Tryz.prog 20 #[.agg #[.slice (some ⟨n, 0, none⟩) 1 1]] (w.alloc (.cells #[.int .i64 0, .string ⟨#[]⟩, .int .i64 0, .string ⟨#[]⟩, .string ⟨#[]⟩, .slice none 0 0, .slice none 0 0, .slice none 0 0, .slice none 0 0, .int .i64 0, .int .i64 0] 62)) fun e W' => e = .returned (.tuple #[.string ⟨#[]⟩, .int .i64 93]) ∧ Below w.heap.size w W' from by
  subst hn
  have := zib (w.alloc (.cells #[.int .i64 0, .string ⟨#[]⟩, .int .i64 0, .string ⟨#[]⟩, .string ⟨#[]⟩, .slice none 0 0, .slice none 0 0, .slice none 0 0, .slice none 0 0, .int .i64 0, .int .i64 0] 62)) (hInv.below (h.alloc h.size _)) (some ⟨w.heap.size, 0, none⟩) 1 [⟨0, ⟨#[]⟩, z60, 0⟩] (zero_C w) (Nat.le_refl _) (by decide) wide_0 (by decide +kernel)
  rw [show zji [⟨0, ⟨#[]⟩, z60, 0⟩] = ([], 93) from by unfold zji; rw [print_0]; rfl] at this
  refine this.mono fun e w' hw => ⟨hw.1, ?_⟩
  exact (Below.refl _ _ |>.alloc (Nat.le_refl _) _).trans (hw.2.mono (by simp)))
 have HRi := Zq.mk (fun w A c (h : Below W.heap.size W w) (hC : k62.C w A 1 [zfl]) (hc : 1 ≤ c) => show Calls Tryz.prog 22 #[.agg #[.slice A 1 c]] w fun e W' => e = .returned (.bool true) ∧ Below w.heap.size w W' from by
  have := sright_calls w (hInv.below h) A c [zfl] hC hc (by decide) zqn (by decide +kernel)
  rw [zpk] at this
  exact this)
 have HS1 := Zq.mk (fun w A c (hC : k62.C w A 1 [zfl]) (hc : 1 ≤ c) => show Calls Tryz.prog 24 #[.agg #[.slice A 1 c], .agg #[.slice A 1 c]] w (znj w true) from zja 5 w A A c c [zfl] [zfl] true hC hC hc hc same_A)
 have HS2 := Zq.mk (fun w A c (hC : k62.C w A 1 [zfl]) (hc : 1 ≤ c) => show Calls Tryz.prog 24 #[.agg #[.slice A 1 c], .agg #[.slice none 0 0]] w (znj w false) from zja 5 w A none c 0 [zfl] [] false hC (zpr _ _ _) hc (Nat.le_refl _) same_0)
 unfold srcA at HP1
 unfold srcB at HP2
 clear hInv
 go_enter Tryz.func10, Tryz.ntmps10
 go_upto_region 5 with (first
  | (go_at_call 11; refine HP1.out.mono ?_; rintro e1 w1 ⟨v1, rfl, hP1, hb1⟩; obtain ⟨A1, c1, rfl, hc1, hC1⟩ := hP1.C; have HB1 := Zq.mk (hb1.alloc hb1.size (.cells #[.slice A1 1 c1] 36)); have HC1 := Zq.mk (Kd.C_below hC1 (zab (Below.refl _ _) (.cells #[.slice A1 1 c1] 36))); have HQ1 := Zq.mk (heap_alloc_new w1 (.cells #[.slice A1 1 c1] 36)); have Hc1 := Zq.mk hc1; clear hP1 hC1 hb1 hc1 HP1)
  | (go_at_call 20; refine (HR1.out _ _ _ HB1.out HC1.out Hc1.out).mono ?_; rintro e2 w2 ⟨rfl, hb2⟩; have HB2 := Zq.mk (zas HB1.out HB1.out.size hb2); have HC2 := Zq.mk (Kd.C_below HC1.out hb2); have HQ2 := Zq.mk ((hb2.block _ (zat HQ1.out)).trans HQ1.out); clear HR1 hb2 HB1 HC1 HQ1)
  | (go_at_call 11; refine (HP2.out _ HB2.out).mono ?_; rintro e3 w3 ⟨v3, rfl, hP3, hb3⟩; obtain ⟨A3, c3, rfl, hc3, hC3⟩ := hP3.C; have hbb3 := zab hb3 (.cells #[.slice A3 0 c3] 36); have HB3 := Zq.mk (zas HB2.out HB2.out.size hbb3); have HC3 := Zq.mk (Kd.C_below HC2.out hbb3); have HQ3 := Zq.mk ((hbb3.block _ (zat HQ2.out)).trans HQ2.out); clear HP2 hP3 hb3 hC3 hc3 hbb3 HB2 HC2 HQ2)
  | (go_at_call 20; refine (HR2.out _ _ HB3.out (World.size_alloc ..)).mono ?_; rintro e4 w4 ⟨rfl, hb4⟩; have HB4 := Zq.mk (zas HB3.out HB3.out.size hb4); have HC4 := Zq.mk (Kd.C_below HC3.out hb4); have HQ4 := Zq.mk ((hb4.block _ (zat HQ3.out)).trans HQ3.out); clear HR2 hb4 HB3 HC3 HQ3))
 obtain ⟨ad, A5, c5, A6, c6, A7, c7, A8, c8, rfl, x0, x1, x2, x3, x4, x5, x6, x7, x8, x9, x10, -, -, -, -, -, -, m8, g8⟩ := zor HC4.out 0 (by decide) (by decide)
 replace g8 : k60.C w4 A8 2 [zrn, zqx] := g8
 obtain ⟨bd, B3, b3, B4, b4, B5, b5, B6, b6, rfl, -, -, -, -, -, -, y6, -, -, -, -, -, -, -, -, h6⟩ := zij g8 0 (by decide) (by decide)
 obtain ⟨bd', D3, d3, D4, d4, D5, d5, D6, d6, hbd, -, -, -, -, z4, -, -, -, -, -, -, h4, -, -, -, -⟩ := zij g8 1 (by decide) (by decide)
 obtain rfl : bd = bd' := Option.some.inj hbd
 replace h6 : k60.C w4 B6 1 [cOrA] := h6
 replace h4 : k68.C w4 D4 2 [⟨80, 80⟩, ⟨1, 9⟩] := h4
 obtain ⟨ed, E3, e3', E4, e4', E5, e5', E6, e6', rfl, -, -, -, -, -, -, -, u7, -, -, -, -, -, -, -, -⟩ := zij h6 0 (by decide) (by decide)
 obtain ⟨dd, rfl, v0, v1⟩ := zlg h4 1 (by decide) (by decide)
 have had : ∀ (ad : Addr) (k : Nat), ad.add ((0 : Int).toNat * k) = ad := fun ad k => by show ad.add (0 * k) = ad; rw [Nat.zero_mul]; unfold Addr.add; simp
 rw [had] at x0 x1 x2 x3 x4 x5 x6 x7 x8 x9 x10 y6 u7
 replace x2 : w4.cell? ⟨ad.block, ad.off + 2, none⟩ = some (.int .i64 5) := x2
 replace x3 : w4.cell? ⟨ad.block, ad.off + 3, none⟩ = some (.string ⟨#[]⟩) := x3
 replace x4 : w4.cell? ⟨ad.block, ad.off + 4, none⟩ = some (.string ⟨#[]⟩) := x4
 replace x5 : w4.cell? ⟨ad.block, ad.off + 5, none⟩ = some (.slice A5 0 c5) := x5
 replace x6 : w4.cell? ⟨ad.block, ad.off + 6, none⟩ = some (.slice A6 0 c6) := x6
 replace x7 : w4.cell? ⟨ad.block, ad.off + 7, none⟩ = some (.slice A7 0 c7) := x7
 replace x8 : w4.cell? ⟨ad.block, ad.off + 8, none⟩ = some (.slice (some bd) 2 c8) := x8
 replace x9 : w4.cell? ⟨ad.block, ad.off + 9, none⟩ = some (.int .i64 8) := x9
 replace y6 : w4.cell? ⟨bd.block, bd.off + 6, none⟩ = some (.slice (some ed) 1 b6) := y6
 replace u7 : w4.cell? ⟨ed.block, ed.off + 7, none⟩ = some (.int .i64 13) := u7
 replace z4 : w4.cell? ⟨bd.block, bd.off + 8 + 4, none⟩ = some (.slice (some dd) 2 d4) := z4
 replace v0 : w4.cell? ⟨dd.block, dd.off + 2, none⟩ = some (.int .i64 1) := v0
 replace v1 : w4.cell? ⟨dd.block, dd.off + 2 + 1, none⟩ = some (.int .i64 9) := v1
 have q0 := zae HQ4.out 0
 have HX := Zq.mk (heap_alloc_new w4 (.cells #[.int .i64 5, .string ⟨#[]⟩, .string ⟨#[]⟩, .slice A5 0 c5, .slice A6 0 c6, .slice A7 0 c7, .slice (some bd) 2 c8, .int .i64 8] 60))
 have HF := Zq.mk (fun w (h : Below w4.heap.size w4 w) => And.intro (zao h q0) (And.intro (zao h y6) (And.intro (zao h u7) (And.intro (zao h z4) (And.intro (zao h v0) (zao h v1))))))
 have HK := Zq.mk (fun w (h : Below w4.heap.size w4 w) => Kd.C_below HC4.out h)
 have HA4 := Zq.mk (zab (Below.refl w4.heap.size w4) (.cells #[.int .i64 5, .string ⟨#[]⟩, .string ⟨#[]⟩, .slice A5 0 c5, .slice A6 0 c6, .slice A7 0 c7, .slice (some bd) 2 c8, .int .i64 8] 60))
 clear g8 m8 h6 h4 had hbd x0 x1 x10 y6 u7 z4 v0 v1 HC4 HQ4
 have q0a := fun o => zao (zab (Below.refl w4.heap.size w4) o) q0
 go_wp2_with (first
  | (go_at_call 22; refine (HRi.out _ _ _ (zas HB4.out HB4.out.size HA4.out) (HK.out _ HA4.out) Hc1.out).mono ?_; rintro e5 w5 ⟨rfl, hb5⟩; have HX5 := Zq.mk ((hb5.block _ (zat HX.out)).trans HX.out); have hA5 := zas HA4.out HA4.out.size hb5; have HA5 := Zq.mk hA5; obtain ⟨r0, -⟩ := HF.out _ hA5; clear hb5 hA5 HRi q0 q0a x2 x3 x4 x5 x6 x7 x8 x9)
  | (go_at_call 24; refine (HS1.out _ _ _ (HK.out _ HA5.out) Hc1.out).mono ?_; rintro e6 w6 ⟨rfl, hb6⟩; have HX6 := Zq.mk ((hb6.block _ (zat HX5.out)).trans HX5.out); have hA6 := zas HA5.out HA5.out.size hb6; have HA6 := Zq.mk hA6; obtain ⟨s0, -⟩ := HF.out _ hA6; clear hb6 hA6 HS1 r0)
  | (go_at_call 24; refine (HS2.out _ _ _ (HK.out _ HA6.out) Hc1.out).mono ?_; rintro e7 w7 ⟨rfl, hb7⟩; have hx7 := (hb7.block _ (zat HX6.out)).trans HX6.out; have hA7 := zas HA6.out HA6.out.size hb7; have HA7 := Zq.mk hA7; obtain ⟨t0, t1, t2, t3, t4, t5⟩ := HF.out _ hA7; obtain ⟨p0, p1, p2, p3, p4, p5, p6, p7⟩ := zau hx7; clear hb7 hA7 hx7 HS2 s0))
 go_ret
 exact ⟨rfl, zas HB4.out HB4.out.size HA7.out⟩
end
end Go.Proofs.YtjeekocidaogoaaGreatDoor.H
namespace Go.Proofs.YtjeekocidaogoaaGreatDoor.Hand
open Go.RowKit
section
section
variable {H : Type} {enc : TypeId × Value → H}
theorem handed_shaped {a : Assume} {C : Checked} {os : Os} {f : FuncId} {fn : Func} {s : ChangeSpec} {conds : List PathCond} {apart fresh handsOn again : Bool} {X : World → Array Value → Prop}
  (hX : ∀ (w w' : World) (args : Array Value), w.heap = w'.heap → X w args → X w' args)
  (own : ownKnob C.prog.godebug = none) (started : os.Started) (noInit : C.prog.inits.idxOf? f = none) (hfn : C.prog.funcs[f]? = some fn)
  (witness : ∃ (w : World) (tape : Tape) (i : Input), w.os = os ∧ (w.forCall tape i).Shaped C.prog ∧ i.vars = [] ∧ Input.okWide C.prog (w.forCall tape i) .any w.heap.size f i ∧
   ((s.pre enc C.prog fn conds apart (w.forCall tape i).memory i.args ∧ X (w.forCall tape i).memory i.args) ∧ sizedMet enc C.prog fn (OpenSpec.ofChange s) apart (w.forCall tape i).memory i.args) ∧ a.holds C.prog (lone (Frame.enter C.prog f i.args .normal) [] (w.forCall tape i)))
  (contract : ∀ (W : World) (base : Nat) (args : Array Value) (ds gs : List (DataW H)) (before : List MemPlace),
   (∀ (j : Nat) t v, fn.params[j]? = some t → args[j]? = some v → Value.okWide C.prog W .any base t v) →
   DataW.Whole enc C.prog fn.params.toList s.vars apart W args.toList ds gs before →
   conds.all (PathCond.test C.prog ⟨fn.params.toList, ds, s.plain.varTypes C.prog, gs⟩) = true →
   (DataW.weightsEach C.prog (fn.params.toList ++ s.plain.varTypes C.prog) (ds ++ gs)).all (· ≤ reachBytes) = true → X W args → W.ShapedOpen C.prog →
   a.holds C.prog (lone (Frame.enter C.prog f args .normal) [] W) →
   Calls C.prog f args W fun e W' => ∃ v, e = .returned v ∧ s.post enc C.prog fn apart fresh handsOn again W args v W') :
  ReturnsInHanded a C os f .any (fun w args => (s.pre enc C.prog fn conds apart w args ∧ X w args) ∧ sizedMet enc C.prog fn (OpenSpec.ofChange s) apart w args) (s.post enc C.prog fn apart fresh handsOn again) := by
 refine returnsInHanded_of_calls own started noInit witness ?_
 intro w tape i _ hsh _ hok hpre hholds
 obtain ⟨_, _, _, fn', hfn', _, _, _, _, hval⟩ := hok
 have e : fn' = fn := Option.some.inj (hfn'.symm.trans hfn)
 subst e
 obtain ⟨⟨⟨ds, gs, before, hw, hc⟩, hx⟩, hz⟩ := hpre
 have hw' := DataW.Whole.of_heap (w' := w.forCall tape i) (by rfl) hw
 refine (contract (w.forCall tape i) w.heap.size i.args ds gs before hval hw' hc (hz.weights hw) (hX _ _ _ (by rfl) hx) hsh hholds).mono fun e W' ⟨v, he, hp⟩ => ?_
 subst he
 exact ChangeSpec.post_blind hp
end
abbrev zlw : List (String × DataW Unit) := [("math/bits.deBruijn32tab", Rows.laid_math_bits_deBruijn32tab), ("math/bits.deBruijn64tab", Rows.laid_math_bits_deBruijn64tab), ("internal/strconv.uint64pow10", Rows.laid_internal_strconv_uint64pow10), ("unicode/utf8.acceptRanges", Rows.laid_unicode_utf8_acceptRanges), ("strconv.ErrRange", Rows.laid_strconv_ErrRange), ("strconv.ErrSyntax", Rows.laid_strconv_ErrSyntax), ("unicode.White_Space", Rows.laid_unicode_White_Space), ("strings.asciiSpace", Rows.laid_strings_asciiSpace), ("unicode/utf8.first", Rows.laid_unicode_utf8_first)]
theorem zrl : ("*errors.errorString" : String) = "*" ++ "errors.errorString" := by decide
theorem zpg (u : TypeId) (h : Tryz.prog.typeName? 3 u = some "*errors.errorString") : u = 234 :=
 typeName_ptr_named (nm := "errors.errorString") (by rw [← zrl]; kernel_rfl) (by kernel_rfl) (by decide) u (by rw [← zrl]; exact h)
theorem zqq {W : World} {name : String} {k : IntKind} {zs : List Int} {g : Nat} {t e : TypeId} {n : Nat} {d : DataW Unit}
  (hg : Tryz.prog.globalNamed name = some g) (hty : (Tryz.prog.globals[g]?).map (·.type) = some t) (ht : Tryz.prog.underlying t = some (.array n e)) (he : Tryz.prog.underlying e = some (.int k)) (hce : Tryz.prog.cellsOf e = 1) (hct : Tryz.prog.cellsOf t = n)
  (hd : d = Lib.tabData k zs) (h : laidMet Tryz.prog zlw W) (hm : (name, d) ∈ zlw) : Lib.TabIs Tryz.prog W name k zs := by
 obtain ⟨g', t', cs, fuel, p, hg', ht', hvar, hr⟩ := Lib.laidMet.reads h hm
 obtain rfl := Option.some.inj (hg.symm.trans hg')
 obtain rfl := Option.some.inj (hty.symm.trans ht')
 subst hd
 unfold Lib.TabIs
 rw [hvar, ← Lib.cells_of_tab ht he hce hct hr]
theorem inv_of_laid {W : World} (h : laidMet Tryz.prog zlw W) (hsh : W.ShapedOpen Tryz.prog) : Inv W where
 space := zqq (g := 0) (by kernel_rfl) (by kernel_rfl) (t := 155) (n := 256) (by kernel_rfl) (e := 5) (by kernel_rfl) (by kernel_rfl) (by kernel_rfl) (d := Rows.laid_strings_asciiSpace) (by kernel_rfl) h (by simp [zlw])
 pow10 := zqq (g := 5) (by kernel_rfl) (by kernel_rfl) (t := 238) (n := 20) (by kernel_rfl) (e := 212) (by kernel_rfl) (by kernel_rfl) (by kernel_rfl) (d := Rows.laid_internal_strconv_uint64pow10) (by kernel_rfl) h (by simp [zlw])
 errR := by
  obtain ⟨a, s, hv, _⟩ := laid_sentinel (g := 4) h.tail.tail.tail.tail (by kernel_rfl) (by kernel_rfl) (ti := 139) Tryz.underlying139 zpg (by kernel_rfl) (te := 236) Tryz.underlying236 rfl rfl (ts := 9) (by kernel_rfl) (by kernel_rfl) (by kernel_rfl)
  exact ⟨_, _, hv⟩
 errS := by
  obtain ⟨a, s, hv, _⟩ := laid_sentinel (g := 3) h.tail.tail.tail.tail.tail (by kernel_rfl) (by kernel_rfl) (ti := 139) Tryz.underlying139 zpg (by kernel_rfl) (te := 236) Tryz.underlying236 rfl rfl (ts := 9) (by kernel_rfl) (by kernel_rfl) (by kernel_rfl)
  exact ⟨_, _, hv⟩
 maxLen := Tryz.laysM145.s1_3 W hsh
end
end Go.Proofs.YtjeekocidaogoaaGreatDoor.Hand
namespace Go.Proofs.YtjeekocidaogoaaGreatDoor.H
open Go.RowKit Go.Proofs.YtjeekocidaogoaaGreatDoor.Hand Go.Proofs.YtjeekocidaogoaaGreatDoorW.PrintWords Go.Proofs.YtjeekocidaogoaaGreatDoorW.PrintLast Go.Proofs.YtjeekocidaogoaaGreatDoorW.PrintMore
section
def Agr (toks toks' : List Tok) (q : Nat) : Prop := ∀ t, t ≤ q → tk toks' t = tk toks t
def Cut (toks toks' : List Tok) (c : Nat) : Prop := (∀ t, t < c → tk toks' t = tk toks t) ∧ (tk toks' c).kind = 8 ∧ (tk toks' c).place = (tk toks c).place
def Upto (toks toks' : List Tok) (j : Nat) : Prop := (∀ t, t < j → tk toks' t = tk toks t) ∧ (tk toks' j = tk toks j ∨ (tk toks' j).kind = 8)
def zgm (toks : List Tok) (i j : Nat) : Prop := ∀ t, i ≤ t → t < j → isT (tk toks t) zff = false
theorem Cut.upto {toks toks' : List Tok} {c j : Nat} (h : Cut toks toks' c) (hj : j ≤ c) : Upto toks toks' j :=
 ⟨fun t ht => h.1 t (by omega), by
  by_cases e : j = c
  ·subst e; exact .inr h.2.1
  ·exact .inl (h.1 j (by omega))⟩
theorem Agr.upto {toks toks' : List Tok} {q j : Nat} (h : Agr toks toks' q) (hj : j ≤ q) : Upto toks toks' j := ⟨fun t ht => h t (by omega), .inl (h j hj)⟩
theorem Upto.le {toks toks' : List Tok} {j m : Nat} (h : Upto toks toks' m) (hj : j ≤ m) : Upto toks toks' j :=
 ⟨fun t ht => h.1 t (by omega), by
  by_cases e : j = m
  ·subst e; exact h.2
  ·exact .inl (h.1 j (by omega))⟩
theorem zgm.join {toks : List Tok} {i j k : Nat} (h1 : zgm toks i j) (h2 : zgm toks j k) : zgm toks i k := fun t h h' => by
 by_cases e : t < j
 ·exact h1 t h e
 ·exact h2 t (by omega) h'
theorem zgm.nil (toks : List Tok) (i : Nat) : zgm toks i i := fun t h h' => by omega
theorem zgm.cons {toks : List Tok} {i k : Nat} (h : isT (tk toks i) zff = false) (h2 : zgm toks (i + 1) k) : zgm toks i k := fun t h1 h' => by
 by_cases e : t = i
 ·subst e; exact h
 ·exact h2 t (by omega) h'
theorem zcz {t : Tok} (h : t.kind = 8) (s : ByteArray) : isT t s = false := by
 cases hb : isT t s with
 | false => rfl
 | true => exact absurd h (zbk hb)
def CLaw {α : Type} (toks : List Tok) (R : α → α → Prop) (H : α → Nat → Prop) (G : List Tok → Nat → Option (PR α)) (i0 i : Nat) : Prop :=
 ∀ r, G toks i = some r → match r with
 | .ok x j => i ≤ j ∧ H x j ∧ (i < toks.length → j < toks.length) ∧ zgm toks i j ∧ (∀ toks', Upto toks toks' j → G toks' i = some (.ok x j)) ∧
   ∀ c toks', i ≤ c → c < j → Cut toks toks' c → G toks' i = some (.bad 90 (tk toks c).place) ∨ ∃ y, G toks' i = some (.ok y c) ∧ R y x
 | .bad e p => ∃ q, i ≤ q ∧ (i < toks.length → q < toks.length) ∧ zgm toks i q ∧ (∀ toks', Agr toks toks' q → G toks' i = some (.bad e p)) ∧
   ((e = 91 ∧ ∃ h, i0 ≤ h ∧ h ≤ q ∧ p = (tk toks h).place ∧ ∀ c toks', i ≤ c → c ≤ q → Cut toks toks' c →
     G toks' i = none ∨ G toks' i = some (.bad 90 (tk toks c).place) ∨ (∃ y, G toks' i = some (.ok y c)) ∨ ∃ h', h' ≤ h ∧ G toks' i = some (.bad 91 (tk toks h').place)) ∨
    ((e = 90 ∨ e = 92) ∧ p = (tk toks q).place ∧ ∀ toks', Cut toks toks' q → G toks' i = some (.bad 90 p)))
section
variable {α β : Type} {toks : List Tok} {R : α → α → Prop} {R' : β → β → Prop} {H : α → Nat → Prop} {H' : β → Nat → Prop} {G A : List Tok → Nat → Option (PR α)} {i0 i : Nat}
theorem CLaw.mono {R2 : α → α → Prop} {H2 : α → Nat → Prop} {k0 : Nat} (h : CLaw toks R H G i0 i) (hR : ∀ y x, R y x → R2 y x) (hH : ∀ x j, i ≤ j → H x j → H2 x j) (hi : k0 ≤ i0) : CLaw toks R2 H2 G k0 i := by
 intro r hr
 have := h r hr
 cases r with
 | ok x j =>
  obtain ⟨h1, h2, hl, h3, h4, h5⟩ := this
  exact ⟨h1, hH x j h1 h2, hl, h3, h4, fun c toks' a1 a2 a3 => (h5 c toks' a1 a2 a3).imp id fun ⟨y, hy, hR'⟩ => ⟨y, hy, hR y x hR'⟩⟩
 | bad e p =>
  obtain ⟨q, h1, hl, h2, h3, h4⟩ := this
  refine ⟨q, h1, hl, h2, h3, h4.imp (fun ⟨e1, hh, k1, k2⟩ => ⟨e1, hh, by omega, k2⟩) id⟩
variable (hend : ∀ k, k < toks.length → (tk toks k).kind ≠ 8 → k + 1 < toks.length)
include hend in
theorem CLaw.tok (T : Tok → Prop) [DecidablePred T] (f : Tok → α) (hT : ∀ t, t.kind = 8 → ¬ T t) (hS : ∀ t, T t → isT t zff = false) (hH : T (tk toks i) → H (f (tk toks i)) (i + 1)) :
  CLaw toks R H (fun toks i => some (if T (tk toks i) then .ok (f (tk toks i)) (i + 1) else .bad 90 (tk toks i).place)) i0 i := by
 intro r hr
 dsimp only at hr
 by_cases h : T (tk toks i)
 ·rw [if_pos h] at hr
  obtain rfl := Option.some.inj hr
  refine ⟨by omega, hH h, fun hi => hend i hi (fun e => hT _ e h), zgm.cons (hS _ h) (zgm.nil _ _), fun toks' hu => ?_, fun c toks' h1 h2 hc => ?_⟩
  ·dsimp only
   rw [hu.1 i (by omega), if_pos h]
  ·obtain rfl : c = i := by omega
   dsimp only
   rw [if_neg (hT _ hc.2.1), hc.2.2]
   exact .inl rfl
 ·rw [if_neg h] at hr
  obtain rfl := Option.some.inj hr
  refine ⟨i, Nat.le_refl _, id, zgm.nil _ _, fun toks' hu => ?_, .inr ⟨.inl rfl, rfl, fun toks' hc => ?_⟩⟩
  ·dsimp only
   rw [hu i (Nat.le_refl _), if_neg h]
  ·dsimp only
   rw [if_neg (hT _ hc.2.1), hc.2.2]
theorem CLaw.fail : CLaw toks R H (fun toks i => some (.bad 90 (tk toks i).place)) i0 i := by
 intro r hr
 obtain rfl := Option.some.inj hr
 refine ⟨i, Nat.le_refl _, id, zgm.nil _ _, fun toks' hu => ?_, .inr ⟨.inl rfl, rfl, fun toks' hc => ?_⟩⟩
 ·dsimp only
  rw [hu i (Nat.le_refl _)]
 ·dsimp only
  rw [hc.2.2]
theorem CLaw.pure (x : α) (hH : H x i) : CLaw toks R H (fun _ i => some (.ok x i)) i0 i := by
 intro r hr
 obtain rfl := Option.some.inj hr
 exact ⟨Nat.le_refl _, hH, id, zgm.nil _ _, fun toks' hu => rfl, fun c toks' h1 h2 hc => by omega⟩
theorem CLaw.ite_neg (T : Tok → Prop) [DecidablePred T] (B : List Tok → Nat → Option (PR α)) (hT : ∀ t, t.kind = 8 → ¬ T t) (h : ¬ T (tk toks i)) (hA : CLaw toks R H A i0 i) :
  CLaw toks R H (fun toks i => if T (tk toks i) then B toks i else A toks i) i0 i := by
 intro r hr
 dsimp only at hr
 rw [if_neg h] at hr
 have hu0 : ∀ m toks', i ≤ m → Upto toks toks' m → ¬ T (tk toks' i) := fun m toks' hm hu => by
  rcases (hu.le hm).2 with e | e
  ·rw [e]; exact h
  ·exact hT _ e
 have := hA r hr
 cases r with
 | ok x j =>
  obtain ⟨h1, h2, hl, h3, h4, h5⟩ := this
  refine ⟨h1, h2, hl, h3, fun toks' hu => ?_, fun c toks' k1 k2 hc => ?_⟩
  ·dsimp only
   rw [if_neg (hu0 j toks' h1 hu)]
   exact h4 toks' hu
  ·dsimp only
   rw [if_neg (hu0 c toks' k1 (hc.upto (Nat.le_refl _)))]
   exact h5 c toks' k1 k2 hc
 | bad e p =>
  obtain ⟨q, h1, hl, h2, h3, h4⟩ := this
  refine ⟨q, h1, hl, h2, fun toks' hu => ?_, h4.imp (fun ⟨e1, hh, k1, k2, k3, k4⟩ => ⟨e1, hh, k1, k2, k3, fun c toks' a1 a2 hc => ?_⟩) fun ⟨e1, e2, e3⟩ => ⟨e1, e2, fun toks' hc => ?_⟩⟩
  ·dsimp only
   rw [if_neg (hu0 q toks' h1 (hu.upto (Nat.le_refl _)))]
   exact h3 toks' hu
  ·dsimp only
   rw [if_neg (hu0 c toks' a1 (hc.upto (Nat.le_refl _)))]
   exact k4 c toks' a1 a2 hc
  ·dsimp only
   rw [if_neg (hu0 q toks' h1 (hc.upto (Nat.le_refl _)))]
   exact e3 toks' hc
include hend in
theorem CLaw.ite_pos (T : Tok → Prop) [DecidablePred T] (B : Tok → List Tok → Nat → Option (PR α)) {H1 : α → Nat → Prop} (hT : ∀ t, t.kind = 8 → ¬ T t) (h : T (tk toks i)) (hS : isT (tk toks i) zff = false) (hB : CLaw toks R H1 (B (tk toks i)) i0 (i + 1))
  (hH : ∀ x j, i + 1 ≤ j → H1 x j → H x j) (hA : ∀ toks', (tk toks' i).kind = 8 → A toks' i = some (.bad 90 (tk toks' i).place)) :
  CLaw toks R H (fun toks i => if T (tk toks i) then B (tk toks i) toks (i + 1) else A toks i) i0 i := by
 intro r hr
 dsimp only at hr
 rw [if_pos h] at hr
 have hu0 : ∀ toks', tk toks' i = tk toks i → (if T (tk toks' i) then B (tk toks' i) toks' (i + 1) else A toks' i) = B (tk toks i) toks' (i + 1) := fun toks' e => by
  rw [e, if_pos h]
 have hu1 : ∀ toks', Cut toks toks' i → (if T (tk toks' i) then B (tk toks' i) toks' (i + 1) else A toks' i) = some (.bad 90 (tk toks i).place) := fun toks' e => by
  rw [if_neg (hT _ e.2.1), hA toks' e.2.1, e.2.2]
 have := hB r hr
 cases r with
 | ok x j =>
  obtain ⟨h1, h2, hl, h3, h4, h5⟩ := this
  refine ⟨by omega, hH x j h1 h2, fun hi => hl (hend i hi (fun e => hT _ e h)), h3.cons hS, fun toks' hu => ?_, fun c toks' k1 k2 hc => ?_⟩
  ·dsimp only
   rw [hu0 toks' (hu.1 i (by omega))]
   exact h4 toks' hu
  ·dsimp only
   by_cases hci : c = i
   ·subst hci
    exact .inl (hu1 toks' hc)
   ·rw [hu0 toks' (hc.1 i (by omega))]
    exact h5 c toks' (by omega) k2 hc
 | bad e p =>
  obtain ⟨q, h1, hl, h2, h3, h4⟩ := this
  refine ⟨q, by omega, fun hi => hl (hend i hi (fun e => hT _ e h)), h2.cons hS, fun toks' hu => ?_, h4.imp (fun ⟨e1, hh, k1, k2, k3, k4⟩ => ⟨e1, hh, k1, k2, k3, fun c toks' a1 a2 hc => ?_⟩) fun ⟨e1, e2, e3⟩ => ⟨e1, e2, fun toks' hc => ?_⟩⟩
  ·dsimp only
   rw [hu0 toks' (hu i (by omega))]
   exact h3 toks' hu
  ·dsimp only
   by_cases hci : c = i
   ·subst hci
    exact .inr (.inl (hu1 toks' hc))
   ·rw [hu0 toks' (hc.1 i (by omega))]
    exact k4 c toks' (by omega) a2 hc
  ·dsimp only
   rw [hu0 toks' (hc.1 i (by omega))]
   exact e3 toks' hc
def zcl (G : List Tok → Nat → Option (PR α)) (F : α → List Tok → Nat → Option (PR β)) : List Tok → Nat → Option (PR β) := fun toks i =>
 match G toks i with
 | none => none
 | some (.bad e p) => some (.bad e p)
 | some (.ok x j) => F x toks j
theorem zcb {F : α → List Tok → Nat → Option (PR β)} {x : α} {j : Nat} (h : G toks i = some (.ok x j)) : zcl G F toks i = F x toks j := by unfold zcl; rw [h]
theorem zbu {F : α → List Tok → Nat → Option (PR β)} {e p : Int} (h : G toks i = some (.bad e p)) : zcl G F toks i = some (.bad e p) := by unfold zcl; rw [h]
theorem CLaw.bind {F : α → List Tok → Nat → Option (PR β)} (hG : CLaw toks R H G i0 i) (hF : ∀ x j, i ≤ j → H x j → CLaw toks R' H' (F x) i0 j) (hE : ∀ x c toks', (tk toks' c).kind = 8 → F x toks' c = some (.bad 90 (tk toks' c).place) ∨ ∃ y, F x toks' c = some (.ok y c) ∧ ∀ z, R' y z) :
  CLaw toks R' H' (zcl G F) i0 i := by
 intro r hr
 cases hg : G toks i with
 | none => unfold zcl at hr; rw [hg] at hr; cases hr
 | some s =>
 have hg2 := hG s hg
 cases s with
 | bad e p =>
  rw [zbu hg] at hr
  obtain rfl := Option.some.inj hr
  obtain ⟨q, h1, hl, h2, h3, h4⟩ := hg2
  refine ⟨q, h1, hl, h2, fun toks' hu => zbu (h3 toks' hu), h4.imp (fun ⟨e1, hh, k1, k2, k3, k4⟩ => ⟨e1, hh, k1, k2, k3, fun c toks' a1 a2 hc => ?_⟩) fun ⟨e1, e2, e3⟩ => ⟨e1, e2, fun toks' hc => zbu (e3 toks' hc)⟩⟩
  rcases k4 c toks' a1 a2 hc with h | h | ⟨y, h⟩ | ⟨h', hle, h⟩
  ·left
   unfold zcl
   rw [h]
  ·exact .inr (.inl (zbu h))
  ·rw [zcb h, ← hc.2.2]
   rcases hE y c toks' hc.2.1 with h | ⟨z, h, -⟩
   ·exact .inr (.inl h)
   ·exact .inr (.inr (.inl ⟨z, h⟩))
  ·exact .inr (.inr (.inr ⟨h', hle, zbu h⟩))
 | ok x j =>
  rw [zcb hg] at hr
  obtain ⟨h1, h2, hl, h3, h4, h5⟩ := hg2
  have hf2 := hF x j h1 h2 r hr
  have hin : ∀ c toks', i ≤ c → c < j → Cut toks toks' c → zcl G F toks' i = some (.bad 90 (tk toks c).place) ∨ ∃ y, zcl G F toks' i = some (.ok y c) ∧ ∀ z, R' y z := fun c toks' a1 a2 hc => by
   rcases h5 c toks' a1 a2 hc with h | ⟨y, h, -⟩
   ·exact .inl (zbu h)
   ·rw [zcb h, ← hc.2.2]
    exact hE y c toks' hc.2.1
  cases r with
  | ok y m =>
   obtain ⟨k1, k2, kl, k3, k4, k5⟩ := hf2
   refine ⟨by omega, k2, fun hi => kl (hl hi), h3.join k3, fun toks' hu => ?_, fun c toks' a1 a2 hc => ?_⟩
   ·rw [zcb (h4 toks' (hu.le k1))]
    exact k4 toks' hu
   ·by_cases hcj : c < j
    ·exact (hin c toks' a1 hcj hc).imp id fun ⟨z, h, hz⟩ => ⟨z, h, hz _⟩
    ·rw [zcb (h4 toks' (hc.upto (by omega)))]
     exact k5 c toks' (by omega) a2 hc
  | bad e p =>
   obtain ⟨q, k1, kl, k2, k3, k4⟩ := hf2
   refine ⟨q, by omega, fun hi => kl (hl hi), h3.join k2, fun toks' hu => ?_, k4.imp (fun ⟨e1, hh, l1, l2, l3, l4⟩ => ⟨e1, hh, l1, l2, l3, fun c toks' a1 a2 hc => ?_⟩) fun ⟨e1, e2, e3⟩ => ⟨e1, e2, fun toks' hc => ?_⟩⟩
   ·rw [zcb (h4 toks' (hu.upto k1))]
    exact k3 toks' hu
   ·by_cases hcj : c < j
    ·exact .inr ((hin c toks' a1 hcj hc).imp id fun ⟨z, h, hz⟩ => .inl ⟨z, h⟩)
    ·rw [zcb (h4 toks' (hc.upto (by omega)))]
     exact l4 c toks' (by omega) a2 hc
   ·rw [zcb (h4 toks' (hc.upto k1))]
    exact e3 toks' hc
include hend in
theorem CLaw.tokbind {F : α → List Tok → Nat → Option (PR β)} (T : Tok → Prop) [DecidablePred T] (f : Tok → α) (hT : ∀ t, t.kind = 8 → ¬ T t) (hS : ∀ t, T t → isT t zff = false) (hF : T (tk toks i) → CLaw toks R' H' (F (f (tk toks i))) i0 (i + 1)) :
  CLaw toks R' H' (zcl (fun toks i => some (if T (tk toks i) then .ok (f (tk toks i)) (i + 1) else .bad 90 (tk toks i).place)) F) i0 i := by
 have e : zcl (fun toks i => some (if T (tk toks i) then .ok (f (tk toks i)) (i + 1) else .bad 90 (tk toks i).place)) F = fun toks i => if T (tk toks i) then (fun t => F (f t)) (tk toks i) toks (i + 1) else (fun toks i => some (.bad 90 (tk toks i).place)) toks i := by
  funext toks i
  unfold zcl
  by_cases h : T (tk toks i)
  ·simp only [if_pos h]
  ·simp only [if_neg h]
 rw [e]
 by_cases h : T (tk toks i)
 ·exact CLaw.ite_pos hend T (fun t => F (f t)) hT h (hS _ h) (hF h) (fun _ _ _ h => h) fun _ _ => rfl
 ·exact CLaw.ite_neg T (fun toks i => F (f (tk toks i)) toks (i + 1)) hT h CLaw.fail
theorem CLaw.map (f : α → β) (hG : CLaw toks R H G i0 i) (hR : ∀ y x, R y x → R' (f y) (f x)) (hH : ∀ x j, i ≤ j → H x j → H' (f x) j) :
  CLaw toks R' H' (fun toks i => (G toks i).map fun r => r.bind fun x j => .ok (f x) j) i0 i := by
 intro r hr
 dsimp only at hr
 obtain ⟨s, hs, rfl⟩ := Option.map_eq_some_iff.1 hr
 have := hG s hs
 cases s with
 | ok x j =>
  obtain ⟨h1, h2, hl, h3, h4, h5⟩ := this
  refine ⟨h1, hH x j h1 h2, hl, h3, fun toks' hu => ?_, fun c toks' k1 k2 hc => ?_⟩
  ·dsimp only
   rw [h4 toks' hu]; rfl
  ·dsimp only
   rcases h5 c toks' k1 k2 hc with h | ⟨y, h, hy⟩
   ·rw [h]; exact .inl rfl
   ·rw [h]; exact .inr ⟨f y, rfl, hR y x hy⟩
 | bad e p =>
  obtain ⟨q, h1, hl, h2, h3, h4⟩ := this
  refine ⟨q, h1, hl, h2, fun toks' hu => ?_, h4.imp (fun ⟨e1, hh, k1, k2, k3, k4⟩ => ⟨e1, hh, k1, k2, k3, fun c toks' a1 a2 hc => ?_⟩) fun ⟨e1, e2, e3⟩ => ⟨e1, e2, fun toks' hc => ?_⟩⟩
  ·dsimp only
   rw [h3 toks' hu]; rfl
  ·dsimp only
   rcases k4 c toks' a1 a2 hc with h | h | ⟨y, h⟩ | ⟨h', hle, h⟩
   ·rw [h]; exact .inl rfl
   ·rw [h]; exact .inr (.inl rfl)
   ·rw [h]; exact .inr (.inr (.inl ⟨f y, rfl⟩))
   ·rw [h]; exact .inr (.inr (.inr ⟨h', hle, rfl⟩))
  ·dsimp only
   rw [e3 toks' hc]; rfl
end
end
end Go.Proofs.YtjeekocidaogoaaGreatDoor.H

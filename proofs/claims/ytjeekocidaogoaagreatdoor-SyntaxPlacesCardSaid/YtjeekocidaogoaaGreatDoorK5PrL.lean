/- The printer's leaves: names, texts, prefixes, ports, zht. -/
/- The printer on conditions: what they bear beside their kind; how strongly they bind; the specification. -/
/- Contracts of Go functions as plain Lean functions, written by a program of this session (wip/hand) out of the translation. -/
/- Contracts of Go functions as plain Lean functions, written by a program of this session (wip/hand) out of the translation. -/
/- Contracts of Go functions as plain Lean functions, written by a program of this session (wip/hand) out of the translation. -/
import Derived.Test.YtjeekocidaogoaaGreatDoorK5PrN
import Derived.Test.YtjeekocidaogoaaGreatDoorK5Item
import Derived.Test.YtjeekocidaogoaaGreatDoorK5Hx7
import Derived.Test.YtjeekocidaogoaaGreatDoorK5Deep
import Derived.Deep.RegionHeld3
import Derived.Lib.ItoaLen
import Derived.Lib.ConvBytes
import Derived.Test.YtjeekocidaogoaaGreatDoorK5Tree
import Derived.Test.YtjeekocidaogoaaGreatDoorK5Src
set_option linter.unusedVariables false
set_option linter.unusedSimpArgs false
set_option maxRecDepth 100000
set_option maxHeartbeats 8000000
namespace Go.Proofs.YtjeekocidaogoaaGreatDoor.H
open Go.RowKit Go.Proofs.YtjeekocidaogoaaGreatDoor.Hand Go.Proofs.YtjeekocidaogoaaGreatDoorW.PrintWords Go.Proofs.YtjeekocidaogoaaGreatDoorW.PrintLast Go.Proofs.YtjeekocidaogoaaGreatDoorW.PrintMore
section
def zbf (t : ByteArray) (s : PQ) : PQ := (s.must (zgs t)).one (bl t)
def zbv (t : ByteArray) (s : PQ) : PQ := (s.must (decide ((zdl t).2 = 0))).signs (bl (zdl t).1)
def zjk (a p : Int) (s : PQ) : PQ :=
 if p = 32 then ((s.must (decide ((zdu a p).2 = 0))).must (decide ((zet a).2 = 0))).signs (zet a).1 else (s.must (decide ((zdu a p).2 = 0))).signs (zdu a p).1
def zhi (n : Int) : Bool := decide (0 ≤ n) && decide (n ≤ 4294967295)
def zmu (lo hi : Int) (s : PQ) : PQ :=
 if hi = lo then (s.must (zhi lo && zhi hi)).signs (Lib.itoa lo) else ((s.must (zhi lo && zhi hi)).signs (Lib.itoa lo)).signs (45 :: Lib.itoa hi)
def zls (t : ByteArray) (s : PQ) : PQ := ((s.must (decide (1 ≤ t.size) && decide (t.size ≤ 16))).must ((bl t).all fun b => decide (65 ≤ b.toNat) && decide (b.toNat ≤ 90))).one (bl t)
theorem zfj (W0 W : World) (g : Nat) (s : PQ) (t : ByteArray) (hInv : Inv W0) (h : PrS W0 W g s) (hl : s.out.length + t.size + 1 ≤ 140737488351232) :
  Calls Tryz.prog 68 #[.pointer (some ⟨g, 0, none⟩), .string t] W (PrE W0 W g (zbf t s)) := by
 have HN := Zq.mk (lex_IsName.calls 100 t _ W (hInv.below h.bel) (lex_isname_eq t (by omega) 100 (Nat.le_refl _)))
 have HM := Zq.mk (fun w (h : PrS W0 w g s) => zbe W0 w g s (zgs t) h)
 have HW := Zq.mk (fun w (h : PrS W0 w g (s.must (zgs t))) => zbs W0 w g _ t h (by rw [zbc]; omega))
 have HS := Zq.mk h
 unfold zbf
 generalize zgs t = b at HN HM HW ⊢
 clear h hInv hl
 go_enter Tryz.func68, Tryz.ntmps68
 go_wp2_with (first
  | (go_at_call 103; refine HN.out.mono ?_; rintro e1 w1 ⟨rfl, hb1⟩; have HS1 := Zq.mk (HS.out.below hb1); have HT1 := Zq.mk (Stp.of_below hb1 HS.out.lt); clear hb1 HN)
  | (go_at_call 65; refine (HM.out _ HS1.out).mono ?_; rintro e2 w2 ⟨rfl, hS2, hT2⟩; have HS2 := Zq.mk hS2; have HT2 := Zq.mk (HT1.out.trans hT2); clear hS2 hT2 HM)
  | (go_at_call 67; refine (HW.out _ HS2.out).mono ?_; rintro e3 w3 ⟨rfl, hS3, hT3⟩))
 first | go_end0 | (refine bodyPost_ret (results_none rfl _ _ _) rfl ?_)
 exact ⟨rfl, hS3, HT2.out.trans hT3⟩
theorem zew (W0 W : World) (g : Nat) (s : PQ) (t : ByteArray) (h : PrS W0 W g s) (hl : s.out.length + 402 ≤ 140737488351232) :
  Calls Tryz.prog 141 #[.pointer (some ⟨g, 0, none⟩), .string t] W (PrE W0 W g (zbv t s)) := by
 have HN := Zq.mk (lex_Quote.calls 1000 t (zdl t).1 (zdl t).2 W (lex_quote_ev t 1000 (Nat.le_refl _)))
 have hq := zkr t
 have HW := Zq.mk (fun w (h : PrS W0 w g (s.must (decide ((zdl t).2 = 0)))) => zbp W0 w g _ (zdl t).1 h (by rw [zbc]; omega))
 have HM := Zq.mk (fun w b (hb : b = decide ((zdl t).2 = 0)) (h : PrS W0 w g s) => show Calls Tryz.prog 65 #[.pointer (some ⟨g, 0, none⟩), .bool b] w (PrE W0 w g (s.must (decide ((zdl t).2 = 0)))) from hb ▸ zbe W0 w g s _ h)
 have HS := Zq.mk h
 unfold zbv
 generalize s.must (decide ((zdl t).2 = 0)) = s1 at HM HW ⊢
 generalize (zdl t).2 = z at HN HM
 generalize (zdl t).1 = q at HN HW ⊢
 clear h hl hq
 go_enter Tryz.func141, Tryz.ntmps141
 go_wp2_with (first
  | (go_at_call 172; refine HN.out.mono ?_; rintro e1 w1 ⟨rfl, hb1⟩; have HS1 := Zq.mk (HS.out.below hb1); have HT1 := Zq.mk (Stp.of_below hb1 HS.out.lt); clear hb1 HN)
  | (go_at_call 65; refine (HM.out _ _ (by first | rfl | simp) HS1.out).mono ?_; rintro e2 w2 ⟨rfl, hS2, hT2⟩; have HS2 := Zq.mk hS2; have HT2 := Zq.mk (HT1.out.trans hT2); clear hS2 hT2 HM)
  | (go_at_call 69; refine (HW.out _ HS2.out).mono ?_; rintro e3 w3 ⟨rfl, hS3, hT3⟩))
 first | go_end0 | (refine bodyPost_ret (results_none rfl _ _ _) rfl ?_)
 exact ⟨rfl, hS3, HT2.out.trans hT3⟩
theorem pprefix_one (W0 W : World) (g : Nat) (s : PQ) (a p : Int) (hInv : Inv W0) (h : PrS W0 W g s) (hl : s.out.length + 20 ≤ 140737488351232) :
  Calls Tryz.prog 136 #[.pointer (some ⟨g, 0, none⟩), .agg #[.int .i64 a, .int .i64 p]] W (PrE W0 W g (zjk a p s)) := by
 have hq1 : (zdu a p).1.length ≤ 19 := by
  unfold zdu
  split
  ·rename_i hc
   have hp : 0 ≤ p ∧ p ≤ 32 := by
    unfold addr_right.f at hc
    split at hc
    ·rename_i h2; exact ⟨h2.1, h2.2.1⟩
    ·simp at hc
   have h1 := zfy a
   have h2 := zdz hp.1 (by omega)
   simp
   omega
  ·simp
 have hq2 : (zet a).1.length ≤ 15 := by
  unfold zet
  split
  ·simp
  ·exact zfy a
 have HI := Zq.mk hInv
 have HP := Zq.mk (fun w (h : PrS W0 w g s) => prefix_calls a p w (hInv.below h.bel))
 have HA := Zq.mk (fun w (h : PrS W0 w g (s.must (decide ((zdu a p).2 = 0)))) => print_calls a w (hInv.below h.bel))
 have HM := Zq.mk (fun w b (hb : b = decide ((zdu a p).2 = 0)) (h : PrS W0 w g s) => show Calls Tryz.prog 65 #[.pointer (some ⟨g, 0, none⟩), .bool b] w (PrE W0 w g (s.must (decide ((zdu a p).2 = 0)))) from hb ▸ zbe W0 w g s _ h)
 have HM2 := Zq.mk (fun w b (hb : b = decide ((zet a).2 = 0)) (h : PrS W0 w g (s.must (decide ((zdu a p).2 = 0)))) => show Calls Tryz.prog 65 #[.pointer (some ⟨g, 0, none⟩), .bool b] w (PrE W0 w g ((s.must (decide ((zdu a p).2 = 0))).must (decide ((zet a).2 = 0)))) from hb ▸ zbe W0 w g _ _ h)
 have HG := Zq.mk (fun w (h : PrS W0 w g (s.must (decide ((zdu a p).2 = 0)))) => zbp W0 w g _ (tB (zdu a p).1) h (by rw [zbc]; show _ + (zdu a p).1.length ≤ _; omega))
 have HG2 := Zq.mk (fun w (h : PrS W0 w g ((s.must (decide ((zdu a p).2 = 0))).must (decide ((zet a).2 = 0)))) => zbp W0 w g _ (tB (zet a).1) h (by rw [zbc, zbc]; show _ + (zet a).1.length ≤ _; omega))
 have HS := Zq.mk h
 unfold zjk
 have hg0 := h.lt
 clear h hl hq1 hq2 hInv
 change Zq (∀ w, PrS W0 w g (s.must (decide ((zdu a p).2 = 0))) → Calls Tryz.prog 69 #[.pointer (some ⟨g, 0, none⟩), .string (tB (zdu a p).1)] w (PrE W0 w g ((s.must (decide ((zdu a p).2 = 0))).signs (zdu a p).1))) at HG
 change Zq (∀ w, PrS W0 w g ((s.must (decide ((zdu a p).2 = 0))).must (decide ((zet a).2 = 0))) → Calls Tryz.prog 69 #[.pointer (some ⟨g, 0, none⟩), .string (tB (zet a).1)] w (PrE W0 w g (((s.must (decide ((zdu a p).2 = 0))).must (decide ((zet a).2 = 0))).signs (zet a).1))) at HG2
 generalize (s.must (decide ((zdu a p).2 = 0))).must (decide ((zet a).2 = 0)) = s2 at HM2 HG2 ⊢
 generalize s.must (decide ((zdu a p).2 = 0)) = s1 at HA HM HM2 HG ⊢
 generalize (zdu a p).2 = z at HP HM
 generalize (zdu a p).1 = q at HP HG ⊢
 generalize (zet a).2 = z2 at HA HM2
 generalize (zet a).1 = q2 at HA HG2 ⊢
 by_cases h32 : p = 32
 ·rw [if_pos h32]
  subst h32
  go_enter Tryz.func136, Tryz.ntmps136
  have hX := HS.out.alloc (.cells #[.int .i64 a, .int .i64 32] 47)
  have HX := Zq.mk hX
  have HY := Zq.mk ((Stp.refl W g).alloc hg0 (.cells #[.int .i64 a, .int .i64 32] 47))
  have hB := heap_alloc_new W (.cells #[.int .i64 a, .int .i64 32] 47)
  have HB := Zq.mk hB
  clear hX hB
  go_wp2_with (first
   | (go_at_call 169; refine (HP.out _ HX.out).mono ?_; rintro e1 w1 ⟨rfl, hb1⟩; have HS1 := Zq.mk (HX.out.below hb1); have HT1 := Zq.mk (HY.out.below HX.out.lt hb1); have HB1 := Zq.mk ((hb1.block _ (zat HB.out)).trans HB.out); clear hb1 HP)
   | (go_at_call 65; refine (HM.out _ _ (by first | rfl | simp) HS1.out).mono ?_; rintro e2 w2 ⟨rfl, hS2, hT2⟩; have HS2 := Zq.mk hS2; have hb2 := hT2.keep HS1.out HB1.out (by decide) (by decide); have HT2 := Zq.mk (HT1.out.trans hT2); have d0 := zae hb2 0; have d1 := zae hb2 1; clear hS2 hT2 HM hb2)
   | (go_at_call 170; refine (HA.out _ HS2.out).mono ?_; rintro e3 w3 ⟨rfl, hb3⟩; have HS3 := Zq.mk (HS2.out.below hb3); have HT3 := Zq.mk (HT2.out.below HS2.out.lt hb3); clear hb3 HA d0 d1)
   | (go_at_call 65; refine (HM2.out _ _ (by first | rfl | simp) HS3.out).mono ?_; rintro e4 w4 ⟨rfl, hS4, hT4⟩; have HS4 := Zq.mk hS4; have HT4 := Zq.mk (HT3.out.trans hT4); clear hS4 hT4 HM2)
   | (go_at_call 69; refine (HG2.out _ HS4.out).mono ?_; rintro e5 w5 ⟨rfl, hS5, hT5⟩))
  first | go_end0 | (refine bodyPost_ret (results_none rfl _ _ _) rfl ?_)
  exact ⟨rfl, hS5, HT4.out.trans hT5⟩
 ·rw [if_neg h32]
  go_enter Tryz.func136, Tryz.ntmps136
  have hX := HS.out.alloc (.cells #[.int .i64 a, .int .i64 p] 47)
  have HX := Zq.mk hX
  have HY := Zq.mk ((Stp.refl W g).alloc hg0 (.cells #[.int .i64 a, .int .i64 p] 47))
  have hB := heap_alloc_new W (.cells #[.int .i64 a, .int .i64 p] 47)
  have HB := Zq.mk hB
  clear hX hB
  go_wp2_with (first
   | (go_at_call 169; refine (HP.out _ HX.out).mono ?_; rintro e1 w1 ⟨rfl, hb1⟩; have HS1 := Zq.mk (HX.out.below hb1); have HT1 := Zq.mk (HY.out.below HX.out.lt hb1); have HB1 := Zq.mk ((hb1.block _ (zat HB.out)).trans HB.out); clear hb1 HP)
   | (go_at_call 65; refine (HM.out _ _ (by first | rfl | simp) HS1.out).mono ?_; rintro e2 w2 ⟨rfl, hS2, hT2⟩; have HS2 := Zq.mk hS2; have hb2 := hT2.keep HS1.out HB1.out (by decide) (by decide); have HT2 := Zq.mk (HT1.out.trans hT2); have d0 := zae hb2 0; have d1 := zae hb2 1; clear hS2 hT2 HM hb2)
   | (go_at_call 69; refine (HG.out _ HS2.out).mono ?_; rintro e5 w5 ⟨rfl, hS5, hT5⟩))
  first | go_end0 | (refine bodyPost_ret (results_none rfl _ _ _) rfl ?_)
  exact ⟨rfl, hS5, HT2.out.trans hT5⟩
theorem zol (n : Int) (w : World) : Calls Tryz.prog 171 #[.int .i64 n] w fun e w' => e = .returned (.bool (zhi n)) ∧ w' = w := by
 unfold zhi
 by_cases h1 : 0 ≤ n
 ·by_cases h2 : n ≤ 4294967295
  ·go_enter Tryz.func171, Tryz.ntmps171
   go_wp2
   go_ret
   exact ⟨by simp [h1, h2], rfl⟩
  ·go_enter Tryz.func171, Tryz.ntmps171
   go_wp2
   all_goals go_ret
   all_goals exact ⟨by simp [h1, h2], rfl⟩
 ·go_enter Tryz.func171, Tryz.ntmps171
  go_wp2
  all_goals go_ret
  all_goals exact ⟨by simp; omega, rfl⟩
theorem zpt {w : World} {Q : Ending → World → Prop} {n : Int} (h : Calls Tryz.prog 171 #[.int .i64 n] w Q) : Calls Tryz.prog 171 #[.int .i64 n] w Q := h
theorem zhh {w : World} {Q : Ending → World → Prop} {n : Int} (h : Calls Tryz.prog 102 #[.int .i64 n] w Q) : Calls Tryz.prog 102 #[.int .i64 n] w Q := h
theorem pports_one (W0 W : World) (g : Nat) (s : PQ) (lo hi : Int) (hInv : Inv W0) (h : PrS W0 W g s) (hl : s.out.length + 80 ≤ 140737488351232) (l0 : -9223372036854775808 ≤ lo) (l1 : lo ≤ 9223372036854775807) (h0 : -9223372036854775808 ≤ hi) (h1 : hi ≤ 9223372036854775807) :
  Calls Tryz.prog 138 #[.pointer (some ⟨g, 0, none⟩), .agg #[.int .i64 lo, .int .i64 hi]] W (PrE W0 W g (zmu lo hi s)) := by
 have HS := Zq.mk h
 have hg0 := h.lt
 have HX := Zq.mk (HS.out.alloc (.cells #[.int .i64 lo, .int .i64 hi] 68))
 have HY := Zq.mk ((Stp.refl W g).alloc hg0 (.cells #[.int .i64 lo, .int .i64 hi] 68))
 have HB := Zq.mk (heap_alloc_new W (.cells #[.int .i64 lo, .int .i64 hi] 68))
 have hz1 := Lib.itoa_length_le lo l0 l1
 have hz2 := Lib.itoa_length_le hi h0 h1
 have H1 := Zq.mk (zol lo)
 have H2 := Zq.mk (zol hi)
 have HM := Zq.mk (fun w b (h : PrS W0 w g s) => zbe W0 w g s b h)
 have HT := Zq.mk (fun w (h : Below W0.heap.size W0 w) => zea lo l0 l1 w (hInv.below h))
 have HU := Zq.mk (fun w (h : Below W0.heap.size W0 w) => zea hi h0 h1 w (hInv.below h))
 have HG := Zq.mk (fun w b (h : PrS W0 w g (s.must b)) => zbp W0 w g _ (tB (Lib.itoa lo)) h (by rw [zbc]; show _ + (Lib.itoa lo).length ≤ _; omega))
 have HG2 := Zq.mk (fun w b (h : PrS W0 w g ((s.must b).signs (Lib.itoa lo))) => zbp W0 w g _ (⟨#[45]⟩ ++ tB (Lib.itoa hi)) h (by rw [zbm, zbc, ByteArray.size_append]; show _ + (1 + (Lib.itoa hi).length) ≤ _; omega))
 have hc : (⟨#[45]⟩ ++ tB (Lib.itoa hi)).data.toList = 45 :: Lib.itoa hi := by simp
 rw [hc] at HG2
 have hs1 : ¬ 9223372036854775807 < 1 + (tB (Lib.itoa hi)).size := by show ¬ 9223372036854775807 < 1 + (Lib.itoa hi).length; omega
 change Zq (∀ w b, PrS W0 w g (s.must b) → Calls Tryz.prog 69 #[.pointer (some ⟨g, 0, none⟩), .string (tB (Lib.itoa lo))] w (PrE W0 w g ((s.must b).signs (Lib.itoa lo)))) at HG
 generalize tB (Lib.itoa hi) = y at HU HG2 hs1
 generalize tB (Lib.itoa lo) = x at HT HG
 unfold zmu
 clear h hg0 hz1 hz2 hc hl l0 l1 h0 h1 hInv
 generalize Lib.itoa lo = xl at HG HG2 ⊢
 generalize 45 :: Lib.itoa hi = yl at HG2 ⊢
 by_cases he : hi = lo
 ·rw [if_pos he]
  subst he
  rw [Bool.and_self]
  generalize zhi hi = a at H1 H2 ⊢
  cases a with
  | false =>
   go_enter Tryz.func138, Tryz.ntmps138
   go_wp2_with (first
    | ((with_reducible refine zci 171 ?_); refine (H2.out _).mono ?_; rintro e1 w1 ⟨rfl, rfl⟩)
    | (go_at_call 65; refine (HM.out _ _ HX.out).mono ?_; rintro e2 w2 ⟨rfl, hS2, hT2⟩; have HS2 := Zq.mk hS2; have hb2 := hT2.keep HX.out HB.out (by decide) (by decide); have HT2 := Zq.mk (HY.out.trans hT2); have HB2 := Zq.mk hb2; have d0 := zae hb2 0; have d1 := zae hb2 1; clear hS2 hT2 hb2 HM)
    | (go_at_call 102; (with_reducible refine zhh (n := hi) ?_); refine (HT.out _ HS2.out.bel).mono ?_; rintro e3 w3 ⟨rfl, hb3⟩; have HS3 := Zq.mk (HS2.out.below hb3); have HT3 := Zq.mk (HT2.out.below HS2.out.lt hb3); have HB3 := Zq.mk ((hb3.block _ (zat HB2.out)).trans HB2.out); clear hb3 HT d0 d1)
    | (go_at_call 69; refine (HG.out _ _ HS3.out).mono ?_; rintro e4 w4 ⟨rfl, hS4, hT4⟩; have hb4 := hT4.keep HS3.out HB3.out (by decide) (by decide); have HS4 := Zq.mk hS4; have HT4 := Zq.mk (HT3.out.trans hT4); have d0 := zae hb4 0; have d1 := zae hb4 1; clear hS4 hT4 hb4 HG))
   first | go_end0 | (refine bodyPost_ret (results_none rfl _ _ _) rfl ?_)
   exact ⟨rfl, HS4.out, HT4.out⟩
  | true =>
   go_enter Tryz.func138, Tryz.ntmps138
   go_wp2_with (first
    | ((with_reducible refine zci 171 ?_); refine (H2.out _).mono ?_; rintro e1 w1 ⟨rfl, rfl⟩)
    | (go_at_call 65; refine (HM.out _ _ HX.out).mono ?_; rintro e2 w2 ⟨rfl, hS2, hT2⟩; have HS2 := Zq.mk hS2; have hb2 := hT2.keep HX.out HB.out (by decide) (by decide); have HT2 := Zq.mk (HY.out.trans hT2); have HB2 := Zq.mk hb2; have d0 := zae hb2 0; have d1 := zae hb2 1; clear hS2 hT2 hb2 HM)
    | (go_at_call 102; (with_reducible refine zhh (n := hi) ?_); refine (HT.out _ HS2.out.bel).mono ?_; rintro e3 w3 ⟨rfl, hb3⟩; have HS3 := Zq.mk (HS2.out.below hb3); have HT3 := Zq.mk (HT2.out.below HS2.out.lt hb3); have HB3 := Zq.mk ((hb3.block _ (zat HB2.out)).trans HB2.out); clear hb3 HT d0 d1)
    | (go_at_call 69; refine (HG.out _ _ HS3.out).mono ?_; rintro e4 w4 ⟨rfl, hS4, hT4⟩; have hb4 := hT4.keep HS3.out HB3.out (by decide) (by decide); have HS4 := Zq.mk hS4; have HT4 := Zq.mk (HT3.out.trans hT4); have d0 := zae hb4 0; have d1 := zae hb4 1; clear hS4 hT4 hb4 HG))
   first | go_end0 | (refine bodyPost_ret (results_none rfl _ _ _) rfl ?_)
   exact ⟨rfl, HS4.out, HT4.out⟩
 ·rw [if_neg he]
  generalize zhi lo = a at H1 ⊢
  generalize zhi hi = b at H2 ⊢
  cases a with
  | false =>
   rw [Bool.false_and]
   go_enter Tryz.func138, Tryz.ntmps138
   go_wp2_with (first
    | ((with_reducible refine zci 171 ?_); (with_reducible refine zpt (n := lo) ?_); refine (H1.out _).mono ?_; rintro e1 w1 ⟨rfl, rfl⟩)
    | (go_at_call 65; refine (HM.out _ _ HX.out).mono ?_; rintro e2 w2 ⟨rfl, hS2, hT2⟩; have HS2 := Zq.mk hS2; have hb2 := hT2.keep HX.out HB.out (by decide) (by decide); have HT2 := Zq.mk (HY.out.trans hT2); have HB2 := Zq.mk hb2; have d0 := zae hb2 0; have d1 := zae hb2 1; clear hS2 hT2 hb2 HM)
    | (go_at_call 102; (with_reducible refine zhh (n := lo) ?_); refine (HT.out _ HS2.out.bel).mono ?_; rintro e3 w3 ⟨rfl, hb3⟩; have HS3 := Zq.mk (HS2.out.below hb3); have HT3 := Zq.mk (HT2.out.below HS2.out.lt hb3); have HB3 := Zq.mk ((hb3.block _ (zat HB2.out)).trans HB2.out); clear hb3 HT d0 d1)
    | (go_at_call 69; refine (HG.out _ _ HS3.out).mono ?_; rintro e4 w4 ⟨rfl, hS4, hT4⟩; have hb4 := hT4.keep HS3.out HB3.out (by decide) (by decide); have HS4 := Zq.mk hS4; have HT4 := Zq.mk (HT3.out.trans hT4); have d0 := zae hb4 0; have d1 := zae hb4 1; clear hS4 hT4 hb4 HG)
    | (go_at_call 102; refine (HU.out _ HS4.out.bel).mono ?_; rintro e5 w5 ⟨rfl, hb5⟩; have HS5 := Zq.mk (HS4.out.below hb5); have HT5 := Zq.mk (HT4.out.below HS4.out.lt hb5); clear hb5 HU)
    | (go_at_call 69; refine (HG2.out _ _ HS5.out).mono ?_; rintro e6 w6 ⟨rfl, hS6, hT6⟩))
   first | go_end0 | (refine bodyPost_ret (results_none rfl _ _ _) rfl ?_)
   exact ⟨rfl, hS6, HT5.out.trans hT6⟩
  | true =>
   rw [Bool.true_and]
   go_enter Tryz.func138, Tryz.ntmps138
   go_wp2_with (first
    | ((with_reducible refine zci 171 ?_); (with_reducible refine zpt (n := lo) ?_); refine (H1.out _).mono ?_; rintro e1 w1 ⟨rfl, rfl⟩)
    | ((with_reducible refine zci 171 ?_); refine (H2.out _).mono ?_; rintro e1 w1 ⟨rfl, rfl⟩)
    | (go_at_call 65; refine (HM.out _ _ HX.out).mono ?_; rintro e2 w2 ⟨rfl, hS2, hT2⟩; have HS2 := Zq.mk hS2; have hb2 := hT2.keep HX.out HB.out (by decide) (by decide); have HT2 := Zq.mk (HY.out.trans hT2); have HB2 := Zq.mk hb2; have d0 := zae hb2 0; have d1 := zae hb2 1; clear hS2 hT2 hb2 HM)
    | (go_at_call 102; (with_reducible refine zhh (n := lo) ?_); refine (HT.out _ HS2.out.bel).mono ?_; rintro e3 w3 ⟨rfl, hb3⟩; have HS3 := Zq.mk (HS2.out.below hb3); have HT3 := Zq.mk (HT2.out.below HS2.out.lt hb3); have HB3 := Zq.mk ((hb3.block _ (zat HB2.out)).trans HB2.out); clear hb3 HT d0 d1)
    | (go_at_call 69; refine (HG.out _ _ HS3.out).mono ?_; rintro e4 w4 ⟨rfl, hS4, hT4⟩; have hb4 := hT4.keep HS3.out HB3.out (by decide) (by decide); have HS4 := Zq.mk hS4; have HT4 := Zq.mk (HT3.out.trans hT4); have d0 := zae hb4 0; have d1 := zae hb4 1; clear hS4 hT4 hb4 HG)
    | (go_at_call 102; refine (HU.out _ HS4.out.bel).mono ?_; rintro e5 w5 ⟨rfl, hb5⟩; have HS5 := Zq.mk (HS4.out.below hb5); have HT5 := Zq.mk (HT4.out.below HS4.out.lt hb5); clear hb5 HU)
    | (go_at_call 69; refine (HG2.out _ _ HS5.out).mono ?_; rintro e6 w6 ⟨rfl, hS6, hT6⟩))
   first | go_end0 | (refine bodyPost_ret (results_none rfl _ _ _) rfl ?_)
   exact ⟨rfl, hS6, HT5.out.trans hT6⟩
theorem must_must (s : PQ) (a b : Bool) : (s.must a).must b = s.must (a && b) := by
 simp [PQ.must, Bool.not_and, Bool.or_assoc]
theorem zdv (s : PQ) : s.must true = s := by simp [PQ.must]
theorem _root_.Go.Proofs.YtjeekocidaogoaaGreatDoor.Hand.PrS.mine_lt {W0 W : World} {g k : Nat} {s : PQ} (h : PrS W0 W g s) (hk : Mine W g k) : k < W.heap.size := by
 rcases hk with rfl | ⟨v, a, b, h1, h2⟩
 ·exact h.lt
 ·obtain ⟨u, h3, h4⟩ := h.src
  rw [h1] at h3
  simp only [Option.some.injEq, Obj.cells.injEq, Array.mk.injEq, List.cons.injEq] at h3
  obtain ⟨⟨rfl, _⟩, _⟩ := h3
  exact zpn h4 k h2
theorem _root_.Go.Proofs.YtjeekocidaogoaaGreatDoor.Hand.Stp.keep2 {W W1 : World} {g q : Nat} (hs : Stp W W1 g) (hq : q < W.heap.size) (hn : ¬ Mine W g q) : W1.heap[q]? = W.heap[q]? ∧ ¬ Mine W1 g q :=
 ⟨hs.fr.block q hq hn, fun h => by
  rcases hs.mine q h with h1 | h1
  ·exact hn h1
  ·omega⟩
theorem cell_same {w w1 : World} {q : Nat} (h : w1.heap[q]? = w.heap[q]?) (j : Nat) : w1.cell? ⟨q, j, none⟩ = w.cell? ⟨q, j, none⟩ := by
 simp only [World.cell?]
 rw [h]
def upB (b : UInt8) : Bool := decide (65 ≤ b.toNat) && decide (b.toNat ≤ 90)
theorem all_take_succ (l : List UInt8) (k : Nat) (h : k < l.length) : (l.take (k + 1)).all upB = ((l.take k).all upB && upB l[k]) := by
 rw [List.take_succ_eq_append_getElem h, List.all_append]
 simp
theorem pmethod_one (W0 W : World) (g : Nat) (s : PQ) (t : ByteArray) (h : PrS W0 W g s) (hl : s.out.length + t.size + 1 ≤ 140737488351232) :
  Calls Tryz.prog 140 #[.pointer (some ⟨g, 0, none⟩), .string t] W (PrE W0 W g (zls t s)) := by
 have HS := Zq.mk h
 have HM := Zq.mk (fun w b s (h : PrS W0 w g s) => zbe W0 w g s b h)
 have hk := fun (w : World) => Lib.run_convert_string_bytes (P := Tryz.prog) w 9 64 5 t Tryz.underlying9 Tryz.underlying64 Tryz.underlying5
 have hu : zls t s = ((s.must (decide (1 ≤ t.size) && decide (t.size ≤ 16))).must ((bl t).all upB)).one (bl t) := rfl
 have HW := Zq.mk (fun w b c (h : PrS W0 w g ((s.must b).must c)) => zbs W0 w g _ t h (by rw [zbc, zbc]; omega))
 rw [hu]
 have htl := zbj t
 have hcase : ∃ b, (decide (1 ≤ t.size) && decide (t.size ≤ 16)) = b ∧ ((Zq (∀ w, PrS W0 w g s → Calls Tryz.prog 65 #[.pointer (some ⟨g, 0, none⟩), .bool true] w (PrE W0 w g (s.must b))) ∧ 1 ≤ t.size ∧ decide ((t.size : Int) ≤ 16) = true) ∨ (Zq (∀ w, PrS W0 w g s → Calls Tryz.prog 65 #[.pointer (some ⟨g, 0, none⟩), .bool false] w (PrE W0 w g (s.must b))) ∧ t.size < 1 ∧ True) ∨ (Zq (∀ w, PrS W0 w g s → Calls Tryz.prog 65 #[.pointer (some ⟨g, 0, none⟩), .bool false] w (PrE W0 w g (s.must b))) ∧ 1 ≤ t.size ∧ decide ((t.size : Int) ≤ 16) = false)) := by
  by_cases h1 : 1 ≤ t.size
  ·by_cases h2 : t.size ≤ 16
   ·exact ⟨true, by simp [h1, h2], .inl ⟨⟨fun w h => HM.out w _ _ h⟩, h1, by simp; omega⟩⟩
   ·exact ⟨false, by simp [h2], .inr (.inr ⟨⟨fun w h => HM.out w _ _ h⟩, h1, by simp; omega⟩)⟩
  ·exact ⟨false, by simp [h1], .inr (.inl ⟨⟨fun w h => HM.out w _ _ h⟩, by omega, trivial⟩)⟩
 obtain ⟨b, hb, hcase⟩ := hcase
 rw [hb]
 clear h hu hb
 rcases hcase with ⟨HB, h1, h2⟩ | ⟨HB, h1, h2⟩ | ⟨HB, h1, h2⟩
 all_goals
  go_enter Tryz.func140, Tryz.ntmps140
  go_wp2_with (go_at_call 65; refine (HB.out _ HS.out).mono ?_; rintro e2 w2 ⟨rfl, hS2, hT2⟩; have HS2 := Zq.mk hS2; have HT2 := Zq.mk hT2; clear hS2 hT2)
  have H1 := Zq.mk h1
  clear h1 h2 hk HB
  have hbw := Lib.bytesWorld_below w2 5 t
  have HN := Zq.mk (show ¬ Mine (Lib.bytesWorld w2 5 t) g w2.heap.size from fun hm => by
   have := HS2.out.mine_lt ((Mine.of (hbw.block g HS2.out.lt)).1 hm)
   omega)
  have HC := Zq.mk (fun j (hj : j < t.size) => Lib.bytesWorld_cell w2 5 t j hj)
  have HL := Zq.mk (show w2.heap.size < (Lib.bytesWorld w2 5 t).heap.size by rw [Lib.bytesWorld_size]; omega)
  have HS3 := Zq.mk (HS2.out.below hbw)
  have HT3 := Zq.mk (HT2.out.below HS2.out.lt hbw)
  clear hbw HS2 HT2 HS
  generalize Lib.bytesWorld w2 5 t = w3 at HN HC HL HS3 HT3 ⊢
  generalize w2.heap.size = q at HN HC HL ⊢
  generalize grownCap w2 t.size 0 5 = gc
  clear w2
  go_loopw [19] (fun i wr => ∃ k : Nat, k ≤ t.size ∧ i = .int .i64 k ∧ Zq (PrS W0 wr g ((s.must b).must (((bl t).take k).all upB))) ∧ Zq (Stp W wr g) ∧ Zq (¬ Mine wr g q ∧ wr.heap[q]? = w3.heap[q]? ∧ q < wr.heap.size)) (fun i _ => t.size - (intOf i).toNat)
  case atStart => exact ⟨0, Nat.zero_le _, rfl, by rw [show ((bl t).take 0).all upB = true from rfl, zdv]; exact HS3, HT3, ⟨HN.out, rfl, HL.out⟩⟩
  case round =>
   clear HS3 HT3 HN HL
   obtain ⟨k, hk, rfl, HSk, HTk, HNk⟩ := hrel
   by_cases hlt : k < t.size
   ·have hc : wr.cell? ⟨q, k, none⟩ = some (.int .u8 ((bl t)[k]'(by omega)).toNat) := by
     rw [cell_same HNk.out.2.1 k, HC.out k hlt]
     have hg : (bl t).getD k 0 = (bl t)[k]'(by omega) := by rw [List.getD_eq_getElem?_getD, List.getElem?_eq_getElem (by omega)]; rfl
     show some (Value.int IntKind.u8 (((bl t).getD k 0).toNat : Int)) = _
     rw [hg]
    have HA := Zq.mk (all_take_succ (bl t) k (by omega))
    have HMk := Zq.mk (fun b' => HM.out wr b' _ HSk.out)
    generalize (bl t)[k]'(by omega) = c at hc HA
    have hkc : k < gc ∨ True := .inr trivial
    have hcase2 : ∃ b', upB c = b' ∧ ((b' = true ∧ 65 ≤ c.toNat ∧ decide ((c.toNat : Int) ≤ 90) = true) ∨ (b' = false ∧ c.toNat < 65 ∧ True) ∨ (b' = false ∧ 65 ≤ c.toNat ∧ decide ((c.toNat : Int) ≤ 90) = false)) := by
     refine ⟨_, rfl, ?_⟩
     unfold upB
     by_cases h1 : 65 ≤ c.toNat
     ·by_cases h2 : c.toNat ≤ 90
      ·exact .inl ⟨by simp [h1, h2], h1, by simp; omega⟩
      ·exact .inr (.inr ⟨by simp [h2], h1, by simp; omega⟩)
     ·exact .inr (.inl ⟨by simp [h1], by omega, trivial⟩)
    obtain ⟨b', hb', hcase2⟩ := hcase2
    rw [hb'] at HA
    clear hb' hkc
    rcases hcase2 with ⟨rfl, h1, h2⟩ | ⟨rfl, h1, h2⟩ | ⟨rfl, h1, h2⟩
    all_goals
     go_wp2_with (go_at_call 65; refine (HMk.out _).mono ?_; rintro e4 w4 ⟨rfl, hS4, hT4⟩; rw [must_must, ← HA.out] at hS4; have HS4 := Zq.mk hS4; have hk2 := hT4.keep2 HNk.out.2.2 HNk.out.1; have HN4 := Zq.mk (And.intro hk2.2 (And.intro (hk2.1.trans HNk.out.2.1) (Nat.lt_of_lt_of_le HNk.out.2.2 hT4.fr.size))); have HT4 := Zq.mk (HTk.out.trans hT4); clear hS4 hT4 hk2)
     all_goals
      go_roundw
      case rel => exact ⟨k + 1, by omega, by go_num, HS4, HT4, HN4⟩
      case measure => simp [intOf]; omega
   ·obtain rfl : k = t.size := by omega
    have htk : (bl t).take t.size = bl t := List.take_of_length_le (by omega)
    rw [htk] at HSk
    go_wp2_with (go_at_call 67; refine (HW.out _ _ _ HSk.out).mono ?_; rintro e4 w4 ⟨rfl, hS4, hT4⟩)
    first | go_end0 | (refine bodyPost_ret (results_none rfl _ _ _) rfl ?_)
    exact ⟨rfl, hS4, HTk.out.trans hT4⟩
end
section
def zba (x : S60) (b1 b2 b3 b4 b5 b6 : Bool) : Bool :=
 (b1 || x.f1.toList.isEmpty) && ((b2 || x.f2.toList.isEmpty) && ((b3 || x.f3.isEmpty) && ((b4 || x.f4.isEmpty) && ((b5 || x.f5.isEmpty) && (b6 || x.f6.isEmpty)))))
def zig (k : Int) : Int := if k = 6 then 0 else if k = 5 then 1 else if k = 4 then 2 else 3
theorem len0 {α : Type} (l : List α) : ((l.length : Int) == 0) = l.isEmpty := by cases l <;> simp <;> omega
theorem zpc (b t : Bool) : b = true ∨ (b = false ∧ t = true) ∨ (b = false ∧ t = false) := by cases b <;> cases t <;> simp
theorem zmx {α : Type} [BEq α] (l : List α) : (l == []) = l.isEmpty := by cases l <;> rfl
theorem binds_eq (x : S60) : syntax_binds.f x.f0 x.f1 x.f2 x.f3 x.f4 x.f5 x.f6 x.f7 = some (zig x.f0) := by
 unfold syntax_binds.f zig
 repeat' split
 all_goals simp_all
def zcu (W : World) (x : S60) (v : Value) : Prop := ∃ cs, k60.K W x cs ∧ v = .agg cs.toArray
theorem zct (W : World) (x : S60) (v : Value) (h : zcu W x v) (b1 b2 b3 b4 b5 b6 : Bool) :
  Calls Tryz.prog 104 #[v, .bool b1, .bool b2, .bool b3, .bool b4, .bool b5, .bool b6] W fun e W' => e = .returned (.bool (zba x b1 b2 b3 b4 b5 b6)) ∧ Below W.heap.size W W' := by
 obtain ⟨cs, hK, rfl⟩ := h
 obtain ⟨A3, c3, A4, c4, A5, c5, A6, c6, rfl, -, -, -, -, -, -, -, -⟩ := zbo hK
 have hb := heap_alloc_new W (.cells #[.int .i64 x.f0, .string x.f1, .string x.f2, .slice A3 x.f3.length c3, .slice A4 x.f4.length c4, .slice A5 x.f5.length c5, .slice A6 x.f6.length c6, .int .i64 x.f7] 60)
 have q1 := zae hb 1
 have q2 := zae hb 2
 have q3 := zae hb 3
 have q4 := zae hb 4
 have q5 := zae hb 5
 have q6 := zae hb 6
 have HB := Zq.mk (zab (Below.refl W.heap.size W) (.cells #[.int .i64 x.f0, .string x.f1, .string x.f2, .slice A3 x.f3.length c3, .slice A4 x.f4.length c4, .slice A5 x.f5.length c5, .slice A6 x.f6.length c6, .int .i64 x.f7] 60))
 unfold zba
 rw [← zmx x.f1.toList, ← zmx x.f2.toList, ← len0 x.f3, ← len0 x.f4, ← len0 x.f5, ← len0 x.f6]
 clear hK hb
 obtain ⟨t1, h1⟩ : ∃ t, (x.f1.toList == []) = t := ⟨_, rfl⟩
 rw [h1]
 obtain ⟨t2, h2⟩ : ∃ t, (x.f2.toList == []) = t := ⟨_, rfl⟩
 rw [h2]
 obtain ⟨t3, h3⟩ : ∃ t, ((x.f3.length : Int) == 0) = t := ⟨_, rfl⟩
 rw [h3]
 obtain ⟨t4, h4⟩ : ∃ t, ((x.f4.length : Int) == 0) = t := ⟨_, rfl⟩
 rw [h4]
 obtain ⟨t5, h5⟩ : ∃ t, ((x.f5.length : Int) == 0) = t := ⟨_, rfl⟩
 rw [h5]
 obtain ⟨t6, h6⟩ : ∃ t, ((x.f6.length : Int) == 0) = t := ⟨_, rfl⟩
 rw [h6]
 all_goals (rcases zpc b1 t1 with rfl | ⟨rfl, rfl⟩ | ⟨rfl, rfl⟩)
 all_goals (try (have := (h1 : (x.f1.toList == []) = false); (go_enter Tryz.func104, Tryz.ntmps104; go_wp2; go_ret; exact ⟨rfl, HB.out⟩)))
 all_goals (rcases zpc b2 t2 with rfl | ⟨rfl, rfl⟩ | ⟨rfl, rfl⟩)
 all_goals (try (have := (h2 : (x.f2.toList == []) = false); (go_enter Tryz.func104, Tryz.ntmps104; go_wp2; go_ret; exact ⟨rfl, HB.out⟩)))
 all_goals (rcases zpc b3 t3 with rfl | ⟨rfl, rfl⟩ | ⟨rfl, rfl⟩)
 all_goals (try (have := (h3 : ((x.f3.length : Int) == 0) = false); (go_enter Tryz.func104, Tryz.ntmps104; go_wp2; go_ret; exact ⟨rfl, HB.out⟩)))
 all_goals (rcases zpc b4 t4 with rfl | ⟨rfl, rfl⟩ | ⟨rfl, rfl⟩)
 all_goals (try (have := (h4 : ((x.f4.length : Int) == 0) = false); (go_enter Tryz.func104, Tryz.ntmps104; go_wp2; go_ret; exact ⟨rfl, HB.out⟩)))
 all_goals (rcases zpc b5 t5 with rfl | ⟨rfl, rfl⟩ | ⟨rfl, rfl⟩)
 all_goals (try (have := (h5 : ((x.f5.length : Int) == 0) = false); (go_enter Tryz.func104, Tryz.ntmps104; go_wp2; go_ret; exact ⟨rfl, HB.out⟩)))
 all_goals (cases b6)
 all_goals (go_enter Tryz.func104, Tryz.ntmps104; go_wp2; go_ret; exact ⟨rfl, HB.out⟩)
theorem binds_calls (W : World) (x : S60) (v : Value) (h : zcu W x v) :
  Calls Tryz.prog 133 #[v] W fun e W' => e = .returned (.int .i64 (zig x.f0)) ∧ Below W.heap.size W W' := by
 obtain ⟨cs, hK, rfl⟩ := h
 obtain ⟨A3, c3, A4, c4, A5, c5, A6, c6, rfl, l3, g3, l4, g4, l5, g5, l6, g6⟩ := zbo hK
 exact syntax_binds.calls _ _ _ A3 c3 _ A4 c4 _ A5 c5 _ A6 c6 _ _ _ W g3 l3 g4 l4 g5 l5 g6 l6 (binds_eq x)
theorem zcu.below {W W1 : World} {x : S60} {v : Value} (h : zcu W x v) (hb : Below W.heap.size W W1) : zcu W1 x v := by
 obtain ⟨cs, hK, rfl⟩ := h
 exact ⟨cs, k60.K_below hb hK, rfl⟩
def zds (s : PQ) : Bool := decide (8000 < s.out.length)
def zgk (f : S60 → PQ → PQ) (least : Int) (x : S60) (s : PQ) : PQ :=
 if (s.bad || zds s) = true then s else if least ≤ zig x.f0 then f x s else (f x (s.signs [40])).signs [41]
def zhd (f : S60 → PQ → PQ) (word : List UInt8) (least : Int) : List S60 → Bool → PQ → PQ
 | [], _, s => s
 | x :: r, first, s => zhd f word least r false (zgk f least x (if first = true then s else s.one word))
def rowQ (f : S60 → PQ → PQ) (word : List UInt8) (least : Int) (x : S60) (s : PQ) : PQ :=
 zhd f word least x.f6 true (s.must (zba x false false false false false true && (decide (2 ≤ x.f6.length) && decide (x.f6.length ≤ 32))))
def zot (x : S60) (i : Nat) (s : PQ) : PQ := zjk (x.f3.getD i z47).f0 (x.f3.getD i z47).f1 s
def zku (x : S60) (i : Nat) (s : PQ) : PQ := zmu (x.f4.getD i z68).f0 (x.f4.getD i z68).f1 s
def zht (x : S60) (i : Nat) (s : PQ) : PQ := zls (x.f5.getD i ⟨#[]⟩) s
def zrk : List UInt8 := [97, 100, 100, 114]
def zrj : List UInt8 := [112, 111, 114, 116]
def zox : List UInt8 := [109, 101, 116, 104, 111, 100]
def zgj : List UInt8 := [112, 97, 116, 104]
def zcq : List UInt8 := [104, 101, 97, 100, 101, 114]
def wHas : List UInt8 := [104, 97, 115]
def zqg : List UInt8 := [116, 114, 117, 101]
def zny : List UInt8 := [102, 97, 108, 115, 101]
def wNot : List UInt8 := [110, 111, 116]
def wAnd : List UInt8 := [97, 110, 100]
def wOr : List UInt8 := [111, 114]
def zfa (x : S60) (s : PQ) : PQ :=
 if x.f0 = 7 then zjq zrk x.f3.length (zot x) (s.must (zba x false false true false false false))
 else if x.f0 = 8 then zjq zrj x.f4.length (zku x) (s.must (zba x false false false true false false))
 else if x.f0 = 9 then zjq zox x.f5.length (zht x) (s.must (zba x false false false false true false))
 else if x.f0 = 10 then zbv x.f2 (((s.must (zba x false true false false false false)).one zgj).signs [126])
 else if x.f0 = 11 then zbv x.f2 ((zbv x.f1 ((s.must (zba x true true false false false false)).one zcq)).signs [126])
 else if x.f0 = 12 then zbv x.f1 ((s.must (zba x true false false false false false)).one wHas)
 else s.must false
def zbg : Nat → S60 → PQ → PQ
 | 0, _, s => s.must false
 | k + 1, x, s =>
  if (s.bad || zds s) = true then s
  else if x.f0 = 1 then (s.must (zba x false false false false false false)).one zqg
  else if x.f0 = 2 then (s.must (zba x false false false false false false)).one zny
  else if x.f0 = 3 then zbf x.f1 (s.must (zba x true false false false false false))
  else if x.f0 = 4 then
   (if (s.must (zba x false false false false false true && decide (x.f6.length = 1))).bad = true then s.must (zba x false false false false false true && decide (x.f6.length = 1))
   else zgk (zbg k) 2 (x.f6.getD 0 z60) ((s.must (zba x false false false false false true && decide (x.f6.length = 1))).one wNot))
  else if x.f0 = 5 then rowQ (zbg k) wAnd 2 x s
  else if x.f0 = 6 then rowQ (zbg k) wOr 1 x s
  else zfa x s
def zck : Nat → S60 → Nat
 | 0, _ => 0
 | k + 1, x => 1000 + x.f1.size + 30 * x.f3.length + 90 * x.f4.length + (x.f5.map fun t => t.size + 10).sum + (x.f6.map fun y => zck k y + 10).sum
end
section
attribute [local go_sem] zdq zdo zeg zef zcw zcv zdp zdn
theorem eqA47 (d : Nat) (w : World) (x0 y0 : Int) (x1 y1 : Int) :
  (Op.equalIn (d + 2) 47 (.agg #[.int .i64 x0, .int .i64 x1]) (.agg #[.int .i64 y0, .int .i64 y1])).run Tryz.prog w = .ok (x0 == y0 && (x1 == y1)) w := by
 refine zqv Tryz.underlying47 (by kernel_rfl) ?_
 refine zon (by rfl) (by go_simp; rfl) (by go_simp; rfl) (by go_simp) ?_
 exact zom (by rfl) (by go_simp; rfl) (by go_simp; rfl) (by go_simp)
end
section
attribute [local go_sem] zdq zdo zeg zef zcw zcv zdp zdn
theorem eqA68 (d : Nat) (w : World) (x0 y0 : Int) (x1 y1 : Int) :
  (Op.equalIn (d + 2) 68 (.agg #[.int .i64 x0, .int .i64 x1]) (.agg #[.int .i64 y0, .int .i64 y1])).run Tryz.prog w = .ok (x0 == y0 && (x1 == y1)) w := by
 refine zqv Tryz.underlying68 (by kernel_rfl) ?_
 refine zon (by rfl) (by go_simp; rfl) (by go_simp; rfl) (by go_simp) ?_
 exact zom (by rfl) (by go_simp; rfl) (by go_simp; rfl) (by go_simp)
end
section
attribute [local go_sem] zdq zdo zeg zef zcw zcv zdp zdn
attribute [local go_sem high] eqA47 eqA68
def api_Prefix.l0 : Nat → List (S47) → List (S47) → Int → Int → Option (Bool)
 | 0, _, _, _, _ => none
 | k + 1, x0, x1, x12, x13 => if x13 < x12 then (if 0 ≤ x13 then (if x13 < (x0.length : Int) then (if x13 < (x1.length : Int) then (if (!(((zdc x0 x13).f0) == ((zdc x1 x13).f0)) || (!(((zdc x0 x13).f1) == ((zdc x1 x13).f1)))) = true then (some false) else (api_Prefix.l0 k x0 x1 x12 (wrap64 (x13 + 1)))) else (none)) else (none)) else (none)) else (some true)
def api_Prefix.f (k : Nat) (l0 : List (S47)) (l1 : List (S47)) : Option (Bool) := if (l0.length : Int) = (l1.length : Int) then (api_Prefix.l0 k l0 l1 (l0.length : Int) 0) else (some false)
theorem api_Prefix.calls (k : Nat) (A0 : Option Addr) (c0 : Nat) (l0 : List (S47)) (A1 : Option Addr) (c1 : Nat) (l1 : List (S47)) (r : Bool) (w : World) (hr0 : Kd.C k47 w A0 l0.length l0) (hc0 : l0.length ≤ c0) (hr1 : Kd.C k47 w A1 l1.length l1) (hc1 : l1.length ≤ c1) (h : api_Prefix.f k l0 l1 = some r) :
  Calls Tryz.prog 74 #[.slice A0 l0.length c0, .slice A1 l1.length c1] w fun e w' => e = .returned (.bool r) ∧ Drawn0 w w' := by
 have hu47 := Tryz.underlying47
 have HR0 := Zq.mk hr0
 have HC0 := Zq.mk hc0
 clear hr0 hc0
 have HR1 := Zq.mk hr1
 have HC1 := Zq.mk hc1
 clear hr1 hc1
 have H : (if (l0.length : Int) = (l1.length : Int) then (api_Prefix.l0 k l0 l1 (l0.length : Int) 0) else (some false)) = some r := h
 clear h
 by_cases c3 : (l0.length : Int) = (l1.length : Int)
 ·rw [if_pos c3] at H
  have c3b0 : ((l0.length : Int) == (l1.length : Int)) = true := beq_iff_eq.mpr c3
  have c3b1 : ((l0.length : Int) != (l1.length : Int)) = false := bne_eq_false_iff_eq.mpr c3
  have c3b2 : (l0.length == l1.length) = true := by first | simpa using c3 | (simp at c3 ⊢; omega)
  clear c3
  have H' := Zq.mk H
  clear H
  go_enter Tryz.func74, Tryz.ntmps74
  go_wp2
  repeat (go_quiet (fail); try go_wp2)
  go_loopg [13] k (fun kq v13 w' => ∃ (x13_1 : Int), v13 = .int .i64 x13_1 ∧ Zq (api_Prefix.l0 kq l0 l1 (l0.length : Int) x13_1 = some r) ∧ Zq (kq ≤ k) ∧ Drawn0 w w')
  case atStart => exact ⟨(0), (by first | rfl | (simp; done) | (simp [*]; done)), H', ⟨Nat.le_refl _⟩, by repeat (first | exact Drawn0.refl _ | apply Drawn0.step)⟩
  case round =>
   clear H'
   try clear c1
   try clear p2
   try clear c3
   try clear c3b0
   try clear c3b1
   try clear c3b2
   obtain ⟨x13_1, rfl, HA, HK1, ⟨m1, rfl⟩⟩ := hrel
   cases gk with
   | zero => exact absurd HA.out (by simp [api_Prefix.l0])
   | succ k1 =>
    have H := HA.out
    clear HA
    simp only [api_Prefix.l0] at H
    by_cases c4 : x13_1 < (l0.length : Int)
    ·rw [if_pos c4] at H
     have c4b0 : decide (x13_1 < (l0.length : Int)) = true := decide_eq_true c4
     clear c4
     by_cases c5 : 0 ≤ x13_1
     ·rw [if_pos c5] at H
      have c5b0 : decide (0 ≤ x13_1) = true := decide_eq_true c5
      clear c5
      by_cases c6 : x13_1 < (l0.length : Int)
      ·rw [if_pos c6] at H
       have c6b0 : decide (x13_1 < (l0.length : Int)) = true := decide_eq_true c6
       clear c6
       by_cases c7 : x13_1 < (l1.length : Int)
       ·rw [if_pos c7] at H
        have c7b0 : decide (x13_1 < (l1.length : Int)) = true := decide_eq_true c7
        clear c7
        by_cases c8 : (!(((zdc l0 x13_1).f0) == ((zdc l1 x13_1).f0)) || (!(((zdc l0 x13_1).f1) == ((zdc l1 x13_1).f1)))) = true
        ·rw [if_pos c8] at H
         have c8b0 : (!(((zdc l0 x13_1).f0) == ((zdc l1 x13_1).f0)) || (!(((zdc l0 x13_1).f1) == ((zdc l1 x13_1).f1)))) = true := c8
         clear c8
         obtain rfl := Option.some.inj H
         have p566 : 0 ≤ (x13_1 : Int) := of_decide_eq_true (by first | (with_reducible assumption) | assumption)
         have q566 : x13_1 < (l0.length : Int) := of_decide_eq_true (by first | (with_reducible assumption) | assumption)
         obtain ⟨ad566, e566, hx566_0, hx566_1⟩ := znh HR0.out x13_1 p566 q566
         cases e566
         replace p566 := eq_true p566
         replace q566 := eq_true q566
         have p567 : 0 ≤ (x13_1 : Int) := of_decide_eq_true (by first | (with_reducible assumption) | assumption)
         have q567 : x13_1 < (l1.length : Int) := of_decide_eq_true (by first | (with_reducible assumption) | assumption)
         obtain ⟨ad567, e567, hx567_0, hx567_1⟩ := znh HR1.out x13_1 p567 q567
         cases e567
         replace p567 := eq_true p567
         replace q567 := eq_true q567
         go_wp2
         repeat (go_quiet (fail); try go_wp2)
         go_ret
         exact ⟨by first | rfl | (simp; done) | (simp [*]; done), by repeat (first | exact Drawn0.refl _ | apply Drawn0.step)⟩
        ·rw [if_neg c8] at H
         have c8b0 : (!(((zdc l0 x13_1).f0) == ((zdc l1 x13_1).f0)) || (!(((zdc l0 x13_1).f1) == ((zdc l1 x13_1).f1)))) = false := by simpa using c8
         clear c8
         have H' := Zq.mk H
         clear H
         have p566 : 0 ≤ (x13_1 : Int) := of_decide_eq_true (by first | (with_reducible assumption) | assumption)
         have q566 : x13_1 < (l0.length : Int) := of_decide_eq_true (by first | (with_reducible assumption) | assumption)
         obtain ⟨ad566, e566, hx566_0, hx566_1⟩ := znh HR0.out x13_1 p566 q566
         cases e566
         replace p566 := eq_true p566
         replace q566 := eq_true q566
         have p567 : 0 ≤ (x13_1 : Int) := of_decide_eq_true (by first | (with_reducible assumption) | assumption)
         have q567 : x13_1 < (l1.length : Int) := of_decide_eq_true (by first | (with_reducible assumption) | assumption)
         obtain ⟨ad567, e567, hx567_0, hx567_1⟩ := znh HR1.out x13_1 p567 q567
         cases e567
         replace p567 := eq_true p567
         replace q567 := eq_true q567
         go_wp2
         repeat (go_quiet (fail); try go_wp2)
         go_roundg k1
         case measure => have := HK1.out; omega
         case rel => exact ⟨(wrap64 (x13_1 + 1)), (by first | rfl | (simp; done) | (simp [*]; done)), H', ⟨by have := HK1.out; omega⟩, by repeat (first | exact Drawn0.refl _ | apply Drawn0.step)⟩
       ·rw [if_neg c7] at H
        exact absurd H (by simp)
      ·rw [if_neg c6] at H
       exact absurd H (by simp)
     ·rw [if_neg c5] at H
      exact absurd H (by simp)
    ·rw [if_neg c4] at H
     have c4b0 : decide (x13_1 < (l0.length : Int)) = false := decide_eq_false c4
     clear c4
     obtain rfl := Option.some.inj H
     go_wp2
     repeat (go_quiet (fail); try go_wp2)
     go_ret
     exact ⟨by first | rfl | (simp; done) | (simp [*]; done), by repeat (first | exact Drawn0.refl _ | apply Drawn0.step)⟩
 ·rw [if_neg c3] at H
  have c3b0 : ((l0.length : Int) == (l1.length : Int)) = false := beq_eq_false_iff_ne.mpr c3
  have c3b1 : ((l0.length : Int) != (l1.length : Int)) = true := bne_iff_ne.mpr c3
  have c3b2 : (l0.length == l1.length) = false := by first | simpa using c3 | (simp at c3 ⊢; omega)
  obtain rfl := Option.some.inj H
  go_enter Tryz.func74, Tryz.ntmps74
  go_wp2
  repeat (go_quiet (fail); try go_wp2)
  go_ret
  exact ⟨by first | rfl | (simp; done) | (simp [*]; done), by repeat (first | exact Drawn0.refl _ | apply Drawn0.step)⟩
def api_Span.l0 : Nat → List (S68) → List (S68) → Int → Int → Option (Bool)
 | 0, _, _, _, _ => none
 | k + 1, x0, x1, x12, x13 => if x13 < x12 then (if 0 ≤ x13 then (if x13 < (x0.length : Int) then (if x13 < (x1.length : Int) then (if (!(((zdb x0 x13).f0) == ((zdb x1 x13).f0)) || (!(((zdb x0 x13).f1) == ((zdb x1 x13).f1)))) = true then (some false) else (api_Span.l0 k x0 x1 x12 (wrap64 (x13 + 1)))) else (none)) else (none)) else (none)) else (some true)
def api_Span.f (k : Nat) (l0 : List (S68)) (l1 : List (S68)) : Option (Bool) := if (l0.length : Int) = (l1.length : Int) then (api_Span.l0 k l0 l1 (l0.length : Int) 0) else (some false)
theorem api_Span.calls (k : Nat) (A0 : Option Addr) (c0 : Nat) (l0 : List (S68)) (A1 : Option Addr) (c1 : Nat) (l1 : List (S68)) (r : Bool) (w : World) (hr0 : Kd.C k68 w A0 l0.length l0) (hc0 : l0.length ≤ c0) (hr1 : Kd.C k68 w A1 l1.length l1) (hc1 : l1.length ≤ c1) (h : api_Span.f k l0 l1 = some r) :
  Calls Tryz.prog 75 #[.slice A0 l0.length c0, .slice A1 l1.length c1] w fun e w' => e = .returned (.bool r) ∧ Drawn0 w w' := by
 have hu68 := Tryz.underlying68
 have HR0 := Zq.mk hr0
 have HC0 := Zq.mk hc0
 clear hr0 hc0
 have HR1 := Zq.mk hr1
 have HC1 := Zq.mk hc1
 clear hr1 hc1
 have H : (if (l0.length : Int) = (l1.length : Int) then (api_Span.l0 k l0 l1 (l0.length : Int) 0) else (some false)) = some r := h
 clear h
 by_cases c3 : (l0.length : Int) = (l1.length : Int)
 ·rw [if_pos c3] at H
  have c3b0 : ((l0.length : Int) == (l1.length : Int)) = true := beq_iff_eq.mpr c3
  have c3b1 : ((l0.length : Int) != (l1.length : Int)) = false := bne_eq_false_iff_eq.mpr c3
  have c3b2 : (l0.length == l1.length) = true := by first | simpa using c3 | (simp at c3 ⊢; omega)
  clear c3
  have H' := Zq.mk H
  clear H
  go_enter Tryz.func75, Tryz.ntmps75
  go_wp2
  repeat (go_quiet (fail); try go_wp2)
  go_loopg [13] k (fun kq v13 w' => ∃ (x13_1 : Int), v13 = .int .i64 x13_1 ∧ Zq (api_Span.l0 kq l0 l1 (l0.length : Int) x13_1 = some r) ∧ Zq (kq ≤ k) ∧ Drawn0 w w')
  case atStart => exact ⟨(0), (by first | rfl | (simp; done) | (simp [*]; done)), H', ⟨Nat.le_refl _⟩, by repeat (first | exact Drawn0.refl _ | apply Drawn0.step)⟩
  case round =>
   clear H'
   try clear c1
   try clear p2
   try clear c3
   try clear c3b0
   try clear c3b1
   try clear c3b2
   obtain ⟨x13_1, rfl, HA, HK1, ⟨m1, rfl⟩⟩ := hrel
   cases gk with
   | zero => exact absurd HA.out (by simp [api_Span.l0])
   | succ k1 =>
    have H := HA.out
    clear HA
    simp only [api_Span.l0] at H
    by_cases c4 : x13_1 < (l0.length : Int)
    ·rw [if_pos c4] at H
     have c4b0 : decide (x13_1 < (l0.length : Int)) = true := decide_eq_true c4
     clear c4
     by_cases c5 : 0 ≤ x13_1
     ·rw [if_pos c5] at H
      have c5b0 : decide (0 ≤ x13_1) = true := decide_eq_true c5
      clear c5
      by_cases c6 : x13_1 < (l0.length : Int)
      ·rw [if_pos c6] at H
       have c6b0 : decide (x13_1 < (l0.length : Int)) = true := decide_eq_true c6
       clear c6
       by_cases c7 : x13_1 < (l1.length : Int)
       ·rw [if_pos c7] at H
        have c7b0 : decide (x13_1 < (l1.length : Int)) = true := decide_eq_true c7
        clear c7
        by_cases c8 : (!(((zdb l0 x13_1).f0) == ((zdb l1 x13_1).f0)) || (!(((zdb l0 x13_1).f1) == ((zdb l1 x13_1).f1)))) = true
        ·rw [if_pos c8] at H
         have c8b0 : (!(((zdb l0 x13_1).f0) == ((zdb l1 x13_1).f0)) || (!(((zdb l0 x13_1).f1) == ((zdb l1 x13_1).f1)))) = true := c8
         clear c8
         obtain rfl := Option.some.inj H
         have p568 : 0 ≤ (x13_1 : Int) := of_decide_eq_true (by first | (with_reducible assumption) | assumption)
         have q568 : x13_1 < (l0.length : Int) := of_decide_eq_true (by first | (with_reducible assumption) | assumption)
         obtain ⟨ad568, e568, hx568_0, hx568_1⟩ := zlg HR0.out x13_1 p568 q568
         cases e568
         replace p568 := eq_true p568
         replace q568 := eq_true q568
         have p569 : 0 ≤ (x13_1 : Int) := of_decide_eq_true (by first | (with_reducible assumption) | assumption)
         have q569 : x13_1 < (l1.length : Int) := of_decide_eq_true (by first | (with_reducible assumption) | assumption)
         obtain ⟨ad569, e569, hx569_0, hx569_1⟩ := zlg HR1.out x13_1 p569 q569
         cases e569
         replace p569 := eq_true p569
         replace q569 := eq_true q569
         go_wp2
         repeat (go_quiet (fail); try go_wp2)
         go_ret
         exact ⟨by first | rfl | (simp; done) | (simp [*]; done), by repeat (first | exact Drawn0.refl _ | apply Drawn0.step)⟩
        ·rw [if_neg c8] at H
         have c8b0 : (!(((zdb l0 x13_1).f0) == ((zdb l1 x13_1).f0)) || (!(((zdb l0 x13_1).f1) == ((zdb l1 x13_1).f1)))) = false := by simpa using c8
         clear c8
         have H' := Zq.mk H
         clear H
         have p568 : 0 ≤ (x13_1 : Int) := of_decide_eq_true (by first | (with_reducible assumption) | assumption)
         have q568 : x13_1 < (l0.length : Int) := of_decide_eq_true (by first | (with_reducible assumption) | assumption)
         obtain ⟨ad568, e568, hx568_0, hx568_1⟩ := zlg HR0.out x13_1 p568 q568
         cases e568
         replace p568 := eq_true p568
         replace q568 := eq_true q568
         have p569 : 0 ≤ (x13_1 : Int) := of_decide_eq_true (by first | (with_reducible assumption) | assumption)
         have q569 : x13_1 < (l1.length : Int) := of_decide_eq_true (by first | (with_reducible assumption) | assumption)
         obtain ⟨ad569, e569, hx569_0, hx569_1⟩ := zlg HR1.out x13_1 p569 q569
         cases e569
         replace p569 := eq_true p569
         replace q569 := eq_true q569
         go_wp2
         repeat (go_quiet (fail); try go_wp2)
         go_roundg k1
         case measure => have := HK1.out; omega
         case rel => exact ⟨(wrap64 (x13_1 + 1)), (by first | rfl | (simp; done) | (simp [*]; done)), H', ⟨by have := HK1.out; omega⟩, by repeat (first | exact Drawn0.refl _ | apply Drawn0.step)⟩
       ·rw [if_neg c7] at H
        exact absurd H (by simp)
      ·rw [if_neg c6] at H
       exact absurd H (by simp)
     ·rw [if_neg c5] at H
      exact absurd H (by simp)
    ·rw [if_neg c4] at H
     have c4b0 : decide (x13_1 < (l0.length : Int)) = false := decide_eq_false c4
     clear c4
     obtain rfl := Option.some.inj H
     go_wp2
     repeat (go_quiet (fail); try go_wp2)
     go_ret
     exact ⟨by first | rfl | (simp; done) | (simp [*]; done), by repeat (first | exact Drawn0.refl _ | apply Drawn0.step)⟩
 ·rw [if_neg c3] at H
  have c3b0 : ((l0.length : Int) == (l1.length : Int)) = false := beq_eq_false_iff_ne.mpr c3
  have c3b1 : ((l0.length : Int) != (l1.length : Int)) = true := bne_iff_ne.mpr c3
  have c3b2 : (l0.length == l1.length) = false := by first | simpa using c3 | (simp at c3 ⊢; omega)
  obtain rfl := Option.some.inj H
  go_enter Tryz.func75, Tryz.ntmps75
  go_wp2
  repeat (go_quiet (fail); try go_wp2)
  go_ret
  exact ⟨by first | rfl | (simp; done) | (simp [*]; done), by repeat (first | exact Drawn0.refl _ | apply Drawn0.step)⟩
def slices_Equal_string_string.l0 : Nat → List ByteArray → List ByteArray → Int → Int → Option (Bool)
 | 0, _, _, _, _ => none
 | k + 1, x0, x1, x12, x13 => if x13 < x12 then (if 0 ≤ x13 then (if x13 < (x0.length : Int) then (if x13 < (x1.length : Int) then (if (rdOf ByteArray.empty x0 x13).toList = (rdOf ByteArray.empty x1 x13).toList then (slices_Equal_string_string.l0 k x0 x1 x12 (wrap64 (x13 + 1))) else (some false)) else (none)) else (none)) else (none)) else (some true)
def slices_Equal_string_string.f (k : Nat) (l0 : List ByteArray) (l1 : List ByteArray) : Option (Bool) := if (l0.length : Int) = (l1.length : Int) then (slices_Equal_string_string.l0 k l0 l1 (l0.length : Int) 0) else (some false)
theorem slices_Equal_string_string.calls (k : Nat) (A0 : Option Addr) (c0 : Nat) (l0 : List ByteArray) (A1 : Option Addr) (c1 : Nat) (l1 : List ByteArray) (r : Bool) (w : World) (hr0 : Kd.C Kd.string w A0 l0.length l0) (hc0 : l0.length ≤ c0) (hr1 : Kd.C Kd.string w A1 l1.length l1) (hc1 : l1.length ≤ c1) (h : slices_Equal_string_string.f k l0 l1 = some r) :
  Calls Tryz.prog 76 #[.slice A0 l0.length c0, .slice A1 l1.length c1] w fun e w' => e = .returned (.bool r) ∧ Drawn0 w w' := by
 have HR0 := Zq.mk hr0
 have HC0 := Zq.mk hc0
 clear hr0 hc0
 have HR1 := Zq.mk hr1
 have HC1 := Zq.mk hc1
 clear hr1 hc1
 have H : (if (l0.length : Int) = (l1.length : Int) then (slices_Equal_string_string.l0 k l0 l1 (l0.length : Int) 0) else (some false)) = some r := h
 clear h
 by_cases c3 : (l0.length : Int) = (l1.length : Int)
 ·rw [if_pos c3] at H
  have c3b0 : ((l0.length : Int) == (l1.length : Int)) = true := beq_iff_eq.mpr c3
  have c3b1 : ((l0.length : Int) != (l1.length : Int)) = false := bne_eq_false_iff_eq.mpr c3
  have c3b2 : (l0.length == l1.length) = true := by first | simpa using c3 | (simp at c3 ⊢; omega)
  clear c3
  have H' := Zq.mk H
  clear H
  go_enter Tryz.func76, Tryz.ntmps76
  go_wp2
  repeat (go_quiet (fail); try go_wp2)
  go_loopg [13] k (fun kq v13 w' => ∃ (x13_1 : Int), v13 = .int .i64 x13_1 ∧ Zq (slices_Equal_string_string.l0 kq l0 l1 (l0.length : Int) x13_1 = some r) ∧ Zq (kq ≤ k) ∧ Drawn0 w w')
  case atStart => exact ⟨(0), (by first | rfl | (simp; done) | (simp [*]; done)), H', ⟨Nat.le_refl _⟩, by repeat (first | exact Drawn0.refl _ | apply Drawn0.step)⟩
  case round =>
   clear H'
   try clear c1
   try clear p2
   try clear c3
   try clear c3b0
   try clear c3b1
   try clear c3b2
   obtain ⟨x13_1, rfl, HA, HK1, ⟨m1, rfl⟩⟩ := hrel
   cases gk with
   | zero => exact absurd HA.out (by simp [slices_Equal_string_string.l0])
   | succ k1 =>
    have H := HA.out
    clear HA
    simp only [slices_Equal_string_string.l0] at H
    by_cases c4 : x13_1 < (l0.length : Int)
    ·rw [if_pos c4] at H
     have c4b0 : decide (x13_1 < (l0.length : Int)) = true := decide_eq_true c4
     clear c4
     by_cases c5 : 0 ≤ x13_1
     ·rw [if_pos c5] at H
      have c5b0 : decide (0 ≤ x13_1) = true := decide_eq_true c5
      clear c5
      by_cases c6 : x13_1 < (l0.length : Int)
      ·rw [if_pos c6] at H
       have c6b0 : decide (x13_1 < (l0.length : Int)) = true := decide_eq_true c6
       clear c6
       by_cases c7 : x13_1 < (l1.length : Int)
       ·rw [if_pos c7] at H
        have c7b0 : decide (x13_1 < (l1.length : Int)) = true := decide_eq_true c7
        clear c7
        by_cases c8 : (rdOf ByteArray.empty l0 x13_1).toList = (rdOf ByteArray.empty l1 x13_1).toList
        ·rw [if_pos c8] at H
         have c8b0 : ((rdOf ByteArray.empty l0 x13_1).toList == (rdOf ByteArray.empty l1 x13_1).toList) = true := beq_iff_eq.mpr c8
         have c8b1 : ((rdOf ByteArray.empty l0 x13_1).toList != (rdOf ByteArray.empty l1 x13_1).toList) = false := bne_eq_false_iff_eq.mpr c8
         clear c8
         have H' := Zq.mk H
         clear H
         have p570 : 0 ≤ (x13_1 : Int) := of_decide_eq_true (by first | (with_reducible assumption) | assumption)
         have q570 : x13_1 < (l0.length : Int) := of_decide_eq_true (by first | (with_reducible assumption) | assumption)
         obtain ⟨ad570, e570, hx570_0⟩ := Kd.at_string HR0.out x13_1 p570 q570
         cases e570
         replace p570 := eq_true p570
         replace q570 := eq_true q570
         have p571 : 0 ≤ (x13_1 : Int) := of_decide_eq_true (by first | (with_reducible assumption) | assumption)
         have q571 : x13_1 < (l1.length : Int) := of_decide_eq_true (by first | (with_reducible assumption) | assumption)
         obtain ⟨ad571, e571, hx571_0⟩ := Kd.at_string HR1.out x13_1 p571 q571
         cases e571
         replace p571 := eq_true p571
         replace q571 := eq_true q571
         go_wp2
         repeat (go_quiet (fail); try go_wp2)
         go_roundg k1
         case measure => have := HK1.out; omega
         case rel => exact ⟨(wrap64 (x13_1 + 1)), (by first | rfl | (simp; done) | (simp [*]; done)), H', ⟨by have := HK1.out; omega⟩, by repeat (first | exact Drawn0.refl _ | apply Drawn0.step)⟩
        ·rw [if_neg c8] at H
         have c8b0 : ((rdOf ByteArray.empty l0 x13_1).toList == (rdOf ByteArray.empty l1 x13_1).toList) = false := beq_eq_false_iff_ne.mpr c8
         have c8b1 : ((rdOf ByteArray.empty l0 x13_1).toList != (rdOf ByteArray.empty l1 x13_1).toList) = true := bne_iff_ne.mpr c8
         obtain rfl := Option.some.inj H
         have p570 : 0 ≤ (x13_1 : Int) := of_decide_eq_true (by first | (with_reducible assumption) | assumption)
         have q570 : x13_1 < (l0.length : Int) := of_decide_eq_true (by first | (with_reducible assumption) | assumption)
         obtain ⟨ad570, e570, hx570_0⟩ := Kd.at_string HR0.out x13_1 p570 q570
         cases e570
         replace p570 := eq_true p570
         replace q570 := eq_true q570
         have p571 : 0 ≤ (x13_1 : Int) := of_decide_eq_true (by first | (with_reducible assumption) | assumption)
         have q571 : x13_1 < (l1.length : Int) := of_decide_eq_true (by first | (with_reducible assumption) | assumption)
         obtain ⟨ad571, e571, hx571_0⟩ := Kd.at_string HR1.out x13_1 p571 q571
         cases e571
         replace p571 := eq_true p571
         replace q571 := eq_true q571
         go_wp2
         repeat (go_quiet (fail); try go_wp2)
         go_ret
         exact ⟨by first | rfl | (simp; done) | (simp [*]; done), by repeat (first | exact Drawn0.refl _ | apply Drawn0.step)⟩
       ·rw [if_neg c7] at H
        exact absurd H (by simp)
      ·rw [if_neg c6] at H
       exact absurd H (by simp)
     ·rw [if_neg c5] at H
      exact absurd H (by simp)
    ·rw [if_neg c4] at H
     have c4b0 : decide (x13_1 < (l0.length : Int)) = false := decide_eq_false c4
     clear c4
     obtain rfl := Option.some.inj H
     go_wp2
     repeat (go_quiet (fail); try go_wp2)
     go_ret
     exact ⟨by first | rfl | (simp; done) | (simp [*]; done), by repeat (first | exact Drawn0.refl _ | apply Drawn0.step)⟩
 ·rw [if_neg c3] at H
  have c3b0 : ((l0.length : Int) == (l1.length : Int)) = false := beq_eq_false_iff_ne.mpr c3
  have c3b1 : ((l0.length : Int) != (l1.length : Int)) = true := bne_iff_ne.mpr c3
  have c3b2 : (l0.length == l1.length) = false := by first | simpa using c3 | (simp at c3 ⊢; omega)
  obtain rfl := Option.some.inj H
  go_enter Tryz.func76, Tryz.ntmps76
  go_wp2
  repeat (go_quiet (fail); try go_wp2)
  go_ret
  exact ⟨by first | rfl | (simp; done) | (simp [*]; done), by repeat (first | exact Drawn0.refl _ | apply Drawn0.step)⟩
end
end Go.Proofs.YtjeekocidaogoaaGreatDoor.H

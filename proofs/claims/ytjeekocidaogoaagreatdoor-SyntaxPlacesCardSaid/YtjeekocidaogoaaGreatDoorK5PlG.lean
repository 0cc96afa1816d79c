/- SyntaxPlaces: the walk. -/
import Derived.Test.YtjeekocidaogoaaGreatDoorK5Pure9
import Derived.Test.YtjeekocidaogoaaGreatDoorK5Hx3
set_option linter.unusedVariables false
set_option linter.unusedSimpArgs false
set_option maxRecDepth 100000
set_option maxHeartbeats 8000000
namespace Go.Proofs.YtjeekocidaogoaaGreatDoor.H
open Go.RowKit Go.Proofs.YtjeekocidaogoaaGreatDoor.Hand Go.Proofs.YtjeekocidaogoaaGreatDoorW.PrintWords Go.Proofs.YtjeekocidaogoaaGreatDoorW.PrintLast Go.Proofs.YtjeekocidaogoaaGreatDoorW.PrintMore
section
theorem zlt (i L : Nat) (h : ¬ i + 1 = L) : ((i : Int) + 1 == (L : Int)) = false := beq_eq_false_iff_ne.2 (by omega)
theorem zlu (i L : Nat) (hi : i < L) (h : ¬ i + 1 = L) : i + 1 < L := by omega
theorem zlv (i L : Nat) (h : i + 1 < L) : 0 ≤ (i : Int) + 1 ∧ (i : Int) + 1 < (L : Int) := by omega
theorem zoh (i L : Nat) (z : Int) (hz : z = (i : Int) + 1) (h : i + 1 = L) : (z == (L : Int)) = true := beq_iff_eq.2 (by omega)
theorem zhy (m n : Nat) (h : m ≤ n) : 0 ≤ (m : Int) ∧ (m : Int) ≤ (n : Int) := by omega
theorem zgg (s : ByteArray) (m : Nat) : (s.extract 0 m).size ≤ s.size := by rw [ByteArray.size_extract]; omega
theorem zli (i L : Nat) (hi : i < L) (h : L ≤ 8001) : wrap64 ((i : Int) + 1) = (i : Int) + 1 := by unfold wrap64; omega
theorem zkc (a b : Int) : ∃ r, lychgatelaw09_add.f a b = some r := by
 unfold lychgatelaw09_add.f
 split <;> exact ⟨_, rfl⟩
theorem zia (a : Int) : ∃ r, lychgatelaw09_thrice.f a = some r := by
 obtain ⟨x, hx⟩ := zkc a a
 obtain ⟨y, hy⟩ := zkc a x
 exact ⟨y, by simp [lychgatelaw09_thrice.f, hx, hy]⟩
theorem splaces_calls (s rest : ByteArray) (W : World) (hInv : Inv W) (hs : s.size ≤ 140737488351232) (hrs : rest.size ≤ 140737488351232) :
  Calls Tryz.prog 7 #[.string s, .string rest] W fun e W' => e = .returned (.bool true) ∧ Below W.heap.size W W' := by
 obtain ⟨x1, hx1⟩ := zkc (s.size : Int) (rest.size : Int)
 obtain ⟨x2, hx2⟩ := zia x1
 obtain ⟨x3, hx3⟩ := zia x2
 have H1 := Zq.mk (fun w => lychgatelaw09_add.calls _ _ x1 w hx1)
 have H2 := Zq.mk (fun w => lychgatelaw09_thrice.calls _ x2 w hx2)
 have H3 := Zq.mk (fun w => lychgatelaw09_thrice.calls _ x3 w hx3)
 have HI := Zq.mk hInv
 clear hx1 hx2 hx3 hInv
 by_cases hbig : x3 > 2147483647
 ·go_enter Tryz.func7, Tryz.ntmps7
  go_wp2_with (first
   | (go_at_call 9; refine (H1.out _).mono ?_; rintro e1 w1 ⟨rfl, hd⟩; have HB1 := Zq.mk hd.below; clear hd)
   | (go_at_call 8; refine (H2.out _).mono ?_; rintro e2 w2 ⟨rfl, hd⟩; have HB2 := Zq.mk (zas HB1.out HB1.out.size hd.below); clear hd H2)
   | (go_at_call 8; refine (H3.out _).mono ?_; rintro e3 w3 ⟨rfl, hd⟩; have HB3 := Zq.mk (zas HB2.out HB2.out.size hd.below); clear hd))
  go_ret
  exact ⟨rfl, HB3.out⟩
 obtain ⟨⟨L, e, p⟩, hsc⟩ : ∃ x, zay s = x := ⟨_, rfl⟩
 obtain ⟨⟨pl, f, n⟩, hps⟩ : ∃ x, zbh s = x := ⟨_, rfl⟩
 have HSC := Zq.mk (fun w (h : Below W.heap.size W w) => lex_Scan.calls 18000 s L e p w (HI.out.below h) (by rw [zfe s 18000 (Nat.le_refl _), hsc]))
 have HPC := Zq.mk (fun w (h : Below W.heap.size W w) => show Calls Tryz.prog 11 #[.string s] w (zhm w pl f n) from by have := zbw s w (HI.out.below h); rwa [hps] at this)
 have HAW := Zq.mk (fun w (h : Below W.heap.size W w) => awake_calls w (HI.out.below h))
 have HE1 := Zq.mk hsc
 have HE2 := Zq.mk hps
 clear hsc hps
 go_enter Tryz.func7, Tryz.ntmps7
 go_upto_region 6 with (first
  | (go_at_call 9; refine (H1.out _).mono ?_; rintro e1 w1 ⟨rfl, hd⟩; have HB1 := Zq.mk hd.below; clear hd)
  | (go_at_call 8; refine (H2.out _).mono ?_; rintro e2 w2 ⟨rfl, hd⟩; have HB2 := Zq.mk (zas HB1.out HB1.out.size hd.below); clear hd H2)
  | (go_at_call 8; refine (H3.out _).mono ?_; rintro e3 w3 ⟨rfl, hd⟩; have HB3 := Zq.mk (zas HB2.out HB2.out.size hd.below); clear hd)
  | (go_at_call 10; refine (HAW.out _ HB3.out).mono ?_; rintro e4 w4 ⟨rfl, hb4⟩; have HB4 := Zq.mk (zas HB3.out HB3.out.size hb4); clear hb4)
  | (go_at_call 16; refine (HSC.out _ HB4.out).mono ?_; rintro e5 w5 ⟨v0, rfl, hR, hb5⟩; have hR0 := hR; obtain ⟨A0, k0, rfl⟩ := Kd.R_slice hR; have HR := Zq.mk hR0; have HB5 := Zq.mk (zas HB4.out HB4.out.size hb5); clear hR hR0 hb5)
  | (go_at_call 11; refine (HPC.out _ HB5.out).mono ?_; rintro e6 w6 ⟨v1, rfl, hP1, hb6⟩; obtain ⟨A1, c1, rfl, -, -⟩ := hP1.C; have HBB := Zq.mk (zab hb6 (.cells #[.slice A1 pl.length c1] 36)); have HB6 := Zq.mk (zas HB5.out HB5.out.size HBB.out); clear hP1 hb6))
 clear H1 H3 HSC HPC HAW
 by_cases h0 : e = 0
 ·subst h0
  by_cases hf : f = 0
  ·subst hf
   go_wp2
   go_ret
   exact ⟨rfl, HB6.out⟩
  ·have hz : (zay s).2.1 = 0 := by rw [HE1.out]
   obtain ⟨rr, q0, hlast, hmany⟩ := zem s hz
   rw [HE1.out] at hlast hmany
   have hpl := places s hz (by rw [HE2.out]; exact hf)
   have hcut := zlk s hz
   have hpair := zmo _ _ _ _ (Nat.le_refl _) (zis s hz).2
   rw [HE2.out, HE1.out] at hpl
   rw [HE1.out] at hcut hpair
   dsimp only at hpl hcut hlast hmany hpair
   obtain ⟨T, c, hv, hbT, hTok⟩ := zoy HR.out (by rw [hlast]; simp)
   injection hv with hv1 hv2 hv3
   subst hv1
   obtain ⟨toks, htoks⟩ : ∃ toks, L.map zed = toks := ⟨_, rfl⟩
   have hlen : L.length = toks.length := by rw [← htoks, List.length_map]
   rw [htoks] at hTok
   rw [hlen] at hmany
   have hmt : toks.length ≤ 8001 := hmany
   have HT6 := Zq.mk (zbr hTok HBB.out)
   have tka : ∀ i t, L[i]? = some t → (tk toks i).place = t.f4 := fun i t ht => by rw [← htoks, zkf _ _ _ ht]; rfl
   simp only [hlen]
   obtain ⟨q, hq, same, hpl⟩ := hpl
   have first : ∀ j, j < L.length → ∀ i, i < j → ¬ (tk toks i).place = (tk toks j).place := fun j hj i hij h => by
    rw [tka i _ (List.getElem?_eq_getElem (by omega)), tka j _ (List.getElem?_eq_getElem hj)] at h
    have := (List.pairwise_iff_getElem.1 hpair) i j (by omega) hj hij
    omega
   rcases hpl with ⟨rfl, hh, t, hhq, ht, htn, hns, hc91⟩ | ⟨hf2, t, ht, htn, hcm⟩
   ·have HEQ := Zq.mk (show (tk toks hh).place = n from (tka hh t ht).trans htn)
    have HNE := Zq.mk (show ∀ i, i < hh → ¬ (tk toks i).place = n from fun i hi => by rw [← HEQ.out]; exact first hh (by omega) i hi)
    have HC := Zq.mk (show ∀ i, hh ≤ i → i < toks.length → ∃ m : Nat, (tk toks i).place = (m : Int) ∧ m ≤ s.size ∧ ((zbh (s.extract 0 m)).2.1 = 90 ∨ ((zbh (s.extract 0 m)).2.1 = 91 ∧ (zbh (s.extract 0 m)).2.2 ≤ n)) from fun i h1 h2 => by
     have hL := List.getElem?_eq_getElem (l := L) (i := i) (by omega)
     obtain ⟨m, hm, hms, -, -⟩ := hcut i _ hL
     refine ⟨m, (tka i _ hL).trans hm, hms, ?_⟩
     by_cases hiq : i ≤ q
     ·exact hc91 i m _ h1 hiq hL hm
     ·have := (same i m _ (by omega) hL hm).1
      rw [this]
      exact .inr ⟨rfl, Int.le_refl _⟩)
    have HD := Zq.mk (show ∀ i, hh ≤ i → i + 1 < toks.length → (tk toks i).kind = 7 → (tk toks i).text.toList = [59] → ∃ m : Nat, (tk toks (i + 1)).place = (m : Int) ∧ m ≤ s.size ∧ (zbh (s.extract 0 m)).2 = (91, n) ∧ ((zay (zcf s rest m)).2.1 ≠ 0 ∨ (zbh (zcf s rest m)).2 = (91, n)) from fun i h1 h2 h3 h4 => by
     have hL := List.getElem?_eq_getElem (l := L) (i := i + 1) (by omega)
     have hLi := List.getElem?_eq_getElem (l := L) (i := i) (by omega)
     obtain ⟨m, hm, hms, -, -⟩ := hcut (i + 1) _ hL
     have hqi : q < i + 1 := by
      by_cases hlt : i < q
      ·exfalso
       have := hns i _ h1 hlt hLi
       rw [← zkf _ _ _ hLi, htoks] at this
       have h5 : (tk toks i).text.toList = zff.toList := h4.trans (by decide +kernel)
       simp [isT, h3, h5] at this
      ·omega
     obtain ⟨s1, s2⟩ := same (i + 1) m _ hqi hL hm
     exact ⟨m, (tka _ _ hL).trans hm, hms, s1, s2 rest⟩)
    have hjl : hh < toks.length := by omega
    clear hpair hcut hns hc91 same first ht htn hlast htoks tka hbT HE1 HE2 HR HBB hz
    go_wp2
    go_loopg [12] (toks.length + 1) (fun f iv wr => ∃ i : Nat, iv = .int .i64 i ∧ i ≤ hh ∧ toks.length - i < f ∧ Zq (Below W.heap.size W wr) ∧ Zq (Toks wr T toks))
    case atStart => exact ⟨0, rfl, Nat.zero_le _, by omega, HB6, HT6⟩
    case round =>
     clear HB6 HT6
     obtain ⟨i, rfl, hij, hfu, HB, HT⟩ := hrel
     have hil : i < toks.length := by omega
     have e5 := (HT.out.cell (zbt toks hil)).2.2.2.2.2
     have hb1 : 0 ≤ (i : Int) ∧ (i : Int) < (toks.length : Int) := by omega
     obtain ⟨f, rfl⟩ : ∃ f', gk = f' + 1 := ⟨gk - 1, by omega⟩
     by_cases hlt : i < hh
     ·have hne : ((tk toks i).place != n) = true := bne_iff_ne.2 (HNE.out i hlt)
      go_wp2
      go_roundg f
      case measure => omega
      case rel => exact ⟨i + 1, by first | rfl | (congr 1; unfold wrap64; omega), by omega, by omega, HB, HT⟩
     ·obtain rfl : i = hh := by omega
      rw [HEQ.out] at e5
      have hnl : ((i : Int) == (toks.length : Int)) = false := beq_eq_false_iff_ne.2 (by omega)
      have HDE := Zq.mk (fun w (h : Below W.heap.size W w) (hT : Toks w T toks) => deeper_calls s rest w (HI.out.below h) T c toks hs hrs hmt hT i n hil HEQ.out HC.out HD.out)
      clear hij hfu
      go_wp2_with (go_at_call 26; refine (HDE.out _ HB.out HT.out).mono ?_; rintro e9 w9 ⟨rfl, hb9⟩; have HB9 := Zq.mk (zas HB.out HB.out.size hb9); clear hb9)
      go_ret
      exact ⟨rfl, HB9.out⟩
   ·have hL := List.getElem?_eq_getElem (l := L) (i := q) hq
    obtain ⟨m, hm, hms, -, -⟩ := hcut q t ht
    obtain rfl : n = (m : Int) := htn.symm.trans hm
    have HEQ := Zq.mk (show (tk toks q).place = (m : Int) from (tka q t ht).trans htn)
    have HNE := Zq.mk (show ∀ i, i < q → ¬ (tk toks i).place = (m : Int) from fun i hi => by rw [← HEQ.out]; exact first q hq i hi)
    have HCM := Zq.mk (hcm m hm)
    have HN := Zq.mk (show q + 1 < toks.length → ∃ m2 : Nat, (tk toks (q + 1)).place = (m2 : Int) ∧ m2 ≤ s.size ∧ ((zay (zcf s rest m2)).2.1 ≠ 0 ∨ (zbh (zcf s rest m2)).2 = (f, (m : Int))) from fun h => by
     have hL := List.getElem?_eq_getElem (l := L) (i := q + 1) (by omega)
     obtain ⟨m2, hm2, hms2, -, -⟩ := hcut (q + 1) _ hL
     exact ⟨m2, (tka _ _ hL).trans hm2, hms2, (same (q + 1) m2 _ (by omega) hL hm2).2 rest⟩)
    have hjl : q < toks.length := by omega
    clear hpair hcut same first hcm ht hm htn hlast htoks tka hbT HE1 HE2 HR HBB hz hL
    have hfe := Zq.mk hf2
    rcases hf2 with rfl | rfl
    ·go_wp2
     go_loopg [12] (toks.length + 1) (fun f iv wr => ∃ i : Nat, iv = .int .i64 i ∧ i ≤ q ∧ toks.length - i < f ∧ Zq (Below W.heap.size W wr) ∧ Zq (Toks wr T toks))
     case atStart => exact ⟨0, rfl, Nat.zero_le _, by omega, HB6, HT6⟩
     case round =>
      clear HB6 HT6
      obtain ⟨i, rfl, hij, hfu, HB, HT⟩ := hrel
      have hil : i < toks.length := by omega
      have e5 := (HT.out.cell (zbt toks hil)).2.2.2.2.2
      have hb1 : 0 ≤ (i : Int) ∧ (i : Int) < (toks.length : Int) := by omega
      obtain ⟨f, rfl⟩ : ∃ f', gk = f' + 1 := ⟨gk - 1, by omega⟩
      by_cases hlt : i < q
      ·have hne : ((tk toks i).place != (m : Int)) = true := bne_iff_ne.2 (HNE.out i hlt)
       go_wp2
       go_roundg f
       case measure => omega
       case rel => exact ⟨i + 1, by first | rfl | (congr 1; unfold wrap64; omega), by omega, by omega, HB, HT⟩
      ·obtain rfl : i = q := by omega
       rw [HEQ.out] at e5
       have hnl : ((i : Int) == (toks.length : Int)) = false := beq_eq_false_iff_ne.2 (by omega)
       have hb2 : 0 ≤ (m : Int) ∧ (m : Int) ≤ (s.size : Int) := zhy _ _ hms
       have HP1 := Zq.mk (fun w (h : Below W.heap.size W w) => zbw (s.extract 0 m) w (HI.out.below h))
       have hcm := HCM.out
       generalize zbh (s.extract 0 m) = r1 at HP1 hcm
       obtain ⟨pl1, g1, mm1⟩ := r1
       dsimp only at HP1 hcm
       rcases hcm with rfl | hcm
       ·by_cases hlast : i + 1 = toks.length
        ·obtain ⟨z, hz⟩ : ∃ z : Int, z = (i : Int) + 1 := ⟨_, rfl⟩
         have hw2 : wrap64 ((i : Int) + 1) = z := (zli _ _ hil hmt).trans hz.symm
         have hlast' : (z == (toks.length : Int)) = true := zoh _ _ _ hz hlast
         clear hlast hij hfu hmt hmany hz hb1 hlen hv2
         go_wp2_with ((go_at_call 11; refine (HP1.out _ HB.out).mono ?_; rintro e7 w7 ⟨v7, rfl, hP1, hb1⟩; obtain ⟨A7, c7, rfl, -, -⟩ := hP1.C; have HB7 := Zq.mk (zas HB.out HB.out.size (zab hb1 (.cells #[.slice A7 pl1.length c7] 36))); clear hP1 hb1))
         go_ret
         exact ⟨rfl, HB7.out⟩
        ·have hlast' : ((i : Int) + 1 == (toks.length : Int)) = false := zlt _ _ hlast
         have hi2 : i + 1 < toks.length := zlu _ _ hil hlast
         have hb3 : 0 ≤ (i : Int) + 1 ∧ (i : Int) + 1 < (toks.length : Int) := zlv _ _ hi2
         obtain ⟨m2, hm2, hms2, hor⟩ := HN.out hi2
         have hb4 : 0 ≤ (m2 : Int) ∧ (m2 : Int) ≤ (s.size : Int) := zhy _ _ hms2
         have hsz : (s.extract 0 m2).size ≤ s.size := zgg s m2
         have HS := Zq.mk (fun w (h : Below W.heap.size W w) => lex_Scan.calls 18000 (zcf s rest m2) (zay (zcf s rest m2)).1 (zay (zcf s rest m2)).2.1 (zay (zcf s rest m2)).2.2 _ (HI.out.below h) (zfe _ 18000 (Nat.le_refl _)))
         have HQ := Zq.mk (fun w (h : Below W.heap.size W w) => zbw (zcf s rest m2) w (HI.out.below h))
         generalize zbh (zcf s rest m2) = r2 at HQ hor
         generalize zay (zcf s rest m2) = r3 at HS hor
         obtain ⟨pl2, g2, mm2⟩ := r2
         obtain ⟨pl3, g3, mm3⟩ := r3
         dsimp only at HQ HS hor
         clear hij hfu hlast
         by_cases hz : g3 = 0
         ·rcases hor with hor | hor
          ·exact absurd hz hor
          obtain ⟨rfl, rfl⟩ := Prod.mk.inj hor
          subst hz
          go_wp2_with (first
           | (go_at_call 11; refine (HQ.out _ HB8.out).mono ?_; rintro e9 w9 ⟨v9, rfl, hP1, hb1⟩; obtain ⟨A9, c9, rfl, -, -⟩ := hP1.C; have HB9 := Zq.mk (zas HB8.out HB8.out.size (zab hb1 (.cells #[.slice A9 pl2.length c9] 36))); clear hP1 hb1)
           | (go_at_call 11; refine (HP1.out _ HB.out).mono ?_; rintro e7 w7 ⟨v7, rfl, hP1, hb1⟩; obtain ⟨A7, c7, rfl, -, -⟩ := hP1.C; have HB7 := Zq.mk (zas HB.out HB.out.size (zab hb1 (.cells #[.slice A7 pl1.length c7] 36))); have HP1B := Zq.mk hb1; clear hP1 hb1; have e5m := ((zbr HT.out (zab HP1B.out (.cells #[.slice A7 pl1.length c7] 36))).cell (zbt toks hi2)).2.2.2.2.2; rw [hm2] at e5m; clear HP1)
           | (go_at_call 16; refine (HS.out _ HB7.out).mono ?_; rintro e8 w8 ⟨v8, rfl, hR, hb1⟩; obtain ⟨A8, c8, rfl⟩ := Kd.R_slice hR; have HB8 := Zq.mk (zas HB7.out HB7.out.size hb1); clear hR hb1))
          go_ret
          exact ⟨rfl, HB9.out⟩
         ·have hz' : (g3 != 0) = true := bne_iff_ne.2 hz
          clear hz
          go_wp2_with (first
           | (go_at_call 11; refine (HQ.out _ HB8.out).mono ?_; rintro e9 w9 ⟨v9, rfl, hP1, hb1⟩; obtain ⟨A9, c9, rfl, -, -⟩ := hP1.C; have HB9 := Zq.mk (zas HB8.out HB8.out.size (zab hb1 (.cells #[.slice A9 pl2.length c9] 36))); clear hP1 hb1)
           | (go_at_call 11; refine (HP1.out _ HB.out).mono ?_; rintro e7 w7 ⟨v7, rfl, hP1, hb1⟩; obtain ⟨A7, c7, rfl, -, -⟩ := hP1.C; have HB7 := Zq.mk (zas HB.out HB.out.size (zab hb1 (.cells #[.slice A7 pl1.length c7] 36))); have HP1B := Zq.mk hb1; clear hP1 hb1; have e5m := ((zbr HT.out (zab HP1B.out (.cells #[.slice A7 pl1.length c7] 36))).cell (zbt toks hi2)).2.2.2.2.2; rw [hm2] at e5m; clear HP1)
           | (go_at_call 16; refine (HS.out _ HB7.out).mono ?_; rintro e8 w8 ⟨v8, rfl, hR, hb1⟩; obtain ⟨A8, c8, rfl⟩ := Kd.R_slice hR; have HB8 := Zq.mk (zas HB7.out HB7.out.size hb1); clear hR hb1))
          go_ret
          exact ⟨rfl, HB9.out⟩
       ·obtain ⟨rfl, rfl⟩ := Prod.mk.inj hcm
        by_cases hlast : i + 1 = toks.length
        ·obtain ⟨z, hz⟩ : ∃ z : Int, z = (i : Int) + 1 := ⟨_, rfl⟩
         have hw2 : wrap64 ((i : Int) + 1) = z := (zli _ _ hil hmt).trans hz.symm
         have hlast' : (z == (toks.length : Int)) = true := zoh _ _ _ hz hlast
         clear hlast hij hfu hmt hmany hz hb1 hlen hv2
         go_wp2_with ((go_at_call 11; refine (HP1.out _ HB.out).mono ?_; rintro e7 w7 ⟨v7, rfl, hP1, hb1⟩; obtain ⟨A7, c7, rfl, -, -⟩ := hP1.C; have HB7 := Zq.mk (zas HB.out HB.out.size (zab hb1 (.cells #[.slice A7 pl1.length c7] 36))); clear hP1 hb1))
         go_ret
         exact ⟨rfl, HB7.out⟩
        ·have hlast' : ((i : Int) + 1 == (toks.length : Int)) = false := zlt _ _ hlast
         have hi2 : i + 1 < toks.length := zlu _ _ hil hlast
         have hb3 : 0 ≤ (i : Int) + 1 ∧ (i : Int) + 1 < (toks.length : Int) := zlv _ _ hi2
         obtain ⟨m2, hm2, hms2, hor⟩ := HN.out hi2
         have hb4 : 0 ≤ (m2 : Int) ∧ (m2 : Int) ≤ (s.size : Int) := zhy _ _ hms2
         have hsz : (s.extract 0 m2).size ≤ s.size := zgg s m2
         have HS := Zq.mk (fun w (h : Below W.heap.size W w) => lex_Scan.calls 18000 (zcf s rest m2) (zay (zcf s rest m2)).1 (zay (zcf s rest m2)).2.1 (zay (zcf s rest m2)).2.2 _ (HI.out.below h) (zfe _ 18000 (Nat.le_refl _)))
         have HQ := Zq.mk (fun w (h : Below W.heap.size W w) => zbw (zcf s rest m2) w (HI.out.below h))
         generalize zbh (zcf s rest m2) = r2 at HQ hor
         generalize zay (zcf s rest m2) = r3 at HS hor
         obtain ⟨pl2, g2, mm2⟩ := r2
         obtain ⟨pl3, g3, mm3⟩ := r3
         dsimp only at HQ HS hor
         clear hij hfu hlast
         by_cases hz : g3 = 0
         ·rcases hor with hor | hor
          ·exact absurd hz hor
          obtain ⟨rfl, rfl⟩ := Prod.mk.inj hor
          subst hz
          go_wp2_with (first
           | (go_at_call 11; refine (HQ.out _ HB8.out).mono ?_; rintro e9 w9 ⟨v9, rfl, hP1, hb1⟩; obtain ⟨A9, c9, rfl, -, -⟩ := hP1.C; have HB9 := Zq.mk (zas HB8.out HB8.out.size (zab hb1 (.cells #[.slice A9 pl2.length c9] 36))); clear hP1 hb1)
           | (go_at_call 11; refine (HP1.out _ HB.out).mono ?_; rintro e7 w7 ⟨v7, rfl, hP1, hb1⟩; obtain ⟨A7, c7, rfl, -, -⟩ := hP1.C; have HB7 := Zq.mk (zas HB.out HB.out.size (zab hb1 (.cells #[.slice A7 pl1.length c7] 36))); have HP1B := Zq.mk hb1; clear hP1 hb1; have e5m := ((zbr HT.out (zab HP1B.out (.cells #[.slice A7 pl1.length c7] 36))).cell (zbt toks hi2)).2.2.2.2.2; rw [hm2] at e5m; clear HP1)
           | (go_at_call 16; refine (HS.out _ HB7.out).mono ?_; rintro e8 w8 ⟨v8, rfl, hR, hb1⟩; obtain ⟨A8, c8, rfl⟩ := Kd.R_slice hR; have HB8 := Zq.mk (zas HB7.out HB7.out.size hb1); clear hR hb1))
          go_ret
          exact ⟨rfl, HB9.out⟩
         ·have hz' : (g3 != 0) = true := bne_iff_ne.2 hz
          clear hz
          go_wp2_with (first
           | (go_at_call 11; refine (HQ.out _ HB8.out).mono ?_; rintro e9 w9 ⟨v9, rfl, hP1, hb1⟩; obtain ⟨A9, c9, rfl, -, -⟩ := hP1.C; have HB9 := Zq.mk (zas HB8.out HB8.out.size (zab hb1 (.cells #[.slice A9 pl2.length c9] 36))); clear hP1 hb1)
           | (go_at_call 11; refine (HP1.out _ HB.out).mono ?_; rintro e7 w7 ⟨v7, rfl, hP1, hb1⟩; obtain ⟨A7, c7, rfl, -, -⟩ := hP1.C; have HB7 := Zq.mk (zas HB.out HB.out.size (zab hb1 (.cells #[.slice A7 pl1.length c7] 36))); have HP1B := Zq.mk hb1; clear hP1 hb1; have e5m := ((zbr HT.out (zab HP1B.out (.cells #[.slice A7 pl1.length c7] 36))).cell (zbt toks hi2)).2.2.2.2.2; rw [hm2] at e5m; clear HP1)
           | (go_at_call 16; refine (HS.out _ HB7.out).mono ?_; rintro e8 w8 ⟨v8, rfl, hR, hb1⟩; obtain ⟨A8, c8, rfl⟩ := Kd.R_slice hR; have HB8 := Zq.mk (zas HB7.out HB7.out.size hb1); clear hR hb1))
          go_ret
          exact ⟨rfl, HB9.out⟩
    ·go_wp2
     go_loopg [12] (toks.length + 1) (fun f iv wr => ∃ i : Nat, iv = .int .i64 i ∧ i ≤ q ∧ toks.length - i < f ∧ Zq (Below W.heap.size W wr) ∧ Zq (Toks wr T toks))
     case atStart => exact ⟨0, rfl, Nat.zero_le _, by omega, HB6, HT6⟩
     case round =>
      clear HB6 HT6
      obtain ⟨i, rfl, hij, hfu, HB, HT⟩ := hrel
      have hil : i < toks.length := by omega
      have e5 := (HT.out.cell (zbt toks hil)).2.2.2.2.2
      have hb1 : 0 ≤ (i : Int) ∧ (i : Int) < (toks.length : Int) := by omega
      obtain ⟨f, rfl⟩ : ∃ f', gk = f' + 1 := ⟨gk - 1, by omega⟩
      by_cases hlt : i < q
      ·have hne : ((tk toks i).place != (m : Int)) = true := bne_iff_ne.2 (HNE.out i hlt)
       go_wp2
       go_roundg f
       case measure => omega
       case rel => exact ⟨i + 1, by first | rfl | (congr 1; unfold wrap64; omega), by omega, by omega, HB, HT⟩
      ·obtain rfl : i = q := by omega
       rw [HEQ.out] at e5
       have hnl : ((i : Int) == (toks.length : Int)) = false := beq_eq_false_iff_ne.2 (by omega)
       have hb2 : 0 ≤ (m : Int) ∧ (m : Int) ≤ (s.size : Int) := zhy _ _ hms
       have HP1 := Zq.mk (fun w (h : Below W.heap.size W w) => zbw (s.extract 0 m) w (HI.out.below h))
       have hcm := HCM.out
       generalize zbh (s.extract 0 m) = r1 at HP1 hcm
       obtain ⟨pl1, g1, mm1⟩ := r1
       dsimp only at HP1 hcm
       rcases hcm with rfl | hcm
       ·by_cases hlast : i + 1 = toks.length
        ·obtain ⟨z, hz⟩ : ∃ z : Int, z = (i : Int) + 1 := ⟨_, rfl⟩
         have hw2 : wrap64 ((i : Int) + 1) = z := (zli _ _ hil hmt).trans hz.symm
         have hlast' : (z == (toks.length : Int)) = true := zoh _ _ _ hz hlast
         clear hlast hij hfu hmt hmany hz hb1 hlen hv2
         go_wp2_with ((go_at_call 11; refine (HP1.out _ HB.out).mono ?_; rintro e7 w7 ⟨v7, rfl, hP1, hb1⟩; obtain ⟨A7, c7, rfl, -, -⟩ := hP1.C; have HB7 := Zq.mk (zas HB.out HB.out.size (zab hb1 (.cells #[.slice A7 pl1.length c7] 36))); clear hP1 hb1))
         go_ret
         exact ⟨rfl, HB7.out⟩
        ·have hlast' : ((i : Int) + 1 == (toks.length : Int)) = false := zlt _ _ hlast
         have hi2 : i + 1 < toks.length := zlu _ _ hil hlast
         have hb3 : 0 ≤ (i : Int) + 1 ∧ (i : Int) + 1 < (toks.length : Int) := zlv _ _ hi2
         obtain ⟨m2, hm2, hms2, hor⟩ := HN.out hi2
         have hb4 : 0 ≤ (m2 : Int) ∧ (m2 : Int) ≤ (s.size : Int) := zhy _ _ hms2
         have hsz : (s.extract 0 m2).size ≤ s.size := zgg s m2
         have HS := Zq.mk (fun w (h : Below W.heap.size W w) => lex_Scan.calls 18000 (zcf s rest m2) (zay (zcf s rest m2)).1 (zay (zcf s rest m2)).2.1 (zay (zcf s rest m2)).2.2 _ (HI.out.below h) (zfe _ 18000 (Nat.le_refl _)))
         have HQ := Zq.mk (fun w (h : Below W.heap.size W w) => zbw (zcf s rest m2) w (HI.out.below h))
         generalize zbh (zcf s rest m2) = r2 at HQ hor
         generalize zay (zcf s rest m2) = r3 at HS hor
         obtain ⟨pl2, g2, mm2⟩ := r2
         obtain ⟨pl3, g3, mm3⟩ := r3
         dsimp only at HQ HS hor
         clear hij hfu hlast
         by_cases hz : g3 = 0
         ·rcases hor with hor | hor
          ·exact absurd hz hor
          obtain ⟨rfl, rfl⟩ := Prod.mk.inj hor
          subst hz
          go_wp2_with (first
           | (go_at_call 11; refine (HQ.out _ HB8.out).mono ?_; rintro e9 w9 ⟨v9, rfl, hP1, hb1⟩; obtain ⟨A9, c9, rfl, -, -⟩ := hP1.C; have HB9 := Zq.mk (zas HB8.out HB8.out.size (zab hb1 (.cells #[.slice A9 pl2.length c9] 36))); clear hP1 hb1)
           | (go_at_call 11; refine (HP1.out _ HB.out).mono ?_; rintro e7 w7 ⟨v7, rfl, hP1, hb1⟩; obtain ⟨A7, c7, rfl, -, -⟩ := hP1.C; have HB7 := Zq.mk (zas HB.out HB.out.size (zab hb1 (.cells #[.slice A7 pl1.length c7] 36))); have HP1B := Zq.mk hb1; clear hP1 hb1; have e5m := ((zbr HT.out (zab HP1B.out (.cells #[.slice A7 pl1.length c7] 36))).cell (zbt toks hi2)).2.2.2.2.2; rw [hm2] at e5m; clear HP1)
           | (go_at_call 16; refine (HS.out _ HB7.out).mono ?_; rintro e8 w8 ⟨v8, rfl, hR, hb1⟩; obtain ⟨A8, c8, rfl⟩ := Kd.R_slice hR; have HB8 := Zq.mk (zas HB7.out HB7.out.size hb1); clear hR hb1))
          go_ret
          exact ⟨rfl, HB9.out⟩
         ·have hz' : (g3 != 0) = true := bne_iff_ne.2 hz
          clear hz
          go_wp2_with (first
           | (go_at_call 11; refine (HQ.out _ HB8.out).mono ?_; rintro e9 w9 ⟨v9, rfl, hP1, hb1⟩; obtain ⟨A9, c9, rfl, -, -⟩ := hP1.C; have HB9 := Zq.mk (zas HB8.out HB8.out.size (zab hb1 (.cells #[.slice A9 pl2.length c9] 36))); clear hP1 hb1)
           | (go_at_call 11; refine (HP1.out _ HB.out).mono ?_; rintro e7 w7 ⟨v7, rfl, hP1, hb1⟩; obtain ⟨A7, c7, rfl, -, -⟩ := hP1.C; have HB7 := Zq.mk (zas HB.out HB.out.size (zab hb1 (.cells #[.slice A7 pl1.length c7] 36))); have HP1B := Zq.mk hb1; clear hP1 hb1; have e5m := ((zbr HT.out (zab HP1B.out (.cells #[.slice A7 pl1.length c7] 36))).cell (zbt toks hi2)).2.2.2.2.2; rw [hm2] at e5m; clear HP1)
           | (go_at_call 16; refine (HS.out _ HB7.out).mono ?_; rintro e8 w8 ⟨v8, rfl, hR, hb1⟩; obtain ⟨A8, c8, rfl⟩ := Kd.R_slice hR; have HB8 := Zq.mk (zas HB7.out HB7.out.size hb1); clear hR hb1))
          go_ret
          exact ⟨rfl, HB9.out⟩
       ·obtain ⟨rfl, rfl⟩ := Prod.mk.inj hcm
        by_cases hlast : i + 1 = toks.length
        ·obtain ⟨z, hz⟩ : ∃ z : Int, z = (i : Int) + 1 := ⟨_, rfl⟩
         have hw2 : wrap64 ((i : Int) + 1) = z := (zli _ _ hil hmt).trans hz.symm
         have hlast' : (z == (toks.length : Int)) = true := zoh _ _ _ hz hlast
         clear hlast hij hfu hmt hmany hz hb1 hlen hv2
         go_wp2_with ((go_at_call 11; refine (HP1.out _ HB.out).mono ?_; rintro e7 w7 ⟨v7, rfl, hP1, hb1⟩; obtain ⟨A7, c7, rfl, -, -⟩ := hP1.C; have HB7 := Zq.mk (zas HB.out HB.out.size (zab hb1 (.cells #[.slice A7 pl1.length c7] 36))); clear hP1 hb1))
         go_ret
         exact ⟨rfl, HB7.out⟩
        ·have hlast' : ((i : Int) + 1 == (toks.length : Int)) = false := zlt _ _ hlast
         have hi2 : i + 1 < toks.length := zlu _ _ hil hlast
         have hb3 : 0 ≤ (i : Int) + 1 ∧ (i : Int) + 1 < (toks.length : Int) := zlv _ _ hi2
         obtain ⟨m2, hm2, hms2, hor⟩ := HN.out hi2
         have hb4 : 0 ≤ (m2 : Int) ∧ (m2 : Int) ≤ (s.size : Int) := zhy _ _ hms2
         have hsz : (s.extract 0 m2).size ≤ s.size := zgg s m2
         have HS := Zq.mk (fun w (h : Below W.heap.size W w) => lex_Scan.calls 18000 (zcf s rest m2) (zay (zcf s rest m2)).1 (zay (zcf s rest m2)).2.1 (zay (zcf s rest m2)).2.2 _ (HI.out.below h) (zfe _ 18000 (Nat.le_refl _)))
         have HQ := Zq.mk (fun w (h : Below W.heap.size W w) => zbw (zcf s rest m2) w (HI.out.below h))
         generalize zbh (zcf s rest m2) = r2 at HQ hor
         generalize zay (zcf s rest m2) = r3 at HS hor
         obtain ⟨pl2, g2, mm2⟩ := r2
         obtain ⟨pl3, g3, mm3⟩ := r3
         dsimp only at HQ HS hor
         clear hij hfu hlast
         by_cases hz : g3 = 0
         ·rcases hor with hor | hor
          ·exact absurd hz hor
          obtain ⟨rfl, rfl⟩ := Prod.mk.inj hor
          subst hz
          go_wp2_with (first
           | (go_at_call 11; refine (HQ.out _ HB8.out).mono ?_; rintro e9 w9 ⟨v9, rfl, hP1, hb1⟩; obtain ⟨A9, c9, rfl, -, -⟩ := hP1.C; have HB9 := Zq.mk (zas HB8.out HB8.out.size (zab hb1 (.cells #[.slice A9 pl2.length c9] 36))); clear hP1 hb1)
           | (go_at_call 11; refine (HP1.out _ HB.out).mono ?_; rintro e7 w7 ⟨v7, rfl, hP1, hb1⟩; obtain ⟨A7, c7, rfl, -, -⟩ := hP1.C; have HB7 := Zq.mk (zas HB.out HB.out.size (zab hb1 (.cells #[.slice A7 pl1.length c7] 36))); have HP1B := Zq.mk hb1; clear hP1 hb1; have e5m := ((zbr HT.out (zab HP1B.out (.cells #[.slice A7 pl1.length c7] 36))).cell (zbt toks hi2)).2.2.2.2.2; rw [hm2] at e5m; clear HP1)
           | (go_at_call 16; refine (HS.out _ HB7.out).mono ?_; rintro e8 w8 ⟨v8, rfl, hR, hb1⟩; obtain ⟨A8, c8, rfl⟩ := Kd.R_slice hR; have HB8 := Zq.mk (zas HB7.out HB7.out.size hb1); clear hR hb1))
          go_ret
          exact ⟨rfl, HB9.out⟩
         ·have hz' : (g3 != 0) = true := bne_iff_ne.2 hz
          clear hz
          go_wp2_with (first
           | (go_at_call 11; refine (HQ.out _ HB8.out).mono ?_; rintro e9 w9 ⟨v9, rfl, hP1, hb1⟩; obtain ⟨A9, c9, rfl, -, -⟩ := hP1.C; have HB9 := Zq.mk (zas HB8.out HB8.out.size (zab hb1 (.cells #[.slice A9 pl2.length c9] 36))); clear hP1 hb1)
           | (go_at_call 11; refine (HP1.out _ HB.out).mono ?_; rintro e7 w7 ⟨v7, rfl, hP1, hb1⟩; obtain ⟨A7, c7, rfl, -, -⟩ := hP1.C; have HB7 := Zq.mk (zas HB.out HB.out.size (zab hb1 (.cells #[.slice A7 pl1.length c7] 36))); have HP1B := Zq.mk hb1; clear hP1 hb1; have e5m := ((zbr HT.out (zab HP1B.out (.cells #[.slice A7 pl1.length c7] 36))).cell (zbt toks hi2)).2.2.2.2.2; rw [hm2] at e5m; clear HP1)
           | (go_at_call 16; refine (HS.out _ HB7.out).mono ?_; rintro e8 w8 ⟨v8, rfl, hR, hb1⟩; obtain ⟨A8, c8, rfl⟩ := Kd.R_slice hR; have HB8 := Zq.mk (zas HB7.out HB7.out.size hb1); clear hR hb1))
          go_ret
          exact ⟨rfl, HB9.out⟩
 ·have hz : (zay s).2.1 ≠ 0 := by rw [HE1.out]; exact h0
  have h8 := scanA_errs s hz
  have hpe : zbh s = ([], e, p) := by
   unfold zbh
   rw [if_pos hz, HE1.out]
  rw [HE2.out] at hpe
  obtain ⟨rfl, hpe2⟩ := Prod.mk.inj hpe
  obtain ⟨rfl, rfl⟩ := Prod.mk.inj hpe2
  rw [HE1.out] at h8
  dsimp only at h8
  obtain ⟨h81, h82⟩ := h8
  have h81' : (f != 0) = true := bne_iff_ne.2 h0
  have h83 : (f == 0) = false := beq_eq_false_iff_ne.2 h0
  clear h0 hz hpe hpe2 HE1 HE2
  go_wp2
  go_ret
  exact ⟨rfl, HB6.out⟩
end
end Go.Proofs.YtjeekocidaogoaaGreatDoor.H

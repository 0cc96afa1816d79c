/- Addresses and prefixes as texts: text, Print, PrintPrefix. -/
/- The printer's state: the bytes that are out, whether the last token was a word, whether something may not be; its smallest functions. -/
/- The printer's lists: a word, the things in braces, one by one. -/
/- Contracts of Go functions as plain Lean functions, written by a program of this session (wip/hand) out of the translation. -/
/- Contracts of Go functions as plain Lean functions, written by a program of this session (wip/hand) out of the translation. -/
/- Plain law: what Quote says, of the program and of the reference: the same text or error. -/
/- Plain law: what Quote says. -/
import Derived.Test.YtjeekocidaogoaaGreatDoorK5WApart
import Derived.Laws.Rows
import Derived.WalkLawsBesides
import Derived.Deep.LoopGhost
import Derived.Deep.RegionLaw
import Derived.Deep.RegionHeld3
import Derived.Test.YtjeekocidaogoaaGreatDoorProg
import Derived.KernelRfl
import Derived.Deep.QuietTactic
import Derived.Deep.RegionWith
import Derived.BigQuiet
import Derived.Lib.AppendStr
import Derived.Test.YtjeekocidaogoaaGreatDoorK5Src
import Derived.Test.YtjeekocidaogoaaGreatDoorK5Deep
import Derived.Test.YtjeekocidaogoaaGreatDoorK5Item
set_option linter.unusedVariables false
set_option linter.unusedSimpArgs false
set_option maxRecDepth 100000
set_option maxHeartbeats 8000000
namespace Go.Proofs.YtjeekocidaogoaaGreatDoor.Hand
open Go.RowKit Go.Proofs.YtjeekocidaogoaaGreatDoorW.PrintWords Go.Proofs.YtjeekocidaogoaaGreatDoorW.PrintLast Go.Proofs.YtjeekocidaogoaaGreatDoorW.PrintMore
section
theorem itoa_byte : ∀ n : Fin 256, (Lib.itoa (n.val : Int)).length ≤ 3 := by decide +kernel
theorem zdz {a : Int} (h0 : 0 ≤ a) (h1 : a < 256) : (Lib.itoa a).length ≤ 3 := by
 have := itoa_byte ⟨a.toNat, by omega⟩
 rwa [show ((⟨a.toNat, by omega⟩ : Fin 256).val : Int) = a from by simp; omega] at this
abbrev tB (l : List UInt8) : ByteArray := ⟨l.toArray⟩
def zpy (a b c d : Int) : List UInt8 := Lib.join [Lib.itoa a, Lib.itoa b, Lib.itoa c, Lib.itoa d] [46]
theorem znb {a b c d : Int} (a0 : 0 ≤ a) (a1 : a < 256) (b0 : 0 ≤ b) (b1 : b < 256) (c0 : 0 ≤ c) (c1 : c < 256) (d0 : 0 ≤ d) (d1 : d < 256) : (zpy a b c d).length ≤ 15 := by
 have h1 := zdz a0 a1
 have h2 := zdz b0 b1
 have h3 := zdz c0 c1
 have h4 := zdz d0 d1
 unfold zpy
 simp [Lib.join]
 omega
theorem zea (n : Int) (h0 : -9223372036854775808 ≤ n) (h1 : n ≤ 9223372036854775807) (w : World) (hInv : Inv w) :
  Calls Tryz.prog 102 #[.int .i64 n] w fun e w' => e = .returned (.string (tB (Lib.itoa n))) ∧ Below w.heap.size w w' := by
 refine (Tryz.strconv_Itoa n h0 h1 w hInv.pow10).mono ?_
 rintro e w' ⟨rfl, k, os, rfl⟩
 exact ⟨rfl, zhz (Below.refl _ _) (Nat.le_refl _) k os⟩
theorem zkg (a b c d : Int) (w : World) (hInv : Inv w) (a0 : 0 ≤ a) (a1 : a < 256) (b0 : 0 ≤ b) (b1 : b < 256) (c0 : 0 ≤ c) (c1 : c < 256) (d0 : 0 ≤ d) (d1 : d < 256) :
  Calls Tryz.prog 197 #[.agg #[.int .u8 a, .int .u8 b, .int .u8 c, .int .u8 d]] w fun e w' => e = .returned (.string (tB (zpy a b c d))) ∧ Below w.heap.size w w' := by
 have HL := Zq.mk (znb a0 a1 b0 b1 c0 c1 d0 d1)
 have i0 : ∀ w, (Instr.index 184 (.agg #[.int .u8 a, .int .u8 b, .int .u8 c, .int .u8 d]) (.int .i64 0)).run Tryz.prog w = .ok (.int .u8 a) w := fun _ => by kernel_rfl
 have i1 : ∀ w, (Instr.index 184 (.agg #[.int .u8 a, .int .u8 b, .int .u8 c, .int .u8 d]) (.int .i64 1)).run Tryz.prog w = .ok (.int .u8 b) w := fun _ => by kernel_rfl
 have i2 : ∀ w, (Instr.index 184 (.agg #[.int .u8 a, .int .u8 b, .int .u8 c, .int .u8 d]) (.int .i64 2)).run Tryz.prog w = .ok (.int .u8 c) w := fun _ => by kernel_rfl
 have i3 : ∀ w, (Instr.index 184 (.agg #[.int .u8 a, .int .u8 b, .int .u8 c, .int .u8 d]) (.int .i64 3)).run Tryz.prog w = .ok (.int .u8 d) w := fun _ => by kernel_rfl
 have HI := Zq.mk hInv
 have HA := Zq.mk (And.intro a0 a1)
 have HB := Zq.mk (And.intro b0 b1)
 have HC := Zq.mk (And.intro c0 c1)
 have HD := Zq.mk (And.intro d0 d1)
 have wa : wrap64 a = a := by unfold wrap64; omega
 have wb : wrap64 b = b := by unfold wrap64; omega
 have wc : wrap64 c = c := by unfold wrap64; omega
 have wd : wrap64 d = d := by unfold wrap64; omega
 clear hInv a0 a1 b0 b1 c0 c1 d0 d1
 go_enter Tryz.func197, Tryz.ntmps197
 go_wp2
 go_loopw [3, 7] (fun v i wr => ∃ k : Nat, ∃ v', k ≤ 4 ∧ v = v' ∧ i = .int .i64 k ∧ Zq (Row wr w.heap.size 9 1 v' k ((([Lib.itoa a, Lib.itoa b, Lib.itoa c, Lib.itoa d] : List (List UInt8)).take k).map fun l => Value.string (tB l))) ∧ Zq (Below w.heap.size w wr)) (fun _ i _ => 4 - (intOf i).toNat)
 case atStart => exact ⟨0, _, by omega, rfl, rfl, ⟨Row.nil _ _ _ _⟩, ⟨(Below.refl _ _).alloc (Nat.le_refl _) _⟩⟩
 case round =>
  obtain ⟨k, v, hk, rfl, rfl, HRr, HBr⟩ := hrel
  obtain ⟨A, cap, rfl, hcap, hpos⟩ := HRr.out.form
  have HP := Zq.mk hpos
  clear hpos
  have hk5 : k = 0 ∨ k = 1 ∨ k = 2 ∨ k = 3 ∨ k = 4 := by omega
  rcases hk5 with rfl | rfl | rfl | rfl | rfl
  ·go_wp2_with (first
    | (go_at_call 102; refine (zea a (by have := HA.out; omega) (by have := HA.out; omega) _ (HI.out.below (Below.trans ⟨rfl, rfl, rfl, Nat.le_refl _, fun _ _ => rfl⟩ HBr.out))).mono ?_; rintro e1 w1 ⟨rfl, hb1⟩; have HR1 := Zq.mk (HRr.out.frame (w1 := w1) fun g hg => hb1.block g (HRr.out.blk hg).2.1); have HB1 := Zq.mk (zas HBr.out (by have := HBr.out.size; exact this) hb1); clear hb1 HRr HBr)
    | ((with_reducible refine zbd (b := .append) (xs := #[.tmp 10, .tmp 14]) rfl ?_); at_builtin; refine zcj (w0 := w) w.heap.size rfl (.tmp 10) (.tmp 14) 25 9 (.string ⟨#[]⟩) 1 16 rfl rfl rfl rfl (by decide) (.slice A 0 cap) 0 _ [.string (tB (Lib.itoa a))] rfl rfl rfl ?aU HR1.out (by have := HB1.out.size; exact this) ?aM ?aL ?_; (case aU => intro u hu; simp at hu; subst hu; rfl); (case aM => simp only [maxLen]; omega); (case aL => omega); intro v1 w2 hr2 hg2 hat2 hne2 _; have HR2 := Zq.mk hr2; have HB2 := Zq.mk (HB1.out.grown hg2 (by have := HB1.out.size; exact this) (fun q hq => (HR1.out.blk hq).1)); obtain ⟨A1, cap1, rfl, hcap1, -⟩ := hr2.form; clear hr2 hg2 hat2 hne2))
   go_roundw
   case rel => exact ⟨1, _, by omega, rfl, by go_num, HR2, HB2⟩
   case measure => simp [intOf]
  ·go_wp2_with (first
    | (go_at_call 102; refine (zea b (by have := HB.out; omega) (by have := HB.out; omega) _ (HI.out.below (Below.trans ⟨rfl, rfl, rfl, Nat.le_refl _, fun _ _ => rfl⟩ HBr.out))).mono ?_; rintro e1 w1 ⟨rfl, hb1⟩; have HR1 := Zq.mk (HRr.out.frame (w1 := w1) fun g hg => hb1.block g (HRr.out.blk hg).2.1); have HB1 := Zq.mk (zas HBr.out (by have := HBr.out.size; exact this) hb1); clear hb1 HRr HBr)
    | ((with_reducible refine zbd (b := .append) (xs := #[.tmp 10, .tmp 14]) rfl ?_); at_builtin; refine zcj (w0 := w) w.heap.size rfl (.tmp 10) (.tmp 14) 25 9 (.string ⟨#[]⟩) 1 16 rfl rfl rfl rfl (by decide) (.slice A 1 cap) 1 _ [.string (tB (Lib.itoa b))] rfl rfl rfl ?aU HR1.out (by have := HB1.out.size; exact this) ?aM ?aL ?_; (case aU => intro u hu; simp at hu; subst hu; rfl); (case aM => simp only [maxLen]; omega); (case aL => omega); intro v1 w2 hr2 hg2 hat2 hne2 _; have HR2 := Zq.mk hr2; have HB2 := Zq.mk (HB1.out.grown hg2 (by have := HB1.out.size; exact this) (fun q hq => (HR1.out.blk hq).1)); obtain ⟨A1, cap1, rfl, hcap1, -⟩ := hr2.form; clear hr2 hg2 hat2 hne2))
   go_roundw
   case rel => exact ⟨2, _, by omega, rfl, by go_num, HR2, HB2⟩
   case measure => simp [intOf]
  ·go_wp2_with (first
    | (go_at_call 102; refine (zea c (by have := HC.out; omega) (by have := HC.out; omega) _ (HI.out.below (Below.trans ⟨rfl, rfl, rfl, Nat.le_refl _, fun _ _ => rfl⟩ HBr.out))).mono ?_; rintro e1 w1 ⟨rfl, hb1⟩; have HR1 := Zq.mk (HRr.out.frame (w1 := w1) fun g hg => hb1.block g (HRr.out.blk hg).2.1); have HB1 := Zq.mk (zas HBr.out (by have := HBr.out.size; exact this) hb1); clear hb1 HRr HBr)
    | ((with_reducible refine zbd (b := .append) (xs := #[.tmp 10, .tmp 14]) rfl ?_); at_builtin; refine zcj (w0 := w) w.heap.size rfl (.tmp 10) (.tmp 14) 25 9 (.string ⟨#[]⟩) 1 16 rfl rfl rfl rfl (by decide) (.slice A 2 cap) 2 _ [.string (tB (Lib.itoa c))] rfl rfl rfl ?aU HR1.out (by have := HB1.out.size; exact this) ?aM ?aL ?_; (case aU => intro u hu; simp at hu; subst hu; rfl); (case aM => simp only [maxLen]; omega); (case aL => omega); intro v1 w2 hr2 hg2 hat2 hne2 _; have HR2 := Zq.mk hr2; have HB2 := Zq.mk (HB1.out.grown hg2 (by have := HB1.out.size; exact this) (fun q hq => (HR1.out.blk hq).1)); obtain ⟨A1, cap1, rfl, hcap1, -⟩ := hr2.form; clear hr2 hg2 hat2 hne2))
   go_roundw
   case rel => exact ⟨3, _, by omega, rfl, by go_num, HR2, HB2⟩
   case measure => simp [intOf]
  ·go_wp2_with (first
    | (go_at_call 102; refine (zea d (by have := HD.out; omega) (by have := HD.out; omega) _ (HI.out.below (Below.trans ⟨rfl, rfl, rfl, Nat.le_refl _, fun _ _ => rfl⟩ HBr.out))).mono ?_; rintro e1 w1 ⟨rfl, hb1⟩; have HR1 := Zq.mk (HRr.out.frame (w1 := w1) fun g hg => hb1.block g (HRr.out.blk hg).2.1); have HB1 := Zq.mk (zas HBr.out (by have := HBr.out.size; exact this) hb1); clear hb1 HRr HBr)
    | ((with_reducible refine zbd (b := .append) (xs := #[.tmp 10, .tmp 14]) rfl ?_); at_builtin; refine zcj (w0 := w) w.heap.size rfl (.tmp 10) (.tmp 14) 25 9 (.string ⟨#[]⟩) 1 16 rfl rfl rfl rfl (by decide) (.slice A 3 cap) 3 _ [.string (tB (Lib.itoa d))] rfl rfl rfl ?aU HR1.out (by have := HB1.out.size; exact this) ?aM ?aL ?_; (case aU => intro u hu; simp at hu; subst hu; rfl); (case aM => simp only [maxLen]; omega); (case aL => omega); intro v1 w2 hr2 hg2 hat2 hne2 _; have HR2 := Zq.mk hr2; have HB2 := Zq.mk (HB1.out.grown hg2 (by have := HB1.out.size; exact this) (fun q hq => (HR1.out.blk hq).1)); obtain ⟨A1, cap1, rfl, hcap1, -⟩ := hr2.form; clear hr2 hg2 hat2 hne2))
   go_roundw
   case rel => exact ⟨4, _, by omega, rfl, by go_num, HR2, HB2⟩
   case measure => simp [intOf]
  ·obtain ⟨g, cur, rfl, ho, hbg, hh, hm, hc, ht⟩ := HP.out (by decide)
   have HJ : Zq (Calls Tryz.prog 217 #[.slice (some ⟨g, 0, none⟩) 4 cap, .string ⟨#[46]⟩] wr fun e w' => e = .returned (.string (tB (zpy a b c d))) ∧ Below wr.heap.size wr w') :=
    ⟨Tryz.strings_Join g 0 cap [tB (Lib.itoa a), tB (Lib.itoa b), tB (Lib.itoa c), tB (Lib.itoa d)] ⟨#[46]⟩ wr (fun j x hj => by
     rw [Nat.zero_add]
     refine HRr.out.cell ho j _ ?_
     rw [List.take_of_length_le (by simp)]
     have : ([Lib.itoa a, Lib.itoa b, Lib.itoa c, Lib.itoa d].map fun l => Value.string (tB l)) = [tB (Lib.itoa a), tB (Lib.itoa b), tB (Lib.itoa c), tB (Lib.itoa d)].map Value.string := rfl
     rw [this, List.getElem?_map, hj]
     rfl) (zat hh) (by simp) hcap (by have := HL.out; exact Nat.le_trans this (by decide))⟩
   clear HP ho hbg hh hm hc ht HRr
   go_wp2_with (go_at_call 217; refine HJ.out.mono ?_; rintro e1 w1 ⟨rfl, hb1⟩)
   go_ret
   exact ⟨rfl, zas HBr.out (by have := HBr.out.size; exact this) hb1⟩
def zkd (n : Int) : List UInt8 := zpy (n / 16777216 % 256) (n / 65536 % 256) (n / 256 % 256) (n % 256)
theorem zfy (n : Int) : (zkd n).length ≤ 15 := znb (by omega) (by omega) (by omega) (by omega) (by omega) (by omega) (by omega) (by omega)
def zet (n : Int) : List UInt8 × Int := if n < 0 ∨ 4294967295 < n then ([], 1) else (zkd n, 0)
def zdu (a p : Int) : List UInt8 × Int := if addr_right.f a p = some true then (zkd a ++ [47] ++ Lib.itoa p, 0) else ([], 1)
theorem print_calls (n : Int) (w : World) (hInv : Inv w) :
  Calls Tryz.prog 170 #[.int .i64 n] w fun e w' => e = .returned (.tuple #[.string (tB (zet n).1), .int .i64 (zet n).2]) ∧ Below w.heap.size w w' := by
 have HI := Zq.mk hInv
 clear hInv
 by_cases h : n < 0 ∨ 4294967295 < n
 ·rw [show zet n = ([], 1) from if_pos h]
  rcases h with h | h
  ·go_enter Tryz.func170, Tryz.ntmps170
   go_wp2
   go_ret2
   exact ⟨rfl, Below.refl _ _⟩
  ·have h' : ¬ n < 0 := by omega
   go_enter Tryz.func170, Tryz.ntmps170
   go_wp2
   go_ret2
   exact ⟨rfl, Below.refl _ _⟩
 ·rw [show zet n = (zkd n, 0) from if_neg h]
  have h1 : ¬ n < 0 := by omega
  have h2 : n ≤ 4294967295 := by omega
  have h3 : ¬ 4294967295 < n := by omega
  clear h
  go_enter Tryz.func170, Tryz.ntmps170
  go_wp2_with (first
   | (go_at_call 161; refine (zqs n _).mono ?_; rintro e1 w1 ⟨rfl, hb1⟩; unfold zin)
   | (go_at_call 197; refine (zkg (n / 16777216 % 256) (n / 65536 % 256) (n / 256 % 256) (n % 256) _ (HI.out.below hb1) (by omega) (by omega) (by omega) (by omega) (by omega) (by omega) (by omega) (by omega)).mono ?_; rintro e2 w2 ⟨rfl, hb2⟩))
  go_ret2
  exact ⟨rfl, zas hb1 hb1.size hb2⟩
theorem text_held (n : Int) (w : World) (hInv : Inv w) (a p : Int) (W : World) (h : W.cell? ⟨w.heap.size, 0, none⟩ = some (.int .i64 a) ∧ W.cell? ⟨w.heap.size, 1, none⟩ = some (.int .i64 p) ∧ Below w.heap.size w W ∧ w.heap.size < W.heap.size) :
  Calls Tryz.prog 197 #[zin n] W fun e w' => e = .returned (.string (tB (zkd n))) ∧ w'.cell? ⟨w.heap.size, 0, none⟩ = some (.int .i64 a) ∧ w'.cell? ⟨w.heap.size, 1, none⟩ = some (.int .i64 p) ∧ Below w.heap.size w w' ∧ w.heap.size < w'.heap.size := by
 obtain ⟨h0, h1, h2, h3⟩ := h
 exact (zkg (n / 16777216 % 256) (n / 65536 % 256) (n / 256 % 256) (n % 256) W (hInv.below h2) (by omega) (by omega) (by omega) (by omega) (by omega) (by omega) (by omega) (by omega)).mono fun e w' ⟨he, hb⟩ => ⟨he, (hb.cell (p := ⟨w.heap.size, 0, none⟩) h3).trans h0, (hb.cell (p := ⟨w.heap.size, 1, none⟩) h3).trans h1, h2.trans (hb.mono (by omega)), by have := hb.size; omega⟩
theorem itoa_held (n : Int) (n0 : 0 ≤ n) (n1 : n ≤ 32) (w : World) (hInv : Inv w) (a p : Int) (W : World) (h : W.cell? ⟨w.heap.size, 0, none⟩ = some (.int .i64 a) ∧ W.cell? ⟨w.heap.size, 1, none⟩ = some (.int .i64 p) ∧ Below w.heap.size w W ∧ w.heap.size < W.heap.size) :
  Calls Tryz.prog 102 #[.int .i64 n] W fun e w' => e = .returned (.string (tB (Lib.itoa n))) ∧ w'.cell? ⟨w.heap.size, 0, none⟩ = some (.int .i64 a) ∧ w'.cell? ⟨w.heap.size, 1, none⟩ = some (.int .i64 p) ∧ Below w.heap.size w w' ∧ w.heap.size < w'.heap.size := by
 obtain ⟨h0, h1, h2, h3⟩ := h
 exact (zea n (by omega) (by omega) W (hInv.below h2)).mono fun e w' ⟨he, hb⟩ => ⟨he, (hb.cell (p := ⟨w.heap.size, 0, none⟩) h3).trans h0, (hb.cell (p := ⟨w.heap.size, 1, none⟩) h3).trans h1, h2.trans (hb.mono (by omega)), by have := hb.size; omega⟩
theorem tB_cat (x y z : List UInt8) : tB x ++ tB y ++ tB z = tB (x ++ y ++ z) := by
 apply ByteArray.ext
 simp
theorem prefix_calls (a p : Int) (w : World) (hInv : Inv w) :
  Calls Tryz.prog 169 #[.agg #[.int .i64 a, .int .i64 p]] w fun e w' => e = .returned (.tuple #[.string (tB (zdu a p).1), .int .i64 (zdu a p).2]) ∧ Below w.heap.size w w' := by
 have HI := Zq.mk hInv
 have hr : ∃ b, addr_right.f a p = some b := ⟨_, rfl⟩
 obtain ⟨b, hr⟩ := hr
 have HR := Zq.mk (fun w => addr_right.calls a p b w hr)
 have hq : zdu a p = if b = true then (zkd a ++ [47] ++ Lib.itoa p, 0) else ([], 1) := by unfold zdu; rw [hr]; simp
 rw [hq]
 have hp : b = true → 0 ≤ p ∧ p ≤ 32 := fun hb => by
  subst hb
  unfold addr_right.f at hr
  by_cases hc : 0 ≤ p ∧ p ≤ 32 ∧ 0 ≤ a ∧ a ≤ 4294967295
  ·exact ⟨hc.1, hc.2.1⟩
  ·rw [if_neg hc] at hr; simp at hr
 clear hq hr hInv
 cases b with
 | false =>
  clear hp
  go_enter Tryz.func169, Tryz.ntmps169
  go_wp2_with (go_at_call 129; refine (HR.out _).mono ?_; rintro e1 w1 ⟨rfl, hb1⟩)
  go_ret2
  exact ⟨rfl, ((Below.refl _ _).alloc (Nat.le_refl _) _).trans (hb1.mono (by simp))⟩
 | true =>
  obtain ⟨p0, p1⟩ := hp rfl
  clear hp
  have hl1 : (tB (zkd a)).size ≤ 15 := zfy a
  have hl2 : (tB (Lib.itoa p)).size ≤ 3 := zdz p0 (by omega)
  have HT := Zq.mk (fun W h => text_held a w HI.out a p W h)
  have HO := Zq.mk (fun W h => itoa_held p p0 p1 w HI.out a p W h)
  have hcat : tB (zkd a) ++ ⟨#[47]⟩ ++ tB (Lib.itoa p) = tB (zkd a ++ [47] ++ Lib.itoa p) := tB_cat _ [47] _
  simp only [if_true]
  rw [← hcat]
  clear hcat
  generalize tB (zkd a) = x at hl1 HT ⊢
  generalize tB (Lib.itoa p) = y at hl2 HO ⊢
  have hz1 : ¬ 9223372036854775807 < x.size + 1 := by omega
  have hz2 : ¬ 9223372036854775807 < x.size + 1 + y.size := by omega
  clear hl1 hl2 p0 p1
  go_enter Tryz.func169, Tryz.ntmps169
  go_wp2_with (go_at_call 129; refine (HR.out _).mono ?_; rintro e1 w1 ⟨rfl, hb1⟩)
  have hB : Below w.heap.size w w1 := ((Below.refl _ _).alloc (Nat.le_refl _) _).trans (hb1.mono (by simp))
  have hc0 : w1.cell? ⟨w.heap.size, 0, none⟩ = some (.int .i64 a) := (hb1.cell (p := ⟨w.heap.size, 0, none⟩) (by simp)).trans (by simp [go_sem])
  have hc1 : w1.cell? ⟨w.heap.size, 1, none⟩ = some (.int .i64 p) := (hb1.cell (p := ⟨w.heap.size, 1, none⟩) (by simp)).trans (by simp [go_sem])
  have hlt : w.heap.size < w1.heap.size := World.block_lt_of_cell? _ _ hc0
  clear hb1
  go_region_held3 (fun w' => w'.cell? ⟨w.heap.size, 0, none⟩ = some (.int .i64 a) ∧ w'.cell? ⟨w.heap.size, 1, none⟩ = some (.int .i64 p) ∧ Below w.heap.size w w' ∧ w.heap.size < w'.heap.size)
   (first | exact ⟨hc0, hc1, hB.trans ⟨rfl, rfl, rfl, Nat.le_refl _, fun _ _ => rfl⟩, hlt⟩ | exact ⟨‹_›, ‹_›, ‹_›, ‹_›⟩ | go_keep)
   (first
    | (go_at_call 161; refine (zpp _ w a p _ ?_).mono ?_; (first | assumption | exact ⟨‹_›, ‹_›, ‹_›, ‹_›⟩); rintro e w' ⟨rfl, hx0, hx1, hx2, hx3⟩)
    | (go_at_call 197; refine (HT.out _ ?_).mono ?_; (first | assumption | exact ⟨‹_›, ‹_›, ‹_›, ‹_›⟩); rintro e w' ⟨rfl, hx0, hx1, hx2, hx3⟩)
    | (go_at_call 102; refine (HO.out _ ?_).mono ?_; (first | assumption | exact ⟨‹_›, ‹_›, ‹_›, ‹_›⟩); rintro e w' ⟨rfl, hx0, hx1, hx2, hx3⟩))
  all_goals go_wp2
  all_goals go_ret2
  all_goals exact ⟨rfl, by first | assumption | exact (by assumption : _ ∧ _ ∧ Below w.heap.size w _ ∧ _).2.2.1⟩
end
section
structure PQ where
 out : List UInt8
 word : Bool
 bad : Bool
def bC (l : List UInt8) : List Value := l.map fun b => Value.int .u8 b.toNat
theorem bC_length (l : List UInt8) : (bC l).length = l.length := List.length_map ..
theorem zng (a b : List UInt8) : bC (a ++ b) = bC a ++ bC b := List.map_append ..
theorem bC_str (s : ByteArray) : Lib.strCells s = bC s.data.toList := rfl
def PQ.must (ok : Bool) (s : PQ) : PQ := ⟨s.out, s.word, s.bad || !ok⟩
def PQ.signs (t : List UInt8) (s : PQ) : PQ := ⟨s.out ++ t, false, s.bad⟩
def PQ.one (t : List UInt8) (s : PQ) : PQ := ⟨(if s.word = true then s.out ++ [32] else s.out) ++ t, true, s.bad⟩
def PQ.words (l : List (List UInt8)) (s : PQ) : PQ := l.foldl (fun s t => s.one t) s
structure PrS (W0 W : World) (g : Nat) (s : PQ) : Prop where
 src : ∃ v, W.heap[g]? = some (.cells #[v, .bool s.word, .bool s.bad] 116 (0, 0)) ∧ W.ownsRow W0.heap.size 5 1 v s.out.length (bC s.out)
 low : W0.heap.size ≤ g
 bel : Below W0.heap.size W0 W
def Mine (W : World) (g k : Nat) : Prop := k = g ∨ ∃ v a b, W.heap[g]? = some (.cells #[v, a, b] 116 (0, 0)) ∧ v.ownBlock = some k
structure Stp (W W' : World) (g : Nat) : Prop where
 fr : Fr W W' (Mine W g)
 mine : ∀ k, Mine W' g k → Mine W g k ∨ W.heap.size ≤ k
section
variable {W0 W W1 W2 : World} {g : Nat} {s : PQ}
theorem Stp.refl (W : World) (g : Nat) : Stp W W g := ⟨Fr.refl _ _, fun k h => .inl h⟩
theorem Stp.trans (h : Stp W W1 g) (k : Stp W1 W2 g) : Stp W W2 g :=
 ⟨h.fr.then_ k.fr h.mine, fun i hi => by
  rcases k.mine i hi with h1 | h1
  ·exact h.mine i h1
  ·exact .inr (Nat.le_trans h.fr.size h1)⟩
theorem Mine.of {k : Nat} (h : W1.heap[g]? = W.heap[g]?) : Mine W1 g k ↔ Mine W g k := by unfold Mine; rw [h]
theorem Stp.alloc (h : Stp W W1 g) (hg : g < W1.heap.size) (o : Obj) : Stp W (W1.alloc o) g :=
 h.trans ⟨(Fr.refl _ _).alloc o, fun k hk => .inl ((Mine.of (Below.heap_alloc W1 o g hg)).1 hk)⟩
theorem Stp.undrew (h : Stp W.drew W1 g) : Stp W W1 g := ⟨h.fr.undrew, h.mine⟩
theorem Stp.of_below (hb : Below W.heap.size W W1) (hg : g < W.heap.size) : Stp W W1 g := ⟨Fr.of_below hb, fun k hk => .inl ((Mine.of (hb.block g hg)).1 hk)⟩
theorem Stp.below (h : Stp W W1 g) (hg : g < W1.heap.size) (hb : Below W1.heap.size W1 W2) : Stp W W2 g := h.trans (.of_below hb hg)
theorem PrS.lt (h : PrS W0 W g s) : g < W.heap.size := by obtain ⟨v, h1, _⟩ := h.src; exact zat h1
theorem PrS.move (h : PrS W0 W g s) (hm : ∀ k, Mine W g k → k < W.heap.size → W1.heap[k]? = W.heap[k]?) (hb : Below W0.heap.size W0 W1) : PrS W0 W1 g s := by
 obtain ⟨v, h1, h2⟩ := h.src
 refine ⟨⟨v, (hm g (.inl rfl) (zat h1)).trans h1, zhe h2 fun k hk => hm k (.inr ⟨v, _, _, h1, hk⟩) (zpn h2 k hk)⟩, h.low, hb⟩
theorem PrS.size (h : PrS W0 W g s) : W0.heap.size ≤ W.heap.size := h.bel.size
theorem PrS.below (h : PrS W0 W g s) (hb : Below W.heap.size W W1) : PrS W0 W1 g s :=
 h.move (fun k _ hk => hb.block k hk) (zas h.bel h.size hb)
theorem PrS.alloc (h : PrS W0 W g s) (o : Obj) : PrS W0 (W.alloc o) g s := h.below (zab (Below.refl _ _) o)
theorem PrS.drewN (h : PrS W0 W g s) (n : Nat) : PrS W0 (W.drewN n) g s := ⟨h.src, h.low, zaa h.bel n⟩
theorem PrS.drew (h : PrS W0 W g s) : PrS W0 W.drew g s := ⟨h.src, h.low, zac h.bel⟩
theorem PrS.not_mine (h : PrS W0 W g s) {b t : Nat} {cs : Array Value} (hb : W.heap[b]? = some (.cells cs t (0, 0))) (h1 : t ≠ 5) (h2 : t ≠ 116) : ¬ Mine W g b := by
 obtain ⟨u, h3, h4⟩ := h.src
 rintro (rfl | ⟨v, a, c, h5, h6⟩)
 ·rw [hb] at h3
  simp only [Option.some.injEq, Obj.cells.injEq] at h3
  exact h2 h3.2.1
 ·rw [h5] at h3
  simp only [Option.some.injEq, Obj.cells.injEq, Array.mk.injEq, List.cons.injEq] at h3
  obtain ⟨⟨rfl, _⟩, _⟩ := h3
  obtain ⟨cells, h7⟩ := zer h4 b h6
  rw [hb] at h7
  simp only [Option.some.injEq, Obj.cells.injEq] at h7
  exact h1 h7.2.1
theorem Stp.keep (hs : Stp W W1 g) (h : PrS W0 W g s) {b t : Nat} {cs : Array Value} (hb : W.heap[b]? = some (.cells cs t (0, 0))) (h1 : t ≠ 5) (h2 : t ≠ 116) : W1.heap[b]? = some (.cells cs t (0, 0)) :=
 hs.fr.blk hb (h.not_mine hb h1 h2)
theorem PrS.facts (h : PrS W0 W g s) : ∃ A c, W.cell? ⟨g, 0, none⟩ = some (.slice A s.out.length c) ∧ W.cell? ⟨g, 1, none⟩ = some (.bool s.word) ∧ W.cell? ⟨g, 2, none⟩ = some (.bool s.bad) ∧ W.frozen? ⟨g, 0, none⟩ = false ∧ W.frozen? ⟨g, 1, none⟩ = false ∧ W.frozen? ⟨g, 2, none⟩ = false ∧
  W.ownsRow W0.heap.size 5 1 (.slice A s.out.length c) s.out.length (bC s.out) ∧ (∃ x y, W.heap[g]? = some (.cells #[.slice A s.out.length c, x, y] 116 (0, 0))) := by
 obtain ⟨v, h1, h2⟩ := h.src
 have hf : ∃ A c, v = .slice A s.out.length c := by
  rcases h2.2 with ⟨rfl, h0⟩ | ⟨g', cap, cur, rfl, _⟩
  ·exact ⟨none, 0, by rw [h0]⟩
  ·exact ⟨_, _, rfl⟩
 obtain ⟨A, c, rfl⟩ := hf
 exact ⟨A, c, zae h1 0, zae h1 1, zae h1 2, zaf h1 0, zaf h1 1, zaf h1 2, h2, _, _, h1⟩
theorem PrS.put_bad (h : PrS W0 W g s) (b : Bool) : PrS W0 (W.setCell ⟨g, 2, none⟩ (.bool b)) g ⟨s.out, s.word, b⟩ ∧ Stp W (W.setCell ⟨g, 2, none⟩ (.bool b)) g := by
 obtain ⟨v, h1, h2⟩ := h.src
 have h3 : (W.setCell ⟨g, 2, none⟩ (.bool b)).heap[g]? = some (.cells #[v, .bool s.word, .bool b] 116 (0, 0)) := zak h1 2 _ rfl
 have hne : v.ownBlock ≠ some g := fun e => by
  obtain ⟨cs, h4⟩ := zer h2 g e
  rw [h1] at h4
  simp only [Option.some.injEq, Obj.cells.injEq] at h4
  exact absurd h4.2.1 (by decide)
 refine ⟨⟨⟨v, h3, zhe h2 fun k hk => Below.heap_setCell W _ _ k (fun e => hne (by rw [hk, e]))⟩, h.low, h.bel.setCell h.low _⟩, Fr.setCell (Fr.refl _ _) (.inl (.inl rfl)) _, fun k hk => ?_⟩
 rcases hk with rfl | ⟨u, a, c, h5, h6⟩
 ·exact .inl (.inl rfl)
 ·rw [h3] at h5
  simp only [Option.some.injEq, Obj.cells.injEq, Array.mk.injEq, List.cons.injEq] at h5
  obtain ⟨⟨rfl, _⟩, _⟩ := h5
  exact .inl (.inr ⟨_, _, _, h1, h6⟩)
theorem PrS.put_word (h : PrS W0 W g s) (b : Bool) : PrS W0 (W.setCell ⟨g, 1, none⟩ (.bool b)) g ⟨s.out, b, s.bad⟩ ∧ Stp W (W.setCell ⟨g, 1, none⟩ (.bool b)) g := by
 obtain ⟨v, h1, h2⟩ := h.src
 have h3 : (W.setCell ⟨g, 1, none⟩ (.bool b)).heap[g]? = some (.cells #[v, .bool b, .bool s.bad] 116 (0, 0)) := zak h1 1 _ rfl
 have hne : v.ownBlock ≠ some g := fun e => by
  obtain ⟨cs, h4⟩ := zer h2 g e
  rw [h1] at h4
  simp only [Option.some.injEq, Obj.cells.injEq] at h4
  exact absurd h4.2.1 (by decide)
 refine ⟨⟨⟨v, h3, zhe h2 fun k hk => Below.heap_setCell W _ _ k (fun e => hne (by rw [hk, e]))⟩, h.low, h.bel.setCell h.low _⟩, Fr.setCell (Fr.refl _ _) (.inl (.inl rfl)) _, fun k hk => ?_⟩
 rcases hk with rfl | ⟨u, a, c, h5, h6⟩
 ·exact .inl (.inl rfl)
 ·rw [h3] at h5
  simp only [Option.some.injEq, Obj.cells.injEq, Array.mk.injEq, List.cons.injEq] at h5
  obtain ⟨⟨rfl, _⟩, _⟩ := h5
  exact .inl (.inr ⟨_, _, _, h1, h6⟩)
theorem PrS.put_out (h : PrS W0 W g s) {v v1 x y : Value} (h1 : W.heap[g]? = some (.cells #[v, x, y] 116 (0, 0))) {t : List UInt8} (ho : W1.ownsRow W0.heap.size 5 1 v1 (s.out ++ t).length (bC (s.out ++ t))) (hg : W.grownBy W1 v.ownBlock)
  (hat : ∀ k, v1.ownBlock = some k → v.ownBlock = some k ∨ W.heap.size ≤ k) : W1.cell? ⟨g, 0, none⟩ = some v ∧ W1.frozen? ⟨g, 0, none⟩ = false ∧ Zq (PrS W0 (W1.setCell ⟨g, 0, none⟩ v1) g ⟨s.out ++ t, s.word, s.bad⟩ ∧ Stp W (W1.setCell ⟨g, 0, none⟩ v1) g) := by
 obtain ⟨u, h2, h3⟩ := h.src
 rw [h1] at h2
 simp only [Option.some.injEq, Obj.cells.injEq, Array.mk.injEq, List.cons.injEq] at h2
 obtain ⟨⟨rfl, rfl, rfl, _⟩, _⟩ := h2
 have hne : v.ownBlock ≠ some g := fun e => by
  obtain ⟨cs, h4⟩ := zer h3 g e
  rw [h1] at h4
  simp only [Option.some.injEq, Obj.cells.injEq] at h4
  exact absurd h4.2.1 (by decide)
 have h4 : W1.heap[g]? = _ := (hg.block g (zat h1) (fun e => hne e.symm)).trans h1
 have hne1 : v1.ownBlock ≠ some g := fun e => by
  obtain ⟨cs, h5⟩ := zer ho g e
  rw [h4] at h5
  simp only [Option.some.injEq, Obj.cells.injEq] at h5
  exact absurd h5.2.1 (by decide)
 have h6 : (W1.setCell ⟨g, 0, none⟩ v1).heap[g]? = some (.cells #[v1, .bool s.word, .bool s.bad] 116 (0, 0)) := zak h4 0 v1 (by rcases ho.2 with ⟨rfl, _⟩ | ⟨_, _, _, rfl, _⟩ <;> rfl)
 have hb1 : Below W0.heap.size W0 W1 := h.bel.grown hg h.size (zit h3)
 refine ⟨zae h4 0, zaf h4 0, ⟨⟨⟨v1, h6, zhe ho fun k hk => Below.heap_setCell W1 _ _ k (fun e => hne1 (by rw [hk, e]))⟩, h.low, hb1.setCell h.low _⟩, Fr.setCell ((Fr.of_grown (S := fun k => some k = v.ownBlock) hg fun k hk => hk.symm).mono (fun k hk => .inl (.inr ⟨v, _, _, h1, hk.symm⟩))) (.inl (.inl rfl)) _, fun k hk => ?_⟩⟩
 rcases hk with rfl | ⟨u, a, c, h7, h8⟩
 ·exact .inl (.inl rfl)
 ·rw [h6] at h7
  simp only [Option.some.injEq, Obj.cells.injEq, Array.mk.injEq, List.cons.injEq] at h7
  obtain ⟨⟨rfl, _⟩, _⟩ := h7
  rcases hat k h8 with h9 | h9
  ·exact .inl (.inr ⟨v, _, _, h1, h9⟩)
  ·exact .inr h9
end
section
variable {P : Program} {W : World}
theorem append_str_at (base : Nat) (t u ty e : TypeId) (i : TypeInfo) (ht : P.underlying t = some (.slice e)) (hu : P.underlying u = some .string) (hi : P.info? e = some i) (hz : i.zero = some (.int .u8 0))
  (hsize : i.size = 1) (hby : i.bytes = 1) (v : Value) (n : Nat) (xs : List Value) (hown : W.ownsRow base e 1 v n xs) (s : ByteArray) (h63 : n + s.size ≤ maxLen) (hbytes : n + s.size ≤ 140737488355328)
  {v' : Value} {w' : World} (hr : (Builtin.append_ #[t, u] ty #[v, .string s]).run P W = .ok v' w') : ∀ k, v'.ownBlock = some k → v.ownBlock = some k ∨ W.heap.size ≤ k := by
 have hxl : xs.length = n := by simpa using hown.1
 rcases hown.2 with ⟨rfl, rfl⟩ | ⟨g, cap, cur, rfl, hbg, hg, hnc, hcm, hcs, htake⟩
 ·by_cases hm : s.size = 0
  ·have hf := Lib.run_firstCells_string (P := P) W 1 s
   rw [hm] at hf
   have h0 : (Builtin.append_ #[t, u] ty #[.slice none 0 0, .string s]).run P W = .ok (.slice none 0 0) W := by
    simp [Builtin.append_, run_underlying ht, run_underlying hu, sizeOf, typeInfo, hi, hsize, Builtin.lenOf, hm, hf]
   rw [h0] at hr
   injection hr with h1 h2
   subst h1
   intro k hk
   simp [Value.ownBlock] at hk
  ·have h0 := run_append_nil_string (P := P) W t u ty e i (.int .u8 0) ht hu hi hz s (by omega) (by simp only [maxLen] at h63; omega) (by rw [hby]; omega)
   rw [h0] at hr
   injection hr with h1 h2
   subst h1
   intro k hk
   simp [Value.ownBlock] at hk
   exact .inr (by omega)
 ·by_cases hroom : n + s.size ≤ cap
  ·have hcs' : cur.size = cap := by simpa using hcs
   have h0 := Lib.run_append_room_string (P := P) W t u ty e i ht hu hi hsize g n cap cur hg s hroom (by omega)
   rw [h0] at hr
   injection hr with h1 h2
   subst h1
   intro k hk
   exact .inl hk
  ·have holds : ∀ j u, xs[j]? = some u → W.cell? ((⟨g, 0, none⟩ : Addr).add j) = some u := hown.cells (g := g) rfl
   have h0 := Lib.run_append_grow_string (P := P) W t u ty e i (.int .u8 0) ht hu hi hz ⟨g, 0, none⟩ n cap xs (by rw [hsize]; simpa using hxl) holds s (by omega) (by simp only [maxLen] at h63; omega) (by rw [hby]; exact growslice_fits (by omega) (by omega))
   rw [h0] at hr
   injection hr with h1 h2
   subst h1
   intro k hk
   simp [Value.ownBlock] at hk
   exact .inr (by omega)
theorem zmv {w : World} {base : Nat} {e : TypeId} {size n : Nat} {v : Value} {xs : List Value} (h : w.ownsRow base e size v n xs) : ∃ A n c, v = .slice A n c := by
 rcases h.2 with ⟨rfl, _⟩ | ⟨g, cap, cur, rfl, _⟩
 ·exact ⟨_, _, _, rfl⟩
 ·exact ⟨_, _, _, rfl⟩
theorem zfg {ops : Array Oper} {rest : List Oper} {o : Oper} {a : Act} {Q : Exit → Act → World → Prop} {W0 : World} {g : Nat} {s : PQ} (H : Zq (PrS W0 W g s)) (hgd : o.guard = none) (sl x : Operand) (t u e : TypeId)
  (ho : o.op = .call { callee := .builtin .append, args := #[sl, x], argTypes := #[t, u] })
  (ht : P.underlying t = some (.slice e)) (hu : P.underlying u = some .string) (hinfo : (P.info? e).map (fun i => (i.zero, i.size, i.bytes)) = some (some (.int .u8 0), 1, 1)) (he : e = 5)
  (v : Value) (y : ByteArray) (hs : a.eval sl = v) (hx : a.eval x = .string y) (hv : W.cell? ⟨g, 0, none⟩ = some v) (hl : s.out.length + y.size ≤ 140737488355328)
  (h : ∀ A1 n1 c1 w1, w1.cell? ⟨g, 0, none⟩ = some v → w1.frozen? ⟨g, 0, none⟩ = false → Zq (PrS W0 (w1.setCell ⟨g, 0, none⟩ (.slice A1 n1 c1)) g ⟨s.out ++ y.data.toList, s.word, s.bad⟩ ∧ Stp W (w1.setCell ⟨g, 0, none⟩ (.slice A1 n1 c1)) g) → wpList P ops Q rest (a.put o.dst (.slice A1 n1 c1)) w1) : wpList P ops Q (o :: rest) a W := by
 subst he
 obtain ⟨A, c, c0, c1, c2, f0, f1, f2, hown, x', y', h1⟩ := H.out.facts
 have hve : v = .slice A s.out.length c := Option.some.inj (hv.symm.trans c0)
 subst hve
 obtain ⟨i0, hi, hzz⟩ := Option.map_eq_some_iff.1 hinfo
 simp only [Prod.mk.injEq] at hzz
 obtain ⟨hz0, hz1, hz2⟩ := hzz
 refine wpList_plain hgd fun K hK => ?_
 obtain ⟨v', w', hr, h2, h3, h4⟩ := Lib.run_append_own_string (P := P) W W0.heap.size t u o.type 5 i0 ht hu hi hz0 hz1 hz2 _ s.out.length (bC s.out) hown y (by simp only [maxLen]; omega) hl H.out.size
 have hat := append_str_at (P := P) W0.heap.size t u o.type 5 i0 ht hu hi hz0 hz1 hz2 _ s.out.length (bC s.out) hown y (by simp only [maxLen]; omega) hl hr
 unfold Oper.wp execOp
 simp only [ho, resolve, invoke, builtin, Sem.run_bind, Sem.run_pure, Result.andThen_ok, List.map_toArray, List.map_cons, List.map_nil, hs, hx, hr]
 have hl2 : (s.out ++ y.data.toList).length = s.out.length + y.size := by rw [List.length_append, Array.length_toList]; rfl
 obtain ⟨k0, k1, k2⟩ := H.out.put_out h1 (t := y.data.toList) (v1 := v') (by rw [hl2, zng, ← bC_str]; exact h2) h3 hat
 obtain ⟨A1, n1, c1, rfl⟩ := zmv h2
 exact hK _ _ (h A1 n1 c1 w' k0 k1 k2)
theorem pr_append_byte {ops : Array Oper} {rest : List Oper} {o : Oper} {a : Act} {Q : Exit → Act → World → Prop} {W0 : World} {g : Nat} {s : PQ} (H : Zq (PrS W0 W g s)) (hgd : o.guard = none) (sl x : Operand) (t e : TypeId)
  (ho : o.op = .call { callee := .builtin .append, args := #[sl, x], argTypes := #[t, t] })
  (ht : P.underlying t = some (.slice e)) (hinfo : (P.info? e).map (fun i => (i.zero, i.size, i.bytes)) = some (some (.int .u8 0), 1, 1)) (he : e = 5)
  (v : Value) (b : UInt8) (z : Int) (hz : z = (b.toNat : Int)) (hs : a.eval sl = v) (hx : a.eval x = .slice (some ⟨W.heap.size, 0, none⟩) 1 1) (hv : W.cell? ⟨g, 0, none⟩ = some v) (hl : s.out.length + 1 ≤ 140737488355328)
  (h : ∀ A1 n1 c1 w1, w1.cell? ⟨g, 0, none⟩ = some v → w1.frozen? ⟨g, 0, none⟩ = false → Zq (PrS W0 (w1.setCell ⟨g, 0, none⟩ (.slice A1 n1 c1)) g ⟨s.out ++ [b], s.word, s.bad⟩ ∧ Stp W (w1.setCell ⟨g, 0, none⟩ (.slice A1 n1 c1)) g) → wpList P ops Q rest (a.put o.dst (.slice A1 n1 c1)) w1) : wpList P ops Q (o :: rest) a (W.alloc (.cells #[.int .u8 z] e)) := by
 subst he
 subst hz
 obtain ⟨A, c, c0, c1, c2, f0, f1, f2, hown, x', y', h1⟩ := H.out.facts
 have hve : v = .slice A s.out.length c := Option.some.inj (hv.symm.trans c0)
 subst hve
 have hbl : (bC s.out).length = s.out.length := bC_length _
 refine print_append (w0 := W0) W0.heap.size hgd sl x t 5 (.int .u8 0) 1 ho ht hinfo rfl (by decide) _ (bC s.out) (.int .u8 (b.toNat : Int)) hs hx rfl (by rw [hbl]; exact hown) H.out.bel H.out.size (by rw [hbl]; omega) fun v1 w1 hown1 hb1 hg1 hat => ?_
 obtain ⟨k0, k1, k2⟩ := H.out.put_out h1 (t := [b]) (v1 := v1) (W1 := w1) (by rw [zng]; rw [List.length_append, hbl] at hown1; rw [List.length_append]; exact hown1) hg1 fun k hk => by
  rcases hat with e | ⟨q, e, hq⟩
  ·exact .inl (e ▸ hk)
  ·rw [e] at hk; exact .inr (by have := Option.some.inj hk; omega)
 obtain ⟨A1, n1, c1, rfl⟩ := zmv hown1
 exact h A1 n1 c1 w1 k0 k1 k2
end
def PrE (W0 W : World) (g : Nat) (s : PQ) (e : Ending) (W' : World) : Prop := e = .returned (.tuple #[]) ∧ PrS W0 W' g s ∧ Stp W W' g
theorem zbe (W0 W : World) (g : Nat) (s : PQ) (b : Bool) (h : PrS W0 W g s) :
  Calls Tryz.prog 65 #[.pointer (some ⟨g, 0, none⟩), .bool b] W (PrE W0 W g (s.must b)) := by
 obtain ⟨A, c, c0, c1, c2, f0, f1, f2, -, -⟩ := h.facts
 have H := Zq.mk (h.put_bad (s.bad || !b))
 obtain ⟨out, word, bad⟩ := s
 clear h
 cases bad <;> cases b
 all_goals
  go_enter Tryz.func65, Tryz.ntmps65
  go_wp2
  first | go_end0 | (refine bodyPost_ret (results_none rfl _ _ _) rfl ?_)
  exact ⟨rfl, H.out.1, H.out.2⟩
theorem zcn (W0 W : World) (g : Nat) (s : PQ) (h : PrS W0 W g s) (hl : s.out.length ≤ 140737488355328) :
  Calls Tryz.prog 66 #[.pointer (some ⟨g, 0, none⟩)] W fun e W' => e = .returned (.bool (decide (8000 < s.out.length))) ∧ W' = W := by
 obtain ⟨A, c, c0, c1, c2, f0, f1, f2, -, -⟩ := h.facts
 clear h
 go_enter Tryz.func66, Tryz.ntmps66
 go_wp2
 go_ret
 exact ⟨by simp; omega, rfl⟩
theorem zbp (W0 W : World) (g : Nat) (s : PQ) (t : ByteArray) (h : PrS W0 W g s) (hl : s.out.length + t.size ≤ 140737488355328) :
  Calls Tryz.prog 69 #[.pointer (some ⟨g, 0, none⟩), .string t] W (PrE W0 W g (s.signs t.data.toList)) := by
 obtain ⟨A, c, c0, c1, c2, f0, f1, f2, -, -⟩ := h.facts
 have H := Zq.mk h
 clear h
 go_enter Tryz.func69, Tryz.ntmps69
 go_wp2_with ((with_reducible refine zbd (b := .append) (xs := #[.tmp 8, .tmp 9]) rfl ?_); refine zfg H rfl (.tmp 8) (.tmp 9) 64 9 5 rfl rfl rfl rfl rfl (.slice A s.out.length c) t rfl rfl c0 hl ?_; intro A1 n1 p1 w1 k0 k1 HX; obtain ⟨A2, c2', e0, e1, e2, e3, e4, e5, -, -⟩ := HX.out.1.facts; clear c0 c1 c2 f0 f1 f2)
 first | go_end0 | (refine bodyPost_ret (results_none rfl _ _ _) rfl ?_)
 have HY := HX.out.1.put_word false
 exact ⟨rfl, HY.1, HX.out.2.trans HY.2⟩
def lenW : List (List UInt8) → Nat
 | [] => 0
 | t :: r => t.length + 1 + lenW r
theorem zbx (t : List UInt8) (s : PQ) : (s.one t).out.length ≤ s.out.length + t.length + 1 := by
 unfold PQ.one
 split <;> simp <;> omega
theorem words_snoc (l : List (List UInt8)) (t : List UInt8) (s : PQ) : PQ.words (l ++ [t]) s = (PQ.words l s).one t := by simp [PQ.words]
theorem zmh : ∀ (l : List (List UInt8)) (s : PQ), (PQ.words l s).out.length ≤ s.out.length + lenW l
 | [], s => by simp [PQ.words, lenW]
 | t :: r, s => by
  have h1 := zbx t s
  have h2 := zmh r (s.one t)
  simp only [lenW]
  show (PQ.words r (s.one t)).out.length ≤ _
  omega
theorem lenW_take (l : List (List UInt8)) (k : Nat) (h : k < l.length) : lenW (l.take k) + l[k].length + 1 ≤ lenW l := by
 induction l generalizing k with
 | nil => exact absurd h (by simp)
 | cons a l ih =>
  cases k with
  | zero => simp [lenW]
  | succ k =>
   have := ih k (by simpa using h)
   simp only [List.take_succ_cons, lenW, List.getElem_cons_succ]
   omega
theorem zix (W0 W : World) (g q : Nat) (s : PQ) (l : List ByteArray) (h : PrS W0 W g s) (hq : W.heap[q]? = some (.cells (l.map Value.string).toArray 9 (0, 0))) (hn : l.length ≤ 1000) (hl : s.out.length + lenW (l.map fun t : ByteArray => t.data.toList) ≤ 140737488355328) :
  Calls Tryz.prog 67 #[.pointer (some ⟨g, 0, none⟩), .slice (some ⟨q, 0, none⟩) l.length l.length] W (PrE W0 W g (s.words (l.map fun t : ByteArray => t.data.toList))) := by
 have H := Zq.mk h
 have HQ := Zq.mk hq
 have HL := Zq.mk hl
 clear h hq hl
 go_enter Tryz.func67, Tryz.ntmps67
 go_wp2
 go_loopw [8] (fun i wr => ∃ k : Nat, k ≤ l.length ∧ i = .int .i64 k ∧ Zq (PrS W0 wr g (s.words ((l.map fun t : ByteArray => t.data.toList).take k))) ∧ Zq (Stp W wr g)) (fun i _ => l.length - (intOf i).toNat)
 case atStart => exact ⟨0, Nat.zero_le _, rfl, H, ⟨Stp.refl _ _⟩⟩
 case round =>
  obtain ⟨k, hk, rfl, HS, HT⟩ := hrel
  by_cases hlt : k < l.length
  ·have hw := words_snoc ((l.map fun t : ByteArray => t.data.toList).take k) (l[k].data.toList) s
   have htk : (l.map fun t : ByteArray => t.data.toList).take (k + 1) = (l.map fun t : ByteArray => t.data.toList).take k ++ [l[k].data.toList] := by
    rw [List.take_succ_eq_append_getElem (by simpa using hlt)]
    simp
   have hlen := zmh ((l.map fun t : ByteArray => t.data.toList).take k) s
   have hlw := lenW_take (l.map fun t : ByteArray => t.data.toList) k (by simpa using hlt)
   have hsz : ((l.map fun t : ByteArray => t.data.toList)[k]'(by simpa using hlt)).length = l[k].size := by simp
   have hL := HL.out
   have HW := Zq.mk (And.intro htk hw)
   clear htk hw
   generalize hS : s.words ((l.map fun t : ByteArray => t.data.toList).take k) = sk at HS HW hlen
   have HB : sk.out.length + l[k].size + 1 ≤ 140737488355328 := by omega
   have HQ1 := HT.out.keep H.out HQ.out (by decide) (by decide)
   have q0 : wr.cell? ⟨q, k, none⟩ = some (.string l[k]) := (zae HQ1 k).trans (by simp [hlt])
   obtain ⟨A, c, c0, c1, c2, f0, f1, f2, -, -⟩ := HS.out.facts
   have hlen' : ((l.map fun t : ByteArray => t.data.toList).length) = l.length := by simp
   clear hlw hsz hL hlen hS HQ1
   obtain ⟨out, word, bad⟩ := sk
   simp only at HB
   cases word
   ·go_wp2_with ((with_reducible refine zbd (b := .append) (xs := #[.tmp 29, .tmp 30]) rfl ?_); refine zfg HS rfl (.tmp 29) (.tmp 30) 64 9 5 rfl rfl rfl rfl rfl (.slice A out.length c) l[k] rfl rfl c0 (by simp only; omega) ?_; intro A1 n1 p1 w1 k0 k1 HX; obtain ⟨A2, c2', e0, e1, e2, e3, e4, e5, -, -⟩ := HX.out.1.facts; clear c0 c1 c2 f0 f1 f2)
    go_roundw
    case rel =>
     have HY := HX.out.1.put_word true
     exact ⟨k + 1, by omega, by go_num, ⟨by rw [HW.out.1, HW.out.2]; exact HY.1⟩, ⟨(HT.out.trans HX.out.2).trans HY.2⟩⟩
    case measure => simp [intOf]; omega
   ·go_wp2_with (first
     | ((with_reducible refine zbd (b := .append) (xs := #[.tmp 20, .tmp 21]) rfl ?_); refine pr_append_byte HS rfl (.tmp 20) (.tmp 21) 64 5 rfl rfl rfl rfl (.slice A out.length c) 32 32 rfl rfl rfl c0 (by simp only; omega) ?_; intro A1 n1 p1 w1 k0 k1 HX; obtain ⟨A2, c2', e0, e1, e2, e3, e4, e5, -, -⟩ := HX.out.1.facts; clear c0 c1 c2 f0 f1 f2)
     | ((with_reducible refine zbd (b := .append) (xs := #[.tmp 29, .tmp 30]) rfl ?_); refine zfg ⟨HX.out.1⟩ rfl (.tmp 29) (.tmp 30) 64 9 5 rfl rfl rfl rfl rfl (.slice A2 (out.length + 1) c2') l[k] rfl rfl (by simpa using e0) (by simp; omega) ?_; intro A3 n3 p3 w3 k2 k3 HZ; obtain ⟨A4, c4', j0, j1, j2, j3, j4, j5, -, -⟩ := HZ.out.1.facts; clear e0 e1 e2 e3 e4 e5))
    go_roundw
    case rel =>
     have HY := HZ.out.1.put_word true
     exact ⟨k + 1, by omega, by go_num, ⟨by rw [HW.out.1, HW.out.2]; exact HY.1⟩, ⟨((HT.out.trans HX.out.2).trans HZ.out.2).trans HY.2⟩⟩
    case measure => simp [intOf]; omega
  ·obtain rfl : k = l.length := by omega
   go_wp2
   first | go_end0 | (refine bodyPost_ret (results_none rfl _ _ _) rfl ?_)
   exact ⟨rfl, by have := HS.out; rwa [List.take_of_length_le (by simp)] at this, HT.out⟩
end
section
theorem zbs (W0 W : World) (g : Nat) (s : PQ) (t : ByteArray) (h : PrS W0 W g s) (hl : s.out.length + t.size + 1 ≤ 140737488355328) :
    Calls Tryz.prog 67 #[.pointer (some ⟨g, 0, none⟩), .slice (some ⟨W.heap.size, 0, none⟩) 1 1] (W.alloc (.cells #[.string t] 9)) (PrE W0 W g (s.one t.data.toList)) := by
  refine (zix W0 _ g W.heap.size s [t] (h.alloc _) (heap_alloc_new W _) (by simp) (by simp [lenW]; omega)).mono ?_
  rintro e w' ⟨rfl, h1, h2⟩
  exact ⟨rfl, h1, ((Stp.refl W g).alloc h.lt _).trans h2⟩
theorem words2_calls (W0 W : World) (g : Nat) (s : PQ) (t u : ByteArray) (h : PrS W0 W g s) (hl : s.out.length + t.size + u.size + 2 ≤ 140737488355328) :
    Calls Tryz.prog 67 #[.pointer (some ⟨g, 0, none⟩), .slice (some ⟨W.heap.size, 0, none⟩) 2 2] (W.alloc (.cells #[.string t, .string u] 9)) (PrE W0 W g ((s.one t.data.toList).one u.data.toList)) := by
  refine (zix W0 _ g W.heap.size s [t, u] (h.alloc _) (heap_alloc_new W _) (by simp) (by simp [lenW]; omega)).mono ?_
  rintro e w' ⟨rfl, h1, h2⟩
  exact ⟨rfl, h1, ((Stp.refl W g).alloc h.lt _).trans h2⟩
theorem zci {P : Program} (f : Nat) {xs : Array Value} {W : World} {Q : Ending → World → Prop} (h : Calls P f xs W Q) : Calls P f xs W Q := h
def zmc (one : Nat → PQ → PQ) : Nat → Nat → PQ → PQ
  | 0, _, s => s
  | m + 1, i, s => if s.bad = true then s else zmc one m (i + 1) (one i (if i = 0 then s else s.signs [44]))
def zjq (word : List UInt8) (n : Nat) (one : Nat → PQ → PQ) (s : PQ) : PQ :=
  (zmc one n 0 ((((s.must (decide (1 ≤ n) && decide (n ≤ 32))).one word).one [105, 110]).signs [123])).signs [125]
theorem zbc (s : PQ) (b : Bool) : (s.must b).out = s.out := rfl
theorem zbm (s : PQ) (t : List UInt8) : (s.signs t).out.length = s.out.length + t.length := by simp [PQ.signs]
theorem zgn (W0 W : World) (g : Nat) (s : PQ) (word : ByteArray) (n fn : Nat) (a1 a2 : Value) (one : Nat → PQ → PQ) (cs R : Nat → Nat) (I : World → Prop)
    (hcf : ∀ (i : Int) w, (callFunc fn #[.int .i64 i, a1, a2]).run Tryz.prog w = .ok (.enter fn #[.int .i64 i, a1, a2]) w)
    (hI : ∀ w w' s, PrS W0 w g s → I w → Stp w w' g → I w')
    (hone : ∀ i w s, i < n → PrS W0 w g s → I w → s.out.length + cs i ≤ 140737488351232 → Calls Tryz.prog fn #[.int .i64 i, a1, a2] w (PrE W0 w g (one i s)))
    (hlen : ∀ i s, i < n → (one i s).out.length ≤ s.out.length + cs i) (hR : ∀ i, i < n → cs i + 1 + R (i + 1) ≤ R i)
    (hn : n ≤ 140737488355328) (h : PrS W0 W g s) (hi : I W) (hl : s.out.length + word.size + 10 + R 0 ≤ 140737488351232) :
    Calls Tryz.prog 134 #[.pointer (some ⟨g, 0, none⟩), .string word, .int .i64 n, .func (.func fn) #[] #[a1, a2]] W (PrE W0 W g (zjq word.data.toList n one s)) := by
  have HS := Zq.mk h
  have HI := Zq.mk hI
  have HO := Zq.mk hone
  have HL := Zq.mk hlen
  have HR := Zq.mk hR
  have HJ := Zq.mk hi
  have HZ := Zq.mk hl
  clear h hI hone hlen hR hi hl
  generalize hsf : zjq word.data.toList n one s = sf
  have HF := Zq.mk hsf
  clear hsf
  have HM : ∀ b, b = (decide (1 ≤ n) && decide (n ≤ 32)) → Zq (Calls Tryz.prog 65 #[.pointer (some ⟨g, 0, none⟩), .bool b] W (PrE W0 W g (s.must (decide (1 ≤ n) && decide (n ≤ 32))))) := fun b hb => ⟨hb ▸ zbe W0 W g s _ HS.out⟩
  have hcase : (1 ≤ n ∧ decide ((n : Int) ≤ 32) = true ∧ Zq (Calls Tryz.prog 65 #[.pointer (some ⟨g, 0, none⟩), .bool true] W (PrE W0 W g (s.must (decide (1 ≤ n) && decide (n ≤ 32)))))) ∨
      (n < 1 ∧ True ∧ Zq (Calls Tryz.prog 65 #[.pointer (some ⟨g, 0, none⟩), .bool false] W (PrE W0 W g (s.must (decide (1 ≤ n) && decide (n ≤ 32)))))) ∨
      (1 ≤ n ∧ decide ((n : Int) ≤ 32) = false ∧ Zq (Calls Tryz.prog 65 #[.pointer (some ⟨g, 0, none⟩), .bool false] W (PrE W0 W g (s.must (decide (1 ≤ n) && decide (n ≤ 32)))))) := by
    by_cases h1 : 1 ≤ n
    · by_cases h2 : n ≤ 32
      · exact .inl ⟨h1, by simp; omega, HM true (by simp [h1, h2])⟩
      · exact .inr (.inr ⟨h1, by simp; omega, HM false (by simp [h2])⟩)
    · exact .inr (.inl ⟨by omega, trivial, HM false (by simp [h1])⟩)
  clear HM
  unfold zjq at HF
  have hz1 : (s.must (decide (1 ≤ n) && decide (n ≤ 32))).out = s.out := rfl
  generalize s.must (decide (1 ≤ n) && decide (n ≤ 32)) = s1 at HF hcase hz1
  have hb1 : Zq (s1.out.length + word.size + (⟨#[105, 110]⟩ : ByteArray).size + 2 ≤ 140737488355328) := ⟨by
    have h2 : (⟨#[105, 110]⟩ : ByteArray).size = 2 := rfl
    rw [hz1, h2]
    have := HZ.out
    omega⟩
  have hb2 : Zq (((s1.one word.data.toList).one [105, 110]).out.length + (⟨#[123]⟩ : ByteArray).size ≤ 140737488355328) := ⟨by
    have h2 : (⟨#[123]⟩ : ByteArray).size = 1 := rfl
    have h3 := zbx word.data.toList s1
    have h4 := zbx [105, 110] (s1.one word.data.toList)
    have h5 : word.data.toList.length = word.size := rfl
    have h6 : ([105, 110] : List UInt8).length = 2 := rfl
    have := HZ.out
    rw [hz1] at h3
    omega⟩
  have hb3 : Zq ((((s1.one word.data.toList).one [105, 110]).signs [123]).out.length + 1 + R 0 ≤ 140737488351232) := ⟨by
    rw [zbm]
    have h2 : ([123] : List UInt8).length = 1 := rfl
    have h3 := zbx word.data.toList s1
    have h4 := zbx [105, 110] (s1.one word.data.toList)
    have h5 : word.data.toList.length = word.size := rfl
    have h6 : ([105, 110] : List UInt8).length = 2 := rfl
    have := HZ.out
    rw [hz1] at h3
    omega⟩
  have HW2 := Zq.mk (fun w (h : PrS W0 w g s1) => words2_calls W0 w g s1 word ⟨#[105, 110]⟩ h hb1.out)
  have HG := Zq.mk (fun w (h : PrS W0 w g ((s1.one word.data.toList).one [105, 110])) => zbp W0 w g _ ⟨#[123]⟩ h hb2.out)
  clear hz1 hb1 hb2
  generalize hs3 : ((s1.one word.data.toList).one [105, 110]).signs [123] = s3 at HF hb3
  have HG' : Zq (∀ w, PrS W0 w g ((s1.one word.data.toList).one [105, 110]) → Calls Tryz.prog 69 #[.pointer (some ⟨g, 0, none⟩), .string ⟨#[123]⟩] w (PrE W0 w g s3)) := ⟨fun w h => hs3 ▸ HG.out w h⟩
  clear HG hs3
  have HC := Zq.mk (fun w s' (h : PrS W0 w g s') hl => zbp W0 w g s' ⟨#[44]⟩ h hl)
  have HE := Zq.mk (fun w s' (h : PrS W0 w g s') hl => zbp W0 w g s' ⟨#[125]⟩ h hl)
  rcases hcase with ⟨h1, h2, HMU⟩ | ⟨h1, h2, HMU⟩ | ⟨h1, h2, HMU⟩
  all_goals
    go_enter Tryz.func134, Tryz.ntmps134
    go_wp2_with (first
      | (go_at_call 65; refine HMU.out.mono ?_; rintro e1 w1 ⟨rfl, hS1, hT1⟩; have HS1 := Zq.mk hS1; have HT1 := Zq.mk hT1; clear hS1 hT1 HMU)
      | (go_at_call 67; refine (HW2.out _ HS1.out).mono ?_; rintro e2 w2 ⟨rfl, hS2, hT2⟩; have HS2 := Zq.mk hS2; have HT2 := Zq.mk (HT1.out.trans hT2); clear hS2 hT2)
      | (go_at_call 69; refine (HG'.out _ HS2.out).mono ?_; rintro e3 w3 ⟨rfl, hS3, hT3⟩; have HS3 := Zq.mk hS3; have HT3 := Zq.mk (HT2.out.trans hT3); clear hS3 hT3))
    have H1 := Zq.mk h1
    clear h1 h2
    go_loopw [8] (fun i wr => ∃ k : Nat, ∃ s', k ≤ n ∧ i = .int .i64 k ∧ Zq (PrS W0 wr g s') ∧ Zq (Stp W wr g) ∧ Zq (I wr) ∧ Zq ((zmc one (n - k) k s').signs [125] = sf) ∧ Zq (s'.out.length + 1 + R k ≤ 140737488351232)) (fun i _ => n - (intOf i).toNat)
    case atStart => exact ⟨0, s3, Nat.zero_le _, rfl, HS3, HT3, ⟨HI.out _ _ _ HS.out HJ.out HT3.out⟩, HF, hb3⟩
    case round =>
      clear HS1 HS2 HS3 HT1 HT2 HT3 HF hb3 HW2 HG' HJ
      obtain ⟨k, s', hk, rfl, HSk, HTk, HIk, HFk, HBk⟩ := hrel
      obtain ⟨A, c, c0, c1, c2, f0, f1, f2, -, -⟩ := HSk.out.facts
      by_cases hlt : k < n
      · first
          | exact absurd H1.out (by omega)
          | (obtain ⟨m, hm⟩ : ∃ m, n - k = m + 1 := ⟨n - k - 1, by omega⟩
             have hf := HFk.out
             rw [hm, zmc] at hf
             cases hb : s'.bad with
             | true =>
               rw [hb] at c2
               rw [if_pos hb] at hf
               subst hf
               have hl1 : Zq (s'.out.length + (⟨#[125]⟩ : ByteArray).size ≤ 140737488355328) := ⟨by have := HBk.out; have h2 : (⟨#[125]⟩ : ByteArray).size = 1 := rfl; omega⟩
               clear hb HFk hm
               go_wp2_with (go_at_call 69; refine (HE.out _ _ HSk.out hl1.out).mono ?_; rintro e4 w4 ⟨rfl, hS4, hT4⟩)
               first | go_end0 | (refine bodyPost_ret (results_none rfl _ _ _) rfl ?_)
               exact ⟨rfl, hS4, HTk.out.trans hT4⟩
             | false =>
               rw [hb] at c2
               rw [if_neg (by rw [hb]; decide)] at hf
               have hm' : m = n - (k + 1) := by omega
               subst hm'
               have hRk := HR.out k hlt
               have hf := Zq.mk hf
               by_cases h0 : k = 0
               · subst h0
                 have hlk : Zq (s'.out.length + cs 0 ≤ 140737488351232) := ⟨by have := HBk.out; omega⟩
                 have hln : Zq ((one 0 s').out.length + 1 + R (0 + 1) ≤ 140737488351232) := ⟨by have := HBk.out; have := HL.out 0 s' hlt; omega⟩
                 have hf : Zq ((zmc one (n - (0 + 1)) (0 + 1) (one 0 s')).signs [125] = sf) := ⟨by have := hf.out; rwa [if_pos rfl] at this⟩
                 clear hb HFk hm hRk
                 go_wp2_with ((with_reducible refine zci fn ?_); refine (HO.out 0 _ _ hlt HSk.out HIk.out hlk.out).mono ?_; rintro e4 w4 ⟨rfl, hS4, hT4⟩; have HS4 := Zq.mk hS4; have HI4 := Zq.mk (HI.out _ _ _ HSk.out HIk.out hT4); have HT4 := Zq.mk (HTk.out.trans hT4); clear hS4 hT4)
                 go_roundw
                 case rel => exact ⟨0 + 1, _, by omega, by go_num, HS4, HT4, HI4, hf, hln⟩
                 case measure => simp [intOf]; omega
               · have h0' : 0 < k := by omega
                 have hlk : Zq ((s'.signs [44]).out.length + cs k ≤ 140737488351232) := ⟨by rw [zbm]; have h2 : ([44] : List UInt8).length = 1 := rfl; have := HBk.out; omega⟩
                 have hln : Zq ((one k (s'.signs [44])).out.length + 1 + R (k + 1) ≤ 140737488351232) := ⟨by have h1 := zbm s' [44]; have h2 : ([44] : List UInt8).length = 1 := rfl; have := HBk.out; have := HL.out k (s'.signs [44]) hlt; omega⟩
                 have hlc : Zq (s'.out.length + (⟨#[44]⟩ : ByteArray).size ≤ 140737488355328) := ⟨by have := HBk.out; have h2 : (⟨#[44]⟩ : ByteArray).size = 1 := rfl; omega⟩
                 rw [if_neg h0] at hf
                 clear hb HFk hm hRk h0
                 go_wp2_with (first
                   | (go_at_call 69; refine (HC.out _ _ HSk.out hlc.out).mono ?_; rintro e3 w3 ⟨rfl, hS3, hT3⟩; have HS3 := Zq.mk hS3; have HI3 := Zq.mk (HI.out _ _ _ HSk.out HIk.out hT3); have HT3 := Zq.mk (HTk.out.trans hT3); clear hS3 hT3 c0 c1 c2 f0 f1 f2)
                   | ((with_reducible refine zci fn ?_); refine (HO.out k _ _ hlt HS3.out HI3.out hlk.out).mono ?_; rintro e4 w4 ⟨rfl, hS4, hT4⟩; have HS4 := Zq.mk hS4; have HI4 := Zq.mk (HI.out _ _ _ HS3.out HI3.out hT4); have HT4 := Zq.mk (HT3.out.trans hT4); clear hS4 hT4))
                 go_roundw
                 case rel => exact ⟨k + 1, _, by omega, by go_num, HS4, HT4, HI4, hf, hln⟩
                 case measure => simp [intOf]; omega)
      · obtain rfl : k = n := by omega
        have hf := HFk.out
        rw [Nat.sub_self, zmc] at hf
        subst hf
        have hl1 : Zq (s'.out.length + (⟨#[125]⟩ : ByteArray).size ≤ 140737488355328) := ⟨by have := HBk.out; have h2 : (⟨#[125]⟩ : ByteArray).size = 1 := rfl; omega⟩
        clear HFk
        go_wp2_with (go_at_call 69; refine (HE.out _ _ HSk.out hl1.out).mono ?_; rintro e4 w4 ⟨rfl, hS4, hT4⟩)
        first | go_end0 | (refine bodyPost_ret (results_none rfl _ _ _) rfl ?_)
        exact ⟨rfl, hS4, HTk.out.trans hT4⟩
end
end Go.Proofs.YtjeekocidaogoaaGreatDoor.Hand
namespace Go.Proofs.YtjeekocidaogoaaGreatDoor.H
open Go.RowKit Go.Proofs.YtjeekocidaogoaaGreatDoor.Hand Go.Proofs.YtjeekocidaogoaaGreatDoorW.PrintWords Go.Proofs.YtjeekocidaogoaaGreatDoorW.PrintLast Go.Proofs.YtjeekocidaogoaaGreatDoorW.PrintMore
section
attribute [local go_sem] zdq zdo zeg zef zcw zcv zdp zdn
end
section
attribute [local go_sem] zdq zdo zeg zef zcw zcv zdp zdn
def lychgateref03_digits.B3 : List Nat := [0, 1, 3, 0, 8, 0, 32, 96, 248, 511, 1023]
end
section
def qBad (b : UInt8) : Bool := decide (b.toNat < 32) || decide (126 < b.toNat)
def qEsc (b : UInt8) : List Int := if b.toNat = 34 ∨ b.toNat = 92 then [92, (b.toNat : Int)] else [(b.toNat : Int)]
def qRes (l : List UInt8) (acc : List Int) : ByteArray × Int := if l.any qBad = true then (⟨#[]⟩, 1) else (strOfNums (acc ++ l.flatMap qEsc ++ [34]), 0)
theorem qRes_nil (acc : List Int) : qRes [] acc = (strOfNums (acc ++ [34]), 0) := by simp [qRes]
theorem zof (b : UInt8) (l : List UInt8) (acc : List Int) (h : qBad b = true) : qRes (b :: l) acc = (⟨#[]⟩, 1) := by simp [qRes, h]
theorem qRes_good (b : UInt8) (l : List UInt8) (acc : List Int) (h : qBad b = false) : qRes (b :: l) acc = qRes l (acc ++ qEsc b) := by
 simp [qRes, h, List.append_assoc]
def zdl (s : ByteArray) : ByteArray × Int := if (s.size : Int) > 200 then (⟨#[]⟩, 1) else qRes (bl s) [34]
theorem lex_quote_l0 (s : ByteArray) (hn : s.size ≤ 200) : ∀ (d i k : Nat) (acc : List Int), i + d = (bl s).length → 2 * d + 1 ≤ k → acc.length + 2 * d ≤ 1000 → lex_Quote.l0 k s acc (s.size : Int) (i : Int) = some (qRes ((bl s).drop i) acc) := by
 have hz := zbj s
 intro d
 induction d with
 | zero =>
  intro i k acc hi hk ha
  obtain ⟨k, rfl⟩ : ∃ m, k = m + 1 := ⟨k - 1, by omega⟩
  rw [List.drop_of_length_le (by omega), qRes_nil]
  simp only [lex_Quote.l0]
  rw [if_neg (by omega), if_pos (by omega)]
 | succ d ih =>
  intro i k acc hi hk ha
  obtain ⟨k, rfl⟩ : ∃ m, k = m + 1 + 1 := ⟨k - 2, by omega⟩
  have hlt : i < (bl s).length := by omega
  have hb := zne s i hlt
  have hw := zip i (by omega)
  rw [zgt _ i hlt]
  simp only [lex_Quote.l0]
  rw [if_pos (by omega), if_pos (by omega), if_pos (by omega), hb]
  have hbr := (bl s)[i].toNat_lt
  generalize hB : (bl s)[i] = b at hbr
  by_cases h32 : (b.toNat : Int) < 32
  ·rw [if_pos h32]
   simp only [lex_Quote.j1]
   rw [if_pos trivial, zof _ _ _ (by simp [qBad]; omega)]
  ·rw [if_neg h32]
   simp only [lex_Quote.j1]
   by_cases h126 : (b.toNat : Int) > 126
   ·rw [if_pos (decide_eq_true h126), zof _ _ _ (by simp [qBad]; omega)]
   ·rw [if_neg (by simpa using h126), qRes_good _ _ _ (by simp [qBad]; omega)]
    by_cases h34 : (b.toNat : Int) = 34
    ·rw [if_pos h34, if_pos (by omega)]
     simp only [Option.bind_some]
     rw [if_pos (by simp; omega), hw, ih (i + 1) k _ (by omega) (by omega) (by simp; omega)]
     have e : qEsc b = [92, (b.toNat : Int)] := by unfold qEsc; rw [if_pos (by omega)]
     rw [e, List.append_assoc]; rfl
    ·rw [if_neg h34]
     by_cases h92 : (b.toNat : Int) = 92
     ·rw [if_pos h92, if_pos (by omega)]
      simp only [Option.bind_some]
      rw [if_pos (by simp; omega), hw, ih (i + 1) k _ (by omega) (by omega) (by simp; omega)]
      have e : qEsc b = [92, (b.toNat : Int)] := by unfold qEsc; rw [if_pos (by omega)]
      rw [e, List.append_assoc]; rfl
     ·rw [if_neg h92, if_pos (by omega), hw, ih (i + 1) k _ (by omega) (by omega) (by simp; omega)]
      have e : qEsc b = [(b.toNat : Int)] := by unfold qEsc; rw [if_neg (by omega)]
      rw [e]
theorem lex_quote_ev (s : ByteArray) (k : Nat) (hk : 1000 ≤ k) : lex_Quote.f k s = some (zdl s) := by
 unfold lex_Quote.f zdl
 by_cases h : (s.size : Int) > 200
 ·rw [if_pos h, if_pos h]
 ·rw [if_neg h, if_neg h]
  have := lex_quote_l0 s (by omega) (bl s).length 0 k [34] (by omega) (by rw [zbj]; omega) (by rw [zbj]; simp; omega)
  simpa using this
end
section
def escB (b : UInt8) : List UInt8 := if b.toNat = 34 ∨ b.toNat = 92 then [92, b] else [b]
theorem esc_nums (l : List UInt8) : l.flatMap qEsc = (l.flatMap escB).map fun b => (b.toNat : Int) := by
 induction l with
 | nil => rfl
 | cons b l ih =>
  rw [List.flatMap_cons, List.flatMap_cons, List.map_append, ih]
  congr 1
  unfold qEsc escB
  split <;> rfl
theorem esc_len (l : List UInt8) : (l.flatMap escB).length ≤ 2 * l.length := by
 induction l with
 | nil => simp
 | cons b l ih =>
  rw [List.flatMap_cons, List.length_append, List.length_cons]
  have : (escB b).length ≤ 2 := by unfold escB; split <;> simp
  omega
theorem quote_ok (q : ByteArray) (h : (zdl q).2 = 0) : (zdl q).1 = toS (34 :: ((bl q).flatMap escB ++ [34])) ∧ q.size ≤ 200 ∧ (bl q).any qBad = false := by
 unfold zdl at h ⊢
 by_cases hz : (q.size : Int) > 200
 ·rw [if_pos hz] at h; cases h
 rw [if_neg hz] at h ⊢
 unfold qRes at h ⊢
 by_cases hb : (bl q).any qBad = true
 ·rw [if_pos hb] at h; cases h
 rw [if_neg hb]
 refine ⟨?_, by omega, by simpa using hb⟩
 show strOfNums ([34] ++ (bl q).flatMap qEsc ++ [34]) = _
 rw [esc_nums, ← zlr]
 simp
theorem quote_bad (q : ByteArray) (h : ¬ (zdl q).2 = 0) : (zdl q).1 = ⟨#[]⟩ := by
 unfold zdl at h ⊢
 by_cases hz : (q.size : Int) > 200
 ·rw [if_pos hz]
 rw [if_neg hz] at h ⊢
 unfold qRes at h ⊢
 by_cases hb : (bl q).any qBad = true
 ·rw [if_pos hb]
 ·rw [if_neg hb] at h; exact absurd rfl h
theorem zkr (q : ByteArray) : (zdl q).1.size ≤ 402 := by
 by_cases h : (zdl q).2 = 0
 ·obtain ⟨h1, h2, -⟩ := quote_ok q h
  have h3 := esc_len (bl q)
  have h4 := zbj q
  rw [h1, zej, List.length_cons, List.length_append]
  show _ + 1 + 1 ≤ _
  omega
 ·rw [quote_bad q h]; exact Nat.zero_le _
end
end Go.Proofs.YtjeekocidaogoaaGreatDoor.H

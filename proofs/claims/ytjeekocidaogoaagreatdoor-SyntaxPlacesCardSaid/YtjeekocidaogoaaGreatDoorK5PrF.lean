/- The printer on conditions: all of them. -/
import Derived.Test.YtjeekocidaogoaaGreatDoorK5PrE
set_option linter.unusedVariables false
set_option linter.unusedSimpArgs false
set_option maxRecDepth 100000
set_option maxHeartbeats 8000000
namespace Go.Proofs.YtjeekocidaogoaaGreatDoor.H
open Go.RowKit Go.Proofs.YtjeekocidaogoaaGreatDoor.Hand Go.Proofs.YtjeekocidaogoaaGreatDoorW.PrintWords Go.Proofs.YtjeekocidaogoaaGreatDoorW.PrintLast Go.Proofs.YtjeekocidaogoaaGreatDoorW.PrintMore
section
theorem zmi (W0 W : World) (g n : Nat) (s : PQ) (t : ByteArray) (h : PrS W0 W g s) (hn : W.heap.size = n) (hl : s.out.length + t.size + 1 ≤ 140737488355328) :
  Calls Tryz.prog 67 #[.pointer (some ⟨g, 0, none⟩), .slice (some ⟨n, 0, none⟩) 1 1] (W.alloc (.cells #[.string t] 9)) (PrE W0 W g (s.one t.data.toList)) := by
 subst hn; exact zbs W0 W g s t h hl
theorem ziy (f : S60 → Nat) (l : List S60) : 10 * l.length ≤ (l.map fun y => f y + 10).sum := by
 induction l with
 | nil => simp
 | cons a l ih => simp only [List.map_cons, List.sum_cons, List.length_cons]; omega
section
variable (W0 : World) (g : Nat)
theorem cond_true (hInv : Inv W0) (k : Nat) (hk : k ≤ 16) (IH : zke W0 g k) (f1 f2 : ByteArray) (f3 : List S47) (f4 : List S68) (f5 : List ByteArray) (f6 : List S60) (f7 : Int) (v : Value) (W : World) (s : PQ) (hA : zcu W0 ⟨1, f1, f2, f3, f4, f5, f6, f7⟩ v) (h : PrS W0 W g s) (hb : s.bad = false) (hlo : zds s = false) (hw : Wide (k + 1) ⟨1, f1, f2, f3, f4, f5, f6, f7⟩) (hl : s.out.length + zck (k + 1) ⟨1, f1, f2, f3, f4, f5, f6, f7⟩ ≤ 140737488351232) :
  Calls Tryz.prog 70 #[.pointer (some ⟨g, 0, none⟩), v, .int .i64 (16 - (k : Int))] W (PrE W0 W g (zbg (k + 1) ⟨1, f1, f2, f3, f4, f5, f6, f7⟩ s)) := by
 have HA := Zq.mk hA
 obtain ⟨cs, hK, rfl⟩ := hA
 have hO := zbo hK
 simp only at hO
 obtain ⟨A3, c3, A4, c4, A5, c5, A6, c6, rfl, l3, g3, l4, g4, l5, g5, l6, g6⟩ := hO
 have hg0 := h.lt
 have HX := Zq.mk (h.alloc (.cells #[.int .i64 1, .string f1, .string f2, .slice A3 f3.length c3, .slice A4 f4.length c4, .slice A5 f5.length c5, .slice A6 f6.length c6, .int .i64 f7] 60))
 have HT := Zq.mk ((Stp.refl W g).alloc hg0 (.cells #[.int .i64 1, .string f1, .string f2, .slice A3 f3.length c3, .slice A4 f4.length c4, .slice A5 f5.length c5, .slice A6 f6.length c6, .int .i64 f7] 60))
 have HQ := Zq.mk (heap_alloc_new W (.cells #[.int .i64 1, .string f1, .string f2, .slice A3 f3.length c3, .slice A4 f4.length c4, .slice A5 f5.length c5, .slice A6 f6.length c6, .int .i64 f7] 60))
 have HM0 := Zq.mk (show ∀ w, PrS W0 w g s → Calls Tryz.prog 65 #[.pointer (some ⟨g, 0, none⟩), .bool true] w (PrE W0 w g s) from fun w h => by have := zbe W0 w g s true h; rwa [zdv] at this)
 have HLo := Zq.mk (show ∀ w, PrS W0 w g s → Calls Tryz.prog 66 #[.pointer (some ⟨g, 0, none⟩)] w fun e w' => e = .returned (.bool false) ∧ w' = w from fun w h => by have := zcn W0 w g s h (by omega); rwa [show decide (8000 < s.out.length) = false from hlo] at this)
 have HF := Zq.mk (show ∀ w, PrS W0 w g s → w.cell? ⟨g, 2, none⟩ = some (.bool false) from fun w h => by obtain ⟨_, _, _, _, a2, _⟩ := h.facts; rwa [hb] at a2)
 have hbl : ¬ (s.bad || zds s) = true := by rw [hb, hlo]; decide
 have hk0 : (0 : Int) ≤ 16 - (k : Int) := by omega
 have hk1 : 16 - (k : Int) ≤ 16 := by omega
 have HB := Zq.mk (fun w (h : Below W0.heap.size W0 w) => zct w ⟨1, f1, f2, f3, f4, f5, f6, f7⟩ _ (HA.out.below h) false false false false false false)
 have HM1 := Zq.mk (fun w b' (h : PrS W0 w g s) => zbe W0 w g s b' h)
 have hat : zbg (k + 1) ⟨1, f1, f2, f3, f4, f5, f6, f7⟩ s = (s.must (zba ⟨1, f1, f2, f3, f4, f5, f6, f7⟩ false false false false false false)).one zqg := by unfold zbg; rw [if_neg hbl, if_pos rfl]
 rw [hat]
 have hwl : s.out.length + 1000 ≤ 140737488351232 := by unfold zck at hl; omega
 have HW := Zq.mk (fun w n b (h : PrS W0 w g (s.must b)) (hn : w.heap.size = n) => show Calls Tryz.prog 67 #[.pointer (some ⟨g, 0, none⟩), .slice (some ⟨n, 0, none⟩) 1 1] (w.alloc (.cells #[.string ⟨#[116, 114, 117, 101]⟩] 9)) (PrE W0 w g ((s.must b).one zqg)) from zmi W0 w g n _ ⟨#[116, 114, 117, 101]⟩ h hn (by rw [zbc]; show _ + 4 + 1 ≤ _; omega))
 generalize zba ⟨1, f1, f2, f3, f4, f5, f6, f7⟩ false false false false false false = b at HB ⊢
 clear h hK hl hw hInv IH HA hat hwl hbl hb hlo g3 g4 g5 g6 l3 l4 l5 l6
 go_enter Tryz.func70, Tryz.ntmps70
 go_wp2_with (first
  | (go_at_call 65; refine (HM0.out _ HX.out).mono ?_; rintro e0 w0 ⟨rfl, hS0, hT0⟩; have hq0 := hT0.keep HX.out HQ.out (by decide) (by decide); have HS0 := Zq.mk hS0; have HT0 := Zq.mk (HT.out.trans hT0); have HQ0 := Zq.mk hq0; have p0 := HF.out _ hS0; obtain ⟨q0, q1, q2, q3, q4, q5, q6, q7⟩ := zau hq0; clear hS0 hT0 hq0 HM0 HX HT HQ HF)
  | (go_at_call 66; refine (HLo.out _ HS0.out).mono ?_; rintro el wl ⟨rfl, rfl⟩; clear HLo)
  | (go_at_call 104; refine (HB.out _ HS0.out.bel).mono ?_; rintro e1 w1 ⟨rfl, hb1⟩; have HS1 := Zq.mk (HS0.out.below hb1); have HT1 := Zq.mk (HT0.out.below HS0.out.lt hb1); have hq1 := (hb1.block _ (zat HQ0.out)).trans HQ0.out; have HQ1 := Zq.mk hq1; clear q0 q1 q2 q3 q4 q5 q6 q7 p0; obtain ⟨q0, q1, q2, q3, q4, q5, q6, q7⟩ := zau hq1; clear hb1 hq1 HB HS0 HT0 HQ0)
  | (go_at_call 65; refine (HM1.out _ _ HS1.out).mono ?_; rintro e2 w2 ⟨rfl, hS2, hT2⟩; have hq2 := hT2.keep HS1.out HQ1.out (by decide) (by decide); have HS2 := Zq.mk hS2; have HT2 := Zq.mk (HT1.out.trans hT2); have HQ2 := Zq.mk hq2; clear q0 q1 q2 q3 q4 q5 q6 q7; obtain ⟨q0, q1, q2, q3, q4, q5, q6, q7⟩ := zau hq2; have r0 := fun o => (zau (zad hq2 o)).1; clear hS2 hT2 hq2 HM1 HS1 HT1 HQ1)
  | (go_at_call 67; refine (HW.out _ _ _ (HS2.out.alloc _) (World.size_alloc ..)).mono ?_; rintro e3 w3 ⟨rfl, hS3, hT3⟩))
 first | go_end0 | (refine bodyPost_ret (results_none rfl _ _ _) rfl ?_)
 exact ⟨rfl, hS3, (HT2.out.alloc HS2.out.lt _).trans hT3⟩
theorem cond_false (hInv : Inv W0) (k : Nat) (hk : k ≤ 16) (IH : zke W0 g k) (f1 f2 : ByteArray) (f3 : List S47) (f4 : List S68) (f5 : List ByteArray) (f6 : List S60) (f7 : Int) (v : Value) (W : World) (s : PQ) (hA : zcu W0 ⟨2, f1, f2, f3, f4, f5, f6, f7⟩ v) (h : PrS W0 W g s) (hb : s.bad = false) (hlo : zds s = false) (hw : Wide (k + 1) ⟨2, f1, f2, f3, f4, f5, f6, f7⟩) (hl : s.out.length + zck (k + 1) ⟨2, f1, f2, f3, f4, f5, f6, f7⟩ ≤ 140737488351232) :
  Calls Tryz.prog 70 #[.pointer (some ⟨g, 0, none⟩), v, .int .i64 (16 - (k : Int))] W (PrE W0 W g (zbg (k + 1) ⟨2, f1, f2, f3, f4, f5, f6, f7⟩ s)) := by
 have HA := Zq.mk hA
 obtain ⟨cs, hK, rfl⟩ := hA
 have hO := zbo hK
 simp only at hO
 obtain ⟨A3, c3, A4, c4, A5, c5, A6, c6, rfl, l3, g3, l4, g4, l5, g5, l6, g6⟩ := hO
 have hg0 := h.lt
 have HX := Zq.mk (h.alloc (.cells #[.int .i64 2, .string f1, .string f2, .slice A3 f3.length c3, .slice A4 f4.length c4, .slice A5 f5.length c5, .slice A6 f6.length c6, .int .i64 f7] 60))
 have HT := Zq.mk ((Stp.refl W g).alloc hg0 (.cells #[.int .i64 2, .string f1, .string f2, .slice A3 f3.length c3, .slice A4 f4.length c4, .slice A5 f5.length c5, .slice A6 f6.length c6, .int .i64 f7] 60))
 have HQ := Zq.mk (heap_alloc_new W (.cells #[.int .i64 2, .string f1, .string f2, .slice A3 f3.length c3, .slice A4 f4.length c4, .slice A5 f5.length c5, .slice A6 f6.length c6, .int .i64 f7] 60))
 have HM0 := Zq.mk (show ∀ w, PrS W0 w g s → Calls Tryz.prog 65 #[.pointer (some ⟨g, 0, none⟩), .bool true] w (PrE W0 w g s) from fun w h => by have := zbe W0 w g s true h; rwa [zdv] at this)
 have HLo := Zq.mk (show ∀ w, PrS W0 w g s → Calls Tryz.prog 66 #[.pointer (some ⟨g, 0, none⟩)] w fun e w' => e = .returned (.bool false) ∧ w' = w from fun w h => by have := zcn W0 w g s h (by omega); rwa [show decide (8000 < s.out.length) = false from hlo] at this)
 have HF := Zq.mk (show ∀ w, PrS W0 w g s → w.cell? ⟨g, 2, none⟩ = some (.bool false) from fun w h => by obtain ⟨_, _, _, _, a2, _⟩ := h.facts; rwa [hb] at a2)
 have hbl : ¬ (s.bad || zds s) = true := by rw [hb, hlo]; decide
 have hk0 : (0 : Int) ≤ 16 - (k : Int) := by omega
 have hk1 : 16 - (k : Int) ≤ 16 := by omega
 have HB := Zq.mk (fun w (h : Below W0.heap.size W0 w) => zct w ⟨2, f1, f2, f3, f4, f5, f6, f7⟩ _ (HA.out.below h) false false false false false false)
 have HM1 := Zq.mk (fun w b' (h : PrS W0 w g s) => zbe W0 w g s b' h)
 have hat : zbg (k + 1) ⟨2, f1, f2, f3, f4, f5, f6, f7⟩ s = (s.must (zba ⟨2, f1, f2, f3, f4, f5, f6, f7⟩ false false false false false false)).one zny := by unfold zbg; rw [if_neg hbl, if_neg (show ¬ (2 : Int) = 1 from by decide), if_pos rfl]
 rw [hat]
 have hwl : s.out.length + 1000 ≤ 140737488351232 := by unfold zck at hl; omega
 have HW := Zq.mk (fun w n b (h : PrS W0 w g (s.must b)) (hn : w.heap.size = n) => show Calls Tryz.prog 67 #[.pointer (some ⟨g, 0, none⟩), .slice (some ⟨n, 0, none⟩) 1 1] (w.alloc (.cells #[.string ⟨#[102, 97, 108, 115, 101]⟩] 9)) (PrE W0 w g ((s.must b).one zny)) from zmi W0 w g n _ ⟨#[102, 97, 108, 115, 101]⟩ h hn (by rw [zbc]; show _ + 5 + 1 ≤ _; omega))
 generalize zba ⟨2, f1, f2, f3, f4, f5, f6, f7⟩ false false false false false false = b at HB ⊢
 clear h hK hl hw hInv IH HA hat hwl hbl hb hlo g3 g4 g5 g6 l3 l4 l5 l6
 go_enter Tryz.func70, Tryz.ntmps70
 go_wp2_with (first
  | (go_at_call 65; refine (HM0.out _ HX.out).mono ?_; rintro e0 w0 ⟨rfl, hS0, hT0⟩; have hq0 := hT0.keep HX.out HQ.out (by decide) (by decide); have HS0 := Zq.mk hS0; have HT0 := Zq.mk (HT.out.trans hT0); have HQ0 := Zq.mk hq0; have p0 := HF.out _ hS0; obtain ⟨q0, q1, q2, q3, q4, q5, q6, q7⟩ := zau hq0; clear hS0 hT0 hq0 HM0 HX HT HQ HF)
  | (go_at_call 66; refine (HLo.out _ HS0.out).mono ?_; rintro el wl ⟨rfl, rfl⟩; clear HLo)
  | (go_at_call 104; refine (HB.out _ HS0.out.bel).mono ?_; rintro e1 w1 ⟨rfl, hb1⟩; have HS1 := Zq.mk (HS0.out.below hb1); have HT1 := Zq.mk (HT0.out.below HS0.out.lt hb1); have hq1 := (hb1.block _ (zat HQ0.out)).trans HQ0.out; have HQ1 := Zq.mk hq1; clear q0 q1 q2 q3 q4 q5 q6 q7 p0; obtain ⟨q0, q1, q2, q3, q4, q5, q6, q7⟩ := zau hq1; clear hb1 hq1 HB HS0 HT0 HQ0)
  | (go_at_call 65; refine (HM1.out _ _ HS1.out).mono ?_; rintro e2 w2 ⟨rfl, hS2, hT2⟩; have hq2 := hT2.keep HS1.out HQ1.out (by decide) (by decide); have HS2 := Zq.mk hS2; have HT2 := Zq.mk (HT1.out.trans hT2); have HQ2 := Zq.mk hq2; clear q0 q1 q2 q3 q4 q5 q6 q7; obtain ⟨q0, q1, q2, q3, q4, q5, q6, q7⟩ := zau hq2; have r0 := fun o => (zau (zad hq2 o)).1; clear hS2 hT2 hq2 HM1 HS1 HT1 HQ1)
  | (go_at_call 67; refine (HW.out _ _ _ (HS2.out.alloc _) (World.size_alloc ..)).mono ?_; rintro e3 w3 ⟨rfl, hS3, hT3⟩))
 first | go_end0 | (refine bodyPost_ret (results_none rfl _ _ _) rfl ?_)
 exact ⟨rfl, hS3, (HT2.out.alloc HS2.out.lt _).trans hT3⟩
theorem cond_name (hInv : Inv W0) (k : Nat) (hk : k ≤ 16) (IH : zke W0 g k) (f1 f2 : ByteArray) (f3 : List S47) (f4 : List S68) (f5 : List ByteArray) (f6 : List S60) (f7 : Int) (v : Value) (W : World) (s : PQ) (hA : zcu W0 ⟨3, f1, f2, f3, f4, f5, f6, f7⟩ v) (h : PrS W0 W g s) (hb : s.bad = false) (hlo : zds s = false) (hw : Wide (k + 1) ⟨3, f1, f2, f3, f4, f5, f6, f7⟩) (hl : s.out.length + zck (k + 1) ⟨3, f1, f2, f3, f4, f5, f6, f7⟩ ≤ 140737488351232) :
  Calls Tryz.prog 70 #[.pointer (some ⟨g, 0, none⟩), v, .int .i64 (16 - (k : Int))] W (PrE W0 W g (zbg (k + 1) ⟨3, f1, f2, f3, f4, f5, f6, f7⟩ s)) := by
 have HA := Zq.mk hA
 obtain ⟨cs, hK, rfl⟩ := hA
 have hO := zbo hK
 simp only at hO
 obtain ⟨A3, c3, A4, c4, A5, c5, A6, c6, rfl, l3, g3, l4, g4, l5, g5, l6, g6⟩ := hO
 have hg0 := h.lt
 have HX := Zq.mk (h.alloc (.cells #[.int .i64 3, .string f1, .string f2, .slice A3 f3.length c3, .slice A4 f4.length c4, .slice A5 f5.length c5, .slice A6 f6.length c6, .int .i64 f7] 60))
 have HT := Zq.mk ((Stp.refl W g).alloc hg0 (.cells #[.int .i64 3, .string f1, .string f2, .slice A3 f3.length c3, .slice A4 f4.length c4, .slice A5 f5.length c5, .slice A6 f6.length c6, .int .i64 f7] 60))
 have HQ := Zq.mk (heap_alloc_new W (.cells #[.int .i64 3, .string f1, .string f2, .slice A3 f3.length c3, .slice A4 f4.length c4, .slice A5 f5.length c5, .slice A6 f6.length c6, .int .i64 f7] 60))
 have HM0 := Zq.mk (show ∀ w, PrS W0 w g s → Calls Tryz.prog 65 #[.pointer (some ⟨g, 0, none⟩), .bool true] w (PrE W0 w g s) from fun w h => by have := zbe W0 w g s true h; rwa [zdv] at this)
 have HLo := Zq.mk (show ∀ w, PrS W0 w g s → Calls Tryz.prog 66 #[.pointer (some ⟨g, 0, none⟩)] w fun e w' => e = .returned (.bool false) ∧ w' = w from fun w h => by have := zcn W0 w g s h (by omega); rwa [show decide (8000 < s.out.length) = false from hlo] at this)
 have HF := Zq.mk (show ∀ w, PrS W0 w g s → w.cell? ⟨g, 2, none⟩ = some (.bool false) from fun w h => by obtain ⟨_, _, _, _, a2, _⟩ := h.facts; rwa [hb] at a2)
 have hbl : ¬ (s.bad || zds s) = true := by rw [hb, hlo]; decide
 have hk0 : (0 : Int) ≤ 16 - (k : Int) := by omega
 have hk1 : 16 - (k : Int) ≤ 16 := by omega
 have HB := Zq.mk (fun w (h : Below W0.heap.size W0 w) => zct w ⟨3, f1, f2, f3, f4, f5, f6, f7⟩ _ (HA.out.below h) true false false false false false)
 have HM1 := Zq.mk (fun w b' (h : PrS W0 w g s) => zbe W0 w g s b' h)
 have hat : zbg (k + 1) ⟨3, f1, f2, f3, f4, f5, f6, f7⟩ s = zbf f1 (s.must (zba ⟨3, f1, f2, f3, f4, f5, f6, f7⟩ true false false false false false)) := by unfold zbg; rw [if_neg hbl, if_neg (show ¬ (3 : Int) = 1 from by decide), if_neg (show ¬ (3 : Int) = 2 from by decide), if_pos rfl]
 rw [hat]
 have hwl : s.out.length + 1000 + f1.size ≤ 140737488351232 := by unfold zck at hl; dsimp only at hl; omega
 have HN := Zq.mk (fun w b (h : PrS W0 w g (s.must b)) => zfj W0 w g _ f1 hInv h (by rw [zbc]; omega))
 generalize zba ⟨3, f1, f2, f3, f4, f5, f6, f7⟩ true false false false false false = b at HB ⊢
 clear h hK hl hw hInv IH HA hat hwl hbl hb hlo g3 g4 g5 g6 l3 l4 l5 l6
 go_enter Tryz.func70, Tryz.ntmps70
 go_wp2_with (first
  | (go_at_call 65; refine (HM0.out _ HX.out).mono ?_; rintro e0 w0 ⟨rfl, hS0, hT0⟩; have hq0 := hT0.keep HX.out HQ.out (by decide) (by decide); have HS0 := Zq.mk hS0; have HT0 := Zq.mk (HT.out.trans hT0); have HQ0 := Zq.mk hq0; have p0 := HF.out _ hS0; obtain ⟨q0, q1, q2, q3, q4, q5, q6, q7⟩ := zau hq0; clear hS0 hT0 hq0 HM0 HX HT HQ HF)
  | (go_at_call 66; refine (HLo.out _ HS0.out).mono ?_; rintro el wl ⟨rfl, rfl⟩; clear HLo)
  | (go_at_call 104; refine (HB.out _ HS0.out.bel).mono ?_; rintro e1 w1 ⟨rfl, hb1⟩; have HS1 := Zq.mk (HS0.out.below hb1); have HT1 := Zq.mk (HT0.out.below HS0.out.lt hb1); have hq1 := (hb1.block _ (zat HQ0.out)).trans HQ0.out; have HQ1 := Zq.mk hq1; clear q0 q1 q2 q3 q4 q5 q6 q7 p0; obtain ⟨q0, q1, q2, q3, q4, q5, q6, q7⟩ := zau hq1; clear hb1 hq1 HB HS0 HT0 HQ0)
  | (go_at_call 65; refine (HM1.out _ _ HS1.out).mono ?_; rintro e2 w2 ⟨rfl, hS2, hT2⟩; have hq2 := hT2.keep HS1.out HQ1.out (by decide) (by decide); have HS2 := Zq.mk hS2; have HT2 := Zq.mk (HT1.out.trans hT2); have HQ2 := Zq.mk hq2; clear q0 q1 q2 q3 q4 q5 q6 q7; obtain ⟨q0, q1, q2, q3, q4, q5, q6, q7⟩ := zau hq2; have r0 := fun o => (zau (zad hq2 o)).1; clear hS2 hT2 hq2 HM1 HS1 HT1 HQ1)
  | (go_at_call 68; refine (HN.out _ _ HS2.out).mono ?_; rintro e3 w3 ⟨rfl, hS3, hT3⟩))
 first | go_end0 | (refine bodyPost_ret (results_none rfl _ _ _) rfl ?_)
 exact ⟨rfl, hS3, HT2.out.trans hT3⟩
theorem cond_not (hInv : Inv W0) (k : Nat) (hk : k ≤ 16) (IH : zke W0 g k) (f1 f2 : ByteArray) (f3 : List S47) (f4 : List S68) (f5 : List ByteArray) (f6 : List S60) (f7 : Int) (v : Value) (W : World) (s : PQ) (hA : zcu W0 ⟨4, f1, f2, f3, f4, f5, f6, f7⟩ v) (h : PrS W0 W g s) (hb : s.bad = false) (hlo : zds s = false) (hw : Wide (k + 1) ⟨4, f1, f2, f3, f4, f5, f6, f7⟩) (hl : s.out.length + zck (k + 1) ⟨4, f1, f2, f3, f4, f5, f6, f7⟩ ≤ 140737488351232) :
  Calls Tryz.prog 70 #[.pointer (some ⟨g, 0, none⟩), v, .int .i64 (16 - (k : Int))] W (PrE W0 W g (zbg (k + 1) ⟨4, f1, f2, f3, f4, f5, f6, f7⟩ s)) := by
 have HA := Zq.mk hA
 obtain ⟨cs, hK, rfl⟩ := hA
 have hO := zbo hK
 simp only at hO
 obtain ⟨A3, c3, A4, c4, A5, c5, A6, c6, rfl, l3, g3, l4, g4, l5, g5, l6, g6⟩ := hO
 have hg0 := h.lt
 have HX := Zq.mk (h.alloc (.cells #[.int .i64 4, .string f1, .string f2, .slice A3 f3.length c3, .slice A4 f4.length c4, .slice A5 f5.length c5, .slice A6 f6.length c6, .int .i64 f7] 60))
 have HT := Zq.mk ((Stp.refl W g).alloc hg0 (.cells #[.int .i64 4, .string f1, .string f2, .slice A3 f3.length c3, .slice A4 f4.length c4, .slice A5 f5.length c5, .slice A6 f6.length c6, .int .i64 f7] 60))
 have HQ := Zq.mk (heap_alloc_new W (.cells #[.int .i64 4, .string f1, .string f2, .slice A3 f3.length c3, .slice A4 f4.length c4, .slice A5 f5.length c5, .slice A6 f6.length c6, .int .i64 f7] 60))
 have HM0 := Zq.mk (show ∀ w, PrS W0 w g s → Calls Tryz.prog 65 #[.pointer (some ⟨g, 0, none⟩), .bool true] w (PrE W0 w g s) from fun w h => by have := zbe W0 w g s true h; rwa [zdv] at this)
 have HLo := Zq.mk (show ∀ w, PrS W0 w g s → Calls Tryz.prog 66 #[.pointer (some ⟨g, 0, none⟩)] w fun e w' => e = .returned (.bool false) ∧ w' = w from fun w h => by have := zcn W0 w g s h (by omega); rwa [show decide (8000 < s.out.length) = false from hlo] at this)
 have HF := Zq.mk (show ∀ w, PrS W0 w g s → w.cell? ⟨g, 2, none⟩ = some (.bool false) from fun w h => by obtain ⟨_, _, _, _, a2, _⟩ := h.facts; rwa [hb] at a2)
 have hbl : ¬ (s.bad || zds s) = true := by rw [hb, hlo]; decide
 have hk0 : (0 : Int) ≤ 16 - (k : Int) := by omega
 have hk1 : 16 - (k : Int) ≤ 16 := by omega
 have HB := Zq.mk (fun w (h : Below W0.heap.size W0 w) => zct w ⟨4, f1, f2, f3, f4, f5, f6, f7⟩ _ (HA.out.below h) false false false false false true)
 have HM1 := Zq.mk (fun w b' (h : PrS W0 w g s) => zbe W0 w g s b' h)
 have HBAD := Zq.mk hb
 have h4 := ziy (zck k) f6
 have hwl : s.out.length + 1000 + (f6.map fun y => zck k y + 10).sum ≤ 140737488351232 := by unfold zck at hl; dsimp only at hl; omega
 have hn6 : f6.length ≤ 140737488351232 := by omega
 clear h4
 have hat : zbg (k + 1) ⟨4, f1, f2, f3, f4, f5, f6, f7⟩ s = (if (s.must (zba ⟨4, f1, f2, f3, f4, f5, f6, f7⟩ false false false false false true && decide (f6.length = 1))).bad = true then s.must (zba ⟨4, f1, f2, f3, f4, f5, f6, f7⟩ false false false false false true && decide (f6.length = 1)) else zgk (zbg k) 2 (f6.getD 0 z60) ((s.must (zba ⟨4, f1, f2, f3, f4, f5, f6, f7⟩ false false false false false true && decide (f6.length = 1))).one wNot)) := by unfold zbg; rw [if_neg hbl, if_neg (show ¬ (4 : Int) = 1 from by decide), if_neg (show ¬ (4 : Int) = 2 from by decide), if_neg (show ¬ (4 : Int) = 3 from by decide), if_pos rfl]
 rw [hat]
 by_cases hbq : zba ⟨4, f1, f2, f3, f4, f5, f6, f7⟩ false false false false false true = true
 ·by_cases h1 : f6.length = 1
  ·have hsb : (zba ⟨4, f1, f2, f3, f4, f5, f6, f7⟩ false false false false false true && decide (f6.length = 1)) = true := by rw [hbq, h1]; rfl
   rw [hsb, if_neg (by simp [PQ.must, hb])]
   rw [hbq] at HB
   obtain ⟨ad, B3, d3, B4, d4, B5, d5, B6, d6, rfl, x0, x1, x2, x3, x4, x5, x6, x7, m3, e3, m4, e4, m5, e5, m6, e6⟩ := zij g6 0 (by decide) (by omega)
   have hrd : zax f6 0 = f6.getD 0 z60 := rfl
   have hadz : ad.add ((0 : Int).toNat * 8) = ad := by show ad.add 0 = ad; unfold Addr.add; simp
   rw [hrd] at x0 x1 x2 x3 x4 x5 x6 x7 m3 e3 m4 e4 m5 e5 m6 e6
   rw [hadz] at x0 x1 x2 x3 x4 x5 x6 x7
   have hm : f6.getD 0 z60 ∈ f6 := by rw [List.getD_eq_getElem?_getD, List.getElem?_eq_getElem (by omega)]; exact List.getElem_mem _
   have hs6 := zhp (fun y => zck k y + 10) f6 _ hm
   have hwy := hw.2 _ hm
   generalize f6.getD 0 z60 = y at x0 x1 x2 x3 x4 x5 x6 x7 m3 e3 m4 e4 m5 e5 m6 e6 hs6 hwy ⊢
   have HAy := Zq.mk (show zcu W0 y (.agg #[.int .i64 y.f0, .string y.f1, .string y.f2, .slice B3 y.f3.length d3, .slice B4 y.f4.length d4, .slice B5 y.f5.length d5, .slice B6 y.f6.length d6, .int .i64 y.f7]) from ⟨_, zhg W0 y m3 e3 m4 e4 m5 e5 m6 e6, rfl⟩)
   have HY := Zq.mk (fun w (h : Below W0.heap.size W0 w) => And.intro (zao h x0) (And.intro (zao h x1) (And.intro (zao h x2) (And.intro (zao h x3) (And.intro (zao h x4) (And.intro (zao h x5) (And.intro (zao h x6) (zao h x7))))))))
   have hol := zbx wNot (s.must true)
   rw [zbc] at hol
   have hwn : wNot.length = 3 := rfl
   have HW := Zq.mk (fun w (h : PrS W0 w g (s.must true)) => show Calls Tryz.prog 67 #[.pointer (some ⟨g, 0, none⟩), .slice (some ⟨w.heap.size, 0, none⟩) 1 1] (w.alloc (.cells #[.string ⟨#[110, 111, 116]⟩] 9)) (PrE W0 w g ((s.must true).one wNot)) from zbs W0 w g _ ⟨#[110, 111, 116]⟩ h (by rw [zbc]; show _ + 3 + 1 ≤ _; omega))
   have HP := Zq.mk (show ∀ w, PrS W0 w g ((s.must true).one wNot) → Calls Tryz.prog 105 #[.pointer (some ⟨g, 0, none⟩), .agg #[.int .i64 y.f0, .string y.f1, .string y.f2, .slice B3 y.f3.length d3, .slice B4 y.f4.length d4, .slice B5 y.f5.length d5, .slice B6 y.f6.length d6, .int .i64 y.f7], .int .i64 2, .int .i64 (16 - (k : Int) + 1)] w (PrE W0 w g (zgk (zbg k) 2 y ((s.must true).one wNot))) from fun w h => by
    have := zkw W0 g k IH y _ w _ 2 HAy.out h hwy (by omega)
    rwa [show (17 : Int) - (k : Int) = 16 - (k : Int) + 1 by omega] at this)
   have h1' : ¬ ((f6.length : Int) = 1) → False := fun h => h (by omega)
   generalize zgk (zbg k) 2 y ((s.must true).one wNot) = sf at HP ⊢
   generalize (s.must true).one wNot = s3 at HW HP
   have h11 : (f6.length : Int) = 1 := by omega
   have hz0 : 0 < f6.length := by omega
   clear h hK hl hw hInv IH HA hat hwl hbl hb hlo g3 g4 g5 g6 l3 l4 l5 hsb hbq h1 hrd hadz x0 x1 x2 x3 x4 x5 x6 x7 m3 e3 m4 e4 m5 e5 m6 e6 hm hs6 hwy hol hwn h1' hn6
   go_enter Tryz.func70, Tryz.ntmps70
   go_wp2_with (first
    | (go_at_call 65; refine (HM0.out _ HX.out).mono ?_; rintro e0 w0 ⟨rfl, hS0, hT0⟩; have hq0 := hT0.keep HX.out HQ.out (by decide) (by decide); have HS0 := Zq.mk hS0; have HT0 := Zq.mk (HT.out.trans hT0); have HQ0 := Zq.mk hq0; have p0 := HF.out _ hS0; obtain ⟨q0, q1, q2, q3, q4, q5, q6, q7⟩ := zau hq0; clear hS0 hT0 hq0 HM0 HX HT HQ HF)
    | (go_at_call 66; refine (HLo.out _ HS0.out).mono ?_; rintro el wl ⟨rfl, rfl⟩; clear HLo)
    | (go_at_call 104; refine (HB.out _ HS0.out.bel).mono ?_; rintro e1 w1 ⟨rfl, hb1⟩; have HS1 := Zq.mk (HS0.out.below hb1); have HT1 := Zq.mk (HT0.out.below HS0.out.lt hb1); have hq1 := (hb1.block _ (zat HQ0.out)).trans HQ0.out; have HQ1 := Zq.mk hq1; clear q0 q1 q2 q3 q4 q5 q6 q7 p0; obtain ⟨q0, q1, q2, q3, q4, q5, q6, q7⟩ := zau hq1; clear hb1 hq1 HB HS0 HT0 HQ0)
    | (go_at_call 65; refine (HM1.out _ _ HS1.out).mono ?_; rintro e2 w2 ⟨rfl, hS2, hT2⟩; have hq2 := hT2.keep HS1.out HQ1.out (by decide) (by decide); have HT2 := Zq.mk (HT1.out.trans hT2); obtain ⟨_, _, _, _, p2, _⟩ := hS2.facts; have p3 : w2.cell? ⟨g, 2, none⟩ = some (.bool false) := (by simpa [PQ.must, HBAD.out] using p2); have HS2 := Zq.mk hS2; have HQ2 := Zq.mk hq2; clear q0 q1 q2 q3 q4 q5 q6 q7; obtain ⟨q0, q1, q2, q3, q4, q5, q6, q7⟩ := zau hq2; clear hS2 hT2 hq2 p2 HM1 HS1 HT1 HQ1)
    | (go_at_call 67; refine (HW.out _ HS2.out).mono ?_; rintro e3 w3 ⟨rfl, hS3, hT3⟩; have hq3 := hT3.keep HS2.out HQ2.out (by decide) (by decide); have HS3 := Zq.mk hS3; have HT3 := Zq.mk (HT2.out.trans hT3); clear q0 q1 q2 q3 q4 q5 q6 q7; obtain ⟨q0, q1, q2, q3, q4, q5, q6, q7⟩ := zau hq3; obtain ⟨x0, x1, x2, x3, x4, x5, x6, x7⟩ := HY.out _ hS3.bel; clear hS3 hT3 hq3)
    | (go_at_call 105; refine (HP.out _ HS3.out).mono ?_; rintro e4 w4 ⟨rfl, hS4, hT4⟩))
   first | go_end0 | (refine bodyPost_ret (results_none rfl _ _ _) rfl ?_)
   exact ⟨rfl, hS4, HT3.out.trans hT4⟩
  ·have hsb : (zba ⟨4, f1, f2, f3, f4, f5, f6, f7⟩ false false false false false true && decide (f6.length = 1)) = false := by rw [hbq]; simp [h1]
   rw [hsb, if_pos (by simp [PQ.must])]
   rw [hbq] at HB
   have h11 : ((f6.length : Int) == 1) = false := by simp; omega
   clear h hK hl hw hInv IH HA hat hwl hbl hb hlo g3 g4 g5 g6 l3 l4 l5 hsb hbq h1
   go_enter Tryz.func70, Tryz.ntmps70
   go_wp2_with (first
    | (go_at_call 65; refine (HM0.out _ HX.out).mono ?_; rintro e0 w0 ⟨rfl, hS0, hT0⟩; have hq0 := hT0.keep HX.out HQ.out (by decide) (by decide); have HS0 := Zq.mk hS0; have HT0 := Zq.mk (HT.out.trans hT0); have HQ0 := Zq.mk hq0; have p0 := HF.out _ hS0; obtain ⟨q0, q1, q2, q3, q4, q5, q6, q7⟩ := zau hq0; clear hS0 hT0 hq0 HM0 HX HT HQ HF)
    | (go_at_call 66; refine (HLo.out _ HS0.out).mono ?_; rintro el wl ⟨rfl, rfl⟩; clear HLo)
    | (go_at_call 104; refine (HB.out _ HS0.out.bel).mono ?_; rintro e1 w1 ⟨rfl, hb1⟩; have HS1 := Zq.mk (HS0.out.below hb1); have HT1 := Zq.mk (HT0.out.below HS0.out.lt hb1); have hq1 := (hb1.block _ (zat HQ0.out)).trans HQ0.out; have HQ1 := Zq.mk hq1; clear q0 q1 q2 q3 q4 q5 q6 q7 p0; obtain ⟨q0, q1, q2, q3, q4, q5, q6, q7⟩ := zau hq1; clear hb1 hq1 HB HS0 HT0 HQ0)
    | (go_at_call 65; refine (HM1.out _ _ HS1.out).mono ?_; rintro e2 w2 ⟨rfl, hS2, hT2⟩; have hq2 := hT2.keep HS1.out HQ1.out (by decide) (by decide); have HT2 := Zq.mk (HT1.out.trans hT2); obtain ⟨_, _, _, _, p2, _⟩ := hS2.facts; have p3 : w2.cell? ⟨g, 2, none⟩ = some (.bool true) := (by simpa [PQ.must, HBAD.out] using p2); have HS2 := Zq.mk hS2; have HQ2 := Zq.mk hq2; clear q0 q1 q2 q3 q4 q5 q6 q7; obtain ⟨q0, q1, q2, q3, q4, q5, q6, q7⟩ := zau hq2; clear hS2 hT2 hq2 p2 HM1 HS1 HT1 HQ1))
   first | go_end0 | (refine bodyPost_ret (results_none rfl _ _ _) rfl ?_)
   exact ⟨rfl, HS2.out, HT2.out⟩
 ·have hbq : zba ⟨4, f1, f2, f3, f4, f5, f6, f7⟩ false false false false false true = false := by simpa using hbq
  have hsb : (zba ⟨4, f1, f2, f3, f4, f5, f6, f7⟩ false false false false false true && decide (f6.length = 1)) = false := by rw [hbq]; rfl
  rw [hsb, if_pos (by simp [PQ.must])]
  rw [hbq] at HB
  clear h hK hl hw hInv IH HA hat hwl hbl hb hlo g3 g4 g5 g6 l3 l4 l5 hsb hbq
  go_enter Tryz.func70, Tryz.ntmps70
  go_wp2_with (first
   | (go_at_call 65; refine (HM0.out _ HX.out).mono ?_; rintro e0 w0 ⟨rfl, hS0, hT0⟩; have hq0 := hT0.keep HX.out HQ.out (by decide) (by decide); have HS0 := Zq.mk hS0; have HT0 := Zq.mk (HT.out.trans hT0); have HQ0 := Zq.mk hq0; have p0 := HF.out _ hS0; obtain ⟨q0, q1, q2, q3, q4, q5, q6, q7⟩ := zau hq0; clear hS0 hT0 hq0 HM0 HX HT HQ HF)
   | (go_at_call 66; refine (HLo.out _ HS0.out).mono ?_; rintro el wl ⟨rfl, rfl⟩; clear HLo)
   | (go_at_call 104; refine (HB.out _ HS0.out.bel).mono ?_; rintro e1 w1 ⟨rfl, hb1⟩; have HS1 := Zq.mk (HS0.out.below hb1); have HT1 := Zq.mk (HT0.out.below HS0.out.lt hb1); have hq1 := (hb1.block _ (zat HQ0.out)).trans HQ0.out; have HQ1 := Zq.mk hq1; clear q0 q1 q2 q3 q4 q5 q6 q7 p0; obtain ⟨q0, q1, q2, q3, q4, q5, q6, q7⟩ := zau hq1; clear hb1 hq1 HB HS0 HT0 HQ0)
   | (go_at_call 65; refine (HM1.out _ _ HS1.out).mono ?_; rintro e2 w2 ⟨rfl, hS2, hT2⟩; have hq2 := hT2.keep HS1.out HQ1.out (by decide) (by decide); have HT2 := Zq.mk (HT1.out.trans hT2); obtain ⟨_, _, _, _, p2, _⟩ := hS2.facts; have p3 : w2.cell? ⟨g, 2, none⟩ = some (.bool true) := (by simpa [PQ.must, HBAD.out] using p2); have HS2 := Zq.mk hS2; have HQ2 := Zq.mk hq2; clear q0 q1 q2 q3 q4 q5 q6 q7; obtain ⟨q0, q1, q2, q3, q4, q5, q6, q7⟩ := zau hq2; clear hS2 hT2 hq2 p2 HM1 HS1 HT1 HQ1))
  first | go_end0 | (refine bodyPost_ret (results_none rfl _ _ _) rfl ?_)
  exact ⟨rfl, HS2.out, HT2.out⟩
theorem cond_and (hInv : Inv W0) (k : Nat) (hk : k ≤ 16) (IH : zke W0 g k) (f1 f2 : ByteArray) (f3 : List S47) (f4 : List S68) (f5 : List ByteArray) (f6 : List S60) (f7 : Int) (v : Value) (W : World) (s : PQ) (hA : zcu W0 ⟨5, f1, f2, f3, f4, f5, f6, f7⟩ v) (h : PrS W0 W g s) (hb : s.bad = false) (hlo : zds s = false) (hw : Wide (k + 1) ⟨5, f1, f2, f3, f4, f5, f6, f7⟩) (hl : s.out.length + zck (k + 1) ⟨5, f1, f2, f3, f4, f5, f6, f7⟩ ≤ 140737488351232) :
  Calls Tryz.prog 70 #[.pointer (some ⟨g, 0, none⟩), v, .int .i64 (16 - (k : Int))] W (PrE W0 W g (zbg (k + 1) ⟨5, f1, f2, f3, f4, f5, f6, f7⟩ s)) := by
 have HA := Zq.mk hA
 obtain ⟨cs, hK, rfl⟩ := hA
 have hO := zbo hK
 simp only at hO
 obtain ⟨A3, c3, A4, c4, A5, c5, A6, c6, rfl, l3, g3, l4, g4, l5, g5, l6, g6⟩ := hO
 have hg0 := h.lt
 have HX := Zq.mk (h.alloc (.cells #[.int .i64 5, .string f1, .string f2, .slice A3 f3.length c3, .slice A4 f4.length c4, .slice A5 f5.length c5, .slice A6 f6.length c6, .int .i64 f7] 60))
 have HT := Zq.mk ((Stp.refl W g).alloc hg0 (.cells #[.int .i64 5, .string f1, .string f2, .slice A3 f3.length c3, .slice A4 f4.length c4, .slice A5 f5.length c5, .slice A6 f6.length c6, .int .i64 f7] 60))
 have HQ := Zq.mk (heap_alloc_new W (.cells #[.int .i64 5, .string f1, .string f2, .slice A3 f3.length c3, .slice A4 f4.length c4, .slice A5 f5.length c5, .slice A6 f6.length c6, .int .i64 f7] 60))
 have HM0 := Zq.mk (show ∀ w, PrS W0 w g s → Calls Tryz.prog 65 #[.pointer (some ⟨g, 0, none⟩), .bool true] w (PrE W0 w g s) from fun w h => by have := zbe W0 w g s true h; rwa [zdv] at this)
 have HLo := Zq.mk (show ∀ w, PrS W0 w g s → Calls Tryz.prog 66 #[.pointer (some ⟨g, 0, none⟩)] w fun e w' => e = .returned (.bool false) ∧ w' = w from fun w h => by have := zcn W0 w g s h (by omega); rwa [show decide (8000 < s.out.length) = false from hlo] at this)
 have HF := Zq.mk (show ∀ w, PrS W0 w g s → w.cell? ⟨g, 2, none⟩ = some (.bool false) from fun w h => by obtain ⟨_, _, _, _, a2, _⟩ := h.facts; rwa [hb] at a2)
 have hbl : ¬ (s.bad || zds s) = true := by rw [hb, hlo]; decide
 have hk0 : (0 : Int) ≤ 16 - (k : Int) := by omega
 have hk1 : 16 - (k : Int) ≤ 16 := by omega
 have hat : zbg (k + 1) ⟨5, f1, f2, f3, f4, f5, f6, f7⟩ s = rowQ (zbg k) wAnd 2 ⟨5, f1, f2, f3, f4, f5, f6, f7⟩ s := by unfold zbg; rw [if_neg hbl, if_neg (show ¬ (5 : Int) = 1 from by decide), if_neg (show ¬ (5 : Int) = 2 from by decide), if_neg (show ¬ (5 : Int) = 3 from by decide), if_neg (show ¬ (5 : Int) = 4 from by decide), if_pos rfl]
 rw [hat]
 have hwl : s.out.length + 1000 + (f6.map fun y => zck k y + 10).sum ≤ 140737488351232 := by unfold zck at hl; dsimp only at hl; omega
 have hn6 : f6.length ≤ 140737488351232 := by have := ziy (zck k) f6; omega
 have HR := Zq.mk (fun w (h : PrS W0 w g s) => show Calls Tryz.prog 106 #[.pointer (some ⟨g, 0, none⟩), _, .string ⟨#[97, 110, 100]⟩, .int .i64 2, .int .i64 (16 - (k : Int))] w (PrE W0 w g (rowQ (zbg k) wAnd 2 ⟨5, f1, f2, f3, f4, f5, f6, f7⟩ s)) from zks W0 g k hk IH ⟨5, f1, f2, f3, f4, f5, f6, f7⟩ _ w s ⟨#[97, 110, 100]⟩ 2 HA.out h (fun y hy => hw.2 y hy) (by decide) hn6 (by show _ + (f6.map _).sum + 20 ≤ _; omega))
 generalize rowQ (zbg k) wAnd 2 ⟨5, f1, f2, f3, f4, f5, f6, f7⟩ s = sf at HR ⊢
 clear h hK hl hw hInv IH HA hat hwl hbl hb hlo g3 g4 g5 g6 l3 l4 l5 l6 hn6
 go_enter Tryz.func70, Tryz.ntmps70
 go_wp2_with (first
  | (go_at_call 65; refine (HM0.out _ HX.out).mono ?_; rintro e0 w0 ⟨rfl, hS0, hT0⟩; have hq0 := hT0.keep HX.out HQ.out (by decide) (by decide); have HS0 := Zq.mk hS0; have HT0 := Zq.mk (HT.out.trans hT0); have HQ0 := Zq.mk hq0; have p0 := HF.out _ hS0; obtain ⟨q0, q1, q2, q3, q4, q5, q6, q7⟩ := zau hq0; clear hS0 hT0 hq0 HM0 HX HT HQ HF)
  | (go_at_call 66; refine (HLo.out _ HS0.out).mono ?_; rintro el wl ⟨rfl, rfl⟩; clear HLo)
  | (go_at_call 106; refine (HR.out _ HS0.out).mono ?_; rintro e3 w3 ⟨rfl, hS3, hT3⟩))
 first | go_end0 | (refine bodyPost_ret (results_none rfl _ _ _) rfl ?_)
 exact ⟨rfl, hS3, HT0.out.trans hT3⟩
theorem cond_or (hInv : Inv W0) (k : Nat) (hk : k ≤ 16) (IH : zke W0 g k) (f1 f2 : ByteArray) (f3 : List S47) (f4 : List S68) (f5 : List ByteArray) (f6 : List S60) (f7 : Int) (v : Value) (W : World) (s : PQ) (hA : zcu W0 ⟨6, f1, f2, f3, f4, f5, f6, f7⟩ v) (h : PrS W0 W g s) (hb : s.bad = false) (hlo : zds s = false) (hw : Wide (k + 1) ⟨6, f1, f2, f3, f4, f5, f6, f7⟩) (hl : s.out.length + zck (k + 1) ⟨6, f1, f2, f3, f4, f5, f6, f7⟩ ≤ 140737488351232) :
  Calls Tryz.prog 70 #[.pointer (some ⟨g, 0, none⟩), v, .int .i64 (16 - (k : Int))] W (PrE W0 W g (zbg (k + 1) ⟨6, f1, f2, f3, f4, f5, f6, f7⟩ s)) := by
 have HA := Zq.mk hA
 obtain ⟨cs, hK, rfl⟩ := hA
 have hO := zbo hK
 simp only at hO
 obtain ⟨A3, c3, A4, c4, A5, c5, A6, c6, rfl, l3, g3, l4, g4, l5, g5, l6, g6⟩ := hO
 have hg0 := h.lt
 have HX := Zq.mk (h.alloc (.cells #[.int .i64 6, .string f1, .string f2, .slice A3 f3.length c3, .slice A4 f4.length c4, .slice A5 f5.length c5, .slice A6 f6.length c6, .int .i64 f7] 60))
 have HT := Zq.mk ((Stp.refl W g).alloc hg0 (.cells #[.int .i64 6, .string f1, .string f2, .slice A3 f3.length c3, .slice A4 f4.length c4, .slice A5 f5.length c5, .slice A6 f6.length c6, .int .i64 f7] 60))
 have HQ := Zq.mk (heap_alloc_new W (.cells #[.int .i64 6, .string f1, .string f2, .slice A3 f3.length c3, .slice A4 f4.length c4, .slice A5 f5.length c5, .slice A6 f6.length c6, .int .i64 f7] 60))
 have HM0 := Zq.mk (show ∀ w, PrS W0 w g s → Calls Tryz.prog 65 #[.pointer (some ⟨g, 0, none⟩), .bool true] w (PrE W0 w g s) from fun w h => by have := zbe W0 w g s true h; rwa [zdv] at this)
 have HLo := Zq.mk (show ∀ w, PrS W0 w g s → Calls Tryz.prog 66 #[.pointer (some ⟨g, 0, none⟩)] w fun e w' => e = .returned (.bool false) ∧ w' = w from fun w h => by have := zcn W0 w g s h (by omega); rwa [show decide (8000 < s.out.length) = false from hlo] at this)
 have HF := Zq.mk (show ∀ w, PrS W0 w g s → w.cell? ⟨g, 2, none⟩ = some (.bool false) from fun w h => by obtain ⟨_, _, _, _, a2, _⟩ := h.facts; rwa [hb] at a2)
 have hbl : ¬ (s.bad || zds s) = true := by rw [hb, hlo]; decide
 have hk0 : (0 : Int) ≤ 16 - (k : Int) := by omega
 have hk1 : 16 - (k : Int) ≤ 16 := by omega
 have hat : zbg (k + 1) ⟨6, f1, f2, f3, f4, f5, f6, f7⟩ s = rowQ (zbg k) wOr 1 ⟨6, f1, f2, f3, f4, f5, f6, f7⟩ s := by unfold zbg; rw [if_neg hbl, if_neg (show ¬ (6 : Int) = 1 from by decide), if_neg (show ¬ (6 : Int) = 2 from by decide), if_neg (show ¬ (6 : Int) = 3 from by decide), if_neg (show ¬ (6 : Int) = 4 from by decide), if_neg (show ¬ (6 : Int) = 5 from by decide), if_pos rfl]
 rw [hat]
 have hwl : s.out.length + 1000 + (f6.map fun y => zck k y + 10).sum ≤ 140737488351232 := by unfold zck at hl; dsimp only at hl; omega
 have hn6 : f6.length ≤ 140737488351232 := by have := ziy (zck k) f6; omega
 have HR := Zq.mk (fun w (h : PrS W0 w g s) => show Calls Tryz.prog 106 #[.pointer (some ⟨g, 0, none⟩), _, .string ⟨#[111, 114]⟩, .int .i64 1, .int .i64 (16 - (k : Int))] w (PrE W0 w g (rowQ (zbg k) wOr 1 ⟨6, f1, f2, f3, f4, f5, f6, f7⟩ s)) from zks W0 g k hk IH ⟨6, f1, f2, f3, f4, f5, f6, f7⟩ _ w s ⟨#[111, 114]⟩ 1 HA.out h (fun y hy => hw.2 y hy) (by decide) hn6 (by show _ + (f6.map _).sum + 20 ≤ _; omega))
 generalize rowQ (zbg k) wOr 1 ⟨6, f1, f2, f3, f4, f5, f6, f7⟩ s = sf at HR ⊢
 clear h hK hl hw hInv IH HA hat hwl hbl hb hlo g3 g4 g5 g6 l3 l4 l5 l6 hn6
 go_enter Tryz.func70, Tryz.ntmps70
 go_wp2_with (first
  | (go_at_call 65; refine (HM0.out _ HX.out).mono ?_; rintro e0 w0 ⟨rfl, hS0, hT0⟩; have hq0 := hT0.keep HX.out HQ.out (by decide) (by decide); have HS0 := Zq.mk hS0; have HT0 := Zq.mk (HT.out.trans hT0); have HQ0 := Zq.mk hq0; have p0 := HF.out _ hS0; obtain ⟨q0, q1, q2, q3, q4, q5, q6, q7⟩ := zau hq0; clear hS0 hT0 hq0 HM0 HX HT HQ HF)
  | (go_at_call 66; refine (HLo.out _ HS0.out).mono ?_; rintro el wl ⟨rfl, rfl⟩; clear HLo)
  | (go_at_call 106; refine (HR.out _ HS0.out).mono ?_; rintro e3 w3 ⟨rfl, hS3, hT3⟩))
 first | go_end0 | (refine bodyPost_ret (results_none rfl _ _ _) rfl ?_)
 exact ⟨rfl, hS3, HT0.out.trans hT3⟩
theorem cond_atom (hInv : Inv W0) (k : Nat) (hk : k ≤ 16) (IH : zke W0 g k) (f0 : Int) (f1 f2 : ByteArray) (f3 : List S47) (f4 : List S68) (f5 : List ByteArray) (f6 : List S60) (f7 : Int) (n1 : ¬ f0 = 1) (n2 : ¬ f0 = 2) (n3 : ¬ f0 = 3) (n4 : ¬ f0 = 4) (n5 : ¬ f0 = 5) (n6 : ¬ f0 = 6) (v : Value) (W : World) (s : PQ) (hA : zcu W0 ⟨f0, f1, f2, f3, f4, f5, f6, f7⟩ v) (h : PrS W0 W g s) (hb : s.bad = false) (hlo : zds s = false) (hw : Wide (k + 1) ⟨f0, f1, f2, f3, f4, f5, f6, f7⟩) (hl : s.out.length + zck (k + 1) ⟨f0, f1, f2, f3, f4, f5, f6, f7⟩ ≤ 140737488351232) :
  Calls Tryz.prog 70 #[.pointer (some ⟨g, 0, none⟩), v, .int .i64 (16 - (k : Int))] W (PrE W0 W g (zbg (k + 1) ⟨f0, f1, f2, f3, f4, f5, f6, f7⟩ s)) := by
 have HA := Zq.mk hA
 obtain ⟨cs, hK, rfl⟩ := hA
 have hO := zbo hK
 simp only at hO
 obtain ⟨A3, c3, A4, c4, A5, c5, A6, c6, rfl, l3, g3, l4, g4, l5, g5, l6, g6⟩ := hO
 have hg0 := h.lt
 have HX := Zq.mk (h.alloc (.cells #[.int .i64 f0, .string f1, .string f2, .slice A3 f3.length c3, .slice A4 f4.length c4, .slice A5 f5.length c5, .slice A6 f6.length c6, .int .i64 f7] 60))
 have HT := Zq.mk ((Stp.refl W g).alloc hg0 (.cells #[.int .i64 f0, .string f1, .string f2, .slice A3 f3.length c3, .slice A4 f4.length c4, .slice A5 f5.length c5, .slice A6 f6.length c6, .int .i64 f7] 60))
 have HQ := Zq.mk (heap_alloc_new W (.cells #[.int .i64 f0, .string f1, .string f2, .slice A3 f3.length c3, .slice A4 f4.length c4, .slice A5 f5.length c5, .slice A6 f6.length c6, .int .i64 f7] 60))
 have HM0 := Zq.mk (show ∀ w, PrS W0 w g s → Calls Tryz.prog 65 #[.pointer (some ⟨g, 0, none⟩), .bool true] w (PrE W0 w g s) from fun w h => by have := zbe W0 w g s true h; rwa [zdv] at this)
 have HLo := Zq.mk (show ∀ w, PrS W0 w g s → Calls Tryz.prog 66 #[.pointer (some ⟨g, 0, none⟩)] w fun e w' => e = .returned (.bool false) ∧ w' = w from fun w h => by have := zcn W0 w g s h (by omega); rwa [show decide (8000 < s.out.length) = false from hlo] at this)
 have HF := Zq.mk (show ∀ w, PrS W0 w g s → w.cell? ⟨g, 2, none⟩ = some (.bool false) from fun w h => by obtain ⟨_, _, _, _, a2, _⟩ := h.facts; rwa [hb] at a2)
 have hbl : ¬ (s.bad || zds s) = true := by rw [hb, hlo]; decide
 have hk0 : (0 : Int) ≤ 16 - (k : Int) := by omega
 have hk1 : 16 - (k : Int) ≤ 16 := by omega
 have hat : zbg (k + 1) ⟨f0, f1, f2, f3, f4, f5, f6, f7⟩ s = zfa ⟨f0, f1, f2, f3, f4, f5, f6, f7⟩ s := by unfold zbg; rw [if_neg hbl, if_neg n1, if_neg n2, if_neg n3, if_neg n4, if_neg n5, if_neg n6]
 rw [hat]
 have hwl : s.out.length + 1000 + 30 * f3.length + 90 * f4.length + (f5.map fun t => t.size + 10).sum ≤ 140737488351232 := by unfold zck at hl; dsimp only at hl; omega
 have HR := Zq.mk (fun w (h : PrS W0 w g s) => atom_calls W0 w g s ⟨f0, f1, f2, f3, f4, f5, f6, f7⟩ _ hInv HA.out h hw.1 hwl)
 generalize zfa ⟨f0, f1, f2, f3, f4, f5, f6, f7⟩ s = sf at HR ⊢
 clear h hK hl hw hInv IH HA hat hwl hbl hb hlo g3 g4 g5 g6 l3 l4 l5 l6
 go_enter Tryz.func70, Tryz.ntmps70
 go_wp2_with (first
  | (go_at_call 65; refine (HM0.out _ HX.out).mono ?_; rintro e0 w0 ⟨rfl, hS0, hT0⟩; have hq0 := hT0.keep HX.out HQ.out (by decide) (by decide); have HS0 := Zq.mk hS0; have HT0 := Zq.mk (HT.out.trans hT0); have HQ0 := Zq.mk hq0; have p0 := HF.out _ hS0; obtain ⟨q0, q1, q2, q3, q4, q5, q6, q7⟩ := zau hq0; clear hS0 hT0 hq0 HM0 HX HT HQ HF)
  | (go_at_call 66; refine (HLo.out _ HS0.out).mono ?_; rintro el wl ⟨rfl, rfl⟩; clear HLo)
  | (go_at_call 107; refine (HR.out _ HS0.out).mono ?_; rintro e3 w3 ⟨rfl, hS3, hT3⟩))
 first | go_end0 | (refine bodyPost_ret (results_none rfl _ _ _) rfl ?_)
 exact ⟨rfl, hS3, HT0.out.trans hT3⟩
theorem znc (d : Int) (hd : d ≤ 17) (hd0 : 0 ≤ d) (x : S60) (v : Value) (W : World) (s : PQ) (hA : zcu W0 x v) (h : PrS W0 W g s) (hl : s.out.length ≤ 140737488351232) (hs : (s.must (decide (d ≤ 16))).bad = true ∨ zds s = true) :
  Calls Tryz.prog 70 #[.pointer (some ⟨g, 0, none⟩), v, .int .i64 d] W (PrE W0 W g (s.must (decide (d ≤ 16)))) := by
 obtain ⟨cs, hK, rfl⟩ := hA
 obtain ⟨A3, c3, A4, c4, A5, c5, A6, c6, rfl, -⟩ := zbo hK
 have hg0 := h.lt
 have HX := Zq.mk (h.alloc (.cells #[.int .i64 x.f0, .string x.f1, .string x.f2, .slice A3 x.f3.length c3, .slice A4 x.f4.length c4, .slice A5 x.f5.length c5, .slice A6 x.f6.length c6, .int .i64 x.f7] 60))
 have HT := Zq.mk ((Stp.refl W g).alloc hg0 (.cells #[.int .i64 x.f0, .string x.f1, .string x.f2, .slice A3 x.f3.length c3, .slice A4 x.f4.length c4, .slice A5 x.f5.length c5, .slice A6 x.f6.length c6, .int .i64 x.f7] 60))
 have HM0 := Zq.mk (fun w b (hb : b = decide (d ≤ 16)) (h : PrS W0 w g s) => show Calls Tryz.prog 65 #[.pointer (some ⟨g, 0, none⟩), .bool b] w (PrE W0 w g (s.must (decide (d ≤ 16)))) from hb ▸ zbe W0 w g s _ h)
 have HF := Zq.mk (fun w (h : PrS W0 w g (s.must (decide (d ≤ 16)))) => show w.cell? ⟨g, 2, none⟩ = some (.bool (s.must (decide (d ≤ 16))).bad) from by obtain ⟨_, _, _, _, a2, _⟩ := h.facts; exact a2)
 have HLo := Zq.mk (fun w (h : PrS W0 w g (s.must (decide (d ≤ 16)))) => zcn W0 w g _ h (by rw [zbc]; omega))
 have hlq : zds (s.must (decide (d ≤ 16))) = zds s := rfl
 clear h hK
 by_cases hb : (s.must (decide (d ≤ 16))).bad = true
 ·rw [hb] at HF
  clear hs hlq hl HLo
  generalize s.must (decide (d ≤ 16)) = s1 at HM0 HF hb ⊢
  clear hb
  by_cases h16 : d ≤ 16
  ·have hdd : decide (d ≤ 16) = true := by simpa using h16
   rw [hdd] at HM0
   clear hdd
   go_enter Tryz.func70, Tryz.ntmps70
   go_wp2_with (go_at_call 65; refine (HM0.out _ _ rfl HX.out).mono ?_; rintro e0 w0 ⟨rfl, hS0, hT0⟩; have p0 := HF.out _ hS0; have HS0 := Zq.mk hS0; have HT0 := Zq.mk (HT.out.trans hT0); clear hS0 hT0)
   first | go_end0 | (refine bodyPost_ret (results_none rfl _ _ _) rfl ?_)
   exact ⟨rfl, HS0.out, HT0.out⟩
  ·have hdd : decide (d ≤ 16) = false := by simpa using h16
   rw [hdd] at HM0
   clear hdd
   go_enter Tryz.func70, Tryz.ntmps70
   go_wp2_with (go_at_call 65; refine (HM0.out _ _ rfl HX.out).mono ?_; rintro e0 w0 ⟨rfl, hS0, hT0⟩; have p0 := HF.out _ hS0; have HS0 := Zq.mk hS0; have HT0 := Zq.mk (HT.out.trans hT0); clear hS0 hT0)
   first | go_end0 | (refine bodyPost_ret (results_none rfl _ _ _) rfl ?_)
   exact ⟨rfl, HS0.out, HT0.out⟩
 ·have hb : (s.must (decide (d ≤ 16))).bad = false := by simpa using hb
  have hlo : zds s = true := by
   rcases hs with h | h
   ·rw [h] at hb; cases hb
   ·exact h
  rw [hb] at HF
  rw [← hlq] at hlo
  have HLo := Zq.mk (show ∀ w, PrS W0 w g (s.must (decide (d ≤ 16))) → Calls Tryz.prog 66 #[.pointer (some ⟨g, 0, none⟩)] w fun e w' => e = .returned (.bool true) ∧ w' = w from fun w h => by have := HLo.out w h; rwa [show decide (8000 < (s.must (decide (d ≤ 16))).out.length) = true from hlo] at this)
  have h16 : d ≤ 16 := by
   by_cases h : d ≤ 16
   ·exact h
   ·rw [show decide (d ≤ 16) = false by simpa using h] at hb
    simp [PQ.must] at hb
  have hdd : decide (d ≤ 16) = true := by simpa using h16
  rw [hdd] at HM0 HF HLo ⊢
  clear hs hlq hl hlo hb hdd
  generalize s.must true = s1 at HM0 HF HLo ⊢
  go_enter Tryz.func70, Tryz.ntmps70
  go_wp2_with (first
   | (go_at_call 65; refine (HM0.out _ _ rfl HX.out).mono ?_; rintro e0 w0 ⟨rfl, hS0, hT0⟩; have p0 := HF.out _ hS0; have HS0 := Zq.mk hS0; have HT0 := Zq.mk (HT.out.trans hT0); clear hS0 hT0)
   | (go_at_call 66; refine (HLo.out _ HS0.out).mono ?_; rintro el wl ⟨rfl, rfl⟩))
  first | go_end0 | (refine bodyPost_ret (results_none rfl _ _ _) rfl ?_)
  exact ⟨rfl, HS0.out, HT0.out⟩
theorem ziv (hInv : Inv W0) : ∀ k, k ≤ 17 → zke W0 g k
 | 0, _ => by
  intro x v W s hA h hw hl
  have := znc W0 g 17 (by omega) (by omega) x v W s hA h (by unfold zck at hl; omega) (.inl (by simp [PQ.must]))
  exact this
 | k + 1, hk => by
  have IH := ziv hInv k (by omega)
  intro x v W s hA h hw hl
  have e : (17 : Int) - ((k + 1 : Nat) : Int) = 16 - (k : Int) := by omega
  rw [e]
  by_cases hb : (s.bad || zds s) = true
  ·have hc : zbg (k + 1) x s = s := by unfold zbg; rw [if_pos hb]
   have h1 := znc W0 g (16 - (k : Int)) (by omega) (by omega) x v W s hA h (by omega) (by
    rw [Bool.or_eq_true] at hb
    rcases hb with hb | hb
    ·exact .inl (by simp [PQ.must, hb])
    ·exact .inr hb)
   rw [show decide (16 - (k : Int) ≤ 16) = true by simp; omega, zdv] at h1
   rwa [hc]
  ·have hb0 : s.bad = false := by
    cases h : s.bad with
    | false => rfl
    | true => rw [h] at hb; exact absurd rfl hb
   have hlo : zds s = false := by
    cases h : zds s with
    | false => rfl
    | true => rw [h, Bool.or_true] at hb; exact absurd rfl hb
   obtain ⟨f0, f1, f2, f3, f4, f5, f6, f7⟩ := x
   by_cases h1 : f0 = 1
   ·subst h1; exact cond_true W0 g hInv k (by omega) IH f1 f2 f3 f4 f5 f6 f7 v W s hA h hb0 hlo hw hl
   by_cases h2 : f0 = 2
   ·subst h2; exact cond_false W0 g hInv k (by omega) IH f1 f2 f3 f4 f5 f6 f7 v W s hA h hb0 hlo hw hl
   by_cases h3 : f0 = 3
   ·subst h3; exact cond_name W0 g hInv k (by omega) IH f1 f2 f3 f4 f5 f6 f7 v W s hA h hb0 hlo hw hl
   by_cases h4 : f0 = 4
   ·subst h4; exact cond_not W0 g hInv k (by omega) IH f1 f2 f3 f4 f5 f6 f7 v W s hA h hb0 hlo hw hl
   by_cases h5 : f0 = 5
   ·subst h5; exact cond_and W0 g hInv k (by omega) IH f1 f2 f3 f4 f5 f6 f7 v W s hA h hb0 hlo hw hl
   by_cases h6 : f0 = 6
   ·subst h6; exact cond_or W0 g hInv k (by omega) IH f1 f2 f3 f4 f5 f6 f7 v W s hA h hb0 hlo hw hl
   exact cond_atom W0 g hInv k (by omega) IH f0 f1 f2 f3 f4 f5 f6 f7 h1 h2 h3 h4 h5 h6 v W s hA h hb0 hlo hw hl
end
end
end Go.Proofs.YtjeekocidaogoaaGreatDoor.H

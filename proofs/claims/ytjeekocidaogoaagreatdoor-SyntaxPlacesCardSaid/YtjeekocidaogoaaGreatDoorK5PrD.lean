/- The printer on conditions without parts. -/
import Derived.Test.YtjeekocidaogoaaGreatDoorK5Sa0
set_option linter.unusedVariables false
set_option linter.unusedSimpArgs false
set_option maxRecDepth 100000
set_option maxHeartbeats 8000000
namespace Go.Proofs.YtjeekocidaogoaaGreatDoor.H
open Go.RowKit Go.Proofs.YtjeekocidaogoaaGreatDoor.Hand Go.Proofs.YtjeekocidaogoaaGreatDoorW.PrintWords Go.Proofs.YtjeekocidaogoaaGreatDoorW.PrintLast Go.Proofs.YtjeekocidaogoaaGreatDoorW.PrintMore
section
theorem zjj (a p : Int) (s : PQ) : (zjk a p s).out.length ≤ s.out.length + 19 := by
 have hq1 : (zdu a p).1.length ≤ 19 := by
  unfold zdu
  split
  ·rename_i hc
   have hp : 0 ≤ p ∧ p ≤ 32 := by
    unfold addr_right.f at hc
    split at hc
    ·rename_i h2; exact ⟨h2.1, h2.2.1⟩
    ·simp at hc
   have h1 := zfy a
   have h2 := zdz hp.1 (by omega)
   simp
   omega
  ·simp
 have hq2 : (zet a).1.length ≤ 15 := by
  unfold zet
  split
  ·simp
  ·exact zfy a
 unfold zjk
 split
 ·rw [zbm, zbc, zbc]; omega
 ·rw [zbm, zbc]; omega
theorem zkt (lo hi : Int) (s : PQ) (l0 : -9223372036854775808 ≤ lo) (l1 : lo ≤ 9223372036854775807) (h0 : -9223372036854775808 ≤ hi) (h1 : hi ≤ 9223372036854775807) : (zmu lo hi s).out.length ≤ s.out.length + 43 := by
 have hz1 := Lib.itoa_length_le lo l0 l1
 have hz2 := Lib.itoa_length_le hi h0 h1
 unfold zmu
 split
 ·rw [zbm, zbc]; omega
 ·rw [zbm, zbm, zbc, List.length_cons]; omega
theorem zjo (t : ByteArray) (s : PQ) : (zls t s).out.length ≤ s.out.length + t.size + 1 := by
 have := zbx (bl t) ((s.must (decide (1 ≤ t.size) && decide (t.size ≤ 16))).must ((bl t).all fun b => decide (65 ≤ b.toNat) && decide (b.toNat ≤ 90)))
 rw [zbj, zbc, zbc] at this
 exact this
theorem zdg (t : ByteArray) (s : PQ) : (zbv t s).out.length ≤ s.out.length + 402 := by
 have := zkr t
 unfold zbv
 rw [zbm, zbc, zbj]
 omega
theorem zhq (l : List ByteArray) : 10 * l.length ≤ (l.map fun t => t.size + 10).sum := by
 induction l with
 | nil => simp
 | cons a l ih => simp only [List.map_cons, List.sum_cons, List.length_cons]; omega
theorem zau {w : World} {q : Nat} {v0 v1 v2 v3 v4 v5 v6 v7 : Value} (h : w.heap[q]? = some (.cells #[v0, v1, v2, v3, v4, v5, v6, v7] 60 (0, 0))) :
  w.cell? ⟨q, 0, none⟩ = some v0 ∧ w.cell? ⟨q, 1, none⟩ = some v1 ∧ w.cell? ⟨q, 2, none⟩ = some v2 ∧ w.cell? ⟨q, 3, none⟩ = some v3 ∧ w.cell? ⟨q, 4, none⟩ = some v4 ∧ w.cell? ⟨q, 5, none⟩ = some v5 ∧ w.cell? ⟨q, 6, none⟩ = some v6 ∧ w.cell? ⟨q, 7, none⟩ = some v7 :=
 ⟨zae h 0, zae h 1, zae h 2, zae h 3, zae h 4, zae h 5, zae h 6, zae h 7⟩
def zmf (l : List S68) : Prop := ∀ p ∈ l, (-9223372036854775808 ≤ p.f0 ∧ p.f0 ≤ 9223372036854775807) ∧ (-9223372036854775808 ≤ p.f1 ∧ p.f1 ≤ 9223372036854775807)
theorem zgz (l : List ByteArray) (i : Nat) (h : i < l.length) : ((l.drop i).map fun t => t.size + 10).sum = (l.getD i ⟨#[]⟩).size + 10 + ((l.drop (i + 1)).map fun t => t.size + 10).sum := by
 rw [List.drop_eq_getElem_cons h, List.getD_eq_getElem?_getD, List.getElem?_eq_getElem h]
 simp only [List.map_cons, List.sum_cons, Option.getD_some]
theorem atom_addr (W0 W : World) (g : Nat) (s : PQ) (f1 f2 : ByteArray) (f3 : List S47) (f4 : List S68) (f5 : List ByteArray) (f6 : List S60) (f7 : Int) (v : Value) (hInv : Inv W0) (hA : zcu W0 ⟨7, f1, f2, f3, f4, f5, f6, f7⟩ v) (h : PrS W0 W g s) (hw : zmf f4)
  (hl : s.out.length + 1000 + 30 * f3.length + 90 * f4.length + (f5.map fun t => t.size + 10).sum ≤ 140737488351232) :
  Calls Tryz.prog 107 #[.pointer (some ⟨g, 0, none⟩), v] W (PrE W0 W g (zfa ⟨7, f1, f2, f3, f4, f5, f6, f7⟩ s)) := by
 have hn5 : f5.length ≤ 140737488351232 := by have := zhq f5; omega
 obtain ⟨cs, hK, rfl⟩ := hA
 have hO := zbo hK
 simp only at hO
 obtain ⟨A3, c3, A4, c4, A5, c5, A6, c6, rfl, l3, g3, l4, g4, l5, g5, l6, g6⟩ := hO
 have HA := Zq.mk (show zcu W0 _ _ from ⟨_, hK, rfl⟩)
 clear hK
 have hg0 := h.lt
 have HX := Zq.mk ((h.alloc (.cells #[.pointer (some ⟨g, 0, none⟩)] 114)).alloc (.cells #[.int .i64 7, .string f1, .string f2, .slice A3 f3.length c3, .slice A4 f4.length c4, .slice A5 f5.length c5, .slice A6 f6.length c6, .int .i64 f7] 60))
 have HT := Zq.mk (((Stp.refl W g).alloc hg0 (.cells #[.pointer (some ⟨g, 0, none⟩)] 114)).alloc (by rw [World.size_alloc]; omega) (.cells #[.int .i64 7, .string f1, .string f2, .slice A3 f3.length c3, .slice A4 f4.length c4, .slice A5 f5.length c5, .slice A6 f6.length c6, .int .i64 f7] 60))
 have HR := Zq.mk (zad (heap_alloc_new W (.cells #[.pointer (some ⟨g, 0, none⟩)] 114)) (.cells #[.int .i64 7, .string f1, .string f2, .slice A3 f3.length c3, .slice A4 f4.length c4, .slice A5 f5.length c5, .slice A6 f6.length c6, .int .i64 f7] 60))
 have HQ := Zq.mk (show ((W.alloc (.cells #[.pointer (some ⟨g, 0, none⟩)] 114)).alloc (.cells #[.int .i64 7, .string f1, .string f2, .slice A3 f3.length c3, .slice A4 f4.length c4, .slice A5 f5.length c5, .slice A6 f6.length c6, .int .i64 f7] 60)).heap[W.heap.size + 1]? = some (.cells #[.int .i64 7, .string f1, .string f2, .slice A3 f3.length c3, .slice A4 f4.length c4, .slice A5 f5.length c5, .slice A6 f6.length c6, .int .i64 f7] 60 (0, 0)) from by have := heap_alloc_new (W.alloc (.cells #[.pointer (some ⟨g, 0, none⟩)] 114)) (.cells #[.int .i64 7, .string f1, .string f2, .slice A3 f3.length c3, .slice A4 f4.length c4, .slice A5 f5.length c5, .slice A6 f6.length c6, .int .i64 f7] 60); rw [World.size_alloc] at this; exact this)
 have HB := Zq.mk (fun w (h : Below W0.heap.size W0 w) => zct w _ _ (HA.out.below h) false false true false false false)
 have HM := Zq.mk (fun w (h : PrS W0 w g s) => zbe W0 w g s (zba ⟨7, f1, f2, f3, f4, f5, f6, f7⟩ false false true false false false) h)
 have hat : zfa ⟨7, f1, f2, f3, f4, f5, f6, f7⟩ s = zjq ((⟨#[97, 100, 100, 114]⟩ : ByteArray).data.toList) f3.length (zot ⟨7, f1, f2, f3, f4, f5, f6, f7⟩) (s.must (zba ⟨7, f1, f2, f3, f4, f5, f6, f7⟩ false false true false false false)) := rfl
 rw [hat]
 have HL := Zq.mk (fun w (h : PrS W0 w g (s.must (zba ⟨7, f1, f2, f3, f4, f5, f6, f7⟩ false false true false false false))) (hr : w.heap[W.heap.size]? = some (.cells #[.pointer (some ⟨g, 0, none⟩)] 114 (0, 0))) (hq : w.heap[W.heap.size + 1]? = some (.cells #[.int .i64 7, .string f1, .string f2, .slice A3 f3.length c3, .slice A4 f4.length c4, .slice A5 f5.length c5, .slice A6 f6.length c6, .int .i64 f7] 60 (0, 0))) =>
  zgn W0 w g _ ⟨#[97, 100, 100, 114]⟩ f3.length 135 (.pointer (some ⟨W.heap.size, 0, none⟩)) (.pointer (some ⟨W.heap.size + 1, 0, none⟩)) (zot ⟨7, f1, f2, f3, f4, f5, f6, f7⟩) (fun _ => 20) (fun i => (f3.length - i) * 21)
   (fun w => w.heap[W.heap.size]? = some (.cells #[.pointer (some ⟨g, 0, none⟩)] 114 (0, 0)) ∧ w.heap[W.heap.size + 1]? = some (.cells #[.int .i64 7, .string f1, .string f2, .slice A3 f3.length c3, .slice A4 f4.length c4, .slice A5 f5.length c5, .slice A6 f6.length c6, .int .i64 f7] 60 (0, 0)))
   (fun i w => by kernel_rfl)
   (fun w w' s hs hi ht => ⟨ht.keep hs hi.1 (by decide) (by decide), ht.keep hs hi.2 (by decide) (by decide)⟩)
   (fun i w s' hin hs hi hb => addr_clos W0 w g _ _ s' _ A3 c3 _ i hInv hs hi.1 hi.2 rfl g3 hin (by show f3.length ≤ _; omega) hb)
   (fun i s hin => Nat.le_trans (zjj _ _ _) (by omega)) (fun i hin => by omega) (by omega) h ⟨hr, hq⟩ (by rw [zbc]; show _ + 4 + 10 + _ ≤ _; first | omega | (simp only [List.drop_zero]; omega)))
 generalize zba ⟨7, f1, f2, f3, f4, f5, f6, f7⟩ false false true false false false = b at HB HM HL ⊢
 clear h hat hl hw g3 g4 g5 g6 hInv HA
 go_enter Tryz.func107, Tryz.ntmps107
 go_wp2
 go_region_law (first
  | (go_simp; go_at_call 104; refine (HB.out _ (by first | exact HX.out.bel | exact HX.out.drew.bel)).mono ?_; rintro e1 w1 ⟨rfl, hb0⟩; have hb1 : Below ((W.alloc (.cells #[.pointer (some ⟨g, 0, none⟩)] 114)).alloc (.cells #[.int .i64 7, .string f1, .string f2, .slice A3 f3.length c3, .slice A4 f4.length c4, .slice A5 f5.length c5, .slice A6 f6.length c6, .int .i64 f7] 60)).heap.size ((W.alloc (.cells #[.pointer (some ⟨g, 0, none⟩)] 114)).alloc (.cells #[.int .i64 7, .string f1, .string f2, .slice A3 f3.length c3, .slice A4 f4.length c4, .slice A5 f5.length c5, .slice A6 f6.length c6, .int .i64 f7] 60)) w1 := ⟨hb0.os, hb0.tape, hb0.output, hb0.size, hb0.block⟩; have HS1 := Zq.mk (HX.out.below hb1); have HT1 := Zq.mk (HT.out.below HX.out.lt hb1); have hr1 := (hb1.block _ (zat HR.out)).trans HR.out; have hq1 := (hb1.block _ (zat HQ.out)).trans HQ.out; have HR1 := Zq.mk hr1; have HQ1 := Zq.mk hq1; have m0 := zae hr1 0; obtain ⟨q0, q1, q2, q3, q4, q5, q6, q7⟩ := zau hq1; clear hb0 hb1 hr1 hq1 HX HR HQ)
  | (go_simp; go_at_call 65; refine (HM.out _ (by first | exact HS1.out | exact HS1.out.drew)).mono ?_; rintro e2 w2 ⟨rfl, hS2, hT0⟩; have hT2 := (show Stp w1 w2 g from by first | exact hT0 | exact hT0.undrew); have hr2 := hT2.keep HS1.out HR1.out (by decide) (by decide); have hq2 := hT2.keep HS1.out HQ1.out (by decide) (by decide); have HS2 := Zq.mk hS2; have HT2 := Zq.mk (HT1.out.trans hT2); have HR2 := Zq.mk hr2; have HQ2 := Zq.mk hq2; have n0 := zae hr2 0; obtain ⟨y0, y1, y2, y3, y4, y5, y6, y7⟩ := zau hq2; clear hS2 hT0 hT2 hr2 hq2 HS1 HT1 HR1 HQ1 HM HB))
 all_goals go_wp2_with (go_at_call 134; refine (HL.out _ HS2.out HR2.out HQ2.out).mono ?_; rintro e3 w3 ⟨rfl, hS3, hT3⟩)
 all_goals (first | go_end0 | (refine bodyPost_ret (results_none rfl _ _ _) rfl ?_))
 all_goals exact ⟨rfl, hS3, HT2.out.trans hT3⟩
theorem atom_port (W0 W : World) (g : Nat) (s : PQ) (f1 f2 : ByteArray) (f3 : List S47) (f4 : List S68) (f5 : List ByteArray) (f6 : List S60) (f7 : Int) (v : Value) (hInv : Inv W0) (hA : zcu W0 ⟨8, f1, f2, f3, f4, f5, f6, f7⟩ v) (h : PrS W0 W g s) (hw : zmf f4)
  (hl : s.out.length + 1000 + 30 * f3.length + 90 * f4.length + (f5.map fun t => t.size + 10).sum ≤ 140737488351232) :
  Calls Tryz.prog 107 #[.pointer (some ⟨g, 0, none⟩), v] W (PrE W0 W g (zfa ⟨8, f1, f2, f3, f4, f5, f6, f7⟩ s)) := by
 have hn5 : f5.length ≤ 140737488351232 := by have := zhq f5; omega
 obtain ⟨cs, hK, rfl⟩ := hA
 have hO := zbo hK
 simp only at hO
 obtain ⟨A3, c3, A4, c4, A5, c5, A6, c6, rfl, l3, g3, l4, g4, l5, g5, l6, g6⟩ := hO
 have HA := Zq.mk (show zcu W0 _ _ from ⟨_, hK, rfl⟩)
 clear hK
 have hg0 := h.lt
 have HX := Zq.mk ((h.alloc (.cells #[.pointer (some ⟨g, 0, none⟩)] 114)).alloc (.cells #[.int .i64 8, .string f1, .string f2, .slice A3 f3.length c3, .slice A4 f4.length c4, .slice A5 f5.length c5, .slice A6 f6.length c6, .int .i64 f7] 60))
 have HT := Zq.mk (((Stp.refl W g).alloc hg0 (.cells #[.pointer (some ⟨g, 0, none⟩)] 114)).alloc (by rw [World.size_alloc]; omega) (.cells #[.int .i64 8, .string f1, .string f2, .slice A3 f3.length c3, .slice A4 f4.length c4, .slice A5 f5.length c5, .slice A6 f6.length c6, .int .i64 f7] 60))
 have HR := Zq.mk (zad (heap_alloc_new W (.cells #[.pointer (some ⟨g, 0, none⟩)] 114)) (.cells #[.int .i64 8, .string f1, .string f2, .slice A3 f3.length c3, .slice A4 f4.length c4, .slice A5 f5.length c5, .slice A6 f6.length c6, .int .i64 f7] 60))
 have HQ := Zq.mk (show ((W.alloc (.cells #[.pointer (some ⟨g, 0, none⟩)] 114)).alloc (.cells #[.int .i64 8, .string f1, .string f2, .slice A3 f3.length c3, .slice A4 f4.length c4, .slice A5 f5.length c5, .slice A6 f6.length c6, .int .i64 f7] 60)).heap[W.heap.size + 1]? = some (.cells #[.int .i64 8, .string f1, .string f2, .slice A3 f3.length c3, .slice A4 f4.length c4, .slice A5 f5.length c5, .slice A6 f6.length c6, .int .i64 f7] 60 (0, 0)) from by have := heap_alloc_new (W.alloc (.cells #[.pointer (some ⟨g, 0, none⟩)] 114)) (.cells #[.int .i64 8, .string f1, .string f2, .slice A3 f3.length c3, .slice A4 f4.length c4, .slice A5 f5.length c5, .slice A6 f6.length c6, .int .i64 f7] 60); rw [World.size_alloc] at this; exact this)
 have HB := Zq.mk (fun w (h : Below W0.heap.size W0 w) => zct w _ _ (HA.out.below h) false false false true false false)
 have HM := Zq.mk (fun w (h : PrS W0 w g s) => zbe W0 w g s (zba ⟨8, f1, f2, f3, f4, f5, f6, f7⟩ false false false true false false) h)
 have hat : zfa ⟨8, f1, f2, f3, f4, f5, f6, f7⟩ s = zjq ((⟨#[112, 111, 114, 116]⟩ : ByteArray).data.toList) f4.length (zku ⟨8, f1, f2, f3, f4, f5, f6, f7⟩) (s.must (zba ⟨8, f1, f2, f3, f4, f5, f6, f7⟩ false false false true false false)) := rfl
 rw [hat]
 have HL := Zq.mk (fun w (h : PrS W0 w g (s.must (zba ⟨8, f1, f2, f3, f4, f5, f6, f7⟩ false false false true false false))) (hr : w.heap[W.heap.size]? = some (.cells #[.pointer (some ⟨g, 0, none⟩)] 114 (0, 0))) (hq : w.heap[W.heap.size + 1]? = some (.cells #[.int .i64 8, .string f1, .string f2, .slice A3 f3.length c3, .slice A4 f4.length c4, .slice A5 f5.length c5, .slice A6 f6.length c6, .int .i64 f7] 60 (0, 0))) =>
  zgn W0 w g _ ⟨#[112, 111, 114, 116]⟩ f4.length 137 (.pointer (some ⟨W.heap.size, 0, none⟩)) (.pointer (some ⟨W.heap.size + 1, 0, none⟩)) (zku ⟨8, f1, f2, f3, f4, f5, f6, f7⟩) (fun _ => 80) (fun i => (f4.length - i) * 81)
   (fun w => w.heap[W.heap.size]? = some (.cells #[.pointer (some ⟨g, 0, none⟩)] 114 (0, 0)) ∧ w.heap[W.heap.size + 1]? = some (.cells #[.int .i64 8, .string f1, .string f2, .slice A3 f3.length c3, .slice A4 f4.length c4, .slice A5 f5.length c5, .slice A6 f6.length c6, .int .i64 f7] 60 (0, 0)))
   (fun i w => by kernel_rfl)
   (fun w w' s hs hi ht => ⟨ht.keep hs hi.1 (by decide) (by decide), ht.keep hs hi.2 (by decide) (by decide)⟩)
   (fun i w s' hin hs hi hb => ports_clos W0 w g _ _ s' _ A4 c4 _ i hInv hs hi.1 hi.2 rfl g4 hin (by show f4.length ≤ _; omega) hw hb)
   (fun i s hin => by have hw1 := hw (f4.getD i z68) (by rw [List.getD_eq_getElem?_getD, List.getElem?_eq_getElem hin]; exact List.getElem_mem _); exact Nat.le_trans (zkt _ _ _ hw1.1.1 hw1.1.2 hw1.2.1 hw1.2.2) (by omega)) (fun i hin => by omega) (by omega) h ⟨hr, hq⟩ (by rw [zbc]; show _ + 4 + 10 + _ ≤ _; first | omega | (simp only [List.drop_zero]; omega)))
 generalize zba ⟨8, f1, f2, f3, f4, f5, f6, f7⟩ false false false true false false = b at HB HM HL ⊢
 clear h hat hl hw g3 g4 g5 g6 hInv HA
 go_enter Tryz.func107, Tryz.ntmps107
 go_wp2
 go_region_law (first
  | (go_simp; go_at_call 104; refine (HB.out _ (by first | exact HX.out.bel | exact HX.out.drew.bel)).mono ?_; rintro e1 w1 ⟨rfl, hb0⟩; have hb1 : Below ((W.alloc (.cells #[.pointer (some ⟨g, 0, none⟩)] 114)).alloc (.cells #[.int .i64 8, .string f1, .string f2, .slice A3 f3.length c3, .slice A4 f4.length c4, .slice A5 f5.length c5, .slice A6 f6.length c6, .int .i64 f7] 60)).heap.size ((W.alloc (.cells #[.pointer (some ⟨g, 0, none⟩)] 114)).alloc (.cells #[.int .i64 8, .string f1, .string f2, .slice A3 f3.length c3, .slice A4 f4.length c4, .slice A5 f5.length c5, .slice A6 f6.length c6, .int .i64 f7] 60)) w1 := ⟨hb0.os, hb0.tape, hb0.output, hb0.size, hb0.block⟩; have HS1 := Zq.mk (HX.out.below hb1); have HT1 := Zq.mk (HT.out.below HX.out.lt hb1); have hr1 := (hb1.block _ (zat HR.out)).trans HR.out; have hq1 := (hb1.block _ (zat HQ.out)).trans HQ.out; have HR1 := Zq.mk hr1; have HQ1 := Zq.mk hq1; have m0 := zae hr1 0; obtain ⟨q0, q1, q2, q3, q4, q5, q6, q7⟩ := zau hq1; clear hb0 hb1 hr1 hq1 HX HR HQ)
  | (go_simp; go_at_call 65; refine (HM.out _ (by first | exact HS1.out | exact HS1.out.drew)).mono ?_; rintro e2 w2 ⟨rfl, hS2, hT0⟩; have hT2 := (show Stp w1 w2 g from by first | exact hT0 | exact hT0.undrew); have hr2 := hT2.keep HS1.out HR1.out (by decide) (by decide); have hq2 := hT2.keep HS1.out HQ1.out (by decide) (by decide); have HS2 := Zq.mk hS2; have HT2 := Zq.mk (HT1.out.trans hT2); have HR2 := Zq.mk hr2; have HQ2 := Zq.mk hq2; have n0 := zae hr2 0; obtain ⟨y0, y1, y2, y3, y4, y5, y6, y7⟩ := zau hq2; clear hS2 hT0 hT2 hr2 hq2 HS1 HT1 HR1 HQ1 HM HB))
 all_goals go_wp2_with (go_at_call 134; refine (HL.out _ HS2.out HR2.out HQ2.out).mono ?_; rintro e3 w3 ⟨rfl, hS3, hT3⟩)
 all_goals (first | go_end0 | (refine bodyPost_ret (results_none rfl _ _ _) rfl ?_))
 all_goals exact ⟨rfl, hS3, HT2.out.trans hT3⟩
theorem atom_method (W0 W : World) (g : Nat) (s : PQ) (f1 f2 : ByteArray) (f3 : List S47) (f4 : List S68) (f5 : List ByteArray) (f6 : List S60) (f7 : Int) (v : Value) (hInv : Inv W0) (hA : zcu W0 ⟨9, f1, f2, f3, f4, f5, f6, f7⟩ v) (h : PrS W0 W g s) (hw : zmf f4)
  (hl : s.out.length + 1000 + 30 * f3.length + 90 * f4.length + (f5.map fun t => t.size + 10).sum ≤ 140737488351232) :
  Calls Tryz.prog 107 #[.pointer (some ⟨g, 0, none⟩), v] W (PrE W0 W g (zfa ⟨9, f1, f2, f3, f4, f5, f6, f7⟩ s)) := by
 have hn5 : f5.length ≤ 140737488351232 := by have := zhq f5; omega
 obtain ⟨cs, hK, rfl⟩ := hA
 have hO := zbo hK
 simp only at hO
 obtain ⟨A3, c3, A4, c4, A5, c5, A6, c6, rfl, l3, g3, l4, g4, l5, g5, l6, g6⟩ := hO
 have HA := Zq.mk (show zcu W0 _ _ from ⟨_, hK, rfl⟩)
 clear hK
 have hg0 := h.lt
 have HX := Zq.mk ((h.alloc (.cells #[.pointer (some ⟨g, 0, none⟩)] 114)).alloc (.cells #[.int .i64 9, .string f1, .string f2, .slice A3 f3.length c3, .slice A4 f4.length c4, .slice A5 f5.length c5, .slice A6 f6.length c6, .int .i64 f7] 60))
 have HT := Zq.mk (((Stp.refl W g).alloc hg0 (.cells #[.pointer (some ⟨g, 0, none⟩)] 114)).alloc (by rw [World.size_alloc]; omega) (.cells #[.int .i64 9, .string f1, .string f2, .slice A3 f3.length c3, .slice A4 f4.length c4, .slice A5 f5.length c5, .slice A6 f6.length c6, .int .i64 f7] 60))
 have HR := Zq.mk (zad (heap_alloc_new W (.cells #[.pointer (some ⟨g, 0, none⟩)] 114)) (.cells #[.int .i64 9, .string f1, .string f2, .slice A3 f3.length c3, .slice A4 f4.length c4, .slice A5 f5.length c5, .slice A6 f6.length c6, .int .i64 f7] 60))
 have HQ := Zq.mk (show ((W.alloc (.cells #[.pointer (some ⟨g, 0, none⟩)] 114)).alloc (.cells #[.int .i64 9, .string f1, .string f2, .slice A3 f3.length c3, .slice A4 f4.length c4, .slice A5 f5.length c5, .slice A6 f6.length c6, .int .i64 f7] 60)).heap[W.heap.size + 1]? = some (.cells #[.int .i64 9, .string f1, .string f2, .slice A3 f3.length c3, .slice A4 f4.length c4, .slice A5 f5.length c5, .slice A6 f6.length c6, .int .i64 f7] 60 (0, 0)) from by have := heap_alloc_new (W.alloc (.cells #[.pointer (some ⟨g, 0, none⟩)] 114)) (.cells #[.int .i64 9, .string f1, .string f2, .slice A3 f3.length c3, .slice A4 f4.length c4, .slice A5 f5.length c5, .slice A6 f6.length c6, .int .i64 f7] 60); rw [World.size_alloc] at this; exact this)
 have HB := Zq.mk (fun w (h : Below W0.heap.size W0 w) => zct w _ _ (HA.out.below h) false false false false true false)
 have HM := Zq.mk (fun w (h : PrS W0 w g s) => zbe W0 w g s (zba ⟨9, f1, f2, f3, f4, f5, f6, f7⟩ false false false false true false) h)
 have hat : zfa ⟨9, f1, f2, f3, f4, f5, f6, f7⟩ s = zjq ((⟨#[109, 101, 116, 104, 111, 100]⟩ : ByteArray).data.toList) f5.length (zht ⟨9, f1, f2, f3, f4, f5, f6, f7⟩) (s.must (zba ⟨9, f1, f2, f3, f4, f5, f6, f7⟩ false false false false true false)) := rfl
 rw [hat]
 have HL := Zq.mk (fun w (h : PrS W0 w g (s.must (zba ⟨9, f1, f2, f3, f4, f5, f6, f7⟩ false false false false true false))) (hr : w.heap[W.heap.size]? = some (.cells #[.pointer (some ⟨g, 0, none⟩)] 114 (0, 0))) (hq : w.heap[W.heap.size + 1]? = some (.cells #[.int .i64 9, .string f1, .string f2, .slice A3 f3.length c3, .slice A4 f4.length c4, .slice A5 f5.length c5, .slice A6 f6.length c6, .int .i64 f7] 60 (0, 0))) =>
  zgn W0 w g _ ⟨#[109, 101, 116, 104, 111, 100]⟩ f5.length 139 (.pointer (some ⟨W.heap.size, 0, none⟩)) (.pointer (some ⟨W.heap.size + 1, 0, none⟩)) (zht ⟨9, f1, f2, f3, f4, f5, f6, f7⟩) (fun i => (f5.getD i ⟨#[]⟩).size + 1) (fun i => ((f5.drop i).map fun t => t.size + 10).sum)
   (fun w => w.heap[W.heap.size]? = some (.cells #[.pointer (some ⟨g, 0, none⟩)] 114 (0, 0)) ∧ w.heap[W.heap.size + 1]? = some (.cells #[.int .i64 9, .string f1, .string f2, .slice A3 f3.length c3, .slice A4 f4.length c4, .slice A5 f5.length c5, .slice A6 f6.length c6, .int .i64 f7] 60 (0, 0)))
   (fun i w => by kernel_rfl)
   (fun w w' s hs hi ht => ⟨ht.keep hs hi.1 (by decide) (by decide), ht.keep hs hi.2 (by decide) (by decide)⟩)
   (fun i w s' hin hs hi hb => method_clos W0 w g _ _ s' _ A5 c5 _ i hInv hs hi.1 hi.2 rfl g5 hin hn5 (by rw [Nat.add_assoc]; exact hb))
   (fun i s hin => zjo _ _) (fun i hin => by rw [zgz f5 i hin]; omega) (by omega) h ⟨hr, hq⟩ (by rw [zbc]; show _ + 6 + 10 + _ ≤ _; first | omega | (simp only [List.drop_zero]; omega)))
 generalize zba ⟨9, f1, f2, f3, f4, f5, f6, f7⟩ false false false false true false = b at HB HM HL ⊢
 clear h hat hl hw g3 g4 g5 g6 hInv HA
 go_enter Tryz.func107, Tryz.ntmps107
 go_wp2
 go_region_law (first
  | (go_simp; go_at_call 104; refine (HB.out _ (by first | exact HX.out.bel | exact HX.out.drew.bel)).mono ?_; rintro e1 w1 ⟨rfl, hb0⟩; have hb1 : Below ((W.alloc (.cells #[.pointer (some ⟨g, 0, none⟩)] 114)).alloc (.cells #[.int .i64 9, .string f1, .string f2, .slice A3 f3.length c3, .slice A4 f4.length c4, .slice A5 f5.length c5, .slice A6 f6.length c6, .int .i64 f7] 60)).heap.size ((W.alloc (.cells #[.pointer (some ⟨g, 0, none⟩)] 114)).alloc (.cells #[.int .i64 9, .string f1, .string f2, .slice A3 f3.length c3, .slice A4 f4.length c4, .slice A5 f5.length c5, .slice A6 f6.length c6, .int .i64 f7] 60)) w1 := ⟨hb0.os, hb0.tape, hb0.output, hb0.size, hb0.block⟩; have HS1 := Zq.mk (HX.out.below hb1); have HT1 := Zq.mk (HT.out.below HX.out.lt hb1); have hr1 := (hb1.block _ (zat HR.out)).trans HR.out; have hq1 := (hb1.block _ (zat HQ.out)).trans HQ.out; have HR1 := Zq.mk hr1; have HQ1 := Zq.mk hq1; have m0 := zae hr1 0; obtain ⟨q0, q1, q2, q3, q4, q5, q6, q7⟩ := zau hq1; clear hb0 hb1 hr1 hq1 HX HR HQ)
  | (go_simp; go_at_call 65; refine (HM.out _ (by first | exact HS1.out | exact HS1.out.drew)).mono ?_; rintro e2 w2 ⟨rfl, hS2, hT0⟩; have hT2 := (show Stp w1 w2 g from by first | exact hT0 | exact hT0.undrew); have hr2 := hT2.keep HS1.out HR1.out (by decide) (by decide); have hq2 := hT2.keep HS1.out HQ1.out (by decide) (by decide); have HS2 := Zq.mk hS2; have HT2 := Zq.mk (HT1.out.trans hT2); have HR2 := Zq.mk hr2; have HQ2 := Zq.mk hq2; have n0 := zae hr2 0; obtain ⟨y0, y1, y2, y3, y4, y5, y6, y7⟩ := zau hq2; clear hS2 hT0 hT2 hr2 hq2 HS1 HT1 HR1 HQ1 HM HB))
 all_goals go_wp2_with (go_at_call 134; refine (HL.out _ HS2.out HR2.out HQ2.out).mono ?_; rintro e3 w3 ⟨rfl, hS3, hT3⟩)
 all_goals (first | go_end0 | (refine bodyPost_ret (results_none rfl _ _ _) rfl ?_))
 all_goals exact ⟨rfl, hS3, HT2.out.trans hT3⟩
theorem atom_path (W0 W : World) (g : Nat) (s : PQ) (f1 f2 : ByteArray) (f3 : List S47) (f4 : List S68) (f5 : List ByteArray) (f6 : List S60) (f7 : Int) (v : Value) (hInv : Inv W0) (hA : zcu W0 ⟨10, f1, f2, f3, f4, f5, f6, f7⟩ v) (h : PrS W0 W g s) (hw : zmf f4)
  (hl : s.out.length + 1000 + 30 * f3.length + 90 * f4.length + (f5.map fun t => t.size + 10).sum ≤ 140737488351232) :
  Calls Tryz.prog 107 #[.pointer (some ⟨g, 0, none⟩), v] W (PrE W0 W g (zfa ⟨10, f1, f2, f3, f4, f5, f6, f7⟩ s)) := by
 have hn5 : f5.length ≤ 140737488351232 := by have := zhq f5; omega
 obtain ⟨cs, hK, rfl⟩ := hA
 have hO := zbo hK
 simp only at hO
 obtain ⟨A3, c3, A4, c4, A5, c5, A6, c6, rfl, l3, g3, l4, g4, l5, g5, l6, g6⟩ := hO
 have HA := Zq.mk (show zcu W0 _ _ from ⟨_, hK, rfl⟩)
 clear hK
 have hg0 := h.lt
 have HX := Zq.mk ((h.alloc (.cells #[.pointer (some ⟨g, 0, none⟩)] 114)).alloc (.cells #[.int .i64 10, .string f1, .string f2, .slice A3 f3.length c3, .slice A4 f4.length c4, .slice A5 f5.length c5, .slice A6 f6.length c6, .int .i64 f7] 60))
 have HT := Zq.mk (((Stp.refl W g).alloc hg0 (.cells #[.pointer (some ⟨g, 0, none⟩)] 114)).alloc (by rw [World.size_alloc]; omega) (.cells #[.int .i64 10, .string f1, .string f2, .slice A3 f3.length c3, .slice A4 f4.length c4, .slice A5 f5.length c5, .slice A6 f6.length c6, .int .i64 f7] 60))
 have HR := Zq.mk (zad (heap_alloc_new W (.cells #[.pointer (some ⟨g, 0, none⟩)] 114)) (.cells #[.int .i64 10, .string f1, .string f2, .slice A3 f3.length c3, .slice A4 f4.length c4, .slice A5 f5.length c5, .slice A6 f6.length c6, .int .i64 f7] 60))
 have HQ := Zq.mk (show ((W.alloc (.cells #[.pointer (some ⟨g, 0, none⟩)] 114)).alloc (.cells #[.int .i64 10, .string f1, .string f2, .slice A3 f3.length c3, .slice A4 f4.length c4, .slice A5 f5.length c5, .slice A6 f6.length c6, .int .i64 f7] 60)).heap[W.heap.size + 1]? = some (.cells #[.int .i64 10, .string f1, .string f2, .slice A3 f3.length c3, .slice A4 f4.length c4, .slice A5 f5.length c5, .slice A6 f6.length c6, .int .i64 f7] 60 (0, 0)) from by have := heap_alloc_new (W.alloc (.cells #[.pointer (some ⟨g, 0, none⟩)] 114)) (.cells #[.int .i64 10, .string f1, .string f2, .slice A3 f3.length c3, .slice A4 f4.length c4, .slice A5 f5.length c5, .slice A6 f6.length c6, .int .i64 f7] 60); rw [World.size_alloc] at this; exact this)
 have HB := Zq.mk (fun w (h : Below W0.heap.size W0 w) => zct w _ _ (HA.out.below h) false true false false false false)
 have HM := Zq.mk (fun w (h : PrS W0 w g s) => zbe W0 w g s (zba ⟨10, f1, f2, f3, f4, f5, f6, f7⟩ false true false false false false) h)
 have hat : zfa ⟨10, f1, f2, f3, f4, f5, f6, f7⟩ s = zbv f2 (((s.must (zba ⟨10, f1, f2, f3, f4, f5, f6, f7⟩ false true false false false false)).one zgj).signs [126]) := rfl
 rw [hat]
 have z0 : (s.must (zba ⟨10, f1, f2, f3, f4, f5, f6, f7⟩ false true false false false false)).out.length = s.out.length := rfl
 have z1 : ((s.must (zba ⟨10, f1, f2, f3, f4, f5, f6, f7⟩ false true false false false false)).one zgj).out.length ≤ s.out.length + 5 := by have := zbx zgj (s.must (zba ⟨10, f1, f2, f3, f4, f5, f6, f7⟩ false true false false false false)); rw [z0] at this; exact this
 have z2 : (((s.must (zba ⟨10, f1, f2, f3, f4, f5, f6, f7⟩ false true false false false false)).one zgj).signs [126]).out.length ≤ s.out.length + 6 := by rw [zbm]; exact Nat.le_trans (Nat.add_le_add_right z1 1) (by omega)
 have z3 : (zbv f2 (((s.must (zba ⟨10, f1, f2, f3, f4, f5, f6, f7⟩ false true false false false false)).one zgj).signs [126])).out.length ≤ s.out.length + 408 := Nat.le_trans (zdg f2 _) (by omega)
 have HW := Zq.mk (fun w (h : PrS W0 w g (s.must (zba ⟨10, f1, f2, f3, f4, f5, f6, f7⟩ false true false false false false))) => zbs W0 w g _ ⟨#[112, 97, 116, 104]⟩ h (by rw [z0]; show _ + 4 + 1 ≤ _; omega))
 have H3 := Zq.mk (fun w (h : PrS W0 w g ((s.must (zba ⟨10, f1, f2, f3, f4, f5, f6, f7⟩ false true false false false false)).one zgj)) => zbp W0 w g _ ⟨#[126]⟩ h (by show _ + 1 ≤ _; omega))
 have H4 := Zq.mk (fun w (h : PrS W0 w g (((s.must (zba ⟨10, f1, f2, f3, f4, f5, f6, f7⟩ false true false false false false)).one zgj).signs [126])) => zew W0 w g _ f2 h (by omega))
 change Zq (∀ w, PrS W0 w g (s.must (zba ⟨10, f1, f2, f3, f4, f5, f6, f7⟩ false true false false false false)) → Calls Tryz.prog 67 #[.pointer (some ⟨g, 0, none⟩), .slice (some ⟨w.heap.size, 0, none⟩) 1 1] (w.alloc (.cells #[.string ⟨#[112, 97, 116, 104]⟩] 9)) (PrE W0 w g ((s.must (zba ⟨10, f1, f2, f3, f4, f5, f6, f7⟩ false true false false false false)).one zgj))) at HW
 change Zq (∀ w, PrS W0 w g ((s.must (zba ⟨10, f1, f2, f3, f4, f5, f6, f7⟩ false true false false false false)).one zgj) → Calls Tryz.prog 69 #[.pointer (some ⟨g, 0, none⟩), .string ⟨#[126]⟩] w (PrE W0 w g (((s.must (zba ⟨10, f1, f2, f3, f4, f5, f6, f7⟩ false true false false false false)).one zgj).signs [126]))) at H3
 clear hat hl hw g3 g4 g5 g6 hInv HA h z0 z1 z2 z3
 generalize zbv f2 (((s.must (zba ⟨10, f1, f2, f3, f4, f5, f6, f7⟩ false true false false false false)).one zgj).signs [126]) = t3 at H4 ⊢
 generalize ((s.must (zba ⟨10, f1, f2, f3, f4, f5, f6, f7⟩ false true false false false false)).one zgj).signs [126] = t2 at H3 H4
 generalize (s.must (zba ⟨10, f1, f2, f3, f4, f5, f6, f7⟩ false true false false false false)).one zgj = t1 at HW H3
 generalize s.must (zba ⟨10, f1, f2, f3, f4, f5, f6, f7⟩ false true false false false false) = t0 at HM HW
 generalize zba ⟨10, f1, f2, f3, f4, f5, f6, f7⟩ false true false false false false = b at HB HM
 go_enter Tryz.func107, Tryz.ntmps107
 go_wp2
 go_region_law (first
  | (go_simp; go_at_call 104; refine (HB.out _ (by first | exact HX.out.bel | exact HX.out.drew.bel)).mono ?_; rintro e1 w1 ⟨rfl, hb0⟩; have hb1 : Below ((W.alloc (.cells #[.pointer (some ⟨g, 0, none⟩)] 114)).alloc (.cells #[.int .i64 10, .string f1, .string f2, .slice A3 f3.length c3, .slice A4 f4.length c4, .slice A5 f5.length c5, .slice A6 f6.length c6, .int .i64 f7] 60)).heap.size ((W.alloc (.cells #[.pointer (some ⟨g, 0, none⟩)] 114)).alloc (.cells #[.int .i64 10, .string f1, .string f2, .slice A3 f3.length c3, .slice A4 f4.length c4, .slice A5 f5.length c5, .slice A6 f6.length c6, .int .i64 f7] 60)) w1 := ⟨hb0.os, hb0.tape, hb0.output, hb0.size, hb0.block⟩; have HS1 := Zq.mk (HX.out.below hb1); have HT1 := Zq.mk (HT.out.below HX.out.lt hb1); have hr1 := (hb1.block _ (zat HR.out)).trans HR.out; have hq1 := (hb1.block _ (zat HQ.out)).trans HQ.out; have HR1 := Zq.mk hr1; have HQ1 := Zq.mk hq1; have m0 := zae hr1 0; obtain ⟨q0, q1, q2, q3, q4, q5, q6, q7⟩ := zau hq1; clear hb0 hb1 hr1 hq1 HX HR HQ)
  | (go_simp; go_at_call 65; refine (HM.out _ (by first | exact HS1.out | exact HS1.out.drew)).mono ?_; rintro e2 w2 ⟨rfl, hS2, hT0⟩; have hT2 := (show Stp w1 w2 g from by first | exact hT0 | exact hT0.undrew); have hr2 := hT2.keep HS1.out HR1.out (by decide) (by decide); have hq2 := hT2.keep HS1.out HQ1.out (by decide) (by decide); have HS2 := Zq.mk hS2; have HT2 := Zq.mk (HT1.out.trans hT2); have HR2 := Zq.mk hr2; have HQ2 := Zq.mk hq2; have n0 := zae hr2 0; obtain ⟨y0, y1, y2, y3, y4, y5, y6, y7⟩ := zau hq2; clear hS2 hT0 hT2 hr2 hq2 HS1 HT1 HR1 HQ1 HM HB))
 all_goals go_wp2_with (first
  | (go_at_call 67; refine (HW.out _ HS2.out).mono ?_; rintro e3 w3 ⟨rfl, hS3, hT3⟩; have hr3 := hT3.keep HS2.out HR2.out (by decide) (by decide); have hq3 := hT3.keep HS2.out HQ2.out (by decide) (by decide); have HS3 := Zq.mk hS3; have HT3 := Zq.mk (HT2.out.trans hT3); have HR3 := Zq.mk hr3; have HQ3 := Zq.mk hq3; have n0 := zae hr3 0; obtain ⟨y0, y1, y2, y3, y4, y5, y6, y7⟩ := zau hq3; clear hS3 hT3 hr3 hq3 HS2 HT2 HR2 HQ2 HW)
  | (go_at_call 69; refine (H3.out _ HS3.out).mono ?_; rintro e4 w4 ⟨rfl, hS4, hT4⟩; have hr4 := hT4.keep HS3.out HR3.out (by decide) (by decide); have hq4 := hT4.keep HS3.out HQ3.out (by decide) (by decide); have HS4 := Zq.mk hS4; have HT4 := Zq.mk (HT3.out.trans hT4); have HR4 := Zq.mk hr4; have HQ4 := Zq.mk hq4; have n0 := zae hr4 0; obtain ⟨y0, y1, y2, y3, y4, y5, y6, y7⟩ := zau hq4; clear hS4 hT4 hr4 hq4 HS3 HT3 HR3 HQ3 H3)
  | (go_at_call 141; refine (H4.out _ HS4.out).mono ?_; rintro e5 w5 ⟨rfl, hS5, hT5⟩))
 all_goals (first | go_end0 | (refine bodyPost_ret (results_none rfl _ _ _) rfl ?_))
 all_goals exact ⟨rfl, hS5, HT4.out.trans hT5⟩
theorem atom_header (W0 W : World) (g : Nat) (s : PQ) (f1 f2 : ByteArray) (f3 : List S47) (f4 : List S68) (f5 : List ByteArray) (f6 : List S60) (f7 : Int) (v : Value) (hInv : Inv W0) (hA : zcu W0 ⟨11, f1, f2, f3, f4, f5, f6, f7⟩ v) (h : PrS W0 W g s) (hw : zmf f4)
  (hl : s.out.length + 1000 + 30 * f3.length + 90 * f4.length + (f5.map fun t => t.size + 10).sum ≤ 140737488351232) :
  Calls Tryz.prog 107 #[.pointer (some ⟨g, 0, none⟩), v] W (PrE W0 W g (zfa ⟨11, f1, f2, f3, f4, f5, f6, f7⟩ s)) := by
 have hn5 : f5.length ≤ 140737488351232 := by have := zhq f5; omega
 obtain ⟨cs, hK, rfl⟩ := hA
 have hO := zbo hK
 simp only at hO
 obtain ⟨A3, c3, A4, c4, A5, c5, A6, c6, rfl, l3, g3, l4, g4, l5, g5, l6, g6⟩ := hO
 have HA := Zq.mk (show zcu W0 _ _ from ⟨_, hK, rfl⟩)
 clear hK
 have hg0 := h.lt
 have HX := Zq.mk ((h.alloc (.cells #[.pointer (some ⟨g, 0, none⟩)] 114)).alloc (.cells #[.int .i64 11, .string f1, .string f2, .slice A3 f3.length c3, .slice A4 f4.length c4, .slice A5 f5.length c5, .slice A6 f6.length c6, .int .i64 f7] 60))
 have HT := Zq.mk (((Stp.refl W g).alloc hg0 (.cells #[.pointer (some ⟨g, 0, none⟩)] 114)).alloc (by rw [World.size_alloc]; omega) (.cells #[.int .i64 11, .string f1, .string f2, .slice A3 f3.length c3, .slice A4 f4.length c4, .slice A5 f5.length c5, .slice A6 f6.length c6, .int .i64 f7] 60))
 have HR := Zq.mk (zad (heap_alloc_new W (.cells #[.pointer (some ⟨g, 0, none⟩)] 114)) (.cells #[.int .i64 11, .string f1, .string f2, .slice A3 f3.length c3, .slice A4 f4.length c4, .slice A5 f5.length c5, .slice A6 f6.length c6, .int .i64 f7] 60))
 have HQ := Zq.mk (show ((W.alloc (.cells #[.pointer (some ⟨g, 0, none⟩)] 114)).alloc (.cells #[.int .i64 11, .string f1, .string f2, .slice A3 f3.length c3, .slice A4 f4.length c4, .slice A5 f5.length c5, .slice A6 f6.length c6, .int .i64 f7] 60)).heap[W.heap.size + 1]? = some (.cells #[.int .i64 11, .string f1, .string f2, .slice A3 f3.length c3, .slice A4 f4.length c4, .slice A5 f5.length c5, .slice A6 f6.length c6, .int .i64 f7] 60 (0, 0)) from by have := heap_alloc_new (W.alloc (.cells #[.pointer (some ⟨g, 0, none⟩)] 114)) (.cells #[.int .i64 11, .string f1, .string f2, .slice A3 f3.length c3, .slice A4 f4.length c4, .slice A5 f5.length c5, .slice A6 f6.length c6, .int .i64 f7] 60); rw [World.size_alloc] at this; exact this)
 have HB := Zq.mk (fun w (h : Below W0.heap.size W0 w) => zct w _ _ (HA.out.below h) true true false false false false)
 have HM := Zq.mk (fun w (h : PrS W0 w g s) => zbe W0 w g s (zba ⟨11, f1, f2, f3, f4, f5, f6, f7⟩ true true false false false false) h)
 have hat : zfa ⟨11, f1, f2, f3, f4, f5, f6, f7⟩ s = zbv f2 ((zbv f1 ((s.must (zba ⟨11, f1, f2, f3, f4, f5, f6, f7⟩ true true false false false false)).one zcq)).signs [126]) := rfl
 rw [hat]
 have z0 : (s.must (zba ⟨11, f1, f2, f3, f4, f5, f6, f7⟩ true true false false false false)).out.length = s.out.length := rfl
 have z1 : ((s.must (zba ⟨11, f1, f2, f3, f4, f5, f6, f7⟩ true true false false false false)).one zcq).out.length ≤ s.out.length + 7 := by have := zbx zcq (s.must (zba ⟨11, f1, f2, f3, f4, f5, f6, f7⟩ true true false false false false)); rw [z0] at this; exact this
 have z2 : (zbv f1 ((s.must (zba ⟨11, f1, f2, f3, f4, f5, f6, f7⟩ true true false false false false)).one zcq)).out.length ≤ s.out.length + 409 := Nat.le_trans (zdg f1 _) (by omega)
 have z3 : ((zbv f1 ((s.must (zba ⟨11, f1, f2, f3, f4, f5, f6, f7⟩ true true false false false false)).one zcq)).signs [126]).out.length ≤ s.out.length + 410 := by rw [zbm]; exact Nat.le_trans (Nat.add_le_add_right z2 1) (by omega)
 have z4 : (zbv f2 ((zbv f1 ((s.must (zba ⟨11, f1, f2, f3, f4, f5, f6, f7⟩ true true false false false false)).one zcq)).signs [126])).out.length ≤ s.out.length + 812 := Nat.le_trans (zdg f2 _) (by omega)
 have HW := Zq.mk (fun w (h : PrS W0 w g (s.must (zba ⟨11, f1, f2, f3, f4, f5, f6, f7⟩ true true false false false false))) => zbs W0 w g _ ⟨#[104, 101, 97, 100, 101, 114]⟩ h (by rw [z0]; show _ + 6 + 1 ≤ _; omega))
 have H3 := Zq.mk (fun w (h : PrS W0 w g ((s.must (zba ⟨11, f1, f2, f3, f4, f5, f6, f7⟩ true true false false false false)).one zcq)) => zew W0 w g _ f1 h (by omega))
 have H4 := Zq.mk (fun w (h : PrS W0 w g (zbv f1 ((s.must (zba ⟨11, f1, f2, f3, f4, f5, f6, f7⟩ true true false false false false)).one zcq))) => zbp W0 w g _ ⟨#[126]⟩ h (by show _ + 1 ≤ _; omega))
 have H5 := Zq.mk (fun w (h : PrS W0 w g ((zbv f1 ((s.must (zba ⟨11, f1, f2, f3, f4, f5, f6, f7⟩ true true false false false false)).one zcq)).signs [126])) => zew W0 w g _ f2 h (by omega))
 change Zq (∀ w, PrS W0 w g (s.must (zba ⟨11, f1, f2, f3, f4, f5, f6, f7⟩ true true false false false false)) → Calls Tryz.prog 67 #[.pointer (some ⟨g, 0, none⟩), .slice (some ⟨w.heap.size, 0, none⟩) 1 1] (w.alloc (.cells #[.string ⟨#[104, 101, 97, 100, 101, 114]⟩] 9)) (PrE W0 w g ((s.must (zba ⟨11, f1, f2, f3, f4, f5, f6, f7⟩ true true false false false false)).one zcq))) at HW
 change Zq (∀ w, PrS W0 w g (zbv f1 ((s.must (zba ⟨11, f1, f2, f3, f4, f5, f6, f7⟩ true true false false false false)).one zcq)) → Calls Tryz.prog 69 #[.pointer (some ⟨g, 0, none⟩), .string ⟨#[126]⟩] w (PrE W0 w g ((zbv f1 ((s.must (zba ⟨11, f1, f2, f3, f4, f5, f6, f7⟩ true true false false false false)).one zcq)).signs [126]))) at H4
 clear hat hl hw g3 g4 g5 g6 hInv HA h z0 z1 z2 z3 z4
 generalize zbv f2 ((zbv f1 ((s.must (zba ⟨11, f1, f2, f3, f4, f5, f6, f7⟩ true true false false false false)).one zcq)).signs [126]) = t4 at H5 ⊢
 generalize (zbv f1 ((s.must (zba ⟨11, f1, f2, f3, f4, f5, f6, f7⟩ true true false false false false)).one zcq)).signs [126] = t3 at H4 H5
 generalize zbv f1 ((s.must (zba ⟨11, f1, f2, f3, f4, f5, f6, f7⟩ true true false false false false)).one zcq) = t2 at H3 H4
 generalize (s.must (zba ⟨11, f1, f2, f3, f4, f5, f6, f7⟩ true true false false false false)).one zcq = t1 at HW H3
 generalize s.must (zba ⟨11, f1, f2, f3, f4, f5, f6, f7⟩ true true false false false false) = t0 at HM HW
 generalize zba ⟨11, f1, f2, f3, f4, f5, f6, f7⟩ true true false false false false = b at HB HM
 go_enter Tryz.func107, Tryz.ntmps107
 go_wp2
 go_region_law (first
  | (go_simp; go_at_call 104; refine (HB.out _ (by first | exact HX.out.bel | exact HX.out.drew.bel)).mono ?_; rintro e1 w1 ⟨rfl, hb0⟩; have hb1 : Below ((W.alloc (.cells #[.pointer (some ⟨g, 0, none⟩)] 114)).alloc (.cells #[.int .i64 11, .string f1, .string f2, .slice A3 f3.length c3, .slice A4 f4.length c4, .slice A5 f5.length c5, .slice A6 f6.length c6, .int .i64 f7] 60)).heap.size ((W.alloc (.cells #[.pointer (some ⟨g, 0, none⟩)] 114)).alloc (.cells #[.int .i64 11, .string f1, .string f2, .slice A3 f3.length c3, .slice A4 f4.length c4, .slice A5 f5.length c5, .slice A6 f6.length c6, .int .i64 f7] 60)) w1 := ⟨hb0.os, hb0.tape, hb0.output, hb0.size, hb0.block⟩; have HS1 := Zq.mk (HX.out.below hb1); have HT1 := Zq.mk (HT.out.below HX.out.lt hb1); have hr1 := (hb1.block _ (zat HR.out)).trans HR.out; have hq1 := (hb1.block _ (zat HQ.out)).trans HQ.out; have HR1 := Zq.mk hr1; have HQ1 := Zq.mk hq1; have m0 := zae hr1 0; obtain ⟨q0, q1, q2, q3, q4, q5, q6, q7⟩ := zau hq1; clear hb0 hb1 hr1 hq1 HX HR HQ)
  | (go_simp; go_at_call 65; refine (HM.out _ (by first | exact HS1.out | exact HS1.out.drew)).mono ?_; rintro e2 w2 ⟨rfl, hS2, hT0⟩; have hT2 := (show Stp w1 w2 g from by first | exact hT0 | exact hT0.undrew); have hr2 := hT2.keep HS1.out HR1.out (by decide) (by decide); have hq2 := hT2.keep HS1.out HQ1.out (by decide) (by decide); have HS2 := Zq.mk hS2; have HT2 := Zq.mk (HT1.out.trans hT2); have HR2 := Zq.mk hr2; have HQ2 := Zq.mk hq2; have n0 := zae hr2 0; obtain ⟨y0, y1, y2, y3, y4, y5, y6, y7⟩ := zau hq2; clear hS2 hT0 hT2 hr2 hq2 HS1 HT1 HR1 HQ1 HM HB))
 all_goals go_wp2_with (first
  | (go_at_call 67; refine (HW.out _ HS2.out).mono ?_; rintro e3 w3 ⟨rfl, hS3, hT3⟩; have hr3 := hT3.keep HS2.out HR2.out (by decide) (by decide); have hq3 := hT3.keep HS2.out HQ2.out (by decide) (by decide); have HS3 := Zq.mk hS3; have HT3 := Zq.mk (HT2.out.trans hT3); have HR3 := Zq.mk hr3; have HQ3 := Zq.mk hq3; have n0 := zae hr3 0; obtain ⟨y0, y1, y2, y3, y4, y5, y6, y7⟩ := zau hq3; clear hS3 hT3 hr3 hq3 HS2 HT2 HR2 HQ2 HW)
  | (go_at_call 141; refine (H3.out _ HS3.out).mono ?_; rintro e4 w4 ⟨rfl, hS4, hT4⟩; have hr4 := hT4.keep HS3.out HR3.out (by decide) (by decide); have hq4 := hT4.keep HS3.out HQ3.out (by decide) (by decide); have HS4 := Zq.mk hS4; have HT4 := Zq.mk (HT3.out.trans hT4); have HR4 := Zq.mk hr4; have HQ4 := Zq.mk hq4; have n0 := zae hr4 0; obtain ⟨y0, y1, y2, y3, y4, y5, y6, y7⟩ := zau hq4; clear hS4 hT4 hr4 hq4 HS3 HT3 HR3 HQ3 H3)
  | (go_at_call 69; refine (H4.out _ HS4.out).mono ?_; rintro e5 w5 ⟨rfl, hS5, hT5⟩; have hr5 := hT5.keep HS4.out HR4.out (by decide) (by decide); have hq5 := hT5.keep HS4.out HQ4.out (by decide) (by decide); have HS5 := Zq.mk hS5; have HT5 := Zq.mk (HT4.out.trans hT5); have HR5 := Zq.mk hr5; have HQ5 := Zq.mk hq5; have n0 := zae hr5 0; obtain ⟨y0, y1, y2, y3, y4, y5, y6, y7⟩ := zau hq5; clear hS5 hT5 hr5 hq5 HS4 HT4 HR4 HQ4 H4)
  | (go_at_call 141; refine (H5.out _ HS5.out).mono ?_; rintro e6 w6 ⟨rfl, hS6, hT6⟩))
 all_goals (first | go_end0 | (refine bodyPost_ret (results_none rfl _ _ _) rfl ?_))
 all_goals exact ⟨rfl, hS6, HT5.out.trans hT6⟩
theorem atom_has (W0 W : World) (g : Nat) (s : PQ) (f1 f2 : ByteArray) (f3 : List S47) (f4 : List S68) (f5 : List ByteArray) (f6 : List S60) (f7 : Int) (v : Value) (hInv : Inv W0) (hA : zcu W0 ⟨12, f1, f2, f3, f4, f5, f6, f7⟩ v) (h : PrS W0 W g s) (hw : zmf f4)
  (hl : s.out.length + 1000 + 30 * f3.length + 90 * f4.length + (f5.map fun t => t.size + 10).sum ≤ 140737488351232) :
  Calls Tryz.prog 107 #[.pointer (some ⟨g, 0, none⟩), v] W (PrE W0 W g (zfa ⟨12, f1, f2, f3, f4, f5, f6, f7⟩ s)) := by
 have hn5 : f5.length ≤ 140737488351232 := by have := zhq f5; omega
 obtain ⟨cs, hK, rfl⟩ := hA
 have hO := zbo hK
 simp only at hO
 obtain ⟨A3, c3, A4, c4, A5, c5, A6, c6, rfl, l3, g3, l4, g4, l5, g5, l6, g6⟩ := hO
 have HA := Zq.mk (show zcu W0 _ _ from ⟨_, hK, rfl⟩)
 clear hK
 have hg0 := h.lt
 have HX := Zq.mk ((h.alloc (.cells #[.pointer (some ⟨g, 0, none⟩)] 114)).alloc (.cells #[.int .i64 12, .string f1, .string f2, .slice A3 f3.length c3, .slice A4 f4.length c4, .slice A5 f5.length c5, .slice A6 f6.length c6, .int .i64 f7] 60))
 have HT := Zq.mk (((Stp.refl W g).alloc hg0 (.cells #[.pointer (some ⟨g, 0, none⟩)] 114)).alloc (by rw [World.size_alloc]; omega) (.cells #[.int .i64 12, .string f1, .string f2, .slice A3 f3.length c3, .slice A4 f4.length c4, .slice A5 f5.length c5, .slice A6 f6.length c6, .int .i64 f7] 60))
 have HR := Zq.mk (zad (heap_alloc_new W (.cells #[.pointer (some ⟨g, 0, none⟩)] 114)) (.cells #[.int .i64 12, .string f1, .string f2, .slice A3 f3.length c3, .slice A4 f4.length c4, .slice A5 f5.length c5, .slice A6 f6.length c6, .int .i64 f7] 60))
 have HQ := Zq.mk (show ((W.alloc (.cells #[.pointer (some ⟨g, 0, none⟩)] 114)).alloc (.cells #[.int .i64 12, .string f1, .string f2, .slice A3 f3.length c3, .slice A4 f4.length c4, .slice A5 f5.length c5, .slice A6 f6.length c6, .int .i64 f7] 60)).heap[W.heap.size + 1]? = some (.cells #[.int .i64 12, .string f1, .string f2, .slice A3 f3.length c3, .slice A4 f4.length c4, .slice A5 f5.length c5, .slice A6 f6.length c6, .int .i64 f7] 60 (0, 0)) from by have := heap_alloc_new (W.alloc (.cells #[.pointer (some ⟨g, 0, none⟩)] 114)) (.cells #[.int .i64 12, .string f1, .string f2, .slice A3 f3.length c3, .slice A4 f4.length c4, .slice A5 f5.length c5, .slice A6 f6.length c6, .int .i64 f7] 60); rw [World.size_alloc] at this; exact this)
 have HB := Zq.mk (fun w (h : Below W0.heap.size W0 w) => zct w _ _ (HA.out.below h) true false false false false false)
 have HM := Zq.mk (fun w (h : PrS W0 w g s) => zbe W0 w g s (zba ⟨12, f1, f2, f3, f4, f5, f6, f7⟩ true false false false false false) h)
 have hat : zfa ⟨12, f1, f2, f3, f4, f5, f6, f7⟩ s = zbv f1 ((s.must (zba ⟨12, f1, f2, f3, f4, f5, f6, f7⟩ true false false false false false)).one wHas) := rfl
 rw [hat]
 have z0 : (s.must (zba ⟨12, f1, f2, f3, f4, f5, f6, f7⟩ true false false false false false)).out.length = s.out.length := rfl
 have z1 : ((s.must (zba ⟨12, f1, f2, f3, f4, f5, f6, f7⟩ true false false false false false)).one wHas).out.length ≤ s.out.length + 4 := by have := zbx wHas (s.must (zba ⟨12, f1, f2, f3, f4, f5, f6, f7⟩ true false false false false false)); rw [z0] at this; exact this
 have z2 : (zbv f1 ((s.must (zba ⟨12, f1, f2, f3, f4, f5, f6, f7⟩ true false false false false false)).one wHas)).out.length ≤ s.out.length + 406 := Nat.le_trans (zdg f1 _) (by omega)
 have HW := Zq.mk (fun w (h : PrS W0 w g (s.must (zba ⟨12, f1, f2, f3, f4, f5, f6, f7⟩ true false false false false false))) => zbs W0 w g _ ⟨#[104, 97, 115]⟩ h (by rw [z0]; show _ + 3 + 1 ≤ _; omega))
 have H3 := Zq.mk (fun w (h : PrS W0 w g ((s.must (zba ⟨12, f1, f2, f3, f4, f5, f6, f7⟩ true false false false false false)).one wHas)) => zew W0 w g _ f1 h (by omega))
 change Zq (∀ w, PrS W0 w g (s.must (zba ⟨12, f1, f2, f3, f4, f5, f6, f7⟩ true false false false false false)) → Calls Tryz.prog 67 #[.pointer (some ⟨g, 0, none⟩), .slice (some ⟨w.heap.size, 0, none⟩) 1 1] (w.alloc (.cells #[.string ⟨#[104, 97, 115]⟩] 9)) (PrE W0 w g ((s.must (zba ⟨12, f1, f2, f3, f4, f5, f6, f7⟩ true false false false false false)).one wHas))) at HW
 clear hat hl hw g3 g4 g5 g6 hInv HA h z0 z1 z2
 generalize zbv f1 ((s.must (zba ⟨12, f1, f2, f3, f4, f5, f6, f7⟩ true false false false false false)).one wHas) = t2 at H3 ⊢
 generalize (s.must (zba ⟨12, f1, f2, f3, f4, f5, f6, f7⟩ true false false false false false)).one wHas = t1 at HW H3
 generalize s.must (zba ⟨12, f1, f2, f3, f4, f5, f6, f7⟩ true false false false false false) = t0 at HM HW
 generalize zba ⟨12, f1, f2, f3, f4, f5, f6, f7⟩ true false false false false false = b at HB HM
 go_enter Tryz.func107, Tryz.ntmps107
 go_wp2
 go_region_law (first
  | (go_simp; go_at_call 104; refine (HB.out _ (by first | exact HX.out.bel | exact HX.out.drew.bel)).mono ?_; rintro e1 w1 ⟨rfl, hb0⟩; have hb1 : Below ((W.alloc (.cells #[.pointer (some ⟨g, 0, none⟩)] 114)).alloc (.cells #[.int .i64 12, .string f1, .string f2, .slice A3 f3.length c3, .slice A4 f4.length c4, .slice A5 f5.length c5, .slice A6 f6.length c6, .int .i64 f7] 60)).heap.size ((W.alloc (.cells #[.pointer (some ⟨g, 0, none⟩)] 114)).alloc (.cells #[.int .i64 12, .string f1, .string f2, .slice A3 f3.length c3, .slice A4 f4.length c4, .slice A5 f5.length c5, .slice A6 f6.length c6, .int .i64 f7] 60)) w1 := ⟨hb0.os, hb0.tape, hb0.output, hb0.size, hb0.block⟩; have HS1 := Zq.mk (HX.out.below hb1); have HT1 := Zq.mk (HT.out.below HX.out.lt hb1); have hr1 := (hb1.block _ (zat HR.out)).trans HR.out; have hq1 := (hb1.block _ (zat HQ.out)).trans HQ.out; have HR1 := Zq.mk hr1; have HQ1 := Zq.mk hq1; have m0 := zae hr1 0; obtain ⟨q0, q1, q2, q3, q4, q5, q6, q7⟩ := zau hq1; clear hb0 hb1 hr1 hq1 HX HR HQ)
  | (go_simp; go_at_call 65; refine (HM.out _ (by first | exact HS1.out | exact HS1.out.drew)).mono ?_; rintro e2 w2 ⟨rfl, hS2, hT0⟩; have hT2 := (show Stp w1 w2 g from by first | exact hT0 | exact hT0.undrew); have hr2 := hT2.keep HS1.out HR1.out (by decide) (by decide); have hq2 := hT2.keep HS1.out HQ1.out (by decide) (by decide); have HS2 := Zq.mk hS2; have HT2 := Zq.mk (HT1.out.trans hT2); have HR2 := Zq.mk hr2; have HQ2 := Zq.mk hq2; have n0 := zae hr2 0; obtain ⟨y0, y1, y2, y3, y4, y5, y6, y7⟩ := zau hq2; clear hS2 hT0 hT2 hr2 hq2 HS1 HT1 HR1 HQ1 HM HB))
 all_goals go_wp2_with (first
  | (go_at_call 67; refine (HW.out _ HS2.out).mono ?_; rintro e3 w3 ⟨rfl, hS3, hT3⟩; have hr3 := hT3.keep HS2.out HR2.out (by decide) (by decide); have hq3 := hT3.keep HS2.out HQ2.out (by decide) (by decide); have HS3 := Zq.mk hS3; have HT3 := Zq.mk (HT2.out.trans hT3); have HR3 := Zq.mk hr3; have HQ3 := Zq.mk hq3; have n0 := zae hr3 0; obtain ⟨y0, y1, y2, y3, y4, y5, y6, y7⟩ := zau hq3; clear hS3 hT3 hr3 hq3 HS2 HT2 HR2 HQ2 HW)
  | (go_at_call 141; refine (H3.out _ HS3.out).mono ?_; rintro e4 w4 ⟨rfl, hS4, hT4⟩))
 all_goals (first | go_end0 | (refine bodyPost_ret (results_none rfl _ _ _) rfl ?_))
 all_goals exact ⟨rfl, hS4, HT3.out.trans hT4⟩
theorem atom_none (W0 W : World) (g : Nat) (s : PQ) (x : S60) (v : Value) (hA : zcu W0 x v) (h : PrS W0 W g s) (h7 : ¬ x.f0 = 7) (h8 : ¬ x.f0 = 8) (h9 : ¬ x.f0 = 9) (h10 : ¬ x.f0 = 10) (h11 : ¬ x.f0 = 11) (h12 : ¬ x.f0 = 12) :
  Calls Tryz.prog 107 #[.pointer (some ⟨g, 0, none⟩), v] W (PrE W0 W g (zfa x s)) := by
 have hat : zfa x s = s.must false := by unfold zfa; rw [if_neg h7, if_neg h8, if_neg h9, if_neg h10, if_neg h11, if_neg h12]
 rw [hat]
 obtain ⟨cs, hK, rfl⟩ := hA
 obtain ⟨A3, c3, A4, c4, A5, c5, A6, c6, rfl, -⟩ := zbo hK
 have hg0 := h.lt
 have HX := Zq.mk (fun o o2 => (h.alloc o).alloc o2)
 have HT := Zq.mk (fun o o2 => ((Stp.refl W g).alloc hg0 o).alloc (by rw [World.size_alloc]; omega) o2)
 have HM := Zq.mk (fun w (h : PrS W0 w g s) => zbe W0 w g s false h)
 clear h hK hat
 go_enter Tryz.func107, Tryz.ntmps107
 go_wp2_with (go_at_call 65; refine (HM.out _ (HX.out _ _)).mono ?_; rintro e1 w1 ⟨rfl, hS1, hT1⟩)
 first | go_end0 | (refine bodyPost_ret (results_none rfl _ _ _) rfl ?_)
 exact ⟨rfl, hS1, (HT.out _ _).trans hT1⟩
theorem atom_calls (W0 W : World) (g : Nat) (s : PQ) (x : S60) (v : Value) (hInv : Inv W0) (hA : zcu W0 x v) (h : PrS W0 W g s) (hw : zmf x.f4)
  (hl : s.out.length + 1000 + 30 * x.f3.length + 90 * x.f4.length + (x.f5.map fun t => t.size + 10).sum ≤ 140737488351232) :
  Calls Tryz.prog 107 #[.pointer (some ⟨g, 0, none⟩), v] W (PrE W0 W g (zfa x s)) := by
 obtain ⟨f0, f1, f2, f3, f4, f5, f6, f7⟩ := x
 by_cases h7 : f0 = 7
 ·subst h7; exact atom_addr W0 W g s f1 f2 f3 f4 f5 f6 f7 v hInv hA h hw hl
 by_cases h8 : f0 = 8
 ·subst h8; exact atom_port W0 W g s f1 f2 f3 f4 f5 f6 f7 v hInv hA h hw hl
 by_cases h9 : f0 = 9
 ·subst h9; exact atom_method W0 W g s f1 f2 f3 f4 f5 f6 f7 v hInv hA h hw hl
 by_cases h10 : f0 = 10
 ·subst h10; exact atom_path W0 W g s f1 f2 f3 f4 f5 f6 f7 v hInv hA h hw hl
 by_cases h11 : f0 = 11
 ·subst h11; exact atom_header W0 W g s f1 f2 f3 f4 f5 f6 f7 v hInv hA h hw hl
 by_cases h12 : f0 = 12
 ·subst h12; exact atom_has W0 W g s f1 f2 f3 f4 f5 f6 f7 v hInv hA h hw hl
 exact atom_none W0 W g s _ v hA h h7 h8 h9 h10 h11 h12
end
end Go.Proofs.YtjeekocidaogoaaGreatDoor.H

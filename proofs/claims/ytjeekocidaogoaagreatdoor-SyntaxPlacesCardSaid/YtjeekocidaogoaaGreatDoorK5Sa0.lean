/- Same: what is compared; rows of whole numbers' pairs and texts. -/
/- The printer on conditions: the things in braces, one by one. -/
import Derived.Test.YtjeekocidaogoaaGreatDoorK5PrL
import Derived.Test.YtjeekocidaogoaaGreatDoorK5Deep
import Derived.Test.YtjeekocidaogoaaGreatDoorK5Src
import Derived.Deep.RegionLaw
set_option linter.unusedVariables false
set_option linter.unusedSimpArgs false
set_option maxRecDepth 100000
set_option maxHeartbeats 8000000
namespace Go.Proofs.YtjeekocidaogoaaGreatDoor.H
open Go.RowKit Go.Proofs.YtjeekocidaogoaaGreatDoor.Hand Go.Proofs.YtjeekocidaogoaaGreatDoorW.PrintWords Go.Proofs.YtjeekocidaogoaaGreatDoorW.PrintLast Go.Proofs.YtjeekocidaogoaaGreatDoorW.PrintMore
section
def eqP : List S47 → List S47 → Bool
 | [], [] => true
 | a :: r, b :: t => decide (a.f0 = b.f0) && (decide (a.f1 = b.f1) && eqP r t)
 | _, _ => false
def eqS : List S68 → List S68 → Bool
 | [], [] => true
 | a :: r, b :: t => decide (a.f0 = b.f0) && (decide (a.f1 = b.f1) && eqS r t)
 | _, _ => false
def eqT : List ByteArray → List ByteArray → Bool
 | [], [] => true
 | a :: r, b :: t => decide (a.toList = b.toList) && eqT r t
 | _, _ => false
theorem zlj (n : Nat) (h : n + 1 ≤ 9223372036854775807) : wrap64 ((n : Int) + 1) = ((n + 1 : Nat) : Int) := by unfold wrap64; omega
theorem zpx : ∀ (l m : List S47), eqP l m = true → l.length = m.length
 | [], [], _ => rfl
 | a :: r, b :: t, h => by
  simp only [eqP, Bool.and_eq_true] at h
  have := zpx r t h.2.2
  simp [this]
 | [], _ :: _, h => by simp [eqP] at h
 | _ :: _, [], h => by simp [eqP] at h
theorem api_Prefix_l0 (l m : List S47) (hz : l.length ≤ 9223372036854775807) (hm : l.length = m.length) : ∀ (d i k : Nat), i + d = l.length → d + 1 ≤ k → api_Prefix.l0 k l m (l.length : Int) (i : Int) = some (eqP (l.drop i) (m.drop i)) := by
 intro d
 induction d with
 | zero =>
  intro i k hi hk
  obtain ⟨k, rfl⟩ : ∃ j, k = j + 1 := ⟨k - 1, by omega⟩
  rw [List.drop_of_length_le (by omega), List.drop_of_length_le (by omega)]
  simp only [api_Prefix.l0]
  rw [if_neg (by omega)]
  rfl
 | succ d ih =>
  intro i k hi hk
  obtain ⟨k, rfl⟩ : ∃ j, k = j + 1 := ⟨k - 1, by omega⟩
  have h1 : i < l.length := by omega
  have h2 : i < m.length := by omega
  have e1 : zdc l (i : Int) = l[i] := by unfold zdc; rw [Int.toNat_natCast, List.getD_eq_getElem?_getD, List.getElem?_eq_getElem h1]; rfl
  have e2 : zdc m (i : Int) = m[i] := by unfold zdc; rw [Int.toNat_natCast, List.getD_eq_getElem?_getD, List.getElem?_eq_getElem h2]; rfl
  rw [List.drop_eq_getElem_cons h1, List.drop_eq_getElem_cons h2]
  simp only [api_Prefix.l0]
  rw [if_pos (by omega), if_pos (by omega), if_pos (by omega), if_pos (by omega), e1, e2, zlj i (by omega), ih (i + 1) k (by omega) (by omega)]
  simp only [eqP]
  by_cases c1 : l[i].f0 = m[i].f0
  ·by_cases c2 : l[i].f1 = m[i].f1
   ·rw [if_neg (by simp [c1, c2])]; simp [c1, c2]
   ·rw [if_pos (by simp [c2])]; simp [c2]
  ·rw [if_pos (by simp [c1])]; simp [c1]
theorem api_Prefix_eq (l m : List S47) (hz : l.length ≤ 9223372036854775807) : api_Prefix.f (l.length + 1) l m = some (eqP l m) := by
 unfold api_Prefix.f
 by_cases h : l.length = m.length
 ·rw [if_pos (by omega)]
  have := api_Prefix_l0 l m hz h l.length 0 (l.length + 1) (by omega) (by omega)
  exact this
 ·rw [if_neg (by omega)]
  cases he : eqP l m with
  | false => rfl
  | true => exact absurd (zpx l m he) h
theorem zpw : ∀ (l m : List S68), eqS l m = true → l.length = m.length
 | [], [], _ => rfl
 | a :: r, b :: t, h => by
  simp only [eqS, Bool.and_eq_true] at h
  have := zpw r t h.2.2
  simp [this]
 | [], _ :: _, h => by simp [eqS] at h
 | _ :: _, [], h => by simp [eqS] at h
theorem api_Span_l0 (l m : List S68) (hz : l.length ≤ 9223372036854775807) (hm : l.length = m.length) : ∀ (d i k : Nat), i + d = l.length → d + 1 ≤ k → api_Span.l0 k l m (l.length : Int) (i : Int) = some (eqS (l.drop i) (m.drop i)) := by
 intro d
 induction d with
 | zero =>
  intro i k hi hk
  obtain ⟨k, rfl⟩ : ∃ j, k = j + 1 := ⟨k - 1, by omega⟩
  rw [List.drop_of_length_le (by omega), List.drop_of_length_le (by omega)]
  simp only [api_Span.l0]
  rw [if_neg (by omega)]
  rfl
 | succ d ih =>
  intro i k hi hk
  obtain ⟨k, rfl⟩ : ∃ j, k = j + 1 := ⟨k - 1, by omega⟩
  have h1 : i < l.length := by omega
  have h2 : i < m.length := by omega
  have e1 : zdb l (i : Int) = l[i] := by unfold zdb; rw [Int.toNat_natCast, List.getD_eq_getElem?_getD, List.getElem?_eq_getElem h1]; rfl
  have e2 : zdb m (i : Int) = m[i] := by unfold zdb; rw [Int.toNat_natCast, List.getD_eq_getElem?_getD, List.getElem?_eq_getElem h2]; rfl
  rw [List.drop_eq_getElem_cons h1, List.drop_eq_getElem_cons h2]
  simp only [api_Span.l0]
  rw [if_pos (by omega), if_pos (by omega), if_pos (by omega), if_pos (by omega), e1, e2, zlj i (by omega), ih (i + 1) k (by omega) (by omega)]
  simp only [eqS]
  by_cases c1 : l[i].f0 = m[i].f0
  ·by_cases c2 : l[i].f1 = m[i].f1
   ·rw [if_neg (by simp [c1, c2])]; simp [c1, c2]
   ·rw [if_pos (by simp [c2])]; simp [c2]
  ·rw [if_pos (by simp [c1])]; simp [c1]
theorem api_Span_eq (l m : List S68) (hz : l.length ≤ 9223372036854775807) : api_Span.f (l.length + 1) l m = some (eqS l m) := by
 unfold api_Span.f
 by_cases h : l.length = m.length
 ·rw [if_pos (by omega)]
  have := api_Span_l0 l m hz h l.length 0 (l.length + 1) (by omega) (by omega)
  exact this
 ·rw [if_neg (by omega)]
  cases he : eqS l m with
  | false => rfl
  | true => exact absurd (zpw l m he) h
theorem zpv : ∀ (l m : List ByteArray), eqT l m = true → l.length = m.length
 | [], [], _ => rfl
 | a :: r, b :: t, h => by
  simp only [eqT, Bool.and_eq_true] at h
  have := zpv r t h.2
  simp [this]
 | [], _ :: _, h => by simp [eqT] at h
 | _ :: _, [], h => by simp [eqT] at h
theorem slices_Equal_string_string_l0 (l m : List ByteArray) (hz : l.length ≤ 9223372036854775807) (hm : l.length = m.length) : ∀ (d i k : Nat), i + d = l.length → d + 1 ≤ k → slices_Equal_string_string.l0 k l m (l.length : Int) (i : Int) = some (eqT (l.drop i) (m.drop i)) := by
 intro d
 induction d with
 | zero =>
  intro i k hi hk
  obtain ⟨k, rfl⟩ : ∃ j, k = j + 1 := ⟨k - 1, by omega⟩
  rw [List.drop_of_length_le (by omega), List.drop_of_length_le (by omega)]
  simp only [slices_Equal_string_string.l0]
  rw [if_neg (by omega)]
  rfl
 | succ d ih =>
  intro i k hi hk
  obtain ⟨k, rfl⟩ : ∃ j, k = j + 1 := ⟨k - 1, by omega⟩
  have h1 : i < l.length := by omega
  have h2 : i < m.length := by omega
  have e1 : rdOf ByteArray.empty l (i : Int) = l[i] := by unfold rdOf; rw [Int.toNat_natCast, List.getD_eq_getElem?_getD, List.getElem?_eq_getElem h1]; rfl
  have e2 : rdOf ByteArray.empty m (i : Int) = m[i] := by unfold rdOf; rw [Int.toNat_natCast, List.getD_eq_getElem?_getD, List.getElem?_eq_getElem h2]; rfl
  rw [List.drop_eq_getElem_cons h1, List.drop_eq_getElem_cons h2]
  simp only [slices_Equal_string_string.l0]
  rw [if_pos (by omega), if_pos (by omega), if_pos (by omega), if_pos (by omega), e1, e2, zlj i (by omega), ih (i + 1) k (by omega) (by omega)]
  simp only [eqT]
  by_cases c1 : l[i].toList = m[i].toList
  ·first | rw [if_pos c1] | rw [if_neg (by simp [c1])]
   simp [c1]
  ·first | rw [if_neg c1] | rw [if_pos (by simp [c1])]
   simp [c1]
theorem slices_Equal_string_string_eq (l m : List ByteArray) (hz : l.length ≤ 9223372036854775807) : slices_Equal_string_string.f (l.length + 1) l m = some (eqT l m) := by
 unfold slices_Equal_string_string.f
 by_cases h : l.length = m.length
 ·rw [if_pos (by omega)]
  have := slices_Equal_string_string_l0 l m hz h l.length 0 (l.length + 1) (by omega) (by omega)
  exact this
 ·rw [if_neg (by omega)]
  cases he : eqT l m with
  | false => rfl
  | true => exact absurd (zpv l m he) h
end
section
theorem addr_clos (W0 W : World) (g q r : Nat) (s : PQ) (x : S60) (A : Option Addr) (c : Nat) (cells : Array Value) (i : Nat) (hInv : Inv W0) (h : PrS W0 W g s) (hr : W.heap[r]? = some (.cells #[.pointer (some ⟨g, 0, none⟩)] 114 (0, 0))) (hq : W.heap[q]? = some (.cells cells 60 (0, 0)))
  (h3 : cells[3]? = some (.slice A x.f3.length c)) (hC : k47.C W0 A x.f3.length x.f3) (hi : i < x.f3.length) (hm : x.f3.length ≤ 140737488351232) (hl : s.out.length + 20 ≤ 140737488351232) :
  Calls Tryz.prog 135 #[.int .i64 i, .pointer (some ⟨r, 0, none⟩), .pointer (some ⟨q, 0, none⟩)] W (PrE W0 W g (zot x i s)) := by
 have hC1 := Kd.C_below hC h.bel
 obtain ⟨ad, rfl, e0, e1⟩ := znh hC1 (i : Int) (by omega) (by omega)
 have hrd : zdc x.f3 (i : Int) = x.f3.getD i z47 := by unfold zdc; rw [Int.toNat_natCast]
 rw [hrd] at e0 e1
 rw [Int.toNat_natCast] at e0 e1
 have c0 : W.cell? ⟨r, 0, none⟩ = some (.pointer (some ⟨g, 0, none⟩)) := zae hr 0
 have c3 : W.cell? ⟨q, 3, none⟩ = some (.slice (some ad) x.f3.length c) := (zae hq 3).trans h3
 have HP := Zq.mk (fun w (h : PrS W0 w g s) => pprefix_one W0 w g s (x.f3.getD i z47).f0 (x.f3.getD i z47).f1 hInv h hl)
 have HS := Zq.mk h
 unfold zot
 generalize x.f3.getD i z47 = p at e0 e1 HP ⊢
 generalize x.f3.length = n at c3 hi hm
 clear hC hC1 hrd hr hq h3 h
 go_enter Tryz.func135, Tryz.ntmps135
 go_wp2
 go_region_law (go_simp; go_at_call 136; refine (HP.out _ (by first | exact HS.out | exact HS.out.drew)).mono ?_; rintro e' w' ⟨rfl, hS1, hT1⟩)
 all_goals (first | go_end0 | (refine bodyPost_ret (results_none rfl _ _ _) rfl ?_))
 all_goals exact ⟨rfl, hS1, hT1.undrew⟩
theorem ports_clos (W0 W : World) (g q r : Nat) (s : PQ) (x : S60) (A : Option Addr) (c : Nat) (cells : Array Value) (i : Nat) (hInv : Inv W0) (h : PrS W0 W g s) (hr : W.heap[r]? = some (.cells #[.pointer (some ⟨g, 0, none⟩)] 114 (0, 0))) (hq : W.heap[q]? = some (.cells cells 60 (0, 0)))
  (h3 : cells[4]? = some (.slice A x.f4.length c)) (hC : k68.C W0 A x.f4.length x.f4) (hi : i < x.f4.length) (hm : x.f4.length ≤ 140737488351232) (hw : ∀ p ∈ x.f4, (-9223372036854775808 ≤ p.f0 ∧ p.f0 ≤ 9223372036854775807) ∧ (-9223372036854775808 ≤ p.f1 ∧ p.f1 ≤ 9223372036854775807)) (hl : s.out.length + 80 ≤ 140737488351232) :
  Calls Tryz.prog 137 #[.int .i64 i, .pointer (some ⟨r, 0, none⟩), .pointer (some ⟨q, 0, none⟩)] W (PrE W0 W g (zku x i s)) := by
 have hC1 := Kd.C_below hC h.bel
 obtain ⟨ad, rfl, e0, e1⟩ := zlg hC1 (i : Int) (by omega) (by omega)
 have hrd : zdb x.f4 (i : Int) = x.f4.getD i z68 := by unfold zdb; rw [Int.toNat_natCast]
 rw [hrd] at e0 e1
 rw [Int.toNat_natCast] at e0 e1
 have c0 : W.cell? ⟨r, 0, none⟩ = some (.pointer (some ⟨g, 0, none⟩)) := zae hr 0
 have c3 : W.cell? ⟨q, 4, none⟩ = some (.slice (some ad) x.f4.length c) := (zae hq 4).trans h3
 have hw1 := hw (x.f4.getD i z68) (by rw [List.getD_eq_getElem?_getD, List.getElem?_eq_getElem hi]; exact List.getElem_mem _)
 have HP := Zq.mk (fun w (h : PrS W0 w g s) => pports_one W0 w g s (x.f4.getD i z68).f0 (x.f4.getD i z68).f1 hInv h hl hw1.1.1 hw1.1.2 hw1.2.1 hw1.2.2)
 have HS := Zq.mk h
 unfold zku
 clear hw hw1
 generalize x.f4.getD i z68 = p at e0 e1 HP ⊢
 generalize x.f4.length = n at c3 hi hm
 clear hC hC1 hrd hr hq h3 h
 go_enter Tryz.func137, Tryz.ntmps137
 go_wp2
 go_region_law (go_simp; go_at_call 138; refine (HP.out _ (by first | exact HS.out | exact HS.out.drew)).mono ?_; rintro e' w' ⟨rfl, hS1, hT1⟩)
 all_goals (first | go_end0 | (refine bodyPost_ret (results_none rfl _ _ _) rfl ?_))
 all_goals exact ⟨rfl, hS1, hT1.undrew⟩
theorem method_clos (W0 W : World) (g q r : Nat) (s : PQ) (x : S60) (A : Option Addr) (c : Nat) (cells : Array Value) (i : Nat) (hInv : Inv W0) (h : PrS W0 W g s) (hr : W.heap[r]? = some (.cells #[.pointer (some ⟨g, 0, none⟩)] 114 (0, 0))) (hq : W.heap[q]? = some (.cells cells 60 (0, 0)))
  (h3 : cells[5]? = some (.slice A x.f5.length c)) (hC : Kd.string.C W0 A x.f5.length x.f5) (hi : i < x.f5.length) (hm : x.f5.length ≤ 140737488351232) (hl : s.out.length + (x.f5.getD i ⟨#[]⟩).size + 1 ≤ 140737488351232) :
  Calls Tryz.prog 139 #[.int .i64 i, .pointer (some ⟨r, 0, none⟩), .pointer (some ⟨q, 0, none⟩)] W (PrE W0 W g (zht x i s)) := by
 have hC1 := Kd.C_below hC h.bel
 obtain ⟨ad, cs, rfl, -, hK, hcs⟩ := Kd.C_get hC1 (⟨#[]⟩ : ByteArray) (i : Int) (by omega) (by omega)
 rw [Int.toNat_natCast] at hK hcs
 have hK : cs = [Value.string (x.f5.getD i ⟨#[]⟩)] := hK
 subst hK
 have e0 : W.cell? (ad.add i) = some (.string (x.f5.getD i ⟨#[]⟩)) := by
  have := hcs 0 _ rfl
  have hs : Kd.string.sz = 1 := rfl
  rwa [hs, Nat.mul_one, Nat.add_zero] at this
 clear hcs
 have c0 : W.cell? ⟨r, 0, none⟩ = some (.pointer (some ⟨g, 0, none⟩)) := zae hr 0
 have c3 : W.cell? ⟨q, 5, none⟩ = some (.slice (some ad) x.f5.length c) := (zae hq 5).trans h3
 have HP := Zq.mk (fun w (h : PrS W0 w g s) => pmethod_one W0 w g s (x.f5.getD i ⟨#[]⟩) h hl)
 have HS := Zq.mk h
 unfold zht
 clear hl
 generalize x.f5.getD i ⟨#[]⟩ = p at e0 HP ⊢
 generalize x.f5.length = n at c3 hi hm
 clear hC hC1 hr hq h3 h
 go_enter Tryz.func139, Tryz.ntmps139
 go_wp2
 go_region_law (go_simp; go_at_call 140; refine (HP.out _ (by first | exact HS.out | exact HS.out.drew)).mono ?_; rintro e' w' ⟨rfl, hS1, hT1⟩)
 all_goals (first | go_end0 | (refine bodyPost_ret (results_none rfl _ _ _) rfl ?_))
 all_goals exact ⟨rfl, hS1, hT1.undrew⟩
end
end Go.Proofs.YtjeekocidaogoaaGreatDoor.H

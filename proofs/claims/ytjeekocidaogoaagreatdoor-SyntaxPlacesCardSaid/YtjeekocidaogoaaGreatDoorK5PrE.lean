/- The printer on conditions: parts, rows, conditions. -/
import Derived.Test.YtjeekocidaogoaaGreatDoorK5PrD
import Derived.Test.YtjeekocidaogoaaGreatDoorK5Deep
set_option linter.unusedVariables false
set_option linter.unusedSimpArgs false
set_option maxRecDepth 100000
set_option maxHeartbeats 8000000
namespace Go.Proofs.YtjeekocidaogoaaGreatDoor.H
open Go.RowKit Go.Proofs.YtjeekocidaogoaaGreatDoor.Hand Go.Proofs.YtjeekocidaogoaaGreatDoorW.PrintWords Go.Proofs.YtjeekocidaogoaaGreatDoorW.PrintLast Go.Proofs.YtjeekocidaogoaaGreatDoorW.PrintMore
section
def Wide : Nat → S60 → Prop
  | 0, _ => True
  | k + 1, x => zmf x.f4 ∧ ∀ y ∈ x.f6, Wide k y
def zke (W0 : World) (g k : Nat) : Prop := ∀ (x : S60) (v : Value) (W : World) (s : PQ), zcu W0 x v → PrS W0 W g s → Wide k x → s.out.length + zck k x ≤ 140737488351232 →
  Calls Tryz.prog 70 #[.pointer (some ⟨g, 0, none⟩), v, .int .i64 (17 - (k : Int))] W (PrE W0 W g (zbg k x s))
theorem zjl {f : S60 → PQ → PQ} {c : Nat} {least : Int} {x : S60} (hf : ∀ s, (f x s).out.length ≤ s.out.length + c) (s : PQ) : (zgk f least x s).out.length ≤ s.out.length + c + 2 := by
  unfold zgk
  split
  · omega
  · split
    · have := hf s; omega
    · have := hf (s.signs [40])
      rw [zbm] at this ⊢
      show _ + 1 ≤ _
      have h1 : ([40] : List UInt8).length = 1 := rfl
      omega
theorem zkv {f : S60 → PQ → PQ} {c : S60 → Nat} {word : List UInt8} {least : Int} (hw : word.length ≤ 6) : ∀ (l : List S60) (first : Bool) (s : PQ), (∀ x ∈ l, ∀ s, (f x s).out.length ≤ s.out.length + c x) →
    (zhd f word least l first s).out.length ≤ s.out.length + (l.map fun y => c y + 10).sum
  | [], _, s, _ => by simp [zhd]
  | x :: r, first, s, h => by
    have h1 := zkv (least := least) hw r false (zgk f least x (if first = true then s else s.one word)) (fun y hy => h y (List.mem_cons_of_mem _ hy))
    have h2 := zjl (least := least) (h x List.mem_cons_self) (if first = true then s else s.one word)
    have h3 : (if first = true then s else s.one word).out.length ≤ s.out.length + 7 := by
      split
      · omega
      · have := zbx word s; omega
    rw [List.map_cons, List.sum_cons]
    show (zhd f word least r false _).out.length ≤ _
    omega
theorem zgd (t : ByteArray) (s : PQ) : (zbf t s).out.length ≤ s.out.length + t.size + 1 := by
  have := zbx (bl t) (s.must (zgs t))
  rw [zbj, zbc] at this
  exact this
theorem zna {one : Nat → PQ → PQ} {cs R : Nat → Nat} {n : Nat} (hlen : ∀ i s, i < n → (one i s).out.length ≤ s.out.length + cs i) (hR : ∀ i, i < n → cs i + 1 + R (i + 1) ≤ R i) : ∀ (m i : Nat) (s : PQ), i + m = n → (zmc one m i s).out.length ≤ s.out.length + R i
  | 0, i, s, _ => by simp [zmc]
  | m + 1, i, s, h => by
    unfold zmc
    split
    · omega
    · have h1 := zna hlen hR m (i + 1) (one i (if i = 0 then s else s.signs [44])) (by omega)
      have h2 := hlen i (if i = 0 then s else s.signs [44]) (by omega)
      have h3 := hR i (by omega)
      have h4 : (if i = 0 then s else s.signs [44]).out.length ≤ s.out.length + 1 := by
        split
        · omega
        · rw [zbm]; exact Nat.le_refl _
      omega
theorem zjp {one : Nat → PQ → PQ} {cs R : Nat → Nat} {n : Nat} (word : List UInt8) (hlen : ∀ i s, i < n → (one i s).out.length ≤ s.out.length + cs i) (hR : ∀ i, i < n → cs i + 1 + R (i + 1) ≤ R i) (s : PQ) : (zjq word n one s).out.length ≤ s.out.length + word.length + 6 + R 0 := by
  unfold zjq
  rw [zbm]
  have h1 := zna hlen hR n 0 ((((s.must (decide (1 ≤ n) && decide (n ≤ 32))).one word).one [105, 110]).signs [123]) (by omega)
  have h2 := zbx [105, 110] ((s.must (decide (1 ≤ n) && decide (n ≤ 32))).one word)
  have h3 := zbx word (s.must (decide (1 ≤ n) && decide (n ≤ 32)))
  rw [zbm] at h1
  rw [zbc] at h3
  have e1 : ([105, 110] : List UInt8).length = 2 := rfl
  have e2 : ([123] : List UInt8).length = 1 := rfl
  have e3 : ([125] : List UInt8).length = 1 := rfl
  omega
theorem atomQ_len (x : S60) (s : PQ) (hw : zmf x.f4) : (zfa x s).out.length ≤ s.out.length + 900 + 30 * x.f3.length + 90 * x.f4.length + (x.f5.map fun t => t.size + 10).sum := by
  have hl1 : zrk.length = 4 := rfl
  have hl2 : zrj.length = 4 := rfl
  have hl3 : zox.length = 6 := rfl
  have hl4 : zgj.length = 4 := rfl
  have hl5 : zcq.length = 6 := rfl
  have hl6 : wHas.length = 3 := rfl
  have hl7 : ([126] : List UInt8).length = 1 := rfl
  unfold zfa
  repeat' split
  · have := zjp (one := zot x) (cs := fun _ => 20) (R := fun i => (x.f3.length - i) * 21) (n := x.f3.length) zrk (fun i s hin => Nat.le_trans (zjj _ _ _) (by omega)) (fun i hin => by omega) (s.must (zba x false false true false false false))
    rw [zbc] at this
    simp only [Nat.sub_zero] at this
    omega
  · have := zjp (one := zku x) (cs := fun _ => 80) (R := fun i => (x.f4.length - i) * 81) (n := x.f4.length) zrj (fun i s hin => by
      have hw1 := hw (x.f4.getD i z68) (by rw [List.getD_eq_getElem?_getD, List.getElem?_eq_getElem hin]; exact List.getElem_mem _)
      exact Nat.le_trans (zkt _ _ _ hw1.1.1 hw1.1.2 hw1.2.1 hw1.2.2) (by omega)) (fun i hin => by omega) (s.must (zba x false false false true false false))
    rw [zbc] at this
    simp only [Nat.sub_zero] at this
    omega
  · have := zjp (one := zht x) (cs := fun i => (x.f5.getD i ⟨#[]⟩).size + 1) (R := fun i => ((x.f5.drop i).map fun t => t.size + 10).sum) (n := x.f5.length) zox (fun i s hin => zjo _ _) (fun i hin => by rw [zgz x.f5 i hin]; omega) (s.must (zba x false false false false true false))
    rw [zbc] at this
    simp only [List.drop_zero] at this
    omega
  · have h1 := zdg x.f2 (((s.must (zba x false true false false false false)).one zgj).signs [126])
    have h2 := zbx zgj (s.must (zba x false true false false false false))
    rw [zbm] at h1
    rw [zbc] at h2
    omega
  · have h1 := zdg x.f2 ((zbv x.f1 ((s.must (zba x true true false false false false)).one zcq)).signs [126])
    have h2 := zdg x.f1 ((s.must (zba x true true false false false false)).one zcq)
    have h3 := zbx zcq (s.must (zba x true true false false false false))
    rw [zbm] at h1
    rw [zbc] at h3
    omega
  · have h1 := zdg x.f1 ((s.must (zba x true false false false false false)).one wHas)
    have h2 := zbx wHas (s.must (zba x true false false false false false))
    rw [zbc] at h2
    omega
  · rw [zbc]; omega
theorem zhp {α : Type} (f : α → Nat) : ∀ (l : List α) (x : α), x ∈ l → f x ≤ (l.map f).sum
  | a :: l, x, h => by
    rw [List.map_cons, List.sum_cons]
    rcases List.mem_cons.1 h with rfl | h
    · omega
    · have := zhp f l x h; omega
theorem zfd : ∀ (k : Nat) (x : S60) (s : PQ), Wide k x → (zbg k x s).out.length ≤ s.out.length + zck k x
  | 0, x, s, _ => by simp [zbg, zbc]
  | k + 1, x, s, hw => by
    have hl1 : zqg.length = 4 := rfl
    have hl2 : zny.length = 5 := rfl
    have hl3 : wNot.length = 3 := rfl
    have hl4 : wAnd.length = 3 := rfl
    have hl5 : wOr.length = 2 := rfl
    have ih : ∀ y ∈ x.f6, ∀ s, (zbg k y s).out.length ≤ s.out.length + zck k y := fun y hy s => zfd k y s (hw.2 y hy)
    have hrow : ∀ (word : List UInt8) (least : Int) (s : PQ), word.length ≤ 6 → (rowQ (zbg k) word least x s).out.length ≤ s.out.length + (x.f6.map fun y => zck k y + 10).sum := fun word least s hw6 => by
      unfold rowQ
      have := zkv (f := zbg k) (c := zck k) (word := word) (least := least) hw6 x.f6 true (s.must (zba x false false false false false true && (decide (2 ≤ x.f6.length) && decide (x.f6.length ≤ 32)))) ih
      rwa [zbc] at this
    unfold zbg zck
    split
    · omega
    split
    · have := zbx zqg (s.must (zba x false false false false false false)); rw [zbc] at this; omega
    split
    · have := zbx zny (s.must (zba x false false false false false false)); rw [zbc] at this; omega
    split
    · have := zgd x.f1 (s.must (zba x true false false false false false)); rw [zbc] at this; omega
    split
    · split
      · rw [zbc]; omega
      · rename_i hb
        have h1 := zbx wNot (s.must (zba x false false false false false true && decide (x.f6.length = 1)))
        rw [zbc] at h1
        have hlen : x.f6.length = 1 := by
          by_cases hc : x.f6.length = 1
          · exact hc
          · exact absurd (by simp [PQ.must, hc]) hb
        have hm : x.f6.getD 0 z60 ∈ x.f6 := by
          rw [List.getD_eq_getElem?_getD, List.getElem?_eq_getElem (by omega)]; exact List.getElem_mem _
        have h2 := zjl (least := 2) (ih _ hm) ((s.must (zba x false false false false false true && decide (x.f6.length = 1))).one wNot)
        have h3 := zhp (fun y => zck k y + 10) x.f6 _ hm
        omega
    split
    · have := hrow wAnd 2 s (by omega); omega
    split
    · have := hrow wOr 1 s (by omega); omega
    · have := atomQ_len x s hw.1; omega
section
variable (W0 : World) (g : Nat)
theorem zkw (k : Nat) (IH : zke W0 g k) (x : S60) (v : Value) (W : World) (s : PQ) (least : Int) (hA : zcu W0 x v) (h : PrS W0 W g s) (hw : Wide k x) (hl : s.out.length + zck k x + 2 ≤ 140737488351232) :
    Calls Tryz.prog 105 #[.pointer (some ⟨g, 0, none⟩), v, .int .i64 least, .int .i64 (17 - (k : Int))] W (PrE W0 W g (zgk (zbg k) least x s)) := by
  have hHA := Zq.mk hA
  obtain ⟨cs, hK, rfl⟩ := hA
  obtain ⟨A3, c3, A4, c4, A5, c5, A6, c6, rfl, -⟩ := zbo hK
  have HA := hHA
  have hg0 := h.lt
  have HX := Zq.mk (h.alloc (.cells #[.int .i64 x.f0, .string x.f1, .string x.f2, .slice A3 x.f3.length c3, .slice A4 x.f4.length c4, .slice A5 x.f5.length c5, .slice A6 x.f6.length c6, .int .i64 x.f7] 60))
  have HT := Zq.mk ((Stp.refl W g).alloc hg0 (.cells #[.int .i64 x.f0, .string x.f1, .string x.f2, .slice A3 x.f3.length c3, .slice A4 x.f4.length c4, .slice A5 x.f5.length c5, .slice A6 x.f6.length c6, .int .i64 x.f7] 60))
  have HQ := Zq.mk (heap_alloc_new W (.cells #[.int .i64 x.f0, .string x.f1, .string x.f2, .slice A3 x.f3.length c3, .slice A4 x.f4.length c4, .slice A5 x.f5.length c5, .slice A6 x.f6.length c6, .int .i64 x.f7] 60))
  have HLo := Zq.mk (fun w (h : PrS W0 w g s) => zcn W0 w g s h (by omega))
  obtain ⟨A, c, a0, a1, a2, f0, f1, f2, -, -⟩ := HX.out.facts
  have hlen := zfd k x
  unfold zgk
  by_cases hb : s.bad = true
  · rw [if_pos (by rw [hb]; rfl)]
    rw [hb] at a2
    clear h hK hl hlen hHA IH hw hb
    go_enter Tryz.func105, Tryz.ntmps105
    go_wp2
    first | go_end0 | (refine bodyPost_ret (results_none rfl _ _ _) rfl ?_)
    exact ⟨rfl, HX.out, HT.out⟩
  · have hb : s.bad = false := by simpa using hb
    rw [hb] at a2 ⊢
    by_cases hlo : zds s = true
    · rw [if_pos (by rw [hlo]; rfl)]
      have HLo := Zq.mk (show ∀ w, PrS W0 w g s → Calls Tryz.prog 66 #[.pointer (some ⟨g, 0, none⟩)] w fun e w' => e = .returned (.bool true) ∧ w' = w from fun w h => by have := HLo.out w h; rwa [show decide (8000 < s.out.length) = true from hlo] at this)
      clear h hK hl hlen hHA IH hw hb hlo
      go_enter Tryz.func105, Tryz.ntmps105
      go_wp2_with (go_at_call 66; refine (HLo.out _ HX.out).mono ?_; rintro e1 w1 ⟨rfl, rfl⟩)
      first | go_end0 | (refine bodyPost_ret (results_none rfl _ _ _) rfl ?_)
      exact ⟨rfl, HX.out, HT.out⟩
    · have hlo : zds s = false := by simpa using hlo
      rw [if_neg (by rw [hlo]; decide)]
      have HLo := Zq.mk (show ∀ w, PrS W0 w g s → Calls Tryz.prog 66 #[.pointer (some ⟨g, 0, none⟩)] w fun e w' => e = .returned (.bool false) ∧ w' = w from fun w h => by have := HLo.out w h; rwa [show decide (8000 < s.out.length) = false from hlo] at this)
      have HBi := Zq.mk (fun w (h : Below W0.heap.size W0 w) => binds_calls w x _ (HA.out.below h))
      by_cases hbi : least ≤ zig x.f0
      · rw [if_pos hbi]
        have HC := Zq.mk (fun w (h : PrS W0 w g s) => IH x _ w s HA.out h hw (by omega))
        generalize zbg k x s = sf at HC ⊢
        generalize zig x.f0 = b at HBi hbi
        clear h hK hl hlen hHA IH hw hb hlo HA
        go_enter Tryz.func105, Tryz.ntmps105
        go_wp2_with (first
          | (go_at_call 66; refine (HLo.out _ HX.out).mono ?_; rintro e1 w1 ⟨rfl, rfl⟩)
          | (go_at_call 133; refine (HBi.out _ HX.out.bel).mono ?_; rintro e1 w1 ⟨rfl, hb1⟩; have HS1 := Zq.mk (HX.out.below hb1); have HT1 := Zq.mk (HT.out.below HX.out.lt hb1); have hq1 := (hb1.block _ (zat HQ.out)).trans HQ.out; obtain ⟨q0, q1, q2, q3, q4, q5, q6, q7⟩ := zau hq1; clear hb1 hq1 a0 a1 a2)
          | (go_at_call 70; refine (HC.out _ HS1.out).mono ?_; rintro e2 w2 ⟨rfl, hS2, hT2⟩))
        first | go_end0 | (refine bodyPost_ret (results_none rfl _ _ _) rfl ?_)
        exact ⟨rfl, hS2, HT1.out.trans hT2⟩
      · rw [if_neg hbi]
        have hbi : zig x.f0 < least := by omega
        have e40 : ([40] : List UInt8).length = 1 := rfl
        have HG1 := Zq.mk (fun w (h : PrS W0 w g s) => show Calls Tryz.prog 69 #[.pointer (some ⟨g, 0, none⟩), .string ⟨#[40]⟩] w (PrE W0 w g (s.signs [40])) from zbp W0 w g s ⟨#[40]⟩ h (by show _ + 1 ≤ _; omega))
        have HC := Zq.mk (fun w (h : PrS W0 w g (s.signs [40])) => IH x _ w _ HA.out h hw (by rw [zbm]; omega))
        have HG2 := Zq.mk (fun w (h : PrS W0 w g (zbg k x (s.signs [40]))) => show Calls Tryz.prog 69 #[.pointer (some ⟨g, 0, none⟩), .string ⟨#[41]⟩] w (PrE W0 w g ((zbg k x (s.signs [40])).signs [41])) from zbp W0 w g _ ⟨#[41]⟩ h (by have := hlen (s.signs [40]) hw; rw [zbm] at this; show _ + 1 ≤ _; omega))
        generalize (zbg k x (s.signs [40])).signs [41] = sf at HG2 ⊢
        generalize zbg k x (s.signs [40]) = s2 at HC HG2
        generalize s.signs [40] = s1 at HG1 HC
        generalize zig x.f0 = b at HBi hbi
        clear h hK hl hlen hHA IH hw hb hlo HA e40
        go_enter Tryz.func105, Tryz.ntmps105
        go_wp2_with (first
          | (go_at_call 66; refine (HLo.out _ HX.out).mono ?_; rintro e1 w1 ⟨rfl, rfl⟩)
          | (go_at_call 133; refine (HBi.out _ HX.out.bel).mono ?_; rintro e1 w1 ⟨rfl, hb1⟩; have HS1 := Zq.mk (HX.out.below hb1); have HT1 := Zq.mk (HT.out.below HX.out.lt hb1); have hq1 := (hb1.block _ (zat HQ.out)).trans HQ.out; have HQ1 := Zq.mk hq1; clear hb1 hq1 a0 a1 a2)
          | (go_at_call 69; refine (HG1.out _ HS1.out).mono ?_; rintro e2 w2 ⟨rfl, hS2, hT2⟩; have hq2 := hT2.keep HS1.out HQ1.out (by decide) (by decide); have HS2 := Zq.mk hS2; have HT2 := Zq.mk (HT1.out.trans hT2); obtain ⟨q0, q1, q2, q3, q4, q5, q6, q7⟩ := zau hq2; clear hS2 hT2 hq2 HG1)
          | (go_at_call 70; refine (HC.out _ HS2.out).mono ?_; rintro e3 w3 ⟨rfl, hS3, hT3⟩; have HS3 := Zq.mk hS3; have HT3 := Zq.mk (HT2.out.trans hT3); clear hS3 hT3)
          | (go_at_call 69; refine (HG2.out _ HS3.out).mono ?_; rintro e4 w4 ⟨rfl, hS4, hT4⟩))
        first | go_end0 | (refine bodyPost_ret (results_none rfl _ _ _) rfl ?_)
        exact ⟨rfl, hS4, HT3.out.trans hT4⟩
theorem zks (k : Nat) (hk : k ≤ 16) (IH : zke W0 g k) (x : S60) (v : Value) (W : World) (s : PQ) (word : ByteArray) (least : Int) (hA : zcu W0 x v) (h : PrS W0 W g s) (hw : ∀ y ∈ x.f6, Wide k y) (hwd : word.size ≤ 3) (hn6 : x.f6.length ≤ 140737488351232) (hl : s.out.length + (x.f6.map fun y => zck k y + 10).sum + 20 ≤ 140737488351232) :
    Calls Tryz.prog 106 #[.pointer (some ⟨g, 0, none⟩), v, .string word, .int .i64 least, .int .i64 (16 - (k : Int))] W (PrE W0 W g (rowQ (zbg k) word.data.toList least x s)) := by
  have HA := Zq.mk hA
  obtain ⟨cs, hK, rfl⟩ := hA
  obtain ⟨A3, c3, A4, c4, A5, c5, A6, c6, rfl, l3, g3, l4, g4, l5, g5, l6, g6⟩ := zbo hK
  have hg0 := h.lt
  have HX := Zq.mk (h.alloc (.cells #[.int .i64 x.f0, .string x.f1, .string x.f2, .slice A3 x.f3.length c3, .slice A4 x.f4.length c4, .slice A5 x.f5.length c5, .slice A6 x.f6.length c6, .int .i64 x.f7] 60))
  have HT := Zq.mk ((Stp.refl W g).alloc hg0 (.cells #[.int .i64 x.f0, .string x.f1, .string x.f2, .slice A3 x.f3.length c3, .slice A4 x.f4.length c4, .slice A5 x.f5.length c5, .slice A6 x.f6.length c6, .int .i64 x.f7] 60))
  have HQ := Zq.mk (heap_alloc_new W (.cells #[.int .i64 x.f0, .string x.f1, .string x.f2, .slice A3 x.f3.length c3, .slice A4 x.f4.length c4, .slice A5 x.f5.length c5, .slice A6 x.f6.length c6, .int .i64 x.f7] 60))
  have HG6 := Zq.mk g6
  have HB := Zq.mk (fun w (h : Below W0.heap.size W0 w) => zct w x _ (HA.out.below h) false false false false false true)
  have HMa := Zq.mk (fun w b (h : PrS W0 w g s) => zbe W0 w g s b h)
  have HPa : Zq (∀ y v w s, y ∈ x.f6 → zcu W0 y v → PrS W0 w g s → s.out.length + zck k y + 2 ≤ 140737488351232 → Calls Tryz.prog 105 #[.pointer (some ⟨g, 0, none⟩), v, .int .i64 least, .int .i64 (16 - (k : Int) + 1)] w (PrE W0 w g (zgk (zbg k) least y s))) :=
    ⟨fun y v w s hy h1 h2 hl => by have := zkw W0 g k IH y v w s least h1 h2 (hw y hy) hl; rwa [show (17 : Int) - (k : Int) = 16 - (k : Int) + 1 by omega] at this⟩
  have HWo := Zq.mk (fun w s (h : PrS W0 w g s) hl => zbs W0 w g s word h hl)
  have HLn := Zq.mk (fun y (hy : y ∈ x.f6) s => zjl (f := zbg k) (c := zck k y) (least := least) (fun s => zfd k y s (hw y hy)) s)
  generalize hsf : rowQ (zbg k) word.data.toList least x s = sf
  unfold rowQ at hsf
  have hcase : ∃ b, (zba x false false false false false true && (decide (2 ≤ x.f6.length) && decide (x.f6.length ≤ 32))) = b ∧
      ((b = false ∧ zba x false false false false false true = false ∧ True ∧ True) ∨ (b = false ∧ zba x false false false false false true = true ∧ x.f6.length < 2 ∧ True) ∨ (b = false ∧ zba x false false false false false true = true ∧ 2 ≤ x.f6.length ∧ decide ((x.f6.length : Int) ≤ 32) = false) ∨ (b = true ∧ zba x false false false false false true = true ∧ 2 ≤ x.f6.length ∧ decide ((x.f6.length : Int) ≤ 32) = true)) := by
    refine ⟨_, rfl, ?_⟩
    cases hb : zba x false false false false false true with
    | false => exact .inl ⟨rfl, rfl, trivial, trivial⟩
    | true =>
      by_cases h2 : 2 ≤ x.f6.length
      · by_cases h3 : x.f6.length ≤ 32
        · exact .inr (.inr (.inr ⟨by simp [h2, h3], rfl, h2, by simp; omega⟩))
        · exact .inr (.inr (.inl ⟨by simp [h3], rfl, h2, by simp; omega⟩))
      · exact .inr (.inl ⟨by simp [h2], rfl, by omega, trivial⟩)
  obtain ⟨b, hb, hcase⟩ := hcase
  rw [hb] at hsf
  clear hb
  have HSF := Zq.mk hsf
  have HZ := Zq.mk hl
  have hkk : Zq (k ≤ 16) := ⟨hk⟩
  have hk0 : (0 : Int) ≤ 16 - (k : Int) := by omega
  have hk1 : 16 - (k : Int) ≤ 16 := by omega
  have hkw : Zq ((16 : Int) - (k : Int) + 1 = 17 - (k : Int)) := ⟨by omega⟩
  have hm6 : Zq (∀ i, i < x.f6.length → x.f6.getD i z60 ∈ x.f6) := ⟨fun i hi => by rw [List.getD_eq_getElem?_getD, List.getElem?_eq_getElem hi]; exact List.getElem_mem _⟩
  clear h hK hl hw hsf hk g3 g4 g5 g6 l3 l4 l5 hg0
  generalize zba x false false false false false true = bb at HB hcase
  rcases hcase with ⟨rfl, rfl, h1, h2⟩ | ⟨rfl, rfl, h1, h2⟩ | ⟨rfl, rfl, h1, h2⟩ | ⟨rfl, rfl, h1, h2⟩
  all_goals
    go_enter Tryz.func106, Tryz.ntmps106
    go_wp2_with (first
      | (go_at_call 104; refine (HB.out _ HX.out.bel).mono ?_; rintro e1 w1 ⟨rfl, hb1⟩; have HS1 := Zq.mk (HX.out.below hb1); have HT1 := Zq.mk (HT.out.below HX.out.lt hb1); have hq1 := (hb1.block _ (zat HQ.out)).trans HQ.out; have HQ1 := Zq.mk hq1; obtain ⟨q0, q1, q2, q3, q4, q5, q6, q7⟩ := zau hq1; clear hb1 hq1)
      | (go_at_call 65; refine (HMa.out _ _ HS1.out).mono ?_; rintro e2 w2 ⟨rfl, hS2, hT2⟩; have hq2 := hT2.keep HS1.out HQ1.out (by decide) (by decide); have HS2 := Zq.mk hS2; have HT2 := Zq.mk (HT1.out.trans hT2); have HQ2 := Zq.mk hq2; obtain ⟨y0, y1, y2, y3, y4, y5, y6, y7⟩ := zau hq2; clear hS2 hT2 hq2 q0 q1 q2 q3 q4 q5 q6 q7))
    clear y0 y1 y2 y3 y4 y5 y6 y7
    have H1 := Zq.mk h1
    clear h1 h2 HB HMa HX HT HQ HS1 HT1 HQ1
    go_loopw [31] (fun i wr => ∃ k' : Nat, ∃ s', k' ≤ x.f6.length ∧ i = .int .i64 k' ∧ Zq (PrS W0 wr g s') ∧ Zq (Stp W wr g) ∧ Zq (zhd (zbg k) word.data.toList least (x.f6.drop k') (decide (k' = 0)) s' = sf) ∧ Zq (s'.out.length + ((x.f6.drop k').map fun y => zck k y + 10).sum + 10 ≤ 140737488351232)) (fun i _ => x.f6.length - (intOf i).toNat)
    case atStart => exact ⟨0, _, Nat.zero_le _, rfl, HS2, HT2, HSF, ⟨by have := HZ.out; rw [zbc]; show _ + (x.f6.map _).sum + 10 ≤ _; omega⟩⟩
    case round =>
      clear HS2 HT2 HQ2 HSF HZ
      obtain ⟨k', s', hk', rfl, HSk, HTk, HFk, HBk⟩ := hrel
      by_cases hlt : k' < x.f6.length
      · obtain ⟨ad, B3, d3, B4, d4, B5, d5, B6, d6, rfl, x0, x1, x2, x3, x4, x5, x6, x7, m3, e3, m4, e4, m5, e5, m6, e6⟩ := zij HG6.out (k' : Int) (by omega) (by omega)
        have hrd : zax x.f6 (k' : Int) = x.f6.getD k' z60 := by unfold zax; rw [Int.toNat_natCast]
        rw [hrd] at x0 x1 x2 x3 x4 x5 x6 x7 m3 e3 m4 e4 m5 e5 m6 e6
        rw [Int.toNat_natCast] at x0 x1 x2 x3 x4 x5 x6 x7
        have hym := hm6.out k' hlt
        have hfk := HFk.out
        have hdr : x.f6.drop k' = x.f6.getD k' z60 :: x.f6.drop (k' + 1) := by
          rw [List.drop_eq_getElem_cons hlt, List.getD_eq_getElem?_getD, List.getElem?_eq_getElem hlt]; rfl
        rw [hdr] at hfk
        have hbk := HBk.out
        rw [hdr, List.map_cons, List.sum_cons] at hbk
        have HB3 := Zq.mk hbk
        clear hrd hdr hbk HBk HFk
        generalize x.f6.getD k' z60 = y at x0 x1 x2 x3 x4 x5 x6 x7 m3 e3 m4 e4 m5 e5 m6 e6 hym hfk HB3
        have hbel := HSk.out.bel
        have x0 := zao hbel x0
        have x1 := zao hbel x1
        have x2 := zao hbel x2
        have x3 := zao hbel x3
        have x4 := zao hbel x4
        have x5 := zao hbel x5
        have x6 := zao hbel x6
        have x7 := zao hbel x7
        have HAy := Zq.mk (show zcu W0 y (.agg #[.int .i64 y.f0, .string y.f1, .string y.f2, .slice B3 y.f3.length d3, .slice B4 y.f4.length d4, .slice B5 y.f5.length d5, .slice B6 y.f6.length d6, .int .i64 y.f7]) from ⟨_, zhg W0 y m3 e3 m4 e4 m5 e5 m6 e6, rfl⟩)
        have HYm := Zq.mk hym
        have HFk := Zq.mk (show zhd (zbg k) word.data.toList least (x.f6.drop (k' + 1)) false (zgk (zbg k) least y (if decide (k' = 0) = true then s' else s'.one word.data.toList)) = sf from hfk)
        clear hbel m3 e3 m4 e4 m5 e5 m6 e6 hym hfk
        by_cases h0 : k' = 0
        · have HFk := Zq.mk (show zhd (zbg k) word.data.toList least (x.f6.drop (k' + 1)) (decide (k' + 1 = 0)) (zgk (zbg k) least y s') = sf from by have := HFk.out; rw [if_pos (by simp [h0])] at this; rw [show decide (k' + 1 = 0) = false by simp]; exact this)
          have hz : ¬ 0 < k' := by omega
          have HN := Zq.mk (show (zgk (zbg k) least y s').out.length + ((x.f6.drop (k' + 1)).map fun y => zck k y + 10).sum + 10 ≤ 140737488351232 from by have h1 := HB3.out; have h2 := HLn.out y HYm.out s'; omega)
          have HZ := Zq.mk (show s'.out.length + zck k y + 2 ≤ 140737488351232 from by have h1 := HB3.out; omega)
          have HAl := Zq.mk (HSk.out.alloc (.cells #[.int .i64 y.f0, .string y.f1, .string y.f2, .slice B3 y.f3.length d3, .slice B4 y.f4.length d4, .slice B5 y.f5.length d5, .slice B6 y.f6.length d6, .int .i64 y.f7] 60))
          have HTl := Zq.mk (HTk.out.alloc HSk.out.lt (.cells #[.int .i64 y.f0, .string y.f1, .string y.f2, .slice B3 y.f3.length d3, .slice B4 y.f4.length d4, .slice B5 y.f5.length d5, .slice B6 y.f6.length d6, .int .i64 y.f7] 60))
          clear h0 HB3
          go_wp2_with (go_at_call 105; refine (HPa.out y _ _ s' HYm.out HAy.out HAl.out HZ.out).mono ?_; rintro e4 w4 ⟨rfl, hS4, hT4⟩; have HS4 := Zq.mk hS4; have HT4 := Zq.mk (HTl.out.trans hT4); clear hS4 hT4)
          all_goals
            go_roundw
            case rel => exact ⟨k' + 1, _, by omega, by go_num, HS4, HT4, HFk, HN⟩
            case measure => simp [intOf]; omega
        · have HFk := Zq.mk (show zhd (zbg k) word.data.toList least (x.f6.drop (k' + 1)) (decide (k' + 1 = 0)) (zgk (zbg k) least y (s'.one word.data.toList)) = sf from by have := HFk.out; rw [if_neg (by simp [h0])] at this; rw [show decide (k' + 1 = 0) = false by simp]; exact this)
          have hz : 0 < k' := by omega
          have hol := zbx word.data.toList s'
          have hwl : word.data.toList.length = word.size := rfl
          have HN := Zq.mk (show (zgk (zbg k) least y (s'.one word.data.toList)).out.length + ((x.f6.drop (k' + 1)).map fun y => zck k y + 10).sum + 10 ≤ 140737488351232 from by have h1 := HB3.out; have h2 := HLn.out y HYm.out (s'.one word.data.toList); omega)
          have HZ := Zq.mk (show (s'.one word.data.toList).out.length + zck k y + 2 ≤ 140737488351232 from by have h1 := HB3.out; omega)
          have HZ1 := Zq.mk (show s'.out.length + word.size + 1 ≤ 140737488355328 from by have h1 := HB3.out; omega)
          have HAl := Zq.mk (HSk.out.alloc (.cells #[.int .i64 y.f0, .string y.f1, .string y.f2, .slice B3 y.f3.length d3, .slice B4 y.f4.length d4, .slice B5 y.f5.length d5, .slice B6 y.f6.length d6, .int .i64 y.f7] 60))
          have HTl := Zq.mk (HTk.out.alloc HSk.out.lt (.cells #[.int .i64 y.f0, .string y.f1, .string y.f2, .slice B3 y.f3.length d3, .slice B4 y.f4.length d4, .slice B5 y.f5.length d5, .slice B6 y.f6.length d6, .int .i64 y.f7] 60))
          have HQl := Zq.mk (heap_alloc_new wr (.cells #[.int .i64 y.f0, .string y.f1, .string y.f2, .slice B3 y.f3.length d3, .slice B4 y.f4.length d4, .slice B5 y.f5.length d5, .slice B6 y.f6.length d6, .int .i64 y.f7] 60))
          have hw1 := HWo.out _ s' HAl.out HZ1.out
          rw [World.size_alloc] at hw1
          have HW1 := Zq.mk hw1
          clear h0 HB3 hol hwl hw1
          first
            | exact absurd H1.out (by omega)
            | (go_wp2_with (first
                 | (go_at_call 67; refine HW1.out.mono ?_; rintro e3 w3 ⟨rfl, hS3, hT3⟩; have hq3 := hT3.keep HAl.out HQl.out (by decide) (by decide); have HS3 := Zq.mk hS3; have HT3 := Zq.mk (HTl.out.trans hT3); obtain ⟨q0, q1, q2, q3, q4, q5, q6, q7⟩ := zau hq3; clear hS3 hT3 hq3)
                 | (go_at_call 105; refine (HPa.out y _ _ _ HYm.out HAy.out HS3.out HZ.out).mono ?_; rintro e4 w4 ⟨rfl, hS4, hT4⟩; have HS4 := Zq.mk hS4; have HT4 := Zq.mk (HT3.out.trans hT4); clear hS4 hT4))
               all_goals
                 go_roundw
                 case rel => exact ⟨k' + 1, _, by omega, by go_num, HS4, HT4, HFk, HN⟩
                 case measure => simp [intOf]; omega)
      · obtain rfl : k' = x.f6.length := by omega
        have hf := HFk.out
        rw [List.drop_length] at hf
        clear HFk HBk
        go_wp2
        all_goals (first | go_end0 | (refine bodyPost_ret (results_none rfl _ _ _) rfl ?_))
        all_goals exact ⟨rfl, hf ▸ HSk.out, HTk.out⟩
end
end
end Go.Proofs.YtjeekocidaogoaaGreatDoor.H

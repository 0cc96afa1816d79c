/- The printer on policies: printed, Print, Right. -/
/- Same: the walk. -/
/- The chapter's first example: what Parse and Print answer. -/
import Derived.Test.YtjeekocidaogoaaGreatDoorK5PrF
import Derived.Test.YtjeekocidaogoaaGreatDoorK5Src
import Derived.Test.YtjeekocidaogoaaGreatDoorK5Sa0
import Derived.Test.YtjeekocidaogoaaGreatDoorK5Pure6
set_option linter.unusedVariables false
set_option linter.unusedSimpArgs false
set_option maxRecDepth 100000
set_option maxHeartbeats 8000000
namespace Go.Proofs.YtjeekocidaogoaaGreatDoor.H
open Go.RowKit Go.Proofs.YtjeekocidaogoaaGreatDoor.Hand Go.Proofs.YtjeekocidaogoaaGreatDoorW.PrintWords Go.Proofs.YtjeekocidaogoaaGreatDoorW.PrintLast Go.Proofs.YtjeekocidaogoaaGreatDoorW.PrintMore
section
def wLet : List UInt8 := [108, 101, 116]
def zda : List UInt8 := [97, 108, 108, 111, 119]
def zei : List UInt8 := [100, 101, 110, 121]
def zdj : List UInt8 := [119, 104, 101, 110]
def zgf (x : S62) (s : PQ) : Option PQ :=
 if x.f0 = 1 then some ((zbf x.f1 (s.one wLet)).signs [61])
 else if x.f0 = 2 then some ((zbf x.f1 (s.one zda)).one zdj)
 else if x.f0 = 3 then some ((zbf x.f1 (s.one zei)).one zdj)
 else none
def zeh : List S62 → PQ → Option PQ
 | [], s => some s
 | x :: r, s => if (s.bad || zds s) = true then none else match zgf x s with
  | none => none
  | some t => zeh r ((zbg 16 x.f2 t).signs [59])
def zec (l : List S62) : List UInt8 × Bool := match zeh l ((⟨[], false, false⟩ : PQ).must (decide (l.length ≤ 100))) with
 | none => ([], false)
 | some s => (s.out, !s.bad && !zds s)
def zjy (l : List S62) : Nat := (l.map fun x => x.f1.size + zck 16 x.f2 + 20).sum
theorem bC_nums (l : List UInt8) : bC l = nums .u8 (l.map fun b => (b.toNat : Int)) := by simp [bC, nums]
theorem str_nums (l : List UInt8) : strOfNums (l.map fun b => (b.toNat : Int)) = tB l := zlr l
theorem pr_string {W0 W : World} {g : Nat} {s : PQ} {A : Option Addr} {c : Nat} (h : PrS W0 W g s) (hc : W.cell? ⟨g, 0, none⟩ = some (.slice A s.out.length c)) :
  (convert 64 9 (.slice A s.out.length c)).run Tryz.prog W = .ok (.string (tB s.out)) W := by
 obtain ⟨A', c', c0, -, -, -, -, -, hown, -⟩ := h.facts
 have e := Option.some.inj (hc.symm.trans c0)
 simp only [Value.slice.injEq] at e
 obtain ⟨rfl, -, rfl⟩ := e
 rw [bC_nums] at hown
 obtain ⟨A2, c2, e4, hr⟩ := own_reads hown
 simp only [Value.slice.injEq] at e4
 obtain ⟨rfl, -, rfl⟩ := e4
 rw [← str_nums]
 exact string_of_reads Tryz.underlying64 Tryz.underlying5 Tryz.underlying9 hr
theorem zcc {w : World} {q : Nat} {v0 v1 v2 v3 v4 v5 v6 v7 v8 v9 v10 : Value} (h : w.heap[q]? = some (.cells #[v0, v1, v2, v3, v4, v5, v6, v7, v8, v9, v10] 62 (0, 0))) :
  w.cell? ⟨q, 0, none⟩ = some v0 ∧ w.cell? ⟨q, 1, none⟩ = some v1 ∧ w.cell? ⟨q, 2, none⟩ = some v2 ∧ w.cell? ⟨q, 3, none⟩ = some v3 ∧ w.cell? ⟨q, 4, none⟩ = some v4 ∧ w.cell? ⟨q, 5, none⟩ = some v5 ∧ w.cell? ⟨q, 6, none⟩ = some v6 ∧ w.cell? ⟨q, 7, none⟩ = some v7 ∧ w.cell? ⟨q, 8, none⟩ = some v8 ∧ w.cell? ⟨q, 9, none⟩ = some v9 ∧ w.cell? ⟨q, 10, none⟩ = some v10 :=
 ⟨zae h 0, zae h 1, zae h 2, zae h 3, zae h 4, zae h 5, zae h 6, zae h 7, zae h 8, zae h 9, zae h 10⟩
theorem costI_drop (l : List S62) (i : Nat) (h : i < l.length) : zjy (l.drop i) = (l.getD i z62).f1.size + zck 16 (l.getD i z62).f2 + 20 + zjy (l.drop (i + 1)) := by
 unfold zjy
 rw [List.drop_eq_getElem_cons h, List.getD_eq_getElem?_getD, List.getElem?_eq_getElem h]
 simp only [List.map_cons, List.sum_cons, Option.getD_some]
def finQ : Option PQ → List UInt8 × Bool
 | none => ([], false)
 | some s => (s.out, !s.bad && !zds s)
def PrintE (W : World) (r : List UInt8 × Bool) (e : Ending) (W' : World) : Prop := e = .returned (.tuple #[.string (tB r.1), .bool r.2]) ∧ Below W.heap.size W W'
theorem zhb (W : World) (hInv : Inv W) (A : Option Addr) (c : Nat) (l : List S62) (hC : k62.C W A l.length l) (hc : l.length ≤ c) (hm : l.length ≤ 140737488351232) (hw : ∀ x ∈ l, Wide 16 x.f2) (hl : zjy l + 10 ≤ 140737488351232) :
  Calls Tryz.prog 42 #[.agg #[.slice A l.length c]] W (PrintE W (zec l)) := by
 have HInv := Zq.mk hInv
 have HC0 := Zq.mk hC
 have HWd := Zq.mk hw
 have hr : zec l = finQ (zeh l ((⟨[], false, false⟩ : PQ).must (decide (l.length ≤ 100)))) := by
  unfold zec finQ
  cases zeh l ((⟨[], false, false⟩ : PQ).must (decide (l.length ≤ 100))) <;> rfl
 rw [hr]
 generalize hrr : finQ (zeh l ((⟨[], false, false⟩ : PQ).must (decide (l.length ≤ 100)))) = r
 have HRR := Zq.mk hrr
 have HL := Zq.mk hl
 have HP0 := Zq.mk (show PrS W ((W.alloc (.cells #[.slice A l.length c] 36)).alloc (.cells #[.slice none 0 0, .bool false, .bool false] 116)) (W.heap.size + 1) ⟨[], false, false⟩ from by
  refine ⟨⟨.slice none 0 0, ?_, zpm _ _ _ _⟩, by omega, ((Below.refl _ _).alloc (Nat.le_refl _) _).alloc (by rw [World.size_alloc]; omega) _⟩
  have := heap_alloc_new (W.alloc (.cells #[.slice A l.length c] 36)) (.cells #[.slice none 0 0, .bool false, .bool false] 116)
  rw [World.size_alloc] at this
  exact this)
 have hB := zad (heap_alloc_new W (.cells #[.slice A l.length c] 36)) (.cells #[.slice none 0 0, .bool false, .bool false] 116)
 have HB0 := Zq.mk hB
 obtain ⟨W1g, hg⟩ : ∃ n, n = W.heap.size + 1 := ⟨_, rfl⟩
 have HMu := Zq.mk (fun w b (hb : b = decide (l.length ≤ 100)) (h : PrS W w (W.heap.size + 1) ⟨[], false, false⟩) => show Calls Tryz.prog 65 #[.pointer (some ⟨W.heap.size + 1, 0, none⟩), .bool b] w (PrE W w (W.heap.size + 1) ((⟨[], false, false⟩ : PQ).must (decide (l.length ≤ 100)))) from hb ▸ zbe W w _ _ _ h)
 have hso : ((⟨[], false, false⟩ : PQ).must (decide (l.length ≤ 100))).out = [] := rfl
 have hcase : (decide ((l.length : Int) ≤ 100) = true ∧ true = decide (l.length ≤ 100)) ∨ (decide ((l.length : Int) ≤ 100) = false ∧ false = decide (l.length ≤ 100)) := by
  by_cases h : l.length ≤ 100
  ·exact .inl ⟨by simp; omega, by simp [h]⟩
  ·exact .inr ⟨by simp; omega, by simp [h]⟩
 generalize (⟨[], false, false⟩ : PQ).must (decide (l.length ≤ 100)) = s0 at HRR HMu hso hrr
 clear hInv hC hw hr hrr hl hB
 rcases hcase with ⟨h100, h101⟩ | ⟨h100, h101⟩
 all_goals
  have H101 := Zq.mk h101
  clear h101
  go_enter Tryz.func42, Tryz.ntmps42
  go_wp2_with (go_at_call 65; refine (HMu.out _ _ H101.out HP0.out).mono ?_; rintro e1 w1 ⟨rfl, hS1, hT1⟩; have hq1 := hT1.keep HP0.out HB0.out (by decide) (by decide); have HS1 := Zq.mk hS1; have m0 := zae hq1 0; clear hS1 hT1 hq1)
  clear m0 HMu HP0 HB0 H101 h100
  skip
  simp only [← hg] at HS1 ⊢
  clear hg
  go_loopw [18] (fun i wr => ∃ k : Nat, ∃ s', k ≤ l.length ∧ i = .int .i64 k ∧ Zq (PrS W wr W1g s') ∧ Zq (finQ (zeh (l.drop k) s') = r) ∧ Zq (s'.out.length + zjy (l.drop k) + 10 ≤ 140737488351232)) (fun i _ => l.length - (intOf i).toNat)
  case atStart => exact ⟨0, s0, Nat.zero_le _, rfl, HS1, HRR, ⟨by rw [hso]; have := HL.out; show 0 + zjy l + 10 ≤ _; omega⟩⟩
  case round =>
   clear HS1 HRR HL hso
   obtain ⟨k, s', hk, rfl, HSk, HFk, HBk⟩ := hrel
   by_cases hlt : k < l.length
   ·obtain ⟨ad, B5, d5, B6, d6, B7, d7, B8, d8, rfl, x0, x1, x2, x3, x4, x5, x6, x7, x8, x9, x10, m5, e5, m6, e6, m7, e7, m8, e8⟩ := zor HC0.out (k : Int) (by omega) (by omega)
    have hrd : zcs l (k : Int) = l.getD k z62 := by unfold zcs; rw [Int.toNat_natCast]
    rw [hrd] at x0 x1 x2 x3 x4 x5 x6 x7 x8 x9 x10 m5 e5 m6 e6 m7 e7 m8 e8
    rw [Int.toNat_natCast] at x0 x1 x2 x3 x4 x5 x6 x7 x8 x9 x10
    have hdr : l.drop k = l.getD k z62 :: l.drop (k + 1) := by
     rw [List.drop_eq_getElem_cons hlt, List.getD_eq_getElem?_getD, List.getElem?_eq_getElem hlt]; rfl
    have hfk := HFk.out
    rw [hdr] at hfk
    have hbk := HBk.out
    rw [costI_drop l k hlt] at hbk
    have hwy := HWd.out (l.getD k z62) (by rw [List.getD_eq_getElem?_getD, List.getElem?_eq_getElem hlt]; exact List.getElem_mem _)
    clear hrd hdr HFk HBk
    generalize l.getD k z62 = x at x0 x1 x2 x3 x4 x5 x6 x7 x8 x9 x10 m5 e5 m6 e6 m7 e7 m8 e8 hfk hbk hwy
    obtain ⟨f0, f1, y, f3⟩ := x
    dsimp only at x0 x1 x2 x3 x4 x5 x6 x7 x8 x9 x10 m5 e5 m6 e6 m7 e7 m8 e8 hbk hwy
    have hbel := HSk.out.bel
    have x0 := zao hbel x0
    have x1 := zao hbel x1
    have x2 := zao hbel x2
    have x3 := zao hbel x3
    have x4 := zao hbel x4
    have x5 := zao hbel x5
    have x6 := zao hbel x6
    have x7 := zao hbel x7
    have x8 := zao hbel x8
    have x9 := zao hbel x9
    have x10 := zao hbel x10
    have HAy := Zq.mk (show zcu W y (.agg #[.int .i64 y.f0, .string y.f1, .string y.f2, .slice B5 y.f3.length d5, .slice B6 y.f4.length d6, .slice B7 y.f5.length d7, .slice B8 y.f6.length d8, .int .i64 y.f7]) from ⟨_, zhg W y m5 e5 m6 e6 m7 e7 m8 e8, rfl⟩)
    clear hbel m5 e5 m6 e6 m7 e7 m8 e8
    have HAl := Zq.mk (HSk.out.alloc (.cells #[.int .i64 f0, .string f1, .int .i64 y.f0, .string y.f1, .string y.f2, .slice B5 y.f3.length d5, .slice B6 y.f4.length d6, .slice B7 y.f5.length d7, .slice B8 y.f6.length d8, .int .i64 y.f7, .int .i64 f3] 62))
    have HQl := Zq.mk (heap_alloc_new wr (.cells #[.int .i64 f0, .string f1, .int .i64 y.f0, .string y.f1, .string y.f2, .slice B5 y.f3.length d5, .slice B6 y.f4.length d6, .slice B7 y.f5.length d7, .slice B8 y.f6.length d8, .int .i64 y.f7, .int .i64 f3] 62))
    obtain ⟨A0, c0', a0, a1, a2, af0, af1, af2, -, -⟩ := HAl.out.facts
    cases hb : s'.bad with
    | true =>
     have hn : zeh (⟨f0, f1, y, f3⟩ :: l.drop (k + 1)) s' = none := by rw [zeh, if_pos (by rw [hb]; rfl)]
     rw [hn] at hfk
     rw [hb] at a2
     subst hfk
     have HBe := Zq.mk HAl.out.bel
     clear HAl HQl HSk HAy hbk hwy hb hn
     go_wp2
     go_ret2
     exact ⟨rfl, HBe.out⟩
    | false =>
     rw [hb] at a2
     cases hlo : zds s' with
     | true =>
      have hn : zeh (⟨f0, f1, y, f3⟩ :: l.drop (k + 1)) s' = none := by rw [zeh, if_pos (by rw [hlo, hb]; rfl)]
      rw [hn] at hfk
      subst hfk
      have HLo := Zq.mk (show ∀ w, PrS W w W1g s' → Calls Tryz.prog 66 #[.pointer (some ⟨W1g, 0, none⟩)] w fun e w' => e = .returned (.bool true) ∧ w' = w from fun w h => by have := zcn W w W1g s' h (by omega); rwa [show decide (8000 < s'.out.length) = true from hlo] at this)
      have HBe := Zq.mk HAl.out.bel
      clear HQl HSk HAy hbk hwy hb hn hlo
      go_wp2_with (go_at_call 66; refine (HLo.out _ HAl.out).mono ?_; rintro el wl ⟨rfl, rfl⟩; clear HLo)
      go_ret2
      exact ⟨rfl, HBe.out⟩
     | false =>
      have HLo := Zq.mk (show ∀ w, PrS W w W1g s' → Calls Tryz.prog 66 #[.pointer (some ⟨W1g, 0, none⟩)] w fun e w' => e = .returned (.bool false) ∧ w' = w from fun w h => by have := zcn W w W1g s' h (by omega); rwa [show decide (8000 < s'.out.length) = false from hlo] at this)
      rw [zeh, if_neg (by rw [hlo, hb]; decide)] at hfk
      by_cases h1 : f0 = 1
      ·subst h1
       rw [show zgf ⟨1, f1, y, f3⟩ s' = some ((zbf f1 (s'.one wLet)).signs [61]) from rfl] at hfk
       have hn1 : (s'.one wLet).out.length ≤ s'.out.length + 4 := zbx wLet s'
       have hn2 : (zbf f1 (s'.one wLet)).out.length ≤ s'.out.length + 5 + f1.size := Nat.le_trans (zgd f1 _) (by omega)
       have hn3 : ((zbf f1 (s'.one wLet)).signs [61]).out.length ≤ s'.out.length + 6 + f1.size := by rw [zbm]; show _ + 1 ≤ _; omega
       have hn4 : (zbg 16 y ((zbf f1 (s'.one wLet)).signs [61])).out.length ≤ s'.out.length + 12 + f1.size + zck 16 y := Nat.le_trans (zfd 16 y _ hwy) (by omega)
       have hn5 : ((zbg 16 y ((zbf f1 (s'.one wLet)).signs [61])).signs [59]).out.length ≤ s'.out.length + 13 + f1.size + zck 16 y := by rw [zbm]; show _ + 1 ≤ _; omega
       have hw1 := zbs W (wr.alloc (.cells #[.int .i64 1, .string f1, .int .i64 y.f0, .string y.f1, .string y.f2, .slice B5 y.f3.length d5, .slice B6 y.f4.length d6, .slice B7 y.f5.length d7, .slice B8 y.f6.length d8, .int .i64 y.f7, .int .i64 f3] 62)) W1g s' ⟨#[108, 101, 116]⟩ HAl.out (by show _ + 3 + 1 ≤ _; omega)
       simp only [World.size_alloc] at hw1
       have hl1 := fun e w' (h : PrE W (wr.alloc (.cells #[.int .i64 1, .string f1, .int .i64 y.f0, .string y.f1, .string y.f2, .slice B5 y.f3.length d5, .slice B6 y.f4.length d6, .slice B7 y.f5.length d7, .slice B8 y.f6.length d8, .int .i64 y.f7, .int .i64 f3] 62)) W1g (PQ.one (⟨#[108, 101, 116]⟩ : ByteArray).data.toList s') e w') => (show PrE W (wr.alloc (.cells #[.int .i64 1, .string f1, .int .i64 y.f0, .string y.f1, .string y.f2, .slice B5 y.f3.length d5, .slice B6 y.f4.length d6, .slice B7 y.f5.length d7, .slice B8 y.f6.length d8, .int .i64 y.f7, .int .i64 f3] 62)) W1g (s'.one wLet) e w' from h)
       have hw1 := hw1.mono hl1
       have HW1 := Zq.mk hw1
       have HN := Zq.mk (fun w (h : PrS W w W1g (s'.one wLet)) => zfj W w W1g _ f1 HInv.out h (by omega))
       have HG := Zq.mk (fun w (h : PrS W w W1g (zbf f1 (s'.one wLet))) => show Calls Tryz.prog 69 #[.pointer (some ⟨W1g, 0, none⟩), .string ⟨#[61]⟩] w (PrE W w W1g ((zbf f1 (s'.one wLet)).signs [61])) from zbp W w W1g _ ⟨#[61]⟩ h (by show _ + 1 ≤ _; omega))
       have HC := Zq.mk (fun w (h : PrS W w W1g ((zbf f1 (s'.one wLet)).signs [61])) => show Calls Tryz.prog 70 #[.pointer (some ⟨W1g, 0, none⟩), (.agg #[.int .i64 y.f0, .string y.f1, .string y.f2, .slice B5 y.f3.length d5, .slice B6 y.f4.length d6, .slice B7 y.f5.length d7, .slice B8 y.f6.length d8, .int .i64 y.f7]), .int .i64 1] w (PrE W w W1g (zbg 16 y ((zbf f1 (s'.one wLet)).signs [61]))) from ziv W W1g HInv.out 16 (by decide) y _ w _ HAy.out h hwy (by omega))
       have HE := Zq.mk (fun w (h : PrS W w W1g (zbg 16 y ((zbf f1 (s'.one wLet)).signs [61]))) => show Calls Tryz.prog 69 #[.pointer (some ⟨W1g, 0, none⟩), .string ⟨#[59]⟩] w (PrE W w W1g ((zbg 16 y ((zbf f1 (s'.one wLet)).signs [61])).signs [59])) from zbp W w W1g _ ⟨#[59]⟩ h (by show _ + 1 ≤ _; omega))
       have HF2 := Zq.mk (show finQ (zeh (l.drop (k + 1)) ((zbg 16 y ((zbf f1 (s'.one wLet)).signs [61])).signs [59])) = r from hfk)
       have HN2 := Zq.mk (show ((zbg 16 y ((zbf f1 (s'.one wLet)).signs [61])).signs [59]).out.length + zjy (l.drop (k + 1)) + 10 ≤ 140737488351232 from by omega)
       clear hn1 hn2 hn3 hn4 hn5 hw1 hbk hfk hwy hb hlo hl1
       generalize (zbg 16 y ((zbf f1 (s'.one wLet)).signs [61])).signs [59] = t5 at HE HF2 HN2
       generalize zbg 16 y ((zbf f1 (s'.one wLet)).signs [61]) = t4 at HC HE
       generalize (zbf f1 (s'.one wLet)).signs [61] = t3 at HG HC
       generalize zbf f1 (s'.one wLet) = t2 at HN HG
       generalize s'.one wLet = t1 at HW1 HN
       go_wp2_with (first
        | (go_at_call 66; refine (HLo.out _ HAl.out).mono ?_; rintro el wl ⟨rfl, rfl⟩; clear HLo)
        | (go_at_call 67; refine HW1.out.mono ?_; rintro e1 w1 ⟨rfl, hS1, hT1⟩; have hq1 := hT1.keep HAl.out HQl.out (by decide) (by decide); have HS1 := Zq.mk hS1; have HQ1 := Zq.mk hq1; obtain ⟨q0, q1, q2, q3, q4, q5, q6, q7, q8, q9, q10⟩ := zcc hq1; clear hS1 hT1 hq1 HW1)
        | (go_at_call 68; refine (HN.out _ HS1.out).mono ?_; rintro e2 w2 ⟨rfl, hS2, hT2⟩; have hq2 := hT2.keep HS1.out HQ1.out (by decide) (by decide); have HS2 := Zq.mk hS2; have HQ2 := Zq.mk hq2; clear q0 q1 q2 q3 q4 q5 q6 q7 q8 q9 q10; obtain ⟨q0, q1, q2, q3, q4, q5, q6, q7, q8, q9, q10⟩ := zcc hq2; clear hS2 hT2 hq2 HN)
        | (go_at_call 69; refine (HG.out _ HS2.out).mono ?_; rintro e3 w3 ⟨rfl, hS3, hT3⟩; have hq3 := hT3.keep HS2.out HQ2.out (by decide) (by decide); have HS3 := Zq.mk hS3; have HQ3 := Zq.mk hq3; clear q0 q1 q2 q3 q4 q5 q6 q7 q8 q9 q10; obtain ⟨q0, q1, q2, q3, q4, q5, q6, q7, q8, q9, q10⟩ := zcc hq3; clear hS3 hT3 hq3 HG)
        | (go_at_call 70; refine (HC.out _ HS3.out).mono ?_; rintro e4 w4 ⟨rfl, hS4, hT4⟩; have hq4 := hT4.keep HS3.out HQ3.out (by decide) (by decide); have HS4 := Zq.mk hS4; have HQ4 := Zq.mk hq4; clear q0 q1 q2 q3 q4 q5 q6 q7 q8 q9 q10; obtain ⟨q0, q1, q2, q3, q4, q5, q6, q7, q8, q9, q10⟩ := zcc hq4; clear hS4 hT4 hq4 HC)
        | (go_at_call 69; refine (HE.out _ HS4.out).mono ?_; rintro e5 w5 ⟨rfl, hS5, hT5⟩; have HS5 := Zq.mk hS5; clear hS5 hT5))
       go_roundw
       case rel => exact ⟨k + 1, t5, by omega, by go_num, HS5, HF2, HN2⟩
       case measure => simp [intOf]; omega
      ·by_cases h2 : f0 = 2
       ·subst h2
        rw [show zgf ⟨2, f1, y, f3⟩ s' = some ((zbf f1 (s'.one zda)).one zdj) from rfl] at hfk
        have r0 := fun o => (zcc (zad HQl.out o)).1
        have hn1 : (s'.one zda).out.length ≤ s'.out.length + 6 := zbx zda s'
        have hn2 : (zbf f1 (s'.one zda)).out.length ≤ s'.out.length + 7 + f1.size := Nat.le_trans (zgd f1 _) (by omega)
        have hn3 : ((zbf f1 (s'.one zda)).one zdj).out.length ≤ s'.out.length + 12 + f1.size := Nat.le_trans (zbx zdj _) (by show _ + 4 + 1 ≤ _; omega)
        have hn4 : (zbg 16 y ((zbf f1 (s'.one zda)).one zdj)).out.length ≤ s'.out.length + 12 + f1.size + zck 16 y := Nat.le_trans (zfd 16 y _ hwy) (by omega)
        have hn5 : ((zbg 16 y ((zbf f1 (s'.one zda)).one zdj)).signs [59]).out.length ≤ s'.out.length + 13 + f1.size + zck 16 y := by rw [zbm]; show _ + 1 ≤ _; omega
        have hw1 := zbs W ((wr.alloc (.cells #[.int .i64 2, .string f1, .int .i64 y.f0, .string y.f1, .string y.f2, .slice B5 y.f3.length d5, .slice B6 y.f4.length d6, .slice B7 y.f5.length d7, .slice B8 y.f6.length d8, .int .i64 y.f7, .int .i64 f3] 62)).alloc (.cells #[.string ⟨#[97, 108, 108, 111, 119]⟩, .string ⟨#[100, 101, 110, 121]⟩] 9)) W1g s' ⟨#[97, 108, 108, 111, 119]⟩ (HAl.out.alloc _) (by show _ + 5 + 1 ≤ _; omega)
        simp only [World.size_alloc] at hw1
        have hl1 := fun e w' (h : PrE W ((wr.alloc (.cells #[.int .i64 2, .string f1, .int .i64 y.f0, .string y.f1, .string y.f2, .slice B5 y.f3.length d5, .slice B6 y.f4.length d6, .slice B7 y.f5.length d7, .slice B8 y.f6.length d8, .int .i64 y.f7, .int .i64 f3] 62)).alloc (.cells #[.string ⟨#[97, 108, 108, 111, 119]⟩, .string ⟨#[100, 101, 110, 121]⟩] 9)) W1g (s'.one zda) e w') => (show PrE W (wr.alloc (.cells #[.int .i64 2, .string f1, .int .i64 y.f0, .string y.f1, .string y.f2, .slice B5 y.f3.length d5, .slice B6 y.f4.length d6, .slice B7 y.f5.length d7, .slice B8 y.f6.length d8, .int .i64 y.f7, .int .i64 f3] 62)) W1g (s'.one zda) e w' from ⟨h.1, h.2.1, ((Stp.refl _ _).alloc HAl.out.lt _).trans h.2.2⟩)
        have hw1 := hw1.mono hl1
        have HW1 := Zq.mk hw1
        have HN := Zq.mk (fun w (h : PrS W w W1g (s'.one zda)) => zfj W w W1g _ f1 HInv.out h (by omega))
        have HG := Zq.mk (fun w (h : PrS W w W1g (zbf f1 (s'.one zda))) => show Calls Tryz.prog 67 #[.pointer (some ⟨W1g, 0, none⟩), .slice (some ⟨w.heap.size, 0, none⟩) 1 1] (w.alloc (.cells #[.string ⟨#[119, 104, 101, 110]⟩] 9)) (PrE W w W1g ((zbf f1 (s'.one zda)).one zdj)) from zbs W w W1g _ ⟨#[119, 104, 101, 110]⟩ h (by show _ + 4 + 1 ≤ _; omega))
        have HC := Zq.mk (fun w (h : PrS W w W1g ((zbf f1 (s'.one zda)).one zdj)) => show Calls Tryz.prog 70 #[.pointer (some ⟨W1g, 0, none⟩), (.agg #[.int .i64 y.f0, .string y.f1, .string y.f2, .slice B5 y.f3.length d5, .slice B6 y.f4.length d6, .slice B7 y.f5.length d7, .slice B8 y.f6.length d8, .int .i64 y.f7]), .int .i64 1] w (PrE W w W1g (zbg 16 y ((zbf f1 (s'.one zda)).one zdj))) from ziv W W1g HInv.out 16 (by decide) y _ w _ HAy.out h hwy (by omega))
        have HE := Zq.mk (fun w (h : PrS W w W1g (zbg 16 y ((zbf f1 (s'.one zda)).one zdj))) => show Calls Tryz.prog 69 #[.pointer (some ⟨W1g, 0, none⟩), .string ⟨#[59]⟩] w (PrE W w W1g ((zbg 16 y ((zbf f1 (s'.one zda)).one zdj)).signs [59])) from zbp W w W1g _ ⟨#[59]⟩ h (by show _ + 1 ≤ _; omega))
        have HF2 := Zq.mk (show finQ (zeh (l.drop (k + 1)) ((zbg 16 y ((zbf f1 (s'.one zda)).one zdj)).signs [59])) = r from hfk)
        have HN2 := Zq.mk (show ((zbg 16 y ((zbf f1 (s'.one zda)).one zdj)).signs [59]).out.length + zjy (l.drop (k + 1)) + 10 ≤ 140737488351232 from by omega)
        clear hn1 hn2 hn3 hn4 hn5 hw1 hbk hfk hwy hb hlo hl1
        generalize (zbg 16 y ((zbf f1 (s'.one zda)).one zdj)).signs [59] = t5 at HE HF2 HN2
        generalize zbg 16 y ((zbf f1 (s'.one zda)).one zdj) = t4 at HC HE
        generalize (zbf f1 (s'.one zda)).one zdj = t3 at HG HC
        generalize zbf f1 (s'.one zda) = t2 at HN HG
        generalize s'.one zda = t1 at HW1 HN
        go_wp2_with (first
         | (go_at_call 66; refine (HLo.out _ HAl.out).mono ?_; rintro el wl ⟨rfl, rfl⟩; clear HLo)
         | (go_at_call 67; refine HW1.out.mono ?_; rintro e1 w1 ⟨rfl, hS1, hT1⟩; have hq1 := hT1.keep HAl.out HQl.out (by decide) (by decide); have HS1 := Zq.mk hS1; have HQ1 := Zq.mk hq1; obtain ⟨q0, q1, q2, q3, q4, q5, q6, q7, q8, q9, q10⟩ := zcc hq1; clear hS1 hT1 hq1 HW1)
         | (go_at_call 68; refine (HN.out _ HS1.out).mono ?_; rintro e2 w2 ⟨rfl, hS2, hT2⟩; have hq2 := hT2.keep HS1.out HQ1.out (by decide) (by decide); have HS2 := Zq.mk hS2; have HQ2 := Zq.mk hq2; clear q0 q1 q2 q3 q4 q5 q6 q7 q8 q9 q10; obtain ⟨q0, q1, q2, q3, q4, q5, q6, q7, q8, q9, q10⟩ := zcc hq2; clear hS2 hT2 hq2 HN)
         | (go_at_call 67; refine (HG.out _ HS2.out).mono ?_; rintro e3 w3 ⟨rfl, hS3, hT3⟩; have hq3 := hT3.keep HS2.out HQ2.out (by decide) (by decide); have HS3 := Zq.mk hS3; have HQ3 := Zq.mk hq3; clear q0 q1 q2 q3 q4 q5 q6 q7 q8 q9 q10; obtain ⟨q0, q1, q2, q3, q4, q5, q6, q7, q8, q9, q10⟩ := zcc hq3; clear hS3 hT3 hq3 HG)
         | (go_at_call 70; refine (HC.out _ HS3.out).mono ?_; rintro e4 w4 ⟨rfl, hS4, hT4⟩; have hq4 := hT4.keep HS3.out HQ3.out (by decide) (by decide); have HS4 := Zq.mk hS4; have HQ4 := Zq.mk hq4; clear q0 q1 q2 q3 q4 q5 q6 q7 q8 q9 q10; obtain ⟨q0, q1, q2, q3, q4, q5, q6, q7, q8, q9, q10⟩ := zcc hq4; clear hS4 hT4 hq4 HC)
         | (go_at_call 69; refine (HE.out _ HS4.out).mono ?_; rintro e5 w5 ⟨rfl, hS5, hT5⟩; have HS5 := Zq.mk hS5; clear hS5 hT5))
        go_roundw
        case rel => exact ⟨k + 1, t5, by omega, by go_num, HS5, HF2, HN2⟩
        case measure => simp [intOf]; omega
       ·by_cases h3 : f0 = 3
        ·subst h3
         rw [show zgf ⟨3, f1, y, f3⟩ s' = some ((zbf f1 (s'.one zei)).one zdj) from rfl] at hfk
         have r0 := fun o => (zcc (zad HQl.out o)).1
         have hn1 : (s'.one zei).out.length ≤ s'.out.length + 5 := zbx zei s'
         have hn2 : (zbf f1 (s'.one zei)).out.length ≤ s'.out.length + 6 + f1.size := Nat.le_trans (zgd f1 _) (by omega)
         have hn3 : ((zbf f1 (s'.one zei)).one zdj).out.length ≤ s'.out.length + 11 + f1.size := Nat.le_trans (zbx zdj _) (by show _ + 4 + 1 ≤ _; omega)
         have hn4 : (zbg 16 y ((zbf f1 (s'.one zei)).one zdj)).out.length ≤ s'.out.length + 12 + f1.size + zck 16 y := Nat.le_trans (zfd 16 y _ hwy) (by omega)
         have hn5 : ((zbg 16 y ((zbf f1 (s'.one zei)).one zdj)).signs [59]).out.length ≤ s'.out.length + 13 + f1.size + zck 16 y := by rw [zbm]; show _ + 1 ≤ _; omega
         have hw1 := zbs W ((wr.alloc (.cells #[.int .i64 3, .string f1, .int .i64 y.f0, .string y.f1, .string y.f2, .slice B5 y.f3.length d5, .slice B6 y.f4.length d6, .slice B7 y.f5.length d7, .slice B8 y.f6.length d8, .int .i64 y.f7, .int .i64 f3] 62)).alloc (.cells #[.string ⟨#[97, 108, 108, 111, 119]⟩, .string ⟨#[100, 101, 110, 121]⟩] 9)) W1g s' ⟨#[100, 101, 110, 121]⟩ (HAl.out.alloc _) (by show _ + 4 + 1 ≤ _; omega)
         simp only [World.size_alloc] at hw1
         have hl1 := fun e w' (h : PrE W ((wr.alloc (.cells #[.int .i64 3, .string f1, .int .i64 y.f0, .string y.f1, .string y.f2, .slice B5 y.f3.length d5, .slice B6 y.f4.length d6, .slice B7 y.f5.length d7, .slice B8 y.f6.length d8, .int .i64 y.f7, .int .i64 f3] 62)).alloc (.cells #[.string ⟨#[97, 108, 108, 111, 119]⟩, .string ⟨#[100, 101, 110, 121]⟩] 9)) W1g (s'.one zei) e w') => (show PrE W (wr.alloc (.cells #[.int .i64 3, .string f1, .int .i64 y.f0, .string y.f1, .string y.f2, .slice B5 y.f3.length d5, .slice B6 y.f4.length d6, .slice B7 y.f5.length d7, .slice B8 y.f6.length d8, .int .i64 y.f7, .int .i64 f3] 62)) W1g (s'.one zei) e w' from ⟨h.1, h.2.1, ((Stp.refl _ _).alloc HAl.out.lt _).trans h.2.2⟩)
         have hw1 := hw1.mono hl1
         have HW1 := Zq.mk hw1
         have HN := Zq.mk (fun w (h : PrS W w W1g (s'.one zei)) => zfj W w W1g _ f1 HInv.out h (by omega))
         have HG := Zq.mk (fun w (h : PrS W w W1g (zbf f1 (s'.one zei))) => show Calls Tryz.prog 67 #[.pointer (some ⟨W1g, 0, none⟩), .slice (some ⟨w.heap.size, 0, none⟩) 1 1] (w.alloc (.cells #[.string ⟨#[119, 104, 101, 110]⟩] 9)) (PrE W w W1g ((zbf f1 (s'.one zei)).one zdj)) from zbs W w W1g _ ⟨#[119, 104, 101, 110]⟩ h (by show _ + 4 + 1 ≤ _; omega))
         have HC := Zq.mk (fun w (h : PrS W w W1g ((zbf f1 (s'.one zei)).one zdj)) => show Calls Tryz.prog 70 #[.pointer (some ⟨W1g, 0, none⟩), (.agg #[.int .i64 y.f0, .string y.f1, .string y.f2, .slice B5 y.f3.length d5, .slice B6 y.f4.length d6, .slice B7 y.f5.length d7, .slice B8 y.f6.length d8, .int .i64 y.f7]), .int .i64 1] w (PrE W w W1g (zbg 16 y ((zbf f1 (s'.one zei)).one zdj))) from ziv W W1g HInv.out 16 (by decide) y _ w _ HAy.out h hwy (by omega))
         have HE := Zq.mk (fun w (h : PrS W w W1g (zbg 16 y ((zbf f1 (s'.one zei)).one zdj))) => show Calls Tryz.prog 69 #[.pointer (some ⟨W1g, 0, none⟩), .string ⟨#[59]⟩] w (PrE W w W1g ((zbg 16 y ((zbf f1 (s'.one zei)).one zdj)).signs [59])) from zbp W w W1g _ ⟨#[59]⟩ h (by show _ + 1 ≤ _; omega))
         have HF2 := Zq.mk (show finQ (zeh (l.drop (k + 1)) ((zbg 16 y ((zbf f1 (s'.one zei)).one zdj)).signs [59])) = r from hfk)
         have HN2 := Zq.mk (show ((zbg 16 y ((zbf f1 (s'.one zei)).one zdj)).signs [59]).out.length + zjy (l.drop (k + 1)) + 10 ≤ 140737488351232 from by omega)
         clear hn1 hn2 hn3 hn4 hn5 hw1 hbk hfk hwy hb hlo hl1
         generalize (zbg 16 y ((zbf f1 (s'.one zei)).one zdj)).signs [59] = t5 at HE HF2 HN2
         generalize zbg 16 y ((zbf f1 (s'.one zei)).one zdj) = t4 at HC HE
         generalize (zbf f1 (s'.one zei)).one zdj = t3 at HG HC
         generalize zbf f1 (s'.one zei) = t2 at HN HG
         generalize s'.one zei = t1 at HW1 HN
         go_wp2_with (first
          | (go_at_call 66; refine (HLo.out _ HAl.out).mono ?_; rintro el wl ⟨rfl, rfl⟩; clear HLo)
          | (go_at_call 67; refine HW1.out.mono ?_; rintro e1 w1 ⟨rfl, hS1, hT1⟩; have hq1 := hT1.keep HAl.out HQl.out (by decide) (by decide); have HS1 := Zq.mk hS1; have HQ1 := Zq.mk hq1; obtain ⟨q0, q1, q2, q3, q4, q5, q6, q7, q8, q9, q10⟩ := zcc hq1; clear hS1 hT1 hq1 HW1)
          | (go_at_call 68; refine (HN.out _ HS1.out).mono ?_; rintro e2 w2 ⟨rfl, hS2, hT2⟩; have hq2 := hT2.keep HS1.out HQ1.out (by decide) (by decide); have HS2 := Zq.mk hS2; have HQ2 := Zq.mk hq2; clear q0 q1 q2 q3 q4 q5 q6 q7 q8 q9 q10; obtain ⟨q0, q1, q2, q3, q4, q5, q6, q7, q8, q9, q10⟩ := zcc hq2; clear hS2 hT2 hq2 HN)
          | (go_at_call 67; refine (HG.out _ HS2.out).mono ?_; rintro e3 w3 ⟨rfl, hS3, hT3⟩; have hq3 := hT3.keep HS2.out HQ2.out (by decide) (by decide); have HS3 := Zq.mk hS3; have HQ3 := Zq.mk hq3; clear q0 q1 q2 q3 q4 q5 q6 q7 q8 q9 q10; obtain ⟨q0, q1, q2, q3, q4, q5, q6, q7, q8, q9, q10⟩ := zcc hq3; clear hS3 hT3 hq3 HG)
          | (go_at_call 70; refine (HC.out _ HS3.out).mono ?_; rintro e4 w4 ⟨rfl, hS4, hT4⟩; have hq4 := hT4.keep HS3.out HQ3.out (by decide) (by decide); have HS4 := Zq.mk hS4; have HQ4 := Zq.mk hq4; clear q0 q1 q2 q3 q4 q5 q6 q7 q8 q9 q10; obtain ⟨q0, q1, q2, q3, q4, q5, q6, q7, q8, q9, q10⟩ := zcc hq4; clear hS4 hT4 hq4 HC)
          | (go_at_call 69; refine (HE.out _ HS4.out).mono ?_; rintro e5 w5 ⟨rfl, hS5, hT5⟩; have HS5 := Zq.mk hS5; clear hS5 hT5))
         go_roundw
         case rel => exact ⟨k + 1, t5, by omega, by go_num, HS5, HF2, HN2⟩
         case measure => simp [intOf]; omega
        ·have hn : zgf ⟨f0, f1, y, f3⟩ s' = none := by unfold zgf; rw [if_neg h1, if_neg h2, if_neg h3]
         rw [hn] at hfk
         subst hfk
         have HBe := Zq.mk HAl.out.bel
         clear HQl HSk HAy hbk hwy hb hn hlo
         go_wp2_with (go_at_call 66; refine (HLo.out _ HAl.out).mono ?_; rintro el wl ⟨rfl, rfl⟩; clear HLo)
         go_ret2
         exact ⟨rfl, HBe.out⟩
   ·obtain rfl : k = l.length := by omega
    have hf := HFk.out
    rw [List.drop_length] at hf
    subst hf
    obtain ⟨A0, c0', a0, a1, a2, af0, af1, af2, -, -⟩ := HSk.out.facts
    have hcv : ∀ m, (convert 64 9 (.slice A0 s'.out.length c0')).run Tryz.prog (wr.drewN m) = .ok (.string (tB s'.out)) (wr.drewN m) := fun m => pr_string (HSk.out.drewN m) a0
    have HLo := Zq.mk (fun m => zcn W (wr.drewN m) W1g s' (HSk.out.drewN m) (by have := HBk.out; omega))
    have HBe := Zq.mk (fun m => zaa HSk.out.bel m)
    show _
    cases hb : s'.bad with
    | true =>
     rw [hb] at a2
     have hfin : finQ (zeh [] s') = (s'.out, false) := by show (s'.out, !s'.bad && !zds s') = _; rw [hb]; rfl
     have HFin := Zq.mk hfin
     clear HFk HBk hb hfin
     go_wp2
     go_quiet (fail)
     go_wp2
     go_ret2
     exact ⟨by rw [HFin.out]; first | rfl | simp, HBe.out _⟩
    | false =>
     rw [hb] at a2
     have hfin : finQ (zeh [] s') = (s'.out, !decide (8000 < s'.out.length)) := by show (s'.out, !s'.bad && !zds s') = _; rw [hb]; rfl
     have HFin := Zq.mk hfin
     clear HFk HBk hb hfin
     go_wp2
     go_quiet ((go_at_call 66; exact Calls.quiet_of_same (HLo.out _)))
     go_wp2
     go_ret2
     exact ⟨by rw [HFin.out]; first | rfl | simp, HBe.out _⟩
def zji (l : List S62) : List UInt8 × Int := if (zec l).2 = true then ((zec l).1, 0) else ([], 93)
theorem zib (W : World) (hInv : Inv W) (A : Option Addr) (c : Nat) (l : List S62) (hC : k62.C W A l.length l) (hc : l.length ≤ c) (hm : l.length ≤ 140737488351232) (hw : ∀ x ∈ l, Wide 16 x.f2) (hl : zjy l + 10 ≤ 140737488351232) :
  Calls Tryz.prog 20 #[.agg #[.slice A l.length c]] W fun e W' => e = .returned (.tuple #[.string (tB (zji l).1), .int .i64 (zji l).2]) ∧ Below W.heap.size W W' := by
 have HB := Zq.mk (Below.refl W.heap.size W |>.alloc (Nat.le_refl _) (.cells #[.slice A l.length c] 36))
 have HP := Zq.mk (zhb (W.alloc (.cells #[.slice A l.length c] 36)) (hInv.below HB.out) A c l (Kd.C_below hC HB.out) hc hm hw hl)
 unfold zji
 generalize zec l = r at HP ⊢
 obtain ⟨t, b⟩ := r
 clear hInv hC hw hl
 cases b with
 | true =>
  go_enter Tryz.func20, Tryz.ntmps20
  go_wp2_with (go_at_call 42; refine HP.out.mono ?_; rintro e1 w1 ⟨rfl, hb1⟩)
  go_ret2
  exact ⟨rfl, HB.out.trans (hb1.mono (by simp))⟩
 | false =>
  go_enter Tryz.func20, Tryz.ntmps20
  go_wp2_with (go_at_call 42; refine HP.out.mono ?_; rintro e1 w1 ⟨rfl, hb1⟩)
  go_ret2
  exact ⟨rfl, HB.out.trans (hb1.mono (by simp))⟩
theorem sright_calls (W : World) (hInv : Inv W) (A : Option Addr) (c : Nat) (l : List S62) (hC : k62.C W A l.length l) (hc : l.length ≤ c) (hm : l.length ≤ 140737488351232) (hw : ∀ x ∈ l, Wide 16 x.f2) (hl : zjy l + 10 ≤ 140737488351232) :
  Calls Tryz.prog 22 #[.agg #[.slice A l.length c]] W fun e W' => e = .returned (.bool (zec l).2) ∧ Below W.heap.size W W' := by
 have HB := Zq.mk (Below.refl W.heap.size W |>.alloc (Nat.le_refl _) (.cells #[.slice A l.length c] 36))
 have HP := Zq.mk (zhb (W.alloc (.cells #[.slice A l.length c] 36)) (hInv.below HB.out) A c l (Kd.C_below hC HB.out) hc hm hw hl)
 generalize zec l = r at HP ⊢
 clear hInv hC hw hl
 go_enter Tryz.func22, Tryz.ntmps22
 go_wp2_with (go_at_call 42; refine HP.out.mono ?_; rintro e1 w1 ⟨rfl, hb1⟩)
 go_ret
 exact ⟨rfl, HB.out.trans (hb1.mono (by simp))⟩
end
section
def znf {α : Type} (f : α → α → Option Bool) : List α → List α → Option Bool
 | a :: r, b :: t => match f a b with
  | none => none
  | some false => some false
  | some true => znf f r t
 | _, _ => some true
def zme {α : Type} (f : α → α → Option Bool) (l m : List α) : Option Bool := if l.length = m.length then znf f l m else some false
def zjf : Nat → S60 → S60 → Option Bool
 | 0, _, _ => none
 | k + 1, x, y =>
  if x.f0 = y.f0 then (if x.f1.toList = y.f1.toList then (if x.f2.toList = y.f2.toList then (if eqP x.f3 y.f3 = true then (if eqS x.f4 y.f4 = true then (if eqT x.f5 y.f5 = true then zme (zjf k) x.f6 y.f6 else some false) else some false) else some false) else some false) else some false) else some false
def zek (k : Nat) (x y : S62) : Option Bool :=
 if x.f0 = y.f0 then (if x.f1.toList = y.f1.toList then zjf k x.f2 y.f2 else some false) else some false
def znj (W : World) (r : Bool) (e : Ending) (W' : World) : Prop := e = .returned (.bool r) ∧ Below W.heap.size W W'
def zrh (k : Nat) : Prop := ∀ (x y : S60) (v u : Value) (W : World) (r : Bool), zcu W x v → zcu W y u → zjf k x y = some r → Calls Tryz.prog 49 #[v, u] W (znj W r)
theorem zle {α : Type} (f : α → α → Option Bool) (a b : α) (r t : List α) : znf f (a :: r) (b :: t) = match f a b with | none => none | some false => some false | some true => znf f r t := rfl
theorem zhj {α : Type} (l : List α) (z : α) (i : Nat) (h : i < l.length) : l.drop i = l.getD i z :: l.drop (i + 1) := by
 rw [List.drop_eq_getElem_cons h, List.getD_eq_getElem?_getD, List.getElem?_eq_getElem h]; rfl
theorem eqfc_calls (k : Nat) (IH : zrh k) (W : World) (A A' : Option Addr) (c c' : Nat) (l m : List S60) (r : Bool) (hC : k60.C W A l.length l) (hC' : k60.C W A' m.length m) (hz : l.length ≤ 9223372036854775807) (hc : l.length ≤ c) (hc' : m.length ≤ c') (hr : zme (zjf k) l m = some r) :
  Calls Tryz.prog 77 #[.slice A l.length c, .slice A' m.length c', .func (.func 49) #[] #[]] W (znj W r) := by
 have HC := Zq.mk hC
 have HC' := Zq.mk hC'
 have HI := Zq.mk IH
 unfold zme at hr
 clear hC hC' IH
 by_cases hlm : l.length = m.length
 ·rw [if_pos hlm] at hr
  have HR := Zq.mk hr
  have HLM := Zq.mk hlm
  have hlm' : ((l.length : Int) != (m.length : Int)) = false := by simp [hlm]
  have hlm2 : ((l.length : Int) == (m.length : Int)) = true := by simp [hlm]
  have hmz : m.length ≤ 9223372036854775807 := by omega
  clear hr hlm
  go_enter Tryz.func77, Tryz.ntmps77
  go_wp2
  clear hlm' hlm2
  go_loopw [17] (fun i wr => ∃ n : Nat, n ≤ l.length ∧ i = .int .i64 n ∧ Zq (Below W.heap.size W wr) ∧ Zq (znf (zjf k) (l.drop n) (m.drop n) = some r)) (fun i _ => l.length - (intOf i).toNat)
  case atStart => exact ⟨0, Nat.zero_le _, rfl, ⟨Below.refl _ _⟩, HR⟩
  case round =>
   clear HR
   obtain ⟨n, hn, rfl, HB, HR⟩ := hrel
   by_cases hlt : n < l.length
   ·have hltm : n < m.length := by have := HLM.out; omega
    obtain ⟨ad, A3, a3, A4, a4, A5, a5, A6, a6, rfl, x0, x1, x2, x3, x4, x5, x6, x7, p3, q3, p4, q4, p5, q5, p6, q6⟩ := zij HC.out (n : Int) (by omega) (by omega)
    obtain ⟨bd, B3, b3, B4, b4, B5, b5, B6, b6, rfl, y0, y1, y2, y3, y4, y5, y6, y7, s3, t3, s4, t4, s5, t5, s6, t6⟩ := zij HC'.out (n : Int) (by omega) (by omega)
    have hrd : ∀ l : List S60, zax l (n : Int) = l.getD n z60 := fun l => by unfold zax; rw [Int.toNat_natCast]
    rw [hrd] at x0 x1 x2 x3 x4 x5 x6 x7 p3 q3 p4 q4 p5 q5 p6 q6 y0 y1 y2 y3 y4 y5 y6 y7 s3 t3 s4 t4 s5 t5 s6 t6
    rw [Int.toNat_natCast] at x0 x1 x2 x3 x4 x5 x6 x7 y0 y1 y2 y3 y4 y5 y6 y7
    have hr := HR.out
    rw [zhj l z60 n hlt, zhj m z60 n hltm, zle] at hr
    clear HR hrd
    generalize l.getD n z60 = x at x0 x1 x2 x3 x4 x5 x6 x7 p3 q3 p4 q4 p5 q5 p6 q6 hr
    generalize m.getD n z60 = y at y0 y1 y2 y3 y4 y5 y6 y7 s3 t3 s4 t4 s5 t5 s6 t6 hr
    have HAx := Zq.mk (show zcu W x (.agg #[.int .i64 x.f0, .string x.f1, .string x.f2, .slice A3 x.f3.length a3, .slice A4 x.f4.length a4, .slice A5 x.f5.length a5, .slice A6 x.f6.length a6, .int .i64 x.f7]) from ⟨_, zhg W x p3 q3 p4 q4 p5 q5 p6 q6, rfl⟩)
    have HAy := Zq.mk (show zcu W y (.agg #[.int .i64 y.f0, .string y.f1, .string y.f2, .slice B3 y.f3.length b3, .slice B4 y.f4.length b4, .slice B5 y.f5.length b5, .slice B6 y.f6.length b6, .int .i64 y.f7]) from ⟨_, zhg W y s3 t3 s4 t4 s5 t5 s6 t6, rfl⟩)
    have hbel := HB.out
    have x0 := zao hbel x0
    have x1 := zao hbel x1
    have x2 := zao hbel x2
    have x3 := zao hbel x3
    have x4 := zao hbel x4
    have x5 := zao hbel x5
    have x6 := zao hbel x6
    have x7 := zao hbel x7
    have y0 := fun o => zao (hbel.trans ((Below.refl _ _).alloc (by exact hbel.size) o)) y0
    have y1 := fun o => zao (hbel.trans ((Below.refl _ _).alloc (by exact hbel.size) o)) y1
    have y2 := fun o => zao (hbel.trans ((Below.refl _ _).alloc (by exact hbel.size) o)) y2
    have y3 := fun o => zao (hbel.trans ((Below.refl _ _).alloc (by exact hbel.size) o)) y3
    have y4 := fun o => zao (hbel.trans ((Below.refl _ _).alloc (by exact hbel.size) o)) y4
    have y5 := fun o => zao (hbel.trans ((Below.refl _ _).alloc (by exact hbel.size) o)) y5
    have y6 := fun o => zao (hbel.trans ((Below.refl _ _).alloc (by exact hbel.size) o)) y6
    have y7 := fun o => zao (hbel.trans ((Below.refl _ _).alloc (by exact hbel.size) o)) y7
    have HBB := Zq.mk (show Below W.heap.size W ((wr.alloc (.cells #[.int .i64 x.f0, .string x.f1, .string x.f2, .slice A3 x.f3.length a3, .slice A4 x.f4.length a4, .slice A5 x.f5.length a5, .slice A6 x.f6.length a6, .int .i64 x.f7] 60)).alloc (.cells #[.int .i64 y.f0, .string y.f1, .string y.f2, .slice B3 y.f3.length b3, .slice B4 y.f4.length b4, .slice B5 y.f5.length b5, .slice B6 y.f6.length b6, .int .i64 y.f7] 60)) from (hbel.alloc hbel.size _).alloc (by rw [World.size_alloc]; have := hbel.size; omega) _)
    have HSz := Zq.mk (show W.heap.size ≤ ((wr.alloc (.cells #[.int .i64 x.f0, .string x.f1, .string x.f2, .slice A3 x.f3.length a3, .slice A4 x.f4.length a4, .slice A5 x.f5.length a5, .slice A6 x.f6.length a6, .int .i64 x.f7] 60)).alloc (.cells #[.int .i64 y.f0, .string y.f1, .string y.f2, .slice B3 y.f3.length b3, .slice B4 y.f4.length b4, .slice B5 y.f5.length b5, .slice B6 y.f6.length b6, .int .i64 y.f7] 60)).heap.size from HBB.out.size)
    clear hbel p3 q3 p4 q4 p5 q5 p6 q6 s3 t3 s4 t4 s5 t5 s6 t6
    match hs : zjf k x y with
    | none => rw [hs] at hr; cases hr
    | some false =>
     rw [hs] at hr
     obtain rfl := Option.some.inj hr
     have HK := Zq.mk (HI.out x y _ _ _ false (HAx.out.below HBB.out) (HAy.out.below HBB.out) hs)
     clear hr hs
     go_wp2_with ((with_reducible refine zci 49 ?_); refine HK.out.mono ?_; rintro e1 w1 ⟨rfl, hb1⟩)
     go_ret
     exact ⟨rfl, HBB.out.trans (hb1.mono HSz.out)⟩
    | some true =>
     rw [hs] at hr
     have HK := Zq.mk (HI.out x y _ _ _ true (HAx.out.below HBB.out) (HAy.out.below HBB.out) hs)
     have HR := Zq.mk (show znf (zjf k) (l.drop (n + 1)) (m.drop (n + 1)) = some r from hr)
     clear hr hs
     go_wp2_with ((with_reducible refine zci 49 ?_); refine HK.out.mono ?_; rintro e1 w1 ⟨rfl, hb1⟩; have HB1 := Zq.mk (HBB.out.trans (hb1.mono HSz.out)); clear hb1)
     go_roundw
     case rel => exact ⟨n + 1, by omega, by go_num, HB1, HR⟩
     case measure => simp [intOf]; omega
   ·obtain rfl : n = l.length := by omega
    have hr := HR.out
    rw [List.drop_length, List.drop_of_length_le (by have := HLM.out; omega)] at hr
    obtain rfl := Option.some.inj hr
    clear HR hr
    go_wp2
    go_ret
    exact ⟨rfl, HB.out⟩
 ·rw [if_neg hlm] at hr
  obtain rfl := Option.some.inj hr
  have hlm' : ¬ ((l.length : Int) = (m.length : Int)) := by omega
  clear hr
  go_enter Tryz.func77, Tryz.ntmps77
  go_wp2
  go_ret
  exact ⟨rfl, Below.refl _ _⟩
theorem samec_step (k : Nat) (IH : zrh k) (x y : S60) (v u : Value) (W : World) (r : Bool) (hx : zcu W x v) (hy : zcu W y u) (hr : zjf (k + 1) x y = some r) (hz : x.f3.length ≤ 9223372036854775807 ∧ x.f4.length ≤ 9223372036854775807 ∧ x.f5.length ≤ 9223372036854775807 ∧ x.f6.length ≤ 9223372036854775807) :
  Calls Tryz.prog 49 #[v, u] W (znj W r) := by
 obtain ⟨cs, hK, rfl⟩ := hx
 obtain ⟨A3, a3, A4, a4, A5, a5, A6, a6, rfl, p3, q3, p4, q4, p5, q5, p6, q6⟩ := zbo hK
 obtain ⟨ds, hK', rfl⟩ := hy
 obtain ⟨B3, b3, B4, b4, B5, b5, B6, b6, rfl, s3, t3, s4, t4, s5, t5, s6, t6⟩ := zbo hK'
 have HB2 := Zq.mk (show Below W.heap.size W ((W.alloc (.cells #[.int .i64 x.f0, .string x.f1, .string x.f2, .slice A3 x.f3.length a3, .slice A4 x.f4.length a4, .slice A5 x.f5.length a5, .slice A6 x.f6.length a6, .int .i64 x.f7] 60)).alloc (.cells #[.int .i64 y.f0, .string y.f1, .string y.f2, .slice B3 y.f3.length b3, .slice B4 y.f4.length b4, .slice B5 y.f5.length b5, .slice B6 y.f6.length b6, .int .i64 y.f7] 60)) from ((Below.refl _ _).alloc (Nat.le_refl _) _).alloc (by rw [World.size_alloc]; omega) _)
 have HE3 := Zq.mk (fun w (h : Below W.heap.size W w) => api_Prefix.calls _ A3 a3 x.f3 B3 b3 y.f3 _ w (Kd.C_below q3 h) p3 (Kd.C_below t3 h) s3 (api_Prefix_eq x.f3 y.f3 hz.1))
 have HE4 := Zq.mk (fun w (h : Below W.heap.size W w) => api_Span.calls _ A4 a4 x.f4 B4 b4 y.f4 _ w (Kd.C_below q4 h) p4 (Kd.C_below t4 h) s4 (api_Span_eq x.f4 y.f4 hz.2.1))
 have HE5 := Zq.mk (fun w (h : Below W.heap.size W w) => slices_Equal_string_string.calls _ A5 a5 x.f5 B5 b5 y.f5 _ w (Kd.C_below q5 h) p5 (Kd.C_below t5 h) s5 (slices_Equal_string_string_eq x.f5 y.f5 hz.2.2.1))
 have HE6 := fun r' (hr' : zme (zjf k) x.f6 y.f6 = some r') => Zq.mk (fun w (h : Below W.heap.size W w) => eqfc_calls k IH w A6 B6 a6 b6 x.f6 y.f6 r' (Kd.C_below q6 h) (Kd.C_below t6 h) hz.2.2.2 p6 s6 hr')
 unfold zjf at hr
 clear hK hK' q3 q4 q5 q6 t3 t4 t5 t6 IH hz
 generalize eqP x.f3 y.f3 = r3 at HE3 hr
 generalize eqS x.f4 y.f4 = r4 at HE4 hr
 generalize eqT x.f5 y.f5 = r5 at HE5 hr
 by_cases c0 : x.f0 = y.f0
 ·rw [if_pos c0] at hr
  have d0 : ((x.f0 : Int) == y.f0) = true := by simp [c0]
  clear c0
  by_cases c1 : x.f1.toList = y.f1.toList
  ·rw [if_pos c1] at hr
   have d1 : (x.f1.toList == y.f1.toList) = true := by simp [c1]
   clear c1
   by_cases c2 : x.f2.toList = y.f2.toList
   ·rw [if_pos c2] at hr
    have d2 : (x.f2.toList == y.f2.toList) = true := by simp [c2]
    clear c2
    cases r3 with
    | false =>
     simp only [Bool.false_eq_true, if_false, Option.some.injEq] at hr
     subst hr
     clear HE6
     go_enter Tryz.func49, Tryz.ntmps49
     go_wp2_with (first
      | (go_at_call 74; refine (HE3.out _ (by first | exact HB2.out | exact zaa HB2.out _ | exact zaa (zaa HB2.out _) _ | exact zaa (zaa (zaa HB2.out _) _) _)).mono ?_; rintro e3 w3 ⟨rfl, ⟨⟨n3, rfl⟩⟩⟩))
     go_ret
     exact ⟨rfl, (by first | exact HB2.out | exact zaa HB2.out _ | exact zaa (zaa HB2.out _) _ | exact zaa (zaa (zaa HB2.out _) _) _)⟩
    | true =>
     simp only [if_true] at hr
     cases r4 with
     | false =>
      simp only [Bool.false_eq_true, if_false, Option.some.injEq] at hr
      subst hr
      clear HE6
      go_enter Tryz.func49, Tryz.ntmps49
      go_wp2_with (first
       | (go_at_call 74; refine (HE3.out _ (by first | exact HB2.out | exact zaa HB2.out _ | exact zaa (zaa HB2.out _) _ | exact zaa (zaa (zaa HB2.out _) _) _)).mono ?_; rintro e3 w3 ⟨rfl, ⟨⟨n3, rfl⟩⟩⟩)
       | (go_at_call 75; refine (HE4.out _ (by first | exact HB2.out | exact zaa HB2.out _ | exact zaa (zaa HB2.out _) _ | exact zaa (zaa (zaa HB2.out _) _) _)).mono ?_; rintro e4 w4 ⟨rfl, ⟨⟨n4, rfl⟩⟩⟩))
      go_ret
      exact ⟨rfl, (by first | exact HB2.out | exact zaa HB2.out _ | exact zaa (zaa HB2.out _) _ | exact zaa (zaa (zaa HB2.out _) _) _)⟩
     | true =>
      simp only [if_true] at hr
      cases r5 with
      | false =>
       simp only [Bool.false_eq_true, if_false, Option.some.injEq] at hr
       subst hr
       clear HE6
       go_enter Tryz.func49, Tryz.ntmps49
       go_wp2_with (first
        | (go_at_call 74; refine (HE3.out _ (by first | exact HB2.out | exact zaa HB2.out _ | exact zaa (zaa HB2.out _) _ | exact zaa (zaa (zaa HB2.out _) _) _)).mono ?_; rintro e3 w3 ⟨rfl, ⟨⟨n3, rfl⟩⟩⟩)
        | (go_at_call 75; refine (HE4.out _ (by first | exact HB2.out | exact zaa HB2.out _ | exact zaa (zaa HB2.out _) _ | exact zaa (zaa (zaa HB2.out _) _) _)).mono ?_; rintro e4 w4 ⟨rfl, ⟨⟨n4, rfl⟩⟩⟩)
        | (go_at_call 76; refine (HE5.out _ (by first | exact HB2.out | exact zaa HB2.out _ | exact zaa (zaa HB2.out _) _ | exact zaa (zaa (zaa HB2.out _) _) _)).mono ?_; rintro e5 w5 ⟨rfl, ⟨⟨n5, rfl⟩⟩⟩))
       go_ret
       exact ⟨rfl, (by first | exact HB2.out | exact zaa HB2.out _ | exact zaa (zaa HB2.out _) _ | exact zaa (zaa (zaa HB2.out _) _) _)⟩
      | true =>
       simp only [if_true] at hr
       have HE6 := HE6 r hr
       clear hr
       go_enter Tryz.func49, Tryz.ntmps49
       go_wp2_with (first
        | (go_at_call 74; refine (HE3.out _ (by first | exact HB2.out | exact zaa HB2.out _ | exact zaa (zaa HB2.out _) _ | exact zaa (zaa (zaa HB2.out _) _) _)).mono ?_; rintro e3 w3 ⟨rfl, ⟨⟨n3, rfl⟩⟩⟩)
        | (go_at_call 75; refine (HE4.out _ (by first | exact HB2.out | exact zaa HB2.out _ | exact zaa (zaa HB2.out _) _ | exact zaa (zaa (zaa HB2.out _) _) _)).mono ?_; rintro e4 w4 ⟨rfl, ⟨⟨n4, rfl⟩⟩⟩)
        | (go_at_call 76; refine (HE5.out _ (by first | exact HB2.out | exact zaa HB2.out _ | exact zaa (zaa HB2.out _) _ | exact zaa (zaa (zaa HB2.out _) _) _)).mono ?_; rintro e5 w5 ⟨rfl, ⟨⟨n5, rfl⟩⟩⟩)
        | (go_at_call 77; refine (HE6.out _ (by first | exact HB2.out | exact zaa HB2.out _ | exact zaa (zaa HB2.out _) _ | exact zaa (zaa (zaa HB2.out _) _) _)).mono ?_; rintro e6 w6 ⟨rfl, hb6⟩))
       go_ret
       exact ⟨rfl, Below.trans (by first | exact HB2.out | exact zaa HB2.out _ | exact zaa (zaa HB2.out _) _ | exact zaa (zaa (zaa HB2.out _) _) _) (hb6.mono (by have := HB2.out.size; exact this))⟩
   ·rw [if_neg c2] at hr
    obtain rfl := Option.some.inj hr
    have d2 : (x.f2.toList == y.f2.toList) = false := by simp [c2]
    clear c2 hr HE3 HE4 HE5 HE6
    go_enter Tryz.func49, Tryz.ntmps49
    go_wp2
    go_ret
    exact ⟨rfl, HB2.out⟩
  ·rw [if_neg c1] at hr
   obtain rfl := Option.some.inj hr
   have d1 : (x.f1.toList == y.f1.toList) = false := by simp [c1]
   clear c1 hr HE3 HE4 HE5 HE6
   go_enter Tryz.func49, Tryz.ntmps49
   go_wp2
   go_ret
   exact ⟨rfl, HB2.out⟩
 ·rw [if_neg c0] at hr
  obtain rfl := Option.some.inj hr
  have d0 : ((x.f0 : Int) == y.f0) = false := by simp [c0]
  clear c0 hr HE3 HE4 HE5 HE6
  go_enter Tryz.func49, Tryz.ntmps49
  go_wp2
  go_ret
  exact ⟨rfl, HB2.out⟩
theorem zmq : ∀ k, zrh k
 | 0 => fun x y v u W r hx hy hr => by simp [zjf] at hr
 | k + 1 => fun x y v u W r hx hy hr => by
  refine samec_step k (zmq k) x y v u W r hx hy hr ?_
  obtain ⟨cs, hK, rfl⟩ := hx
  obtain ⟨A3, a3, A4, a4, A5, a5, A6, a6, rfl, p3, q3, p4, q4, p5, q5, p6, q6⟩ := zbo hK
  exact ⟨q3.2.1, q4.2.1, q5.2.1, q6.2.1⟩
def zou (W : World) (x : S62) (v : Value) : Prop := ∃ cs, k62.K W x cs ∧ v = .agg cs.toArray
theorem zou.below {W W1 : World} {x : S62} {v : Value} (h : zou W x v) (hb : Below W.heap.size W W1) : zou W1 x v := by
 obtain ⟨cs, hK, rfl⟩ := h
 exact ⟨cs, k62.K_below hb hK, rfl⟩
theorem zjg (k : Nat) (x y : S62) (v u : Value) (W : World) (r : Bool) (hx : zou W x v) (hy : zou W y u) (hr : zek k x y = some r) :
  Calls Tryz.prog 48 #[v, u] W (znj W r) := by
 obtain ⟨cs, hK, rfl⟩ := hx
 obtain ⟨A5, a5, A6, a6, A7, a7, A8, a8, rfl, p3, q3, p4, q4, p5, q5, p6, q6⟩ := zlx hK
 have HAx := Zq.mk (show zcu W x.f2 _ from ⟨_, zhg W x.f2 p3 q3 p4 q4 p5 q5 p6 q6, rfl⟩)
 obtain ⟨ds, hK', rfl⟩ := hy
 obtain ⟨B5, b5, B6, b6, B7, b7, B8, b8, rfl, s3, t3, s4, t4, s5, t5, s6, t6⟩ := zlx hK'
 have HAy := Zq.mk (show zcu W y.f2 _ from ⟨_, zhg W y.f2 s3 t3 s4 t4 s5 t5 s6 t6, rfl⟩)
 have HB2 := Zq.mk (show Below W.heap.size W ((W.alloc (.cells #[.int .i64 x.f0, .string x.f1, .int .i64 x.f2.f0, .string x.f2.f1, .string x.f2.f2, .slice A5 x.f2.f3.length a5, .slice A6 x.f2.f4.length a6, .slice A7 x.f2.f5.length a7, .slice A8 x.f2.f6.length a8, .int .i64 x.f2.f7, .int .i64 x.f3] 62)).alloc (.cells #[.int .i64 y.f0, .string y.f1, .int .i64 y.f2.f0, .string y.f2.f1, .string y.f2.f2, .slice B5 y.f2.f3.length b5, .slice B6 y.f2.f4.length b6, .slice B7 y.f2.f5.length b7, .slice B8 y.f2.f6.length b8, .int .i64 y.f2.f7, .int .i64 y.f3] 62)) from ((Below.refl _ _).alloc (Nat.le_refl _) _).alloc (by rw [World.size_alloc]; omega) _)
 unfold zek at hr
 clear hK hK' p3 q3 p4 q4 p5 q5 p6 q6 s3 t3 s4 t4 s5 t5 s6 t6
 by_cases c0 : x.f0 = y.f0
 ·rw [if_pos c0] at hr
  have d0 : ((x.f0 : Int) == y.f0) = true := by simp [c0]
  clear c0
  by_cases c1 : x.f1.toList = y.f1.toList
  ·rw [if_pos c1] at hr
   have d1 : (x.f1.toList == y.f1.toList) = true := by simp [c1]
   clear c1
   have HS := Zq.mk (zmq k x.f2 y.f2 _ _ _ r (HAx.out.below HB2.out) (HAy.out.below HB2.out) hr)
   clear hr
   go_enter Tryz.func48, Tryz.ntmps48
   go_wp2_with (go_at_call 49; refine HS.out.mono ?_; rintro e1 w1 ⟨rfl, hb1⟩)
   go_ret
   exact ⟨rfl, HB2.out.trans (hb1.mono (by have := HB2.out.size; exact this))⟩
  ·rw [if_neg c1] at hr
   obtain rfl := Option.some.inj hr
   have d1 : (x.f1.toList == y.f1.toList) = false := by simp [c1]
   clear c1 hr
   go_enter Tryz.func48, Tryz.ntmps48
   go_wp2
   go_ret
   exact ⟨rfl, HB2.out⟩
 ·rw [if_neg c0] at hr
  obtain rfl := Option.some.inj hr
  have d0 : ((x.f0 : Int) == y.f0) = false := by simp [c0]
  clear c0 hr
  go_enter Tryz.func48, Tryz.ntmps48
  go_wp2
  go_ret
  exact ⟨rfl, HB2.out⟩
theorem eqfi_calls (k : Nat) (W : World) (A A' : Option Addr) (c c' : Nat) (l m : List S62) (r : Bool) (hC : k62.C W A l.length l) (hC' : k62.C W A' m.length m) (hc : l.length ≤ c) (hc' : m.length ≤ c') (hr : zme (zek k) l m = some r) :
  Calls Tryz.prog 47 #[.slice A l.length c, .slice A' m.length c', .func (.func 48) #[] #[]] W (znj W r) := by
 have HC := Zq.mk hC
 have HC' := Zq.mk hC'
 have hz : l.length ≤ 9223372036854775807 := hC.2.1
 unfold zme at hr
 clear hC hC'
 by_cases hlm : l.length = m.length
 ·rw [if_pos hlm] at hr
  have HR := Zq.mk hr
  have HLM := Zq.mk hlm
  have hlm' : ((l.length : Int) != (m.length : Int)) = false := by simp [hlm]
  have hlm2 : ((l.length : Int) == (m.length : Int)) = true := by simp [hlm]
  have hmz : m.length ≤ 9223372036854775807 := by omega
  clear hr hlm
  go_enter Tryz.func47, Tryz.ntmps47
  go_wp2
  clear hlm' hlm2
  go_loopw [17] (fun i wr => ∃ n : Nat, n ≤ l.length ∧ i = .int .i64 n ∧ Zq (Below W.heap.size W wr) ∧ Zq (znf (zek k) (l.drop n) (m.drop n) = some r)) (fun i _ => l.length - (intOf i).toNat)
  case atStart => exact ⟨0, Nat.zero_le _, rfl, ⟨Below.refl _ _⟩, HR⟩
  case round =>
   clear HR
   obtain ⟨n, hn, rfl, HB, HR⟩ := hrel
   by_cases hlt : n < l.length
   ·have hltm : n < m.length := by have := HLM.out; omega
    obtain ⟨ad, A5, a5, A6, a6, A7, a7, A8, a8, rfl, x0, x1, x2, x3, x4, x5, x6, x7, x8, x9, x10, p3, q3, p4, q4, p5, q5, p6, q6⟩ := zor HC.out (n : Int) (by omega) (by omega)
    obtain ⟨bd, B5, b5, B6, b6, B7, b7, B8, b8, rfl, y0, y1, y2, y3, y4, y5, y6, y7, y8, y9, y10, s3, t3, s4, t4, s5, t5, s6, t6⟩ := zor HC'.out (n : Int) (by omega) (by omega)
    have hrd : ∀ l : List S62, zcs l (n : Int) = l.getD n z62 := fun l => by unfold zcs; rw [Int.toNat_natCast]
    rw [hrd] at x0 x1 x2 x3 x4 x5 x6 x7 x8 x9 x10 p3 q3 p4 q4 p5 q5 p6 q6 y0 y1 y2 y3 y4 y5 y6 y7 y8 y9 y10 s3 t3 s4 t4 s5 t5 s6 t6
    rw [Int.toNat_natCast] at x0 x1 x2 x3 x4 x5 x6 x7 x8 x9 x10 y0 y1 y2 y3 y4 y5 y6 y7 y8 y9 y10
    have hr := HR.out
    rw [zhj l z62 n hlt, zhj m z62 n hltm, zle] at hr
    clear HR hrd
    generalize l.getD n z62 = x at x0 x1 x2 x3 x4 x5 x6 x7 x8 x9 x10 p3 q3 p4 q4 p5 q5 p6 q6 hr
    generalize m.getD n z62 = y at y0 y1 y2 y3 y4 y5 y6 y7 y8 y9 y10 s3 t3 s4 t4 s5 t5 s6 t6 hr
    have HAx := Zq.mk (show zou W x _ from ⟨_, zoi W x p3 q3 p4 q4 p5 q5 p6 q6, rfl⟩)
    have HAy := Zq.mk (show zou W y _ from ⟨_, zoi W y s3 t3 s4 t4 s5 t5 s6 t6, rfl⟩)
    have hbel := HB.out
    have x0 := zao hbel x0
    have x1 := zao hbel x1
    have x2 := zao hbel x2
    have x3 := zao hbel x3
    have x4 := zao hbel x4
    have x5 := zao hbel x5
    have x6 := zao hbel x6
    have x7 := zao hbel x7
    have x8 := zao hbel x8
    have x9 := zao hbel x9
    have x10 := zao hbel x10
    have y0 := fun o => zao (hbel.trans ((Below.refl _ _).alloc (by exact hbel.size) o)) y0
    have y1 := fun o => zao (hbel.trans ((Below.refl _ _).alloc (by exact hbel.size) o)) y1
    have y2 := fun o => zao (hbel.trans ((Below.refl _ _).alloc (by exact hbel.size) o)) y2
    have y3 := fun o => zao (hbel.trans ((Below.refl _ _).alloc (by exact hbel.size) o)) y3
    have y4 := fun o => zao (hbel.trans ((Below.refl _ _).alloc (by exact hbel.size) o)) y4
    have y5 := fun o => zao (hbel.trans ((Below.refl _ _).alloc (by exact hbel.size) o)) y5
    have y6 := fun o => zao (hbel.trans ((Below.refl _ _).alloc (by exact hbel.size) o)) y6
    have y7 := fun o => zao (hbel.trans ((Below.refl _ _).alloc (by exact hbel.size) o)) y7
    have y8 := fun o => zao (hbel.trans ((Below.refl _ _).alloc (by exact hbel.size) o)) y8
    have y9 := fun o => zao (hbel.trans ((Below.refl _ _).alloc (by exact hbel.size) o)) y9
    have y10 := fun o => zao (hbel.trans ((Below.refl _ _).alloc (by exact hbel.size) o)) y10
    have HBB := Zq.mk (show Below W.heap.size W ((wr.alloc (.cells #[.int .i64 x.f0, .string x.f1, .int .i64 x.f2.f0, .string x.f2.f1, .string x.f2.f2, .slice A5 x.f2.f3.length a5, .slice A6 x.f2.f4.length a6, .slice A7 x.f2.f5.length a7, .slice A8 x.f2.f6.length a8, .int .i64 x.f2.f7, .int .i64 x.f3] 62)).alloc (.cells #[.int .i64 y.f0, .string y.f1, .int .i64 y.f2.f0, .string y.f2.f1, .string y.f2.f2, .slice B5 y.f2.f3.length b5, .slice B6 y.f2.f4.length b6, .slice B7 y.f2.f5.length b7, .slice B8 y.f2.f6.length b8, .int .i64 y.f2.f7, .int .i64 y.f3] 62)) from (hbel.alloc hbel.size _).alloc (by rw [World.size_alloc]; have := hbel.size; omega) _)
    have HSz := Zq.mk (show W.heap.size ≤ ((wr.alloc (.cells #[.int .i64 x.f0, .string x.f1, .int .i64 x.f2.f0, .string x.f2.f1, .string x.f2.f2, .slice A5 x.f2.f3.length a5, .slice A6 x.f2.f4.length a6, .slice A7 x.f2.f5.length a7, .slice A8 x.f2.f6.length a8, .int .i64 x.f2.f7, .int .i64 x.f3] 62)).alloc (.cells #[.int .i64 y.f0, .string y.f1, .int .i64 y.f2.f0, .string y.f2.f1, .string y.f2.f2, .slice B5 y.f2.f3.length b5, .slice B6 y.f2.f4.length b6, .slice B7 y.f2.f5.length b7, .slice B8 y.f2.f6.length b8, .int .i64 y.f2.f7, .int .i64 y.f3] 62)).heap.size from HBB.out.size)
    clear hbel p3 q3 p4 q4 p5 q5 p6 q6 s3 t3 s4 t4 s5 t5 s6 t6
    match hs : zek k x y with
    | none => rw [hs] at hr; cases hr
    | some false =>
     rw [hs] at hr
     obtain rfl := Option.some.inj hr
     have HK := Zq.mk (zjg k x y _ _ _ false (HAx.out.below HBB.out) (HAy.out.below HBB.out) hs)
     clear hr hs
     go_wp2_with ((with_reducible refine zci 48 ?_); refine HK.out.mono ?_; rintro e1 w1 ⟨rfl, hb1⟩)
     go_ret
     exact ⟨rfl, HBB.out.trans (hb1.mono HSz.out)⟩
    | some true =>
     rw [hs] at hr
     have HK := Zq.mk (zjg k x y _ _ _ true (HAx.out.below HBB.out) (HAy.out.below HBB.out) hs)
     have HR := Zq.mk (show znf (zek k) (l.drop (n + 1)) (m.drop (n + 1)) = some r from hr)
     clear hr hs
     go_wp2_with ((with_reducible refine zci 48 ?_); refine HK.out.mono ?_; rintro e1 w1 ⟨rfl, hb1⟩; have HB1 := Zq.mk (HBB.out.trans (hb1.mono HSz.out)); clear hb1)
     go_roundw
     case rel => exact ⟨n + 1, by omega, by go_num, HB1, HR⟩
     case measure => simp [intOf]; omega
   ·obtain rfl : n = l.length := by omega
    have hr := HR.out
    rw [List.drop_length, List.drop_of_length_le (by have := HLM.out; omega)] at hr
    obtain rfl := Option.some.inj hr
    clear HR hr
    go_wp2
    go_ret
    exact ⟨rfl, HB.out⟩
 ·rw [if_neg hlm] at hr
  obtain rfl := Option.some.inj hr
  have hlm' : ¬ ((l.length : Int) = (m.length : Int)) := by omega
  clear hr
  go_enter Tryz.func47, Tryz.ntmps47
  go_wp2
  go_ret
  exact ⟨rfl, Below.refl _ _⟩
theorem zja (k : Nat) (W : World) (A A' : Option Addr) (c c' : Nat) (l m : List S62) (r : Bool) (hC : k62.C W A l.length l) (hC' : k62.C W A' m.length m) (hc : l.length ≤ c) (hc' : m.length ≤ c') (hr : zme (zek k) l m = some r) :
  Calls Tryz.prog 24 #[.agg #[.slice A l.length c], .agg #[.slice A' m.length c']] W (znj W r) := by
 have HB2 := Zq.mk (show Below W.heap.size W ((W.alloc (.cells #[.slice A l.length c] 36)).alloc (.cells #[.slice A' m.length c'] 36)) from ((Below.refl _ _).alloc (Nat.le_refl _) _).alloc (by rw [World.size_alloc]; omega) _)
 have HE := Zq.mk (eqfi_calls k _ A A' c c' l m r (Kd.C_below hC HB2.out) (Kd.C_below hC' HB2.out) hc hc' hr)
 clear hC hC' hr
 go_enter Tryz.func24, Tryz.ntmps24
 go_wp2_with (go_at_call 47; refine HE.out.mono ?_; rintro e1 w1 ⟨rfl, hb1⟩)
 go_ret
 exact ⟨rfl, HB2.out.trans (hb1.mono (by have := HB2.out.size; exact this))⟩
end
section
def srcA : ByteArray := ⟨#[108, 101, 116, 32, 97, 32, 61, 32, 110, 111, 116, 32, 40, 116, 114, 117, 101, 32, 111, 114, 32, 98, 41, 32, 97, 110, 100, 32, 112, 111, 114, 116, 32, 105, 110, 32, 123, 32, 56, 48, 44, 32, 49, 32, 45, 32, 57, 32, 125, 59]⟩
def cTrueA : S60 := ⟨1, ⟨#[]⟩, ⟨#[]⟩, [], [], [], [], 13⟩
def cNameA : S60 := ⟨3, ⟨#[98]⟩, ⟨#[]⟩, [], [], [], [], 21⟩
def cOrA : S60 := ⟨6, ⟨#[]⟩, ⟨#[]⟩, [], [], [], [cTrueA, cNameA], 13⟩
def zrn : S60 := ⟨4, ⟨#[]⟩, ⟨#[]⟩, [], [], [], [cOrA], 8⟩
def zqx : S60 := ⟨8, ⟨#[]⟩, ⟨#[]⟩, [], [⟨80, 80⟩, ⟨1, 9⟩], [], [], 28⟩
def cAndA : S60 := ⟨5, ⟨#[]⟩, ⟨#[]⟩, [], [], [], [zrn, zqx], 8⟩
def zfl : S62 := ⟨1, ⟨#[97]⟩, cAndA, 0⟩
def srcB : ByteArray := ⟨#[108, 101, 116, 32, 97, 32, 61, 32, 59]⟩
theorem parse_A : zbh srcA = ([zfl], 0, 0) := by kernel_rfl
theorem parse_B : zbh srcB = ([], 90, 8) := by kernel_rfl
def outA : List UInt8 := [108, 101, 116, 32, 97, 61, 110, 111, 116, 40, 116, 114, 117, 101, 32, 111, 114, 32, 98, 41, 97, 110, 100, 32, 112, 111, 114, 116, 32, 105, 110, 123, 56, 48, 44, 49, 45, 57, 125, 59]
theorem zpk : zec [zfl] = (outA, true) := by kernel_rfl
theorem print_0 : zec [⟨0, ⟨#[]⟩, z60, 0⟩] = ([], false) := by kernel_rfl
theorem same_A : zme (zek 5) [zfl] [zfl] = some true := by kernel_rfl
theorem same_0 : zme (zek 5) [zfl] [] = some false := by kernel_rfl
end
end Go.Proofs.YtjeekocidaogoaaGreatDoor.H

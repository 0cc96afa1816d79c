/- A condition that begins with an operator's word. -/
/- What the parser's spec says of tokens: enough fuel, where it goes on; items and policies. -/
/- The parser's functions that call each other: what they read. -/
import Derived.Test.YtjeekocidaogoaaGreatDoorK5First
import Derived.Test.YtjeekocidaogoaaGreatDoorK5Tree
import Derived.Test.YtjeekocidaogoaaGreatDoorK5Src
set_option linter.unusedVariables false
set_option linter.unusedSimpArgs false
set_option maxRecDepth 100000
set_option maxHeartbeats 8000000
namespace Go.Proofs.YtjeekocidaogoaaGreatDoor.H
open Go.RowKit Go.Proofs.YtjeekocidaogoaaGreatDoor.Hand Go.Proofs.YtjeekocidaogoaaGreatDoorW.PrintWords Go.Proofs.YtjeekocidaogoaaGreatDoorW.PrintLast Go.Proofs.YtjeekocidaogoaaGreatDoorW.PrintMore
section
abbrev zmy (fn g : Nat) : Value := .func (.func fn) #[.pointer (some ⟨g, 0, none⟩)] #[]
def zez (g : Nat) : List (ByteArray × Value) :=
  [(zqh, .func (.func 175) #[] #[]), (znz, .func (.func 176) #[] #[]), (zqk, zmy 177 g), (zqi, zmy 178 g),
   (zlm, zmy 179 g), (zqj, zmy 180 g), (zln, zmy 181 g), (sHas, zmy 182 g)]
theorem true_calls (W : World) (a : Int) :
    Calls Tryz.prog 175 #[.int .i64 a] W fun e W' => e = .returned (.agg #[.int .i64 1, .string ⟨#[]⟩, .string ⟨#[]⟩, .slice none 0 0, .slice none 0 0, .slice none 0 0, .slice none 0 0, .int .i64 a]) ∧ Below W.heap.size W W' := by
  go_enter Tryz.func175, Tryz.ntmps175
  go_wp2
  have R1 := heap_alloc_new W (.cells #[.int .i64 1, .string ⟨#[]⟩, .string ⟨#[]⟩, .slice none 0 0, .slice none 0 0, .slice none 0 0, .slice none 0 0, .int .i64 a] 60)
  have R2 := (Below.refl W.heap.size W).alloc (Nat.le_refl _) (.cells #[.int .i64 1, .string ⟨#[]⟩, .string ⟨#[]⟩, .slice none 0 0, .slice none 0 0, .slice none 0 0, .slice none 0 0, .int .i64 a] 60)
  refine bodyPost_ret (results_cell_row rfl _ _ W.heap.size 60 #[.int .i64 1, .string ⟨#[]⟩, .string ⟨#[]⟩, .slice none 0 0, .slice none 0 0, .slice none 0 0, .slice none 0 0, .int .i64 a] (0, 0) _ rfl R1 Tryz.underlying60 rfl (by kernel_rfl)) rfl ?_
  exact ⟨rfl, R2⟩
theorem false_calls (W : World) (a : Int) :
    Calls Tryz.prog 176 #[.int .i64 a] W fun e W' => e = .returned (.agg #[.int .i64 2, .string ⟨#[]⟩, .string ⟨#[]⟩, .slice none 0 0, .slice none 0 0, .slice none 0 0, .slice none 0 0, .int .i64 a]) ∧ Below W.heap.size W W' := by
  go_enter Tryz.func176, Tryz.ntmps176
  go_wp2
  have R1 := heap_alloc_new W (.cells #[.int .i64 2, .string ⟨#[]⟩, .string ⟨#[]⟩, .slice none 0 0, .slice none 0 0, .slice none 0 0, .slice none 0 0, .int .i64 a] 60)
  have R2 := (Below.refl W.heap.size W).alloc (Nat.le_refl _) (.cells #[.int .i64 2, .string ⟨#[]⟩, .string ⟨#[]⟩, .slice none 0 0, .slice none 0 0, .slice none 0 0, .slice none 0 0, .int .i64 a] 60)
  refine bodyPost_ret (results_cell_row rfl _ _ W.heap.size 60 #[.int .i64 2, .string ⟨#[]⟩, .string ⟨#[]⟩, .slice none 0 0, .slice none 0 0, .slice none 0 0, .slice none 0 0, .int .i64 a] (0, 0) _ rfl R1 Tryz.underlying60 rfl (by kernel_rfl)) rfl ?_
  exact ⟨rfl, R2⟩
section
variable (g T c : Nat) (toks : List Tok) (hend : ∀ k, k < toks.length → (tk toks k).kind ≠ 8 → k + 1 < toks.length)
include hend
theorem zeo (fn : Nat) (W : World) (i : Nat) (res : PR CD) (hi : i < toks.length) (hs : PSt W g T c toks i) (hk : (tk toks i).kind = 1) (hb : isT (tk toks i) zey = false)
    (l1 l2 : List (ByteArray × Value)) (htab : zez g = l1 ++ ((tk toks i).text, zmy fn g) :: l2 ∧ ∀ p ∈ l1, p.1 ≠ (tk toks i).text) (hcf : ∀ w x, (callFunc fn #[.pointer (some ⟨g, 0, none⟩), x]).run Tryz.prog w = .ok (.enter fn #[.pointer (some ⟨g, 0, none⟩), x]) w)
    (hcall : ∀ W', PSt W' g T c toks (i + 1) → Calls Tryz.prog fn #[.pointer (some ⟨g, 0, none⟩), .int .i64 (tk toks i).place] W' (zhn W' g T c toks res)) :
    Calls Tryz.prog 144 #[.pointer (some ⟨g, 0, none⟩)] W (zhn W g T c toks res) := by
  have hg := hs.lts.1
  have hT := hs.lts.2.1
  have hm := hs.many
  have HI1 := Zq.mk (hend i hi (by omega))
  have HP := Zq.mk (fun W' (h' : PSt W' g T c toks i) => zca W' g T c toks i _ (zbt toks hi) h')
  have HT := Zq.mk (fun W' (h' : PSt W' g T c toks i) => zch W' g T c toks i _ (zbt toks hi) zey h')
  simp only [hb, Bool.false_eq_true, if_false] at HT
  have HX0 := Zq.mk (hs.alloc (.cells zce 60))
  have HZ0 := Zq.mk (heap_alloc_new W (.cells zce 60))
  have HF0 := Zq.mk (Fr.refl (W.alloc (.cells zce 60)) (· = g))
  have HTAB := Zq.mk htab
  have HCALL := Zq.mk hcall
  clear hs htab hcall
  have hmm := @run_makeMap Tryz.prog
  have hmf : ∀ (fn : Fn) (first cap : Array Value) (w : World), (Instr.makeFunc fn first cap).run Tryz.prog w = .ok (.func fn first cap) w := fun _ _ _ _ => rfl
  go_enter Tryz.func144, Tryz.ntmps144
  go_upto_region 10 with (first
    | (go_at_call 28; refine (HP.out _ HX0.out).mono ?_; rintro e1 w1 ⟨rfl, hb1⟩; have HX1 := Zq.mk ((HX0.out.below hb1).alloc (tokK 1 (tk toks i))); have HF1 := Zq.mk ((HF0.out.trans (Fr.of_below hb1)).alloc (tokK 1 (tk toks i))); have HM := Zq.mk (heap_alloc_new w1 (tokK 1 (tk toks i))); clear hb1 HP)
    | (go_at_call 78; refine (HT.out _ HX1.out).mono ?_; rintro e2 w2 ⟨rfl, hS, hF⟩; have HM := Zq.mk (hF.blk HM.out (by show ¬ w1.heap.size = g; have := HF1.out.size; rw [World.size_alloc, World.size_alloc] at this; omega)); obtain ⟨p0, -⟩ := zcx HM.out; have HX2 := Zq.mk hS; have HF2 := Zq.mk (HF1.out.trans hF); have HMAP := Zq.mk (zfu w2); have HG := Zq.mk ((Fr.refl w2 (· = w2.heap.size)).alloc (.map #[] 0)); clear hS hF HT)
    | (refine zdd rfl _ _ _ rfl Tryz.underlying196 Tryz.underlying9 w2.heap.size _ _ _ rfl HMAP.out rfl rfl (by kernel_rfl) ?_; intro w3 hm3 hg3; have HMAP := Zq.mk hm3; have HG := Zq.mk (HG.out.trans (Fr.of_grown (S := (· = w2.heap.size)) hg3 (fun k hk => (Option.some.inj hk).symm))); clear hm3 hg3))
  have hsz := HF2.out.size
  rw [World.size_alloc] at hsz
  have hgG : g ≠ w2.heap.size := (by have := HX2.out.lts.1; omega)
  have HX3 := Zq.mk (HX2.out.fr (S := (· = w2.heap.size)) HG.out (fun e => hgG e) (fun e => by have := HX2.out.lts.2.1; omega))
  have HF3 := Zq.mk (HF2.out.then_ HG.out (fun k hk => .inr (by rw [World.size_alloc]; omega)))
  have HM3 := Zq.mk (HG.out.blk HM.out (by show ¬ w1.heap.size = w2.heap.size; have := zat HM.out; omega))
  have HZ3 := Zq.mk (HF3.out.blk HZ0.out (by show ¬ W.heap.size = g; omega))
  have hlt1 := zat HM3.out
  obtain ⟨q0, q1, q2, q3, q4, q5⟩ := zcx HM3.out
  obtain ⟨s0, s1, s2⟩ := HX3.out.facts
  have hgM : g ≠ w1.heap.size := (by have h1 := HF1.out.size; rw [World.size_alloc, World.size_alloc] at h1; omega)
  have hgN : g ≠ W.heap.size := (by omega)
  have hlk := MapS.look Tryz.underlying196 Tryz.underlying9 (show MapS w3 w2.heap.size (l1 ++ ((tk toks i).text, zmy fn g) :: l2) from HTAB.out.1 ▸ HMAP.out) HTAB.out.2
  clear HX0 HX1 HX2 HF0 HF1 HF2 HG HM
  cases res with
  | bad ke pe =>
    go_wp2_with ((with_reducible refine zcg fn ?_); refine (HCALL.out _ HX3.out.step).mono ?_; rintro e4 w4 ⟨rfl, hF⟩)
    exact ⟨rfl, rfl, (((Fr.refl W (· = g)).alloc _).trans HF3.out).then_ (Fr.trans (Fr.setCell (S := (· = g)) (Fr.refl _ _) (.inl rfl) _) hF) (fun k hk => .inl hk)⟩
  | ok x j =>
    go_wp2_with ((with_reducible refine zcg fn ?_); refine (HCALL.out _ HX3.out.step).mono ?_; rintro e4 w4 ⟨cs, L, rfl, hTr, hS, hF, hj, hD, hd, hND⟩; obtain ⟨v3, v4, v5, v6, rfl, -, -, -, -, A3, n3, c3, A4, n4, c4, A5, n5, c5, A6, n6, c6, rfl, rfl, rfl, rfl⟩ := zbq hTr; have HX4 := Zq.mk hS; have HF4 := Zq.mk (Fr.trans (Fr.setCell (S := (· = g)) HF3.out (.inl rfl) (.int .i64 ((i : Int) + 1))) hF); have hN := HF4.out.blk HZ0.out (by show ¬ W.heap.size = g; omega); obtain ⟨y0, y1, y2, y3, y4, y5, y6, y7, z0, z1, z2, z3, z4, z5, z6, z7⟩ := zbz hN; have HN := Zq.mk hN; have HTr := Zq.mk hTr; have HRest := Zq.mk (And.intro hj (And.intro hD (And.intro hd hND))); clear hS hF hTr hj hD hd hND hN)
    obtain ⟨R1, R2, R3⟩ := zcp hg hT HN.out HX4.out (((Fr.refl W (· = g)).alloc _).trans HF4.out) (.int .i64 x.1.f0) (.string x.1.f1) (.string x.1.f2) (.slice A3 n3 c3) (.slice A4 n4 c4) (.slice A5 n5 c5) (.slice A6 n6 c6) (.int .i64 x.1.f7)
    refine bodyPost_ret (results_cell_row rfl _ _ W.heap.size 60 #[.int .i64 x.1.f0, .string x.1.f1, .string x.1.f2, .slice A3 n3 c3, .slice A4 n4 c4, .slice A5 n5 c5, .slice A6 n6 c6, .int .i64 x.1.f7] (0, 0) _ rfl R1 Tryz.underlying60 rfl (by kernel_rfl)) rfl ?_
    have hsz3 := HF3.out.size
    rw [World.size_alloc] at hsz3
    have hbase : W.heap.size + 1 ≤ (w3.setCell ⟨g, 1, none⟩ (.int .i64 ((i : Int) + 1))).heap.size := by simpa [World.setCell] using hsz3
    exact ⟨_, _, rfl, (HTr.out.fr (zdf _ _ _ _ _ _ _ _ _ _) fun g' hg' e => by have := (HTr.out.lt g' hg').1; omega).lower (by omega), R2, R3, HRest.out.1, HRest.out.2.1, HRest.out.2.2.1, HRest.out.2.2.2⟩
theorem zlb (fn : Nat) (W : World) (i : Nat) (res : PR CD) (hi : i < toks.length) (hs : PSt W g T c toks i) (hk : (tk toks i).kind = 1) (hb : isT (tk toks i) zey = false)
    (l1 l2 : List (ByteArray × Value)) (htab : zez g = l1 ++ ((tk toks i).text, .func (.func fn) #[] #[]) :: l2 ∧ ∀ p ∈ l1, p.1 ≠ (tk toks i).text) (hcf : ∀ w x, (callFunc fn #[x]).run Tryz.prog w = .ok (.enter fn #[x]) w)
    (hcall : ∀ W', PSt W' g T c toks (i + 1) → Calls Tryz.prog fn #[.int .i64 (tk toks i).place] W' (zhn W' g T c toks res)) :
    Calls Tryz.prog 144 #[.pointer (some ⟨g, 0, none⟩)] W (zhn W g T c toks res) := by
  have hg := hs.lts.1
  have hT := hs.lts.2.1
  have hm := hs.many
  have HI1 := Zq.mk (hend i hi (by omega))
  have HP := Zq.mk (fun W' (h' : PSt W' g T c toks i) => zca W' g T c toks i _ (zbt toks hi) h')
  have HT := Zq.mk (fun W' (h' : PSt W' g T c toks i) => zch W' g T c toks i _ (zbt toks hi) zey h')
  simp only [hb, Bool.false_eq_true, if_false] at HT
  have HX0 := Zq.mk (hs.alloc (.cells zce 60))
  have HZ0 := Zq.mk (heap_alloc_new W (.cells zce 60))
  have HF0 := Zq.mk (Fr.refl (W.alloc (.cells zce 60)) (· = g))
  have HTAB := Zq.mk htab
  have HCALL := Zq.mk hcall
  clear hs htab hcall
  have hmm := @run_makeMap Tryz.prog
  have hmf : ∀ (fn : Fn) (first cap : Array Value) (w : World), (Instr.makeFunc fn first cap).run Tryz.prog w = .ok (.func fn first cap) w := fun _ _ _ _ => rfl
  go_enter Tryz.func144, Tryz.ntmps144
  go_upto_region 10 with (first
    | (go_at_call 28; refine (HP.out _ HX0.out).mono ?_; rintro e1 w1 ⟨rfl, hb1⟩; have HX1 := Zq.mk ((HX0.out.below hb1).alloc (tokK 1 (tk toks i))); have HF1 := Zq.mk ((HF0.out.trans (Fr.of_below hb1)).alloc (tokK 1 (tk toks i))); have HM := Zq.mk (heap_alloc_new w1 (tokK 1 (tk toks i))); clear hb1 HP)
    | (go_at_call 78; refine (HT.out _ HX1.out).mono ?_; rintro e2 w2 ⟨rfl, hS, hF⟩; have HM := Zq.mk (hF.blk HM.out (by show ¬ w1.heap.size = g; have := HF1.out.size; rw [World.size_alloc, World.size_alloc] at this; omega)); obtain ⟨p0, -⟩ := zcx HM.out; have HX2 := Zq.mk hS; have HF2 := Zq.mk (HF1.out.trans hF); have HMAP := Zq.mk (zfu w2); have HG := Zq.mk ((Fr.refl w2 (· = w2.heap.size)).alloc (.map #[] 0)); clear hS hF HT)
    | (refine zdd rfl _ _ _ rfl Tryz.underlying196 Tryz.underlying9 w2.heap.size _ _ _ rfl HMAP.out rfl rfl (by kernel_rfl) ?_; intro w3 hm3 hg3; have HMAP := Zq.mk hm3; have HG := Zq.mk (HG.out.trans (Fr.of_grown (S := (· = w2.heap.size)) hg3 (fun k hk => (Option.some.inj hk).symm))); clear hm3 hg3))
  have hsz := HF2.out.size
  rw [World.size_alloc] at hsz
  have hgG : g ≠ w2.heap.size := (by have := HX2.out.lts.1; omega)
  have HX3 := Zq.mk (HX2.out.fr (S := (· = w2.heap.size)) HG.out (fun e => hgG e) (fun e => by have := HX2.out.lts.2.1; omega))
  have HF3 := Zq.mk (HF2.out.then_ HG.out (fun k hk => .inr (by rw [World.size_alloc]; omega)))
  have HM3 := Zq.mk (HG.out.blk HM.out (by show ¬ w1.heap.size = w2.heap.size; have := zat HM.out; omega))
  have HZ3 := Zq.mk (HF3.out.blk HZ0.out (by show ¬ W.heap.size = g; omega))
  have hlt1 := zat HM3.out
  obtain ⟨q0, q1, q2, q3, q4, q5⟩ := zcx HM3.out
  obtain ⟨s0, s1, s2⟩ := HX3.out.facts
  have hgM : g ≠ w1.heap.size := (by have h1 := HF1.out.size; rw [World.size_alloc, World.size_alloc] at h1; omega)
  have hgN : g ≠ W.heap.size := (by omega)
  have hlk := MapS.look Tryz.underlying196 Tryz.underlying9 (show MapS w3 w2.heap.size (l1 ++ ((tk toks i).text, .func (.func fn) #[] #[]) :: l2) from HTAB.out.1 ▸ HMAP.out) HTAB.out.2
  clear HX0 HX1 HX2 HF0 HF1 HF2 HG HM
  cases res with
  | bad ke pe =>
    go_wp2_with ((with_reducible refine zcg fn ?_); refine (HCALL.out _ HX3.out.step).mono ?_; rintro e4 w4 ⟨rfl, hF⟩)
    exact ⟨rfl, rfl, (((Fr.refl W (· = g)).alloc _).trans HF3.out).then_ (Fr.trans (Fr.setCell (S := (· = g)) (Fr.refl _ _) (.inl rfl) _) hF) (fun k hk => .inl hk)⟩
  | ok x j =>
    go_wp2_with ((with_reducible refine zcg fn ?_); refine (HCALL.out _ HX3.out.step).mono ?_; rintro e4 w4 ⟨cs, L, rfl, hTr, hS, hF, hj, hD, hd, hND⟩; obtain ⟨v3, v4, v5, v6, rfl, -, -, -, -, A3, n3, c3, A4, n4, c4, A5, n5, c5, A6, n6, c6, rfl, rfl, rfl, rfl⟩ := zbq hTr; have HX4 := Zq.mk hS; have HF4 := Zq.mk (Fr.trans (Fr.setCell (S := (· = g)) HF3.out (.inl rfl) (.int .i64 ((i : Int) + 1))) hF); have hN := HF4.out.blk HZ0.out (by show ¬ W.heap.size = g; omega); obtain ⟨y0, y1, y2, y3, y4, y5, y6, y7, z0, z1, z2, z3, z4, z5, z6, z7⟩ := zbz hN; have HN := Zq.mk hN; have HTr := Zq.mk hTr; have HRest := Zq.mk (And.intro hj (And.intro hD (And.intro hd hND))); clear hS hF hTr hj hD hd hND hN)
    obtain ⟨R1, R2, R3⟩ := zcp hg hT HN.out HX4.out (((Fr.refl W (· = g)).alloc _).trans HF4.out) (.int .i64 x.1.f0) (.string x.1.f1) (.string x.1.f2) (.slice A3 n3 c3) (.slice A4 n4 c4) (.slice A5 n5 c5) (.slice A6 n6 c6) (.int .i64 x.1.f7)
    refine bodyPost_ret (results_cell_row rfl _ _ W.heap.size 60 #[.int .i64 x.1.f0, .string x.1.f1, .string x.1.f2, .slice A3 n3 c3, .slice A4 n4 c4, .slice A5 n5 c5, .slice A6 n6 c6, .int .i64 x.1.f7] (0, 0) _ rfl R1 Tryz.underlying60 rfl (by kernel_rfl)) rfl ?_
    have hsz3 := HF3.out.size
    rw [World.size_alloc] at hsz3
    have hbase : W.heap.size + 1 ≤ (w3.setCell ⟨g, 1, none⟩ (.int .i64 ((i : Int) + 1))).heap.size := by simpa [World.setCell] using hsz3
    exact ⟨_, _, rfl, (HTr.out.fr (zdf _ _ _ _ _ _ _ _ _ _) fun g' hg' e => by have := (HTr.out.lt g' hg').1; omega).lower (by omega), R2, R3, HRest.out.1, HRest.out.2.1, HRest.out.2.2.1, HRest.out.2.2.2⟩
end
section
variable (g T c : Nat) (toks : List Tok)
theorem first_bad1 (W : World) (i : Nat) (hi : i < toks.length) (hs : PSt W g T c toks i) (hk : (tk toks i).kind = 1) (hb : isT (tk toks i) zey = false)
    (hop : ∀ p ∈ zez g, p.1 ≠ (tk toks i).text) :
    Calls Tryz.prog 144 #[.pointer (some ⟨g, 0, none⟩)] W (zhn W g T c toks (.bad 90 (tk toks i).place)) := by
  have hg := hs.lts.1
  have hT := hs.lts.2.1
  have hm := hs.many
  have HFL := Zq.mk (fun W' (h' : PSt W' g T c toks i) => zdt W' g T c toks i _ (zbt toks hi) 90 h')
  have HP := Zq.mk (fun W' (h' : PSt W' g T c toks i) => zca W' g T c toks i _ (zbt toks hi) h')
  have HT := Zq.mk (fun W' (h' : PSt W' g T c toks i) => zch W' g T c toks i _ (zbt toks hi) zey h')
  simp only [hb, Bool.false_eq_true, if_false] at HT
  have HX0 := Zq.mk (hs.alloc (.cells zce 60))
  have HZ0 := Zq.mk (heap_alloc_new W (.cells zce 60))
  have HF0 := Zq.mk (Fr.refl (W.alloc (.cells zce 60)) (· = g))
  clear hs
  have hmm := @run_makeMap Tryz.prog
  have hmf : ∀ (fn : Fn) (first cap : Array Value) (w : World), (Instr.makeFunc fn first cap).run Tryz.prog w = .ok (.func fn first cap) w := fun _ _ _ _ => rfl
  go_enter Tryz.func144, Tryz.ntmps144
  go_upto_region 10 with (first
    | (go_at_call 28; refine (HP.out _ HX0.out).mono ?_; rintro e1 w1 ⟨rfl, hb1⟩; have HX1 := Zq.mk ((HX0.out.below hb1).alloc (tokK 1 (tk toks i))); have HF1 := Zq.mk ((HF0.out.trans (Fr.of_below hb1)).alloc (tokK 1 (tk toks i))); have HM := Zq.mk (heap_alloc_new w1 (tokK 1 (tk toks i))); clear hb1 HP)
    | (go_at_call 78; refine (HT.out _ HX1.out).mono ?_; rintro e2 w2 ⟨rfl, hS, hF⟩; have HM := Zq.mk (hF.blk HM.out (by show ¬ w1.heap.size = g; have := HF1.out.size; rw [World.size_alloc, World.size_alloc] at this; omega)); obtain ⟨p0, -⟩ := zcx HM.out; have HX2 := Zq.mk hS; have HF2 := Zq.mk (HF1.out.trans hF); have HMAP := Zq.mk (zfu w2); have HG := Zq.mk ((Fr.refl w2 (· = w2.heap.size)).alloc (.map #[] 0)); clear hS hF HT)
    | (refine zdd rfl _ _ _ rfl Tryz.underlying196 Tryz.underlying9 w2.heap.size _ _ _ rfl HMAP.out rfl rfl (by kernel_rfl) ?_; intro w3 hm3 hg3; have HMAP := Zq.mk hm3; have HG := Zq.mk (HG.out.trans (Fr.of_grown (S := (· = w2.heap.size)) hg3 (fun k hk => (Option.some.inj hk).symm))); clear hm3 hg3))
  have hsz := HF2.out.size
  rw [World.size_alloc] at hsz
  have hgG : g ≠ w2.heap.size := (by have := HX2.out.lts.1; omega)
  have HX3 := Zq.mk (HX2.out.fr (S := (· = w2.heap.size)) HG.out (fun e => hgG e) (fun e => by have := HX2.out.lts.2.1; omega))
  have HF3 := Zq.mk (HF2.out.then_ HG.out (fun k hk => .inr (by rw [World.size_alloc]; omega)))
  have HM3 := Zq.mk (HG.out.blk HM.out (by show ¬ w1.heap.size = w2.heap.size; have := zat HM.out; omega))
  have HZ3 := Zq.mk (HF3.out.blk HZ0.out (by show ¬ W.heap.size = g; omega))
  have hlt1 := zat HM3.out
  obtain ⟨q0, q1, q2, q3, q4, q5⟩ := zcx HM3.out
  obtain ⟨s0, s1, s2⟩ := HX3.out.facts
  have hgM : g ≠ w1.heap.size := (by have h1 := HF1.out.size; rw [World.size_alloc, World.size_alloc] at h1; omega)
  have hgN : g ≠ W.heap.size := (by omega)
  have hlk := MapS.look_none Tryz.underlying196 Tryz.underlying9 (P := Tryz.prog) (z := .nilFunc) (W := w3) (by kernel_rfl) (show MapS w3 w2.heap.size (zez g) from HMAP.out) hop
  clear hop
  clear HX0 HX1 HX2 HF0 HF1 HF2 HG HM
  go_wp2_with (go_at_call 51; refine (HFL.out _ HX3.out).mono ?_; rintro e4 w4 ⟨rfl, hb4⟩)
  exact ⟨rfl, rfl, (((Fr.refl W (· = g)).alloc _).trans HF3.out).trans (Fr.of_below hb4)⟩
theorem first_bad2 (W : World) (i : Nat) (hi : i < toks.length) (hs : PSt W g T c toks i) (hk1 : ¬ (tk toks i).kind = 1) (hk2 : ¬ (tk toks i).kind = 2) (hb : isT (tk toks i) zey = false) :
    Calls Tryz.prog 144 #[.pointer (some ⟨g, 0, none⟩)] W (zhn W g T c toks (.bad 90 (tk toks i).place)) := by
  have hg := hs.lts.1
  have hT := hs.lts.2.1
  have hm := hs.many
  have HFL := Zq.mk (fun W' (h' : PSt W' g T c toks i) => zdt W' g T c toks i _ (zbt toks hi) 90 h')
  have HP := Zq.mk (fun W' (h' : PSt W' g T c toks i) => zca W' g T c toks i _ (zbt toks hi) h')
  have HT := Zq.mk (fun W' (h' : PSt W' g T c toks i) => zch W' g T c toks i _ (zbt toks hi) zey h')
  simp only [hb, Bool.false_eq_true, if_false] at HT
  have HX0 := Zq.mk (hs.alloc (.cells zce 60))
  have HZ0 := Zq.mk (heap_alloc_new W (.cells zce 60))
  have HF0 := Zq.mk (Fr.refl (W.alloc (.cells zce 60)) (· = g))
  clear hs
  have hmm := @run_makeMap Tryz.prog
  have hmf : ∀ (fn : Fn) (first cap : Array Value) (w : World), (Instr.makeFunc fn first cap).run Tryz.prog w = .ok (.func fn first cap) w := fun _ _ _ _ => rfl
  go_enter Tryz.func144, Tryz.ntmps144
  go_upto_region 10 with (first
    | (go_at_call 28; refine (HP.out _ HX0.out).mono ?_; rintro e1 w1 ⟨rfl, hb1⟩; have HX1 := Zq.mk ((HX0.out.below hb1).alloc (tokO (tk toks i))); have HF1 := Zq.mk ((HF0.out.trans (Fr.of_below hb1)).alloc (tokO (tk toks i))); have HM := Zq.mk (heap_alloc_new w1 (tokO (tk toks i))); clear hb1 HP)
    | (go_at_call 78; refine (HT.out _ HX1.out).mono ?_; rintro e2 w2 ⟨rfl, hS, hF⟩; have HM := Zq.mk (hF.blk HM.out (by show ¬ w1.heap.size = g; have := HF1.out.size; rw [World.size_alloc, World.size_alloc] at this; omega)); obtain ⟨p0, -⟩ := zcx HM.out; have HX2 := Zq.mk hS; have HF2 := Zq.mk (HF1.out.trans hF); have HMAP := Zq.mk (zfu w2); have HG := Zq.mk ((Fr.refl w2 (· = w2.heap.size)).alloc (.map #[] 0)); clear hS hF HT)
    | (refine zdd rfl _ _ _ rfl Tryz.underlying196 Tryz.underlying9 w2.heap.size _ _ _ rfl HMAP.out rfl rfl (by kernel_rfl) ?_; intro w3 hm3 hg3; have HMAP := Zq.mk hm3; have HG := Zq.mk (HG.out.trans (Fr.of_grown (S := (· = w2.heap.size)) hg3 (fun k hk => (Option.some.inj hk).symm))); clear hm3 hg3))
  have hsz := HF2.out.size
  rw [World.size_alloc] at hsz
  have hgG : g ≠ w2.heap.size := (by have := HX2.out.lts.1; omega)
  have HX3 := Zq.mk (HX2.out.fr (S := (· = w2.heap.size)) HG.out (fun e => hgG e) (fun e => by have := HX2.out.lts.2.1; omega))
  have HF3 := Zq.mk (HF2.out.then_ HG.out (fun k hk => .inr (by rw [World.size_alloc]; omega)))
  have HM3 := Zq.mk (HG.out.blk HM.out (by show ¬ w1.heap.size = w2.heap.size; have := zat HM.out; omega))
  have HZ3 := Zq.mk (HF3.out.blk HZ0.out (by show ¬ W.heap.size = g; omega))
  have hlt1 := zat HM3.out
  obtain ⟨q0, q1, q2, q3, q4, q5⟩ := zcx HM3.out
  obtain ⟨s0, s1, s2⟩ := HX3.out.facts
  have hgM : g ≠ w1.heap.size := (by have h1 := HF1.out.size; rw [World.size_alloc, World.size_alloc] at h1; omega)
  have hgN : g ≠ W.heap.size := (by omega)
  obtain ⟨lv, lok, hlk, -⟩ := MapS.look_any Tryz.underlying196 Tryz.underlying9 (P := Tryz.prog) (z := .nilFunc) (W := w3) (by kernel_rfl) (s := (tk toks i).text) (show MapS w3 w2.heap.size (zez g) from HMAP.out)
  clear HX0 HX1 HX2 HF0 HF1 HF2 HG HM
  go_wp2_with (go_at_call 51; refine (HFL.out _ HX3.out).mono ?_; rintro e4 w4 ⟨rfl, hb4⟩)
  exact ⟨rfl, rfl, (((Fr.refl W (· = g)).alloc _).trans HF3.out).trans (Fr.of_below hb4)⟩
theorem op_none {t : Tok} (g : Nat) (h : isOp t = false) : ∀ p ∈ zez g, p.1 ≠ t.text := by
  intro p hp he
  have : isOp t = true := by
    unfold isOp
    rw [List.any_eq_true]
    refine ⟨p.1, ?_, by rw [he]; simp⟩
    have : p.1 ∈ (zez g).map (·.1) := List.mem_map.2 ⟨p, hp, rfl⟩
    exact this
  rw [h] at this
  cases this
end
end
section
section
variable {toks : List Tok}
def On {α : Type} (toks : List Tok) (i : Nat) (r : PR α) : Prop := ∀ x j, r = .ok x j → i < j ∧ j < toks.length
theorem On.bad {α : Type} {i : Nat} {e p : Int} : On (α := α) toks i (.bad e p) := fun x j h => by cases h
theorem On.ok {α : Type} {i j : Nat} {x : α} (h1 : i < j) (h2 : j < toks.length) : On toks i (.ok x j) := fun y m h => by cases h; exact ⟨h1, h2⟩
theorem On.step {α : Type} {i j : Nat} {r : PR α} (h : On toks j r) (hij : i ≤ j) : On toks i r := fun x m h' => ⟨by have := (h x m h').1; omega, (h x m h').2⟩
theorem On.bind {α β : Type} {i : Nat} {r : PR α} {f : α → Nat → PR β} (h : On toks i r) (hf : ∀ x j, r = .ok x j → i < j → j < toks.length → On toks j (f x j)) : On toks i (r.bind f) := by
 cases r with
 | bad e p => exact On.bad
 | ok a j =>
  have := h a j rfl
  exact (hf a j rfl this.1 this.2).step (by omega)
theorem On.map {α β : Type} {i : Nat} {r : PR α} {f : α → β} (h : On toks i r) : On toks i (r.bind fun x j => .ok (f x) j) := by
 cases r with
 | bad e p => exact On.bad
 | ok a j => exact On.ok (h a j rfl).1 (h a j rfl).2
variable (hend : ∀ k, k < toks.length → (tk toks k).kind ≠ 8 → k + 1 < toks.length)
include hend
theorem zeu (s : ByteArray) (i : Nat) (hi : i < toks.length) : On toks i (zby toks s i) := by
 unfold zby
 by_cases h : isT (tk toks i) s = true
 ·rw [if_pos h]; exact On.ok (by omega) (hend i hi (zbk h))
 ·rw [if_neg h]; exact On.bad
theorem zjn (k : Int) (hk : k ≠ 8) (i : Nat) (hi : i < toks.length) : On toks i (ofP toks k i) := by
 unfold ofP
 by_cases h : (tk toks i).kind = k
 ·rw [if_pos h]; exact On.ok (by omega) (hend i hi (by omega))
 ·rw [if_neg h]; exact On.bad
theorem addrE_on (i : Nat) (hi : i < toks.length) : On toks i (zfz toks i) := (zjn hend 5 (by decide) i hi).map
theorem methodE_on (i : Nat) (hi : i < toks.length) : On toks i (zdh toks i) := (zjn hend 3 (by decide) i hi).map
theorem portE_on (i : Nat) (hi : i < toks.length) : On toks i (zel toks i) := by
 unfold zel ofP
 by_cases h : (tk toks i).kind = 4
 ·have h1 := hend i hi (by omega)
  rw [if_pos h]
  simp only [PR.bind]
  by_cases hm : isT (tk toks (i + 1)) zfc = true
  ·have h2 := hend (i + 1) h1 (zbk hm)
   rw [if_pos hm]
   by_cases h4 : (tk toks (i + 1 + 1)).kind = 4
   ·rw [if_pos h4]; exact On.ok (by omega) (hend (i + 1 + 1) h2 (by rw [h4]; decide))
   ·rw [if_neg h4]; exact On.bad
  ·rw [if_neg hm]; exact On.ok (by omega) h1
 ·rw [if_neg h]; exact On.bad
theorem listL_total {β : Type} (elem : Nat → PR β) (want : Int) (he : ∀ i, i < toks.length → On toks i (elem i)) : ∀ (k i : Nat) (acc : List β), i < toks.length → toks.length - i ≤ k →
  ∃ r, zfv toks elem want k i acc = some r ∧ On toks i r := by
 intro k
 induction k with
 | zero => intro i acc hi hk; omega
 | succ k ih =>
  intro i acc hi hk
  unfold zfv
  by_cases h1 : acc.length = 32 ∧ (tk toks i).kind = want
  ·rw [if_pos h1]; exact ⟨_, rfl, On.bad⟩
  ·rw [if_neg h1]
   have ho := he i hi
   cases hr : elem i with
   | bad e p => exact ⟨_, rfl, On.bad⟩
   | ok b j =>
    rw [hr] at ho
    obtain ⟨o1, o2⟩ := ho b j rfl
    dsimp only
    by_cases hc : isT (tk toks j) zha = true
    ·rw [if_pos hc]
     obtain ⟨r, h2, h3⟩ := ih (j + 1) (acc ++ [b]) (hend j o2 (zbk hc)) (by omega)
     exact ⟨r, h2, h3.step (by omega)⟩
    ·rw [if_neg hc]
     exact ⟨_, rfl, ((zeu hend zkn j o2).map (f := fun _ => acc ++ [b])).step (by omega)⟩
theorem zgp {β : Type} (elem : Nat → PR β) (want : Int) (he : ∀ i, i < toks.length → On toks i (elem i)) (k i : Nat) (hi : i < toks.length) (hk : toks.length - i ≤ k) :
  ∃ r, zgl toks elem want k i = some r ∧ On toks i r := by
 unfold zgl
 have h1 := zeu hend sIn i hi
 cases hr : zby toks sIn i with
 | bad e p => exact ⟨_, rfl, On.bad⟩
 | ok _ j =>
  rw [hr] at h1
  obtain ⟨o1, o2⟩ := h1 _ j rfl
  dsimp only
  have h2 := zeu hend zll j o2
  cases hr2 : zby toks zll j with
  | bad e p => exact ⟨_, rfl, On.bad⟩
  | ok _ m =>
   rw [hr2] at h2
   obtain ⟨o3, o4⟩ := h2 _ m rfl
   dsimp only
   obtain ⟨r, h3, h4⟩ := listL_total hend elem want he k m [] o4 (by omega)
   exact ⟨r, h3, h4.step (by omega)⟩
theorem atomP_total (t : Tok) (k i : Nat) (hi : i < toks.length) (hk : toks.length - i ≤ k) : ∃ r, zgv toks t k i = some r ∧ ∀ x j, r = .ok x j → i ≤ j ∧ j < toks.length := by
 have low : ∀ {r : PR CD}, On toks i r → ∀ x j, r = .ok x j → i ≤ j ∧ j < toks.length := fun h x j hx => ⟨by have := (h x j hx).1; omega, (h x j hx).2⟩
 unfold zgv
 split
 ·exact ⟨_, rfl, fun x j h => by cases h; exact ⟨Nat.le_refl _, hi⟩⟩
 split
 ·exact ⟨_, rfl, fun x j h => by cases h; exact ⟨Nat.le_refl _, hi⟩⟩
 split
 ·obtain ⟨r, h1, h2⟩ := zgp hend (zfz toks) 5 (addrE_on hend) k i hi hk
  rw [h1]; exact ⟨_, rfl, low h2.map⟩
 split
 ·obtain ⟨r, h1, h2⟩ := zgp hend (zel toks) 4 (portE_on hend) k i hi hk
  rw [h1]; exact ⟨_, rfl, low h2.map⟩
 split
 ·obtain ⟨r, h1, h2⟩ := zgp hend (zdh toks) 3 (methodE_on hend) k i hi hk
  rw [h1]; exact ⟨_, rfl, low h2.map⟩
 split
 ·exact ⟨_, rfl, low ((zeu hend _ i hi).bind fun _ j _ _ hj => (zjn hend 6 (by decide) j hj).map)⟩
 split
 ·exact ⟨_, rfl, low ((zjn hend 6 (by decide) i hi).bind fun _ j _ _ hj => (zeu hend _ j hj).bind fun _ m _ _ hm => (zjn hend 6 (by decide) m hm).map)⟩
 split
 ·exact ⟨_, rfl, low (zjn hend 6 (by decide) i hi).map⟩
 ·exact ⟨_, rfl, fun x j h => by cases h⟩
theorem rowL_total (part : Nat → Option (PR CD)) (kind : Int) (word : ByteArray) (i0 : Nat) (hp : ∀ j, i0 < j → j < toks.length → ∃ r, part j = some r ∧ On toks j r) : ∀ (k i : Nat) (l : List S60) (d : Nat), i0 < i → i < toks.length → toks.length - i ≤ k →
  ∃ r, rowL toks part kind word k i l d = some r ∧ ∀ x j, r = .ok x j → i ≤ j ∧ j < toks.length := by
 intro k
 induction k with
 | zero => intro i l d h0 hi hk; omega
 | succ k ih =>
  intro i l d h0 hi hk
  unfold rowL
  by_cases hw : isT (tk toks i) word = true
  ·have hi1 := hend i hi (zbk hw)
   rw [if_pos hw]
   by_cases h32 : l.length = 32
   ·rw [if_pos h32]; exact ⟨_, rfl, fun x j h => by cases h⟩
   ·rw [if_neg h32]
    obtain ⟨r, h1, h2⟩ := hp (i + 1) (by omega) hi1
    rw [h1]
    cases r with
    | bad e p => exact ⟨_, rfl, fun x j h => by cases h⟩
    | ok c j =>
     obtain ⟨o1, o2⟩ := h2 c j rfl
     obtain ⟨r, h3, h4⟩ := ih j (l ++ [c.1]) (max d c.2) (by omega) o2 (by omega)
     exact ⟨r, h3, fun x m hx => ⟨by have := (h4 x m hx).1; omega, (h4 x m hx).2⟩⟩
  ·rw [if_neg hw]
   split
   ·exact ⟨_, rfl, fun x j h => by cases h; exact ⟨Nat.le_refl _, hi⟩⟩
   ·refine ⟨_, rfl, fun x j h => ?_⟩
    unfold zfm at h
    split at h
    ·cases h
    ·cases h; exact ⟨Nat.le_refl _, hi⟩
theorem zkp (part : Nat → Option (PR CD)) (kind : Int) (word : ByteArray) (k i : Nat) (hi : i < toks.length) (hk : toks.length - i ≤ k) (hp : ∀ j, i ≤ j → j < toks.length → ∃ r, part j = some r ∧ On toks j r) :
  ∃ r, rowP toks part kind word k i = some r ∧ On toks i r := by
 unfold rowP
 obtain ⟨r, h1, h2⟩ := hp i (Nat.le_refl _) hi
 rw [h1]
 cases r with
 | bad e p => exact ⟨_, rfl, On.bad⟩
 | ok c j =>
  obtain ⟨o1, o2⟩ := h2 c j rfl
  obtain ⟨r, h3, h4⟩ := rowL_total hend part kind word i (fun j hj hl => hp j (by omega) hl) k j [c.1] c.2 o1 o2 (by omega)
  exact ⟨r, h3, fun x m hx => ⟨by have := (h4 x m hx).1; omega, (h4 x m hx).2⟩⟩
theorem condP_total : ∀ (k lvl i : Nat), lvl ≤ 3 → i < toks.length → 5 * (toks.length - i) + (3 - lvl) + 1 ≤ k → ∃ r, zbl toks k lvl i = some r ∧ On toks i r := by
 intro k
 induction k with
 | zero => intro lvl i hl hi hk; omega
 | succ k ih =>
  intro lvl i hl hi hk
  match lvl, hl with
  | 0, _ =>
   unfold zbl
   exact zkp hend _ 6 sOr k i hi (by omega) fun j hj hjl => ih 1 j (by omega) hjl (by omega)
  | 1, _ =>
   unfold zbl
   exact zkp hend _ 5 sAnd k i hi (by omega) fun j hj hjl => ih 2 j (by omega) hjl (by omega)
  | 2, _ =>
   unfold zbl
   by_cases hn : isT (tk toks i) sNot = true
   ·have hi1 := hend i hi (zbk hn)
    rw [if_pos hn]
    obtain ⟨r, h1, h2⟩ := ih 2 (i + 1) (by omega) hi1 (by omega)
    rw [h1]
    cases r with
    | bad e p => exact ⟨_, rfl, On.bad⟩
    | ok c j =>
     obtain ⟨o1, o2⟩ := h2 c j rfl
     refine ⟨_, rfl, fun x m h => ?_⟩
     unfold zfm at h
     split at h
     ·cases h
     ·cases h; exact ⟨by omega, o2⟩
   ·rw [if_neg hn]
    exact ih 3 i (by omega) hi (by omega)
  | 3, _ =>
   unfold zbl
   by_cases hb : isT (tk toks i) zey = true
   ·have hi1 := hend i hi (zbk hb)
    rw [if_pos hb]
    obtain ⟨r, h1, h2⟩ := ih 0 (i + 1) (by omega) hi1 (by omega)
    rw [h1]
    cases r with
    | bad e p => exact ⟨_, rfl, On.bad⟩
    | ok c j =>
     obtain ⟨o1, o2⟩ := h2 c j rfl
     exact ⟨_, rfl, ((zeu hend zic j o2).map (f := fun _ => c)).step (by omega)⟩
   ·rw [if_neg hb]
    by_cases h2 : (tk toks i).kind = 2
    ·rw [if_pos h2]; exact ⟨_, rfl, On.ok (by omega) (hend i hi (by omega))⟩
    ·rw [if_neg h2]
     by_cases h1 : (tk toks i).kind = 1 ∧ isOp (tk toks i) = true
     ·have hi1 := hend i hi (by omega)
      rw [if_pos h1]
      obtain ⟨r, h3, h4⟩ := atomP_total hend (tk toks i) k (i + 1) hi1 (by omega)
      exact ⟨r, h3, fun x j hx => ⟨by have := (h4 x j hx).1; omega, (h4 x j hx).2⟩⟩
     ·rw [if_neg h1]; exact ⟨_, rfl, On.bad⟩
  | n + 4, h => omega
end
def zjs (t : Tok) : Option Int := if t.text.toList = sLet.toList then some 1 else if t.text.toList = sAllow.toList then some 2 else if t.text.toList = sDeny.toList then some 3 else none
section
variable (toks : List Tok)
def zdx (k n i : Nat) : Option (PR S62) :=
 match (if (tk toks i).kind = 1 then zjs (tk toks i) else none) with
 | none => some (.bad 90 (tk toks i).place)
 | some kd =>
  if n = 100 then some (.bad 92 (tk toks i).place)
  else match ofP toks 2 (i + 1) with
   | .bad e p => some (.bad e p)
   | .ok nm j => match zby toks (if kd = 1 then sEq else znl) j with
    | .bad e p => some (.bad e p)
    | .ok _ m => match zbl toks k 0 m with
     | none => none
     | some (.bad e p) => some (.bad e p)
     | some (.ok c q) => some ((zby toks zff q).bind fun _ r => .ok ⟨kd, nm.text, c.1, (tk toks i).place⟩ r)
def zcm (k : Nat) : Nat → Nat → List S62 → Option (PR (List S62))
 | 0, _, _ => none
 | f + 1, i, acc =>
  if (tk toks i).kind = 8 then some (.ok acc i)
  else match zdx toks k acc.length i with
   | none => none
   | some (.bad e p) => some (.bad e p)
   | some (.ok x j) => zcm k f j (acc ++ [x])
def zlq : Option (PR (List S62)) := zcm toks (5 * toks.length + 4) (toks.length + 1) 0 []
end
section
variable {toks : List Tok} (hend : ∀ k, k < toks.length → (tk toks k).kind ≠ 8 → k + 1 < toks.length)
include hend
theorem itemP_total (k n i : Nat) (hi : i < toks.length) (hk : 5 * toks.length + 4 ≤ k) : ∃ r, zdx toks k n i = some r ∧ On toks i r := by
 unfold zdx
 split
 ·exact ⟨_, rfl, On.bad⟩
 ·rename_i kd hkd
  have h1 : (tk toks i).kind = 1 := by
   by_cases h : (tk toks i).kind = 1
   ·exact h
   ·rw [if_neg h] at hkd; cases hkd
  have hi1 := hend i hi (by omega)
  split
  ·exact ⟨_, rfl, On.bad⟩
  have a1 := zjn hend 2 (by decide) (i + 1) hi1
  cases hr1 : ofP toks 2 (i + 1) with
  | bad e p => exact ⟨_, rfl, On.bad⟩
  | ok nm j =>
   rw [hr1] at a1
   obtain ⟨o1, o2⟩ := a1 _ j rfl
   dsimp only
   have a2 := zeu hend (if kd = 1 then sEq else znl) j o2
   cases hr2 : zby toks (if kd = 1 then sEq else znl) j with
   | bad e p => exact ⟨_, rfl, On.bad⟩
   | ok _ m =>
    rw [hr2] at a2
    obtain ⟨o3, o4⟩ := a2 _ m rfl
    dsimp only
    obtain ⟨r, h3, h4⟩ := condP_total hend k 0 m (by omega) o4 (by omega)
    rw [h3]
    cases r with
    | bad e p => exact ⟨_, rfl, On.bad⟩
    | ok c q =>
     obtain ⟨o5, o6⟩ := h4 _ q rfl
     exact ⟨_, rfl, ((zeu hend zff q o6).map (f := fun _ => (⟨kd, nm.text, c.1, (tk toks i).place⟩ : S62))).step (by omega)⟩
theorem zie (k : Nat) (hk : 5 * toks.length + 4 ≤ k) : ∀ (f i : Nat) (acc : List S62), i < toks.length → toks.length - i ≤ f → ∃ r, zcm toks k f i acc = some r ∧ ∀ x j, r = .ok x j → i ≤ j ∧ j < toks.length := by
 intro f
 induction f with
 | zero => intro i acc hi hf; omega
 | succ f ih =>
  intro i acc hi hf
  unfold zcm
  by_cases h8 : (tk toks i).kind = 8
  ·rw [if_pos h8]; exact ⟨_, rfl, fun x j h => by cases h; exact ⟨Nat.le_refl _, hi⟩⟩
  ·rw [if_neg h8]
   obtain ⟨r, h1, h2⟩ := itemP_total hend k acc.length i hi hk
   rw [h1]
   cases r with
   | bad e p => exact ⟨_, rfl, fun x j h => by cases h⟩
   | ok x j =>
    obtain ⟨o1, o2⟩ := h2 x j rfl
    obtain ⟨r, h3, h4⟩ := ih j (acc ++ [x]) o2 (by omega)
    exact ⟨r, h3, fun y m hy => ⟨by have := (h4 y m hy).1; omega, (h4 y m hy).2⟩⟩
theorem zhc (h0 : 0 < toks.length) : ∃ r, zlq toks = some r := by
 obtain ⟨r, h, _⟩ := zie hend (5 * toks.length + 4) (Nat.le_refl _) (toks.length + 1) 0 [] h0 (by omega)
 exact ⟨r, h⟩
end
end
section
theorem zcy {a b : ByteArray} (h : a.toList = b.toList) : a = b := by
 rw [Go.Lib.toList_data, Go.Lib.toList_data] at h
 cases a; cases b
 simpa using h
theorem znx.leaf {W : World} {g T c : Nat} {toks : List Tok} {r : PR S60} {e : Ending} {W' : World} (h : znx W g T c toks r e W') (hl : ∀ x j, r = .ok x j → x.f6 = []) : zhn W g T c toks (r.bind fun x j => .ok (x, 1) j) e W' := by
 cases r with
 | bad k p => exact h
 | ok x j =>
  obtain ⟨cs, L, he, hT, hS, hF, hj⟩ := h
  exact ⟨cs, L, he, hT, hS, hF, hj, ziu (hl x j rfl), by show 1 ≤ 16; decide, hT.leaf_nodup (hl x j rfl)⟩
theorem zge {α : Type} (r : PR α) (f : α → S60) (hf : ∀ a, (f a).f6 = []) : ∀ x j, (r.bind fun l j => PR.ok (f l) j) = .ok x j → x.f6 = [] := by
 cases r with
 | bad e p => intro x j h; cases h
 | ok a i => intro x j h; cases h; exact hf a
section
variable (g T c : Nat) (toks : List Tok) (hend : ∀ k, k < toks.length → (tk toks k).kind ≠ 8 → k + 1 < toks.length)
include hend
theorem or_reads (k : Nat) (h : zgw g T c toks 80 (zbl toks k 1)) : zgw g T c toks 54 (zbl toks (k + 1) 0) := by
 intro W i res hi hs hres
 have hg := hs.lts.1
 have hT := hs.lts.2.1
 have HX0 := Zq.mk (hs.alloc (.cells zce 60))
 have HZ0 := Zq.mk (heap_alloc_new W (.cells zce 60))
 unfold zbl at hres
 have HR := Zq.mk (fun W' (h' : PSt W' g T c toks i) => zms g T c toks hend 80 6 sOr _ (fun w => by kernel_rfl) h W' k i res hi h' hres)
 have hmf : ∀ (fn : Fn) (first cap : Array Value) (w : World), (Instr.makeFunc fn first cap).run Tryz.prog w = .ok (.func fn first cap) w := fun _ _ _ _ => rfl
 clear hs hres h
 cases res with
 | bad ke pe =>
  go_enter Tryz.func54, Tryz.ntmps54
  go_wp2_with (go_at_call 79; refine (HR.out _ HX0.out).mono ?_; rintro e1 w1 ⟨rfl, hF⟩)
  exact ⟨rfl, rfl, ((Fr.refl W (· = g)).alloc _).trans hF⟩
 | ok x j =>
  go_enter Tryz.func54, Tryz.ntmps54
  go_wp2_with (go_at_call 79; refine (HR.out _ HX0.out).mono ?_; rintro e3 w3 ⟨cs, L, rfl, hTr, hS, hF, hj, hD, hd, hND⟩; obtain ⟨v3, v4, v5, v6, rfl, -, -, -, -, A3, n3, c3, A4, n4, c4, A5, n5, c5, A6, n6, c6, rfl, rfl, rfl, rfl⟩ := zbq hTr; have HX3 := Zq.mk hS; have HF3 := Zq.mk hF; have hN := hF.blk HZ0.out (by show ¬ W.heap.size = g; omega); obtain ⟨y0, y1, y2, y3, y4, y5, y6, y7, z0, z1, z2, z3, z4, z5, z6, z7⟩ := zbz hN; have HN := Zq.mk hN; rw [World.size_alloc] at hTr; have HTr := Zq.mk hTr; have HRest := Zq.mk (And.intro hj (And.intro hD (And.intro hd hND))); clear hS hF hTr hj hD hd hND hN)
  obtain ⟨R1, R2, R3⟩ := zcp hg hT HN.out HX3.out (((Fr.refl W (· = g)).alloc _).trans HF3.out) (.int .i64 x.1.f0) (.string x.1.f1) (.string x.1.f2) (.slice A3 n3 c3) (.slice A4 n4 c4) (.slice A5 n5 c5) (.slice A6 n6 c6) (.int .i64 x.1.f7)
  refine bodyPost_ret (results_cell_row rfl _ _ W.heap.size 60 #[.int .i64 x.1.f0, .string x.1.f1, .string x.1.f2, .slice A3 n3 c3, .slice A4 n4 c4, .slice A5 n5 c5, .slice A6 n6 c6, .int .i64 x.1.f7] (0, 0) _ rfl R1 Tryz.underlying60 rfl (by kernel_rfl)) rfl ?_
  exact ⟨_, _, rfl, (HTr.out.fr (zdf _ _ _ _ _ _ _ _ _ _) fun g' hg' e => by have := (HTr.out.lt g' hg').1; omega).lower (by omega), R2, R3, HRest.out.1, HRest.out.2.1, HRest.out.2.2.1, HRest.out.2.2.2⟩
theorem and_reads (k : Nat) (h : zgw g T c toks 115 (zbl toks k 2)) : zgw g T c toks 80 (zbl toks (k + 1) 1) := by
 intro W i res hi hs hres
 have hg := hs.lts.1
 have hT := hs.lts.2.1
 have HX0 := Zq.mk (hs.alloc (.cells zce 60))
 have HZ0 := Zq.mk (heap_alloc_new W (.cells zce 60))
 unfold zbl at hres
 have HR := Zq.mk (fun W' (h' : PSt W' g T c toks i) => zms g T c toks hend 115 5 sAnd _ (fun w => by kernel_rfl) h W' k i res hi h' hres)
 have hmf : ∀ (fn : Fn) (first cap : Array Value) (w : World), (Instr.makeFunc fn first cap).run Tryz.prog w = .ok (.func fn first cap) w := fun _ _ _ _ => rfl
 clear hs hres h
 cases res with
 | bad ke pe =>
  go_enter Tryz.func80, Tryz.ntmps80
  go_wp2_with (go_at_call 79; refine (HR.out _ HX0.out).mono ?_; rintro e1 w1 ⟨rfl, hF⟩)
  exact ⟨rfl, rfl, ((Fr.refl W (· = g)).alloc _).trans hF⟩
 | ok x j =>
  go_enter Tryz.func80, Tryz.ntmps80
  go_wp2_with (go_at_call 79; refine (HR.out _ HX0.out).mono ?_; rintro e3 w3 ⟨cs, L, rfl, hTr, hS, hF, hj, hD, hd, hND⟩; obtain ⟨v3, v4, v5, v6, rfl, -, -, -, -, A3, n3, c3, A4, n4, c4, A5, n5, c5, A6, n6, c6, rfl, rfl, rfl, rfl⟩ := zbq hTr; have HX3 := Zq.mk hS; have HF3 := Zq.mk hF; have hN := hF.blk HZ0.out (by show ¬ W.heap.size = g; omega); obtain ⟨y0, y1, y2, y3, y4, y5, y6, y7, z0, z1, z2, z3, z4, z5, z6, z7⟩ := zbz hN; have HN := Zq.mk hN; rw [World.size_alloc] at hTr; have HTr := Zq.mk hTr; have HRest := Zq.mk (And.intro hj (And.intro hD (And.intro hd hND))); clear hS hF hTr hj hD hd hND hN)
  obtain ⟨R1, R2, R3⟩ := zcp hg hT HN.out HX3.out (((Fr.refl W (· = g)).alloc _).trans HF3.out) (.int .i64 x.1.f0) (.string x.1.f1) (.string x.1.f2) (.slice A3 n3 c3) (.slice A4 n4 c4) (.slice A5 n5 c5) (.slice A6 n6 c6) (.int .i64 x.1.f7)
  refine bodyPost_ret (results_cell_row rfl _ _ W.heap.size 60 #[.int .i64 x.1.f0, .string x.1.f1, .string x.1.f2, .slice A3 n3 c3, .slice A4 n4 c4, .slice A5 n5 c5, .slice A6 n6 c6, .int .i64 x.1.f7] (0, 0) _ rfl R1 Tryz.underlying60 rfl (by kernel_rfl)) rfl ?_
  exact ⟨_, _, rfl, (HTr.out.fr (zdf _ _ _ _ _ _ _ _ _ _) fun g' hg' e => by have := (HTr.out.lt g' hg').1; omega).lower (by omega), R2, R3, HRest.out.1, HRest.out.2.1, HRest.out.2.2.1, HRest.out.2.2.2⟩
theorem first_oper (k : Nat) (W : World) (i : Nat) (res : PR CD) (hi : i < toks.length) (hs : PSt W g T c toks i) (hk : (tk toks i).kind = 1) (hb : isT (tk toks i) zey = false) (hop : isOp (tk toks i) = true) (hres : zgv toks (tk toks i) k (i + 1) = some res) :
  Calls Tryz.prog 144 #[.pointer (some ⟨g, 0, none⟩)] W (zhn W g T c toks res) := by
 have hi1 := hend i hi (by omega)
 unfold zgv at hres
 by_cases h1 : (tk toks i).text.toList = zqh.toList
 ·rw [if_pos h1] at hres
  have hres := Option.some.inj hres
  subst hres
  refine zlb g T c toks hend 175 W i _ hi hs hk hb [] _ ⟨by rw [zcy h1]; rfl, by simp⟩ (fun w x => by kernel_rfl) fun W' h' => (true_calls W' _).mono ?_
  rintro e W2 ⟨rfl, hb2⟩
  exact ⟨_, _, rfl, .mk (Row.nil _ _ _ _) (Row.nil _ _ _ _) (Row.nil _ _ _ _) (Row.nil _ _ _ _) .nil, h'.below hb2, Fr.of_below hb2, hi1, ziu rfl, by show 1 ≤ 16; decide, by simp [Blk, Value.ownBlock]⟩
 rw [if_neg h1] at hres
 by_cases h2 : (tk toks i).text.toList = znz.toList
 ·rw [if_pos h2] at hres
  have hres := Option.some.inj hres
  subst hres
  refine zlb g T c toks hend 176 W i _ hi hs hk hb ((zez g).take 1) ((zez g).drop 2) ⟨by rw [zcy h2]; rfl, by rw [zcy h2]; exact zik (by kernel_rfl)⟩ (fun w x => by kernel_rfl) fun W' h' => (false_calls W' _).mono ?_
  rintro e W2 ⟨rfl, hb2⟩
  exact ⟨_, _, rfl, .mk (Row.nil _ _ _ _) (Row.nil _ _ _ _) (Row.nil _ _ _ _) (Row.nil _ _ _ _) .nil, h'.below hb2, Fr.of_below hb2, hi1, ziu rfl, by show 1 ≤ 16; decide, by simp [Blk, Value.ownBlock]⟩
 rw [if_neg h2] at hres
 by_cases h3 : (tk toks i).text.toList = zqk.toList
 ·rw [if_pos h3] at hres
  obtain ⟨r, hr, rfl⟩ := Option.map_eq_some_iff.1 hres
  refine zeo g T c toks hend 177 W i _ hi hs hk hb ((zez g).take 2) ((zez g).drop 3) ⟨by rw [zcy h3]; rfl, by rw [zcy h3]; exact zik (by kernel_rfl)⟩ (fun w x => by kernel_rfl) fun W' h' => (addr_calls W' g T c toks hend k (i + 1) hi1 _ h' r hr).mono ?_
  intro e W2 h
  have := h.leaf (zge _ _ fun _ => rfl)
  revert this
  cases r <;> exact id
 rw [if_neg h3] at hres
 by_cases h4 : (tk toks i).text.toList = zqi.toList
 ·rw [if_pos h4] at hres
  obtain ⟨r, hr, rfl⟩ := Option.map_eq_some_iff.1 hres
  refine zeo g T c toks hend 178 W i _ hi hs hk hb ((zez g).take 3) ((zez g).drop 4) ⟨by rw [zcy h4]; rfl, by rw [zcy h4]; exact zik (by kernel_rfl)⟩ (fun w x => by kernel_rfl) fun W' h' => (port_calls W' g T c toks hend k (i + 1) hi1 _ h' r hr).mono ?_
  intro e W2 h
  have := h.leaf (zge _ _ fun _ => rfl)
  revert this
  cases r <;> exact id
 rw [if_neg h4] at hres
 by_cases h5 : (tk toks i).text.toList = zlm.toList
 ·rw [if_pos h5] at hres
  obtain ⟨r, hr, rfl⟩ := Option.map_eq_some_iff.1 hres
  refine zeo g T c toks hend 179 W i _ hi hs hk hb ((zez g).take 4) ((zez g).drop 5) ⟨by rw [zcy h5]; rfl, by rw [zcy h5]; exact zik (by kernel_rfl)⟩ (fun w x => by kernel_rfl) fun W' h' => (method_calls W' g T c toks hend k (i + 1) hi1 _ h' r hr).mono ?_
  intro e W2 h
  have := h.leaf (zge _ _ fun _ => rfl)
  revert this
  cases r <;> exact id
 rw [if_neg h5] at hres
 by_cases h6 : (tk toks i).text.toList = zqj.toList
 ·rw [if_pos h6] at hres
  have hres := Option.some.inj hres
  subst hres
  refine zeo g T c toks hend 180 W i _ hi hs hk hb ((zez g).take 5) ((zez g).drop 6) ⟨by rw [zcy h6]; rfl, by rw [zcy h6]; exact zik (by kernel_rfl)⟩ (fun w x => by kernel_rfl) fun W' h' => (path_calls W' g T c toks hend (i + 1) hi1 _ h').mono ?_
  intro e W2 h
  cases hw : zby toks zdy (i + 1) with
  | bad e p => rw [hw] at h; exact h
  | ok _ j =>
   rw [hw] at h
   have h := h.leaf (zge (ofP toks 6 j) (fun u => ⟨10, ⟨#[]⟩, u.text, [], [], [], [], (tk toks i).place⟩) fun _ => rfl)
   revert h
   show zhn _ _ _ _ _ ((PR.bind (ofP toks 6 j) _).bind _) _ _ → zhn _ _ _ _ _ (PR.bind (ofP toks 6 j) _) _ _
   cases ofP toks 6 j <;> exact id
 rw [if_neg h6] at hres
 by_cases h7 : (tk toks i).text.toList = zln.toList
 ·rw [if_pos h7] at hres
  have hres := Option.some.inj hres
  subst hres
  refine zeo g T c toks hend 181 W i _ hi hs hk hb ((zez g).take 6) ((zez g).drop 7) ⟨by rw [zcy h7]; rfl, by rw [zcy h7]; exact zik (by kernel_rfl)⟩ (fun w x => by kernel_rfl) fun W' h' => (header_calls W' g T c toks hend (i + 1) hi1 _ h').mono ?_
  intro e W2 h
  cases hn : ofP toks 6 (i + 1) with
  | bad e p => rw [hn] at h; exact h
  | ok n j =>
   rw [hn] at h
   dsimp only [PR.bind] at h ⊢
   cases hw : zby toks zdy j with
   | bad e p => rw [hw] at h; exact h
   | ok _ m =>
    rw [hw] at h
    dsimp only [PR.bind] at h ⊢
    have h := h.leaf (zge (ofP toks 6 m) (fun u => ⟨11, n.text, u.text, [], [], [], [], (tk toks i).place⟩) fun _ => rfl)
    revert h
    cases ofP toks 6 m <;> exact id
 rw [if_neg h7] at hres
 by_cases h8 : (tk toks i).text.toList = sHas.toList
 ·rw [if_pos h8] at hres
  have hres := Option.some.inj hres
  subst hres
  refine zeo g T c toks hend 182 W i _ hi hs hk hb ((zez g).take 7) ((zez g).drop 8) ⟨by rw [zcy h8]; rfl, by rw [zcy h8]; exact zik (by kernel_rfl)⟩ (fun w x => by kernel_rfl) fun W' h' => (has_calls W' g T c toks hend (i + 1) hi1 _ h').mono ?_
  intro e W2 h
  have h := h.leaf (zge (ofP toks 6 (i + 1)) (fun n => ⟨12, n.text, ⟨#[]⟩, [], [], [], [], (tk toks i).place⟩) fun _ => rfl)
  revert h
  cases ofP toks 6 (i + 1) <;> exact id
 ·exfalso
  unfold isOp at hop
  simp only [List.any_cons, List.any_nil, Bool.or_false, Bool.or_eq_true, beq_iff_eq] at hop
  rcases hop with h | h | h | h | h | h | h | h
  ·exact h1 h
  ·exact h2 h
  ·exact h3 h
  ·exact h4 h
  ·exact h5 h
  ·exact h6 h
  ·exact h7 h
  ·exact h8 h
theorem first_reads (k : Nat) (h : zgw g T c toks 54 (zbl toks k 0)) : zgw g T c toks 144 (zbl toks (k + 1) 3) := by
 intro W i res hi hs hres
 cases hb : isT (tk toks i) zey with
 | true => exact first_bracket g T c toks hend k h W i res hi hs hb hres
 | false =>
  by_cases h2 : (tk toks i).kind = 2
  ·exact first_name g T c toks hend k W i res hi hs h2 hres
  ·unfold zbl at hres
   rw [if_neg (by rw [hb]; decide), if_neg h2] at hres
   by_cases h1 : (tk toks i).kind = 1
   ·cases hop : isOp (tk toks i) with
    | true =>
     rw [if_pos ⟨h1, hop⟩] at hres
     exact first_oper g T c toks hend k W i res hi hs h1 hb hop hres
    | false =>
     rw [if_neg (by rw [hop]; simp)] at hres
     have hres := Option.some.inj hres
     subst hres
     exact first_bad1 g T c toks W i hi hs h1 hb (op_none g hop)
   ·rw [if_neg (fun h => h1 h.1)] at hres
    have hres := Option.some.inj hres
    subst hres
    exact first_bad2 g T c toks W i hi hs h1 h2 hb
theorem zkb : ∀ k, zgw g T c toks 54 (zbl toks k 0) ∧ zgw g T c toks 80 (zbl toks k 1) ∧ zgw g T c toks 115 (zbl toks k 2) ∧ zgw g T c toks 144 (zbl toks k 3)
 | 0 => ⟨fun _ _ _ _ _ h => by simp [zbl] at h, fun _ _ _ _ _ h => by simp [zbl] at h, fun _ _ _ _ _ h => by simp [zbl] at h, fun _ _ _ _ _ h => by simp [zbl] at h⟩
 | k + 1 =>
  have h := zkb k
  ⟨or_reads g T c toks hend k h.2.1, and_reads g T c toks hend k h.2.2.1, not_reads g T c toks hend k h.2.2.1 h.2.2.2, first_reads g T c toks hend k h.1⟩
end
end
end Go.Proofs.YtjeekocidaogoaaGreatDoor.H

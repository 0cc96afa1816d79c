/- How deep a condition is: the printed function, and what it says of a condition over others. -/
/- Plain law: bytes of a text. -/
/- Contracts of Go functions as plain Lean functions, written by a program of this session (wip/hand) out of the translation. -/
/- Plain law: words, names, runs, of the program and of the reference. -/
/- May a condition begin with the next token? -/
import Derived.Test.YtjeekocidaogoaaGreatDoorK5Atoms
import Derived.Test.YtjeekocidaogoaaGreatDoorK5Hx7
import Derived.Test.YtjeekocidaogoaaGreatDoorK5Src
import Derived.Test.YtjeekocidaogoaaGreatDoorK5Hx5
import Derived.Test.YtjeekocidaogoaaGreatDoorK5Hx3
set_option linter.unusedVariables false
set_option linter.unusedSimpArgs false
set_option maxRecDepth 100000
set_option maxHeartbeats 8000000
namespace Go.Proofs.YtjeekocidaogoaaGreatDoor.H
open Go.RowKit Go.Proofs.YtjeekocidaogoaaGreatDoor.Hand Go.Proofs.YtjeekocidaogoaaGreatDoorW.PrintWords Go.Proofs.YtjeekocidaogoaaGreatDoorW.PrintLast Go.Proofs.YtjeekocidaogoaaGreatDoorW.PrintMore
section
abbrev depF (k : Nat) (x : S60) : Option Int := syntax_depth.f k x.f0 x.f1 x.f2 x.f3 x.f4 x.f5 x.f6 x.f7
def Dep (x : S60) (d : Nat) : Prop := ∃ k, depF k x = some (d : Int)
theorem zop {x : S60} {k : Nat} {r : Int} (h : depF k x = some r) : ∀ m, depF (k + m) x = some r
 | 0 => h
 | m + 1 => syntax_depth.mono _ _ _ _ _ _ _ _ _ _ (zop h m)
theorem zjx {a : Int} {xs : List S60} {n i : Int} {k : Nat} {r : Int} (h : syntax_depth.l0 k a xs n i = some r) : ∀ m, syntax_depth.l0 (k + m) a xs n i = some r
 | 0 => h
 | m + 1 => (syntax_depth.mono_l _).2 _ _ _ _ _ (zjx h m)
inductive DepsFrom : Nat → List S60 → Nat → Prop
 | nil (a : Nat) : DepsFrom a [] a
 | cons {a d e : Nat} {c : S60} {r : List S60} (h : Dep c e) (hr : DepsFrom (max a e) r d) : DepsFrom a (c :: r) d
theorem DepsFrom.snoc {a d e : Nat} {l : List S60} {c : S60} (h : DepsFrom a l d) (hc : Dep c e) : DepsFrom a (l ++ [c]) (max d e) := by
 induction h with
 | nil a => exact .cons hc (.nil _)
 | cons h1 _ ih => exact .cons h1 ih
theorem dep_rd (xs : List S60) (i : Nat) (h : i < xs.length) : zax xs (i : Int) = xs[i] := by
 unfold zax
 rw [Int.toNat_natCast, List.getD_eq_getElem?_getD, List.getElem?_eq_getElem h]
 rfl
theorem mx_nat (a b : Nat) : mx (a : Int) (b : Int) = ((max a b : Nat) : Int) := by unfold mx; split <;> omega
theorem deps_l0 (xs : List S60) (hn : xs.length ≤ 100000) (d : Nat) (hd : d ≤ 100000) : ∀ (m i a : Nat), i + m = xs.length → DepsFrom a (xs.drop i) d → ∃ k, syntax_depth.l0 k a xs xs.length i = some ((d + 1 : Nat) : Int) := by
 intro m
 induction m with
 | zero =>
  intro i a hi h
  rw [List.drop_of_length_le (by omega)] at h
  cases h
  refine ⟨1, ?_⟩
  simp only [syntax_depth.l0]
  rw [if_neg (by omega)]
  congr 1
  unfold wrap64
  omega
 | succ m ih =>
  intro i a hi h
  have hlt : i < xs.length := by omega
  rw [List.drop_eq_getElem_cons hlt] at h
  cases h with
  | @cons _ _ e _ _ hc hr =>
   obtain ⟨k1, h1⟩ := hc
   obtain ⟨k2, h2⟩ := ih (i + 1) _ (by omega) hr
   refine ⟨k1 + k2 + 1, ?_⟩
   simp only [syntax_depth.l0]
   rw [if_pos (by omega), if_pos (by omega), if_pos (by omega), dep_rd xs i hlt]
   have e1 := zop h1 k2
   unfold depF at e1
   rw [e1]
   simp only [Option.bind_some]
   rw [mx_nat]
   have e2 := zjx h2 k1
   have e3 : wrap64 ((i : Int) + 1) = ((i + 1 : Nat) : Int) := by unfold wrap64; omega
   rw [e3, Nat.add_comm k1 k2]
   exact e2
theorem zmd {x : S60} {d : Nat} (hn : x.f6.length ≤ 100000) (hd : d ≤ 100000) (h : DepsFrom 0 x.f6 d) : Dep x (d + 1) := by
 obtain ⟨k, hk⟩ := deps_l0 x.f6 hn d hd x.f6.length 0 0 (by omega) (by simpa using h)
 refine ⟨k + 1, ?_⟩
 unfold depF
 simp only [syntax_depth.f]
 exact hk
theorem ziu {x : S60} (h : x.f6 = []) : Dep x 1 := zmd (by rw [h]; decide) (by decide) (by rw [h]; exact .nil 0)
theorem depth_tree {W : World} {b d : Nat} {x : S60} {cs : List Value} {L : List Nat} (h : Tree W b x cs L) (hd : Dep x d) :
  Calls Tryz.prog 143 #[.agg cs.toArray] W fun e W' => e = .returned (.int .i64 d) ∧ Below W.heap.size W W' := by
 obtain ⟨k, hk⟩ := hd
 obtain ⟨A3, c3, A4, c4, A5, c5, A6, c6, rfl, l3, g3, l4, g4, l5, g5, l6, g6⟩ := zbo h.K
 exact syntax_depth.calls k _ _ _ _ _ _ _ _ _ _ _ _ _ _ _ _ _ W g3 l3 g4 l4 g5 l5 g6 l6 hk
theorem store8_below (W : World) {b m : Nat} (h : b ≤ m) (v0 v1 v2 v3 v4 v5 v6 v7 : Value) : Below b W (zmn W m v0 v1 v2 v3 v4 v5 v6 v7) := by
 have e0 := (Below.refl b W).setCell (p := ⟨m, 0, none⟩) h v0
 have e1 := (e0).setCell (p := ⟨m, 1, none⟩) h v1
 have e2 := (e1).setCell (p := ⟨m, 2, none⟩) h v2
 have e3 := (e2).setCell (p := ⟨m, 3, none⟩) h v3
 have e4 := (e3).setCell (p := ⟨m, 4, none⟩) h v4
 have e5 := (e4).setCell (p := ⟨m, 5, none⟩) h v5
 have e6 := (e5).setCell (p := ⟨m, 6, none⟩) h v6
 exact e6.setCell (p := ⟨m, 7, none⟩) h v7
theorem zgh (W : World) {b d : Nat} {x : S60} {cs : List Value} {L : List Nat} (h : Tree W b x cs L) (hd : Dep x d) :
  Calls Tryz.prog 113 #[.agg cs.toArray] W fun e W' => (if d > 16 then e = .panicked [zfx 91 x.f7] else e = .returned (.agg cs.toArray)) ∧ Below W.heap.size W W' := by
 obtain ⟨A3, c3, A4, c4, A5, c5, A6, c6, hcs, -⟩ := zbo h.K
 have HP := Zq.mk (fun W' (hb : Below W.heap.size W W') => depth_tree (h.frame fun g hg => hb.block g (h.lt g hg).2) hd)
 have hb1 := ((Below.refl W.heap.size W).alloc (Nat.le_refl _) (.cells cs.toArray 60)).alloc (by simp) (.cells zce 60)
 have hz := heap_alloc_new (W.alloc (.cells cs.toArray 60)) (.cells zce 60)
 have hx := zad (heap_alloc_new W (.cells cs.toArray 60)) (.cells zce 60)
 subst hcs
 have HB1 := Zq.mk hb1
 have HZ := Zq.mk hz
 have HX := Zq.mk hx
 clear h hb1 hz hx hd
 by_cases hd : d > 16
 ·simp only [if_pos hd]
  have hd' : (d : Int) > 16 := by omega
  go_enter Tryz.func113, Tryz.ntmps113
  go_wp2_with (go_at_call 143; refine (HP.out _ HB1.out).mono ?_; rintro e' w' ⟨rfl, hb⟩; have hX1 := zaq HX.out hb; have c7 := zae hX1 7)
  exact ⟨rfl, rfl, HB1.out.trans (hb.mono HB1.out.size)⟩
 ·simp only [if_neg hd]
  have hd' : ¬ (d : Int) > 16 := by omega
  go_enter Tryz.func113, Tryz.ntmps113
  go_wp2_with (go_at_call 143; refine (HP.out _ HB1.out).mono ?_; rintro e' w' ⟨rfl, hb⟩; have hX1 := zaq HX.out hb; have x0 := zae hX1 0; have x1 := zae hX1 1; have x2 := zae hX1 2; have x3 := zae hX1 3; have x4 := zae hX1 4; have x5 := zae hX1 5; have x6 := zae hX1 6; have x7 := zae hX1 7; have hZ1 := zaq HZ.out hb; have HZ1 := Zq.mk hZ1; rw [World.size_alloc] at hZ1; obtain ⟨y0, y1, y2, y3, y4, y5, y6, y7, z0, z1, z2, z3, z4, z5, z6, z7⟩ := zbz hZ1; clear hZ1 hX1)
  have hZ2 := HZ1.out
  rw [World.size_alloc] at hZ2
  refine bodyPost_ret (results_cell_row rfl _ _ (W.heap.size + 1) 60 #[.int .i64 x.f0, .string x.f1, .string x.f2, .slice A3 x.f3.length c3, .slice A4 x.f4.length c4, .slice A5 x.f5.length c5, .slice A6 x.f6.length c6, .int .i64 x.f7] (0, 0) _ rfl (zhr hZ2 (.int .i64 x.f0) (.string x.f1) (.string x.f2) (.slice A3 x.f3.length c3) (.slice A4 x.f4.length c4) (.slice A5 x.f5.length c5) (.slice A6 x.f6.length c6) (.int .i64 x.f7)) Tryz.underlying60 rfl (by kernel_rfl)) rfl ?_
  refine ⟨rfl, (HB1.out.trans (hb.mono HB1.out.size)).trans ?_⟩
  exact store8_below w' (by omega) _ _ _ _ _ _ _ _
end
section
abbrev bl (s : ByteArray) : List UInt8 := s.data.toList
theorem zbj (s : ByteArray) : (bl s).length = s.size := by simp [bl]
theorem zne (s : ByteArray) (i : Nat) (h : i < (bl s).length) : bt s (i : Int) = ((bl s)[i].toNat : Int) := by
 have h' : i < s.size := by rw [← zbj]; exact h
 unfold bt
 rw [dif_pos (by simpa using h')]
 rfl
theorem zgt (l : List UInt8) (i : Nat) (h : i < l.length) : l.drop i = l[i] :: l.drop (i + 1) := List.drop_eq_getElem_cons h
theorem zip (n : Nat) (h : n ≤ 140737488355328) : wrap64 ((n : Int) + 1) = ((n + 1 : Nat) : Int) := by unfold wrap64; omega
end
section
attribute [local go_sem] zdq zdo zeg zef zcw zcv zdp zdn
def syntax_binds.f (a0_0 : Int) (a0_1 : ByteArray) (a0_2 : ByteArray) (l0_3 : List (S47)) (l0_4 : List (S68)) (l0_5 : List ByteArray) (l0_6 : List (S60)) (a0_7 : Int) : Option (Int) := if a0_0 = 6 then (some 0) else (if a0_0 = 5 then (some 1) else (if a0_0 = 4 then (some 2) else (some 3)))
theorem syntax_binds.calls (a0_0 : Int) (a0_1 : ByteArray) (a0_2 : ByteArray) (A0_3 : Option Addr) (c0_3 : Nat) (l0_3 : List (S47)) (A0_4 : Option Addr) (c0_4 : Nat) (l0_4 : List (S68)) (A0_5 : Option Addr) (c0_5 : Nat) (l0_5 : List ByteArray) (A0_6 : Option Addr) (c0_6 : Nat) (l0_6 : List (S60)) (a0_7 : Int) (r : Int) (w : World) (hr0_3 : Kd.C k47 w A0_3 l0_3.length l0_3) (hc0_3 : l0_3.length ≤ c0_3) (hr0_4 : Kd.C k68 w A0_4 l0_4.length l0_4) (hc0_4 : l0_4.length ≤ c0_4) (hr0_5 : Kd.C Kd.string w A0_5 l0_5.length l0_5) (hc0_5 : l0_5.length ≤ c0_5) (hr0_6 : Kd.C k60 w A0_6 l0_6.length l0_6) (hc0_6 : l0_6.length ≤ c0_6) (h : syntax_binds.f a0_0 a0_1 a0_2 l0_3 l0_4 l0_5 l0_6 a0_7 = some r) :
  Calls Tryz.prog 133 #[.agg #[.int .i64 a0_0, .string a0_1, .string a0_2, .slice A0_3 l0_3.length c0_3, .slice A0_4 l0_4.length c0_4, .slice A0_5 l0_5.length c0_5, .slice A0_6 l0_6.length c0_6, .int .i64 a0_7]] w fun e w' => e = .returned (.int .i64 r) ∧ Below w.heap.size w w' := by
 have hu60 := Tryz.underlying60
 have HR0_3 := Zq.mk hr0_3
 have HC0_3 := Zq.mk hc0_3
 clear hr0_3 hc0_3
 have HR0_4 := Zq.mk hr0_4
 have HC0_4 := Zq.mk hc0_4
 clear hr0_4 hc0_4
 have HR0_5 := Zq.mk hr0_5
 have HC0_5 := Zq.mk hc0_5
 clear hr0_5 hc0_5
 have HR0_6 := Zq.mk hr0_6
 have HC0_6 := Zq.mk hc0_6
 clear hr0_6 hc0_6
 have HB := Zq.mk (Below.refl w.heap.size w)
 have H : (if a0_0 = 6 then (some 0) else (if a0_0 = 5 then (some 1) else (if a0_0 = 4 then (some 2) else (some 3)))) = some r := h
 clear h
 by_cases c2 : a0_0 = 6
 ·rw [if_pos c2] at H
  have c2b0 : (a0_0 == 6) = true := beq_iff_eq.mpr c2
  have c2b1 : (a0_0 != 6) = false := bne_eq_false_iff_eq.mpr c2
  clear c2
  obtain rfl := Option.some.inj H
  go_enter Tryz.func133, Tryz.ntmps133
  go_wp2_with (first | ((with_reducible refine zaz (N := 1) rfl ?_); refine zav ?hg (N := 1) ?hd (cs := #[.int .i64 a0_0, .string a0_1, .string a0_2, .slice A0_3 l0_3.length c0_3, .slice A0_4 l0_4.length c0_4, .slice A0_5 l0_5.length c0_5, .slice A0_6 l0_6.length c0_6, .int .i64 a0_7]) (t := 60) ?hr ?_; (case hd => rfl); (case hg => rfl); (case hr => first | (go_simp; done) | (go_simp; rfl)); intro gb197 hg w3 hbox hb; have n0_ := Zq.mk (zaj (by repeat (first | (with_reducible first | exact HB.out | apply zab | apply zaa | apply zac) | exact HB.out)) hb); have n1_ := Zq.mk (hbox); have n2_ := Zq.mk ((by rw [hg]; exact (zal (by repeat (first | (with_reducible first | exact HB.out | apply zab | apply zaa | apply zac) | exact HB.out))) : w.heap.size ≤ gb197)); have n3_ := Zq.mk ((by rw [hg]; exact (zal (by repeat (first | (with_reducible first | exact HB.out | apply zab | apply zaa | apply zac) | exact HB.out))) : w.heap.size ≤ gb197)); clear HB; have HB := n0_; have BK197 := n1_; have GW197 := n2_; have GE197 := n3_; clear n0_ n1_ n2_ n3_; clear hb hbox hg; have hcz4_0 : w3.cell? ⟨gb197, 0, none⟩ = some (.int .i64 a0_0) := (zae BK197.out 0).trans rfl; have hcz4_1 : w3.cell? ⟨gb197, 1, none⟩ = some (.string a0_1) := (zae BK197.out 1).trans rfl; have hcz4_2 : w3.cell? ⟨gb197, 2, none⟩ = some (.string a0_2) := (zae BK197.out 2).trans rfl; have hcz4_3 : w3.cell? ⟨gb197, 3, none⟩ = some (.slice A0_3 l0_3.length c0_3) := (zae BK197.out 3).trans rfl; have hcz4_4 : w3.cell? ⟨gb197, 4, none⟩ = some (.slice A0_4 l0_4.length c0_4) := (zae BK197.out 4).trans rfl; have hcz4_5 : w3.cell? ⟨gb197, 5, none⟩ = some (.slice A0_5 l0_5.length c0_5) := (zae BK197.out 5).trans rfl; have hcz4_6 : w3.cell? ⟨gb197, 6, none⟩ = some (.slice A0_6 l0_6.length c0_6) := (zae BK197.out 6).trans rfl; have hcz4_7 : w3.cell? ⟨gb197, 7, none⟩ = some (.int .i64 a0_7) := (zae BK197.out 7).trans rfl; have hfz4_0 := zaf BK197.out 0; have hfz4_1 := zaf BK197.out 1; have hfz4_2 := zaf BK197.out 2; have hfz4_3 := zaf BK197.out 3; have hfz4_4 := zaf BK197.out 4; have hfz4_5 := zaf BK197.out 5; have hfz4_6 := zaf BK197.out 6; have hfz4_7 := zaf BK197.out 7))
  go_ret
  exact ⟨by first | rfl | (simp [zan, zam] <;> rfl) | (simp [*, zan, zam] <;> rfl), by repeat (first | (with_reducible first | exact HB.out | apply zab | apply zaa | apply zac | refine zai ?_ GE197.out) | exact HB.out)⟩
 ·rw [if_neg c2] at H
  have c2b0 : (a0_0 == 6) = false := beq_eq_false_iff_ne.mpr c2
  have c2b1 : (a0_0 != 6) = true := bne_iff_ne.mpr c2
  by_cases c5 : a0_0 = 5
  ·rw [if_pos c5] at H
   have c5b0 : (a0_0 == 5) = true := beq_iff_eq.mpr c5
   have c5b1 : (a0_0 != 5) = false := bne_eq_false_iff_eq.mpr c5
   clear c5
   obtain rfl := Option.some.inj H
   go_enter Tryz.func133, Tryz.ntmps133
   go_wp2_with (first | ((with_reducible refine zaz (N := 1) rfl ?_); refine zav ?hg (N := 1) ?hd (cs := #[.int .i64 a0_0, .string a0_1, .string a0_2, .slice A0_3 l0_3.length c0_3, .slice A0_4 l0_4.length c0_4, .slice A0_5 l0_5.length c0_5, .slice A0_6 l0_6.length c0_6, .int .i64 a0_7]) (t := 60) ?hr ?_; (case hd => rfl); (case hg => rfl); (case hr => first | (go_simp; done) | (go_simp; rfl)); intro gb197 hg w6 hbox hb; have n0_ := Zq.mk (zaj (by repeat (first | (with_reducible first | exact HB.out | apply zab | apply zaa | apply zac) | exact HB.out)) hb); have n1_ := Zq.mk (hbox); have n2_ := Zq.mk ((by rw [hg]; exact (zal (by repeat (first | (with_reducible first | exact HB.out | apply zab | apply zaa | apply zac) | exact HB.out))) : w.heap.size ≤ gb197)); have n3_ := Zq.mk ((by rw [hg]; exact (zal (by repeat (first | (with_reducible first | exact HB.out | apply zab | apply zaa | apply zac) | exact HB.out))) : w.heap.size ≤ gb197)); clear HB; have HB := n0_; have BK197 := n1_; have GW197 := n2_; have GE197 := n3_; clear n0_ n1_ n2_ n3_; clear hb hbox hg; have hcz7_0 : w6.cell? ⟨gb197, 0, none⟩ = some (.int .i64 a0_0) := (zae BK197.out 0).trans rfl; have hcz7_1 : w6.cell? ⟨gb197, 1, none⟩ = some (.string a0_1) := (zae BK197.out 1).trans rfl; have hcz7_2 : w6.cell? ⟨gb197, 2, none⟩ = some (.string a0_2) := (zae BK197.out 2).trans rfl; have hcz7_3 : w6.cell? ⟨gb197, 3, none⟩ = some (.slice A0_3 l0_3.length c0_3) := (zae BK197.out 3).trans rfl; have hcz7_4 : w6.cell? ⟨gb197, 4, none⟩ = some (.slice A0_4 l0_4.length c0_4) := (zae BK197.out 4).trans rfl; have hcz7_5 : w6.cell? ⟨gb197, 5, none⟩ = some (.slice A0_5 l0_5.length c0_5) := (zae BK197.out 5).trans rfl; have hcz7_6 : w6.cell? ⟨gb197, 6, none⟩ = some (.slice A0_6 l0_6.length c0_6) := (zae BK197.out 6).trans rfl; have hcz7_7 : w6.cell? ⟨gb197, 7, none⟩ = some (.int .i64 a0_7) := (zae BK197.out 7).trans rfl; have hfz7_0 := zaf BK197.out 0; have hfz7_1 := zaf BK197.out 1; have hfz7_2 := zaf BK197.out 2; have hfz7_3 := zaf BK197.out 3; have hfz7_4 := zaf BK197.out 4; have hfz7_5 := zaf BK197.out 5; have hfz7_6 := zaf BK197.out 6; have hfz7_7 := zaf BK197.out 7))
   go_ret
   exact ⟨by first | rfl | (simp [zan, zam] <;> rfl) | (simp [*, zan, zam] <;> rfl), by repeat (first | (with_reducible first | exact HB.out | apply zab | apply zaa | apply zac | refine zai ?_ GE197.out) | exact HB.out)⟩
  ·rw [if_neg c5] at H
   have c5b0 : (a0_0 == 5) = false := beq_eq_false_iff_ne.mpr c5
   have c5b1 : (a0_0 != 5) = true := bne_iff_ne.mpr c5
   by_cases c8 : a0_0 = 4
   ·rw [if_pos c8] at H
    have c8b0 : (a0_0 == 4) = true := beq_iff_eq.mpr c8
    have c8b1 : (a0_0 != 4) = false := bne_eq_false_iff_eq.mpr c8
    clear c8
    obtain rfl := Option.some.inj H
    go_enter Tryz.func133, Tryz.ntmps133
    go_wp2_with (first | ((with_reducible refine zaz (N := 1) rfl ?_); refine zav ?hg (N := 1) ?hd (cs := #[.int .i64 a0_0, .string a0_1, .string a0_2, .slice A0_3 l0_3.length c0_3, .slice A0_4 l0_4.length c0_4, .slice A0_5 l0_5.length c0_5, .slice A0_6 l0_6.length c0_6, .int .i64 a0_7]) (t := 60) ?hr ?_; (case hd => rfl); (case hg => rfl); (case hr => first | (go_simp; done) | (go_simp; rfl)); intro gb197 hg w9 hbox hb; have n0_ := Zq.mk (zaj (by repeat (first | (with_reducible first | exact HB.out | apply zab | apply zaa | apply zac) | exact HB.out)) hb); have n1_ := Zq.mk (hbox); have n2_ := Zq.mk ((by rw [hg]; exact (zal (by repeat (first | (with_reducible first | exact HB.out | apply zab | apply zaa | apply zac) | exact HB.out))) : w.heap.size ≤ gb197)); have n3_ := Zq.mk ((by rw [hg]; exact (zal (by repeat (first | (with_reducible first | exact HB.out | apply zab | apply zaa | apply zac) | exact HB.out))) : w.heap.size ≤ gb197)); clear HB; have HB := n0_; have BK197 := n1_; have GW197 := n2_; have GE197 := n3_; clear n0_ n1_ n2_ n3_; clear hb hbox hg; have hcz10_0 : w9.cell? ⟨gb197, 0, none⟩ = some (.int .i64 a0_0) := (zae BK197.out 0).trans rfl; have hcz10_1 : w9.cell? ⟨gb197, 1, none⟩ = some (.string a0_1) := (zae BK197.out 1).trans rfl; have hcz10_2 : w9.cell? ⟨gb197, 2, none⟩ = some (.string a0_2) := (zae BK197.out 2).trans rfl; have hcz10_3 : w9.cell? ⟨gb197, 3, none⟩ = some (.slice A0_3 l0_3.length c0_3) := (zae BK197.out 3).trans rfl; have hcz10_4 : w9.cell? ⟨gb197, 4, none⟩ = some (.slice A0_4 l0_4.length c0_4) := (zae BK197.out 4).trans rfl; have hcz10_5 : w9.cell? ⟨gb197, 5, none⟩ = some (.slice A0_5 l0_5.length c0_5) := (zae BK197.out 5).trans rfl; have hcz10_6 : w9.cell? ⟨gb197, 6, none⟩ = some (.slice A0_6 l0_6.length c0_6) := (zae BK197.out 6).trans rfl; have hcz10_7 : w9.cell? ⟨gb197, 7, none⟩ = some (.int .i64 a0_7) := (zae BK197.out 7).trans rfl; have hfz10_0 := zaf BK197.out 0; have hfz10_1 := zaf BK197.out 1; have hfz10_2 := zaf BK197.out 2; have hfz10_3 := zaf BK197.out 3; have hfz10_4 := zaf BK197.out 4; have hfz10_5 := zaf BK197.out 5; have hfz10_6 := zaf BK197.out 6; have hfz10_7 := zaf BK197.out 7))
    go_ret
    exact ⟨by first | rfl | (simp [zan, zam] <;> rfl) | (simp [*, zan, zam] <;> rfl), by repeat (first | (with_reducible first | exact HB.out | apply zab | apply zaa | apply zac | refine zai ?_ GE197.out) | exact HB.out)⟩
   ·rw [if_neg c8] at H
    have c8b0 : (a0_0 == 4) = false := beq_eq_false_iff_ne.mpr c8
    have c8b1 : (a0_0 != 4) = true := bne_iff_ne.mpr c8
    obtain rfl := Option.some.inj H
    go_enter Tryz.func133, Tryz.ntmps133
    go_wp2_with (first | ((with_reducible refine zaz (N := 1) rfl ?_); refine zav ?hg (N := 1) ?hd (cs := #[.int .i64 a0_0, .string a0_1, .string a0_2, .slice A0_3 l0_3.length c0_3, .slice A0_4 l0_4.length c0_4, .slice A0_5 l0_5.length c0_5, .slice A0_6 l0_6.length c0_6, .int .i64 a0_7]) (t := 60) ?hr ?_; (case hd => rfl); (case hg => rfl); (case hr => first | (go_simp; done) | (go_simp; rfl)); intro gb197 hg w11 hbox hb; have n0_ := Zq.mk (zaj (by repeat (first | (with_reducible first | exact HB.out | apply zab | apply zaa | apply zac) | exact HB.out)) hb); have n1_ := Zq.mk (hbox); have n2_ := Zq.mk ((by rw [hg]; exact (zal (by repeat (first | (with_reducible first | exact HB.out | apply zab | apply zaa | apply zac) | exact HB.out))) : w.heap.size ≤ gb197)); have n3_ := Zq.mk ((by rw [hg]; exact (zal (by repeat (first | (with_reducible first | exact HB.out | apply zab | apply zaa | apply zac) | exact HB.out))) : w.heap.size ≤ gb197)); clear HB; have HB := n0_; have BK197 := n1_; have GW197 := n2_; have GE197 := n3_; clear n0_ n1_ n2_ n3_; clear hb hbox hg; have hcz12_0 : w11.cell? ⟨gb197, 0, none⟩ = some (.int .i64 a0_0) := (zae BK197.out 0).trans rfl; have hcz12_1 : w11.cell? ⟨gb197, 1, none⟩ = some (.string a0_1) := (zae BK197.out 1).trans rfl; have hcz12_2 : w11.cell? ⟨gb197, 2, none⟩ = some (.string a0_2) := (zae BK197.out 2).trans rfl; have hcz12_3 : w11.cell? ⟨gb197, 3, none⟩ = some (.slice A0_3 l0_3.length c0_3) := (zae BK197.out 3).trans rfl; have hcz12_4 : w11.cell? ⟨gb197, 4, none⟩ = some (.slice A0_4 l0_4.length c0_4) := (zae BK197.out 4).trans rfl; have hcz12_5 : w11.cell? ⟨gb197, 5, none⟩ = some (.slice A0_5 l0_5.length c0_5) := (zae BK197.out 5).trans rfl; have hcz12_6 : w11.cell? ⟨gb197, 6, none⟩ = some (.slice A0_6 l0_6.length c0_6) := (zae BK197.out 6).trans rfl; have hcz12_7 : w11.cell? ⟨gb197, 7, none⟩ = some (.int .i64 a0_7) := (zae BK197.out 7).trans rfl; have hfz12_0 := zaf BK197.out 0; have hfz12_1 := zaf BK197.out 1; have hfz12_2 := zaf BK197.out 2; have hfz12_3 := zaf BK197.out 3; have hfz12_4 := zaf BK197.out 4; have hfz12_5 := zaf BK197.out 5; have hfz12_6 := zaf BK197.out 6; have hfz12_7 := zaf BK197.out 7))
    go_ret
    exact ⟨by first | rfl | (simp [zan, zam] <;> rfl) | (simp [*, zan, zam] <;> rfl), by repeat (first | (with_reducible first | exact HB.out | apply zab | apply zaa | apply zac | refine zai ?_ GE197.out) | exact HB.out)⟩
mutual
def lex_Quote.l0 : Nat → ByteArray → List Int → Int → Int → Option (ByteArray × Int)
 | 0, _, _, _, _ => none
 | k + 1, x0, x4, x12, x13 => if x13 < x12 then (if 0 ≤ x13 then (if x13 < (x0.size : Int) then (if (bt x0 x13) < 32 then (lex_Quote.j1 k x0 x4 (bt x0 x13) x12 x13 true) else (lex_Quote.j1 k x0 x4 (bt x0 x13) x12 x13 (decide ((bt x0 x13) > 126)))) else (none)) else (none)) else (if x4.length < 140737488355328 then (some (strOfNums (x4 ++ [34]), 0)) else (none))
def lex_Quote.j1 : Nat → ByteArray → List Int → Int → Int → Int → Bool → Option (ByteArray × Int)
 | 0, _, _, _, _, _, _ => none
 | k + 1, x0, x4, x6, x12, x13, x24 => if x24 = true then (some ((⟨#[]⟩ : ByteArray), 1)) else (if x6 = 34 then (if x4.length < 140737488355328 then ((some (x4 ++ [92] : List Int)).bind fun y222 => (if y222.length < 140737488355328 then (lex_Quote.l0 k x0 (y222 ++ [x6]) x12 (wrap64 (x13 + 1))) else (none))) else (none)) else (if x6 = 92 then (if x4.length < 140737488355328 then ((some (x4 ++ [92] : List Int)).bind fun y228 => (if y228.length < 140737488355328 then (lex_Quote.l0 k x0 (y228 ++ [x6]) x12 (wrap64 (x13 + 1))) else (none))) else (none)) else (if x4.length < 140737488355328 then (lex_Quote.l0 k x0 (x4 ++ [x6]) x12 (wrap64 (x13 + 1))) else (none))))
end
def lex_Quote.f (k : Nat) (a0 : ByteArray) : Option (ByteArray × Int) := if (a0.size : Int) > 200 then (some ((⟨#[]⟩ : ByteArray), 1)) else (lex_Quote.l0 k a0 (([34] : List Int)) (a0.size : Int) 0)
theorem lex_Quote.calls (k : Nat) (a0 : ByteArray) (r1 : ByteArray) (r2 : Int) (w : World) (h : lex_Quote.f k a0 = some (r1, r2)) :
  Calls Tryz.prog 172 #[.string a0] w fun e w' => e = .returned (.tuple #[.string r1, .int .i64 r2]) ∧ Below w.heap.size w w' := by
 have HB := Zq.mk (Below.refl w.heap.size w)
 have H : (if (a0.size : Int) > 200 then (some ((⟨#[]⟩ : ByteArray), 1)) else (lex_Quote.l0 k a0 (([34] : List Int)) (a0.size : Int) 0)) = some (r1, r2) := h
 clear h
 by_cases c2 : (a0.size : Int) > 200
 ·rw [if_pos c2] at H
  have c2b0 : decide (200 < (a0.size : Int)) = true := decide_eq_true c2
  have c2b1 : decide (200 < a0.size) = true := decide_eq_true (by omega)
  clear c2
  simp only [Option.some.injEq, Prod.mk.injEq] at H
  obtain ⟨rfl, rfl⟩ := H
  go_enter Tryz.func172, Tryz.ntmps172
  go_wp2
  go_ret2
  exact ⟨by first | rfl | (simp [zan, zam] <;> rfl) | (simp [*, zan, zam] <;> rfl), by repeat (first | (with_reducible first | exact HB.out | apply zab | apply zaa | apply zac) | exact HB.out)⟩
 ·rw [if_neg c2] at H
  have c2b0 : decide (200 < (a0.size : Int)) = false := decide_eq_false c2
  have c2b1 : decide (200 < a0.size) = false := decide_eq_false (by omega)
  clear c2
  obtain ⟨y216, hy216⟩ : ∃ y_ : List Int, y_ = (([34] : List Int)) := ⟨_, rfl⟩
  replace H : (lex_Quote.l0 k a0 y216 (a0.size : Int) 0) = some (r1, r2) := by first | (rw [hy216]; with_reducible exact H) | (have H2_ := (Option.bind_some _ _).symm.trans H; rw [hy216]; with_reducible exact H2_) | (have H2_ := (Option.bind_some _ _).symm.trans H; with_reducible exact H2_) | with_reducible exact H | (rw [hy216]; exact H) | exact H
  have Ny216 := Zq.mk hy216
  clear hy216
  have H' := Zq.mk H
  clear H
  go_enter Tryz.func172, Tryz.ntmps172
  go_wp2_with (first | ((with_reducible refine zaz (N := 10) rfl ?_); refine Kd.R_lit (Kd.int .u8) _ 5 ?hg (N := 10) ?hd (xs := ([34] : List Int)) (inner := [.int .u8 34]) (ok := fun _ => True) (okp := fun _ => True) ?hr ?hp (fun _ hk => hk) trivial (Below.refl _ _) (Nat.le_refl _) (by simp) ?_; (case hd => rfl); (case hg => rfl); (case hr => first | (go_simp; done) | (go_simp; rfl)); (case hp => exact (Reps.one (show Kd.M (Kd.int .u8) _ _ _ 34 [.int .u8 34] from rfl) (Reps.none _ _))); intro v217 w3 ho4 hb hg_ hnew_; clear hg_ hnew_; (first | rw [← Ny216.out] at ho4 | (simp only [Int.reduceToNat] at ho4; rw [← Ny216.out] at ho4)); have n0_ := Zq.mk (Kd.R_lower ho4 (zal (by repeat (first | (with_reducible first | exact HB.out | apply zab | apply zaa | apply zac) | exact HB.out)))); have n1_ := Zq.mk (zaj (by repeat (first | (with_reducible first | exact HB.out | apply zab | apply zaa | apply zac) | exact HB.out)) hb); clear HB; have HO218 := n0_; have HB := n1_; clear n0_ n1_; clear hb ho4))
  go_loopg [4, 13] k (fun kq v4 v13 w' => ∃ (x4_1 : List Int) (x13_1 : Int), v13 = .int .i64 x13_1 ∧ Zq (lex_Quote.l0 kq a0 x4_1 (a0.size : Int) x13_1 = some (r1, r2)) ∧ Zq (kq ≤ k) ∧ Zq (Kd.R (Kd.int .u8) 5 w' w.heap.size (fun _ => True) v4 x4_1) ∧ Zq (Below w.heap.size w w'))
  case atStart => exact ⟨(y216), (0), (by first | rfl | (simp; done) | (simp [*]; done)), H', ⟨Nat.le_refl _⟩, ⟨by (with_reducible repeat (first | apply Kd.R_alloc | apply Kd.R_drewN | apply Kd.R_drew)); exact HO218.out⟩, ⟨by repeat (first | (with_reducible first | exact HB.out | apply zab | apply zaa | apply zac) | exact HB.out)⟩⟩
  case round =>
   clear H'
   try clear c1
   try clear c2
   try clear c2b0
   try clear c2b1
   try clear p2
   obtain ⟨x4_1, x13_1, rfl, HA, HK1, HO_4, HB⟩ := hrel
   cases gk with
   | zero => exact absurd HA.out (by simp [lex_Quote.l0])
   | succ k1 =>
    have H := HA.out
    clear HA
    simp only [lex_Quote.l0] at H
    by_cases c5 : x13_1 < (a0.size : Int)
    ·rw [if_pos c5] at H
     have c5b0 : decide (x13_1 < (a0.size : Int)) = true := decide_eq_true c5
     clear c5
     by_cases c6 : 0 ≤ x13_1
     ·rw [if_pos c6] at H
      have c6b0 : decide (0 ≤ x13_1) = true := decide_eq_true c6
      clear c6
      by_cases c7 : x13_1 < (a0.size : Int)
      ·rw [if_pos c7] at H
       have c7b0 : decide (x13_1 < (a0.size : Int)) = true := decide_eq_true c7
       clear c7
       have HC9 := Zq.mk H
       clear H
       have p8 : 0 ≤ (x13_1 : Int) := of_decide_eq_true (by first | (with_reducible assumption) | assumption)
       have q8 : x13_1 < (a0.size : Int) := of_decide_eq_true (by first | (with_reducible assumption) | assumption)
       have hx8 := zdm a0 x13_1
       replace p8 := eq_true p8
       replace q8 := eq_true q8
       go_upto_region 8 with (fail)
       go_cut [24] (fun v24 wc => ∃ (kq : Nat) (x24_8 : Bool), v24 = .bool x24_8 ∧ Zq (lex_Quote.j1 kq a0 x4_1 (bt a0 x13_1) (a0.size : Int) x13_1 x24_8 = some (r1, r2)) ∧ Zq (kq ≤ k1) ∧ Zq (Kd.R (Kd.int .u8) 5 wc w.heap.size (fun _ => True) u4 x4_1) ∧ Zq (Below w.heap.size w wc))
       case first =>
        have H := HC9.out
        clear HC9
        by_cases c10 : (bt a0 x13_1) < 32
        ·rw [if_pos c10] at H
         have c10b0 : decide ((bt a0 x13_1) < 32) = true := decide_eq_true c10
         clear c10
         (first | rw [c10b0] | (simp only [zrf, zrm]; rw [c10b0]) | skip)
         have H' := Zq.mk H
         clear H
         go_wp2
         go_meet
         case rel => exact ⟨_, (true), (by first | rfl | (simp; done) | (simp [*]; done)), H', ⟨by have := HK1.out; first | omega | exact Nat.le_refl _⟩, ⟨by (with_reducible repeat (first | apply Kd.R_alloc | apply Kd.R_drewN | apply Kd.R_drew)); exact HO_4.out⟩, ⟨by repeat (first | (with_reducible first | exact HB.out | apply zab | apply zaa | apply zac) | exact HB.out)⟩⟩
        ·rw [if_neg c10] at H
         have c10b0 : decide ((bt a0 x13_1) < 32) = false := decide_eq_false c10
         clear c10
         (first | rw [c10b0] | (simp only [zrf, zrm]; rw [c10b0]) | skip)
         have H' := Zq.mk H
         clear H
         go_wp2
         go_meet
         case rel => exact ⟨_, (decide ((bt a0 x13_1) > 126)), (by first | rfl | (simp; done) | (simp [*]; done)), H', ⟨by have := HK1.out; first | omega | exact Nat.le_refl _⟩, ⟨by (with_reducible repeat (first | apply Kd.R_alloc | apply Kd.R_drewN | apply Kd.R_drew)); exact HO_4.out⟩, ⟨by repeat (first | (with_reducible first | exact HB.out | apply zab | apply zaa | apply zac) | exact HB.out)⟩⟩
       case rest =>
        clear HC9
        try clear c1
        try clear c2
        try clear c2b0
        try clear c2b1
        try clear p2
        try clear c5
        try clear c5b0
        try clear c6
        try clear c6b0
        try clear c7
        try clear c7b0
        try clear p8
        try clear q8
        try clear hx8
        try clear c10
        try clear c10b0
        try clear p2
        try clear p8
        try clear q8
        obtain ⟨kq, x24_8, rfl, HA, HJ8, HO_4, HB⟩ := hcut
        cases kq with
        | zero => exact absurd HA.out (by simp [lex_Quote.j1])
        | succ kj8 =>
         have H := HA.out
         clear HA
         simp only [lex_Quote.j1] at H
         by_cases c11 : x24_8 = true
         ·subst c11
          rw [if_pos rfl] at H
          simp only [Option.some.injEq, Prod.mk.injEq] at H
          obtain ⟨rfl, rfl⟩ := H
          go_wp2
          go_ret2
          exact ⟨by first | rfl | (simp [zan, zam] <;> rfl) | (simp [*, zan, zam] <;> rfl), by repeat (first | (with_reducible first | exact HB.out | apply zab | apply zaa | apply zac) | exact HB.out)⟩
         ·replace c11 := Bool.eq_false_iff.mpr c11
          subst c11
          rw [if_neg (show ¬ (false = true) by decide)] at H
          by_cases c12 : (bt a0 x13_1) = 34
          ·rw [if_pos c12] at H
           have c12b0 : ((bt a0 x13_1) == 34) = true := beq_iff_eq.mpr c12
           have c12b1 : ((bt a0 x13_1) != 34) = false := bne_eq_false_iff_eq.mpr c12
           clear c12
           by_cases c13 : x4_1.length < 140737488355328
           ·rw [if_pos c13] at H
            have LMc13 := Zq.mk c13
            clear c13
            obtain ⟨y222, hy222⟩ : ∃ y_ : List Int, y_ = (x4_1 ++ [92]) := ⟨_, rfl⟩
            replace H : (if y222.length < 140737488355328 then (lex_Quote.l0 kj8 a0 (y222 ++ [(bt a0 x13_1)]) (a0.size : Int) (wrap64 (x13_1 + 1))) else (none)) = some (r1, r2) := by first | (rw [hy222]; with_reducible exact H) | (have H2_ := (Option.bind_some _ _).symm.trans H; rw [hy222]; with_reducible exact H2_) | (have H2_ := (Option.bind_some _ _).symm.trans H; with_reducible exact H2_) | with_reducible exact H | (rw [hy222]; exact H) | exact H
            have Ny222 := Zq.mk hy222
            clear hy222
            by_cases c14 : y222.length < 140737488355328
            ·rw [if_pos c14] at H
             have LMc14 := Zq.mk c14
             clear c14
             obtain ⟨y225, hy225⟩ : ∃ y_ : List Int, y_ = (y222 ++ [(bt a0 x13_1)]) := ⟨_, rfl⟩
             replace H : (lex_Quote.l0 kj8 a0 y225 (a0.size : Int) (wrap64 (x13_1 + 1))) = some (r1, r2) := by first | (rw [hy225]; with_reducible exact H) | (have H2_ := (Option.bind_some _ _).symm.trans H; rw [hy225]; with_reducible exact H2_) | (have H2_ := (Option.bind_some _ _).symm.trans H; with_reducible exact H2_) | with_reducible exact H | (rw [hy225]; exact H) | exact H
             have Ny225 := Zq.mk hy225
             clear hy225
             have H' := Zq.mk H
             clear H
             go_wp2_with (first | ((with_reducible refine zbd (b := .append) (xs := #[.tmp 31, .tmp 32]) rfl ?_); at_builtin; refine Kd.R_append (Kd.int .u8) (w0 := w) w.heap.size rfl (.tmp 31) (.tmp 32) 64 5 (.int .u8 0) 1 rfl Tryz.underlying64 zmb rfl (by decide) (by omega) u4 x4_1 92 [.int .u8 92] (fun _ => True) (fun _ => False) rfl rfl ?aP (fun _ hk => hk.elim) ?aF ?aO ?aB ?aS ?aL ?_; (case aP => exact rfl); (case aB => exact (by repeat (first | (with_reducible first | exact HB.out | apply zab | apply zaa | apply zac) | exact HB.out))); (case aF => exact (fun _ _ => trivial)); (case aO => exact (by (with_reducible repeat (first | apply Kd.R_alloc | apply Kd.R_drewN | apply Kd.R_drew)); exact HO_4.out)); (case aS => exact (zal (by repeat (first | (with_reducible first | exact HB.out | apply zab | apply zaa | apply zac) | exact HB.out)))); (case aL => have := LMc13.out; omega); intro v223 w15 ho hb hg hat; rw [← Ny222.out] at ho; have n0_ := Zq.mk (hb); have n1_ := Zq.mk (ho); clear HB; clear HO_4; have HB := n0_; have HO224 := n1_; clear n0_ n1_; clear ho hb hg hat) | ((with_reducible refine zbd (b := .append) (xs := #[.tmp 34, .tmp 36]) rfl ?_); at_builtin; refine Kd.R_append (Kd.int .u8) (w0 := w) w.heap.size rfl (.tmp 34) (.tmp 36) 64 5 (.int .u8 0) 1 rfl Tryz.underlying64 zmb rfl (by decide) (by omega) v223 y222 (bt a0 x13_1) [.int .u8 (bt a0 x13_1)] (fun _ => True) (fun _ => False) rfl rfl ?aP (fun _ hk => hk.elim) ?aF ?aO ?aB ?aS ?aL ?_; (case aP => exact rfl); (case aB => exact (by repeat (first | (with_reducible first | exact HB.out | apply zab | apply zaa | apply zac) | exact HB.out))); (case aF => exact (fun _ _ => trivial)); (case aO => exact (by (with_reducible repeat (first | apply Kd.R_alloc | apply Kd.R_drewN | apply Kd.R_drew)); exact HO224.out)); (case aS => exact (zal (by repeat (first | (with_reducible first | exact HB.out | apply zab | apply zaa | apply zac) | exact HB.out)))); (case aL => have := LMc14.out; omega); intro v226 w16 ho hb hg hat; rw [← Ny225.out] at ho; have n0_ := Zq.mk (hb); have n1_ := Zq.mk (ho); clear HB; clear HO224; have HB := n0_; have HO227 := n1_; clear n0_ n1_; clear ho hb hg hat))
             go_roundg kj8
             case measure => have := HK1.out; have := HJ8.out; omega
             case rel => exact ⟨(y225), (wrap64 (x13_1 + 1)), (by first | rfl | (simp; done) | (simp [*]; done)), H', ⟨by have := HK1.out; have := HJ8.out; omega⟩, ⟨by (with_reducible repeat (first | apply Kd.R_alloc | apply Kd.R_drewN | apply Kd.R_drew)); exact HO227.out⟩, ⟨by repeat (first | (with_reducible first | exact HB.out | apply zab | apply zaa | apply zac) | exact HB.out)⟩⟩
            ·rw [if_neg c14] at H
             exact absurd H (by simp)
           ·rw [if_neg c13] at H
            exact absurd H (by simp)
          ·rw [if_neg c12] at H
           have c12b0 : ((bt a0 x13_1) == 34) = false := beq_eq_false_iff_ne.mpr c12
           have c12b1 : ((bt a0 x13_1) != 34) = true := bne_iff_ne.mpr c12
           by_cases c17 : (bt a0 x13_1) = 92
           ·rw [if_pos c17] at H
            have c17b0 : ((bt a0 x13_1) == 92) = true := beq_iff_eq.mpr c17
            have c17b1 : ((bt a0 x13_1) != 92) = false := bne_eq_false_iff_eq.mpr c17
            clear c17
            by_cases c18 : x4_1.length < 140737488355328
            ·rw [if_pos c18] at H
             have LMc18 := Zq.mk c18
             clear c18
             obtain ⟨y228, hy228⟩ : ∃ y_ : List Int, y_ = (x4_1 ++ [92]) := ⟨_, rfl⟩
             replace H : (if y228.length < 140737488355328 then (lex_Quote.l0 kj8 a0 (y228 ++ [(bt a0 x13_1)]) (a0.size : Int) (wrap64 (x13_1 + 1))) else (none)) = some (r1, r2) := by first | (rw [hy228]; with_reducible exact H) | (have H2_ := (Option.bind_some _ _).symm.trans H; rw [hy228]; with_reducible exact H2_) | (have H2_ := (Option.bind_some _ _).symm.trans H; with_reducible exact H2_) | with_reducible exact H | (rw [hy228]; exact H) | exact H
             have Ny228 := Zq.mk hy228
             clear hy228
             by_cases c19 : y228.length < 140737488355328
             ·rw [if_pos c19] at H
              have LMc19 := Zq.mk c19
              clear c19
              obtain ⟨y231, hy231⟩ : ∃ y_ : List Int, y_ = (y228 ++ [(bt a0 x13_1)]) := ⟨_, rfl⟩
              replace H : (lex_Quote.l0 kj8 a0 y231 (a0.size : Int) (wrap64 (x13_1 + 1))) = some (r1, r2) := by first | (rw [hy231]; with_reducible exact H) | (have H2_ := (Option.bind_some _ _).symm.trans H; rw [hy231]; with_reducible exact H2_) | (have H2_ := (Option.bind_some _ _).symm.trans H; with_reducible exact H2_) | with_reducible exact H | (rw [hy231]; exact H) | exact H
              have Ny231 := Zq.mk hy231
              clear hy231
              have H' := Zq.mk H
              clear H
              go_wp2_with (first | ((with_reducible refine zbd (b := .append) (xs := #[.tmp 31, .tmp 32]) rfl ?_); at_builtin; refine Kd.R_append (Kd.int .u8) (w0 := w) w.heap.size rfl (.tmp 31) (.tmp 32) 64 5 (.int .u8 0) 1 rfl Tryz.underlying64 zmb rfl (by decide) (by omega) u4 x4_1 92 [.int .u8 92] (fun _ => True) (fun _ => False) rfl rfl ?aP (fun _ hk => hk.elim) ?aF ?aO ?aB ?aS ?aL ?_; (case aP => exact rfl); (case aB => exact (by repeat (first | (with_reducible first | exact HB.out | apply zab | apply zaa | apply zac) | exact HB.out))); (case aF => exact (fun _ _ => trivial)); (case aO => exact (by (with_reducible repeat (first | apply Kd.R_alloc | apply Kd.R_drewN | apply Kd.R_drew)); exact HO_4.out)); (case aS => exact (zal (by repeat (first | (with_reducible first | exact HB.out | apply zab | apply zaa | apply zac) | exact HB.out)))); (case aL => have := LMc18.out; omega); intro v229 w20 ho hb hg hat; rw [← Ny228.out] at ho; have n0_ := Zq.mk (hb); have n1_ := Zq.mk (ho); clear HB; clear HO_4; have HB := n0_; have HO230 := n1_; clear n0_ n1_; clear ho hb hg hat) | ((with_reducible refine zbd (b := .append) (xs := #[.tmp 34, .tmp 36]) rfl ?_); at_builtin; refine Kd.R_append (Kd.int .u8) (w0 := w) w.heap.size rfl (.tmp 34) (.tmp 36) 64 5 (.int .u8 0) 1 rfl Tryz.underlying64 zmb rfl (by decide) (by omega) v229 y228 (bt a0 x13_1) [.int .u8 (bt a0 x13_1)] (fun _ => True) (fun _ => False) rfl rfl ?aP (fun _ hk => hk.elim) ?aF ?aO ?aB ?aS ?aL ?_; (case aP => exact rfl); (case aB => exact (by repeat (first | (with_reducible first | exact HB.out | apply zab | apply zaa | apply zac) | exact HB.out))); (case aF => exact (fun _ _ => trivial)); (case aO => exact (by (with_reducible repeat (first | apply Kd.R_alloc | apply Kd.R_drewN | apply Kd.R_drew)); exact HO230.out)); (case aS => exact (zal (by repeat (first | (with_reducible first | exact HB.out | apply zab | apply zaa | apply zac) | exact HB.out)))); (case aL => have := LMc19.out; omega); intro v232 w21 ho hb hg hat; rw [← Ny231.out] at ho; have n0_ := Zq.mk (hb); have n1_ := Zq.mk (ho); clear HB; clear HO230; have HB := n0_; have HO233 := n1_; clear n0_ n1_; clear ho hb hg hat))
              go_roundg kj8
              case measure => have := HK1.out; have := HJ8.out; omega
              case rel => exact ⟨(y231), (wrap64 (x13_1 + 1)), (by first | rfl | (simp; done) | (simp [*]; done)), H', ⟨by have := HK1.out; have := HJ8.out; omega⟩, ⟨by (with_reducible repeat (first | apply Kd.R_alloc | apply Kd.R_drewN | apply Kd.R_drew)); exact HO233.out⟩, ⟨by repeat (first | (with_reducible first | exact HB.out | apply zab | apply zaa | apply zac) | exact HB.out)⟩⟩
             ·rw [if_neg c19] at H
              exact absurd H (by simp)
            ·rw [if_neg c18] at H
             exact absurd H (by simp)
           ·rw [if_neg c17] at H
            have c17b0 : ((bt a0 x13_1) == 92) = false := beq_eq_false_iff_ne.mpr c17
            have c17b1 : ((bt a0 x13_1) != 92) = true := bne_iff_ne.mpr c17
            by_cases c22 : x4_1.length < 140737488355328
            ·rw [if_pos c22] at H
             have LMc22 := Zq.mk c22
             clear c22
             obtain ⟨y234, hy234⟩ : ∃ y_ : List Int, y_ = (x4_1 ++ [(bt a0 x13_1)]) := ⟨_, rfl⟩
             replace H : (lex_Quote.l0 kj8 a0 y234 (a0.size : Int) (wrap64 (x13_1 + 1))) = some (r1, r2) := by first | (rw [hy234]; with_reducible exact H) | (have H2_ := (Option.bind_some _ _).symm.trans H; rw [hy234]; with_reducible exact H2_) | (have H2_ := (Option.bind_some _ _).symm.trans H; with_reducible exact H2_) | with_reducible exact H | (rw [hy234]; exact H) | exact H
             have Ny234 := Zq.mk hy234
             clear hy234
             have H' := Zq.mk H
             clear H
             go_wp2_with (first | ((with_reducible refine zbd (b := .append) (xs := #[.tmp 34, .tmp 36]) rfl ?_); at_builtin; refine Kd.R_append (Kd.int .u8) (w0 := w) w.heap.size rfl (.tmp 34) (.tmp 36) 64 5 (.int .u8 0) 1 rfl Tryz.underlying64 zmb rfl (by decide) (by omega) u4 x4_1 (bt a0 x13_1) [.int .u8 (bt a0 x13_1)] (fun _ => True) (fun _ => False) rfl rfl ?aP (fun _ hk => hk.elim) ?aF ?aO ?aB ?aS ?aL ?_; (case aP => exact rfl); (case aB => exact (by repeat (first | (with_reducible first | exact HB.out | apply zab | apply zaa | apply zac) | exact HB.out))); (case aF => exact (fun _ _ => trivial)); (case aO => exact (by (with_reducible repeat (first | apply Kd.R_alloc | apply Kd.R_drewN | apply Kd.R_drew)); exact HO_4.out)); (case aS => exact (zal (by repeat (first | (with_reducible first | exact HB.out | apply zab | apply zaa | apply zac) | exact HB.out)))); (case aL => have := LMc22.out; omega); intro v235 w23 ho hb hg hat; rw [← Ny234.out] at ho; have n0_ := Zq.mk (hb); have n1_ := Zq.mk (ho); clear HB; clear HO_4; have HB := n0_; have HO236 := n1_; clear n0_ n1_; clear ho hb hg hat))
             go_roundg kj8
             case measure => have := HK1.out; have := HJ8.out; omega
             case rel => exact ⟨(y234), (wrap64 (x13_1 + 1)), (by first | rfl | (simp; done) | (simp [*]; done)), H', ⟨by have := HK1.out; have := HJ8.out; omega⟩, ⟨by (with_reducible repeat (first | apply Kd.R_alloc | apply Kd.R_drewN | apply Kd.R_drew)); exact HO236.out⟩, ⟨by repeat (first | (with_reducible first | exact HB.out | apply zab | apply zaa | apply zac) | exact HB.out)⟩⟩
            ·rw [if_neg c22] at H
             exact absurd H (by simp)
      ·rw [if_neg c7] at H
       exact absurd H (by simp)
     ·rw [if_neg c6] at H
      exact absurd H (by simp)
    ·rw [if_neg c5] at H
     have c5b0 : decide (x13_1 < (a0.size : Int)) = false := decide_eq_false c5
     clear c5
     by_cases c24 : x4_1.length < 140737488355328
     ·rw [if_pos c24] at H
      have LMc24 := Zq.mk c24
      clear c24
      obtain ⟨y219, hy219⟩ : ∃ y_ : List Int, y_ = (x4_1 ++ [34]) := ⟨_, rfl⟩
      replace H : (some (strOfNums y219, 0)) = some (r1, r2) := by first | (rw [hy219]; with_reducible exact H) | (have H2_ := (Option.bind_some _ _).symm.trans H; rw [hy219]; with_reducible exact H2_) | (have H2_ := (Option.bind_some _ _).symm.trans H; with_reducible exact H2_) | with_reducible exact H | (rw [hy219]; exact H) | exact H
      have Ny219 := Zq.mk hy219
      clear hy219
      simp only [Option.some.injEq, Prod.mk.injEq] at H
      obtain ⟨rfl, rfl⟩ := H
      go_wp2_with (first | ((with_reducible refine zbd (b := .append) (xs := #[.tmp 39, .tmp 40]) rfl ?_); at_builtin; refine Kd.R_append (Kd.int .u8) (w0 := w) w.heap.size rfl (.tmp 39) (.tmp 40) 64 5 (.int .u8 0) 1 rfl Tryz.underlying64 zmb rfl (by decide) (by omega) u4 x4_1 34 [.int .u8 34] (fun _ => True) (fun _ => False) rfl rfl ?aP (fun _ hk => hk.elim) ?aF ?aO ?aB ?aS ?aL ?_; (case aP => exact rfl); (case aB => exact (by repeat (first | (with_reducible first | exact HB.out | apply zab | apply zaa | apply zac) | exact HB.out))); (case aF => exact (fun _ _ => trivial)); (case aO => exact (by (with_reducible repeat (first | apply Kd.R_alloc | apply Kd.R_drewN | apply Kd.R_drew)); exact HO_4.out)); (case aS => exact (zal (by repeat (first | (with_reducible first | exact HB.out | apply zab | apply zaa | apply zac) | exact HB.out)))); (case aL => have := LMc24.out; omega); intro v220 w25 ho hb hg hat; rw [← Ny219.out] at ho; have n0_ := Zq.mk (hb); have n1_ := Zq.mk (ho); clear HB; clear HO_4; have HB := n0_; have HO221 := n1_; clear n0_ n1_; clear ho hb hg hat; have hcv26 := zkx (P := Tryz.prog) Tryz.underlying64 Tryz.underlying5 Tryz.underlying9 (Kd.own_of_R HO221.out)))
      go_ret2
      exact ⟨by first | rfl | (simp [zan, zam] <;> rfl) | (simp [*, zan, zam] <;> rfl), by repeat (first | (with_reducible first | exact HB.out | apply zab | apply zaa | apply zac) | exact HB.out)⟩
     ·rw [if_neg c24] at H
      exact absurd H (by simp)
def lychgateref08_small.f (a0 : Int) : Option (Bool) := if a0 ≥ 97 then (some (decide (a0 ≤ 122))) else (some false)
def lychgateref08_great.f (a0 : Int) : Option (Bool) := if a0 ≥ 65 then (some (decide (a0 ≤ 90))) else (some false)
def lychgateref08_digit.f (a0 : Int) : Option (Bool) := if a0 ≥ 48 then (some (decide (a0 ≤ 57))) else (some false)
def lychgateref08_within.f (a0 : Int) (a1 : Int) : Option (Bool) := (lychgateref08_small.f a1).bind fun t276 => ((lychgateref08_digit.f a1).bind fun t277 => ((lychgateref08_great.f a1).bind fun t278 => (if a0 = 1 then (if t276 = true then (some true) else (if t277 = true then (some true) else (if a1 = 95 then (some true) else (some (a1 == 45))))) else (if a0 = 2 then (some t278) else (if t277 = true then (some true) else (if a1 = 46 then (some true) else (some (a1 == 47))))))))
def lychgateref08_run.l0 : Nat → Int → ByteArray → Int → Option (Int)
 | 0, _, _, _ => none
 | k + 1, x0, x1, x2 => if x2 < (x1.size : Int) then (if 0 ≤ x2 then ((lychgateref08_within.f x0 (bt x1 x2)).bind fun t279 => (if t279 = true then (lychgateref08_run.l0 k x0 x1 (wrap64 (x2 + 1))) else (some x2))) else (none)) else (some x2)
def lychgateref08_run.f (k : Nat) (a0 : Int) (a1 : ByteArray) (a2 : Int) : Option (Int) := lychgateref08_run.l0 k a0 a1 a2
def lychgateref08_words.f  : Option (List ByteArray) := some (([(⟨#[108, 101, 116]⟩ : ByteArray), (⟨#[97, 108, 108, 111, 119]⟩ : ByteArray), (⟨#[100, 101, 110, 121]⟩ : ByteArray), (⟨#[119, 104, 101, 110]⟩ : ByteArray), (⟨#[97, 110, 100]⟩ : ByteArray), (⟨#[111, 114]⟩ : ByteArray), (⟨#[110, 111, 116]⟩ : ByteArray), (⟨#[116, 114, 117, 101]⟩ : ByteArray), (⟨#[102, 97, 108, 115, 101]⟩ : ByteArray), (⟨#[105, 110]⟩ : ByteArray), (⟨#[97, 100, 100, 114]⟩ : ByteArray), (⟨#[112, 111, 114, 116]⟩ : ByteArray), (⟨#[109, 101, 116, 104, 111, 100]⟩ : ByteArray), (⟨#[112, 97, 116, 104]⟩ : ByteArray), (⟨#[104, 101, 97, 100, 101, 114]⟩ : ByteArray), (⟨#[104, 97, 115]⟩ : ByteArray)] : List ByteArray))
def lychgateref08_IsWord.l0 : Nat → ByteArray → List ByteArray → Int → Option (Bool)
 | 0, _, _, _ => none
 | k + 1, x0, x3, x4 => if x4 < (x3.length : Int) then (if 0 ≤ x4 then (if (rdOf ByteArray.empty x3 x4).toList = x0.toList then (some true) else (lychgateref08_IsWord.l0 k x0 x3 (wrap64 (x4 + 1)))) else (none)) else (some false)
def lychgateref08_IsWord.f (k : Nat) (a0 : ByteArray) : Option (Bool) := (lychgateref08_words.f).bind fun t283 => (lychgateref08_IsWord.l0 k a0 t283 0)
end
section
def zow : List ByteArray := [⟨#[108, 101, 116]⟩, ⟨#[97, 108, 108, 111, 119]⟩, ⟨#[100, 101, 110, 121]⟩, ⟨#[119, 104, 101, 110]⟩, ⟨#[97, 110, 100]⟩, ⟨#[111, 114]⟩, ⟨#[110, 111, 116]⟩, ⟨#[116, 114, 117, 101]⟩, ⟨#[102, 97, 108, 115, 101]⟩, ⟨#[105, 110]⟩, ⟨#[97, 100, 100, 114]⟩, ⟨#[112, 111, 114, 116]⟩, ⟨#[109, 101, 116, 104, 111, 100]⟩, ⟨#[112, 97, 116, 104]⟩, ⟨#[104, 101, 97, 100, 101, 114]⟩, ⟨#[104, 97, 115]⟩]
def isIn (xs : List ByteArray) (s : ByteArray) : Bool := xs.any fun w => decide (w.toList = s.toList)
theorem zju (a : ByteArray) (l : List ByteArray) (s : ByteArray) : isIn (a :: l) s = (decide (a.toList = s.toList) || isIn l s) := by simp only [isIn, List.any_cons]
def zlz (s : ByteArray) : Bool := isIn zow s
theorem index_l0 (xs : List ByteArray) (s : ByteArray) (hn : xs.length ≤ 100000) : ∀ (d i k : Nat), i + d = xs.length → d + 1 ≤ k → ∃ r : Int, slices_Index_string_string.l0 k xs s (xs.length : Int) (i : Int) = some r ∧ (0 ≤ r ↔ isIn (xs.drop i) s = true) := by
 intro d
 induction d with
 | zero =>
  intro i k hi hk
  obtain ⟨k, rfl⟩ : ∃ m, k = m + 1 := ⟨k - 1, by omega⟩
  refine ⟨-1, ?_, ?_⟩
  ·simp only [slices_Index_string_string.l0]
   rw [if_neg (by omega)]
  ·rw [List.drop_of_length_le (by omega)]
   simp [isIn]
 | succ d ih =>
  intro i k hi hk
  obtain ⟨k, rfl⟩ : ∃ m, k = m + 1 := ⟨k - 1, by omega⟩
  have hlt : i < xs.length := by omega
  have hr : rdOf ByteArray.empty xs (i : Int) = xs[i] := by
   unfold rdOf
   rw [Int.toNat_natCast, List.getD_eq_getElem?_getD, List.getElem?_eq_getElem hlt]
   rfl
  have hd : xs.drop i = xs[i] :: xs.drop (i + 1) := List.drop_eq_getElem_cons hlt
  simp only [slices_Index_string_string.l0]
  rw [if_pos (by omega), if_pos (by omega), if_pos (by omega), hr, hd]
  by_cases h : s.toList = xs[i].toList
  ·refine ⟨i, by rw [if_pos h], ?_⟩
   constructor
   ·intro _; rw [zju, h, decide_eq_true rfl]; rfl
   ·intro _; omega
  ·obtain ⟨r, h1, h2⟩ := ih (i + 1) k (by omega) (by omega)
   refine ⟨r, ?_, ?_⟩
   ·rw [if_neg h, zip i (by omega)]
    exact h1
   ·rw [h2]
    have : decide (xs[i].toList = s.toList) = false := decide_eq_false (fun e => h e.symm)
    rw [zju, this, Bool.false_or]
theorem zjz (xs : List ByteArray) (s : ByteArray) (hn : xs.length ≤ 100000) (k : Nat) (hk : xs.length + 1 ≤ k) : slices_Contains_string_string.f k xs s = some (isIn xs s) := by
 obtain ⟨r, h1, h2⟩ := index_l0 xs s hn xs.length 0 k (by omega) hk
 unfold slices_Contains_string_string.f slices_Index_string_string.f
 rw [show ((0 : Nat) : Int) = 0 from rfl] at h1
 rw [h1]
 simp only [Option.bind_some, List.drop_zero] at h2 ⊢
 cases hb : isIn xs s with
 | true => rw [hb] at h2; rw [decide_eq_true (h2.2 rfl)]
 | false => rw [hb] at h2; rw [decide_eq_false (fun h => by have := h2.1 h; cases this)]
theorem fields_words : strings_Fields.f (⟨#[108, 101, 116, 32, 97, 108, 108, 111, 119, 32, 100, 101, 110, 121, 32, 119, 104, 101, 110, 32, 97, 110, 100, 32, 111, 114, 32, 110, 111, 116, 32, 116, 114, 117, 101, 32, 102, 97, 108, 115, 101, 32, 105, 110, 32, 97, 100, 100, 114, 32, 112, 111, 114, 116, 32, 109, 101, 116, 104, 111, 100, 32, 112, 97, 116, 104, 32, 104, 101, 97, 100, 101, 114, 32, 104, 97, 115]⟩ : ByteArray) = some zow := by decide +kernel
theorem zhf (s : ByteArray) (k : Nat) (hk : 100 ≤ k) : lex_IsWord.f k s = some (zlz s) := by
 unfold lex_IsWord.f
 rw [fields_words]
 simp only [Option.bind_some]
 rw [zjz zow s (by decide) k (by have : zow.length = 16 := rfl; omega)]
 rfl
def zbb (c : Int) : Int :=
 if c = 32 ∨ c = 9 ∨ c = 10 ∨ c = 13 then 1 else if c = 35 then 2 else if 97 ≤ c ∧ c ≤ 122 then 3 else if 65 ≤ c ∧ c ≤ 90 then 4 else if 48 ≤ c ∧ c ≤ 57 then 5 else if c = 34 then 6
 else if c = 123 ∨ c = 125 ∨ c = 40 ∨ c = 41 ∨ c = 44 ∨ c = 59 ∨ c = 61 ∨ c = 126 ∨ c = 45 then 7 else 0
theorem begins_low : ∀ n : Fin 128, lex_begins.f (n.val : Int) = some (zbb (n.val : Int)) := by decide +kernel
theorem zoa (s : ByteArray) (c : Int) (h : ¬ (0 ≤ c ∧ c < 128)) (hs : s.data.toList.all (fun b => decide (b.toNat < 128)) = true) (hz : s.size ≤ maxLen) : strings_ContainsRune.f s c = some false := by
 unfold strings_ContainsRune.f
 rw [if_pos ⟨hs, hz⟩, decide_eq_false (fun hh => h ⟨hh.1, hh.2.1⟩)]
theorem zfk (c : Int) : lex_begins.f c = some (zbb c) := by
 by_cases h : 0 ≤ c ∧ c < 128
 ·have := begins_low ⟨c.toNat, by omega⟩
  have e : ((c.toNat : Nat) : Int) = c := by omega
  simp only [e] at this
  exact this
 ·unfold lex_begins.f lex_isSmall.f lex_isGreat.f lex_isDigit.f
  rw [zoa _ c h (by decide) (by decide), zoa _ c h (by decide) (by decide)]
  simp only [Option.bind_some]
  have hb : zbb c = 0 := by unfold zbb; repeat rw [if_neg (by omega)]
  rw [hb, if_neg (by decide), if_neg (by omega)]
  by_cases h1 : c ≥ 97
  ·rw [if_pos h1, if_pos (show c ≥ 65 by omega), if_pos (show c ≥ 48 by omega)]
   simp only [Option.bind_some]
   rw [decide_eq_false (show ¬ c ≤ 122 by omega), decide_eq_false (show ¬ c ≤ 90 by omega), decide_eq_false (show ¬ c ≤ 57 by omega)]
   simp; omega
  ·rw [if_neg h1, if_neg (show ¬ c ≥ 65 by omega), if_neg (show ¬ c ≥ 48 by omega)]
   simp; omega
def zim (k c : Int) : Bool :=
 if k = 1 then zbb c == 1 else if k = 2 then c != 10 else if k = 3 then decide (97 ≤ c ∧ c ≤ 122 ∨ 48 ≤ c ∧ c ≤ 57 ∨ c = 95 ∨ c = 45) else if k = 4 then decide (65 ≤ c ∧ c ≤ 90)
 else if k = 5 then decide (48 ≤ c ∧ c ≤ 57 ∨ c = 46 ∨ c = 47) else false
theorem small_eq (c : Int) : lex_isSmall.f c = some (decide (97 ≤ c ∧ c ≤ 122)) := by
 unfold lex_isSmall.f
 by_cases h : c ≥ 97
 ·rw [if_pos h]; congr 1; by_cases h2 : c ≤ 122
  ·rw [decide_eq_true h2, decide_eq_true ⟨h, h2⟩]
  ·rw [decide_eq_false h2, decide_eq_false (fun h3 => h2 h3.2)]
 ·rw [if_neg h, decide_eq_false (fun h3 => h h3.1)]
theorem great_eq (c : Int) : lex_isGreat.f c = some (decide (65 ≤ c ∧ c ≤ 90)) := by
 unfold lex_isGreat.f
 by_cases h : c ≥ 65
 ·rw [if_pos h]; congr 1; by_cases h2 : c ≤ 90
  ·rw [decide_eq_true h2, decide_eq_true ⟨h, h2⟩]
  ·rw [decide_eq_false h2, decide_eq_false (fun h3 => h2 h3.2)]
 ·rw [if_neg h, decide_eq_false (fun h3 => h h3.1)]
theorem zoo (c : Int) : lex_isDigit.f c = some (decide (48 ≤ c ∧ c ≤ 57)) := by
 unfold lex_isDigit.f
 by_cases h : c ≥ 48
 ·rw [if_pos h]; congr 1; by_cases h2 : c ≤ 57
  ·rw [decide_eq_true h2, decide_eq_true ⟨h, h2⟩]
  ·rw [decide_eq_false h2, decide_eq_false (fun h3 => h2 h3.2)]
 ·rw [if_neg h, decide_eq_false (fun h3 => h h3.1)]
theorem lex_goes_eq (k c : Int) : lex_goesOn.f k c = some (zim k c) := by
 unfold lex_goesOn.f zim
 by_cases h1 : k = 1
 ·rw [if_pos h1, if_pos h1, zfk]; rfl
 rw [if_neg h1, if_neg h1]
 by_cases h2 : k = 2
 ·rw [if_pos h2, if_pos h2]
 rw [if_neg h2, if_neg h2]
 by_cases h3 : k = 3
 ·rw [if_pos h3, if_pos h3, small_eq]
  simp only [Option.bind_some]
  by_cases a : 97 ≤ c ∧ c ≤ 122
  ·rw [if_pos (decide_eq_true a), decide_eq_true (.inl a)]
  ·rw [if_neg (by simpa using a), zoo]
   simp only [Option.bind_some]
   by_cases b : 48 ≤ c ∧ c ≤ 57
   ·rw [if_pos (decide_eq_true b), decide_eq_true (.inr (.inl b))]
   ·rw [if_neg (by simpa using b)]
    by_cases d : c = 95
    ·rw [if_pos d, decide_eq_true (.inr (.inr (.inl d)))]
    ·rw [if_neg d]
     by_cases e : c = 45
     ·rw [decide_eq_true (.inr (.inr (.inr e)))]; simp [e]
     ·rw [decide_eq_false (by omega)]; simp [e]
 rw [if_neg h3, if_neg h3]
 by_cases h4 : k = 4
 ·rw [if_pos h4, if_pos h4, great_eq]; rfl
 rw [if_neg h4, if_neg h4]
 by_cases h5 : k = 5
 ·rw [if_pos h5, if_pos h5, zoo]
  simp only [Option.bind_some]
  by_cases b : 48 ≤ c ∧ c ≤ 57
  ·rw [if_pos (decide_eq_true b), decide_eq_true (.inl b)]
  ·rw [if_neg (by simpa using b)]
   by_cases d : c = 46
   ·rw [if_pos d, decide_eq_true (.inr (.inl d))]
   ·rw [if_neg d]
    by_cases e : c = 47
    ·rw [decide_eq_true (.inr (.inr e))]; simp [e]
    ·rw [decide_eq_false (by omega)]; simp [e]
 rw [if_neg h5, if_neg h5]
end
section
def zjm : List ByteArray := [sNot, zqh, znz, zqk, zqi, zlm, zqj, zln, sHas]
theorem isIn_any (l : List ByteArray) (s : ByteArray) : isIn l s = l.any fun w => s.toList == w.toList := by
 induction l with
 | nil => rfl
 | cons a l ih =>
  rw [zju, ih, List.any_cons]
  congr 1
  by_cases h : a.toList = s.toList
  ·rw [decide_eq_true h, h]; simp
  ·rw [decide_eq_false h]
   symm
   rw [beq_eq_false_iff_ne]
   exact fun e => h e.symm
theorem text_C {w : World} {g : Nat} {l : List ByteArray} (hg : w.heap[g]? = some (.cells (zho l).toArray 9 (0, 0))) (hl : l.length ≤ 1000) : Kd.C Kd.string w (some ⟨g, 0, none⟩) l.length l := by
 have hr : Row w 0 9 1 (.slice (some ⟨g, 0, none⟩) l.length l.length) l.length (zho l) :=
  ⟨by rw [zfp, Nat.mul_one], .inr ⟨g, l.length, _, rfl, Nat.zero_le _, hg, Nat.le_refl _, by simp only [maxLen]; omega, by simp [zfp], by simp [← zfp l]⟩⟩
 refine Row.C (d := Kd.string) hr rfl fun j p hj => ⟨[.string p], rfl, rfl, fun r hr => ?_⟩
 have hr1 : r = 0 := by have : r < 1 := hr; omega
 subst hr1
 show (zho l)[j * 1 + 0]? = _
 rw [Nat.mul_one, Nat.add_zero, zho, List.getElem?_map, hj]
 rfl
theorem text_C2 (w : World) (o : Obj) {l : List ByteArray} (hl : l.length ≤ 1000) : Kd.C Kd.string ((w.alloc o).alloc (.cells (zho l).toArray 9)) (some ⟨w.heap.size + 1, 0, none⟩) l.length l := by
 have h := heap_alloc_new (w.alloc o) (.cells (zho l).toArray 9)
 rw [World.size_alloc] at h
 exact text_C h hl
theorem begins_calls (W : World) (g T c : Nat) (toks : List Tok) (i : Nat) (t : Tok) (ht : toks[i]? = some t) (h : PSt W g T c toks i) :
  Calls Tryz.prog 112 #[.pointer (some ⟨g, 0, none⟩)] W fun e W' => e = .returned (.bool (zeb t)) ∧ Below W.heap.size W W' := by
 have HP := Zq.mk (zca W g T c toks i t ht h)
 have HC := Zq.mk (fun (w : World) (A : Option Addr) (hr : Kd.C Kd.string w A zjm.length zjm) => slices_Contains_string_string.calls 20 A 9 zjm t.text _ w hr (Nat.le_refl _) (zjz zjm t.text (by decide) 20 (by decide)))
 clear ht h
 by_cases h2 : t.kind = 2
 ·have hb : zeb t = true := by unfold zeb; rw [if_pos h2]
  rw [hb]
  go_enter Tryz.func112, Tryz.ntmps112
  go_wp2_with (go_at_call 28; refine HP.out.mono ?_; rintro e' w' ⟨rfl, hb⟩)
  go_ret
  exact ⟨rfl, hb.alloc hb.size _⟩
 ·by_cases h7 : t.kind = 7
  ·have hb : zeb t = (t.text.toList == zey.toList) := by unfold zeb; rw [if_neg h2, if_pos h7]
   rw [hb]
   go_enter Tryz.func112, Tryz.ntmps112
   go_wp2_with (go_at_call 28; refine HP.out.mono ?_; rintro e' w' ⟨rfl, hb⟩)
   go_ret
   refine ⟨?_, hb.alloc hb.size _⟩
   rw [show zey.toList = [40] from by kernel_rfl]
   rfl
  ·by_cases h1 : t.kind = 1
   ·have hb : zeb t = isIn zjm t.text := by unfold zeb; rw [if_neg h2, if_neg h7, if_pos h1, isIn_any]; rfl
    rw [hb]
    go_enter Tryz.func112, Tryz.ntmps112
    go_wp2_with (first
     | (go_at_call 28; refine HP.out.mono ?_; rintro e' w' ⟨rfl, hb⟩; clear HP)
     | (go_at_call 97; refine (HC.out _ _ (text_C2 _ _ (l := zjm) (by decide))).mono ?_; rintro e2 w2 ⟨rfl, hd⟩))
    go_ret
    have hs := hb.size
    exact ⟨rfl, (((hb.alloc hb.size _).alloc (by simp; omega) _).trans (hd.below.mono (by simp; omega)))⟩
   ·have hb : zeb t = false := by unfold zeb; rw [if_neg h2, if_neg h7, if_neg h1]
    rw [hb]
    go_enter Tryz.func112, Tryz.ntmps112
    go_wp2_with (go_at_call 28; refine HP.out.mono ?_; rintro e' w' ⟨rfl, hb⟩)
    go_ret
    exact ⟨rfl, hb.alloc hb.size _⟩
end
end Go.Proofs.YtjeekocidaogoaaGreatDoor.H

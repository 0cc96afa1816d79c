/- A condition in brackets, or without parts. -/
/- A condition with not ahead, or without. -/
/- Rows of conditions, with a word between. -/
/- Maps by text that the call has made: entry by entry. -/
import Derived.Test.YtjeekocidaogoaaGreatDoorK5Deep
import Derived.Test.YtjeekocidaogoaaGreatDoorK5WApart
import Derived.Maps.Own
set_option linter.unusedVariables false
set_option linter.unusedSimpArgs false
set_option maxRecDepth 100000
set_option maxHeartbeats 8000000
namespace Go.Proofs.YtjeekocidaogoaaGreatDoor.H
open Go.RowKit Go.Proofs.YtjeekocidaogoaaGreatDoor.Hand Go.Proofs.YtjeekocidaogoaaGreatDoorW.PrintWords Go.Proofs.YtjeekocidaogoaaGreatDoorW.PrintLast Go.Proofs.YtjeekocidaogoaaGreatDoorW.PrintMore
section
abbrev tokO (t : Tok) : Obj := .cells #[.int .i64 t.kind, .string t.text, .int .i64 t.num, .int .i64 t.pa, .int .i64 t.pb, .int .i64 t.place] 49
abbrev tokK (k : Int) (t : Tok) : Obj := .cells #[.int .i64 k, .string t.text, .int .i64 t.num, .int .i64 t.pa, .int .i64 t.pb, .int .i64 t.place] 49
def zhn (W : World) (g T c : Nat) (toks : List Tok) (r : PR CD) : Ending → World → Prop :=
 EndP r (fun x j e W' => ∃ cs L, e = .returned (.agg cs.toArray) ∧ Tree W' W.heap.size x.1 cs L ∧ PSt W' g T c toks j ∧ Fr W W' (· = g) ∧ j < toks.length ∧ Dep x.1 x.2 ∧ x.2 ≤ 16 ∧ L.Nodup) (fun W' => Fr W W' (· = g))
def zgw (g T c : Nat) (toks : List Tok) (f : Nat) (P : Nat → Option (PR CD)) : Prop :=
 ∀ W i res, i < toks.length → PSt W g T c toks i → P i = some res → Calls Tryz.prog f #[.pointer (some ⟨g, 0, none⟩)] W (zhn W g T c toks res)
theorem Tree.fr {W W1 : World} {b : Nat} {x : S60} {cs : List Value} {L : List Nat} {S : Nat → Prop} (h : Tree W b x cs L) (hF : Fr W W1 S) (hn : ∀ g ∈ L, ¬ S g) : Tree W1 b x cs L :=
 h.frame fun g hg => hF.block g (h.lt g hg).2 (hn g hg)
theorem zbq {W : World} {b : Nat} {x : S60} {cs : List Value} {L : List Nat} (h : Tree W b x cs L) :
  ∃ v3 v4 v5 v6, cs = [.int .i64 x.f0, .string x.f1, .string x.f2, v3, v4, v5, v6, .int .i64 x.f7] ∧ v3.cells.size = 1 ∧ v4.cells.size = 1 ∧ v5.cells.size = 1 ∧ v6.cells.size = 1 ∧ ∃ A3 n3 c3 A4 n4 c4 A5 n5 c5 A6 n6 c6, v3 = .slice A3 n3 c3 ∧ v4 = .slice A4 n4 c4 ∧ v5 = .slice A5 n5 c5 ∧ v6 = .slice A6 n6 c6 := by
 obtain ⟨A3, c3, A4, c4, A5, c5, A6, c6, rfl, -⟩ := zbo h.K
 exact ⟨_, _, _, _, rfl, rfl, rfl, rfl, rfl, _, _, _, _, _, _, _, _, _, _, _, _, rfl, rfl, rfl, rfl⟩
theorem cond_facts {w : World} {m : Nat} {v0 v1 v2 v3 v4 v5 v6 v7 : Value} (h : w.heap[m]? = some (.cells #[v0, v1, v2, v3, v4, v5, v6, v7] 60 (0, 0))) :
  w.cell? ⟨m, 0, none⟩ = some v0 ∧ w.cell? ⟨m, 1, none⟩ = some v1 ∧ w.cell? ⟨m, 2, none⟩ = some v2 ∧ w.cell? ⟨m, 3, none⟩ = some v3 ∧ w.cell? ⟨m, 4, none⟩ = some v4 ∧ w.cell? ⟨m, 5, none⟩ = some v5 ∧ w.cell? ⟨m, 6, none⟩ = some v6 ∧ w.cell? ⟨m, 7, none⟩ = some v7 :=
 ⟨zae h 0, zae h 1, zae h 2, zae h 3, zae h 4, zae h 5, zae h 6, zae h 7⟩
theorem zcx {w : World} {m : Nat} {v0 v1 v2 v3 v4 v5 : Value} (h : w.heap[m]? = some (.cells #[v0, v1, v2, v3, v4, v5] 49 (0, 0))) :
  w.cell? ⟨m, 0, none⟩ = some v0 ∧ w.cell? ⟨m, 1, none⟩ = some v1 ∧ w.cell? ⟨m, 2, none⟩ = some v2 ∧ w.cell? ⟨m, 3, none⟩ = some v3 ∧ w.cell? ⟨m, 4, none⟩ = some v4 ∧ w.cell? ⟨m, 5, none⟩ = some v5 :=
 ⟨zae h 0, zae h 1, zae h 2, zae h 3, zae h 4, zae h 5⟩
theorem Tree.leaf_nodup {W : World} {b : Nat} {x : S60} {cs : List Value} {L : List Nat} (h : Tree W b x cs L) (hx : x.f6 = []) : L.Nodup := by
 obtain ⟨vp, vs, vn, vk, cells, M, -, rfl, hp, hs, hn, hk, hf⟩ := h.open_
 rw [hx] at hf
 cases hf
 have one : ∀ v : Value, (Blk v).Nodup := fun v => by unfold Blk; cases v.ownBlock <;> simp
 have two : ∀ {u v : Value}, (u.ownBlock = none ∨ u.ownBlock ≠ v.ownBlock) → ∀ a ∈ Blk u, ∀ b ∈ Blk v, a ≠ b := fun {u v} h a ha b hb e => by
  rw [znr] at ha hb
  rcases h with h | h
  ·rw [h] at ha; cases ha
  ·exact h (by rw [ha, hb, e])
 rw [List.append_nil, List.nodup_append, List.nodup_append, List.nodup_append]
 refine ⟨⟨⟨one _, one _, two (hp.apart hs (by decide))⟩, one _, ?_⟩, one _, ?_⟩
 ·intro a ha b hb
  rcases List.mem_append.1 ha with ha | ha
  ·exact two (hp.apart hn (by decide)) a ha b hb
  ·exact two (hs.apart hn (by decide)) a ha b hb
 ·intro a ha b hb
  rcases List.mem_append.1 ha with ha | ha
  ·rcases List.mem_append.1 ha with ha | ha
   ·exact two (hp.apart hk (by decide)) a ha b hb
   ·exact two (hs.apart hk (by decide)) a ha b hb
  ·exact two (hn.apart hk (by decide)) a ha b hb
section
variable (g T c : Nat) (toks : List Tok) (hend : ∀ k, k < toks.length → (tk toks k).kind ≠ 8 → k + 1 < toks.length)
include hend
theorem first_bracket (k : Nat) (hor : zgw g T c toks 54 (zbl toks k 0)) (W : World) (i : Nat) (res : PR CD) (hi : i < toks.length) (hs : PSt W g T c toks i) (hb : isT (tk toks i) zey = true) (hres : zbl toks (k + 1) 3 i = some res) :
  Calls Tryz.prog 144 #[.pointer (some ⟨g, 0, none⟩)] W (zhn W g T c toks res) := by
 have hg := hs.lts.1
 have hT := hs.lts.2.1
 have hi1 := hend i hi (zbk hb)
 have HP := Zq.mk (fun W' (h' : PSt W' g T c toks i) => zca W' g T c toks i _ (zbt toks hi) h')
 have HT := Zq.mk (fun W' (h' : PSt W' g T c toks i) => zch W' g T c toks i _ (zbt toks hi) zey h')
 simp only [hb, if_true] at HT
 have HX0 := Zq.mk (hs.alloc (.cells zce 60))
 have HZ0 := Zq.mk (heap_alloc_new W (.cells zce 60))
 have HF0 := Zq.mk (Fr.refl (W.alloc (.cells zce 60)) (· = g))
 unfold zbl at hres
 rw [if_pos hb] at hres
 clear hs
 cases hor2 : zbl toks k 0 (i + 1) with
 | none => rw [hor2] at hres; cases hres
 | some r =>
 rw [hor2] at hres
 have HO := Zq.mk (fun W' h' => hor W' (i + 1) r hi1 h' hor2)
 clear hor
 cases r with
 | bad ke pe =>
  have hres := Option.some.inj hres
  subst hres
  go_enter Tryz.func144, Tryz.ntmps144
  go_wp2_with (first
   | (go_at_call 28; refine (HP.out _ HX0.out).mono ?_; rintro e1 w1 ⟨rfl, hb1⟩; have HX1 := Zq.mk ((HX0.out.below hb1).alloc (tokO (tk toks i))); have HF1 := Zq.mk ((HF0.out.trans (Fr.of_below hb1)).alloc (tokO (tk toks i))); clear hb1 HP)
   | (go_at_call 78; refine (HT.out _ HX1.out).mono ?_; rintro e2 w2 ⟨rfl, hS, hF⟩; have HX2 := Zq.mk hS; have HF2 := Zq.mk (HF1.out.trans hF); clear hS hF HT)
   | (go_at_call 54; refine (HO.out _ HX2.out).mono ?_; rintro e3 w3 ⟨rfl, hF⟩))
  exact ⟨rfl, rfl, ((Fr.refl W (· = g)).alloc _).trans (HF2.out.trans hF)⟩
 | ok x j =>
  have hres := Option.some.inj hres
  have HW := Zq.mk (fun W' hj (h' : PSt W' g T c toks j) => zde W' g T c toks j _ (zbt toks hj) zic h')
  unfold zby at hres
  by_cases hc : isT (tk toks j) zic = true
  ·rw [if_pos hc] at hres
   simp only [if_pos hc] at HW
   subst hres
   have hj1 : j < toks.length → j + 1 < toks.length := fun hj => hend j hj (zbk hc)
   go_enter Tryz.func144, Tryz.ntmps144
   go_wp2_with (first
    | (go_at_call 28; refine (HP.out _ HX0.out).mono ?_; rintro e1 w1 ⟨rfl, hb1⟩; have HX1 := Zq.mk ((HX0.out.below hb1).alloc (tokO (tk toks i))); have HF1 := Zq.mk ((HF0.out.trans (Fr.of_below hb1)).alloc (tokO (tk toks i))); clear hb1 HP)
    | (go_at_call 78; refine (HT.out _ HX1.out).mono ?_; rintro e2 w2 ⟨rfl, hS, hF⟩; have HX2 := Zq.mk hS; have HF2 := Zq.mk (HF1.out.trans hF); clear hS hF HT)
    | (go_at_call 54; refine (HO.out _ HX2.out).mono ?_; rintro e3 w3 ⟨cs, L, rfl, hTr, hS, hF, hj, hD, hd, hND⟩; obtain ⟨v3, v4, v5, v6, rfl, -, -, -, -, A3, n3, c3, A4, n4, c4, A5, n5, c5, A6, n6, c6, rfl, rfl, rfl, rfl⟩ := zbq hTr; have HX3 := Zq.mk (hS.alloc (.cells #[.int .i64 x.1.f0, .string x.1.f1, .string x.1.f2, (.slice A3 n3 c3), (.slice A4 n4 c4), (.slice A5 n5 c5), (.slice A6 n6 c6), .int .i64 x.1.f7] 60)); have HF3 := Zq.mk ((HF2.out.trans hF).alloc (.cells #[.int .i64 x.1.f0, .string x.1.f1, .string x.1.f2, (.slice A3 n3 c3), (.slice A4 n4 c4), (.slice A5 n5 c5), (.slice A6 n6 c6), .int .i64 x.1.f7] 60)); have HM := Zq.mk (heap_alloc_new w3 (.cells #[.int .i64 x.1.f0, .string x.1.f1, .string x.1.f2, (.slice A3 n3 c3), (.slice A4 n4 c4), (.slice A5 n5 c5), (.slice A6 n6 c6), .int .i64 x.1.f7] 60)); have HTr := Zq.mk hTr; have HD := Zq.mk hD; have HFw := Zq.mk hF; clear hS hF HO hTr hD)
    | (go_at_call 53; refine (HW.out _ hj HX3.out).mono ?_; rintro e4 w4 ⟨⟨rfl, hS⟩, hF⟩; have HX4 := Zq.mk hS; have HF4 := Zq.mk (HF3.out.trans hF); have hsz := (HF3.out).size; have hN := (HF3.out.trans hF).blk HZ0.out (by show ¬ W.heap.size = g; omega); obtain ⟨y0, y1, y2, y3, y4, y5, y6, y7, z0, z1, z2, z3, z4, z5, z6, z7⟩ := zbz hN; obtain ⟨q0, q1, q2, q3, q4, q5, q6, q7⟩ := cond_facts (hF.blk HM.out (by rw [World.size_alloc, World.size_alloc] at hsz; show ¬ w3.heap.size = g; omega)); have HN := Zq.mk hN; have HF34 := Zq.mk (((Fr.refl w3 (· = g)).alloc (.cells #[.int .i64 x.1.f0, .string x.1.f1, .string x.1.f2, .slice A3 n3 c3, .slice A4 n4 c4, .slice A5 n5 c5, .slice A6 n6 c6, .int .i64 x.1.f7] 60)).trans hF); clear hS hF HW hN hsz))
   obtain ⟨R1, R2, R3⟩ := zcp hg hT HN.out HX4.out (((Fr.refl W (· = g)).alloc _).trans HF4.out) (.int .i64 x.1.f0) (.string x.1.f1) (.string x.1.f2) (.slice A3 n3 c3) (.slice A4 n4 c4) (.slice A5 n5 c5) (.slice A6 n6 c6) (.int .i64 x.1.f7)
   refine bodyPost_ret (results_cell_row rfl _ _ W.heap.size 60 #[.int .i64 x.1.f0, .string x.1.f1, .string x.1.f2, .slice A3 n3 c3, .slice A4 n4 c4, .slice A5 n5 c5, .slice A6 n6 c6, .int .i64 x.1.f7] (0, 0) _ rfl R1 Tryz.underlying60 rfl (by kernel_rfl)) rfl ?_
   have hsz := HF2.out.size
   rw [World.size_alloc] at hsz
   exact ⟨_, _, rfl, ((HTr.out.fr HF34.out fun g' hg' e => by have := (HTr.out.lt g' hg').1; omega).fr (zdf _ _ _ _ _ _ _ _ _ _) fun g' hg' e => by have := (HTr.out.lt g' hg').1; omega).lower (by omega), R2, R3, hj1 hj, HD.out, hd, hND⟩
  ·rw [if_neg hc] at hres
   simp only [if_neg hc] at HW
   subst hres
   go_enter Tryz.func144, Tryz.ntmps144
   go_wp2_with (first
    | (go_at_call 28; refine (HP.out _ HX0.out).mono ?_; rintro e1 w1 ⟨rfl, hb1⟩; have HX1 := Zq.mk ((HX0.out.below hb1).alloc (tokO (tk toks i))); have HF1 := Zq.mk ((HF0.out.trans (Fr.of_below hb1)).alloc (tokO (tk toks i))); clear hb1 HP)
    | (go_at_call 78; refine (HT.out _ HX1.out).mono ?_; rintro e2 w2 ⟨rfl, hS, hF⟩; have HX2 := Zq.mk hS; have HF2 := Zq.mk (HF1.out.trans hF); clear hS hF HT)
    | (go_at_call 54; refine (HO.out _ HX2.out).mono ?_; rintro e3 w3 ⟨cs, L, rfl, hTr, hS, hF, hj, hD, hd, hND⟩; obtain ⟨v3, v4, v5, v6, rfl, -, -, -, -, A3, n3, c3, A4, n4, c4, A5, n5, c5, A6, n6, c6, rfl, rfl, rfl, rfl⟩ := zbq hTr; have HX3 := Zq.mk (hS.alloc (.cells #[.int .i64 x.1.f0, .string x.1.f1, .string x.1.f2, (.slice A3 n3 c3), (.slice A4 n4 c4), (.slice A5 n5 c5), (.slice A6 n6 c6), .int .i64 x.1.f7] 60)); have HF3 := Zq.mk ((HF2.out.trans hF).alloc (.cells #[.int .i64 x.1.f0, .string x.1.f1, .string x.1.f2, (.slice A3 n3 c3), (.slice A4 n4 c4), (.slice A5 n5 c5), (.slice A6 n6 c6), .int .i64 x.1.f7] 60)); have HM := Zq.mk (heap_alloc_new w3 (.cells #[.int .i64 x.1.f0, .string x.1.f1, .string x.1.f2, (.slice A3 n3 c3), (.slice A4 n4 c4), (.slice A5 n5 c5), (.slice A6 n6 c6), .int .i64 x.1.f7] 60)); have HTr := Zq.mk hTr; have HD := Zq.mk hD; have HFw := Zq.mk hF; clear hS hF HO hTr hD)
    | (go_at_call 53; refine (HW.out _ hj HX3.out).mono ?_; rintro e4 w4 ⟨rfl, hF⟩))
   exact ⟨rfl, rfl, ((Fr.refl W (· = g)).alloc _).trans (HF3.out.trans hF)⟩
theorem first_name (k : Nat) (W : World) (i : Nat) (res : PR CD) (hi : i < toks.length) (hs : PSt W g T c toks i) (hk : (tk toks i).kind = 2) (hres : zbl toks (k + 1) 3 i = some res) :
  Calls Tryz.prog 144 #[.pointer (some ⟨g, 0, none⟩)] W (zhn W g T c toks res) := by
 have hg := hs.lts.1
 have hT := hs.lts.2.1
 have hm := hs.many
 have hi1 := hend i hi (by omega)
 have hb : isT (tk toks i) zey = false := by
  cases h : isT (tk toks i) zey with
  | false => rfl
  | true => unfold isT at h; rw [hk] at h; simp at h
 have HP := Zq.mk (fun W' (h' : PSt W' g T c toks i) => zca W' g T c toks i _ (zbt toks hi) h')
 have HT := Zq.mk (fun W' (h' : PSt W' g T c toks i) => zch W' g T c toks i _ (zbt toks hi) zey h')
 simp only [hb, Bool.false_eq_true, if_false] at HT
 have HX0 := Zq.mk (hs.alloc (.cells zce 60))
 have HZ0 := Zq.mk (heap_alloc_new W (.cells zce 60))
 have HF0 := Zq.mk (Fr.refl (W.alloc (.cells zce 60)) (· = g))
 unfold zbl at hres
 rw [if_neg (by simp [hb]), if_pos hk] at hres
 have hres := Option.some.inj hres
 subst hres
 clear hs
 go_enter Tryz.func144, Tryz.ntmps144
 go_wp2_with (first
  | (go_at_call 28; refine (HP.out _ HX0.out).mono ?_; rintro e1 w1 ⟨rfl, hb1⟩; have HX1 := Zq.mk ((HX0.out.below hb1).alloc (tokK 2 (tk toks i))); have HF1 := Zq.mk ((HF0.out.trans (Fr.of_below hb1)).alloc (tokK 2 (tk toks i))); have HM := Zq.mk (heap_alloc_new w1 (tokK 2 (tk toks i))); clear hb1 HP)
  | (go_at_call 78; refine (HT.out _ HX1.out).mono ?_; rintro e2 w2 ⟨rfl, hS, hF⟩; have hsz := HF1.out.size; rw [World.size_alloc, World.size_alloc] at hsz; obtain ⟨s0, s1, s2⟩ := hS.facts; obtain ⟨q0, q1, q2, q3, q4, q5⟩ := zcx (hF.blk HM.out (by show ¬ w1.heap.size = g; omega)); have hgM : g ≠ w1.heap.size := (by omega); have hgN : g ≠ W.heap.size := (by omega); have hN := (HF1.out.trans hF).blk HZ0.out (by show ¬ W.heap.size = g; omega); obtain ⟨y0, y1, y2, y3, y4, y5, y6, y7, z0, z1, z2, z3, z4, z5, z6, z7⟩ := zbz hN; have HN := Zq.mk hN; have HX2 := Zq.mk hS; have HF2 := Zq.mk (HF1.out.trans hF); clear hS hF HT hN hsz))
 have hF3 := HF2.out.setCell (p := ⟨g, 1, none⟩) (.inl rfl) (.int .i64 ((i : Int) + 1))
 obtain ⟨R1, R2, R3⟩ := zcp hg hT (zar (p := ⟨g, 1, none⟩) HN.out (fun e => hgN e.symm) (.int .i64 ((i : Int) + 1))) HX2.out.step (((Fr.refl W (· = g)).alloc _).trans hF3) (.int .i64 3) (.string (tk toks i).text) (.string ⟨#[]⟩) (.slice none 0 0) (.slice none 0 0) (.slice none 0 0) (.slice none 0 0) (.int .i64 (tk toks i).place)
 refine bodyPost_ret (results_cell_row rfl _ _ W.heap.size 60 #[.int .i64 3, .string (tk toks i).text, .string ⟨#[]⟩, .slice none 0 0, .slice none 0 0, .slice none 0 0, .slice none 0 0, .int .i64 (tk toks i).place] (0, 0) _ rfl R1 Tryz.underlying60 rfl (by kernel_rfl)) rfl ?_
 exact ⟨_, _, rfl, .mk (Row.nil _ _ _ _) (Row.nil _ _ _ _) (Row.nil _ _ _ _) (Row.nil _ _ _ _) .nil, R2, R3, hi1, ziu rfl, by show 1 ≤ 16; decide, by simp [Blk, Value.ownBlock]⟩
end
end
section
theorem zpf (W : World) (b ty sz n : Nat) (xs : List Value) (hb : b ≤ W.heap.size) (hl : xs.length = n * sz) (hm : n ≤ maxLen) : Row (W.alloc (.cells xs.toArray ty)) b ty sz (.slice (some ⟨W.heap.size, 0, none⟩) n n) n xs :=
 ⟨hl, .inr ⟨_, n, _, rfl, hb, heap_alloc_new W _, Nat.le_refl _, hm, by simp [hl], by simp [← hl]⟩⟩
theorem zmw {W : World} {b : Nat} {kids : List S60} {cells : List Value} {L : List Nat} {vk : Value} (kd pl : Int) (hk : Row W b 60 8 vk kids.length cells) (hf : Forest W b kids cells L) :
  Tree W b ⟨kd, ⟨#[]⟩, ⟨#[]⟩, [], [], [], kids, pl⟩ [.int .i64 kd, .string ⟨#[]⟩, .string ⟨#[]⟩, .slice none 0 0, .slice none 0 0, .slice none 0 0, vk, .int .i64 pl] (Blk vk ++ L) :=
 Tree.mk (x := ⟨kd, ⟨#[]⟩, ⟨#[]⟩, [], [], [], kids, pl⟩) (Row.nil _ _ _ _) (Row.nil _ _ _ _) (Row.nil _ _ _ _) hk hf
theorem Tree.alloc {W : World} {b : Nat} {x : S60} {cs : List Value} {L : List Nat} (h : Tree W b x cs L) (o : Obj) : Tree (W.alloc o) b x cs L := h.frame fun g hg => Below.heap_alloc W o g (h.lt g hg).2
theorem zog {W : World} {b : Nat} {c : S60} {cs : List Value} {L : List Nat} (h : Tree W b c cs L) (hb : b ≤ W.heap.size) (kd pl : Int) {m : Nat} (hm : W.heap.size = m) :
  Tree (W.alloc (.cells cs.toArray 60)) b ⟨kd, ⟨#[]⟩, ⟨#[]⟩, [], [], [], [c], pl⟩ [.int .i64 kd, .string ⟨#[]⟩, .string ⟨#[]⟩, .slice none 0 0, .slice none 0 0, .slice none 0 0, .slice (some ⟨m, 0, none⟩) 1 1, .int .i64 pl] (m :: L) := by
 subst hm
 have hr := zpf W b 60 8 1 cs hb h.length (by unfold maxLen; omega)
 have hf : Forest (W.alloc (.cells cs.toArray 60)) b [c] (cs ++ []) (L ++ []) := .cons (h.alloc _) .nil
 rw [List.append_nil, List.append_nil] at hf
 exact zmw (kids := [c]) kd pl hr hf
theorem zpz {c : S60} {d : Nat} (h : Dep c d) (hd : d ≤ 1000) (kd pl : Int) : Dep ⟨kd, ⟨#[]⟩, ⟨#[]⟩, [], [], [], [c], pl⟩ (d + 1) := by
 have := zmd (x := ⟨kd, ⟨#[]⟩, ⟨#[]⟩, [], [], [], [c], pl⟩) (d := max 0 d) (by simp) (by omega) (.cons h (.nil _))
 rwa [Nat.zero_max] at this
section
variable (g T c : Nat) (toks : List Tok) (hend : ∀ k, k < toks.length → (tk toks k).kind ≠ 8 → k + 1 < toks.length)
include hend
theorem not_reads (k : Nat) (hN : zgw g T c toks 115 (zbl toks k 2)) (hF1 : zgw g T c toks 144 (zbl toks k 3)) : zgw g T c toks 115 (zbl toks (k + 1) 2) := by
 intro W i res hi hs hres
 have hg := hs.lts.1
 have hT := hs.lts.2.1
 have hf4 := zoz
 have HP := Zq.mk (fun W' (h' : PSt W' g T c toks i) => zca W' g T c toks i _ (zbt toks hi) h')
 have HT := Zq.mk (fun W' (h' : PSt W' g T c toks i) => zch W' g T c toks i _ (zbt toks hi) sNot h')
 have HX0 := Zq.mk (hs.alloc (.cells zce 60))
 have HZ0 := Zq.mk (heap_alloc_new W (.cells zce 60))
 have HF0 := Zq.mk (Fr.refl (W.alloc (.cells zce 60)) (· = g))
 unfold zbl at hres
 clear hs
 by_cases hb : isT (tk toks i) sNot = true
 ·have hi1 := hend i hi (zbk hb)
  simp only [hb, if_true] at HT
  rw [if_pos hb] at hres
  cases hr : zbl toks k 2 (i + 1) with
  | none => rw [hr] at hres; cases hres
  | some r =>
  rw [hr] at hres
  have HO := Zq.mk (fun W' h' => hN W' (i + 1) r hi1 h' hr)
  clear hN hF1 hr
  cases r with
  | bad ke pe =>
   have hres := Option.some.inj hres
   subst hres
   go_enter Tryz.func115, Tryz.ntmps115
   go_wp2_with (first
    | (go_at_call 28; refine (HP.out _ HX0.out).mono ?_; rintro e1 w1 ⟨rfl, hb1⟩; have HX1 := Zq.mk (HX0.out.below hb1); have HF1 := Zq.mk (HF0.out.trans (Fr.of_below hb1)); clear hb1 HP)
    | (go_at_call 78; refine (HT.out _ HX1.out).mono ?_; rintro e2 w2 ⟨rfl, hS, hF⟩; have HX2 := Zq.mk hS; have HF2 := Zq.mk (HF1.out.trans hF); clear hS hF HT)
    | (go_at_call 115; refine (HO.out _ HX2.out).mono ?_; rintro e3 w3 ⟨rfl, hF⟩))
   exact ⟨rfl, rfl, ((Fr.refl W (· = g)).alloc _).trans (HF2.out.trans hF)⟩
  | ok x j =>
   have hres := Option.some.inj hres
   unfold zfm at hres
   by_cases hd16 : x.2 + 1 > 16
   ·rw [if_pos hd16] at hres
    subst hres
    have HD16 := Zq.mk hd16
    clear hd16
    go_enter Tryz.func115, Tryz.ntmps115
    go_wp2_with (first
     | (go_at_call 28; refine (HP.out _ HX0.out).mono ?_; rintro e1 w1 ⟨rfl, hb1⟩; have HX1 := Zq.mk (HX0.out.below hb1); have HF1 := Zq.mk (HF0.out.trans (Fr.of_below hb1)); clear hb1 HP)
     | (go_at_call 78; refine (HT.out _ HX1.out).mono ?_; rintro e2 w2 ⟨rfl, hS, hF⟩; have HX2 := Zq.mk hS; have HF2 := Zq.mk (HF1.out.trans hF); clear hS hF HT)
     | (go_at_call 115; refine (HO.out _ HX2.out).mono ?_; rintro e3 w3 ⟨cs, L, rfl, hTr, hS, hF, hj, hD, hd, hND⟩; obtain ⟨v3, v4, v5, v6, rfl, -, -, -, -, A3, n3, c3, A4, n4, c4, A5, n5, c5, A6, n6, c6, rfl, rfl, rfl, rfl⟩ := zbq hTr; have HF3 := Zq.mk (((HF2.out.trans hF).alloc (.cells #[.int .i64 x.1.f0, .string x.1.f1, .string x.1.f2, (.slice A3 n3 c3), (.slice A4 n4 c4), (.slice A5 n5 c5), (.slice A6 n6 c6), .int .i64 x.1.f7] 60)).alloc (.cells #[.int .i64 x.1.f0, .string x.1.f1, .string x.1.f2, (.slice A3 n3 c3), (.slice A4 n4 c4), (.slice A5 n5 c5), (.slice A6 n6 c6), .int .i64 x.1.f7] 60)); have HDP := Zq.mk (zgh _ (zog (hTr.alloc (.cells #[.int .i64 x.1.f0, .string x.1.f1, .string x.1.f2, (.slice A3 n3 c3), (.slice A4 n4 c4), (.slice A5 n5 c5), (.slice A6 n6 c6), .int .i64 x.1.f7] 60)) (by rw [World.size_alloc]; have := hF.size; omega) 4 (tk toks i).place (World.size_alloc ..)) (zpz hD (by omega) 4 (tk toks i).place)); simp only [if_pos HD16.out] at HDP; clear hS hF HO hTr hD hd hND)
     | (go_at_call 113; refine (HDP.out).mono ?_; rintro e4 w4 ⟨rfl, hb4⟩))
    exact ⟨rfl, rfl, ((Fr.refl W (· = g)).alloc _).trans (HF3.out.trans (Fr.of_below hb4))⟩
   ·rw [if_neg hd16] at hres
    subst hres
    have HD16 := Zq.mk hd16
    clear hd16
    go_enter Tryz.func115, Tryz.ntmps115
    go_wp2_with (first
     | (go_at_call 28; refine (HP.out _ HX0.out).mono ?_; rintro e1 w1 ⟨rfl, hb1⟩; have HX1 := Zq.mk (HX0.out.below hb1); have HF1 := Zq.mk (HF0.out.trans (Fr.of_below hb1)); clear hb1 HP)
     | (go_at_call 78; refine (HT.out _ HX1.out).mono ?_; rintro e2 w2 ⟨rfl, hS, hF⟩; have HX2 := Zq.mk hS; have HF2 := Zq.mk (HF1.out.trans hF); clear hS hF HT)
     | (go_at_call 115; refine (HO.out _ HX2.out).mono ?_; rintro e3 w3 ⟨cs, L, rfl, hTr, hS, hF, hj, hD, hd, hND⟩; obtain ⟨v3, v4, v5, v6, rfl, -, -, -, -, A3, n3, c3, A4, n4, c4, A5, n5, c5, A6, n6, c6, rfl, rfl, rfl, rfl⟩ := zbq hTr; have HX3 := Zq.mk ((hS.alloc (.cells #[.int .i64 x.1.f0, .string x.1.f1, .string x.1.f2, (.slice A3 n3 c3), (.slice A4 n4 c4), (.slice A5 n5 c5), (.slice A6 n6 c6), .int .i64 x.1.f7] 60)).alloc (.cells #[.int .i64 x.1.f0, .string x.1.f1, .string x.1.f2, (.slice A3 n3 c3), (.slice A4 n4 c4), (.slice A5 n5 c5), (.slice A6 n6 c6), .int .i64 x.1.f7] 60)); have HF3 := Zq.mk (((HF2.out.trans hF).alloc (.cells #[.int .i64 x.1.f0, .string x.1.f1, .string x.1.f2, (.slice A3 n3 c3), (.slice A4 n4 c4), (.slice A5 n5 c5), (.slice A6 n6 c6), .int .i64 x.1.f7] 60)).alloc (.cells #[.int .i64 x.1.f0, .string x.1.f1, .string x.1.f2, (.slice A3 n3 c3), (.slice A4 n4 c4), (.slice A5 n5 c5), (.slice A6 n6 c6), .int .i64 x.1.f7] 60)); have HTr := Zq.mk (zog (hTr.alloc (.cells #[.int .i64 x.1.f0, .string x.1.f1, .string x.1.f2, (.slice A3 n3 c3), (.slice A4 n4 c4), (.slice A5 n5 c5), (.slice A6 n6 c6), .int .i64 x.1.f7] 60)) (by rw [World.size_alloc]; have := hF.size; omega) 4 (tk toks i).place (World.size_alloc ..)); have HD := Zq.mk (zpz hD (by omega) 4 (tk toks i).place); have HDP := Zq.mk (zgh _ HTr.out HD.out); simp only [if_neg HD16.out] at HDP; have HND := Zq.mk (List.nodup_cons.2 ⟨fun hm => by have := (hTr.lt _ hm).2; omega, hND⟩ : ((w3.heap.size + 1) :: L).Nodup); have HJ := Zq.mk hj; clear hS hF HO hTr hD hd hND hj)
     | (go_at_call 113; refine (HDP.out).mono ?_; rintro e4 w4 ⟨rfl, hb4⟩; have HX4 := Zq.mk (HX3.out.below hb4); have HF4 := Zq.mk (HF3.out.trans (Fr.of_below hb4)); have HTr4 := Zq.mk (HTr.out.frame fun g' hg' => hb4.block g' (HTr.out.lt g' hg').2); have hN := HF4.out.blk HZ0.out (by show ¬ W.heap.size = g; omega); obtain ⟨y0, y1, y2, y3, y4, y5, y6, y7, z0, z1, z2, z3, z4, z5, z6, z7⟩ := zbz hN; have HN := Zq.mk hN; clear hb4 hN))
    obtain ⟨R1, R2, R3⟩ := zcp hg hT HN.out HX4.out (((Fr.refl W (· = g)).alloc _).trans HF4.out) (.int .i64 4) (.string ⟨#[]⟩) (.string ⟨#[]⟩) (.slice none 0 0) (.slice none 0 0) (.slice none 0 0) (.slice (some ⟨w3.heap.size + 1, 0, none⟩) 1 1) (.int .i64 (tk toks i).place)
    refine bodyPost_ret (results_cell_row rfl _ _ W.heap.size 60 #[.int .i64 4, .string ⟨#[]⟩, .string ⟨#[]⟩, .slice none 0 0, .slice none 0 0, .slice none 0 0, .slice (some ⟨w3.heap.size + 1, 0, none⟩) 1 1, .int .i64 (tk toks i).place] (0, 0) _ rfl R1 Tryz.underlying60 rfl (by kernel_rfl)) rfl ?_
    have hsz2 := HF2.out.size
    rw [World.size_alloc] at hsz2
    exact ⟨_, _, rfl, (HTr4.out.fr (zdf _ _ _ _ _ _ _ _ _ _) fun g' hg' e => by have := (HTr4.out.lt g' hg').1; omega).lower (by omega), R2, R3, HJ.out, HD.out, by show x.2 + 1 ≤ 16; have := HD16.out; omega, HND.out⟩
 ·have hb' : isT (tk toks i) sNot = false := by simpa using hb
  simp only [hb', Bool.false_eq_true, if_false] at HT
  rw [if_neg hb] at hres
  have HO := Zq.mk (fun W' h' => hF1 W' i res hi h' hres)
  clear hN hF1 hres
  cases res with
  | bad ke pe =>
   go_enter Tryz.func115, Tryz.ntmps115
   go_wp2_with (first
    | (go_at_call 28; refine (HP.out _ HX0.out).mono ?_; rintro e1 w1 ⟨rfl, hb1⟩; have HX1 := Zq.mk (HX0.out.below hb1); have HF1 := Zq.mk (HF0.out.trans (Fr.of_below hb1)); clear hb1 HP)
    | (go_at_call 78; refine (HT.out _ HX1.out).mono ?_; rintro e2 w2 ⟨rfl, hS, hF⟩; have HX2 := Zq.mk hS; have HF2 := Zq.mk (HF1.out.trans hF); clear hS hF HT)
    | (go_at_call 144; refine (HO.out _ HX2.out).mono ?_; rintro e3 w3 ⟨rfl, hF⟩))
   exact ⟨rfl, rfl, ((Fr.refl W (· = g)).alloc _).trans (HF2.out.trans hF)⟩
  | ok x j =>
   go_enter Tryz.func115, Tryz.ntmps115
   go_wp2_with (first
    | (go_at_call 28; refine (HP.out _ HX0.out).mono ?_; rintro e1 w1 ⟨rfl, hb1⟩; have HX1 := Zq.mk (HX0.out.below hb1); have HF1 := Zq.mk (HF0.out.trans (Fr.of_below hb1)); clear hb1 HP)
    | (go_at_call 78; refine (HT.out _ HX1.out).mono ?_; rintro e2 w2 ⟨rfl, hS, hF⟩; have HX2 := Zq.mk hS; have HF2 := Zq.mk (HF1.out.trans hF); clear hS hF HT)
    | (go_at_call 144; refine (HO.out _ HX2.out).mono ?_; rintro e3 w3 ⟨cs, L, rfl, hTr, hS, hF, hj, hD, hd, hND⟩; obtain ⟨v3, v4, v5, v6, rfl, -, -, -, -, A3, n3, c3, A4, n4, c4, A5, n5, c5, A6, n6, c6, rfl, rfl, rfl, rfl⟩ := zbq hTr; have HX3 := Zq.mk hS; have HF3 := Zq.mk (HF2.out.trans hF); have hN := HF3.out.blk HZ0.out (by show ¬ W.heap.size = g; omega); obtain ⟨y0, y1, y2, y3, y4, y5, y6, y7, z0, z1, z2, z3, z4, z5, z6, z7⟩ := zbz hN; have HN := Zq.mk hN; have HTr := Zq.mk hTr; have HD := Zq.mk hD; have HND := Zq.mk hND; have HSZ := Zq.mk (show W.heap.size + 1 ≤ w2.heap.size from by have h1 := HF2.out.size; rw [World.size_alloc] at h1; omega); clear hS hF HO hTr hD hN hND))
   obtain ⟨R1, R2, R3⟩ := zcp hg hT HN.out HX3.out (((Fr.refl W (· = g)).alloc _).trans HF3.out) (.int .i64 x.1.f0) (.string x.1.f1) (.string x.1.f2) (.slice A3 n3 c3) (.slice A4 n4 c4) (.slice A5 n5 c5) (.slice A6 n6 c6) (.int .i64 x.1.f7)
   refine bodyPost_ret (results_cell_row rfl _ _ W.heap.size 60 #[.int .i64 x.1.f0, .string x.1.f1, .string x.1.f2, .slice A3 n3 c3, .slice A4 n4 c4, .slice A5 n5 c5, .slice A6 n6 c6, .int .i64 x.1.f7] (0, 0) _ rfl R1 Tryz.underlying60 rfl (by kernel_rfl)) rfl ?_
   have hsz2 := HF2.out.size
   exact ⟨_, _, rfl, (HTr.out.fr (zdf _ _ _ _ _ _ _ _ _ _) fun g' hg' e => by have := (HTr.out.lt g' hg').1; have := HSZ.out; omega).lower (by have := HSZ.out; omega), R2, R3, hj, HD.out, hd, HND.out⟩
end
end
section
structure RowInv (W : World) (g T c : Nat) (toks : List Tok) (i : Nat) (l : List S60) (d : Nat) (v : Value) (W' : World) : Prop where
 st : PSt W' g T c toks i
 fr : Fr W W' (· = g)
 res : W'.heap[W.heap.size]? = some (.cells zce 60 (0, 0))
 row : ∃ cells L, Row W' (W.heap.size + 1) 60 8 v l.length cells ∧ Forest W' (W.heap.size + 1) l cells L ∧ (∀ b, v.ownBlock = some b → b ∉ L) ∧ L.Nodup
 deps : DepsFrom 0 l d
 small : d ≤ 16
 pos : 0 < l.length
 many : l.length ≤ 32
 here : i < toks.length
theorem DepsFrom.one {c : S60} {d : Nat} (h : DepsFrom 0 [c] d) : Dep c d := by
 cases h with
 | @cons _ _ e _ _ h hr =>
  cases hr
  rwa [Nat.zero_max]
section
variable {W W1 W2 : World} {g T c i j d : Nat} {toks : List Tok} {l : List S60} {v : Value}
theorem Forest.fr {b : Nat} {cs : List Value} {L : List Nat} {S : Nat → Prop} (h : Forest W1 b l cs L) (hF : Fr W1 W2 S) (hn : ∀ g ∈ L, ¬ S g) : Forest W2 b l cs L :=
 h.frame fun g hg => hF.block g (h.lt g hg).2 (hn g hg)
theorem RowInv.move (h : RowInv W g T c toks i l d v W1) (hg : g < W.heap.size) (hS : PSt W2 g T c toks j) (hF : Fr W1 W2 (· = g)) (hj : j < toks.length) : RowInv W g T c toks j l d v W2 := by
 obtain ⟨cells, L, h1, h2, h3, h4⟩ := h.row
 exact ⟨hS, h.fr.trans hF, hF.blk h.res (by omega), ⟨cells, L, h1.fr hF (fun g' hg' e => by have := (h1.blk hg').1; omega), h2.fr hF (fun g' hg' e => by have := (h2.lt g' hg').1; omega), h3, h4⟩, h.deps, h.small, h.pos, h.many, hj⟩
theorem RowInv.start {x : S60} {cs : List Value} {L : List Nat} (hg : g < W.heap.size) (hTr : Tree W1 (W.heap.size + 1) x cs L) (hS : PSt W1 g T c toks j) (hF : Fr W W1 (· = g)) (hs : W.heap.size + 1 ≤ W1.heap.size) (hz : W1.heap[W.heap.size]? = some (.cells zce 60 (0, 0))) (hD : Dep x d) (hd : d ≤ 16) (hND : L.Nodup) (hj : j < toks.length) :
  RowInv W g T c toks j [x] d (.slice (some ⟨W1.heap.size, 0, none⟩) 1 1) (W1.alloc (.cells cs.toArray 60)) := by
 have hf : Forest (W1.alloc (.cells cs.toArray 60)) (W.heap.size + 1) [x] (cs ++ []) (L ++ []) := .cons (hTr.alloc _) .nil
 rw [List.append_nil, List.append_nil] at hf
 refine ⟨hS.alloc _, hF.alloc _, zad hz _, ⟨cs, L, zpf W1 _ _ 8 1 cs hs hTr.length (by unfold maxLen; omega), hf, fun b hb hm => ?_, hND⟩, ?_, hd, by simp, by simp, hj⟩
 ·have h1 := (hTr.lt b hm).2
  have : W1.heap.size = b := by simpa [Value.ownBlock] using hb
  omega
 ·have := DepsFrom.cons hD (.nil (max 0 d))
  rwa [Nat.zero_max] at this
theorem RowInv.snoc {e : Nat} {x : S60} {cs cells : List Value} {L M : List Nat} {v1 : Value} {w1 : World} (h : RowInv W g T c toks j l d v W2) (hg : g < W.heap.size) (hT : T < W.heap.size) (hl : l.length < 32)
  (hrow : Row W2 (W.heap.size + 1) 60 8 v l.length cells) (hfor : Forest W2 (W.heap.size + 1) l cells L) (hap : ∀ b, v.ownBlock = some b → b ∉ L) (hnd : L.Nodup) {b0 : Nat} (hb0 : W.heap.size + 1 ≤ b0) (hL0 : ∀ g ∈ L, g < b0) (hv0 : ∀ b, v.ownBlock = some b → b < b0)
  (hTr : Tree W2 b0 x cs M) (hD : Dep x e) (he : e ≤ 16) (hND : M.Nodup)
  (hr1 : Row w1 (W.heap.size + 1) 60 8 v1 (l.length + 1) (cells ++ cs)) (hg1 : W2.grownBy w1 v.ownBlock) (ho : v1.ownBlock = v.ownBlock ∨ v1.ownBlock = some (W2.heap.size + 1)) (hne : v1.ownBlock ≠ none) :
  RowInv W g T c toks j (l ++ [x]) (max d e) v1 w1 := by
 have hvW : ∀ b, v.ownBlock = some b → W.heap.size + 1 ≤ b := fun b hb => (hrow.blk hb).1
 have far : ∀ k, k < W2.heap.size → v.ownBlock ≠ some k → w1.heap[k]? = W2.heap[k]? := fun k hk hn => hg1.block k hk (fun e => hn e.symm)
 have hgl := h.st.lts.1
 have hTl := h.st.lts.2.1
 refine ⟨h.st.blk (far g hgl fun e => by have := hvW g e; omega) (far T hTl fun e => by have := hvW T e; omega), h.fr.then_ (Fr.of_grown (S := fun k => some k = v.ownBlock) hg1 (fun k hk => hk.symm)) (fun k hk => .inr (by have := hvW k hk.symm; omega)), (far _ (zat h.res) fun e => by have := hvW _ e; omega).trans h.res, ⟨cells ++ cs, L ++ M, ?_, ?_, ?_, ?_⟩, h.deps.snoc hD, by have := h.small; omega, by simp, by simp; omega, h.here⟩
 ·rw [List.length_append]; exact hr1
 ·refine Forest.snoc (hfor.frame fun k hk => far k (hfor.lt k hk).2 fun e => hap k e hk) (Tree.lower hb0 (hTr.frame fun k hk => far k (hTr.lt k hk).2 fun e => ?_))
  have := hv0 k e
  have := (hTr.lt k hk).1
  omega
 ·intro b hb hm
  rcases List.mem_append.1 hm with hm | hm
  ·rcases ho with ho | ho
   ·exact hap b (ho ▸ hb) hm
   ·have h1 := (hfor.lt b hm).2
    rw [hb] at ho
    have := Option.some.inj ho
    omega
  ·rcases ho with ho | ho
   ·have := hv0 b (ho ▸ hb)
    have := (hTr.lt b hm).1
    omega
   ·have h1 := (hTr.lt b hm).2
    rw [hb] at ho
    have := Option.some.inj ho
    omega
 ·rw [List.nodup_append]
  refine ⟨hnd, hND, fun a ha b hb e => ?_⟩
  have := hL0 a ha
  have := (hTr.lt b hb).1
  omega
theorem RowInv.single {x : S60} (h : RowInv W g T c toks i [x] d v W1) : ∃ b cap cs L, v = .slice (some ⟨b, 0, none⟩) 1 cap ∧ Zq (Tree W1 (W.heap.size + 1) x cs L ∧ L.Nodup ∧ Dep x d) ∧
  ∃ A3 n3 c3 A4 n4 c4 A5 n5 c5 A6 n6 c6, cs = [.int .i64 x.f0, .string x.f1, .string x.f2, .slice A3 n3 c3, .slice A4 n4 c4, .slice A5 n5 c5, .slice A6 n6 c6, .int .i64 x.f7] ∧ b ≠ W.heap.size ∧
  W1.cell? ⟨b, 0, none⟩ = some (.int .i64 x.f0) ∧ W1.cell? ⟨b, 1, none⟩ = some (.string x.f1) ∧ W1.cell? ⟨b, 2, none⟩ = some (.string x.f2) ∧ W1.cell? ⟨b, 3, none⟩ = some (.slice A3 n3 c3) ∧ W1.cell? ⟨b, 4, none⟩ = some (.slice A4 n4 c4) ∧ W1.cell? ⟨b, 5, none⟩ = some (.slice A5 n5 c5) ∧ W1.cell? ⟨b, 6, none⟩ = some (.slice A6 n6 c6) ∧ W1.cell? ⟨b, 7, none⟩ = some (.int .i64 x.f7) := by
 obtain ⟨cells, L, h1, h2, h3, h4⟩ := h.row
 cases h2 with
 | @cons _ _ cs rs M N ht hr =>
  cases hr
  obtain ⟨A, cap, rfl, hcap, hpos⟩ := h1.form
  obtain ⟨b, cur, rfl, ho, hb, hh, _, _, _⟩ := hpos (by simp)
  obtain ⟨v3, v4, v5, v6, rfl, -, -, -, -, A3, n3, c3, A4, n4, c4, A5, n5, c5, A6, n6, c6, rfl, rfl, rfl, rfl⟩ := zbq ht
  have hc := h1.cell ho
  exact ⟨b, cap, _, M, rfl, ⟨ht, by simpa using h4, h.deps.one⟩, A3, n3, c3, A4, n4, c4, A5, n5, c5, A6, n6, c6, rfl, by omega, hc 0 _ rfl, hc 1 _ rfl, hc 2 _ rfl, hc 3 _ rfl, hc 4 _ rfl, hc 5 _ rfl, hc 6 _ rfl, hc 7 _ rfl⟩
theorem RowInv.several (kind : Int) (h : RowInv W g T c toks i l d v W1) : ∃ b cap L, v = .slice (some ⟨b, 0, none⟩) l.length cap ∧ l.length ≤ cap ∧
  Zq (Tree W1 (W.heap.size + 1) ⟨kind, ⟨#[]⟩, ⟨#[]⟩, [], [], [], l, (l.head?.map (·.f7)).getD 0⟩ [.int .i64 kind, .string ⟨#[]⟩, .string ⟨#[]⟩, .slice none 0 0, .slice none 0 0, .slice none 0 0, .slice (some ⟨b, 0, none⟩) l.length l.length, .int .i64 ((l.head?.map (·.f7)).getD 0)] L ∧ L.Nodup ∧ Dep ⟨kind, ⟨#[]⟩, ⟨#[]⟩, [], [], [], l, (l.head?.map (·.f7)).getD 0⟩ (d + 1)) ∧
  W1.cell? ⟨b, 7, none⟩ = some (.int .i64 ((l.head?.map (·.f7)).getD 0)) := by
 obtain ⟨cells, L, h1, h2, h3, h4⟩ := h.row
 obtain ⟨A, cap, rfl, hcap, hpos⟩ := h1.form
 obtain ⟨b, cur, rfl, ho, hb, hh, _, _, _⟩ := hpos h.pos
 have hl := h.pos
 have hm := h.many
 refine ⟨b, cap, b :: L, rfl, hcap, ⟨zmw kind _ h1.clip h2, List.nodup_cons.2 ⟨h3 b rfl, h4⟩, zmd (by show l.length ≤ _; omega) (by have := h.small; omega) h.deps⟩, ?_⟩
 cases l with
 | nil => simp at hl
 | cons x r =>
  cases h2 with
  | @cons _ _ cs rs M N ht hr =>
   obtain ⟨v3, v4, v5, v6, rfl, -⟩ := zbq ht
   exact h1.cell ho 7 _ rfl
end
section
variable (g T c : Nat) (toks : List Tok) (hend : ∀ k, k < toks.length → (tk toks k).kind ≠ 8 → k + 1 < toks.length)
include hend
theorem zms (fn : Nat) (kind : Int) (word : ByteArray) (part : Nat → Option (PR CD)) (hcf : ∀ w, (callFunc fn #[.pointer (some ⟨g, 0, none⟩)]).run Tryz.prog w = .ok (.enter fn #[.pointer (some ⟨g, 0, none⟩)]) w)
  (hpart : zgw g T c toks fn part) (W : World) (K i : Nat) (res : PR CD) (hi : i < toks.length) (hs : PSt W g T c toks i) (hres : rowP toks part kind word K i = some res) :
  Calls Tryz.prog 79 #[.pointer (some ⟨g, 0, none⟩), .int .i64 kind, .string word, .func (.func fn) #[.pointer (some ⟨g, 0, none⟩)] #[]] W (zhn W g T c toks res) := by
 have hg := hs.lts.1
 have hT := hs.lts.2.1
 have HPt := Zq.mk hpart
 have HT := Zq.mk (fun W' j hj (h' : PSt W' g T c toks j) => zch W' g T c toks j _ (zbt toks hj) word h')
 have HBg := Zq.mk (fun W' j hj (h' : PSt W' g T c toks j) => begins_calls W' g T c toks j _ (zbt toks hj) h')
 have HFl := Zq.mk (fun W' j e hj (h' : PSt W' g T c toks j) => zdt W' g T c toks j _ (zbt toks hj) e h')
 have HN := Zq.mk hend
 have HX0 := Zq.mk (hs.alloc (.cells zce 60))
 have HZ0 := Zq.mk (heap_alloc_new W (.cells zce 60))
 have HF0 := Zq.mk ((Fr.refl W (· = g)).alloc (.cells zce 60))
 unfold rowP at hres
 clear hs hpart hend
 cases hr : part i with
 | none => rw [hr] at hres; cases hres
 | some r =>
 rw [hr] at hres
 have HO := Zq.mk (fun W' h' => HPt.out W' i r hi h' hr)
 clear hr
 cases r with
 | bad ke pe =>
  have hres := Option.some.inj hres
  subst hres
  go_enter Tryz.func79, Tryz.ntmps79
  go_wp2_with ((with_reducible refine zcg fn ?_); refine (HO.out _ HX0.out).mono ?_; rintro e1 w1 ⟨rfl, hF⟩)
  exact ⟨rfl, rfl, HF0.out.trans hF⟩
 | ok x j =>
  have HR := Zq.mk hres
  clear hres
  go_enter Tryz.func79, Tryz.ntmps79
  go_wp2_with ((with_reducible refine zcg fn ?_); refine (HO.out _ HX0.out).mono ?_; rintro e1 w1 ⟨cs, L, rfl, hTr, hS, hF, hj, hD, hd, hND⟩; have hsz := hF.size; rw [World.size_alloc] at hTr hsz; obtain ⟨v3, v4, v5, v6, rfl, -, -, -, -, A3, n3, c3, A4, n4, c4, A5, n5, c5, A6, n6, c6, rfl, rfl, rfl, rfl⟩ := zbq hTr; have HI := Zq.mk (RowInv.start hg hTr hS (HF0.out.trans hF) hsz (hF.blk HZ0.out (by show ¬ W.heap.size = g; omega)) hD hd hND hj); clear hTr hS hF hj hD hd hND hsz HO)
  go_loopg [9] K (fun k v wr => ∃ i' : Nat, ∃ l : List S60, ∃ d : Nat, Zq (RowInv W g T c toks i' l d v wr) ∧ Zq (rowL toks part kind word k i' l d = some res))
  case atStart => exact ⟨j, [x.1], x.2, HI, HR⟩
  case round =>
   clear HR HI HX0 HZ0 HF0 hi
   obtain ⟨i', l, d, HX, HR⟩ := hrel
   have hr := HR.out
   cases gk with
   | zero => exact absurd hr (by simp [rowL])
   | succ k =>
   unfold rowL at hr
   clear HR
   obtain ⟨cells, L', hrow, hfor, hap, hnd⟩ := HX.out.row
   obtain ⟨A, cap, rfl, hcap, -⟩ := hrow.form
   clear hrow hfor hap hnd
   have hi' := HX.out.here
   have hpos := HX.out.pos
   have hmany := HX.out.many
   have HT1 := Zq.mk (fun W' h' => HT.out W' i' hi' h')
   by_cases hw : isT (tk toks i') word = true
   ·have hi1 := HN.out i' hi' (zbk hw)
    rw [if_pos hw] at hr
    simp only [hw, if_true] at HT1
    by_cases h32 : l.length = 32
    ·rw [if_pos h32] at hr
     have hr := Option.some.inj hr
     subst hr
     have hA' : (l.length : Int) = 32 := by omega
     have HB1 := Zq.mk (fun W' h' => HBg.out W' (i' + 1) hi1 h')
     have HFl1 := Zq.mk (fun W' e h' => HFl.out W' (i' + 1) e hi1 h')
     cases hbg : zeb (tk toks (i' + 1)) with
     | true =>
      rw [hbg] at HB1
      go_wp2_with (first
       | (go_at_call 78; refine (HT1.out _ HX.out.st).mono ?_; rintro e1 w1 ⟨rfl, hS, hF⟩; have HX1 := Zq.mk (HX.out.move hg hS hF hi1); clear hS hF HT1)
       | (go_at_call 112; refine (HB1.out _ HX1.out.st).mono ?_; rintro e2 w2 ⟨rfl, hb⟩; have HX2 := Zq.mk (HX1.out.move hg (HX1.out.st.below hb) (Fr.of_below hb) hi1); clear hb HB1)
       | (go_at_call 51; refine (HFl1.out _ 92 HX2.out.st).mono ?_; rintro e3 w3 ⟨rfl, hb⟩))
      exact ⟨rfl, rfl, HX2.out.fr.trans (Fr.of_below hb)⟩
     | false =>
      rw [hbg] at HB1
      go_wp2_with (first
       | (go_at_call 78; refine (HT1.out _ HX.out.st).mono ?_; rintro e1 w1 ⟨rfl, hS, hF⟩; have HX1 := Zq.mk (HX.out.move hg hS hF hi1); clear hS hF HT1)
       | (go_at_call 112; refine (HB1.out _ HX1.out.st).mono ?_; rintro e2 w2 ⟨rfl, hb⟩; have HX2 := Zq.mk (HX1.out.move hg (HX1.out.st.below hb) (Fr.of_below hb) hi1); clear hb HB1)
       | (go_at_call 51; refine (HFl1.out _ 90 HX2.out.st).mono ?_; rintro e3 w3 ⟨rfl, hb⟩))
      exact ⟨rfl, rfl, HX2.out.fr.trans (Fr.of_below hb)⟩
    ·rw [if_neg h32] at hr
     have hA' : ¬ (l.length : Int) = 32 := by omega
     cases hp : part (i' + 1) with
     | none => rw [hp] at hr; cases hr
     | some r =>
     rw [hp] at hr
     have HO := Zq.mk (fun W' h' => HPt.out W' (i' + 1) r hi1 h' hp)
     clear hp
     cases r with
     | bad ke pe =>
      have hr := Option.some.inj hr
      subst hr
      go_wp2_with (first
       | (go_at_call 78; refine (HT1.out _ HX.out.st).mono ?_; rintro e1 w1 ⟨rfl, hS, hF⟩; have HX1 := Zq.mk (HX.out.move hg hS hF hi1); clear hS hF HT1)
       | ((with_reducible refine zcg fn ?_); refine (HO.out _ HX1.out.st).mono ?_; rintro e2 w2 ⟨rfl, hF⟩))
      exact ⟨rfl, rfl, HX1.out.fr.trans hF⟩
     | ok y m =>
      have HR := Zq.mk hr
      clear hr
      go_wp2_with (first
       | (go_at_call 78; refine (HT1.out _ HX.out.st).mono ?_; rintro e1 w1 ⟨rfl, hS, hF⟩; have HX1 := Zq.mk (HX.out.move hg hS hF hi1); clear hS hF HT1)
       | ((with_reducible refine zcg fn ?_); refine (HO.out _ HX1.out.st).mono ?_; rintro e2 w2 ⟨cs, M, rfl, hTr, hS, hF, hj, hD, hd, hND⟩; obtain ⟨v3, v4, v5, v6, rfl, -, -, -, -, A3, n3, c3, A4, n4, c4, A5, n5, c5, A6, n6, c6, rfl, rfl, rfl, rfl⟩ := zbq hTr; have HX2 := Zq.mk (HX1.out.move hg hS hF hj); obtain ⟨cells, L', hrow1, hfor1, hap, hnd⟩ := HX1.out.row; have HROW := Zq.mk (hrow1.fr hF fun g' hg' e => by have := (hrow1.blk hg').1; omega); have HFOR := Zq.mk (hfor1.fr hF fun g' hg' e => by have := (hfor1.lt g' hg').1; omega); have HAP := Zq.mk (And.intro hap (And.intro hnd (And.intro (fun b hb => (hfor1.lt b hb).2 : ∀ b ∈ L', b < w1.heap.size) (fun b hb => (hrow1.blk hb).2.1 : ∀ b, (Value.slice A l.length cap).ownBlock = some b → b < w1.heap.size)))); have HTr := Zq.mk (And.intro hTr (And.intro hD (And.intro hd hND))); have HSZ := Zq.mk (show W.heap.size + 1 ≤ w1.heap.size from zat HX1.out.res); have HSZ2 := Zq.mk hF.size; clear hTr hS hF hj hD hd hND hrow1 hfor1 hap hnd HO)
       | ((with_reducible refine zbd (b := .append) (xs := #[.tmp 26, .tmp 29]) rfl ?_); at_builtin; (refine zcj (w0 := W) (W.heap.size + 1) rfl (.tmp 26) (.tmp 29) 58 60 (.agg #[.int .i64 0, .string ⟨#[]⟩, .string ⟨#[]⟩, .slice none 0 0, .slice none 0 0, .slice none 0 0, .slice none 0 0, .int .i64 0]) 8 144 rfl rfl rfl rfl (by decide) (.slice A l.length cap) l.length cells [.int .i64 y.1.f0, .string y.1.f1, .string y.1.f2, .slice A3 n3 c3, .slice A4 n4 c4, .slice A5 n5 c5, .slice A6 n6 c6, .int .i64 y.1.f7] rfl rfl rfl ?aU HROW.out ?aB ?aM ?aL ?_; (case aU => intro u hu; simp at hu; rcases hu with rfl | rfl | rfl | rfl | rfl | rfl | rfl | rfl <;> rfl); (case aB => have := HSZ.out; have := HSZ2.out; omega); (case aM => simp only [maxLen]; omega); (case aL => omega); intro v1 w3 hr1 hg1 ho1 hne1 _; have HX3 := Zq.mk (RowInv.snoc HX2.out hg hT (by omega) HROW.out HFOR.out HAP.out.1 HAP.out.2.1 HSZ.out HAP.out.2.2.1 HAP.out.2.2.2 HTr.out.1 HTr.out.2.1 HTr.out.2.2.1 HTr.out.2.2.2 hr1 hg1 ho1 hne1); clear hr1 hg1 ho1 hne1)))
      go_roundg k
      case measure => omega
      case rel => exact ⟨m, l ++ [y.1], max d y.2, HX3, HR⟩
   ·rw [if_neg hw] at hr
    have hw' : isT (tk toks i') word = false := by simpa using hw
    simp only [hw', Bool.false_eq_true, if_false] at HT1
    by_cases h1 : l.length = 1
    ·obtain ⟨a, rfl⟩ : ∃ a, l = [a] := by
      cases l with
      | nil => simp at h1
      | cons a r => cases r with
       | nil => exact ⟨a, rfl⟩
       | cons b r => simp at h1
     have hr := Option.some.inj hr
     subst hr
     go_wp2_with (go_at_call 78; refine (HT1.out _ HX.out.st).mono ?_; rintro e1 w1 ⟨rfl, hS, hF⟩; have HX1 := Zq.mk (HX.out.move hg hS hF hi'); obtain ⟨b, cap1, cs, L1, hv, HT2, A3, n3, c3, A4, n4, c4, A5, n5, c5, A6, n6, c6, rfl, hbW, q0, q1, q2, q3, q4, q5, q6, q7⟩ := HX1.out.single; injection hv with hv1 hv2 hv3; subst hv1; subst hv3; clear hv2; obtain ⟨y0, y1, y2, y3, y4, y5, y6, y7, z0, z1, z2, z3, z4, z5, z6, z7⟩ := zbz HX1.out.res; clear hS hF HT1)
     obtain ⟨R1, R2, R3⟩ := zcp hg hT HX1.out.res HX1.out.st HX1.out.fr (.int .i64 a.f0) (.string a.f1) (.string a.f2) (.slice A3 n3 c3) (.slice A4 n4 c4) (.slice A5 n5 c5) (.slice A6 n6 c6) (.int .i64 a.f7)
     refine bodyPost_ret (results_cell_row rfl _ _ W.heap.size 60 #[.int .i64 a.f0, .string a.f1, .string a.f2, .slice A3 n3 c3, .slice A4 n4 c4, .slice A5 n5 c5, .slice A6 n6 c6, .int .i64 a.f7] (0, 0) _ rfl R1 Tryz.underlying60 rfl (by kernel_rfl)) rfl ?_
     exact ⟨_, _, rfl, (HT2.out.1.fr (zdf _ _ _ _ _ _ _ _ _ _) fun g' hg' e => by have := (HT2.out.1.lt g' hg').1; omega).lower (by omega), R2, R3, hi', HT2.out.2.2, HX1.out.small, HT2.out.2.1⟩
    ·have hr : zfm ⟨kind, ⟨#[]⟩, ⟨#[]⟩, [], [], [], l, (l.head?.map (·.f7)).getD 0⟩ d i' = res := by
      revert hr
      cases l with
      | nil => intro hr; exact Option.some.inj hr
      | cons a r => cases r with
       | nil => exact absurd rfl h1
       | cons b r => intro hr; exact Option.some.inj hr
     have hA' : ¬ (l.length : Int) = 1 := by omega
     have hbig : l.length ≤ 140737488355328 := by omega
     unfold zfm at hr
     by_cases hd16 : d + 1 > 16
     ·rw [if_pos hd16] at hr
      subst hr
      have HD16 := Zq.mk hd16
      clear hd16 h1
      go_wp2_with (go_at_call 78; refine (HT1.out _ HX.out.st).mono ?_; rintro e1 w1 ⟨rfl, hS, hF⟩; have HX1 := Zq.mk (HX.out.move hg hS hF hi'); obtain ⟨b, cap1, L1, hv, hcap1, HT2, q7⟩ := HX1.out.several kind; injection hv with hv1 hv2 hv3; subst hv1; subst hv3; clear hv2; have HDP := Zq.mk (fun (W' : World) (h : W'.heap = w1.heap) => zgh W' (HT2.out.1.frame fun g _ => by rw [h]) HT2.out.2.2); simp only [if_pos HD16.out] at HDP; clear hS hF HT1)
      go_region_law (first
       | (go_simp; go_at_call 114; refine (znd _ _ _ _ hcap1 hbig).mono ?_; rintro e2 w2 ⟨rfl, hw⟩; subst w2)
       | (go_simp; go_at_call 113; refine (HDP.out _ (by rfl)).mono ?_; rintro e4 w4 ⟨rfl, hb4⟩; refine dead (P := Tryz.prog) (w := w4) ?hh ?_; (case hh => exact And.intro rfl (And.intro rfl (HX1.out.fr.trans (by first | exact (Fr.of_below hb4).undrew | exact Fr.of_below hb4))))))
      all_goals trivial
     ·rw [if_neg hd16] at hr
      subst hr
      have HD16 := Zq.mk hd16
      clear hd16 h1
      go_wp2_with (go_at_call 78; refine (HT1.out _ HX.out.st).mono ?_; rintro e1 w1 ⟨rfl, hS, hF⟩; have HX1 := Zq.mk (HX.out.move hg hS hF hi'); obtain ⟨b, cap1, L1, hv, hcap1, HT2, q7⟩ := HX1.out.several kind; injection hv with hv1 hv2 hv3; subst hv1; subst hv3; clear hv2; have HDP := Zq.mk (fun (W' : World) (h : W'.heap = w1.heap) => zgh W' (HT2.out.1.frame fun g _ => by rw [h]) HT2.out.2.2); simp only [if_neg HD16.out] at HDP; clear hS hF HT1)
      go_region_law (first
       | (go_simp; go_at_call 114; refine (znd _ _ _ _ hcap1 hbig).mono ?_; rintro e2 w2 ⟨rfl, hw⟩; subst w2)
       | (go_simp; go_at_call 113; refine (HDP.out _ (by rfl)).mono ?_; rintro e4 w4 ⟨rfl, hb4⟩; have hF4 : Fr w1 w4 (· = g) := (by first | exact (Fr.of_below hb4).undrew | exact Fr.of_below hb4); have HX4 := Zq.mk (HX1.out.move hg (by first | exact HX1.out.st.drew.below hb4 | exact HX1.out.st.below hb4) hF4 hi'); have HT4 := Zq.mk (HT2.out.1.frame fun g' hg' => hb4.block g' (HT2.out.1.lt g' hg').2); obtain ⟨y0, y1, y2, y3, y4, y5, y6, y7, z0, z1, z2, z3, z4, z5, z6, z7⟩ := zbz HX4.out.res; clear hF4 hb4))
      all_goals (try go_wp2)
      all_goals
       obtain ⟨R1, R2, R3⟩ := zcp hg hT HX4.out.res HX4.out.st HX4.out.fr (.int .i64 kind) (.string ⟨#[]⟩) (.string ⟨#[]⟩) (.slice none 0 0) (.slice none 0 0) (.slice none 0 0) (.slice (some ⟨b, 0, none⟩) l.length l.length) (.int .i64 ((l.head?.map (·.f7)).getD 0))
       refine bodyPost_ret (results_cell_row rfl _ _ W.heap.size 60 #[.int .i64 kind, .string ⟨#[]⟩, .string ⟨#[]⟩, .slice none 0 0, .slice none 0 0, .slice none 0 0, .slice (some ⟨b, 0, none⟩) l.length l.length, .int .i64 ((l.head?.map (·.f7)).getD 0)] (0, 0) _ rfl R1 Tryz.underlying60 rfl (by kernel_rfl)) rfl ?_
       exact ⟨_, _, rfl, ((HT4.out.fr (zdf _ _ _ _ _ _ _ _ _ _) fun g' hg' e => by have := (HT4.out.lt g' hg').1; omega).lower (by omega)), R2, R3, hi', HT2.out.2.2, by show d + 1 ≤ 16; have := HD16.out; omega, HT2.out.2.1⟩
end
end
end Go.Proofs.YtjeekocidaogoaaGreatDoor.H
namespace Go.Proofs.YtjeekocidaogoaaGreatDoor.Hand
open Go.RowKit Go.Proofs.YtjeekocidaogoaaGreatDoorW.PrintWords Go.Proofs.YtjeekocidaogoaaGreatDoorW.PrintLast Go.Proofs.YtjeekocidaogoaaGreatDoorW.PrintMore
section
def MapS (W : World) (b : Nat) (l : List (ByteArray × Value)) : Prop :=
 ∃ es clock, W.heap[b]? = some (.map es clock) ∧ es.toList.map (fun e => (e.key, e.val)) = l.map (fun p => (Value.string p.1, p.2))
theorem zfu (W : World) : MapS (W.alloc (.map #[] 0)) W.heap.size [] := ⟨#[], 0, heap_alloc_new W _, rfl⟩
theorem zhx (s : ByteArray) : ∀ (es : List MapEntry) (l : List (ByteArray × Value)) (i : Nat), es.map (fun e => (e.key, e.val)) = l.map (fun p => (Value.string p.1, p.2)) → (∀ p ∈ l, p.1 ≠ s) →
  Instr.findNow .string (.string s) es i = some none
 | [], _, _, _, _ => rfl
 | e :: es, [], _, h, _ => by simp at h
 | e :: es, p :: l, i, h, hn => by
  simp only [List.map_cons, List.cons.injEq, Prod.mk.injEq] at h
  have hne : (s == p.1) = false := by
   cases hb : (s == p.1) with
   | false => rfl
   | true => exact absurd ((MapKept.bytes_beq _ _).1 hb).symm (hn p (List.mem_cons_self ..))
  simp only [Instr.findNow, h.1.1, Instr.sameNow, hne]
  exact zhx s es l (i + 1) h.2 (fun q hq => hn q (List.mem_cons_of_mem _ hq))
theorem zlc (s : ByteArray) (v : Value) : ∀ (es : List MapEntry) (a b : List (ByteArray × Value)) (i : Nat), es.map (fun e => (e.key, e.val)) = (a ++ (s, v) :: b).map (fun p => (Value.string p.1, p.2)) → (∀ p ∈ a, p.1 ≠ s) →
  ∃ j, Instr.findNow .string (.string s) es i = some (some (j, v))
 | [], a, b, _, h, _ => by simp at h
 | e :: es, [], b, i, h, hn => by
  simp only [List.nil_append, List.map_cons, List.cons.injEq, Prod.mk.injEq] at h
  have hne : (s == s) = true := (MapKept.bytes_beq _ _).2 rfl
  refine ⟨i, ?_⟩
  simp only [Instr.findNow, h.1.1, Instr.sameNow, hne, h.1.2]
 | e :: es, p :: a, b, i, h, hn => by
  simp only [List.cons_append, List.map_cons, List.cons.injEq, Prod.mk.injEq] at h
  have hne : (s == p.1) = false := by
   cases hb : (s == p.1) with
   | false => rfl
   | true => exact absurd ((MapKept.bytes_beq _ _).1 hb).symm (hn p (List.mem_cons_self ..))
  simp only [Instr.findNow, h.1.1, Instr.sameNow, hne]
  exact zlc s v es a b (i + 1) h.2 (fun q hq => hn q (List.mem_cons_of_mem _ hq))
section
variable {P : Program} {W w1 : World} {t k e : TypeId} {b : Nat} {l : List (ByteArray × Value)}
theorem MapS.lt (h : MapS W b l) : b < W.heap.size := by
 obtain ⟨es, c, hb, _⟩ := h
 exact (Array.getElem?_eq_some_iff.1 hb).1
theorem MapS.blk (h : MapS W b l) (hw : w1.heap[b]? = W.heap[b]?) : MapS w1 b l := by
 obtain ⟨es, c, hb, r⟩ := h
 exact ⟨es, c, hw.trans hb, r⟩
theorem MapS.alloc (h : MapS W b l) (o : Obj) : MapS (W.alloc o) b l := h.blk (Below.heap_alloc W o b h.lt)
theorem MapS.push (hm : P.underlying t = some (.map k e)) (hk : P.underlying k = some .string) (h : MapS W b l) {s : ByteArray} (hs : ∀ p ∈ l, p.1 ≠ s) (v : Value) :
  ∃ W', (Instr.mapUpdate t (.map (some b)) (.string s) v).run P W = .ok () W' ∧ MapS W' b (l ++ [(s, v)]) ∧ W.grownBy W' (some b) := by
 obtain ⟨es, c, hb, hl⟩ := h
 have h1 := zhx s es.toList l 0 hl hs
 refine ⟨{ W with heap := W.heap.setIfInBounds b (.map (es.push { key := .string s, val := v, born := c }) (c + 1)) }, ?_, ⟨_, _, (MapKept.heap_set hb).1, ?_⟩, ⟨rfl, rfl, rfl, by simp, fun i _ hi => (MapKept.heap_set hb).2 i (fun e => hi (by rw [e]))⟩⟩
 ·simp [Instr.mapUpdate, run_underlying hm, MapKept.run_getObj_map hb, MapKept.run_checkKey hk (k := .string s) trivial, MapKept.run_findKey hk h1, MapKept.run_setObj_map _ hb, Result.andThen]
 ·simp [hl]
theorem MapS.look (hm : P.underlying t = some (.map k e)) (hk : P.underlying k = some .string) {a c : List (ByteArray × Value)} {s : ByteArray} {v : Value} (h : MapS W b (a ++ (s, v) :: c)) (hs : ∀ p ∈ a, p.1 ≠ s) :
  (Instr.lookup t (.map (some b)) (.string s) true).run P W = .ok (.tuple #[v, .bool true]) W := by
 obtain ⟨es, cl, hb, hl⟩ := h
 obtain ⟨j, h1⟩ := zlc s v es.toList a c 0 hl hs
 simp [Instr.lookup, run_underlying hm, MapKept.run_getObj_map hb, MapKept.run_checkKey hk (k := .string s) trivial, MapKept.run_findKey hk h1, Result.andThen]
theorem MapS.look_none (hm : P.underlying t = some (.map k e)) (hk : P.underlying k = some .string) {z : Value} (hz : (zeroValue e).run P W = .ok z W) {s : ByteArray} (h : MapS W b l) (hs : ∀ p ∈ l, p.1 ≠ s) :
  (Instr.lookup t (.map (some b)) (.string s) true).run P W = .ok (.tuple #[z, .bool false]) W := by
 obtain ⟨es, cl, hb, hl⟩ := h
 have h1 := zhx s es.toList l 0 hl hs
 simp [Instr.lookup, run_underlying hm, MapKept.run_getObj_map hb, MapKept.run_checkKey hk (k := .string s) trivial, MapKept.run_findKey hk h1, hz, Result.andThen]
theorem MapS.look_any (hm : P.underlying t = some (.map k e)) (hk : P.underlying k = some .string) {z : Value} (hz : (zeroValue e).run P W = .ok z W) {s : ByteArray} (h : MapS W b l) :
  ∃ v ok, (Instr.lookup t (.map (some b)) (.string s) true).run P W = .ok (.tuple #[v, .bool ok]) W ∧ ((∃ p ∈ l, p.1 = s ∧ v = p.2) ∧ ok = true ∨ (∀ p ∈ l, p.1 ≠ s) ∧ ok = false ∧ v = z) := by
 by_cases hs : ∀ p ∈ l, p.1 ≠ s
 ·exact ⟨z, false, h.look_none hm hk hz hs, .inr ⟨hs, rfl, rfl⟩⟩
 ·have : ∃ a c v, l = a ++ (s, v) :: c ∧ ∀ p ∈ a, p.1 ≠ s := by
   clear h
   induction l with
   | nil => exact absurd (fun p hp => by cases hp) hs
   | cons q r ih =>
    by_cases hq : q.1 = s
    ·exact ⟨[], r, q.2, by rw [← hq]; rfl, fun p hp => by cases hp⟩
    ·obtain ⟨a, c, v, hl, ha⟩ := ih (fun hr => hs fun p hp => by
      rcases List.mem_cons.1 hp with rfl | hp
      ·exact hq
      ·exact hr p hp)
     exact ⟨q :: a, c, v, by rw [hl]; rfl, fun p hp => by
      rcases List.mem_cons.1 hp with rfl | hp
      ·exact hq
      ·exact ha p hp⟩
  obtain ⟨a, c, v, rfl, ha⟩ := this
  exact ⟨v, true, h.look hm hk ha, .inl ⟨⟨_, List.mem_append.2 (.inr (List.mem_cons_self ..)), rfl, rfl⟩, rfl⟩⟩
theorem zik {l : List (ByteArray × Value)} {s : ByteArray} (h : (l.all fun p => !(p.1 == s)) = true) : ∀ p ∈ l, p.1 ≠ s := by
 intro p hp he
 have := List.all_eq_true.1 h p hp
 rw [(MapKept.bytes_beq _ _).2 he] at this
 cases this
variable {ops : Array Oper} {rest : List Oper} {o : Oper} {a : Act} {Q : Exit → Act → World → Prop}
theorem zdd (hg : o.guard = none) (m x v : Operand) (hop : o.op = Op.insert t m x v) (hm : P.underlying t = some (.map k e)) (hk : P.underlying k = some .string)
  (b : Nat) (l : List (ByteArray × Value)) (s : ByteArray) (val : Value) (hem : a.eval m = .map (some b)) (h : MapS W b l) (hex : a.eval x = .string s) (hev : a.eval v = val) (hs : (l.all fun p => !(p.1 == s)) = true)
  (hK : ∀ w', MapS w' b (l ++ [(s, val)]) → W.grownBy w' (some b) → wpList P ops Q rest (a.put o.dst undef) w') : wpList P ops Q (o :: rest) a W := by
 refine wpList_plain hg fun K' hK' => ?_
 obtain ⟨w', hrun, r1, r2⟩ := h.push hm hk (zik hs) val
 unfold Oper.wp
 simp [execOp, hop, hem, hex, hev, hrun, Result.andThen]
 exact hK' _ _ (hK w' r1 r2)
end
end
end Go.Proofs.YtjeekocidaogoaaGreatDoor.Hand

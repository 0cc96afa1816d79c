/- Conditions without parts. -/
/- Conditions without parts and without lists: path, header, has. -/
import Derived.Test.YtjeekocidaogoaaGreatDoorK5Tree
set_option linter.unusedVariables false
set_option linter.unusedSimpArgs false
set_option maxRecDepth 100000
set_option maxHeartbeats 8000000
namespace Go.Proofs.YtjeekocidaogoaaGreatDoor.H
open Go.RowKit Go.Proofs.YtjeekocidaogoaaGreatDoor.Hand Go.Proofs.YtjeekocidaogoaaGreatDoorW.PrintWords Go.Proofs.YtjeekocidaogoaaGreatDoorW.PrintLast Go.Proofs.YtjeekocidaogoaaGreatDoorW.PrintMore
section
def znx (W : World) (g T c : Nat) (toks : List Tok) (r : PR S60) : Ending → World → Prop :=
 EndP r (fun x j e W' => ∃ cs L, e = .returned (.agg cs.toArray) ∧ Tree W' W.heap.size x cs L ∧ PSt W' g T c toks j ∧ Fr W W' (· = g) ∧ j < toks.length) (fun W' => Fr W W' (· = g))
abbrev zce : Array Value := #[.int .i64 0, .string ⟨#[]⟩, .string ⟨#[]⟩, .slice none 0 0, .slice none 0 0, .slice none 0 0, .slice none 0 0, .int .i64 0]
structure Gath {β : Type} (enc : β → List Value) (mk : Value → Array Value) (W : World) (g T c r q ty sz : Nat) (toks : List Tok) (i : Nat) (acc : List β) (W' : World) : Prop where
 res : W'.heap[r + 1]? = some (.cells zce 60 (0, 0))
 st : PSt W' g T c toks i
 fr : Fr W W' (· = g)
 ptr : W'.heap[r]? = some (.cells #[.pointer (some ⟨g, 0, none⟩)] 71 (0, 0))
 cnd : ∃ v, W'.heap[q]? = some (.cells (mk v) 60 (0, 0)) ∧ Row W' W.heap.size ty sz v acc.length (acc.flatMap enc)
section
variable {β : Type} {enc : β → List Value} {mk : Value → Array Value} {W W1 W2 : World} {g T c r q f ty sz i j : Nat} {toks : List Tok} {acc : List β}
theorem Gath.move (h : Gath enc mk W g T c r q ty sz toks i acc W1) (hS : PSt W2 g T c toks j) (hF : Fr W1 W2 (· = g)) (hr : W.heap.size ≤ r) (hq : W.heap.size ≤ q) (hg : g < W.heap.size) : Gath enc mk W g T c r q ty sz toks j acc W2 := by
 obtain ⟨v, h1, h2⟩ := h.cnd
 exact ⟨hF.blk h.res (by omega), hS, h.fr.trans hF, hF.blk h.ptr (by omega), v, hF.blk h1 (by omega), h2.fr hF fun g' hg' e => by have := (h2.blk hg').1; omega⟩
theorem Gath.one (h : Gath enc mk W g T c r q ty sz toks i acc W1) (hr : W.heap.size ≤ r) (hrl : r + 1 < q) (hq : W.heap.size ≤ q) (hg : g < W.heap.size)
  (hset : ∀ v v', (mk v).setIfInBounds f v' = mk v') {v : Value} (hq1 : W1.heap[q]? = some (.cells (mk v) 60 (0, 0))) (hrow : Row W1 W.heap.size ty sz v acc.length (acc.flatMap enc)) (hty : ty ≠ 71) (hty2 : ty ≠ 60) {y : β} {e : Ending}
  (k : OneP enc W1 W.heap.size g T c q f ty sz toks (mk v) acc.length (acc.flatMap enc) v (.ok y j) e W2) : e = .returned (.tuple #[]) ∧ Gath enc mk W g T c r q ty sz toks j (acc ++ [y]) W2 := by
 obtain ⟨⟨he, hS, v', hq2, hrow2⟩, hF⟩ := k
 refine ⟨he, hF.blk h.res ?_, hS, h.fr.then_ hF fun k hk => ?_, hF.blk h.ptr ?_, v', ?_, ?_⟩
 ·intro hk
  rcases hk with hk | hk | hk
  ·omega
  ·omega
  ·exact hrow.ne h.res hty2 hk.symm
 ·rcases hk with hk | hk | hk
  ·exact .inl hk
  ·exact .inr (by omega)
  ·exact .inr (hrow.blk hk.symm).1
 ·intro hk
  rcases hk with hk | hk | hk
  ·omega
  ·omega
  ·exact hrow.ne h.ptr hty hk.symm
 ·rw [hset] at hq2; exact hq2
 ·rw [List.length_append, List.flatMap_append]
  simpa using hrow2
theorem Gath.bad (h : Gath enc mk W g T c r q ty sz toks i acc W1) (hq : W.heap.size ≤ q) {v : Value} (hrow : Row W1 W.heap.size ty sz v acc.length (acc.flatMap enc)) {k p : Int} {e : Ending} {cells : Array Value} {n : Nat} {xs : List Value}
  (hk : OneP (β := β) enc W1 W.heap.size g T c q f ty sz toks cells n xs v (.bad k p) e W2) : e = .panicked [zfx k p] ∧ Fr W W2 (· = g) := by
 refine ⟨hk.1, h.fr.then_ hk.2 fun k hk => ?_⟩
 rcases hk with hk | hk | hk
 ·exact .inl hk
 ·exact .inr (by omega)
 ·exact .inr (hrow.blk hk.symm).1
theorem zen (enc : β → List Value) (mk : Value → Array Value) {ty sz : Nat} (hs : PSt W g T c toks i) :
  Gath enc mk W g T c W.heap.size (W.heap.size + 1 + 1) ty sz toks i [] (((W.alloc (.cells #[.pointer (some ⟨g, 0, none⟩)] 71)).alloc (.cells zce 60)).alloc (.cells (mk (.slice none 0 0)) 60)) := by
 have h1 := heap_alloc_new (W.alloc (.cells #[.pointer (some ⟨g, 0, none⟩)] 71)) (.cells zce 60)
 have h2 := heap_alloc_new ((W.alloc (.cells #[.pointer (some ⟨g, 0, none⟩)] 71)).alloc (.cells zce 60)) (.cells (mk (.slice none 0 0)) 60)
 refine ⟨zad (by simpa using h1) _, ((hs.alloc _).alloc _).alloc _, (((Fr.refl W _).alloc _).alloc _).alloc _, zad (zad (heap_alloc_new W _) _) _, _, ?_, Row.nil _ _ _ _⟩
 simpa using h2
abbrev zmn (W : World) (m : Nat) (v0 v1 v2 v3 v4 v5 v6 v7 : Value) : World :=
 (((((((W.setCell ⟨m, 0, none⟩ v0).setCell ⟨m, 1, none⟩ v1).setCell ⟨m, 2, none⟩ v2).setCell ⟨m, 3, none⟩ v3).setCell ⟨m, 4, none⟩ v4).setCell ⟨m, 5, none⟩ v5).setCell ⟨m, 6, none⟩ v6).setCell ⟨m, 7, none⟩ v7
theorem zhr {m t : Nat} {a0 a1 a2 a3 a4 a5 a6 a7 : Value} (h : W.heap[m]? = some (.cells #[a0, a1, a2, a3, a4, a5, a6, a7] t (0, 0))) (v0 v1 v2 v3 v4 v5 v6 v7 : Value) :
  (zmn W m v0 v1 v2 v3 v4 v5 v6 v7).heap[m]? = some (.cells #[v0, v1, v2, v3, v4, v5, v6, v7] t (0, 0)) := by
 have e0 : _ = some (Obj.cells #[v0, a1, a2, a3, a4, a5, a6, a7] t (0, 0)) := zak h 0 v0 rfl
 have e1 : _ = some (Obj.cells #[v0, v1, a2, a3, a4, a5, a6, a7] t (0, 0)) := zak e0 1 v1 rfl
 have e2 : _ = some (Obj.cells #[v0, v1, v2, a3, a4, a5, a6, a7] t (0, 0)) := zak e1 2 v2 rfl
 have e3 : _ = some (Obj.cells #[v0, v1, v2, v3, a4, a5, a6, a7] t (0, 0)) := zak e2 3 v3 rfl
 have e4 : _ = some (Obj.cells #[v0, v1, v2, v3, v4, a5, a6, a7] t (0, 0)) := zak e3 4 v4 rfl
 have e5 : _ = some (Obj.cells #[v0, v1, v2, v3, v4, v5, a6, a7] t (0, 0)) := zak e4 5 v5 rfl
 have e6 : _ = some (Obj.cells #[v0, v1, v2, v3, v4, v5, v6, a7] t (0, 0)) := zak e5 6 v6 rfl
 exact zak e6 7 v7 rfl
theorem zdf (W : World) (m : Nat) (v0 v1 v2 v3 v4 v5 v6 v7 : Value) : Fr W (zmn W m v0 v1 v2 v3 v4 v5 v6 v7) (· = m) := by
 have e0 := (Fr.refl W (· = m)).setCell (p := ⟨m, 0, none⟩) (.inl rfl) v0
 have e1 := e0.setCell (p := ⟨m, 1, none⟩) (.inl rfl) v1
 have e2 := e1.setCell (p := ⟨m, 2, none⟩) (.inl rfl) v2
 have e3 := e2.setCell (p := ⟨m, 3, none⟩) (.inl rfl) v3
 have e4 := e3.setCell (p := ⟨m, 4, none⟩) (.inl rfl) v4
 have e5 := e4.setCell (p := ⟨m, 5, none⟩) (.inl rfl) v5
 have e6 := e5.setCell (p := ⟨m, 6, none⟩) (.inl rfl) v6
 exact e6.setCell (p := ⟨m, 7, none⟩) (.inl rfl) v7
theorem Gath.over (h : Gath enc mk W g T c W.heap.size (W.heap.size + 1 + 1) ty sz toks i acc W1) (hg : g < W.heap.size) (hT : T < W.heap.size) {v v' : Value} (h1 : W1.heap[W.heap.size + 1 + 1]? = some (.cells (mk v) 60 (0, 0)))
  (hrow : Row W1 W.heap.size ty sz v' acc.length (acc.flatMap enc)) (hty2 : ty ≠ 60) (v0 v1 v2 v3 v4 v5 v6 v7 : Value) :
  let W2 := zmn (W1.setCell ⟨W.heap.size + 1 + 1, f, none⟩ v') (W.heap.size + 1) v0 v1 v2 v3 v4 v5 v6 v7
  W2.heap[W.heap.size + 1]? = some (.cells #[v0, v1, v2, v3, v4, v5, v6, v7] 60 (0, 0)) ∧ PSt W2 g T c toks i ∧ Fr W W2 (· = g) ∧ Row W2 W.heap.size ty sz v' acc.length (acc.flatMap enc) := by
 intro W2
 have hF1 : Fr W1 (W1.setCell ⟨W.heap.size + 1 + 1, f, none⟩ v') (· = W.heap.size + 1 + 1) := Fr.setCell (S := (· = W.heap.size + 1 + 1)) (Fr.refl _ _) (.inl rfl) _
 have hF2 := zdf (W1.setCell ⟨W.heap.size + 1 + 1, f, none⟩ v') (W.heap.size + 1) v0 v1 v2 v3 v4 v5 v6 v7
 have hr1 := hF1.blk h.res (by omega)
 refine ⟨zhr hr1 _ _ _ _ _ _ _ _, (h.st.fr hF1 (by omega) (by omega)).fr hF2 (by omega) (by omega), (h.fr.then_ hF1 fun k hk => .inr (by omega)).then_ hF2 fun k hk => .inr (by omega), ?_⟩
 exact (hrow.fr hF1 fun g' hg' e => hrow.ne h1 hty2 (by rw [hg', e])).fr hF2 fun g' hg' e => (hrow.fr hF1 fun g' hg' e => hrow.ne h1 hty2 (by rw [hg', e])).ne hr1 hty2 (by rw [hg', e])
end
theorem flat_text (l : List ByteArray) : l.flatMap (fun p => [Value.string p]) = zho l := by
 induction l with
 | nil => rfl
 | cons a l ih => simp only [List.flatMap_cons, zho, List.map_cons] at ih ⊢; rw [ih]; rfl
theorem addrE_ok {toks : List Tok} (hend : ∀ k, k < toks.length → (tk toks k).kind ≠ 8 → k + 1 < toks.length) (i : Nat) (y : S47) (j : Nat) (hi : i < toks.length) (h : zfz toks i = .ok y j) : j < toks.length ∧ (tk toks i).kind = 5 := by
 unfold zfz ofP at h
 by_cases hk : (tk toks i).kind = 5
 ·rw [if_pos hk] at h
  simp only [PR.bind, PR.ok.injEq] at h
  exact ⟨by rw [← h.2]; exact hend i hi (by omega), hk⟩
 ·rw [if_neg hk] at h
  cases h
theorem addr_facts {W w1 : World} {g T c j : Nat} {toks : List Tok} {l : List S47} {a : Int} (h : Gath (fun p : S47 => [Value.int .i64 p.f0, Value.int .i64 p.f1]) (fun v => #[.int .i64 7, .string ⟨#[]⟩, .string ⟨#[]⟩, v, .slice none 0 0, .slice none 0 0, .slice none 0 0, .int .i64 a]) W g T c W.heap.size (W.heap.size + 1 + 1) 47 2 toks j l w1) :
  ∃ A cap, l.length ≤ cap ∧ Zq (w1.heap[W.heap.size + 1 + 1]? = some (.cells ((fun v => #[.int .i64 7, .string ⟨#[]⟩, .string ⟨#[]⟩, v, .slice none 0 0, .slice none 0 0, .slice none 0 0, .int .i64 a]) (.slice A l.length cap)) 60 (0, 0))) ∧ Zq (Row w1 W.heap.size 47 2 (.slice A l.length cap) l.length (l.flatMap (fun p : S47 => [Value.int .i64 p.f0, Value.int .i64 p.f1]))) ∧
  w1.cell? ⟨W.heap.size + 1 + 1, 3, none⟩ = some (.slice A l.length cap) ∧ w1.frozen? ⟨W.heap.size + 1 + 1, 3, none⟩ = false ∧ (w1.setCell ⟨W.heap.size + 1 + 1, 3, none⟩ (.slice A l.length l.length)).cell? ⟨W.heap.size + 1 + 1, 0, none⟩ = some (.int .i64 7) ∧ (w1.setCell ⟨W.heap.size + 1 + 1, 3, none⟩ (.slice A l.length l.length)).cell? ⟨W.heap.size + 1 + 1, 1, none⟩ = some (.string ⟨#[]⟩) ∧ (w1.setCell ⟨W.heap.size + 1 + 1, 3, none⟩ (.slice A l.length l.length)).cell? ⟨W.heap.size + 1 + 1, 2, none⟩ = some (.string ⟨#[]⟩) ∧ (w1.setCell ⟨W.heap.size + 1 + 1, 3, none⟩ (.slice A l.length l.length)).cell? ⟨W.heap.size + 1 + 1, 3, none⟩ = some (.slice A l.length l.length) ∧ (w1.setCell ⟨W.heap.size + 1 + 1, 3, none⟩ (.slice A l.length l.length)).cell? ⟨W.heap.size + 1 + 1, 4, none⟩ = some (.slice none 0 0) ∧ (w1.setCell ⟨W.heap.size + 1 + 1, 3, none⟩ (.slice A l.length l.length)).cell? ⟨W.heap.size + 1 + 1, 5, none⟩ = some (.slice none 0 0) ∧ (w1.setCell ⟨W.heap.size + 1 + 1, 3, none⟩ (.slice A l.length l.length)).cell? ⟨W.heap.size + 1 + 1, 6, none⟩ = some (.slice none 0 0) ∧ (w1.setCell ⟨W.heap.size + 1 + 1, 3, none⟩ (.slice A l.length l.length)).cell? ⟨W.heap.size + 1 + 1, 7, none⟩ = some (.int .i64 a) ∧ w1.frozen? ⟨W.heap.size + 1, 0, none⟩ = false ∧ w1.frozen? ⟨W.heap.size + 1, 1, none⟩ = false ∧ w1.frozen? ⟨W.heap.size + 1, 2, none⟩ = false ∧ w1.frozen? ⟨W.heap.size + 1, 3, none⟩ = false ∧ w1.frozen? ⟨W.heap.size + 1, 4, none⟩ = false ∧ w1.frozen? ⟨W.heap.size + 1, 5, none⟩ = false ∧ w1.frozen? ⟨W.heap.size + 1, 6, none⟩ = false ∧ w1.frozen? ⟨W.heap.size + 1, 7, none⟩ = false ∧ w1.cell? ⟨W.heap.size + 1, 0, none⟩ = some (.int .i64 0) ∧ w1.cell? ⟨W.heap.size + 1, 1, none⟩ = some (.string ⟨#[]⟩) ∧ w1.cell? ⟨W.heap.size + 1, 2, none⟩ = some (.string ⟨#[]⟩) ∧ w1.cell? ⟨W.heap.size + 1, 3, none⟩ = some (.slice none 0 0) ∧ w1.cell? ⟨W.heap.size + 1, 4, none⟩ = some (.slice none 0 0) ∧ w1.cell? ⟨W.heap.size + 1, 5, none⟩ = some (.slice none 0 0) ∧ w1.cell? ⟨W.heap.size + 1, 6, none⟩ = some (.slice none 0 0) ∧ w1.cell? ⟨W.heap.size + 1, 7, none⟩ = some (.int .i64 0) := by
 obtain ⟨v, h1, h2⟩ := h.cnd
 obtain ⟨A, cap, rfl, hcap, _⟩ := h2.form
 have h1' : _ = some (Obj.cells #[.int .i64 7, .string ⟨#[]⟩, .string ⟨#[]⟩, .slice A l.length l.length, .slice none 0 0, .slice none 0 0, .slice none 0 0, .int .i64 a] 60 (0, 0)) := zak h1 3 (.slice A l.length l.length) rfl
 exact ⟨A, cap, hcap, ⟨h1⟩, ⟨h2⟩, zae h1 3, zaf h1 3, zae h1' 0, zae h1' 1, zae h1' 2, zae h1' 3, zae h1' 4, zae h1' 5, zae h1' 6, zae h1' 7, zaf h.res 0, zaf h.res 1, zaf h.res 2, zaf h.res 3, zaf h.res 4, zaf h.res 5, zaf h.res 6, zaf h.res 7, zae h.res 0, zae h.res 1, zae h.res 2, zae h.res 3, zae h.res 4, zae h.res 5, zae h.res 6, zae h.res 7⟩
theorem addr_calls (W : World) (g T c : Nat) (toks : List Tok) (hend : ∀ k, k < toks.length → (tk toks k).kind ≠ 8 → k + 1 < toks.length) (K i : Nat) (hi : i < toks.length) (a : Int) (hs : PSt W g T c toks i) (res : PR (List S47)) (hres : zgl toks (zfz toks) 5 K i = some res) :
  Calls Tryz.prog 177 #[.pointer (some ⟨g, 0, none⟩), .int .i64 a] W (znx W g T c toks (res.bind fun l j => .ok ⟨7, ⟨#[]⟩, ⟨#[]⟩, l, [], [], [], a⟩ j)) := by
 have hg := hs.lts.1
 have hT := hs.lts.2.1
 have HL := Zq.mk (fun W1 (hW : Gath (fun p : S47 => [Value.int .i64 p.f0, Value.int .i64 p.f1]) (fun v => #[.int .i64 7, .string ⟨#[]⟩, .string ⟨#[]⟩, v, .slice none 0 0, .slice none 0 0, .slice none 0 0, .int .i64 a]) W g T c W.heap.size (W.heap.size + 1 + 1) 47 2 toks i [] W1) =>
  zhu toks (zfz toks) 5 199 (.pointer (some ⟨W.heap.size + 1 + 1, 0, none⟩)) (.pointer (some ⟨W.heap.size, 0, none⟩)) g T c
   (fun i acc W' => Gath (fun p : S47 => [Value.int .i64 p.f0, Value.int .i64 p.f1]) (fun v => #[.int .i64 7, .string ⟨#[]⟩, .string ⟨#[]⟩, v, .slice none 0 0, .slice none 0 0, .slice none 0 0, .int .i64 a]) W g T c W.heap.size (W.heap.size + 1 + 1) 47 2 toks i acc W') (fun W' => Fr W W' (· = g))
   (fun w => by kernel_rfl) hend (fun _ _ _ h => h.st) (fun _ _ _ _ _ h hS hF => h.move hS hF (by omega) (by omega) hg) (fun _ _ _ _ h hF => h.fr.trans hF)
   (fun i acc W' hi hl h => by
    obtain ⟨v, h1, h2⟩ := h.cnd
    refine (addr_one W' W.heap.size g T c W.heap.size (W.heap.size + 1 + 1) toks i ((fun v => #[.int .i64 7, .string ⟨#[]⟩, .string ⟨#[]⟩, v, .slice none 0 0, .slice none 0 0, .slice none 0 0, .int .i64 a]) v) acc.length (acc.flatMap _) v hi h.st h.fr.size (by omega) h.ptr h1 rfl h2).mono fun e W2 hk => ?_
    cases hel : zfz toks i with
    | bad ke pe => rw [hel] at hk; exact h.bad (by omega) h2 hk
    | ok y j => rw [hel] at hk; exact h.one (by omega) (by omega) (by omega) hg (fun _ _ => rfl) h1 h2 (by decide) (by decide) hk)
   (addrE_ok hend) K i res hres W1 hW hi)
 have hmf : ∀ (fn : Fn) (first cap : Array Value) (w : World), (Instr.makeFunc fn first cap).run Tryz.prog w = .ok (.func fn first cap) w := fun _ _ _ _ => rfl
 clear hres
 have HS := Zq.mk hs
 clear hs
 cases res with
 | bad ke pe =>
  go_enter Tryz.func177, Tryz.ntmps177
  go_wp2_with (go_at_call 198; refine (HL.out _ (zen _ (fun v => #[.int .i64 7, .string ⟨#[]⟩, .string ⟨#[]⟩, v, .slice none 0 0, .slice none 0 0, .slice none 0 0, .int .i64 a]) HS.out)).mono ?_; rintro e1 w1 ⟨rfl, hF⟩)
  exact ⟨rfl, rfl, hF⟩
 | ok l j =>
  go_enter Tryz.func177, Tryz.ntmps177
  go_wp2_with (first
   | (go_at_call 198; refine (HL.out _ (zen _ (fun v => #[.int .i64 7, .string ⟨#[]⟩, .string ⟨#[]⟩, v, .slice none 0 0, .slice none 0 0, .slice none 0 0, .int .i64 a]) HS.out)).mono ?_; rintro e1 w1 ⟨rfl, hX, hj, hl33⟩; obtain ⟨A, cap, hcap, H1, H2, c3, f3, d0, d1, d2, d3, d4, d5, d6, d7, z0, z1, z2, z3, z4, z5, z6, z7, y0, y1, y2, y3, y4, y5, y6, y7⟩ := addr_facts hX; have hbig : l.length ≤ 140737488355328 := (by omega); have hne : ¬ W.heap.size + 1 + 1 = W.heap.size + 1 := (by omega); have HX := Zq.mk hX; clear hX)
   | (go_at_call 200; refine (clip_prefix _ _ _ _ hcap hbig).mono ?_; rintro e2 w2 ⟨rfl, hw⟩; subst w2))
  obtain ⟨R1, R2, R3, R4⟩ := HX.out.over (f := 3) hg hT H1.out H2.out.clip (by decide) (.int .i64 7) (.string ⟨#[]⟩) (.string ⟨#[]⟩) (.slice A l.length l.length) (.slice none 0 0) (.slice none 0 0) (.slice none 0 0) (.int .i64 a)
  refine bodyPost_ret (results_cell_row rfl _ _ (W.heap.size + 1) 60 #[.int .i64 7, .string ⟨#[]⟩, .string ⟨#[]⟩, .slice A l.length l.length, .slice none 0 0, .slice none 0 0, .slice none 0 0, .int .i64 a] (0, 0) _ rfl R1 Tryz.underlying60 rfl (by kernel_rfl)) rfl ?_
  exact ⟨_, _, rfl, .mk R4.clip (Row.nil _ _ _ _) (Row.nil _ _ _ _) (Row.nil _ _ _ _) .nil, R2, R3, hj⟩
theorem portE_ok {toks : List Tok} (hend : ∀ k, k < toks.length → (tk toks k).kind ≠ 8 → k + 1 < toks.length) (i : Nat) (y : S68) (j : Nat) (hi : i < toks.length) (h : zel toks i = .ok y j) : j < toks.length ∧ (tk toks i).kind = 4 := by
 unfold zel ofP at h
 by_cases hk : (tk toks i).kind = 4
 ·rw [if_pos hk] at h
  have h1 := hend i hi (by omega)
  simp only [PR.bind] at h
  refine ⟨?_, hk⟩
  by_cases hm : isT (tk toks (i + 1)) zfc = true
  ·have h2 := hend (i + 1) h1 (zbk hm)
   rw [if_pos hm] at h
   by_cases h4 : (tk toks (i + 1 + 1)).kind = 4
   ·rw [if_pos h4] at h
    simp only [PR.ok.injEq] at h
    rw [← h.2]
    exact hend (i + 1 + 1) h2 (by omega)
   ·rw [if_neg h4] at h
    cases h
  ·rw [if_neg hm] at h
   simp only [PR.ok.injEq] at h
   rw [← h.2]
   exact h1
 ·rw [if_neg hk] at h
  cases h
theorem port_facts {W w1 : World} {g T c j : Nat} {toks : List Tok} {l : List S68} {a : Int} (h : Gath (fun p : S68 => [Value.int .i64 p.f0, Value.int .i64 p.f1]) (fun v => #[.int .i64 8, .string ⟨#[]⟩, .string ⟨#[]⟩, .slice none 0 0, v, .slice none 0 0, .slice none 0 0, .int .i64 a]) W g T c W.heap.size (W.heap.size + 1 + 1) 68 2 toks j l w1) :
  ∃ A cap, l.length ≤ cap ∧ Zq (w1.heap[W.heap.size + 1 + 1]? = some (.cells ((fun v => #[.int .i64 8, .string ⟨#[]⟩, .string ⟨#[]⟩, .slice none 0 0, v, .slice none 0 0, .slice none 0 0, .int .i64 a]) (.slice A l.length cap)) 60 (0, 0))) ∧ Zq (Row w1 W.heap.size 68 2 (.slice A l.length cap) l.length (l.flatMap (fun p : S68 => [Value.int .i64 p.f0, Value.int .i64 p.f1]))) ∧
  w1.cell? ⟨W.heap.size + 1 + 1, 4, none⟩ = some (.slice A l.length cap) ∧ w1.frozen? ⟨W.heap.size + 1 + 1, 4, none⟩ = false ∧ (w1.setCell ⟨W.heap.size + 1 + 1, 4, none⟩ (.slice A l.length l.length)).cell? ⟨W.heap.size + 1 + 1, 0, none⟩ = some (.int .i64 8) ∧ (w1.setCell ⟨W.heap.size + 1 + 1, 4, none⟩ (.slice A l.length l.length)).cell? ⟨W.heap.size + 1 + 1, 1, none⟩ = some (.string ⟨#[]⟩) ∧ (w1.setCell ⟨W.heap.size + 1 + 1, 4, none⟩ (.slice A l.length l.length)).cell? ⟨W.heap.size + 1 + 1, 2, none⟩ = some (.string ⟨#[]⟩) ∧ (w1.setCell ⟨W.heap.size + 1 + 1, 4, none⟩ (.slice A l.length l.length)).cell? ⟨W.heap.size + 1 + 1, 3, none⟩ = some (.slice none 0 0) ∧ (w1.setCell ⟨W.heap.size + 1 + 1, 4, none⟩ (.slice A l.length l.length)).cell? ⟨W.heap.size + 1 + 1, 4, none⟩ = some (.slice A l.length l.length) ∧ (w1.setCell ⟨W.heap.size + 1 + 1, 4, none⟩ (.slice A l.length l.length)).cell? ⟨W.heap.size + 1 + 1, 5, none⟩ = some (.slice none 0 0) ∧ (w1.setCell ⟨W.heap.size + 1 + 1, 4, none⟩ (.slice A l.length l.length)).cell? ⟨W.heap.size + 1 + 1, 6, none⟩ = some (.slice none 0 0) ∧ (w1.setCell ⟨W.heap.size + 1 + 1, 4, none⟩ (.slice A l.length l.length)).cell? ⟨W.heap.size + 1 + 1, 7, none⟩ = some (.int .i64 a) ∧ w1.frozen? ⟨W.heap.size + 1, 0, none⟩ = false ∧ w1.frozen? ⟨W.heap.size + 1, 1, none⟩ = false ∧ w1.frozen? ⟨W.heap.size + 1, 2, none⟩ = false ∧ w1.frozen? ⟨W.heap.size + 1, 3, none⟩ = false ∧ w1.frozen? ⟨W.heap.size + 1, 4, none⟩ = false ∧ w1.frozen? ⟨W.heap.size + 1, 5, none⟩ = false ∧ w1.frozen? ⟨W.heap.size + 1, 6, none⟩ = false ∧ w1.frozen? ⟨W.heap.size + 1, 7, none⟩ = false ∧ w1.cell? ⟨W.heap.size + 1, 0, none⟩ = some (.int .i64 0) ∧ w1.cell? ⟨W.heap.size + 1, 1, none⟩ = some (.string ⟨#[]⟩) ∧ w1.cell? ⟨W.heap.size + 1, 2, none⟩ = some (.string ⟨#[]⟩) ∧ w1.cell? ⟨W.heap.size + 1, 3, none⟩ = some (.slice none 0 0) ∧ w1.cell? ⟨W.heap.size + 1, 4, none⟩ = some (.slice none 0 0) ∧ w1.cell? ⟨W.heap.size + 1, 5, none⟩ = some (.slice none 0 0) ∧ w1.cell? ⟨W.heap.size + 1, 6, none⟩ = some (.slice none 0 0) ∧ w1.cell? ⟨W.heap.size + 1, 7, none⟩ = some (.int .i64 0) := by
 obtain ⟨v, h1, h2⟩ := h.cnd
 obtain ⟨A, cap, rfl, hcap, _⟩ := h2.form
 have h1' : _ = some (Obj.cells #[.int .i64 8, .string ⟨#[]⟩, .string ⟨#[]⟩, .slice none 0 0, .slice A l.length l.length, .slice none 0 0, .slice none 0 0, .int .i64 a] 60 (0, 0)) := zak h1 4 (.slice A l.length l.length) rfl
 exact ⟨A, cap, hcap, ⟨h1⟩, ⟨h2⟩, zae h1 4, zaf h1 4, zae h1' 0, zae h1' 1, zae h1' 2, zae h1' 3, zae h1' 4, zae h1' 5, zae h1' 6, zae h1' 7, zaf h.res 0, zaf h.res 1, zaf h.res 2, zaf h.res 3, zaf h.res 4, zaf h.res 5, zaf h.res 6, zaf h.res 7, zae h.res 0, zae h.res 1, zae h.res 2, zae h.res 3, zae h.res 4, zae h.res 5, zae h.res 6, zae h.res 7⟩
theorem port_calls (W : World) (g T c : Nat) (toks : List Tok) (hend : ∀ k, k < toks.length → (tk toks k).kind ≠ 8 → k + 1 < toks.length) (K i : Nat) (hi : i < toks.length) (a : Int) (hs : PSt W g T c toks i) (res : PR (List S68)) (hres : zgl toks (zel toks) 4 K i = some res) :
  Calls Tryz.prog 178 #[.pointer (some ⟨g, 0, none⟩), .int .i64 a] W (znx W g T c toks (res.bind fun l j => .ok ⟨8, ⟨#[]⟩, ⟨#[]⟩, [], l, [], [], a⟩ j)) := by
 have hg := hs.lts.1
 have hT := hs.lts.2.1
 have HL := Zq.mk (fun W1 (hW : Gath (fun p : S68 => [Value.int .i64 p.f0, Value.int .i64 p.f1]) (fun v => #[.int .i64 8, .string ⟨#[]⟩, .string ⟨#[]⟩, .slice none 0 0, v, .slice none 0 0, .slice none 0 0, .int .i64 a]) W g T c W.heap.size (W.heap.size + 1 + 1) 68 2 toks i [] W1) =>
  zhu toks (zel toks) 4 201 (.pointer (some ⟨W.heap.size, 0, none⟩)) (.pointer (some ⟨W.heap.size + 1 + 1, 0, none⟩)) g T c
   (fun i acc W' => Gath (fun p : S68 => [Value.int .i64 p.f0, Value.int .i64 p.f1]) (fun v => #[.int .i64 8, .string ⟨#[]⟩, .string ⟨#[]⟩, .slice none 0 0, v, .slice none 0 0, .slice none 0 0, .int .i64 a]) W g T c W.heap.size (W.heap.size + 1 + 1) 68 2 toks i acc W') (fun W' => Fr W W' (· = g))
   (fun w => by kernel_rfl) hend (fun _ _ _ h => h.st) (fun _ _ _ _ _ h hS hF => h.move hS hF (by omega) (by omega) hg) (fun _ _ _ _ h hF => h.fr.trans hF)
   (fun i acc W' hi hl h => by
    obtain ⟨v, h1, h2⟩ := h.cnd
    refine (port_one W' W.heap.size g T c W.heap.size (W.heap.size + 1 + 1) toks i ((fun v => #[.int .i64 8, .string ⟨#[]⟩, .string ⟨#[]⟩, .slice none 0 0, v, .slice none 0 0, .slice none 0 0, .int .i64 a]) v) acc.length (acc.flatMap _) v hi hend h.st h.fr.size (by omega) h.ptr h1 rfl h2).mono fun e W2 hk => ?_
    cases hel : zel toks i with
    | bad ke pe => rw [hel] at hk; exact h.bad (by omega) h2 hk
    | ok y j => rw [hel] at hk; exact h.one (by omega) (by omega) (by omega) hg (fun _ _ => rfl) h1 h2 (by decide) (by decide) hk)
   (portE_ok hend) K i res hres W1 hW hi)
 have hmf : ∀ (fn : Fn) (first cap : Array Value) (w : World), (Instr.makeFunc fn first cap).run Tryz.prog w = .ok (.func fn first cap) w := fun _ _ _ _ => rfl
 clear hres
 have HS := Zq.mk hs
 clear hs
 cases res with
 | bad ke pe =>
  go_enter Tryz.func178, Tryz.ntmps178
  go_wp2_with (go_at_call 198; refine (HL.out _ (zen _ (fun v => #[.int .i64 8, .string ⟨#[]⟩, .string ⟨#[]⟩, .slice none 0 0, v, .slice none 0 0, .slice none 0 0, .int .i64 a]) HS.out)).mono ?_; rintro e1 w1 ⟨rfl, hF⟩)
  exact ⟨rfl, rfl, hF⟩
 | ok l j =>
  go_enter Tryz.func178, Tryz.ntmps178
  go_wp2_with (first
   | (go_at_call 198; refine (HL.out _ (zen _ (fun v => #[.int .i64 8, .string ⟨#[]⟩, .string ⟨#[]⟩, .slice none 0 0, v, .slice none 0 0, .slice none 0 0, .int .i64 a]) HS.out)).mono ?_; rintro e1 w1 ⟨rfl, hX, hj, hl33⟩; obtain ⟨A, cap, hcap, H1, H2, c3, f3, d0, d1, d2, d3, d4, d5, d6, d7, z0, z1, z2, z3, z4, z5, z6, z7, y0, y1, y2, y3, y4, y5, y6, y7⟩ := port_facts hX; have hbig : l.length ≤ 140737488355328 := (by omega); have hne : ¬ W.heap.size + 1 + 1 = W.heap.size + 1 := (by omega); have HX := Zq.mk hX; clear hX)
   | (go_at_call 202; refine (clip_span _ _ _ _ hcap hbig).mono ?_; rintro e2 w2 ⟨rfl, hw⟩; subst w2))
  obtain ⟨R1, R2, R3, R4⟩ := HX.out.over (f := 4) hg hT H1.out H2.out.clip (by decide) (.int .i64 8) (.string ⟨#[]⟩) (.string ⟨#[]⟩) (.slice none 0 0) (.slice A l.length l.length) (.slice none 0 0) (.slice none 0 0) (.int .i64 a)
  refine bodyPost_ret (results_cell_row rfl _ _ (W.heap.size + 1) 60 #[.int .i64 8, .string ⟨#[]⟩, .string ⟨#[]⟩, .slice none 0 0, .slice A l.length l.length, .slice none 0 0, .slice none 0 0, .int .i64 a] (0, 0) _ rfl R1 Tryz.underlying60 rfl (by kernel_rfl)) rfl ?_
  exact ⟨_, _, rfl, .mk (Row.nil _ _ _ _) R4.clip (Row.nil _ _ _ _) (Row.nil _ _ _ _) .nil, R2, R3, hj⟩
theorem methodE_ok {toks : List Tok} (hend : ∀ k, k < toks.length → (tk toks k).kind ≠ 8 → k + 1 < toks.length) (i : Nat) (y : ByteArray) (j : Nat) (hi : i < toks.length) (h : zdh toks i = .ok y j) : j < toks.length ∧ (tk toks i).kind = 3 := by
 unfold zdh ofP at h
 by_cases hk : (tk toks i).kind = 3
 ·rw [if_pos hk] at h
  simp only [PR.bind, PR.ok.injEq] at h
  exact ⟨by rw [← h.2]; exact hend i hi (by omega), hk⟩
 ·rw [if_neg hk] at h
  cases h
theorem method_facts {W w1 : World} {g T c j : Nat} {toks : List Tok} {l : List ByteArray} {a : Int} (h : Gath (fun p : ByteArray => [Value.string p]) (fun v => #[.int .i64 9, .string ⟨#[]⟩, .string ⟨#[]⟩, .slice none 0 0, .slice none 0 0, v, .slice none 0 0, .int .i64 a]) W g T c W.heap.size (W.heap.size + 1 + 1) 9 1 toks j l w1) :
  ∃ A cap, l.length ≤ cap ∧ Zq (w1.heap[W.heap.size + 1 + 1]? = some (.cells ((fun v => #[.int .i64 9, .string ⟨#[]⟩, .string ⟨#[]⟩, .slice none 0 0, .slice none 0 0, v, .slice none 0 0, .int .i64 a]) (.slice A l.length cap)) 60 (0, 0))) ∧ Zq (Row w1 W.heap.size 9 1 (.slice A l.length cap) l.length (l.flatMap (fun p : ByteArray => [Value.string p]))) ∧
  w1.cell? ⟨W.heap.size + 1 + 1, 5, none⟩ = some (.slice A l.length cap) ∧ w1.frozen? ⟨W.heap.size + 1 + 1, 5, none⟩ = false ∧ (w1.setCell ⟨W.heap.size + 1 + 1, 5, none⟩ (.slice A l.length l.length)).cell? ⟨W.heap.size + 1 + 1, 0, none⟩ = some (.int .i64 9) ∧ (w1.setCell ⟨W.heap.size + 1 + 1, 5, none⟩ (.slice A l.length l.length)).cell? ⟨W.heap.size + 1 + 1, 1, none⟩ = some (.string ⟨#[]⟩) ∧ (w1.setCell ⟨W.heap.size + 1 + 1, 5, none⟩ (.slice A l.length l.length)).cell? ⟨W.heap.size + 1 + 1, 2, none⟩ = some (.string ⟨#[]⟩) ∧ (w1.setCell ⟨W.heap.size + 1 + 1, 5, none⟩ (.slice A l.length l.length)).cell? ⟨W.heap.size + 1 + 1, 3, none⟩ = some (.slice none 0 0) ∧ (w1.setCell ⟨W.heap.size + 1 + 1, 5, none⟩ (.slice A l.length l.length)).cell? ⟨W.heap.size + 1 + 1, 4, none⟩ = some (.slice none 0 0) ∧ (w1.setCell ⟨W.heap.size + 1 + 1, 5, none⟩ (.slice A l.length l.length)).cell? ⟨W.heap.size + 1 + 1, 5, none⟩ = some (.slice A l.length l.length) ∧ (w1.setCell ⟨W.heap.size + 1 + 1, 5, none⟩ (.slice A l.length l.length)).cell? ⟨W.heap.size + 1 + 1, 6, none⟩ = some (.slice none 0 0) ∧ (w1.setCell ⟨W.heap.size + 1 + 1, 5, none⟩ (.slice A l.length l.length)).cell? ⟨W.heap.size + 1 + 1, 7, none⟩ = some (.int .i64 a) ∧ w1.frozen? ⟨W.heap.size + 1, 0, none⟩ = false ∧ w1.frozen? ⟨W.heap.size + 1, 1, none⟩ = false ∧ w1.frozen? ⟨W.heap.size + 1, 2, none⟩ = false ∧ w1.frozen? ⟨W.heap.size + 1, 3, none⟩ = false ∧ w1.frozen? ⟨W.heap.size + 1, 4, none⟩ = false ∧ w1.frozen? ⟨W.heap.size + 1, 5, none⟩ = false ∧ w1.frozen? ⟨W.heap.size + 1, 6, none⟩ = false ∧ w1.frozen? ⟨W.heap.size + 1, 7, none⟩ = false ∧ w1.cell? ⟨W.heap.size + 1, 0, none⟩ = some (.int .i64 0) ∧ w1.cell? ⟨W.heap.size + 1, 1, none⟩ = some (.string ⟨#[]⟩) ∧ w1.cell? ⟨W.heap.size + 1, 2, none⟩ = some (.string ⟨#[]⟩) ∧ w1.cell? ⟨W.heap.size + 1, 3, none⟩ = some (.slice none 0 0) ∧ w1.cell? ⟨W.heap.size + 1, 4, none⟩ = some (.slice none 0 0) ∧ w1.cell? ⟨W.heap.size + 1, 5, none⟩ = some (.slice none 0 0) ∧ w1.cell? ⟨W.heap.size + 1, 6, none⟩ = some (.slice none 0 0) ∧ w1.cell? ⟨W.heap.size + 1, 7, none⟩ = some (.int .i64 0) := by
 obtain ⟨v, h1, h2⟩ := h.cnd
 obtain ⟨A, cap, rfl, hcap, _⟩ := h2.form
 have h1' : _ = some (Obj.cells #[.int .i64 9, .string ⟨#[]⟩, .string ⟨#[]⟩, .slice none 0 0, .slice none 0 0, .slice A l.length l.length, .slice none 0 0, .int .i64 a] 60 (0, 0)) := zak h1 5 (.slice A l.length l.length) rfl
 exact ⟨A, cap, hcap, ⟨h1⟩, ⟨h2⟩, zae h1 5, zaf h1 5, zae h1' 0, zae h1' 1, zae h1' 2, zae h1' 3, zae h1' 4, zae h1' 5, zae h1' 6, zae h1' 7, zaf h.res 0, zaf h.res 1, zaf h.res 2, zaf h.res 3, zaf h.res 4, zaf h.res 5, zaf h.res 6, zaf h.res 7, zae h.res 0, zae h.res 1, zae h.res 2, zae h.res 3, zae h.res 4, zae h.res 5, zae h.res 6, zae h.res 7⟩
theorem method_calls (W : World) (g T c : Nat) (toks : List Tok) (hend : ∀ k, k < toks.length → (tk toks k).kind ≠ 8 → k + 1 < toks.length) (K i : Nat) (hi : i < toks.length) (a : Int) (hs : PSt W g T c toks i) (res : PR (List ByteArray)) (hres : zgl toks (zdh toks) 3 K i = some res) :
  Calls Tryz.prog 179 #[.pointer (some ⟨g, 0, none⟩), .int .i64 a] W (znx W g T c toks (res.bind fun l j => .ok ⟨9, ⟨#[]⟩, ⟨#[]⟩, [], [], l, [], a⟩ j)) := by
 have hg := hs.lts.1
 have hT := hs.lts.2.1
 have HL := Zq.mk (fun W1 (hW : Gath (fun p : ByteArray => [Value.string p]) (fun v => #[.int .i64 9, .string ⟨#[]⟩, .string ⟨#[]⟩, .slice none 0 0, .slice none 0 0, v, .slice none 0 0, .int .i64 a]) W g T c W.heap.size (W.heap.size + 1 + 1) 9 1 toks i [] W1) =>
  zhu toks (zdh toks) 3 203 (.pointer (some ⟨W.heap.size + 1 + 1, 0, none⟩)) (.pointer (some ⟨W.heap.size, 0, none⟩)) g T c
   (fun i acc W' => Gath (fun p : ByteArray => [Value.string p]) (fun v => #[.int .i64 9, .string ⟨#[]⟩, .string ⟨#[]⟩, .slice none 0 0, .slice none 0 0, v, .slice none 0 0, .int .i64 a]) W g T c W.heap.size (W.heap.size + 1 + 1) 9 1 toks i acc W') (fun W' => Fr W W' (· = g))
   (fun w => by kernel_rfl) hend (fun _ _ _ h => h.st) (fun _ _ _ _ _ h hS hF => h.move hS hF (by omega) (by omega) hg) (fun _ _ _ _ h hF => h.fr.trans hF)
   (fun i acc W' hi hl h => by
    obtain ⟨v, h1, h2⟩ := h.cnd
    refine (method_one W' W.heap.size g T c W.heap.size (W.heap.size + 1 + 1) toks i ((fun v => #[.int .i64 9, .string ⟨#[]⟩, .string ⟨#[]⟩, .slice none 0 0, .slice none 0 0, v, .slice none 0 0, .int .i64 a]) v) acc.length (acc.flatMap _) v hi h.st h.fr.size (by omega) h.ptr h1 rfl h2).mono fun e W2 hk => ?_
    cases hel : zdh toks i with
    | bad ke pe => rw [hel] at hk; exact h.bad (by omega) h2 hk
    | ok y j => rw [hel] at hk; exact h.one (by omega) (by omega) (by omega) hg (fun _ _ => rfl) h1 h2 (by decide) (by decide) hk)
   (methodE_ok hend) K i res hres W1 hW hi)
 have hmf : ∀ (fn : Fn) (first cap : Array Value) (w : World), (Instr.makeFunc fn first cap).run Tryz.prog w = .ok (.func fn first cap) w := fun _ _ _ _ => rfl
 clear hres
 have HS := Zq.mk hs
 clear hs
 cases res with
 | bad ke pe =>
  go_enter Tryz.func179, Tryz.ntmps179
  go_wp2_with (go_at_call 198; refine (HL.out _ (zen _ (fun v => #[.int .i64 9, .string ⟨#[]⟩, .string ⟨#[]⟩, .slice none 0 0, .slice none 0 0, v, .slice none 0 0, .int .i64 a]) HS.out)).mono ?_; rintro e1 w1 ⟨rfl, hF⟩)
  exact ⟨rfl, rfl, hF⟩
 | ok l j =>
  go_enter Tryz.func179, Tryz.ntmps179
  go_wp2_with (first
   | (go_at_call 198; refine (HL.out _ (zen _ (fun v => #[.int .i64 9, .string ⟨#[]⟩, .string ⟨#[]⟩, .slice none 0 0, .slice none 0 0, v, .slice none 0 0, .int .i64 a]) HS.out)).mono ?_; rintro e1 w1 ⟨rfl, hX, hj, hl33⟩; obtain ⟨A, cap, hcap, H1, H2, c3, f3, d0, d1, d2, d3, d4, d5, d6, d7, z0, z1, z2, z3, z4, z5, z6, z7, y0, y1, y2, y3, y4, y5, y6, y7⟩ := method_facts hX; have hbig : l.length ≤ 140737488355328 := (by omega); have hne : ¬ W.heap.size + 1 + 1 = W.heap.size + 1 := (by omega); have HX := Zq.mk hX; clear hX)
   | (go_at_call 204; refine (clip_string _ _ _ _ hcap hbig).mono ?_; rintro e2 w2 ⟨rfl, hw⟩; subst w2))
  obtain ⟨R1, R2, R3, R4⟩ := HX.out.over (f := 5) hg hT H1.out H2.out.clip (by decide) (.int .i64 9) (.string ⟨#[]⟩) (.string ⟨#[]⟩) (.slice none 0 0) (.slice none 0 0) (.slice A l.length l.length) (.slice none 0 0) (.int .i64 a)
  refine bodyPost_ret (results_cell_row rfl _ _ (W.heap.size + 1) 60 #[.int .i64 9, .string ⟨#[]⟩, .string ⟨#[]⟩, .slice none 0 0, .slice none 0 0, .slice A l.length l.length, .slice none 0 0, .int .i64 a] (0, 0) _ rfl R1 Tryz.underlying60 rfl (by kernel_rfl)) rfl ?_
  exact ⟨_, _, rfl, .mk (Row.nil _ _ _ _) (Row.nil _ _ _ _) (flat_text l ▸ R4.clip) (Row.nil _ _ _ _) .nil, R2, R3, hj⟩
end
section
theorem zbz {w : World} {m : Nat} (h : w.heap[m]? = some (.cells zce 60 (0, 0))) : w.cell? ⟨m, 0, none⟩ = some (.int .i64 0) ∧ w.cell? ⟨m, 1, none⟩ = some (.string ⟨#[]⟩) ∧ w.cell? ⟨m, 2, none⟩ = some (.string ⟨#[]⟩) ∧ w.cell? ⟨m, 3, none⟩ = some (.slice none 0 0) ∧ w.cell? ⟨m, 4, none⟩ = some (.slice none 0 0) ∧ w.cell? ⟨m, 5, none⟩ = some (.slice none 0 0) ∧ w.cell? ⟨m, 6, none⟩ = some (.slice none 0 0) ∧ w.cell? ⟨m, 7, none⟩ = some (.int .i64 0) ∧ w.frozen? ⟨m, 0, none⟩ = false ∧ w.frozen? ⟨m, 1, none⟩ = false ∧ w.frozen? ⟨m, 2, none⟩ = false ∧ w.frozen? ⟨m, 3, none⟩ = false ∧ w.frozen? ⟨m, 4, none⟩ = false ∧ w.frozen? ⟨m, 5, none⟩ = false ∧ w.frozen? ⟨m, 6, none⟩ = false ∧ w.frozen? ⟨m, 7, none⟩ = false := ⟨zae h 0, zae h 1, zae h 2, zae h 3, zae h 4, zae h 5, zae h 6, zae h 7, zaf h 0, zaf h 1, zaf h 2, zaf h 3, zaf h 4, zaf h 5, zaf h 6, zaf h 7⟩
theorem zcp {W w : World} {g T c i : Nat} {toks : List Tok} (hg : g < W.heap.size) (hT : T < W.heap.size) (h : w.heap[W.heap.size]? = some (.cells zce 60 (0, 0))) (hS : PSt w g T c toks i) (hF : Fr W w (· = g)) (v0 v1 v2 v3 v4 v5 v6 v7 : Value) :
  let W2 := zmn w W.heap.size v0 v1 v2 v3 v4 v5 v6 v7
  W2.heap[W.heap.size]? = some (.cells #[v0, v1, v2, v3, v4, v5, v6, v7] 60 (0, 0)) ∧ PSt W2 g T c toks i ∧ Fr W W2 (· = g) := by
 intro W2
 have hF2 := zdf w W.heap.size v0 v1 v2 v3 v4 v5 v6 v7
 exact ⟨zhr h _ _ _ _ _ _ _ _, hS.fr hF2 (by omega) (by omega), hF.then_ hF2 fun k hk => .inr (by omega)⟩
theorem path_calls (W : World) (g T c : Nat) (toks : List Tok) (hend : ∀ k, k < toks.length → (tk toks k).kind ≠ 8 → k + 1 < toks.length) (i : Nat) (hi : i < toks.length) (a : Int) (hs : PSt W g T c toks i) :
  Calls Tryz.prog 180 #[.pointer (some ⟨g, 0, none⟩), .int .i64 a] W (znx W g T c toks ((zby toks zdy i).bind fun _ j => (ofP toks 6 j).bind fun u m => .ok ⟨10, ⟨#[]⟩, u.text, [], [], [], [], a⟩ m)) := by
 have hg := hs.lts.1
 have hT := hs.lts.2.1
 have hf1 := zml
 have HW := Zq.mk (fun W' j s hj (h' : PSt W' g T c toks j) => zde W' g T c toks j _ (zbt toks hj) s h')
 have HO := Zq.mk (fun W' j k hj (h' : PSt W' g T c toks j) => zfi W' g T c toks j _ (zbt toks hj) k h')
 have HX0 := Zq.mk (hs.alloc (.cells zce 60))
 have HZ0 := Zq.mk (heap_alloc_new W (.cells zce 60))
 have HF0 := Zq.mk ((Fr.refl W (· = g)).alloc (.cells zce 60))
 clear hs
 unfold zby ofP
 have HC0 := Zq.mk (fun W' h' => HW.out W' (i) zdy hi h')
 by_cases c0 : isT (tk toks (i)) zdy = true
 ·have hi1 := hend (i) hi (zbk c0)
  simp only [if_pos c0, PR.bind] at HC0 ⊢
  have HC1 := Zq.mk (fun W' h' => HO.out W' (i + 1) 6 hi1 h')
  by_cases c1 : (tk toks (i + 1)).kind = 6
  ·have hi2 := hend (i + 1) hi1 (by omega)
   simp only [if_pos c1, PR.bind] at HC1 ⊢
   go_enter Tryz.func180, Tryz.ntmps180
   go_wp2_with (first
    | (go_at_call 53; refine (HC0.out _ HX0.out).mono ?_; rintro e0 w0 ⟨⟨rfl, hS⟩, hF⟩; have HX1 := Zq.mk hS; have HZ1 := Zq.mk (hF.blk HZ0.out (by show ¬ W.heap.size = g; omega)); have HF1 := Zq.mk (HF0.out.trans hF); clear hS hF HC0 HX0)
    | (go_at_call 52; refine (HC1.out _ HX1.out).mono ?_; rintro e1 w1 ⟨⟨rfl, hS⟩, hF⟩; have HX2 := Zq.mk hS; have HZ2 := Zq.mk (hF.blk HZ1.out (by show ¬ W.heap.size = g; omega)); have HF2 := Zq.mk (HF1.out.trans hF); obtain ⟨y0, y1, y2, y3, y4, y5, y6, y7, z0, z1, z2, z3, z4, z5, z6, z7⟩ := zbz HZ2.out; clear hS hF HC1 HX1))
   obtain ⟨R1, R2, R3⟩ := zcp hg hT HZ2.out HX2.out HF2.out (.int .i64 10) (.string ⟨#[]⟩) (.string (tk toks (i + 1)).text) (.slice none 0 0) (.slice none 0 0) (.slice none 0 0) (.slice none 0 0) (.int .i64 a)
   refine bodyPost_ret (results_cell_row rfl _ _ W.heap.size 60 #[.int .i64 10, .string ⟨#[]⟩, .string (tk toks (i + 1)).text, .slice none 0 0, .slice none 0 0, .slice none 0 0, .slice none 0 0, .int .i64 a] (0, 0) _ rfl R1 Tryz.underlying60 rfl (by kernel_rfl)) rfl ?_
   exact ⟨_, _, rfl, .mk (Row.nil _ _ _ _) (Row.nil _ _ _ _) (Row.nil _ _ _ _) (Row.nil _ _ _ _) .nil, R2, R3, hi2⟩
  ·simp only [if_neg c1, PR.bind] at HC1 ⊢
   go_enter Tryz.func180, Tryz.ntmps180
   go_wp2_with (first
    | (go_at_call 53; refine (HC0.out _ HX0.out).mono ?_; rintro e0 w0 ⟨⟨rfl, hS⟩, hF⟩; have HX1 := Zq.mk hS; have HZ1 := Zq.mk (hF.blk HZ0.out (by show ¬ W.heap.size = g; omega)); have HF1 := Zq.mk (HF0.out.trans hF); clear hS hF HC0 HX0)
    | (go_at_call 52; refine (HC1.out _ HX1.out).mono ?_; rintro e1 w1 ⟨rfl, hF⟩; have HB := HF1.out.trans hF))
   exact ⟨rfl, rfl, HB⟩
 ·simp only [if_neg c0, PR.bind] at HC0 ⊢
  go_enter Tryz.func180, Tryz.ntmps180
  go_wp2_with (first
   | (go_at_call 53; refine (HC0.out _ HX0.out).mono ?_; rintro e0 w0 ⟨rfl, hF⟩; have HB := HF0.out.trans hF))
  exact ⟨rfl, rfl, HB⟩
theorem header_calls (W : World) (g T c : Nat) (toks : List Tok) (hend : ∀ k, k < toks.length → (tk toks k).kind ≠ 8 → k + 1 < toks.length) (i : Nat) (hi : i < toks.length) (a : Int) (hs : PSt W g T c toks i) :
  Calls Tryz.prog 181 #[.pointer (some ⟨g, 0, none⟩), .int .i64 a] W (znx W g T c toks ((ofP toks 6 i).bind fun n j => (zby toks zdy j).bind fun _ m => (ofP toks 6 m).bind fun u q => .ok ⟨11, n.text, u.text, [], [], [], [], a⟩ q)) := by
 have hg := hs.lts.1
 have hT := hs.lts.2.1
 have hf1 := zml
 have HW := Zq.mk (fun W' j s hj (h' : PSt W' g T c toks j) => zde W' g T c toks j _ (zbt toks hj) s h')
 have HO := Zq.mk (fun W' j k hj (h' : PSt W' g T c toks j) => zfi W' g T c toks j _ (zbt toks hj) k h')
 have HX0 := Zq.mk (hs.alloc (.cells zce 60))
 have HZ0 := Zq.mk (heap_alloc_new W (.cells zce 60))
 have HF0 := Zq.mk ((Fr.refl W (· = g)).alloc (.cells zce 60))
 clear hs
 unfold zby ofP
 have HC0 := Zq.mk (fun W' h' => HO.out W' (i) 6 hi h')
 by_cases c0 : (tk toks (i)).kind = 6
 ·have hi1 := hend (i) hi (by omega)
  simp only [if_pos c0, PR.bind] at HC0 ⊢
  have HC1 := Zq.mk (fun W' h' => HW.out W' (i + 1) zdy hi1 h')
  by_cases c1 : isT (tk toks (i + 1)) zdy = true
  ·have hi2 := hend (i + 1) hi1 (zbk c1)
   simp only [if_pos c1, PR.bind] at HC1 ⊢
   have HC2 := Zq.mk (fun W' h' => HO.out W' (i + 1 + 1) 6 hi2 h')
   by_cases c2 : (tk toks (i + 1 + 1)).kind = 6
   ·have hi3 := hend (i + 1 + 1) hi2 (by omega)
    simp only [if_pos c2, PR.bind] at HC2 ⊢
    go_enter Tryz.func181, Tryz.ntmps181
    go_wp2_with (first
     | (go_at_call 52; refine (HC0.out _ HX0.out).mono ?_; rintro e0 w0 ⟨⟨rfl, hS⟩, hF⟩; have HX1 := Zq.mk hS; have HZ1 := Zq.mk (hF.blk HZ0.out (by show ¬ W.heap.size = g; omega)); have HF1 := Zq.mk (HF0.out.trans hF); clear hS hF HC0 HX0)
     | (go_at_call 53; refine (HC1.out _ HX1.out).mono ?_; rintro e1 w1 ⟨⟨rfl, hS⟩, hF⟩; have HX2 := Zq.mk hS; have HZ2 := Zq.mk (hF.blk HZ1.out (by show ¬ W.heap.size = g; omega)); have HF2 := Zq.mk (HF1.out.trans hF); clear hS hF HC1 HX1)
     | (go_at_call 52; refine (HC2.out _ HX2.out).mono ?_; rintro e2 w2 ⟨⟨rfl, hS⟩, hF⟩; have HX3 := Zq.mk hS; have HZ3 := Zq.mk (hF.blk HZ2.out (by show ¬ W.heap.size = g; omega)); have HF3 := Zq.mk (HF2.out.trans hF); obtain ⟨y0, y1, y2, y3, y4, y5, y6, y7, z0, z1, z2, z3, z4, z5, z6, z7⟩ := zbz HZ3.out; clear hS hF HC2 HX2))
    obtain ⟨R1, R2, R3⟩ := zcp hg hT HZ3.out HX3.out HF3.out (.int .i64 11) (.string (tk toks i).text) (.string (tk toks (i + 1 + 1)).text) (.slice none 0 0) (.slice none 0 0) (.slice none 0 0) (.slice none 0 0) (.int .i64 a)
    refine bodyPost_ret (results_cell_row rfl _ _ W.heap.size 60 #[.int .i64 11, .string (tk toks i).text, .string (tk toks (i + 1 + 1)).text, .slice none 0 0, .slice none 0 0, .slice none 0 0, .slice none 0 0, .int .i64 a] (0, 0) _ rfl R1 Tryz.underlying60 rfl (by kernel_rfl)) rfl ?_
    exact ⟨_, _, rfl, .mk (Row.nil _ _ _ _) (Row.nil _ _ _ _) (Row.nil _ _ _ _) (Row.nil _ _ _ _) .nil, R2, R3, hi3⟩
   ·simp only [if_neg c2, PR.bind] at HC2 ⊢
    go_enter Tryz.func181, Tryz.ntmps181
    go_wp2_with (first
     | (go_at_call 52; refine (HC0.out _ HX0.out).mono ?_; rintro e0 w0 ⟨⟨rfl, hS⟩, hF⟩; have HX1 := Zq.mk hS; have HZ1 := Zq.mk (hF.blk HZ0.out (by show ¬ W.heap.size = g; omega)); have HF1 := Zq.mk (HF0.out.trans hF); clear hS hF HC0 HX0)
     | (go_at_call 53; refine (HC1.out _ HX1.out).mono ?_; rintro e1 w1 ⟨⟨rfl, hS⟩, hF⟩; have HX2 := Zq.mk hS; have HZ2 := Zq.mk (hF.blk HZ1.out (by show ¬ W.heap.size = g; omega)); have HF2 := Zq.mk (HF1.out.trans hF); clear hS hF HC1 HX1)
     | (go_at_call 52; refine (HC2.out _ HX2.out).mono ?_; rintro e2 w2 ⟨rfl, hF⟩; have HB := HF2.out.trans hF))
    exact ⟨rfl, rfl, HB⟩
  ·simp only [if_neg c1, PR.bind] at HC1 ⊢
   go_enter Tryz.func181, Tryz.ntmps181
   go_wp2_with (first
    | (go_at_call 52; refine (HC0.out _ HX0.out).mono ?_; rintro e0 w0 ⟨⟨rfl, hS⟩, hF⟩; have HX1 := Zq.mk hS; have HZ1 := Zq.mk (hF.blk HZ0.out (by show ¬ W.heap.size = g; omega)); have HF1 := Zq.mk (HF0.out.trans hF); clear hS hF HC0 HX0)
    | (go_at_call 53; refine (HC1.out _ HX1.out).mono ?_; rintro e1 w1 ⟨rfl, hF⟩; have HB := HF1.out.trans hF))
   exact ⟨rfl, rfl, HB⟩
 ·simp only [if_neg c0, PR.bind] at HC0 ⊢
  go_enter Tryz.func181, Tryz.ntmps181
  go_wp2_with (first
   | (go_at_call 52; refine (HC0.out _ HX0.out).mono ?_; rintro e0 w0 ⟨rfl, hF⟩; have HB := HF0.out.trans hF))
  exact ⟨rfl, rfl, HB⟩
theorem has_calls (W : World) (g T c : Nat) (toks : List Tok) (hend : ∀ k, k < toks.length → (tk toks k).kind ≠ 8 → k + 1 < toks.length) (i : Nat) (hi : i < toks.length) (a : Int) (hs : PSt W g T c toks i) :
  Calls Tryz.prog 182 #[.pointer (some ⟨g, 0, none⟩), .int .i64 a] W (znx W g T c toks ((ofP toks 6 i).bind fun n j => .ok ⟨12, n.text, ⟨#[]⟩, [], [], [], [], a⟩ j)) := by
 have hg := hs.lts.1
 have hT := hs.lts.2.1
 have hf1 := zml
 have HW := Zq.mk (fun W' j s hj (h' : PSt W' g T c toks j) => zde W' g T c toks j _ (zbt toks hj) s h')
 have HO := Zq.mk (fun W' j k hj (h' : PSt W' g T c toks j) => zfi W' g T c toks j _ (zbt toks hj) k h')
 have HX0 := Zq.mk (hs.alloc (.cells zce 60))
 have HZ0 := Zq.mk (heap_alloc_new W (.cells zce 60))
 have HF0 := Zq.mk ((Fr.refl W (· = g)).alloc (.cells zce 60))
 clear hs
 unfold ofP
 have HC0 := Zq.mk (fun W' h' => HO.out W' (i) 6 hi h')
 by_cases c0 : (tk toks (i)).kind = 6
 ·have hi1 := hend (i) hi (by omega)
  simp only [if_pos c0, PR.bind] at HC0 ⊢
  go_enter Tryz.func182, Tryz.ntmps182
  go_wp2_with (first
   | (go_at_call 52; refine (HC0.out _ HX0.out).mono ?_; rintro e0 w0 ⟨⟨rfl, hS⟩, hF⟩; have HX1 := Zq.mk hS; have HZ1 := Zq.mk (hF.blk HZ0.out (by show ¬ W.heap.size = g; omega)); have HF1 := Zq.mk (HF0.out.trans hF); obtain ⟨y0, y1, y2, y3, y4, y5, y6, y7, z0, z1, z2, z3, z4, z5, z6, z7⟩ := zbz HZ1.out; clear hS hF HC0 HX0))
  obtain ⟨R1, R2, R3⟩ := zcp hg hT HZ1.out HX1.out HF1.out (.int .i64 12) (.string (tk toks i).text) (.string ⟨#[]⟩) (.slice none 0 0) (.slice none 0 0) (.slice none 0 0) (.slice none 0 0) (.int .i64 a)
  refine bodyPost_ret (results_cell_row rfl _ _ W.heap.size 60 #[.int .i64 12, .string (tk toks i).text, .string ⟨#[]⟩, .slice none 0 0, .slice none 0 0, .slice none 0 0, .slice none 0 0, .int .i64 a] (0, 0) _ rfl R1 Tryz.underlying60 rfl (by kernel_rfl)) rfl ?_
  exact ⟨_, _, rfl, .mk (Row.nil _ _ _ _) (Row.nil _ _ _ _) (Row.nil _ _ _ _) (Row.nil _ _ _ _) .nil, R2, R3, hi1⟩
 ·simp only [if_neg c0, PR.bind] at HC0 ⊢
  go_enter Tryz.func182, Tryz.ntmps182
  go_wp2_with (first
   | (go_at_call 52; refine (HC0.out _ HX0.out).mono ?_; rintro e0 w0 ⟨rfl, hF⟩; have HB := HF0.out.trans hF))
  exact ⟨rfl, rfl, HB⟩
end
end Go.Proofs.YtjeekocidaogoaaGreatDoor.H

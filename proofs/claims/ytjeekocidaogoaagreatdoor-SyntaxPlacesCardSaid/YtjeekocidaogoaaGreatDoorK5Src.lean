/- The parser's state: tokens, and which is next; its small functions. -/
/- slices.Clip. -/
/- The contract of addr.Parse: a text at its dots, four numbers, an address. -/
/- Lemmas and contracts that the claim's theorem comes to. -/
/- Lemmas and contracts that the claim's theorem comes to. -/
/- Lemmas and contracts that the claim's theorem comes to. -/
/- Lemmas and contracts that the claim's theorem comes to. -/
/- Lemmas and contracts that the claim's theorem comes to. -/
/- Lemmas and contracts that the claim's theorem comes to. -/
/- Lemmas and contracts that the claim's theorem comes to. -/
/- Lemmas and contracts that the claim's theorem comes to. -/
/- Lemmas and contracts that the claim's theorem comes to. -/
/- Contracts of Go functions as plain Lean functions, written by a program of this session (wip/hand) out of the translation. -/
import Derived.Test.YtjeekocidaogoaaGreatDoorProg
import Derived.Test.YtjeekocidaogoaaGreatDoorK5WApart
import Derived.KernelRfl
import Derived.Laws.Rows
import Derived.WalkLawsBesides
import Derived.Deep.LoopGhost
import Derived.Deep.QuietTactic
import Derived.Deep.RegionWith
import Derived.BigQuiet
import Derived.Lib.OthersKept
import Derived.Lib.Split
import Derived.Lib.SplitLaws
import Derived.Lib.CountLaws
import Derived.Test.YtjeekocidaogoaaGreatDoorK5WWords
import Derived.Laws.StructEq
import Derived.Below
import Derived.Deep.Draws
import Derived.Deep.AppendLies
import Derived.Maps.AppendAt
import Derived.OwnWalk
import Derived.Laws.BytesArg
import Derived.Laws.MakeOwn
import Derived.Laws.OwnMore
import Derived.Deep.OwnRows
import Derived.Tactics
import Derived.Lib.ConvBytes
import Derived.Laws.Slices
import Derived.WalkKit
import Derived.RowKit3
import Derived.WideLaws
import Derived.Deep.DeepCutAuto
import Derived.Deep.CutBlock
import Derived.Deep.RegionHeld3
import Derived.Lib.AppendStr
import Derived.ArgAppend
import Derived.Laws.IdiomCopy
import Derived.OrdersHeld
import Derived.Laws.BitsLemmas
import Derived.RowKit
import Derived.Deep.Cut
set_option linter.unusedVariables false
set_option linter.unusedSimpArgs false
set_option maxRecDepth 100000
set_option maxHeartbeats 8000000
namespace Go.Proofs.YtjeekocidaogoaaGreatDoor.Hand
open Go.RowKit Go.Proofs.YtjeekocidaogoaaGreatDoorW.PrintWords Go.Proofs.YtjeekocidaogoaaGreatDoorW.PrintLast Go.Proofs.YtjeekocidaogoaaGreatDoorW.PrintMore
section
structure Tok where
 kind : Int
 text : ByteArray
 num : Int
 pa : Int
 pb : Int
 place : Int
def Tok.cells (t : Tok) : List Value := [.int .i64 t.kind, .string t.text, .int .i64 t.num, .int .i64 t.pa, .int .i64 t.pb, .int .i64 t.place]
abbrev Tok.val (t : Tok) : Value := .agg #[.int .i64 t.kind, .string t.text, .int .i64 t.num, .int .i64 t.pa, .int .i64 t.pb, .int .i64 t.place]
def Toks (W : World) (T : Nat) (toks : List Tok) : Prop := ∃ cs, W.heap[T]? = some (.cells cs 49 (0, 0)) ∧ ∀ j t, toks[j]? = some t → ∀ r, r < 6 → cs[j * 6 + r]? = (t.cells)[r]?
structure PSt (W : World) (g T c : Nat) (toks : List Tok) (i : Nat) : Prop where
 src : W.heap[g]? = some (.cells #[.slice (some ⟨T, 0, none⟩) toks.length c, .int .i64 i] 73 (0, 0))
 tok : Toks W T toks
 many : toks.length ≤ 8001
theorem Toks.cell {W : World} {T : Nat} {toks : List Tok} (h : Toks W T toks) {j : Nat} {t : Tok} (hj : toks[j]? = some t) :
  W.cell? ⟨T, j * 6, none⟩ = some (.int .i64 t.kind) ∧ W.cell? ⟨T, j * 6 + 1, none⟩ = some (.string t.text) ∧ W.cell? ⟨T, j * 6 + 2, none⟩ = some (.int .i64 t.num) ∧
  W.cell? ⟨T, j * 6 + 3, none⟩ = some (.int .i64 t.pa) ∧ W.cell? ⟨T, j * 6 + 4, none⟩ = some (.int .i64 t.pb) ∧ W.cell? ⟨T, j * 6 + 5, none⟩ = some (.int .i64 t.place) := by
 obtain ⟨cs, h1, h2⟩ := h
 refine ⟨(zae h1 _).trans (h2 j t hj 0 (by decide)), (zae h1 _).trans (h2 j t hj 1 (by decide)), (zae h1 _).trans (h2 j t hj 2 (by decide)), (zae h1 _).trans (h2 j t hj 3 (by decide)), (zae h1 _).trans (h2 j t hj 4 (by decide)), (zae h1 _).trans (h2 j t hj 5 (by decide))⟩
theorem PSt.blk {W w1 : World} {g T c i : Nat} {toks : List Tok} (h : PSt W g T c toks i) (hs : w1.heap[g]? = W.heap[g]?) (ht : w1.heap[T]? = W.heap[T]?) : PSt w1 g T c toks i :=
 ⟨hs.trans h.src, by obtain ⟨cs, h1, h2⟩ := h.tok; exact ⟨cs, ht.trans h1, h2⟩, h.many⟩
theorem PSt.lts {W : World} {g T c i : Nat} {toks : List Tok} (h : PSt W g T c toks i) : g < W.heap.size ∧ T < W.heap.size ∧ g ≠ T := by
 obtain ⟨cs, h1, _⟩ := h.tok
 refine ⟨zat h.src, zat h1, ?_⟩
 rintro rfl
 have := h.src
 rw [h1] at this
 injection this with this
 injection this with _ h3
 exact absurd h3 (by decide)
theorem PSt.fr {W w1 : World} {g T c i : Nat} {toks : List Tok} {S : Nat → Prop} (h : PSt W g T c toks i) (hf : Fr W w1 S) (hg : ¬ S g) (hT : ¬ S T) : PSt w1 g T c toks i :=
 h.blk (hf.block g h.lts.1 hg) (hf.block T h.lts.2.1 hT)
theorem PSt.alloc {W : World} {g T c i : Nat} {toks : List Tok} (h : PSt W g T c toks i) (o : Obj) : PSt (W.alloc o) g T c toks i :=
 h.blk (Below.heap_alloc W o g h.lts.1) (Below.heap_alloc W o T h.lts.2.1)
theorem PSt.below {W w1 : World} {g T c i : Nat} {toks : List Tok} (h : PSt W g T c toks i) (hb : Below W.heap.size W w1) : PSt w1 g T c toks i :=
 h.blk (hb.block g h.lts.1) (hb.block T h.lts.2.1)
theorem PSt.drew {W : World} {g T c i : Nat} {toks : List Tok} (h : PSt W g T c toks i) : PSt W.drew g T c toks i := ⟨h.src, h.tok, h.many⟩
theorem zrg {α : Type} {l : List α} {i : Nat} {t : α} (h : l[i]? = some t) : i < l.length := (List.getElem?_eq_some_iff.1 h).1
theorem PSt.step {W : World} {g T c i : Nat} {toks : List Tok} (h : PSt W g T c toks i) : PSt (W.setCell ⟨g, 1, none⟩ (.int .i64 ((i : Int) + 1))) g T c toks (i + 1) := by
 obtain ⟨cs, h3, h4⟩ := h.tok
 exact ⟨zak h.src 1 _ rfl, ⟨cs, zar h3 h.lts.2.2.symm _, h4⟩, h.many⟩
theorem PSt.facts {W : World} {g T c i : Nat} {toks : List Tok} (h : PSt W g T c toks i) : W.cell? ⟨g, 0, none⟩ = some (.slice (some ⟨T, 0, none⟩) toks.length c) ∧ W.cell? ⟨g, 1, none⟩ = some (.int .i64 i) ∧ W.frozen? ⟨g, 1, none⟩ = false :=
 ⟨zae h.src 0, zae h.src 1, zaf h.src 1⟩
section
variable (a : Int) (s : ByteArray) (b c d e : Int) (w : World)
theorem zqp : (Instr.field 49 (.agg #[.int .i64 a, .string s, .int .i64 b, .int .i64 c, .int .i64 d, .int .i64 e]) 0).run Tryz.prog w = .ok (.int .i64 a) w := by kernel_rfl
theorem zml : (Instr.field 49 (.agg #[.int .i64 a, .string s, .int .i64 b, .int .i64 c, .int .i64 d, .int .i64 e]) 1).run Tryz.prog w = .ok (.string s) w := by kernel_rfl
theorem tok_f2 : (Instr.field 49 (.agg #[.int .i64 a, .string s, .int .i64 b, .int .i64 c, .int .i64 d, .int .i64 e]) 2).run Tryz.prog w = .ok (.int .i64 b) w := by kernel_rfl
theorem tok_f3 : (Instr.field 49 (.agg #[.int .i64 a, .string s, .int .i64 b, .int .i64 c, .int .i64 d, .int .i64 e]) 3).run Tryz.prog w = .ok (.agg #[.int .i64 c, .int .i64 d]) w := by kernel_rfl
theorem zoz : (Instr.field 49 (.agg #[.int .i64 a, .string s, .int .i64 b, .int .i64 c, .int .i64 d, .int .i64 e]) 4).run Tryz.prog w = .ok (.int .i64 e) w := by kernel_rfl
end
theorem zca (W : World) (g T c : Nat) (toks : List Tok) (i : Nat) (t : Tok) (ht : toks[i]? = some t) (h : PSt W g T c toks i) :
  Calls Tryz.prog 28 #[.pointer (some ⟨g, 0, none⟩)] W fun e W' => e = .returned (.agg #[.int .i64 t.kind, .string t.text, .int .i64 t.num, .int .i64 t.pa, .int .i64 t.pb, .int .i64 t.place]) ∧ Below W.heap.size W W' := by
 have HA := fun o => (h.alloc o).facts
 have s0 := fun o => (HA o).1
 have s1 := fun o => (HA o).2.1
 have HC := fun o => (h.alloc o).tok.cell ht
 have d0 := fun o => (HC o).1
 have d1 := fun o => (HC o).2.1
 have d2 := fun o => (HC o).2.2.1
 have d3 := fun o => (HC o).2.2.2.1
 have d4 := fun o => (HC o).2.2.2.2.1
 have d5 := fun o => (HC o).2.2.2.2.2
 have hlt := zrg ht
 have hmany := h.many
 clear h HA HC ht
 go_enter Tryz.func28, Tryz.ntmps28
 go_wp2
 go_region
 all_goals (try go_wp2)
 refine bodyPost_ret (results_cell_row rfl _ _ W.heap.size 49 #[.int .i64 t.kind, .string t.text, .int .i64 t.num, .int .i64 t.pa, .int .i64 t.pb, .int .i64 t.place] (0, 0) _ rfl (by exact heap_alloc_new W _) Tryz.underlying49 rfl (by kernel_rfl)) rfl ?_
 exact ⟨rfl, ((Below.refl _ _).alloc (Nat.le_refl _) _).drew⟩
def zfx (e at_ : Int) : PanicEntry := { v := .iface 70 (.agg #[.int .i64 e, .int .i64 at_]), recovered := false }
theorem zdt (W : World) (g T c : Nat) (toks : List Tok) (i : Nat) (t : Tok) (ht : toks[i]? = some t) (e : Int) (h : PSt W g T c toks i) :
  Calls Tryz.prog 51 #[.pointer (some ⟨g, 0, none⟩), .int .i64 e] W fun e' W' => e' = .panicked [zfx e t.place] ∧ Below W.heap.size W W' := by
 have HP := Zq.mk (zca W g T c toks i t ht h)
 have hf4 := zoz
 clear ht h
 go_enter Tryz.func51, Tryz.ntmps51
 go_wp2_with (go_at_call 28; refine HP.out.mono ?_; rintro e' w' ⟨rfl, hb⟩)
 go_wp2
 exact ⟨rfl, rfl, hb⟩
def isT (t : Tok) (s : ByteArray) : Bool := (t.kind == 1 || t.kind == 7) && t.text.toList == s.toList
theorem zbk {t : Tok} {s : ByteArray} (h : isT t s = true) : t.kind ≠ 8 := by
 unfold isT at h
 rw [Bool.and_eq_true, Bool.or_eq_true, beq_iff_eq, beq_iff_eq] at h
 omega
theorem is_calls (W : World) (g T c : Nat) (toks : List Tok) (i : Nat) (t : Tok) (ht : toks[i]? = some t) (s : ByteArray) (h : PSt W g T c toks i) :
  Calls Tryz.prog 111 #[.pointer (some ⟨g, 0, none⟩), .string s] W fun e W' => e = .returned (.bool (isT t s)) ∧ Below W.heap.size W W' := by
 have HP := Zq.mk (zca W g T c toks i t ht h)
 clear ht h
 go_enter Tryz.func111, Tryz.ntmps111
 go_wp2_with (go_at_call 28; refine HP.out.mono ?_; rintro e' w' ⟨rfl, hb⟩)
 all_goals go_ret
 all_goals refine ⟨?_, hb.alloc (Nat.le_of_lt_succ (Nat.lt_succ_of_le hb.size)) _⟩
 all_goals simp [isT, *]
theorem zch (W : World) (g T c : Nat) (toks : List Tok) (i : Nat) (t : Tok) (ht : toks[i]? = some t) (s : ByteArray) (h : PSt W g T c toks i) :
  Calls Tryz.prog 78 #[.pointer (some ⟨g, 0, none⟩), .string s] W fun e W' => e = .returned (.bool (isT t s)) ∧ PSt W' g T c toks (if isT t s = true then i + 1 else i) ∧ Fr W W' (· = g) := by
 have HP := Zq.mk (is_calls W g T c toks i t ht s h)
 have HH := Zq.mk h
 have hm := h.many
 have hl := zrg ht
 clear ht h
 generalize isT t s = b at HP ⊢
 cases b with
 | false =>
  go_enter Tryz.func78, Tryz.ntmps78
  go_wp2_with (go_at_call 111; refine HP.out.mono ?_; rintro e' w' ⟨rfl, hb⟩)
  go_ret
  exact ⟨rfl, HH.out.below hb, Fr.of_below hb⟩
 | true =>
  go_enter Tryz.func78, Tryz.ntmps78
  go_wp2_with (go_at_call 111; refine HP.out.mono ?_; rintro e' w' ⟨rfl, hb⟩; have hS := HH.out.below hb; obtain ⟨s0, s1, s2⟩ := hS.facts; have HS := Zq.mk hS; clear hS)
  go_ret
  exact ⟨rfl, HS.out.step, Fr.setCell (S := (· = g)) (Fr.of_below hb) (.inl rfl) _⟩
theorem zde (W : World) (g T c : Nat) (toks : List Tok) (i : Nat) (t : Tok) (ht : toks[i]? = some t) (s : ByteArray) (h : PSt W g T c toks i) :
  Calls Tryz.prog 53 #[.pointer (some ⟨g, 0, none⟩), .string s] W fun e W' =>
   (if isT t s = true then e = .returned (.tuple #[]) ∧ PSt W' g T c toks (i + 1) else e = .panicked [zfx 90 t.place]) ∧ Fr W W' (· = g) := by
 have HP := Zq.mk (zch W g T c toks i t ht s h)
 have HF := Zq.mk (fun W' (h' : PSt W' g T c toks i) => zdt W' g T c toks i t ht 90 h')
 clear ht h
 generalize isT t s = b at HP ⊢
 cases b with
 | false =>
  go_enter Tryz.func53, Tryz.ntmps53
  go_wp2_with (first | (go_at_call 78; refine HP.out.mono ?_; rintro e' w' ⟨rfl, hS, hF⟩) | (go_at_call 51; refine (HF.out _ hS).mono ?_; rintro e' w2 ⟨rfl, hb⟩))
  exact ⟨rfl, rfl, hF.trans (Fr.of_below hb)⟩
 | true =>
  go_enter Tryz.func53, Tryz.ntmps53
  go_wp2_with (go_at_call 78; refine HP.out.mono ?_; rintro e' w' ⟨rfl, hS, hF⟩)
  first | go_end0 | (refine bodyPost_ret (results_none rfl _ _ _) rfl ?_)
  exact ⟨⟨rfl, hS⟩, hF⟩
theorem six_stored {W : World} {g t : Nat} {a0 a1 a2 a3 a4 a5 : Value} (h : W.heap[g]? = some (.cells #[a0, a1, a2, a3, a4, a5] t (0, 0))) (v0 v1 v2 v3 v4 v5 : Value) :
  ((((((W.setCell ⟨g, 0, none⟩ v0).setCell ⟨g, 1, none⟩ v1).setCell ⟨g, 2, none⟩ v2).setCell ⟨g, 3, none⟩ v3).setCell ⟨g, 4, none⟩ v4).setCell ⟨g, 5, none⟩ v5).heap[g]? = some (.cells #[v0, v1, v2, v3, v4, v5] t (0, 0)) :=
 zak (zak (zak (zak (zak (zak h 0 v0 rfl) 1 v1 rfl) 2 v2 rfl) 3 v3 rfl) 4 v4 rfl) 5 v5 rfl
theorem PSt.far {W : World} {g T c i : Nat} {toks : List Tok} (h : PSt W g T c toks i) {p : Addr} (h1 : g ≠ p.block) (h2 : T ≠ p.block) (v : Value) : PSt (W.setCell p v) g T c toks i :=
 h.blk (Below.heap_setCell W p v g h1) (Below.heap_setCell W p v T h2)
theorem of_facts {W w' : World} {g T c i : Nat} {toks : List Tok} (h : PSt W g T c toks i) (hb : Below (W.alloc (.cells #[.int .i64 0, .string ⟨#[]⟩, .int .i64 0, .int .i64 0, .int .i64 0, .int .i64 0] 49)).heap.size (W.alloc (.cells #[.int .i64 0, .string ⟨#[]⟩, .int .i64 0, .int .i64 0, .int .i64 0, .int .i64 0] 49)) w')
  (o : Obj) (v0 v1 v2 v3 v4 v5 : Value) (ho : o = .cells #[v0, v1, v2, v3, v4, v5] 49) :
  Zq (PSt ((w'.alloc o).setCell ⟨g, 1, none⟩ (.int .i64 ((i : Int) + 1))) g T c toks (i + 1)) ∧ Zq (((w'.alloc o).setCell ⟨g, 1, none⟩ (.int .i64 ((i : Int) + 1))).heap[W.heap.size]? = some (.cells #[.int .i64 0, .string ⟨#[]⟩, .int .i64 0, .int .i64 0, .int .i64 0, .int .i64 0] 49 (0, 0))) ∧
  Zq (Fr W ((w'.alloc o).setCell ⟨g, 1, none⟩ (.int .i64 ((i : Int) + 1))) (· = g)) ∧ Zq (g ≠ W.heap.size ∧ T ≠ W.heap.size) ∧
  g ≠ w'.heap.size ∧ (w'.alloc o).cell? ⟨g, 1, none⟩ = some (.int .i64 i) ∧ (w'.alloc o).frozen? ⟨g, 1, none⟩ = false ∧
  (let W2 := (w'.alloc o).setCell ⟨g, 1, none⟩ (.int .i64 ((i : Int) + 1))
  W2.cell? ⟨w'.heap.size, 0, none⟩ = some v0 ∧ W2.cell? ⟨w'.heap.size, 1, none⟩ = some v1 ∧ W2.cell? ⟨w'.heap.size, 2, none⟩ = some v2 ∧ W2.cell? ⟨w'.heap.size, 3, none⟩ = some v3 ∧ W2.cell? ⟨w'.heap.size, 4, none⟩ = some v4 ∧ W2.cell? ⟨w'.heap.size, 5, none⟩ = some v5 ∧
  W2.cell? ⟨W.heap.size, 0, none⟩ = some (.int .i64 0) ∧ W2.cell? ⟨W.heap.size, 1, none⟩ = some (.string ⟨#[]⟩) ∧ W2.cell? ⟨W.heap.size, 2, none⟩ = some (.int .i64 0) ∧ W2.cell? ⟨W.heap.size, 3, none⟩ = some (.int .i64 0) ∧ W2.cell? ⟨W.heap.size, 4, none⟩ = some (.int .i64 0) ∧ W2.cell? ⟨W.heap.size, 5, none⟩ = some (.int .i64 0) ∧
  W2.frozen? ⟨W.heap.size, 0, none⟩ = false ∧ W2.frozen? ⟨W.heap.size, 1, none⟩ = false ∧ W2.frozen? ⟨W.heap.size, 2, none⟩ = false ∧ W2.frozen? ⟨W.heap.size, 3, none⟩ = false ∧ W2.frozen? ⟨W.heap.size, 4, none⟩ = false ∧ W2.frozen? ⟨W.heap.size, 5, none⟩ = false) := by
 subst ho
 have hS := (h.alloc _).below hb
 have hsz := hb.size
 have hl := h.lts.1
 rw [World.size_alloc] at hsz
 have hR : w'.heap[W.heap.size]? = some (.cells #[.int .i64 0, .string ⟨#[]⟩, .int .i64 0, .int .i64 0, .int .i64 0, .int .i64 0] 49 (0, 0)) := (hb.block _ (by simp)).trans (heap_alloc_new W _)
 have hR2 := zar (p := ⟨g, 1, none⟩) (zad hR (.cells #[v0, v1, v2, v3, v4, v5] 49)) (by show W.heap.size ≠ g; omega) (.int .i64 ((i : Int) + 1))
 have hQ := zar (p := ⟨g, 1, none⟩) (heap_alloc_new w' (.cells #[v0, v1, v2, v3, v4, v5] 49)) (by show w'.heap.size ≠ g; omega) (.int .i64 ((i : Int) + 1))
 have hT := h.lts.2.1
 exact ⟨⟨(hS.alloc _).step⟩, ⟨hR2⟩, ⟨Fr.setCell (S := (· = g)) ((((Fr.refl W _).alloc _).then_ (Fr.of_below (S := fun _ => False) hb) (fun _ h => h.elim)).alloc _) (.inl rfl) _⟩, ⟨by omega, by omega⟩, by omega, (hS.alloc _).facts.2.1, (hS.alloc _).facts.2.2, zae hQ 0, zae hQ 1, zae hQ 2, zae hQ 3, zae hQ 4, zae hQ 5, zae hR2 0, zae hR2 1, zae hR2 2, zae hR2 3, zae hR2 4, zae hR2 5, zaf hR2 0, zaf hR2 1, zaf hR2 2, zaf hR2 3, zaf hR2 4, zaf hR2 5⟩
theorem zfi (W : World) (g T c : Nat) (toks : List Tok) (i : Nat) (t : Tok) (ht : toks[i]? = some t) (k : Int) (h : PSt W g T c toks i) :
  Calls Tryz.prog 52 #[.pointer (some ⟨g, 0, none⟩), .int .i64 k] W fun e W' =>
   (if t.kind = k then e = .returned (.agg #[.int .i64 t.kind, .string t.text, .int .i64 t.num, .int .i64 t.pa, .int .i64 t.pb, .int .i64 t.place]) ∧ PSt W' g T c toks (i + 1) else e = .panicked [zfx 90 t.place]) ∧ Fr W W' (· = g) := by
 have HP := Zq.mk (fun W' (h' : PSt W' g T c toks i) => zca W' g T c toks i t ht h')
 have HF := Zq.mk (fun W' (h' : PSt W' g T c toks i) => zdt W' g T c toks i t ht 90 h')
 have HH := Zq.mk h
 have hm := h.many
 have hl := zrg ht
 clear ht h
 have hg0 : g ≠ W.heap.size := by have := HH.out.lts.1; omega
 by_cases hk : t.kind = k
 ·subst hk
  simp only [if_true]
  go_enter Tryz.func52, Tryz.ntmps52
  go_wp2_with (go_at_call 28; refine (HP.out _ (HH.out.alloc _)).mono ?_; rintro e' w' ⟨rfl, hb⟩; obtain ⟨HS, HR, HFr, HNE, hg1, s1, s2, q0, q1, q2, q3, q4, q5, r0, r1, r2, r3, r4, r5, z0, z1, z2, z3, z4, z5⟩ := of_facts HH.out hb (Obj.cells #[.int .i64 t.kind, .string t.text, .int .i64 t.num, .int .i64 t.pa, .int .i64 t.pb, .int .i64 t.place] 49) _ _ _ _ _ _ rfl)
  refine bodyPost_ret (results_cell_row rfl _ _ W.heap.size 49 #[.int .i64 t.kind, .string t.text, .int .i64 t.num, .int .i64 t.pa, .int .i64 t.pb, .int .i64 t.place] (0, 0) _ rfl (six_stored HR.out _ _ _ _ _ _) Tryz.underlying49 rfl (by kernel_rfl)) rfl ?_
  refine ⟨⟨rfl, ?_⟩, ?_⟩
  ·exact PSt.far (PSt.far (PSt.far (PSt.far (PSt.far (PSt.far HS.out HNE.out.1 HNE.out.2 _) HNE.out.1 HNE.out.2 _) HNE.out.1 HNE.out.2 _) HNE.out.1 HNE.out.2 _) HNE.out.1 HNE.out.2 _) HNE.out.1 HNE.out.2 _
  ·exact Fr.setCell (Fr.setCell (Fr.setCell (Fr.setCell (Fr.setCell (Fr.setCell HFr.out (.inr (Nat.le_refl _)) _) (.inr (Nat.le_refl _)) _) (.inr (Nat.le_refl _)) _) (.inr (Nat.le_refl _)) _) (.inr (Nat.le_refl _)) _) (.inr (Nat.le_refl _)) _
 ·simp only [if_neg hk]
  go_enter Tryz.func52, Tryz.ntmps52
  go_wp2_with (first | (go_at_call 28; refine (HP.out _ (HH.out.alloc _)).mono ?_; rintro e' w' ⟨rfl, hb⟩; have HS := Zq.mk ((HH.out.alloc _).below hb)) | (go_at_call 51; refine (HF.out _ (HS.out.alloc _)).mono ?_; rintro e' w2 ⟨rfl, hb2⟩))
  exact ⟨rfl, rfl, (((((Fr.refl W _).alloc _).then_ (Fr.of_below (S := fun _ => False) hb) (fun _ h => h.elim)).alloc _).then_ (Fr.of_below (S := fun _ => False) hb2) (fun _ h => h.elim))⟩
end
section
theorem znd (W : World) (A : Option Addr) (n c : Nat) (hc : n ≤ c) (hm : n ≤ 140737488355328) :
  Calls Tryz.prog 114 #[.slice A n c] W fun e W' => e = .returned (.slice A n n) ∧ W' = W := by
 go_enter Tryz.func114, Tryz.ntmps114
 go_wp2
 go_ret
 exact ⟨rfl, rfl⟩
theorem clip_item (W : World) (A : Option Addr) (n c : Nat) (hc : n ≤ c) (hm : n ≤ 140737488355328) :
  Calls Tryz.prog 30 #[.slice A n c] W fun e W' => e = .returned (.slice A n n) ∧ W' = W := by
 go_enter Tryz.func30, Tryz.ntmps30
 go_wp2
 go_ret
 exact ⟨rfl, rfl⟩
theorem clip_prefix (W : World) (A : Option Addr) (n c : Nat) (hc : n ≤ c) (hm : n ≤ 140737488355328) :
  Calls Tryz.prog 200 #[.slice A n c] W fun e W' => e = .returned (.slice A n n) ∧ W' = W := by
 go_enter Tryz.func200, Tryz.ntmps200
 go_wp2
 go_ret
 exact ⟨rfl, rfl⟩
theorem clip_span (W : World) (A : Option Addr) (n c : Nat) (hc : n ≤ c) (hm : n ≤ 140737488355328) :
  Calls Tryz.prog 202 #[.slice A n c] W fun e W' => e = .returned (.slice A n n) ∧ W' = W := by
 go_enter Tryz.func202, Tryz.ntmps202
 go_wp2
 go_ret
 exact ⟨rfl, rfl⟩
theorem clip_string (W : World) (A : Option Addr) (n c : Nat) (hc : n ≤ c) (hm : n ≤ 140737488355328) :
  Calls Tryz.prog 204 #[.slice A n c] W fun e W' => e = .returned (.slice A n n) ∧ W' = W := by
 go_enter Tryz.func204, Tryz.ntmps204
 go_wp2
 go_ret
 exact ⟨rfl, rfl⟩
end
section
theorem zjb (sep : ByteArray) : ∀ (k : Nat) (s t : ByteArray), t ∈ Lib.splitB sep 0 k s → t.size ≤ s.size
 | 0, s, t, h => by
  rw [Lib.splitB] at h
  rw [List.mem_singleton.1 h]
  exact Nat.le_refl _
 | k + 1, s, t, h => by
  rw [Lib.splitB] at h
  split at h
  ·rw [List.mem_singleton.1 h]
   exact Nat.le_refl _
  ·rcases List.mem_cons.1 h with rfl | h
   ·rw [ByteArray.size_extract]; omega
   ·have := zjb sep k _ t h
    rw [ByteArray.size_extract] at this
    omega
def dotS : ByteArray := ⟨#[46]⟩
def dots (s : ByteArray) : List ByteArray := Lib.splitB dotS 0 (Lib.countB s dotS) s
theorem dots_length (s : ByteArray) : (dots s).length = Lib.countB s dotS + 1 := Lib.splitB_all dotS (Nat.le_refl _) 0 _ s rfl
theorem dots_size (s t : ByteArray) (h : t ∈ dots s) : t.size ≤ s.size := zjb _ _ _ _ h
def zee (t : ByteArray) : Int × Bool := (addr_number.f t 255).getD (0, false)
theorem partN_eq (t : ByteArray) (h : t.size ≤ 281474976710656) : addr_number.f t 255 = some ((zee t).1, (zee t).2) := by
 unfold zee addr_number.f
 rw [if_pos ⟨h, by decide⟩]
 rfl
theorem partN_range (t : ByteArray) (h : (zee t).2 = true) : 0 ≤ (zee t).1 ∧ (zee t).1 < 256 := by
 unfold zee addr_number.f at h ⊢
 split at h
 ·rename_i hc
  rw [if_pos hc]
  simp only [Option.getD_some] at h ⊢
  split at h
  ·simp only [Bool.and_eq_true, decide_eq_true_eq] at h
   exact ⟨h.1, by show _ < 256; omega⟩
  ·cases h
  ·cases h
 ·cases h
def addr_Parse.f (a0 : ByteArray) : Option (Int × Int) :=
 if a0.size < 4294967281 then
  some (match dots a0 with
   | [a, b, c, d] => if (zee a).2 = true ∧ (zee b).2 = true ∧ (zee c).2 = true ∧ (zee d).2 = true then ((zee a).1 * 16777216 + (zee b).1 * 65536 + (zee c).1 * 256 + (zee d).1, 0) else (0, 30)
   | _ => (0, 30))
 else none
theorem split_dots (s : ByteArray) (w : World) (hInv : Inv w) (h1 : s.size < 4294967281) :
  Calls Tryz.prog 159 #[.string s, .string ⟨#[46]⟩] w fun e w' => e = .returned (.slice (some ⟨w.heap.size, 0, none⟩) (dots s).length (dots s).length) ∧ w' = w.alloc (.cells ((dots s).map Value.string).toArray 9) := by
 obtain ⟨m, hm⟩ := hInv.maxLen
 rw [dots_length]
 exact Tryz.strings_Split s dotS m w h1 hm (Nat.le_refl _)
theorem parse_not4 (a0 : ByteArray) (w : World) (n : Nat) (o : Obj) (hn : ((n : Int) != 4) = true)
  (hc : Calls Tryz.prog 159 #[.string a0, .string ⟨#[46]⟩] w fun e w' => e = .returned (.slice (some ⟨w.heap.size, 0, none⟩) n n) ∧ w' = w.alloc o) :
  Calls Tryz.prog 127 #[.string a0] w fun e w' => e = .returned (.tuple #[.int .i64 0, .int .i64 30]) ∧ Below w.heap.size w w' := by
 have HS := Lib.hid hc
 clear hc
 go_enter Tryz.func127, Tryz.ntmps127
 go_wp2_with (go_at_call 159; refine HS.out.mono ?_; rintro e w1 ⟨rfl, rfl⟩)
 go_ret2
 exact ⟨rfl, ((Below.refl _ _).alloc (Nat.le_refl _) _).alloc (by simp) _⟩
def zql (n : Nat → Int) (k j : Nat) : Value := .int .u8 (if j < k then n j else 0)
def arr4 (n : Nat → Int) (k : Nat) : Array Value := #[zql n k 0, zql n k 1, zql n k 2, zql n k 3]
theorem arr4_set (n : Nat → Int) (k : Nat) (hk : k < 4) : (arr4 n k).setIfInBounds k (.int .u8 (n k)) = arr4 n (k + 1) := by
 match k, hk with
 | 0, _ => rfl
 | 1, _ => rfl
 | 2, _ => rfl
 | 3, _ => rfl
theorem arr4_get (n : Nat → Int) (k : Nat) (hk : k < 4) : (arr4 n k)[k]? = some (.int .u8 0) := by
 match k, hk with
 | 0, _ => rfl
 | 1, _ => rfl
 | 2, _ => rfl
 | 3, _ => rfl
def zlh (ok : Nat → Bool) : Bool := ok 0 && (ok 1 && (ok 2 && ok 3))
theorem fourOk_no {ok : Nat → Bool} {k : Nat} (hk : k < 4) (h : ok k = false) : zlh ok = false := by
 unfold zlh
 match k, hk with
 | 0, _ => simp [h]
 | 1, _ => simp [h]
 | 2, _ => simp [h]
 | 3, _ => simp [h]
def ParsePost (w : World) (n : Nat → Int) (ok : Nat → Bool) (e : Ending) (w' : World) : Prop :=
 e = .returned (if zlh ok = true then .tuple #[.int .i64 (n 0 * 16777216 + n 1 * 65536 + n 2 * 256 + n 3), .int .i64 0] else .tuple #[.int .i64 0, .int .i64 30]) ∧ Below w.heap.size w w'
theorem parse_four (a0 : ByteArray) (w : World) (hInv : Inv w) (t : Nat → ByteArray) (n : Nat → Int) (ok : Nat → Bool)
  (hc : Calls Tryz.prog 159 #[.string a0, .string ⟨#[46]⟩] w fun e w' => e = .returned (.slice (some ⟨w.heap.size, 0, none⟩) 4 4) ∧ w' = w.alloc (.cells #[.string (t 0), .string (t 1), .string (t 2), .string (t 3)] 9))
  (hn : ∀ k, k < 4 → addr_number.f (t k) 255 = some (n k, ok k)) (hr : ∀ k, ok k = true → 0 ≤ n k ∧ n k < 256) :
  Calls Tryz.prog 127 #[.string a0] w (ParsePost w n ok) := by
 have HS := Lib.hid hc
 have HN := Lib.hid hn
 have HR := Lib.hid hr
 have HI := Lib.hid hInv
 clear hc hn hr hInv
 go_enter Tryz.func127, Tryz.ntmps127
 go_wp2_with (go_at_call 159; refine HS.out.mono ?_; rintro e w1 ⟨rfl, rfl⟩)
 have hB0 : Below w.heap.size w ((w.alloc (Obj.cells #[Value.string (t 0), Value.string (t 1), Value.string (t 2), Value.string (t 3)] 9)).alloc (Obj.cells #[Value.int IntKind.u8 0, Value.int IntKind.u8 0, Value.int IntKind.u8 0, Value.int IntKind.u8 0] 184)) := ((Below.refl _ _).alloc (Nat.le_refl _) _).alloc (by simp) _
 have hL0 := zad (zgu w (Obj.cells #[Value.string (t 0), Value.string (t 1), Value.string (t 2), Value.string (t 3)] 9)) (Obj.cells #[Value.int IntKind.u8 0, Value.int IntKind.u8 0, Value.int IntKind.u8 0, Value.int IntKind.u8 0] 184)
 have hA0 : ((w.alloc (Obj.cells #[Value.string (t 0), Value.string (t 1), Value.string (t 2), Value.string (t 3)] 9)).alloc (Obj.cells #[Value.int IntKind.u8 0, Value.int IntKind.u8 0, Value.int IntKind.u8 0, Value.int IntKind.u8 0] 184)).heap[w.heap.size + 1]? = some (.cells (arr4 n 0) 184 (0, 0)) := by
  have hh := zgu (w.alloc (Obj.cells #[Value.string (t 0), Value.string (t 1), Value.string (t 2), Value.string (t 3)] 9)) (Obj.cells #[Value.int IntKind.u8 0, Value.int IntKind.u8 0, Value.int IntKind.u8 0, Value.int IntKind.u8 0] 184)
  have hs : (w.alloc (Obj.cells #[Value.string (t 0), Value.string (t 1), Value.string (t 2), Value.string (t 3)] 9)).heap.size = w.heap.size + 1 := by simp
  rw [hs] at hh
  exact hh
 generalize (w.alloc (Obj.cells #[Value.string (t 0), Value.string (t 1), Value.string (t 2), Value.string (t 3)] 9)).alloc (Obj.cells #[Value.int IntKind.u8 0, Value.int IntKind.u8 0, Value.int IntKind.u8 0, Value.int IntKind.u8 0] 184) = W0 at hB0 hL0 hA0
 have HB0 := Zq.mk hB0
 have HL0 := Zq.mk hL0
 have HA0 := Zq.mk hA0
 clear hB0 hL0 hA0
 go_loopw [17] (fun i wr => ∃ k : Nat, k ≤ 4 ∧ i = .int .i64 k ∧ Zq (wr.heap[w.heap.size]? = some (.cells #[.string (t 0), .string (t 1), .string (t 2), .string (t 3)] 9 (0, 0))) ∧ Zq (wr.heap[w.heap.size + 1]? = some (.cells (arr4 n k) 184 (0, 0))) ∧ Zq (Below w.heap.size w wr) ∧ Zq (∀ j, j < k → ok j = true)) (fun i _ => 4 - (intOf i).toNat)
 case atStart => exact ⟨0, by omega, rfl, HL0, HA0, HB0, ⟨fun j hj => by omega⟩⟩
 case round =>
  obtain ⟨k, hk, rfl, HL, HA, HB, HO⟩ := hrel
  clear HL0 HA0 HB0
  by_cases hlt : k < 4
  ·have hcell : wr.cell? ⟨w.heap.size, k, none⟩ = some (.string (t k)) := by
    rw [zae HL.out]
    match k, hlt with
    | 0, _ => rfl
    | 1, _ => rfl
    | 2, _ => rfl
    | 3, _ => rfl
   have hnn := HN.out k hlt
   obtain ⟨b, hb0⟩ : ∃ b, ok k = b := ⟨_, rfl⟩
   rw [hb0] at hnn
   have HNN := Lib.hid hnn
   have HB0 := Lib.hid hb0
   clear hnn hb0
   cases b with
   | false =>
    go_wp2_with (go_at_call 128; refine (addr_number.calls (t k) 255 (n k) false _ (HI.out.below HB.out) HNN.out).mono ?_; rintro e w2 ⟨rfl, hb⟩)
    go_ret2
    exact ⟨by rw [fourOk_no hlt HB0.out]; rfl, HB.out.trans (hb.mono HB.out.size)⟩
   | true =>
    have hr := HR.out k HB0.out
    have hr0 := hr.1
    have hr1 := hr.2
    go_wp2_with (go_at_call 128; refine (addr_number.calls (t k) 255 (n k) true _ (HI.out.below HB.out) HNN.out).mono ?_; rintro e w2 ⟨rfl, hb⟩; have hA2 := zaq HA.out hb; have hL2 := zaq HL.out hb; have hc2 : w2.cell? ⟨w.heap.size + 1, k, none⟩ = some (.int .u8 0) := (zae hA2 k).trans (arr4_get n k hlt); have hf2 := zaf hA2 k; have HA2 := Zq.mk hA2; have HL2 := Zq.mk hL2; clear hA2 hL2)
    go_roundw
    case rel =>
     refine ⟨k + 1, by omega, by go_num, ⟨?_⟩, ⟨?_⟩, ⟨?_⟩, ⟨fun j hj => ?_⟩⟩
     ·exact zar HL2.out (by simp) _
     ·exact zak HA2.out k _ (arr4_set n k hlt)
     ·exact (HB.out.trans (hb.mono HB.out.size)).setCell (by simp) _
     ·rcases Nat.lt_succ_iff_lt_or_eq.1 hj with h | rfl
      ·exact HO.out j h
      ·exact HB0.out
    case measure => simp [intOf]; omega
  ·obtain rfl : k = 4 := by omega
   have c0 : wr.cell? ⟨w.heap.size + 1, 0, none⟩ = some (.int .u8 (n 0)) := zae HA.out 0
   have c1 : wr.cell? ⟨w.heap.size + 1, 1, none⟩ = some (.int .u8 (n 1)) := zae HA.out 1
   have c2 : wr.cell? ⟨w.heap.size + 1, 2, none⟩ = some (.int .u8 (n 2)) := zae HA.out 2
   have c3 : wr.cell? ⟨w.heap.size + 1, 3, none⟩ = some (.int .u8 (n 3)) := zae HA.out 3
   have o0 := HO.out 0 (by omega)
   have o1 := HO.out 1 (by omega)
   have o2 := HO.out 2 (by omega)
   have o3 := HO.out 3 (by omega)
   have HW := Lib.hid (fun w => word_any (n 0) (n 1) (n 2) (n 3) w (HR.out 0 o0).1 (HR.out 0 o0).2 (HR.out 1 o1).1 (HR.out 1 o1).2 (HR.out 2 o2).1 (HR.out 2 o2).2 (HR.out 3 o3).1 (HR.out 3 o3).2)
   have HF : Hid (zlh ok = true) := by show _ = _; simp [zlh, o0, o1, o2, o3]
   clear o0 o1 o2 o3
   go_wp2_with (go_at_call 160; refine (HW.out _).mono ?_; rintro e w2 ⟨rfl, hb⟩)
   go_ret2
   exact ⟨by rw [if_pos HF.out]; rfl, HB.out.trans (hb.mono HB.out.size)⟩
theorem addr_Parse.calls (a0 : ByteArray) (r1 r2 : Int) (w : World) (hInv : Inv w) (h : addr_Parse.f a0 = some (r1, r2)) :
  Calls Tryz.prog 127 #[.string a0] w fun e w' => e = .returned (.tuple #[.int .i64 r1, .int .i64 r2]) ∧ Below w.heap.size w w' := by
 unfold addr_Parse.f at h
 split at h
 ·rename_i h1
  have h := Option.some.inj h
  have hc := split_dots a0 w hInv h1
  have hz := dots_size a0
  by_cases h4 : (dots a0).length = 4
  ·rw [h4] at hc
   obtain ⟨a, b, c, d, hd⟩ : ∃ a b c d, dots a0 = [a, b, c, d] := by
    match hq : dots a0, h4 with
    | [a, b, c, d], _ => exact ⟨a, b, c, d, rfl⟩
   rw [hd] at h hc hz
   let t : Nat → ByteArray := fun k => [a, b, c, d].getD k a
   refine (parse_four a0 w hInv t (fun k => (zee (t k)).1) (fun k => (zee (t k)).2) hc (fun k hk => partN_eq _ ?_) (fun k hk => partN_range _ hk)).mono ?_
   ·have hm : t k ∈ [a, b, c, d] := by
     match k, hk with
     | 0, _ => simp [t]
     | 1, _ => simp [t]
     | 2, _ => simp [t]
     | 3, _ => simp [t]
    have := hz _ hm
    omega
   ·rintro e w' ⟨he, hb⟩
    refine ⟨?_, hb⟩
    rw [he]
    simp only [t, zlh, List.getD_cons_zero, List.getD_cons_succ, Bool.and_eq_true] at h ⊢
    split at h
    ·rename_i hk
     rw [if_pos hk]
     simp only [Prod.mk.injEq] at h
     rw [← h.1, ← h.2]
    ·rename_i hk
     rw [if_neg hk]
     simp only [Prod.mk.injEq] at h
     rw [← h.1, ← h.2]
  ·have hq : (match dots a0 with
    | [a, b, c, d] => if (zee a).2 = true ∧ (zee b).2 = true ∧ (zee c).2 = true ∧ (zee d).2 = true then ((zee a).1 * 16777216 + (zee b).1 * 65536 + (zee c).1 * 256 + (zee d).1, (0 : Int)) else (0, 30)
    | _ => ((0 : Int), (30 : Int))) = (0, 30) := by
    split
    ·rename_i hd; rw [hd] at h4; exact absurd rfl h4
    ·rfl
   rw [hq] at h
   simp only [Prod.mk.injEq] at h
   obtain ⟨rfl, rfl⟩ := h
   exact parse_not4 a0 w _ _ (by rw [bne_iff_ne]; omega) hc
 ·cases h
end
end Go.Proofs.YtjeekocidaogoaaGreatDoor.Hand
namespace Go.Proofs.YtjeekocidaogoaaGreatDoorW.PrintLast
open Go.Proofs.YtjeekocidaogoaaGreatDoorW.PrintWords (Zq)
section
end
end Go.Proofs.YtjeekocidaogoaaGreatDoorW.PrintLast
namespace Go.Proofs.YtjeekocidaogoaaGreatDoorW.PrintLast
section
end
end Go.Proofs.YtjeekocidaogoaaGreatDoorW.PrintLast
section
namespace Go.Proofs.YtjeekocidaogoaaGreatDoorW.PrintWords
open Go.RowKit
namespace Kd
end Kd
end Go.Proofs.YtjeekocidaogoaaGreatDoorW.PrintWords
end
section
namespace Go.Proofs.YtjeekocidaogoaaGreatDoorW.PrintWords
open Go.RowKit
namespace Kd
end Kd
end Go.Proofs.YtjeekocidaogoaaGreatDoorW.PrintWords
end
namespace Go.Proofs.YtjeekocidaogoaaGreatDoorW.PrintWords
open Go.RowKit
section
section
variable {P : Program} {d : Nat} {xs ys : Array Value} {f : Field} {fs : List Field} {a b : Value} {r s : Bool} {w : World}
theorem zom (hn : (f.name == "_") = false) (ha : (part f.type xs f.offset).run P w = .ok a w) (hb : (part f.type ys f.offset).run P w = .ok b w) (he : (Op.equalIn d f.type a b).run P w = .ok r w) : (Op.eqFields d xs ys [f]).run P w = .ok r w := by
 have hn' : f.name ≠ "_" := by simpa using hn
 simp only [Op.eqFields, if_pos hn', Sem.run_bind, ha, hb, he, Result.andThen_ok]
 cases r <;> simp
theorem zon (hn : (f.name == "_") = false) (ha : (part f.type xs f.offset).run P w = .ok a w) (hb : (part f.type ys f.offset).run P w = .ok b w) (he : (Op.equalIn d f.type a b).run P w = .ok r w) (hr : (Op.eqFields d xs ys fs).run P w = .ok s w) : (Op.eqFields d xs ys (f :: fs)).run P w = .ok (r && s) w := by
 have hn' : f.name ≠ "_" := by simpa using hn
 rw [Op.eqFields]
 simp only [if_pos hn', Sem.run_bind, ha, hb, he, Result.andThen_ok]
 cases r
 ·simp
 ·simpa using hr
theorem zqv {t : TypeId} {fs : Array Field} (hu : P.underlying t = some (.struct fs)) (hp : P.stoodInHeld t = false) (h : (Op.eqFields d xs ys fs.toList).run P w = .ok r w) : (Op.equalIn (d + 1) t (.agg xs) (.agg ys)).run P w = .ok r w := by
 have hf : P.fieldsOf t = fs := by simp [Program.fieldsOf, hu]
 rw [run_equalIn_struct (P := P) w d t xs ys (by rw [hf]; exact hu) hp, hf]
 exact h
end
end
end Go.Proofs.YtjeekocidaogoaaGreatDoorW.PrintWords
namespace Go.Proofs.YtjeekocidaogoaaGreatDoorW.PrintWords
section
theorem Reps.one {α : Type} {R : α → List Value → Prop} {ps : List α} {cs : List Value} {p : α} {v : Value} (hp : R p [v]) (h : Reps R 1 ps cs) : Reps R 1 (p :: ps) (v :: cs) := by
 refine ⟨by simp [h.1], fun j q hq => ?_⟩
 cases j with
 | zero =>
  simp only [List.getElem?_cons_zero, Option.some.injEq] at hq
  subst hq
  simpa using hp
 | succ j =>
  simp only [List.getElem?_cons_succ] at hq
  have h1 := h.2 j q hq
  simpa [Nat.mul_one] using h1
theorem Reps.front {α : Type} {R : α → List Value → Prop} {size : Nat} {ps : List α} {cs c all : List Value} {p : α} (hp : R p c) (hc : c.length = size) (h : Reps R size ps cs) (ha : c ++ cs = all) : Reps R size (p :: ps) all := by
 subst ha
 refine ⟨by rw [List.length_append, hc, h.1, List.length_cons, Nat.succ_mul, Nat.add_comm], fun j q hq => ?_⟩
 cases j with
 | zero =>
  simp only [List.getElem?_cons_zero, Option.some.injEq] at hq
  subst hq
  rw [Nat.zero_mul, List.drop_zero, List.take_append_of_le_length (by omega), List.take_of_length_le (by omega)]
  exact hp
 | succ j =>
  simp only [List.getElem?_cons_succ] at hq
  have h1 := h.2 j q hq
  rw [Nat.succ_mul, List.drop_append, List.drop_of_length_le (by rw [hc]; exact Nat.le_add_left _ _), List.nil_append, hc, Nat.add_sub_cancel]
  exact h1
theorem Reps.c2 {α : Type} {R : α → List Value → Prop} {ps : List α} {cs : List Value} {p : α} {va vb : Value} (hp : R p [va, vb]) (h : Reps R 2 ps cs) : Reps R 2 (p :: ps) (va :: vb :: cs) := Reps.front hp rfl h rfl
theorem Reps.c3 {α : Type} {R : α → List Value → Prop} {ps : List α} {cs : List Value} {p : α} {va vb vc : Value} (hp : R p [va, vb, vc]) (h : Reps R 3 ps cs) : Reps R 3 (p :: ps) (va :: vb :: vc :: cs) := Reps.front hp rfl h rfl
theorem Reps.c4 {α : Type} {R : α → List Value → Prop} {ps : List α} {cs : List Value} {p : α} {va vb vc vd : Value} (hp : R p [va, vb, vc, vd]) (h : Reps R 4 ps cs) : Reps R 4 (p :: ps) (va :: vb :: vc :: vd :: cs) := Reps.front hp rfl h rfl
theorem Reps.c5 {α : Type} {R : α → List Value → Prop} {ps : List α} {cs : List Value} {p : α} {va vb vc vd ve : Value} (hp : R p [va, vb, vc, vd, ve]) (h : Reps R 5 ps cs) : Reps R 5 (p :: ps) (va :: vb :: vc :: vd :: ve :: cs) := Reps.front hp rfl h rfl
theorem Reps.c6 {α : Type} {R : α → List Value → Prop} {ps : List α} {cs : List Value} {p : α} {va vb vc vd ve vf : Value} (hp : R p [va, vb, vc, vd, ve, vf]) (h : Reps R 6 ps cs) : Reps R 6 (p :: ps) (va :: vb :: vc :: vd :: ve :: vf :: cs) := Reps.front hp rfl h rfl
theorem Reps.c7 {α : Type} {R : α → List Value → Prop} {ps : List α} {cs : List Value} {p : α} {va vb vc vd ve vf vg : Value} (hp : R p [va, vb, vc, vd, ve, vf, vg]) (h : Reps R 7 ps cs) : Reps R 7 (p :: ps) (va :: vb :: vc :: vd :: ve :: vf :: vg :: cs) := Reps.front hp rfl h rfl
theorem Reps.c8 {α : Type} {R : α → List Value → Prop} {ps : List α} {cs : List Value} {p : α} {va vb vc vd ve vf vg vh : Value} (hp : R p [va, vb, vc, vd, ve, vf, vg, vh]) (h : Reps R 8 ps cs) : Reps R 8 (p :: ps) (va :: vb :: vc :: vd :: ve :: vf :: vg :: vh :: cs) := Reps.front hp rfl h rfl
theorem Reps.c9 {α : Type} {R : α → List Value → Prop} {ps : List α} {cs : List Value} {p : α} {va vb vc vd ve vf vg vh vi : Value} (hp : R p [va, vb, vc, vd, ve, vf, vg, vh, vi]) (h : Reps R 9 ps cs) : Reps R 9 (p :: ps) (va :: vb :: vc :: vd :: ve :: vf :: vg :: vh :: vi :: cs) := Reps.front hp rfl h rfl
theorem Reps.c10 {α : Type} {R : α → List Value → Prop} {ps : List α} {cs : List Value} {p : α} {va vb vc vd ve vf vg vh vi vj : Value} (hp : R p [va, vb, vc, vd, ve, vf, vg, vh, vi, vj]) (h : Reps R 10 ps cs) : Reps R 10 (p :: ps) (va :: vb :: vc :: vd :: ve :: vf :: vg :: vh :: vi :: vj :: cs) := Reps.front hp rfl h rfl
end
end Go.Proofs.YtjeekocidaogoaaGreatDoorW.PrintWords
namespace Go.Proofs.YtjeekocidaogoaaGreatDoorW.PrintLast
section
end
end Go.Proofs.YtjeekocidaogoaaGreatDoorW.PrintLast
section
namespace Go.Proofs.YtjeekocidaogoaaGreatDoorW.PrintWords
open Go.RowKit
end Go.Proofs.YtjeekocidaogoaaGreatDoorW.PrintWords
namespace Go.Proofs.YtjeekocidaogoaaGreatDoorW.PrintLast
end Go.Proofs.YtjeekocidaogoaaGreatDoorW.PrintLast
end
namespace Go.Proofs.YtjeekocidaogoaaGreatDoorW.PrintWords
open Go.RowKit
section
end
end Go.Proofs.YtjeekocidaogoaaGreatDoorW.PrintWords
namespace Go.Proofs.YtjeekocidaogoaaGreatDoor.H
open Go.RowKit Go.Proofs.YtjeekocidaogoaaGreatDoor.Hand Go.Proofs.YtjeekocidaogoaaGreatDoorW.PrintWords Go.Proofs.YtjeekocidaogoaaGreatDoorW.PrintLast Go.Proofs.YtjeekocidaogoaaGreatDoorW.PrintMore
section
attribute [local go_sem] zdq zdo zeg zef zcw zcv zdp zdn
def errW : Option Int → Value
 | none => .nilIface
 | some c => .iface 0 (.int .i64 c)
theorem zan : errW none = .nilIface := rfl
theorem zam (c : Int) : errW (some c) = .iface 0 (.int .i64 c) := rfl
theorem zmb : (Tryz.prog.info? 5).map (fun i => (i.zero, i.size, i.bytes)) = some (some (.int .u8 0), 1, 1) := by kernel_rfl
theorem zqu : (Tryz.prog.info? 49).map (fun i => (i.zero, i.size, i.bytes)) = some (some (.agg #[(.int .i64 0), (.string ⟨#[]⟩), (.int .i64 0), (.int .i64 0), (.int .i64 0), (.int .i64 0)]), 6, 56) := by kernel_rfl
structure S47 where
 f0 : Int
 f1 : Int
def z47 : S47 := ⟨(0 : Int), (0 : Int)⟩
def k47 : Kd S47 := Kd.iso (Kd.pair (Kd.int .i64) (Kd.int .i64)) (fun x : S47 => (x.f0, x.f1))
theorem zoj {w : World} {x : S47} {cs : List Value} (h : k47.K w x cs) : cs = [.int .i64 x.f0, .int .i64 x.f1] := by
 obtain ⟨_, _, rfl, rfl, rfl⟩ := h
 exact rfl
theorem k47_mk (w : World) (x : S47)  : k47.K w x [.int .i64 x.f0, .int .i64 x.f1] := ⟨[.int .i64 x.f0], [.int .i64 x.f1], rfl, rfl, rfl⟩
theorem k47_mkM (w : World) (base : Nat) (ok : Nat → Prop) (x : S47)  : k47.M w base ok x [.int .i64 x.f0, .int .i64 x.f1] := ⟨[.int .i64 x.f0], [.int .i64 x.f1], rfl, rfl, rfl⟩
def zdc (xs : List S47) (i : Int) : S47 := xs.getD i.toNat z47
theorem znh {w : World} {A : Option Addr} {n : Nat} {xs : List S47} (h : Kd.C k47 w A n xs) (i : Int) (h0 : 0 ≤ i) (h1 : i < n) : ∃ ad , A = some ad ∧ w.cell? (ad.add (i.toNat * 2)) = some (.int .i64 (zdc xs i).f0) ∧ w.cell? ⟨(ad.add (i.toNat * 2)).block, (ad.add (i.toNat * 2)).off + 1, none⟩ = some (.int .i64 (zdc xs i).f1) := by
 obtain ⟨ad, c, e, _, hK, hc0⟩ := Kd.C_get h z47 i h0 h1
 have hc : ∀ j u, c[j]? = some u → w.cell? (ad.add (i.toNat * 2 + j)) = some u := hc0
 obtain rfl := zoj hK
 exact ⟨ad, e, hc 0 _ rfl, by rw [← zbn _ _ 1 (by omega)]; exact hc 1 _ rfl⟩
structure S49 where
 f0 : Int
 f1 : ByteArray
 f2 : Int
 f3 : S47
 f4 : Int
def z49 : S49 := ⟨(0 : Int), (⟨#[]⟩ : ByteArray), (0 : Int), z47, (0 : Int)⟩
def k49 : Kd S49 := Kd.iso (Kd.pair (Kd.int .i64) (Kd.pair Kd.string (Kd.pair (Kd.int .i64) (Kd.pair k47 (Kd.int .i64))))) (fun x : S49 => (x.f0, x.f1, x.f2, x.f3, x.f4))
theorem k49_open {w : World} {x : S49} {cs : List Value} (h : k49.K w x cs) : cs = [.int .i64 x.f0, .string x.f1, .int .i64 x.f2, .int .i64 x.f3.f0, .int .i64 x.f3.f1, .int .i64 x.f4] := by
 obtain ⟨_, _, rfl, rfl, ⟨_, _, rfl, rfl, ⟨_, _, rfl, rfl, ⟨_, _, rfl, s3, rfl⟩⟩⟩⟩ := h
 obtain rfl := zoj s3
 exact rfl
theorem zps (w : World) (base : Nat) (ok : Nat → Prop) (x : S49)  : k49.M w base ok x [.int .i64 x.f0, .string x.f1, .int .i64 x.f2, .int .i64 x.f3.f0, .int .i64 x.f3.f1, .int .i64 x.f4] := ⟨[.int .i64 x.f0], [.string x.f1, .int .i64 x.f2, .int .i64 x.f3.f0, .int .i64 x.f3.f1, .int .i64 x.f4], rfl, rfl, ⟨[.string x.f1], [.int .i64 x.f2, .int .i64 x.f3.f0, .int .i64 x.f3.f1, .int .i64 x.f4], rfl, rfl, ⟨[.int .i64 x.f2], [.int .i64 x.f3.f0, .int .i64 x.f3.f1, .int .i64 x.f4], rfl, rfl, ⟨[.int .i64 x.f3.f0, .int .i64 x.f3.f1], [.int .i64 x.f4], rfl, (k47_mkM w base ok x.f3 ), rfl⟩⟩⟩⟩
def zid (xs : List S49) (i : Int) : S49 := xs.getD i.toNat z49
theorem at_T49 {w : World} {A : Option Addr} {n : Nat} {xs : List S49} (h : Kd.C k49 w A n xs) (i : Int) (h0 : 0 ≤ i) (h1 : i < n) : ∃ ad , A = some ad ∧ w.cell? (ad.add (i.toNat * 6)) = some (.int .i64 (zid xs i).f0) ∧ w.cell? ⟨(ad.add (i.toNat * 6)).block, (ad.add (i.toNat * 6)).off + 1, none⟩ = some (.string (zid xs i).f1) ∧ w.cell? ⟨(ad.add (i.toNat * 6)).block, (ad.add (i.toNat * 6)).off + 2, none⟩ = some (.int .i64 (zid xs i).f2) ∧ w.cell? ⟨(ad.add (i.toNat * 6)).block, (ad.add (i.toNat * 6)).off + 3, none⟩ = some (.int .i64 (zid xs i).f3.f0) ∧ w.cell? ⟨(ad.add (i.toNat * 6)).block, (ad.add (i.toNat * 6)).off + 4, none⟩ = some (.int .i64 (zid xs i).f3.f1) ∧ w.cell? ⟨(ad.add (i.toNat * 6)).block, (ad.add (i.toNat * 6)).off + 5, none⟩ = some (.int .i64 (zid xs i).f4) := by
 obtain ⟨ad, c, e, _, hK, hc0⟩ := Kd.C_get h z49 i h0 h1
 have hc : ∀ j u, c[j]? = some u → w.cell? (ad.add (i.toNat * 6 + j)) = some u := hc0
 obtain rfl := k49_open hK
 exact ⟨ad, e, hc 0 _ rfl, by rw [← zbn _ _ 1 (by omega)]; exact hc 1 _ rfl, by rw [← zbn _ _ 2 (by omega)]; exact hc 2 _ rfl, by rw [← zbn _ _ 3 (by omega)]; exact hc 3 _ rfl, by rw [← zbn _ _ 4 (by omega)]; exact hc 4 _ rfl, by rw [← zbn _ _ 5 (by omega)]; exact hc 5 _ rfl⟩
structure S68 where
 f0 : Int
 f1 : Int
def z68 : S68 := ⟨(0 : Int), (0 : Int)⟩
def k68 : Kd S68 := Kd.iso (Kd.pair (Kd.int .i64) (Kd.int .i64)) (fun x : S68 => (x.f0, x.f1))
theorem k68_open {w : World} {x : S68} {cs : List Value} (h : k68.K w x cs) : cs = [.int .i64 x.f0, .int .i64 x.f1] := by
 obtain ⟨_, _, rfl, rfl, rfl⟩ := h
 exact rfl
theorem k68_mk (w : World) (x : S68)  : k68.K w x [.int .i64 x.f0, .int .i64 x.f1] := ⟨[.int .i64 x.f0], [.int .i64 x.f1], rfl, rfl, rfl⟩
def zdb (xs : List S68) (i : Int) : S68 := xs.getD i.toNat z68
theorem zlg {w : World} {A : Option Addr} {n : Nat} {xs : List S68} (h : Kd.C k68 w A n xs) (i : Int) (h0 : 0 ≤ i) (h1 : i < n) : ∃ ad , A = some ad ∧ w.cell? (ad.add (i.toNat * 2)) = some (.int .i64 (zdb xs i).f0) ∧ w.cell? ⟨(ad.add (i.toNat * 2)).block, (ad.add (i.toNat * 2)).off + 1, none⟩ = some (.int .i64 (zdb xs i).f1) := by
 obtain ⟨ad, c, e, _, hK, hc0⟩ := Kd.C_get h z68 i h0 h1
 have hc : ∀ j u, c[j]? = some u → w.cell? (ad.add (i.toNat * 2 + j)) = some u := hc0
 obtain rfl := k68_open hK
 exact ⟨ad, e, hc 0 _ rfl, by rw [← zbn _ _ 1 (by omega)]; exact hc 1 _ rfl⟩
structure S60 where
 f0 : Int
 f1 : ByteArray
 f2 : ByteArray
 f3 : (List S47)
 f4 : (List S68)
 f5 : (List ByteArray)
 f6 : (List S60)
 f7 : Int
def z60 : S60 := ⟨(0 : Int), (⟨#[]⟩ : ByteArray), (⟨#[]⟩ : ByteArray), ([] : List S47), ([] : List S68), ([] : List ByteArray), ([] : List S60), (0 : Int)⟩
def F60 (d : Kd S60) : Kd S60 := Kd.iso (Kd.pair (Kd.int .i64) (Kd.pair Kd.string (Kd.pair Kd.string (Kd.pair (Kd.slice 47 k47) (Kd.pair (Kd.slice 68 k68) (Kd.pair (Kd.slice 9 Kd.string) (Kd.pair (Kd.slice 60 d) (Kd.int .i64)))))))) (fun x : S60 => (x.f0, x.f1, x.f2, x.f3, x.f4, x.f5, x.f6, x.f7))
theorem zqt : Kd.Mono F60 := Kd.mono_iso _ (Kd.mono_pair (Kd.mono_const _) (Kd.mono_pair (Kd.mono_const _) (Kd.mono_pair (Kd.mono_const _) (Kd.mono_pair (Kd.mono_const _) (Kd.mono_pair (Kd.mono_const _) (Kd.mono_pair (Kd.mono_const _) (Kd.mono_pair (Kd.mono_slice 60 Kd.mono_id) (Kd.mono_const _))))))))
theorem sub60 : Kd.Sub F60 [9, 47, 60, 68] := Kd.sub_iso _ (Kd.sub_pair (Kd.sub_const _ (by decide)) (Kd.sub_pair (Kd.sub_const _ (by decide)) (Kd.sub_pair (Kd.sub_const _ (by decide)) (Kd.sub_pair (Kd.sub_const _ (by decide)) (Kd.sub_pair (Kd.sub_const _ (by decide)) (Kd.sub_pair (Kd.sub_const _ (by decide)) (Kd.sub_pair (Kd.sub_slice 60 (by decide) Kd.sub_id) (Kd.sub_const _ (by decide)))))))))
theorem sz60 : ∀ n, (Kd.upto F60 8 [9, 47, 60, 68] n).sz = 8 := Kd.upto_sz (fun _ => rfl)
def k60 : Kd S60 := Kd.fix F60 8 [9, 47, 60, 68] sz60 (Kd.upto_E sub60)
theorem zbo {w : World} {x : S60} {cs : List Value} (h : k60.K w x cs) : ∃ A3 c3 A4 c4 A5 c5 A6 c6, cs = [.int .i64 x.f0, .string x.f1, .string x.f2, .slice A3 x.f3.length c3, .slice A4 x.f4.length c4, .slice A5 x.f5.length c5, .slice A6 x.f6.length c6, .int .i64 x.f7] ∧ x.f3.length ≤ c3 ∧ k47.C w A3 x.f3.length x.f3 ∧ x.f4.length ≤ c4 ∧ k68.C w A4 x.f4.length x.f4 ∧ x.f5.length ≤ c5 ∧ Kd.string.C w A5 x.f5.length x.f5 ∧ x.f6.length ≤ c6 ∧ k60.C w A6 x.f6.length x.f6 := by
 obtain ⟨n, h⟩ := h
 cases n with
 | zero => exact h.elim
 | succ n =>
  obtain ⟨_, _, rfl, rfl, ⟨_, _, rfl, rfl, ⟨_, _, rfl, rfl, ⟨_, _, rfl, ⟨A3, c3, rfl, l3, g3⟩, ⟨_, _, rfl, ⟨A4, c4, rfl, l4, g4⟩, ⟨_, _, rfl, ⟨A5, c5, rfl, l5, g5⟩, ⟨_, _, rfl, ⟨A6, c6, rfl, l6, g6⟩, rfl⟩⟩⟩⟩⟩⟩⟩ := h
  exact ⟨A3, c3, A4, c4, A5, c5, A6, c6, rfl, l3, g3, l4, g4, l5, g5, l6, Kd.fix_C g6⟩
theorem zhg (w : World) (x : S60) {A3 : Option Addr} {c3 : Nat} (l3 : x.f3.length ≤ c3) (g3 : k47.C w A3 x.f3.length x.f3) {A4 : Option Addr} {c4 : Nat} (l4 : x.f4.length ≤ c4) (g4 : k68.C w A4 x.f4.length x.f4) {A5 : Option Addr} {c5 : Nat} (l5 : x.f5.length ≤ c5) (g5 : Kd.string.C w A5 x.f5.length x.f5) {A6 : Option Addr} {c6 : Nat} (l6 : x.f6.length ≤ c6) (g6 : k60.C w A6 x.f6.length x.f6) : k60.K w x [.int .i64 x.f0, .string x.f1, .string x.f2, .slice A3 x.f3.length c3, .slice A4 x.f4.length c4, .slice A5 x.f5.length c5, .slice A6 x.f6.length c6, .int .i64 x.f7] := by
 obtain ⟨n6, q6⟩ := Kd.fix_C_back zqt g6
 have r6 := Kd.upto_C_le zqt sz60 (show n6 ≤ n6 by omega) q6
 exact ⟨n6 + 1, ⟨[.int .i64 x.f0], [.string x.f1, .string x.f2, .slice A3 x.f3.length c3, .slice A4 x.f4.length c4, .slice A5 x.f5.length c5, .slice A6 x.f6.length c6, .int .i64 x.f7], rfl, rfl, ⟨[.string x.f1], [.string x.f2, .slice A3 x.f3.length c3, .slice A4 x.f4.length c4, .slice A5 x.f5.length c5, .slice A6 x.f6.length c6, .int .i64 x.f7], rfl, rfl, ⟨[.string x.f2], [.slice A3 x.f3.length c3, .slice A4 x.f4.length c4, .slice A5 x.f5.length c5, .slice A6 x.f6.length c6, .int .i64 x.f7], rfl, rfl, ⟨[.slice A3 x.f3.length c3], [.slice A4 x.f4.length c4, .slice A5 x.f5.length c5, .slice A6 x.f6.length c6, .int .i64 x.f7], rfl, ⟨A3, c3, rfl, l3, g3⟩, ⟨[.slice A4 x.f4.length c4], [.slice A5 x.f5.length c5, .slice A6 x.f6.length c6, .int .i64 x.f7], rfl, ⟨A4, c4, rfl, l4, g4⟩, ⟨[.slice A5 x.f5.length c5], [.slice A6 x.f6.length c6, .int .i64 x.f7], rfl, ⟨A5, c5, rfl, l5, g5⟩, ⟨[.slice A6 x.f6.length c6], [.int .i64 x.f7], rfl, ⟨A6, c6, rfl, l6, r6⟩, rfl⟩⟩⟩⟩⟩⟩⟩⟩
def zax (xs : List S60) (i : Int) : S60 := xs.getD i.toNat z60
theorem zij {w : World} {A : Option Addr} {n : Nat} {xs : List S60} (h : Kd.C k60 w A n xs) (i : Int) (h0 : 0 ≤ i) (h1 : i < n) : ∃ ad A3 c3 A4 c4 A5 c5 A6 c6, A = some ad ∧ w.cell? (ad.add (i.toNat * 8)) = some (.int .i64 (zax xs i).f0) ∧ w.cell? ⟨(ad.add (i.toNat * 8)).block, (ad.add (i.toNat * 8)).off + 1, none⟩ = some (.string (zax xs i).f1) ∧ w.cell? ⟨(ad.add (i.toNat * 8)).block, (ad.add (i.toNat * 8)).off + 2, none⟩ = some (.string (zax xs i).f2) ∧ w.cell? ⟨(ad.add (i.toNat * 8)).block, (ad.add (i.toNat * 8)).off + 3, none⟩ = some (.slice A3 (zax xs i).f3.length c3) ∧ w.cell? ⟨(ad.add (i.toNat * 8)).block, (ad.add (i.toNat * 8)).off + 4, none⟩ = some (.slice A4 (zax xs i).f4.length c4) ∧ w.cell? ⟨(ad.add (i.toNat * 8)).block, (ad.add (i.toNat * 8)).off + 5, none⟩ = some (.slice A5 (zax xs i).f5.length c5) ∧ w.cell? ⟨(ad.add (i.toNat * 8)).block, (ad.add (i.toNat * 8)).off + 6, none⟩ = some (.slice A6 (zax xs i).f6.length c6) ∧ w.cell? ⟨(ad.add (i.toNat * 8)).block, (ad.add (i.toNat * 8)).off + 7, none⟩ = some (.int .i64 (zax xs i).f7) ∧ (zax xs i).f3.length ≤ c3 ∧ k47.C w A3 (zax xs i).f3.length (zax xs i).f3 ∧ (zax xs i).f4.length ≤ c4 ∧ k68.C w A4 (zax xs i).f4.length (zax xs i).f4 ∧ (zax xs i).f5.length ≤ c5 ∧ Kd.string.C w A5 (zax xs i).f5.length (zax xs i).f5 ∧ (zax xs i).f6.length ≤ c6 ∧ k60.C w A6 (zax xs i).f6.length (zax xs i).f6 := by
 obtain ⟨ad, c, e, _, hK, hc0⟩ := Kd.C_get h z60 i h0 h1
 have hc : ∀ j u, c[j]? = some u → w.cell? (ad.add (i.toNat * 8 + j)) = some u := hc0
 obtain ⟨A3, c3, A4, c4, A5, c5, A6, c6, rfl, l3, g3, l4, g4, l5, g5, l6, g6⟩ := zbo hK
 exact ⟨ad, A3, c3, A4, c4, A5, c5, A6, c6, e, hc 0 _ rfl, by rw [← zbn _ _ 1 (by omega)]; exact hc 1 _ rfl, by rw [← zbn _ _ 2 (by omega)]; exact hc 2 _ rfl, by rw [← zbn _ _ 3 (by omega)]; exact hc 3 _ rfl, by rw [← zbn _ _ 4 (by omega)]; exact hc 4 _ rfl, by rw [← zbn _ _ 5 (by omega)]; exact hc 5 _ rfl, by rw [← zbn _ _ 6 (by omega)]; exact hc 6 _ rfl, by rw [← zbn _ _ 7 (by omega)]; exact hc 7 _ rfl, l3, g3, l4, g4, l5, g5, l6, g6⟩
structure S62 where
 f0 : Int
 f1 : ByteArray
 f2 : S60
 f3 : Int
def z62 : S62 := ⟨(0 : Int), (⟨#[]⟩ : ByteArray), z60, (0 : Int)⟩
def k62 : Kd S62 := Kd.iso (Kd.pair (Kd.int .i64) (Kd.pair Kd.string (Kd.pair k60 (Kd.int .i64)))) (fun x : S62 => (x.f0, x.f1, x.f2, x.f3))
theorem zlx {w : World} {x : S62} {cs : List Value} (h : k62.K w x cs) : ∃ A5 c5 A6 c6 A7 c7 A8 c8, cs = [.int .i64 x.f0, .string x.f1, .int .i64 x.f2.f0, .string x.f2.f1, .string x.f2.f2, .slice A5 x.f2.f3.length c5, .slice A6 x.f2.f4.length c6, .slice A7 x.f2.f5.length c7, .slice A8 x.f2.f6.length c8, .int .i64 x.f2.f7, .int .i64 x.f3] ∧ x.f2.f3.length ≤ c5 ∧ k47.C w A5 x.f2.f3.length x.f2.f3 ∧ x.f2.f4.length ≤ c6 ∧ k68.C w A6 x.f2.f4.length x.f2.f4 ∧ x.f2.f5.length ≤ c7 ∧ Kd.string.C w A7 x.f2.f5.length x.f2.f5 ∧ x.f2.f6.length ≤ c8 ∧ k60.C w A8 x.f2.f6.length x.f2.f6 := by
 obtain ⟨_, _, rfl, rfl, ⟨_, _, rfl, rfl, ⟨_, _, rfl, s2, rfl⟩⟩⟩ := h
 obtain ⟨A5, c5, A6, c6, A7, c7, A8, c8, rfl, l5, g5, l6, g6, l7, g7, l8, g8⟩ := zbo s2
 exact ⟨A5, c5, A6, c6, A7, c7, A8, c8, rfl, l5, g5, l6, g6, l7, g7, l8, g8⟩
theorem zoi (w : World) (x : S62) {A5 : Option Addr} {c5 : Nat} (l5 : x.f2.f3.length ≤ c5) (g5 : k47.C w A5 x.f2.f3.length x.f2.f3) {A6 : Option Addr} {c6 : Nat} (l6 : x.f2.f4.length ≤ c6) (g6 : k68.C w A6 x.f2.f4.length x.f2.f4) {A7 : Option Addr} {c7 : Nat} (l7 : x.f2.f5.length ≤ c7) (g7 : Kd.string.C w A7 x.f2.f5.length x.f2.f5) {A8 : Option Addr} {c8 : Nat} (l8 : x.f2.f6.length ≤ c8) (g8 : k60.C w A8 x.f2.f6.length x.f2.f6) : k62.K w x [.int .i64 x.f0, .string x.f1, .int .i64 x.f2.f0, .string x.f2.f1, .string x.f2.f2, .slice A5 x.f2.f3.length c5, .slice A6 x.f2.f4.length c6, .slice A7 x.f2.f5.length c7, .slice A8 x.f2.f6.length c8, .int .i64 x.f2.f7, .int .i64 x.f3] := ⟨[.int .i64 x.f0], [.string x.f1, .int .i64 x.f2.f0, .string x.f2.f1, .string x.f2.f2, .slice A5 x.f2.f3.length c5, .slice A6 x.f2.f4.length c6, .slice A7 x.f2.f5.length c7, .slice A8 x.f2.f6.length c8, .int .i64 x.f2.f7, .int .i64 x.f3], rfl, rfl, ⟨[.string x.f1], [.int .i64 x.f2.f0, .string x.f2.f1, .string x.f2.f2, .slice A5 x.f2.f3.length c5, .slice A6 x.f2.f4.length c6, .slice A7 x.f2.f5.length c7, .slice A8 x.f2.f6.length c8, .int .i64 x.f2.f7, .int .i64 x.f3], rfl, rfl, ⟨[.int .i64 x.f2.f0, .string x.f2.f1, .string x.f2.f2, .slice A5 x.f2.f3.length c5, .slice A6 x.f2.f4.length c6, .slice A7 x.f2.f5.length c7, .slice A8 x.f2.f6.length c8, .int .i64 x.f2.f7], [.int .i64 x.f3], rfl, (zhg w x.f2 l5 g5 l6 g6 l7 g7 l8 g8), rfl⟩⟩⟩
def zcs (xs : List S62) (i : Int) : S62 := xs.getD i.toNat z62
theorem zor {w : World} {A : Option Addr} {n : Nat} {xs : List S62} (h : Kd.C k62 w A n xs) (i : Int) (h0 : 0 ≤ i) (h1 : i < n) : ∃ ad A5 c5 A6 c6 A7 c7 A8 c8, A = some ad ∧ w.cell? (ad.add (i.toNat * 11)) = some (.int .i64 (zcs xs i).f0) ∧ w.cell? ⟨(ad.add (i.toNat * 11)).block, (ad.add (i.toNat * 11)).off + 1, none⟩ = some (.string (zcs xs i).f1) ∧ w.cell? ⟨(ad.add (i.toNat * 11)).block, (ad.add (i.toNat * 11)).off + 2, none⟩ = some (.int .i64 (zcs xs i).f2.f0) ∧ w.cell? ⟨(ad.add (i.toNat * 11)).block, (ad.add (i.toNat * 11)).off + 3, none⟩ = some (.string (zcs xs i).f2.f1) ∧ w.cell? ⟨(ad.add (i.toNat * 11)).block, (ad.add (i.toNat * 11)).off + 4, none⟩ = some (.string (zcs xs i).f2.f2) ∧ w.cell? ⟨(ad.add (i.toNat * 11)).block, (ad.add (i.toNat * 11)).off + 5, none⟩ = some (.slice A5 (zcs xs i).f2.f3.length c5) ∧ w.cell? ⟨(ad.add (i.toNat * 11)).block, (ad.add (i.toNat * 11)).off + 6, none⟩ = some (.slice A6 (zcs xs i).f2.f4.length c6) ∧ w.cell? ⟨(ad.add (i.toNat * 11)).block, (ad.add (i.toNat * 11)).off + 7, none⟩ = some (.slice A7 (zcs xs i).f2.f5.length c7) ∧ w.cell? ⟨(ad.add (i.toNat * 11)).block, (ad.add (i.toNat * 11)).off + 8, none⟩ = some (.slice A8 (zcs xs i).f2.f6.length c8) ∧ w.cell? ⟨(ad.add (i.toNat * 11)).block, (ad.add (i.toNat * 11)).off + 9, none⟩ = some (.int .i64 (zcs xs i).f2.f7) ∧ w.cell? ⟨(ad.add (i.toNat * 11)).block, (ad.add (i.toNat * 11)).off + 10, none⟩ = some (.int .i64 (zcs xs i).f3) ∧ (zcs xs i).f2.f3.length ≤ c5 ∧ k47.C w A5 (zcs xs i).f2.f3.length (zcs xs i).f2.f3 ∧ (zcs xs i).f2.f4.length ≤ c6 ∧ k68.C w A6 (zcs xs i).f2.f4.length (zcs xs i).f2.f4 ∧ (zcs xs i).f2.f5.length ≤ c7 ∧ Kd.string.C w A7 (zcs xs i).f2.f5.length (zcs xs i).f2.f5 ∧ (zcs xs i).f2.f6.length ≤ c8 ∧ k60.C w A8 (zcs xs i).f2.f6.length (zcs xs i).f2.f6 := by
 obtain ⟨ad, c, e, _, hK, hc0⟩ := Kd.C_get h z62 i h0 h1
 have hc : ∀ j u, c[j]? = some u → w.cell? (ad.add (i.toNat * 11 + j)) = some u := hc0
 obtain ⟨A5, c5, A6, c6, A7, c7, A8, c8, rfl, l5, g5, l6, g6, l7, g7, l8, g8⟩ := zlx hK
 exact ⟨ad, A5, c5, A6, c6, A7, c7, A8, c8, e, hc 0 _ rfl, by rw [← zbn _ _ 1 (by omega)]; exact hc 1 _ rfl, by rw [← zbn _ _ 2 (by omega)]; exact hc 2 _ rfl, by rw [← zbn _ _ 3 (by omega)]; exact hc 3 _ rfl, by rw [← zbn _ _ 4 (by omega)]; exact hc 4 _ rfl, by rw [← zbn _ _ 5 (by omega)]; exact hc 5 _ rfl, by rw [← zbn _ _ 6 (by omega)]; exact hc 6 _ rfl, by rw [← zbn _ _ 7 (by omega)]; exact hc 7 _ rfl, by rw [← zbn _ _ 8 (by omega)]; exact hc 8 _ rfl, by rw [← zbn _ _ 9 (by omega)]; exact hc 9 _ rfl, by rw [← zbn _ _ 10 (by omega)]; exact hc 10 _ rfl, l5, g5, l6, g6, l7, g7, l8, g8⟩
end
end Go.Proofs.YtjeekocidaogoaaGreatDoor.H

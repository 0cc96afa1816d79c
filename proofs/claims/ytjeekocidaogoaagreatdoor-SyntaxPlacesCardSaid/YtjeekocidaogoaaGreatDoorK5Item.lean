/- zio: the walk. -/
/- Plain law: how long a run is, rune by rune and byte by byte; names. -/
/- Plain law: names, of the program and of the reference; the law LexNames. -/
/- Plain law: what stands at a source's front, and what Scan answers, as functions of the bytes alone. -/
import Derived.Test.YtjeekocidaogoaaGreatDoorK5Oper
import Derived.Test.YtjeekocidaogoaaGreatDoorK5Deep
import Derived.Test.YtjeekocidaogoaaGreatDoorK5Hx4
import Derived.Test.YtjeekocidaogoaaGreatDoorK5Hx7
import Derived.Lib.LazyBuf
set_option linter.unusedVariables false
set_option linter.unusedSimpArgs false
set_option maxRecDepth 100000
set_option maxHeartbeats 8000000
namespace Go.Proofs.YtjeekocidaogoaaGreatDoor.H
open Go.RowKit Go.Proofs.YtjeekocidaogoaaGreatDoor.Hand Go.Proofs.YtjeekocidaogoaaGreatDoorW.PrintWords Go.Proofs.YtjeekocidaogoaaGreatDoorW.PrintLast Go.Proofs.YtjeekocidaogoaaGreatDoorW.PrintMore
section
abbrev zov : Array Value := #[.int .i64 0, .string ⟨#[]⟩, .int .i64 0, .string ⟨#[]⟩, .string ⟨#[]⟩, .slice none 0 0, .slice none 0 0, .slice none 0 0, .slice none 0 0, .int .i64 0, .int .i64 0]
abbrev zgq (k : Int) (n : ByteArray) (a : Int) : Array Value := #[.int .i64 k, .string n, .int .i64 0, .string ⟨#[]⟩, .string ⟨#[]⟩, .slice none 0 0, .slice none 0 0, .slice none 0 0, .slice none 0 0, .int .i64 0, .int .i64 a]
def zns : List (ByteArray × Value) := [(sLet, .int .i64 1), (sAllow, .int .i64 2), (sDeny, .int .i64 3)]
theorem zbi {w : World} {m t : Nat} {v0 v1 v2 v3 v4 v5 v6 v7 v8 v9 v10 : Value} (h : w.heap[m]? = some (.cells #[v0, v1, v2, v3, v4, v5, v6, v7, v8, v9, v10] t (0, 0))) :
  (w.cell? ⟨m, 0, none⟩ = some v0 ∧ w.cell? ⟨m, 1, none⟩ = some v1 ∧ w.cell? ⟨m, 2, none⟩ = some v2 ∧ w.cell? ⟨m, 3, none⟩ = some v3 ∧ w.cell? ⟨m, 4, none⟩ = some v4 ∧ w.cell? ⟨m, 5, none⟩ = some v5 ∧ w.cell? ⟨m, 6, none⟩ = some v6 ∧ w.cell? ⟨m, 7, none⟩ = some v7 ∧ w.cell? ⟨m, 8, none⟩ = some v8 ∧ w.cell? ⟨m, 9, none⟩ = some v9 ∧ w.cell? ⟨m, 10, none⟩ = some v10) ∧
  (w.frozen? ⟨m, 0, none⟩ = false ∧ w.frozen? ⟨m, 1, none⟩ = false ∧ w.frozen? ⟨m, 2, none⟩ = false ∧ w.frozen? ⟨m, 3, none⟩ = false ∧ w.frozen? ⟨m, 4, none⟩ = false ∧ w.frozen? ⟨m, 5, none⟩ = false ∧ w.frozen? ⟨m, 6, none⟩ = false ∧ w.frozen? ⟨m, 7, none⟩ = false ∧ w.frozen? ⟨m, 8, none⟩ = false ∧ w.frozen? ⟨m, 9, none⟩ = false ∧ w.frozen? ⟨m, 10, none⟩ = false) :=
 ⟨⟨zae h 0, zae h 1, zae h 2, zae h 3, zae h 4, zae h 5, zae h 6, zae h 7, zae h 8, zae h 9, zae h 10⟩, ⟨zaf h 0, zaf h 1, zaf h 2, zaf h 3, zaf h 4, zaf h 5, zaf h 6, zaf h 7, zaf h 8, zaf h 9, zaf h 10⟩⟩
def zro (W : World) (g T c : Nat) (toks : List Tok) (r : PR S62) : Ending → World → Prop :=
 EndP r (fun x j e W' => ∃ cs L, e = .returned (.agg (([Value.int .i64 x.f0, Value.string x.f1] : List Value) ++ cs ++ [Value.int .i64 x.f3]).toArray) ∧ Tree W' W.heap.size x.f2 cs L ∧ PSt W' g T c toks j ∧ Fr W W' (· = g) ∧ j < toks.length ∧ L.Nodup) (fun W' => Fr W W' (· = g))
structure ItInv (W : World) (g T c : Nat) (toks : List Tok) (i m : Nat) (cells : Array Value) (W' : World) : Prop where
 st : PSt W' g T c toks i
 fr : Fr W W' (· = g)
 res : W'.heap[W.heap.size]? = some (.cells zov 62 (0, 0))
 itm : W'.heap[m]? = some (.cells cells 62 (0, 0))
 lt : W.heap.size < m
section
variable {W W1 W2 : World} {g T c i j m : Nat} {toks : List Tok} {cells : Array Value}
theorem ItInv.move (h : ItInv W g T c toks i m cells W1) (hg : g < W.heap.size) (hS : PSt W2 g T c toks j) (hF : Fr W1 W2 (· = g)) : ItInv W g T c toks j m cells W2 :=
 ⟨hS, h.fr.trans hF, hF.blk h.res (by omega), hF.blk h.itm (by have := h.lt; omega), h.lt⟩
theorem ItInv.other (h : ItInv W g T c toks i m cells W1) {S : Nat → Prop} (hF : Fr W1 W2 S) (hs : ∀ k, S k → W1.heap.size ≤ k) : ItInv W g T c toks i m cells W2 := by
 have lt1 := h.st.lts
 have lt2 := zat h.res
 have lt3 := zat h.itm
 exact ⟨h.st.fr hF (fun e => by have := hs _ e; omega) (fun e => by have := hs _ e; omega), h.fr.then_ hF (fun k hk => .inr (by have := hs k hk; omega)), hF.blk h.res (fun e => by have := hs _ e; omega), hF.blk h.itm (fun e => by have := hs _ e; omega), h.lt⟩
theorem ItInv.step (h : ItInv W g T c toks i m cells W1) (hg : g < W.heap.size) : ItInv W g T c toks (i + 1) m cells (W1.setCell ⟨g, 1, none⟩ (.int .i64 ((i : Int) + 1))) :=
 h.move hg h.st.step (Fr.setCell (S := (· = g)) (Fr.refl _ _) (.inl rfl) _)
theorem ItInv.put (h : ItInv W g T c toks i m cells W1) (hg : g < W.heap.size) (hT : T < W.heap.size) (k : Nat) (v : Value) {cells' : Array Value} (hc : cells.setIfInBounds k v = cells') : ItInv W g T c toks i m cells' (W1.setCell ⟨m, k, none⟩ v) := by
 have lt := h.lt
 have hF : Fr W1 (W1.setCell ⟨m, k, none⟩ v) (· = m) := Fr.setCell (S := (· = m)) (Fr.refl _ _) (.inl rfl) _
 subst hc
 exact ⟨h.st.fr hF (by omega) (by omega), h.fr.then_ hF (fun k hk => .inr (by omega)), hF.blk h.res (by omega), zak h.itm k v rfl, lt⟩
theorem ItInv.put8 (h : ItInv W g T c toks i m cells W1) (hg : g < W.heap.size) (hT : T < W.heap.size) {k : Int} {n : ByteArray} {a : Int} (hc : cells = zgq k n a) (v0 v1 v2 v3 v4 v5 v6 v7 : Value) :
  ItInv W g T c toks i m #[.int .i64 k, .string n, v0, v1, v2, v3, v4, v5, v6, v7, .int .i64 a] ((((((((W1.setCell ⟨m, 2, none⟩ v0).setCell ⟨m, 3, none⟩ v1).setCell ⟨m, 4, none⟩ v2).setCell ⟨m, 5, none⟩ v3).setCell ⟨m, 6, none⟩ v4).setCell ⟨m, 7, none⟩ v5).setCell ⟨m, 8, none⟩ v6).setCell ⟨m, 9, none⟩ v7) := by
 subst hc
 have e0 : ItInv W g T c toks i m #[.int .i64 k, .string n, v0, .string ⟨#[]⟩, .string ⟨#[]⟩, .slice none 0 0, .slice none 0 0, .slice none 0 0, .slice none 0 0, .int .i64 0, .int .i64 a] _ := h.put hg hT 2 v0 rfl
 have e1 : ItInv W g T c toks i m #[.int .i64 k, .string n, v0, v1, .string ⟨#[]⟩, .slice none 0 0, .slice none 0 0, .slice none 0 0, .slice none 0 0, .int .i64 0, .int .i64 a] _ := e0.put hg hT 3 v1 rfl
 have e2 : ItInv W g T c toks i m #[.int .i64 k, .string n, v0, v1, v2, .slice none 0 0, .slice none 0 0, .slice none 0 0, .slice none 0 0, .int .i64 0, .int .i64 a] _ := e1.put hg hT 4 v2 rfl
 have e3 : ItInv W g T c toks i m #[.int .i64 k, .string n, v0, v1, v2, v3, .slice none 0 0, .slice none 0 0, .slice none 0 0, .int .i64 0, .int .i64 a] _ := e2.put hg hT 5 v3 rfl
 have e4 : ItInv W g T c toks i m #[.int .i64 k, .string n, v0, v1, v2, v3, v4, .slice none 0 0, .slice none 0 0, .int .i64 0, .int .i64 a] _ := e3.put hg hT 6 v4 rfl
 have e5 : ItInv W g T c toks i m #[.int .i64 k, .string n, v0, v1, v2, v3, v4, v5, .slice none 0 0, .int .i64 0, .int .i64 a] _ := e4.put hg hT 7 v5 rfl
 have e6 : ItInv W g T c toks i m #[.int .i64 k, .string n, v0, v1, v2, v3, v4, v5, v6, .int .i64 0, .int .i64 a] _ := e5.put hg hT 8 v6 rfl
 exact e6.put hg hT 9 v7 rfl
abbrev zpd (W : World) (m : Nat) (v0 v1 v2 v3 v4 v5 v6 v7 v8 v9 v10 : Value) : World :=
 ((((((((((W.setCell ⟨m, 0, none⟩ v0).setCell ⟨m, 1, none⟩ v1).setCell ⟨m, 2, none⟩ v2).setCell ⟨m, 3, none⟩ v3).setCell ⟨m, 4, none⟩ v4).setCell ⟨m, 5, none⟩ v5).setCell ⟨m, 6, none⟩ v6).setCell ⟨m, 7, none⟩ v7).setCell ⟨m, 8, none⟩ v8).setCell ⟨m, 9, none⟩ v9).setCell ⟨m, 10, none⟩ v10
theorem ziz {m t : Nat} {a0 a1 a2 a3 a4 a5 a6 a7 a8 a9 a10 : Value} (h : W.heap[m]? = some (.cells #[a0, a1, a2, a3, a4, a5, a6, a7, a8, a9, a10] t (0, 0))) (v0 v1 v2 v3 v4 v5 v6 v7 v8 v9 v10 : Value) :
  (zpd W m v0 v1 v2 v3 v4 v5 v6 v7 v8 v9 v10).heap[m]? = some (.cells #[v0, v1, v2, v3, v4, v5, v6, v7, v8, v9, v10] t (0, 0)) := by
 have e0 : _ = some (Obj.cells #[v0, a1, a2, a3, a4, a5, a6, a7, a8, a9, a10] t (0, 0)) := zak h 0 v0 rfl
 have e1 : _ = some (Obj.cells #[v0, v1, a2, a3, a4, a5, a6, a7, a8, a9, a10] t (0, 0)) := zak e0 1 v1 rfl
 have e2 : _ = some (Obj.cells #[v0, v1, v2, a3, a4, a5, a6, a7, a8, a9, a10] t (0, 0)) := zak e1 2 v2 rfl
 have e3 : _ = some (Obj.cells #[v0, v1, v2, v3, a4, a5, a6, a7, a8, a9, a10] t (0, 0)) := zak e2 3 v3 rfl
 have e4 : _ = some (Obj.cells #[v0, v1, v2, v3, v4, a5, a6, a7, a8, a9, a10] t (0, 0)) := zak e3 4 v4 rfl
 have e5 : _ = some (Obj.cells #[v0, v1, v2, v3, v4, v5, a6, a7, a8, a9, a10] t (0, 0)) := zak e4 5 v5 rfl
 have e6 : _ = some (Obj.cells #[v0, v1, v2, v3, v4, v5, v6, a7, a8, a9, a10] t (0, 0)) := zak e5 6 v6 rfl
 have e7 : _ = some (Obj.cells #[v0, v1, v2, v3, v4, v5, v6, v7, a8, a9, a10] t (0, 0)) := zak e6 7 v7 rfl
 have e8 : _ = some (Obj.cells #[v0, v1, v2, v3, v4, v5, v6, v7, v8, a9, a10] t (0, 0)) := zak e7 8 v8 rfl
 have e9 : _ = some (Obj.cells #[v0, v1, v2, v3, v4, v5, v6, v7, v8, v9, a10] t (0, 0)) := zak e8 9 v9 rfl
 exact zak e9 10 v10 rfl
theorem zki (W : World) (m : Nat) (v0 v1 v2 v3 v4 v5 v6 v7 v8 v9 v10 : Value) : Fr W (zpd W m v0 v1 v2 v3 v4 v5 v6 v7 v8 v9 v10) (· = m) := by
 have e0 := (Fr.refl W (· = m)).setCell (p := ⟨m, 0, none⟩) (.inl rfl) v0
 have e1 := e0.setCell (p := ⟨m, 1, none⟩) (.inl rfl) v1
 have e2 := e1.setCell (p := ⟨m, 2, none⟩) (.inl rfl) v2
 have e3 := e2.setCell (p := ⟨m, 3, none⟩) (.inl rfl) v3
 have e4 := e3.setCell (p := ⟨m, 4, none⟩) (.inl rfl) v4
 have e5 := e4.setCell (p := ⟨m, 5, none⟩) (.inl rfl) v5
 have e6 := e5.setCell (p := ⟨m, 6, none⟩) (.inl rfl) v6
 have e7 := e6.setCell (p := ⟨m, 7, none⟩) (.inl rfl) v7
 have e8 := e7.setCell (p := ⟨m, 8, none⟩) (.inl rfl) v8
 have e9 := e8.setCell (p := ⟨m, 9, none⟩) (.inl rfl) v9
 exact e9.setCell (p := ⟨m, 10, none⟩) (.inl rfl) v10
end
theorem zok {W w6 w7 w8 w9 : World} {g T c i j m : Nat} {toks : List Tok} {cells cells' : Array Value} {k : Int} {n : ByteArray} {x : S60} {a : Int} {v0 v1 v2 v3 v4 v5 v6 v7 : Value} {L : List Nat} (hg : g < W.heap.size) (hT : T < W.heap.size)
  (hTr : Tree w7 w6.heap.size x [v0, v1, v2, v3, v4, v5, v6, v7] L) (hj : i < toks.length) (hND : L.Nodup) (h6 : W.heap.size < w6.heap.size) (h6' : m < w6.heap.size) (h7 : ItInv W g T c toks i m cells w7) (h9 : ItInv W g T c toks j m cells' w8)
  (hF : Fr (((((((( w7.setCell ⟨m, 2, none⟩ v0).setCell ⟨m, 3, none⟩ v1).setCell ⟨m, 4, none⟩ v2).setCell ⟨m, 5, none⟩ v3).setCell ⟨m, 6, none⟩ v4).setCell ⟨m, 7, none⟩ v5).setCell ⟨m, 8, none⟩ v6).setCell ⟨m, 9, none⟩ v7) w8 (· = g))
  (hR : Fr w8 w9 (· = W.heap.size)) (hj1 : j < toks.length) :
  zro W g T c toks (.ok ⟨k, n, x, a⟩ j) (.returned (.agg #[.int .i64 k, .string n, v0, v1, v2, v3, v4, v5, v6, v7, .int .i64 a])) w9 := by
 have e0 := (Fr.refl w7 (· = m)).setCell (p := ⟨m, 2, none⟩) (.inl rfl) v0
 have e1 := e0.setCell (p := ⟨m, 3, none⟩) (.inl rfl) v1
 have e2 := e1.setCell (p := ⟨m, 4, none⟩) (.inl rfl) v2
 have e3 := e2.setCell (p := ⟨m, 5, none⟩) (.inl rfl) v3
 have e4 := e3.setCell (p := ⟨m, 6, none⟩) (.inl rfl) v4
 have e5 := e4.setCell (p := ⟨m, 7, none⟩) (.inl rfl) v5
 have e6 := e5.setCell (p := ⟨m, 8, none⟩) (.inl rfl) v6
 have e7 := e6.setCell (p := ⟨m, 9, none⟩) (.inl rfl) v7
 have hlt := h9.lt
 refine ⟨[v0, v1, v2, v3, v4, v5, v6, v7], L, rfl, (((hTr.fr e7 fun g' hg' e => ?_).fr hF fun g' hg' e => ?_).fr hR fun g' hg' e => ?_).lower (by omega), h9.st.fr hR (by omega) (by omega), h9.fr.then_ hR fun k hk => .inr (by omega), hj1, hND⟩
 all_goals (have := (hTr.lt g' hg').1; omega)
theorem kind_look {W : World} {b : Nat} {t : Tok} (h : MapS W b zns) : ∃ z ok, (Instr.lookup 99 (.map (some b)) (.string t.text) true).run Tryz.prog W = .ok (.tuple #[.int .i64 z, .bool ok]) W ∧ zjs t = if ok = true then some z else none := by
 obtain ⟨v, ok, hl, hc⟩ := MapS.look_any Tryz.underlying99 Tryz.underlying9 (P := Tryz.prog) (z := .int .i64 0) (W := W) (by kernel_rfl) (s := t.text) h
 rcases hc with ⟨⟨p, hp, hs, hv⟩, rfl⟩ | ⟨hn, rfl, rfl⟩
 ·simp only [zns, List.mem_cons, List.not_mem_nil, or_false] at hp
  rcases hp with rfl | rfl | rfl
  ·exact ⟨1, true, by rw [hl, hv], by unfold zjs; rw [← hs]; kernel_rfl⟩
  ·exact ⟨2, true, by rw [hl, hv], by unfold zjs; rw [← hs]; kernel_rfl⟩
  ·exact ⟨3, true, by rw [hl, hv], by unfold zjs; rw [← hs]; kernel_rfl⟩
 ·refine ⟨0, false, hl, ?_⟩
  unfold zjs
  rw [if_neg (fun e => hn _ (List.mem_cons_self ..) (zcy e).symm), if_neg (fun e => hn _ (List.mem_cons_of_mem _ (List.mem_cons_self ..)) (zcy e).symm), if_neg (fun e => hn _ (List.mem_cons_of_mem _ (List.mem_cons_of_mem _ (List.mem_cons_self ..))) (zcy e).symm)]
  rfl
section
variable (g T c : Nat) (toks : List Tok) (hend : ∀ k, k < toks.length → (tk toks k).kind ≠ 8 → k + 1 < toks.length)
include hend
theorem item_calls (W : World) (k n i : Nat) (res : PR S62) (hi : i < toks.length) (hn : n ≤ 100) (hs : PSt W g T c toks i) (hres : zdx toks k n i = some res) :
  Calls Tryz.prog 29 #[.pointer (some ⟨g, 0, none⟩), .int .i64 n] W (zro W g T c toks res) := by
 have hg := hs.lts.1
 have hT := hs.lts.2.1
 have hm := hs.many
 have hf4 := zoz
 have hf1 := zml
 have HP := Zq.mk (fun W' (h' : PSt W' g T c toks i) => zca W' g T c toks i _ (zbt toks hi) h')
 have HP2 := HP
 have HFL := Zq.mk (fun W' e (h' : PSt W' g T c toks i) => zdt W' g T c toks i _ (zbt toks hi) e h')
 have HX0 := Zq.mk (hs.alloc (.cells zov 62))
 have HZ0 := Zq.mk (heap_alloc_new W (.cells zov 62))
 have HF0 := Zq.mk ((Fr.refl W (· = g)).alloc (.cells zov 62))
 have HRES := Zq.mk hres
 have HEND := Zq.mk hend
 have hmm := @run_makeMap Tryz.prog
 clear hs hres hend
 go_enter Tryz.func29, Tryz.ntmps29
 go_upto_region 3 with (first
  | (go_at_call 28; refine (HP.out _ HX0.out).mono ?_; rintro e1 w1 ⟨rfl, hb1⟩; have HI := Zq.mk (ItInv.mk ((HX0.out.below hb1).alloc (.cells (zgq 0 ⟨#[]⟩ (tk toks i).place) 62)) ((HF0.out.trans (Fr.of_below hb1)).alloc _) (zad ((Fr.of_below (S := (· = g)) hb1).blk HZ0.out (by show ¬ W.heap.size = g; omega)) _) (heap_alloc_new w1 (.cells (zgq 0 ⟨#[]⟩ (tk toks i).place) 62)) (zat ((Fr.of_below (S := (· = g)) hb1).blk HZ0.out (by show ¬ W.heap.size = g; omega)))); have HMAP := Zq.mk (zfu (w1.alloc (.cells (zgq 0 ⟨#[]⟩ (tk toks i).place) 62))); have HMB := Zq.mk (World.size_alloc w1 (.cells (zgq 0 ⟨#[]⟩ (tk toks i).place) 62)); have HG := Zq.mk ((Fr.refl (w1.alloc (.cells (zgq 0 ⟨#[]⟩ (tk toks i).place) 62)) (· = w1.heap.size + 1)).alloc (.map #[] 0)); clear hb1 HP)
  | (refine zdd rfl _ _ _ rfl Tryz.underlying99 Tryz.underlying9 (w1.heap.size + 1) _ _ _ rfl (HMB.out ▸ HMAP.out) rfl rfl (by kernel_rfl) ?_; intro w3 hm3 hg3; have HMAP := Zq.mk (HMB.out.symm ▸ hm3); have HG := Zq.mk (HG.out.trans (Fr.of_grown (S := (· = w1.heap.size + 1)) hg3 (fun k hk => (Option.some.inj hk).symm))); clear hm3 hg3))
 have HI1 := Zq.mk (ItInv.other HI.out HG.out (fun k hk => by rw [HMB.out]; omega))
 have HMAP := Zq.mk (show MapS w3 (w1.heap.size + 1) zns from HMB.out ▸ HMAP.out)
 clear HX0 HZ0 HF0 HI HG
 go_upto_region 4 with (go_at_call 28; go_loud (refine (HP2.out _ HI1.out.st).mono ?_; rintro e4 w4 ⟨rfl, hb4⟩; have HI2 := Zq.mk (ItInv.other (ItInv.other HI1.out (Fr.of_below (S := fun _ => False) hb4) (fun _ h => h.elim)) ((Fr.refl w4 (fun _ => False)).alloc (tokO (tk toks i))) (fun _ h => h.elim)); have HMAP2 := Zq.mk ((HMAP.out.blk (hb4.block _ HMAP.out.lt)).alloc (tokO (tk toks i))); have HM := Zq.mk (heap_alloc_new w4 (tokO (tk toks i))); have HL1 := Zq.mk (show w1.heap.size < w4.heap.size from Nat.lt_of_lt_of_le (zat HI1.out.itm) hb4.size); clear hb4 HMAP HI1 HP2))
 obtain ⟨z, ok, hlk, hkd⟩ := kind_look (t := tk toks i) HMAP2.out
 clear HMAP2
 obtain ⟨q0, q1, q2, q3, q4, q5⟩ := zcx HM.out
 have hgM : g ≠ w4.heap.size := (by have := HI2.out.lt; have := HL1.out; omega)
 have hgm : g ≠ w1.heap.size := (by have := HI2.out.lt; omega)
 have hmM : w1.heap.size ≠ w4.heap.size := (by have := HL1.out; omega)
 have hNm : W.heap.size ≠ w1.heap.size := (by have := HI2.out.lt; omega)
 have hres := HRES.out
 clear HRES
 unfold zdx at hres
 by_cases hk : (tk toks i).kind = 1
 ·rw [if_pos hk, hkd] at hres
  simp only [tokO, hk] at hlk HI2 q0 q1 q2 q3 q4 q5
  have hi1 := HEND.out i hi (by omega)
  clear hkd
  cases ok with
  | false =>
   have hres := Option.some.inj hres
   subst hres
   go_wp2_with (go_at_call 51; refine (HFL.out _ 90 HI2.out.st).mono ?_; rintro e5 w5 ⟨rfl, hb5⟩)
   exact ⟨rfl, rfl, HI2.out.fr.trans (Fr.of_below hb5)⟩
  | true =>
   by_cases h100 : n = 100
   ·rw [if_pos rfl] at hres
    simp only [if_pos h100] at hres
    have hres := Option.some.inj hres
    subst hres
    subst h100
    go_wp2_with (go_at_call 51; refine (HFL.out _ 92 HI2.out.st).mono ?_; rintro e5 w5 ⟨rfl, hb5⟩)
    exact ⟨rfl, rfl, HI2.out.fr.trans (Fr.of_below hb5)⟩
   ·rw [if_pos rfl] at hres
    simp only [if_neg h100] at hres
    have h100' : ¬ (n : Int) = 100 := by omega
    obtain ⟨s0, s1, s2⟩ := HI2.out.st.facts
    obtain ⟨⟨x0, -⟩, f0, -⟩ := zbi HI2.out.itm
    have HO := Zq.mk (fun W' (h' : PSt W' g T c toks (i + 1)) => zfi W' g T c toks (i + 1) _ (zbt toks hi1) 2 h')
    have HI3 := Zq.mk ((HI2.out.step hg).put hg hT 0 (.int .i64 z) (cells' := zgq z ⟨#[]⟩ (tk toks i).place) rfl)
    unfold ofP at hres
    by_cases h2 : (tk toks (i + 1)).kind = 2
    ·rw [if_pos h2] at hres
     simp only [if_pos h2] at HO
     dsimp only at hres
     have hi2 := HEND.out (i + 1) hi1 (by omega)
     have HWS := Zq.mk (fun W' j hj (h' : PSt W' g T c toks j) => zde W' g T c toks j _ (zbt toks hj) zff h')
     by_cases hz : z = 1
     ·simp only [if_pos hz] at hres
      subst hz
      unfold zby at hres
      have HWA := Zq.mk (fun W' (h' : PSt W' g T c toks (i + 1 + 1)) => zde W' g T c toks (i + 1 + 1) _ (zbt toks hi2) sEq h')
      by_cases h3 : isT (tk toks (i + 1 + 1)) sEq = true
      ·rw [if_pos h3] at hres
       simp only [if_pos h3] at HWA
       dsimp only at hres
       have hi3 := HEND.out (i + 1 + 1) hi2 (zbk h3)
       cases hc : zbl toks k 0 (i + 1 + 1 + 1) with
       | none => rw [hc] at hres; cases hres
       | some r =>
       rw [hc] at hres
       have HOR := Zq.mk (fun W' h' => (zkb g T c toks HEND.out k).1 W' (i + 1 + 1 + 1) r hi3 h' hc)
       clear hc
       cases r with
       | bad ke pe =>
        have hres := Option.some.inj hres
        subst hres
        go_wp2_with (first
         | (go_at_call 52; refine (HO.out _ HI3.out.st).mono ?_; rintro e5 w5 ⟨⟨rfl, hS5⟩, hF5⟩; have HI4 := Zq.mk (HI3.out.move hg hS5 hF5); obtain ⟨⟨u0, u1, -⟩, -, g1, -⟩ := zbi HI4.out.itm; have HI5 := Zq.mk (HI4.out.put hg hT 1 (.string (tk toks (i + 1)).text) (cells' := zgq 1 (tk toks (i + 1)).text (tk toks i).place) rfl); clear hS5 hF5 HO)
         | (go_at_call 53; refine (HWA.out _ HI5.out.st).mono ?_; rintro e6 w6 ⟨⟨rfl, hS6⟩, hF6⟩; have HI6 := Zq.mk (HI5.out.move hg hS6 hF6); clear hS6 hF6 HWA)
         | (go_at_call 54; refine (HOR.out _ HI6.out.st).mono ?_; rintro e7 w7 ⟨rfl, hF7⟩))
        exact ⟨rfl, rfl, HI6.out.fr.trans hF7⟩
       | ok x j =>
        have hres := Option.some.inj hres
        unfold zby at hres
        by_cases h4 : isT (tk toks j) zff = true
        ·rw [if_pos h4] at hres
         subst hres
         simp only [PR.bind]
         have HWS := Zq.mk (fun W' hj h' => HWS.out W' j hj h')
         simp only [if_pos h4] at HWS
         have HJ1 := Zq.mk (fun hj => HEND.out j hj (zbk h4))
         go_wp2_with (first
          | (go_at_call 52; refine (HO.out _ HI3.out.st).mono ?_; rintro e5 w5 ⟨⟨rfl, hS5⟩, hF5⟩; have HI4 := Zq.mk (HI3.out.move hg hS5 hF5); obtain ⟨⟨u0, u1, -⟩, -, g1, -⟩ := zbi HI4.out.itm; have HI5 := Zq.mk (HI4.out.put hg hT 1 (.string (tk toks (i + 1)).text) (cells' := zgq 1 (tk toks (i + 1)).text (tk toks i).place) rfl); clear hS5 hF5 HO)
          | (go_at_call 53; refine (HWA.out _ HI5.out.st).mono ?_; rintro e6 w6 ⟨⟨rfl, hS6⟩, hF6⟩; have HI6 := Zq.mk (HI5.out.move hg hS6 hF6); clear hS6 hF6 HWA)
          | (go_at_call 54; refine (HOR.out _ HI6.out.st).mono ?_; rintro e7 w7 ⟨cs, L, rfl, hTr, hS, hF, hj, hD, hd, hND⟩; obtain ⟨v3, v4, v5, v6, rfl, -, -, -, -, A3, n3, c3, A4, n4, c4, A5, n5, c5, A6, n6, c6, rfl, rfl, rfl, rfl⟩ := zbq hTr; have HI7 := Zq.mk (HI6.out.move hg hS hF); obtain ⟨⟨k0, k1, k2, k3, k4, k5, k6, k7, k8, k9, k10⟩, l0, l1, l2, l3, l4, l5, l6, l7, l8, l9, l10⟩ := zbi HI7.out.itm; have HI8 := Zq.mk (HI7.out.put8 hg hT rfl (.int .i64 x.1.f0) (.string x.1.f1) (.string x.1.f2) (.slice A3 n3 c3) (.slice A4 n4 c4) (.slice A5 n5 c5) (.slice A6 n6 c6) (.int .i64 x.1.f7)); have HTr := Zq.mk (And.intro hTr (And.intro hj hND)); have HSZ := Zq.mk (show W.heap.size < w6.heap.size ∧ w1.heap.size < w6.heap.size from ⟨zat HI6.out.res, zat HI6.out.itm⟩); clear hTr hS hF hj hD hd hND HOR)
          | (go_at_call 53; refine (HWS.out _ HTr.out.2.1 HI8.out.st).mono ?_; rintro e8 w8 ⟨⟨rfl, hS8⟩, hF8⟩; have HI9 := Zq.mk (HI8.out.move hg hS8 hF8); have HF89 := Zq.mk hF8; obtain ⟨⟨b0, b1, b2, b3, b4, b5, b6, b7, b8, b9, b10⟩, -⟩ := zbi HI9.out.itm; obtain ⟨⟨y0, y1, y2, y3, y4, y5, y6, y7, y8, y9, y10⟩, z0, z1, z2, z3, z4, z5, z6, z7, z8, z9, z10⟩ := zbi HI9.out.res; clear hS8 hF8))
         have R1 := ziz HI9.out.res (.int .i64 1) (.string (tk toks (i + 1)).text) (.int .i64 x.1.f0) (.string x.1.f1) (.string x.1.f2) (.slice A3 n3 c3) (.slice A4 n4 c4) (.slice A5 n5 c5) (.slice A6 n6 c6) (.int .i64 x.1.f7) (.int .i64 (tk toks i).place)
         have R3 := zki w8 W.heap.size (.int .i64 1) (.string (tk toks (i + 1)).text) (.int .i64 x.1.f0) (.string x.1.f1) (.string x.1.f2) (.slice A3 n3 c3) (.slice A4 n4 c4) (.slice A5 n5 c5) (.slice A6 n6 c6) (.int .i64 x.1.f7) (.int .i64 (tk toks i).place)
         refine bodyPost_ret (results_cell_row rfl _ _ W.heap.size 62 #[.int .i64 1, .string (tk toks (i + 1)).text, .int .i64 x.1.f0, .string x.1.f1, .string x.1.f2, .slice A3 n3 c3, .slice A4 n4 c4, .slice A5 n5 c5, .slice A6 n6 c6, .int .i64 x.1.f7, .int .i64 (tk toks i).place] (0, 0) _ rfl R1 Tryz.underlying62 rfl (by kernel_rfl)) rfl ?_
         exact zok hg hT HTr.out.1 HTr.out.2.1 HTr.out.2.2 HSZ.out.1 HSZ.out.2 HI7.out HI9.out HF89.out R3 (HJ1.out HTr.out.2.1)
        ·rw [if_neg h4] at hres
         subst hres
         simp only [PR.bind]
         have HWS := Zq.mk (fun W' hj h' => HWS.out W' j hj h')
         simp only [if_neg h4] at HWS
         go_wp2_with (first
          | (go_at_call 52; refine (HO.out _ HI3.out.st).mono ?_; rintro e5 w5 ⟨⟨rfl, hS5⟩, hF5⟩; have HI4 := Zq.mk (HI3.out.move hg hS5 hF5); obtain ⟨⟨u0, u1, -⟩, -, g1, -⟩ := zbi HI4.out.itm; have HI5 := Zq.mk (HI4.out.put hg hT 1 (.string (tk toks (i + 1)).text) (cells' := zgq 1 (tk toks (i + 1)).text (tk toks i).place) rfl); clear hS5 hF5 HO)
          | (go_at_call 53; refine (HWA.out _ HI5.out.st).mono ?_; rintro e6 w6 ⟨⟨rfl, hS6⟩, hF6⟩; have HI6 := Zq.mk (HI5.out.move hg hS6 hF6); clear hS6 hF6 HWA)
          | (go_at_call 54; refine (HOR.out _ HI6.out.st).mono ?_; rintro e7 w7 ⟨cs, L, rfl, hTr, hS, hF, hj, hD, hd, hND⟩; obtain ⟨v3, v4, v5, v6, rfl, -, -, -, -, A3, n3, c3, A4, n4, c4, A5, n5, c5, A6, n6, c6, rfl, rfl, rfl, rfl⟩ := zbq hTr; have HI7 := Zq.mk (HI6.out.move hg hS hF); obtain ⟨⟨k0, k1, k2, k3, k4, k5, k6, k7, k8, k9, k10⟩, l0, l1, l2, l3, l4, l5, l6, l7, l8, l9, l10⟩ := zbi HI7.out.itm; have HI8 := Zq.mk (HI7.out.put8 hg hT rfl (.int .i64 x.1.f0) (.string x.1.f1) (.string x.1.f2) (.slice A3 n3 c3) (.slice A4 n4 c4) (.slice A5 n5 c5) (.slice A6 n6 c6) (.int .i64 x.1.f7)); have HTr := Zq.mk (And.intro hTr (And.intro hj hND)); have HSZ := Zq.mk (show W.heap.size < w6.heap.size ∧ w1.heap.size < w6.heap.size from ⟨zat HI6.out.res, zat HI6.out.itm⟩); clear hTr hS hF hj hD hd hND HOR)
          | (go_at_call 53; refine (HWS.out _ HTr.out.2.1 HI8.out.st).mono ?_; rintro e8 w8 ⟨rfl, hF8⟩))
         exact ⟨rfl, rfl, HI8.out.fr.trans hF8⟩
      ·rw [if_neg h3] at hres
       simp only [if_neg h3] at HWA
       have hres := Option.some.inj hres
       subst hres
       go_wp2_with (first
        | (go_at_call 52; refine (HO.out _ HI3.out.st).mono ?_; rintro e5 w5 ⟨⟨rfl, hS5⟩, hF5⟩; have HI4 := Zq.mk (HI3.out.move hg hS5 hF5); obtain ⟨⟨u0, u1, -⟩, -, g1, -⟩ := zbi HI4.out.itm; have HI5 := Zq.mk (HI4.out.put hg hT 1 (.string (tk toks (i + 1)).text) (cells' := zgq 1 (tk toks (i + 1)).text (tk toks i).place) rfl); clear hS5 hF5 HO)
        | (go_at_call 53; refine (HWA.out _ HI5.out.st).mono ?_; rintro e6 w6 ⟨rfl, hF6⟩))
       exact ⟨rfl, rfl, HI5.out.fr.trans hF6⟩
     ·simp only [if_neg hz] at hres
      unfold zby at hres
      have HWA := Zq.mk (fun W' (h' : PSt W' g T c toks (i + 1 + 1)) => zde W' g T c toks (i + 1 + 1) _ (zbt toks hi2) znl h')
      by_cases h3 : isT (tk toks (i + 1 + 1)) znl = true
      ·rw [if_pos h3] at hres
       simp only [if_pos h3] at HWA
       dsimp only at hres
       have hi3 := HEND.out (i + 1 + 1) hi2 (zbk h3)
       cases hc : zbl toks k 0 (i + 1 + 1 + 1) with
       | none => rw [hc] at hres; cases hres
       | some r =>
       rw [hc] at hres
       have HOR := Zq.mk (fun W' h' => (zkb g T c toks HEND.out k).1 W' (i + 1 + 1 + 1) r hi3 h' hc)
       clear hc
       cases r with
       | bad ke pe =>
        have hres := Option.some.inj hres
        subst hres
        go_wp2_with (first
         | (go_at_call 52; refine (HO.out _ HI3.out.st).mono ?_; rintro e5 w5 ⟨⟨rfl, hS5⟩, hF5⟩; have HI4 := Zq.mk (HI3.out.move hg hS5 hF5); obtain ⟨⟨u0, u1, -⟩, -, g1, -⟩ := zbi HI4.out.itm; have HI5 := Zq.mk (HI4.out.put hg hT 1 (.string (tk toks (i + 1)).text) (cells' := zgq z (tk toks (i + 1)).text (tk toks i).place) rfl); clear hS5 hF5 HO)
         | (go_at_call 53; refine (HWA.out _ HI5.out.st).mono ?_; rintro e6 w6 ⟨⟨rfl, hS6⟩, hF6⟩; have HI6 := Zq.mk (HI5.out.move hg hS6 hF6); clear hS6 hF6 HWA)
         | (go_at_call 54; refine (HOR.out _ HI6.out.st).mono ?_; rintro e7 w7 ⟨rfl, hF7⟩))
        exact ⟨rfl, rfl, HI6.out.fr.trans hF7⟩
       | ok x j =>
        have hres := Option.some.inj hres
        unfold zby at hres
        by_cases h4 : isT (tk toks j) zff = true
        ·rw [if_pos h4] at hres
         subst hres
         simp only [PR.bind]
         have HWS := Zq.mk (fun W' hj h' => HWS.out W' j hj h')
         simp only [if_pos h4] at HWS
         have HJ1 := Zq.mk (fun hj => HEND.out j hj (zbk h4))
         go_wp2_with (first
          | (go_at_call 52; refine (HO.out _ HI3.out.st).mono ?_; rintro e5 w5 ⟨⟨rfl, hS5⟩, hF5⟩; have HI4 := Zq.mk (HI3.out.move hg hS5 hF5); obtain ⟨⟨u0, u1, -⟩, -, g1, -⟩ := zbi HI4.out.itm; have HI5 := Zq.mk (HI4.out.put hg hT 1 (.string (tk toks (i + 1)).text) (cells' := zgq z (tk toks (i + 1)).text (tk toks i).place) rfl); clear hS5 hF5 HO)
          | (go_at_call 53; refine (HWA.out _ HI5.out.st).mono ?_; rintro e6 w6 ⟨⟨rfl, hS6⟩, hF6⟩; have HI6 := Zq.mk (HI5.out.move hg hS6 hF6); clear hS6 hF6 HWA)
          | (go_at_call 54; refine (HOR.out _ HI6.out.st).mono ?_; rintro e7 w7 ⟨cs, L, rfl, hTr, hS, hF, hj, hD, hd, hND⟩; obtain ⟨v3, v4, v5, v6, rfl, -, -, -, -, A3, n3, c3, A4, n4, c4, A5, n5, c5, A6, n6, c6, rfl, rfl, rfl, rfl⟩ := zbq hTr; have HI7 := Zq.mk (HI6.out.move hg hS hF); obtain ⟨⟨k0, k1, k2, k3, k4, k5, k6, k7, k8, k9, k10⟩, l0, l1, l2, l3, l4, l5, l6, l7, l8, l9, l10⟩ := zbi HI7.out.itm; have HI8 := Zq.mk (HI7.out.put8 hg hT rfl (.int .i64 x.1.f0) (.string x.1.f1) (.string x.1.f2) (.slice A3 n3 c3) (.slice A4 n4 c4) (.slice A5 n5 c5) (.slice A6 n6 c6) (.int .i64 x.1.f7)); have HTr := Zq.mk (And.intro hTr (And.intro hj hND)); have HSZ := Zq.mk (show W.heap.size < w6.heap.size ∧ w1.heap.size < w6.heap.size from ⟨zat HI6.out.res, zat HI6.out.itm⟩); clear hTr hS hF hj hD hd hND HOR)
          | (go_at_call 53; refine (HWS.out _ HTr.out.2.1 HI8.out.st).mono ?_; rintro e8 w8 ⟨⟨rfl, hS8⟩, hF8⟩; have HI9 := Zq.mk (HI8.out.move hg hS8 hF8); have HF89 := Zq.mk hF8; obtain ⟨⟨b0, b1, b2, b3, b4, b5, b6, b7, b8, b9, b10⟩, -⟩ := zbi HI9.out.itm; obtain ⟨⟨y0, y1, y2, y3, y4, y5, y6, y7, y8, y9, y10⟩, z0, z1, z2, z3, z4, z5, z6, z7, z8, z9, z10⟩ := zbi HI9.out.res; clear hS8 hF8))
         have R1 := ziz HI9.out.res (.int .i64 z) (.string (tk toks (i + 1)).text) (.int .i64 x.1.f0) (.string x.1.f1) (.string x.1.f2) (.slice A3 n3 c3) (.slice A4 n4 c4) (.slice A5 n5 c5) (.slice A6 n6 c6) (.int .i64 x.1.f7) (.int .i64 (tk toks i).place)
         have R3 := zki w8 W.heap.size (.int .i64 z) (.string (tk toks (i + 1)).text) (.int .i64 x.1.f0) (.string x.1.f1) (.string x.1.f2) (.slice A3 n3 c3) (.slice A4 n4 c4) (.slice A5 n5 c5) (.slice A6 n6 c6) (.int .i64 x.1.f7) (.int .i64 (tk toks i).place)
         refine bodyPost_ret (results_cell_row rfl _ _ W.heap.size 62 #[.int .i64 z, .string (tk toks (i + 1)).text, .int .i64 x.1.f0, .string x.1.f1, .string x.1.f2, .slice A3 n3 c3, .slice A4 n4 c4, .slice A5 n5 c5, .slice A6 n6 c6, .int .i64 x.1.f7, .int .i64 (tk toks i).place] (0, 0) _ rfl R1 Tryz.underlying62 rfl (by kernel_rfl)) rfl ?_
         exact zok hg hT HTr.out.1 HTr.out.2.1 HTr.out.2.2 HSZ.out.1 HSZ.out.2 HI7.out HI9.out HF89.out R3 (HJ1.out HTr.out.2.1)
        ·rw [if_neg h4] at hres
         subst hres
         simp only [PR.bind]
         have HWS := Zq.mk (fun W' hj h' => HWS.out W' j hj h')
         simp only [if_neg h4] at HWS
         go_wp2_with (first
          | (go_at_call 52; refine (HO.out _ HI3.out.st).mono ?_; rintro e5 w5 ⟨⟨rfl, hS5⟩, hF5⟩; have HI4 := Zq.mk (HI3.out.move hg hS5 hF5); obtain ⟨⟨u0, u1, -⟩, -, g1, -⟩ := zbi HI4.out.itm; have HI5 := Zq.mk (HI4.out.put hg hT 1 (.string (tk toks (i + 1)).text) (cells' := zgq z (tk toks (i + 1)).text (tk toks i).place) rfl); clear hS5 hF5 HO)
          | (go_at_call 53; refine (HWA.out _ HI5.out.st).mono ?_; rintro e6 w6 ⟨⟨rfl, hS6⟩, hF6⟩; have HI6 := Zq.mk (HI5.out.move hg hS6 hF6); clear hS6 hF6 HWA)
          | (go_at_call 54; refine (HOR.out _ HI6.out.st).mono ?_; rintro e7 w7 ⟨cs, L, rfl, hTr, hS, hF, hj, hD, hd, hND⟩; obtain ⟨v3, v4, v5, v6, rfl, -, -, -, -, A3, n3, c3, A4, n4, c4, A5, n5, c5, A6, n6, c6, rfl, rfl, rfl, rfl⟩ := zbq hTr; have HI7 := Zq.mk (HI6.out.move hg hS hF); obtain ⟨⟨k0, k1, k2, k3, k4, k5, k6, k7, k8, k9, k10⟩, l0, l1, l2, l3, l4, l5, l6, l7, l8, l9, l10⟩ := zbi HI7.out.itm; have HI8 := Zq.mk (HI7.out.put8 hg hT rfl (.int .i64 x.1.f0) (.string x.1.f1) (.string x.1.f2) (.slice A3 n3 c3) (.slice A4 n4 c4) (.slice A5 n5 c5) (.slice A6 n6 c6) (.int .i64 x.1.f7)); have HTr := Zq.mk (And.intro hTr (And.intro hj hND)); have HSZ := Zq.mk (show W.heap.size < w6.heap.size ∧ w1.heap.size < w6.heap.size from ⟨zat HI6.out.res, zat HI6.out.itm⟩); clear hTr hS hF hj hD hd hND HOR)
          | (go_at_call 53; refine (HWS.out _ HTr.out.2.1 HI8.out.st).mono ?_; rintro e8 w8 ⟨rfl, hF8⟩))
         exact ⟨rfl, rfl, HI8.out.fr.trans hF8⟩
      ·rw [if_neg h3] at hres
       simp only [if_neg h3] at HWA
       have hres := Option.some.inj hres
       subst hres
       go_wp2_with (first
        | (go_at_call 52; refine (HO.out _ HI3.out.st).mono ?_; rintro e5 w5 ⟨⟨rfl, hS5⟩, hF5⟩; have HI4 := Zq.mk (HI3.out.move hg hS5 hF5); obtain ⟨⟨u0, u1, -⟩, -, g1, -⟩ := zbi HI4.out.itm; have HI5 := Zq.mk (HI4.out.put hg hT 1 (.string (tk toks (i + 1)).text) (cells' := zgq z (tk toks (i + 1)).text (tk toks i).place) rfl); clear hS5 hF5 HO)
        | (go_at_call 53; refine (HWA.out _ HI5.out.st).mono ?_; rintro e6 w6 ⟨rfl, hF6⟩))
       exact ⟨rfl, rfl, HI5.out.fr.trans hF6⟩
    ·rw [if_neg h2] at hres
     simp only [if_neg h2] at HO
     have hres := Option.some.inj hres
     subst hres
     go_wp2_with (go_at_call 52; refine (HO.out _ HI3.out.st).mono ?_; rintro e5 w5 ⟨rfl, hF5⟩)
     exact ⟨rfl, rfl, HI3.out.fr.trans hF5⟩
 ·rw [if_neg hk] at hres
  have hres := Option.some.inj hres
  subst hres
  clear hkd
  go_wp2_with (go_at_call 51; refine (HFL.out _ 90 HI2.out.st).mono ?_; rintro e5 w5 ⟨rfl, hb5⟩)
  exact ⟨rfl, rfl, HI2.out.fr.trans (Fr.of_below hb5)⟩
end
end
section
def gB (k : Int) (b : UInt8) : Bool := zim k (b.toNat : Int)
def runS (k : Int) : List UInt8 → Nat
 | [] => 0
 | _ :: r => 1 + (r.takeWhile (gB k)).length
theorem zoq (s : ByteArray) (i : Nat) (h : i < s.size) : (bl s)[i]'(by rw [zbj]; exact h) = s[i]'h := rfl
theorem zmz (k c : Int) (hk : k ≠ 2) (hc : 128 ≤ c) : zim k c = false := by
 unfold zim
 by_cases h1 : k = 1
 ·rw [if_pos h1]
  have : zbb c = 0 := by unfold zbb; repeat rw [if_neg (by omega)]
  rw [this]; rfl
 rw [if_neg h1, if_neg hk]
 by_cases h3 : k = 3
 ·rw [if_pos h3, decide_eq_false (by omega)]
 rw [if_neg h3]
 by_cases h4 : k = 4
 ·rw [if_pos h4, decide_eq_false (by omega)]
 rw [if_neg h4]
 by_cases h5 : k = 5
 ·rw [if_pos h5, decide_eq_false (by omega)]
 rw [if_neg h5]
theorem zif (s : ByteArray) (pos : Nat) (h : pos < s.size) (hb : 128 ≤ (s[pos]'h).toNat) : ∀ j, j < (Utf8.decode s pos).2 → ∃ h' : pos + j < s.size, 128 ≤ (s[pos + j]'h').toNat := by
 have cont : ∀ k, (decide (pos + k < s.size) && ((s.get! (pos + k)).toNat / 64 == 2)) = true → ∃ h' : pos + k < s.size, 128 ≤ (s[pos + k]'h').toNat := by
  intro k hk
  simp only [Bool.and_eq_true, decide_eq_true_eq, beq_iff_eq] at hk
  refine ⟨hk.1, ?_⟩
  have e : s.get! (pos + k) = s[pos + k]'hk.1 := get_at s (pos + k) hk.1
  have := hk.2
  rw [e] at this
  omega
 have zero : ∃ h' : pos + 0 < s.size, 128 ≤ (s[pos + 0]'h').toNat := ⟨h, hb⟩
 intro j hj
 have h0 : s.get! (pos + 0) = s[pos]'h := get_at s pos h
 unfold Utf8.decode at hj
 simp only [h0] at hj
 rw [if_neg (by omega)] at hj
 have one : j < 1 → ∃ h' : pos + j < s.size, 128 ≤ (s[pos + j]'h').toNat := fun h1 => by
  obtain rfl : j = 0 := by omega
  exact zero
 split at hj
 ·rename_i c
  simp only [Bool.and_eq_true] at c
  have c1 := cont 1 (by simpa using c.2)
  split at hj
  ·have hj : j < 2 := hj
   match j, hj with
   | 0, _ => exact zero
   | 1, _ => exact c1
  ·exact one hj
 ·split at hj
  ·rename_i c
   simp only [Bool.and_eq_true] at c
   have c1 := cont 1 (by simpa using c.1.2)
   have c2 := cont 2 (by simpa using c.2)
   split at hj
   ·have hj : j < 3 := hj
    match j, hj with
    | 0, _ => exact zero
    | 1, _ => exact c1
    | 2, _ => exact c2
   ·exact one hj
  ·split at hj
   ·rename_i c
    simp only [Bool.and_eq_true] at c
    have c1 := cont 1 (by simpa using c.1.1.2)
    have c2 := cont 2 (by simpa using c.1.2)
    have c3 := cont 3 (by simpa using c.2)
    split at hj
    ·have hj : j < 4 := hj
     match j, hj with
     | 0, _ => exact zero
     | 1, _ => exact c1
     | 2, _ => exact c2
     | 3, _ => exact c3
    ·exact one hj
   ·exact one hj
theorem take_many (p : UInt8 → Bool) : ∀ (w : Nat) (l : List UInt8), w ≤ l.length → (∀ j (h : j < l.length), j < w → p l[j] = true) → (l.takeWhile p).length = w + ((l.drop w).takeWhile p).length := by
 intro w
 induction w with
 | zero => intro l _ _; simp
 | succ w ih =>
  intro l hl hp
  match l, hl with
  | a :: l, hl =>
   have h0 : p a = true := hp 0 (by simp) (by omega)
   rw [List.takeWhile_cons_of_pos h0, List.length_cons, List.drop_succ_cons, ih l (by simpa using hl) (fun j h hj => by have := hp (j + 1) (by simpa using h) (by omega); simpa using this)]
   omega
theorem zob (k : Int) (s : ByteArray) : ∀ (fuel pos : Nat), 0 < pos → pos ≤ s.size → s.size - pos + 1 ≤ fuel → lex_run.go k s fuel pos = some (((pos + (((bl s).drop pos).takeWhile (gB k)).length : Nat)) : Int) := by
 have hz := zbj s
 intro fuel
 induction fuel using Nat.strongRecOn with
 | ind fuel ih =>
  intro pos h0 hp hf
  obtain ⟨f, rfl⟩ : ∃ m, fuel = m + 1 := ⟨fuel - 1, by omega⟩
  rw [lex_run.go]
  by_cases hlt : pos < s.size
  ·rw [if_pos hlt, if_pos h0, lex_goes_eq]
   simp only [Option.bind_some]
   have hd := zgt (bl s) pos (by omega)
   by_cases hb : (s[pos]'hlt).toNat < 128
   ·have hdec := decode_ascii s pos hlt hb
    rw [hdec, hd]
    show (if zim k (((s[pos]'hlt).toNat : Nat) : Int) = true then _ else _) = _
    by_cases hg : zim k (((s[pos]'hlt).toNat : Nat) : Int) = true
    ·rw [if_pos hg, List.takeWhile_cons_of_pos (show gB k (bl s)[pos] = true from hg), ih f (by omega) (pos + 1) (by omega) (by omega) (by omega), List.length_cons]
     congr 2
     omega
    ·rw [if_neg hg, List.takeWhile_cons_of_neg (show ¬ gB k (bl s)[pos] = true from hg)]
     rfl
   ·obtain ⟨hc, hw⟩ := decode_high s pos hlt (by omega)
    by_cases h2 : k = 2
    ·subst h2
     have hall := zif s pos hlt (by omega)
     generalize (Utf8.decode s pos).2 = w at hw hall
     generalize (Utf8.decode s pos).1 = c at hc
     have hg : zim 2 (c : Int) = true := by show (if (2 : Int) = 1 then _ else if (2 : Int) = 2 then _ else _) = true; rw [if_neg (by decide), if_pos rfl]; rw [bne_iff_ne]; omega
     rw [if_pos hg]
     obtain ⟨hl, _⟩ := hall (w - 1) (by omega)
     rw [ih f (by omega) (pos + w) (by omega) (by omega) (by omega)]
     rw [take_many (gB 2) w ((bl s).drop pos) (by rw [List.length_drop]; omega) (fun j h hj => ?_), List.drop_drop]
     ·congr 2
      omega
     ·obtain ⟨h', h''⟩ := hall j hj
      rw [List.getElem_drop]
      show zim 2 (((bl s)[pos + j].toNat : Nat) : Int) = true
      rw [zoq s (pos + j) h']
      show (if (2 : Int) = 1 then _ else if (2 : Int) = 2 then _ else _) = true
      rw [if_neg (by decide), if_pos rfl, bne_iff_ne]
      omega
    ·rw [zmz k _ h2 (by omega), if_neg (by decide), hd, List.takeWhile_cons_of_neg]
     ·rfl
     ·show ¬ zim k (((bl s)[pos].toNat : Nat) : Int) = true
      rw [zoq s pos hlt, zmz k _ h2 (by omega)]
      decide
  ·rw [if_neg hlt, List.drop_of_length_le (by omega)]
   have : pos = s.size := by omega
   simp [this]
theorem zhw (k : Int) (s : ByteArray) (hz : s.size ≤ 9223372036854775807) (h0 : 0 < s.size) (hb : (s[0]'h0).toNat < 128) : lex_run.f k s = some ((runS k (bl s) : Nat) : Int) := by
 have hl := zbj s
 unfold lex_run.f
 rw [if_pos hz, lex_run.go, if_pos h0, if_neg (by omega), decode_ascii s 0 h0 hb]
 show lex_run.go k s s.size (0 + 1) = _
 rw [zob k s s.size 1 (by omega) (by omega) (by omega)]
 have hd := zgt (bl s) 0 (by omega)
 rw [List.drop_zero] at hd
 conv => rhs; rw [hd]
 rfl
theorem runS_all (k : Int) (b : UInt8) (r : List UInt8) : runS k (b :: r) = (b :: r).length ↔ r.all (gB k) = true := by
 show 1 + (r.takeWhile (gB k)).length = r.length + 1 ↔ _
 constructor
 ·intro h
  have h1 : r.takeWhile (gB k) = r := List.IsPrefix.eq_of_length (List.takeWhile_prefix _) (by omega)
  rw [← h1]
  exact List.all_takeWhile
 ·intro h
  have : r.takeWhile (gB k) = r := by
   clear b
   induction r with
   | nil => rfl
   | cons a r ih =>
    simp only [List.all_cons, Bool.and_eq_true] at h
    rw [List.takeWhile_cons_of_pos h.1, ih h.2]
  rw [this]; omega
end
section
def zgs (s : ByteArray) : Bool :=
 match bl s with
 | [] => false
 | b :: r => decide (97 ≤ (b.toNat : Int) ∧ (b.toNat : Int) ≤ 122) && (r.all (gB 3) && (decide (s.size ≤ 32) && !zlz s))
theorem ziw (c : Int) (h0 : 0 ≤ c) (h1 : c < 256) : wrap32 c = c := by unfold wrap32; omega
theorem toList_bl (s : ByteArray) : s.toList = bl s := Lib.toList_data s
theorem zih (c : Int) : zbb c = 3 ↔ 97 ≤ c ∧ c ≤ 122 := by
 unfold zbb
 constructor
 ·intro h
  split at h
  ·cases h
  split at h
  ·cases h
  split at h
  ·assumption
  split at h
  ·cases h
  split at h
  ·cases h
  split at h
  ·cases h
  split at h <;> cases h
 ·intro h
  rw [if_neg (by omega), if_neg (by omega), if_pos h]
theorem lex_isname_eq (s : ByteArray) (hz : s.size ≤ 140737488351232) (k : Nat) (hk : 100 ≤ k) : lex_IsName.f k s = some (zgs s) := by
 have hl := zbj s
 unfold lex_IsName.f zgs
 rw [toList_bl]
 match hb : bl s with
 | [] => rw [if_pos rfl]
 | b :: r =>
  rw [hb] at hl
  have h0 : 0 < s.size := by rw [← hl]; simp
  have hbt : bt s 0 = (b.toNat : Int) := by
   have := zne s 0 (by rw [hb]; simp)
   simpa [hb] using this
  have hg : s[0]'h0 = b := by
   have h1 := zoq s 0 h0
   rw [← h1]
   simp [hb]
  have hbr := b.toNat_lt
  rw [if_neg (by simp), if_pos (by omega), hbt, ziw _ (by omega) (by omega), zfk]
  simp only [Option.bind_some]
  by_cases hs : 97 ≤ (b.toNat : Int) ∧ (b.toNat : Int) ≤ 122
  ·rw [if_pos ((zih _).2 hs), zhw 3 s (by omega) h0 (by rw [hg]; omega), hb]
   simp only [Option.bind_some]
   have ha := runS_all 3 b r
   rw [decide_eq_true hs, Bool.true_and]
   by_cases hr : r.all (gB 3) = true
   ·have he : (runS 3 (b :: r) : Int) = (s.size : Int) := by rw [ha.2 hr, hl]
    rw [if_pos he, hr, Bool.true_and]
    by_cases h32 : (s.size : Int) ≤ 32
    ·rw [if_pos h32, zhf s k hk, decide_eq_true (show s.size ≤ 32 by omega)]
     rfl
    ·rw [if_neg h32, decide_eq_false (show ¬ s.size ≤ 32 by omega)]
     rfl
   ·have he : ¬ (runS 3 (b :: r) : Int) = (s.size : Int) := fun e => hr (ha.1 (by rw [hl]; omega))
    rw [if_neg he, Bool.eq_false_iff.2 hr]
    rfl
  ·rw [if_neg (fun e => hs ((zih _).1 e)), decide_eq_false hs]
   rfl
end
section
theorem zlr (l : List UInt8) : strOfNums (l.map fun b => (b.toNat : Int)) = toS l := Go.Lib.Lz.strOfNums_map l
theorem zqy (l : List UInt8) : bl (toS l) = l := rfl
def qdS : List UInt8 → Option (List UInt8 × Nat)
 | [] => none
 | [c] => if c.toNat = 34 then some ([], 1) else none
 | c :: d :: r =>
  if c.toNat = 34 then some ([], 1)
  else if c.toNat = 92 then (if d.toNat = 34 ∨ d.toNat = 92 then (qdS r).map (fun x => (d :: x.1, x.2 + 2)) else none)
  else if c.toNat < 32 ∨ 126 < c.toNat then none
  else (qdS (d :: r)).map (fun x => (c :: x.1, x.2 + 1))
theorem znn (c : UInt8) (r : List UInt8) (h : c.toNat = 34) : qdS (c :: r) = some ([], 1) := by
 cases r <;> simp [qdS, h]
theorem znm (c d : UInt8) (r : List UInt8) (h : c.toNat = 92) : qdS (c :: d :: r) = if d.toNat = 34 ∨ d.toNat = 92 then (qdS r).map (fun x => (d :: x.1, x.2 + 2)) else none := by
 simp [qdS, h]
theorem zno (c : UInt8) (r : List UInt8) (h : c.toNat < 32 ∨ 126 < c.toNat) : qdS (c :: r) = none := by
 cases r with
 | nil => simp only [qdS]; rw [if_neg (by omega)]
 | cons d r => simp only [qdS]; rw [if_neg (by omega), if_neg (by omega), if_pos h]
theorem zlo (c : UInt8) (r : List UInt8) (h1 : c.toNat ≠ 34) (h2 : c.toNat ≠ 92) (h : ¬ (c.toNat < 32 ∨ 126 < c.toNat)) : qdS (c :: r) = (qdS r).map (fun x => (c :: x.1, x.2 + 1)) := by
 cases r with
 | nil => simp only [qdS]; rw [if_neg h1]; rfl
 | cons d r => simp only [qdS]; rw [if_neg h1, if_neg h2, if_neg h]
def qdR (acc : List UInt8) (i : Nat) : Option (List UInt8 × Nat) → ByteArray × Int × Bool
 | some (o, n) => (toS (acc ++ o), ((i + n : Nat) : Int), decide ((acc ++ o).length ≤ 200))
 | none => ((⟨#[]⟩ : ByteArray), 0, false)
theorem zlp (acc : List UInt8) (c : UInt8) (i m : Nat) (x : Option (List UInt8 × Nat)) : qdR (acc ++ [c]) (i + m) x = qdR acc i (x.map fun x => (c :: x.1, x.2 + m)) := by
 cases x with
 | none => rfl
 | some x =>
  simp only [qdR, Option.map_some, List.append_assoc, List.cons_append, List.nil_append]
  rw [show i + m + x.2 = i + (x.2 + m) by omega]
theorem quoted_l0 (s : ByteArray) (hz : s.size ≤ 8000) : ∀ (d i k : Nat) (acc : List UInt8), i + d = (bl s).length → d + 1 ≤ k → acc.length ≤ i →
  lex_quoted.l0 k s (acc.map fun b => (b.toNat : Int)) (i : Int) = some (qdR acc i (qdS ((bl s).drop i))) := by
 have hl := zbj s
 intro d
 induction d using Nat.strongRecOn with
 | _ d ih =>
 intro i k acc hi hk ha
 obtain ⟨k, rfl⟩ : ∃ m, k = m + 1 := ⟨k - 1, by omega⟩
 have hm : (acc.map fun b => (b.toNat : Int)).length = acc.length := List.length_map ..
 simp only [lex_quoted.l0]
 by_cases hd : d = 0
 ·rw [if_neg (by omega), List.drop_of_length_le (by omega)]; rfl
 have hlt : i < (bl s).length := by omega
 rw [if_pos (by omega), if_pos (by omega), zne s i hlt, zip i (by omega), zgt _ i hlt]
 have hbr := (bl s)[i].toNat_lt
 generalize (bl s)[i] = c at hbr
 by_cases h34 : c.toNat = 34
 ·rw [if_pos (by omega), znn _ _ h34, zlr, hm]
  simp [qdR]
  omega
 rw [if_neg (by omega)]
 have snoc : ∀ e : UInt8, (acc.map fun b => (b.toNat : Int)) ++ [(e.toNat : Int)] = (acc ++ [e]).map fun b => (b.toNat : Int) := fun e => by simp
 have hl1 : ∀ e : UInt8, (acc ++ [e]).length = acc.length + 1 := fun e => by simp
 by_cases h92 : c.toNat = 92
 ·rw [if_pos (by omega)]
  by_cases he : i + 1 = (bl s).length
  ·rw [if_pos (by omega), List.drop_of_length_le (by omega)]
   simp only [qdS]
   rw [if_neg h34]; rfl
  have hlt' : i + 1 < (bl s).length := by omega
  rw [if_neg (by omega), if_pos (by omega), if_pos (by omega), zne s (i + 1) hlt', zip (i + 1) (by omega), zgt _ (i + 1) hlt', znm _ _ _ h92]
  have hbr' := (bl s)[i + 1].toNat_lt
  generalize (bl s)[i + 1] = e at hbr'
  have key := fun (h : e.toNat = 34 ∨ e.toNat = 92) => ih (d - 2) (by omega) (i + 2) k (acc ++ [e]) (by omega) (by omega) (by rw [hl1]; omega)
  rw [show i + 1 + 1 = i + 2 by omega, snoc]
  by_cases g : e.toNat = 34
  ·rw [if_pos (by omega), if_pos (by omega), if_pos (.inl g), key (.inl g), zlp]
  ·rw [if_neg (by omega)]
   by_cases g2 : e.toNat = 92
   ·rw [if_pos (by omega), if_pos (by omega), if_pos (.inr g2), key (.inr g2), zlp]
   ·rw [if_neg (by omega), if_neg (by omega)]; rfl
 rw [if_neg (by omega)]
 by_cases h32 : c.toNat < 32
 ·rw [if_pos (by omega), zno _ _ (.inl h32)]; rfl
 rw [if_neg (by omega)]
 by_cases h126 : 126 < c.toNat
 ·rw [if_pos (by omega), zno _ _ (.inr h126)]; rfl
 rw [if_neg (by omega), if_pos (by omega), snoc, zlo _ _ h34 h92 (by omega), ih (d - 1) (by omega) (i + 1) k (acc ++ [c]) (by omega) (by omega) (by rw [hl1]; omega), zlp]
theorem quoted_ev (s : ByteArray) (hz : s.size ≤ 8000) (h0 : 0 < s.size) (k : Nat) (hk : s.size + 1 ≤ k) : lex_quoted.f k s = some (qdR [] 1 (qdS ((bl s).drop 1))) := by
 have hl := zbj s
 have := quoted_l0 s hz ((bl s).length - 1) 1 k [] (by omega) (by omega) (by simp)
 exact this
theorem zpj : ∀ (m : Nat) (u : List UInt8) (o : List UInt8) (n : Nat), u.length ≤ m → qdS u = some (o, n) → n ≤ u.length ∧ 0 < n ∧ ∀ v : List UInt8, qdS (u.take n ++ v) = some (o, n) := by
 intro m
 induction m with
 | zero =>
  intro u o n hm h
  match u with
  | [] => cases h
  | c :: r => rw [List.length_cons] at hm; omega
 | succ m ih =>
  intro u o n hm h
  match u with
  | [] => cases h
  | c :: r =>
   rw [List.length_cons] at hm
   by_cases h34 : c.toNat = 34
   ·rw [znn c r h34] at h
    obtain ⟨rfl, rfl⟩ := Prod.mk.inj (Option.some.inj h)
    refine ⟨by simp, by decide, fun v => ?_⟩
    exact znn c v h34
   by_cases h92 : c.toNat = 92
   ·match r with
    | [] => simp only [qdS] at h; rw [if_neg h34] at h; cases h
    | e :: r =>
     rw [znm c e r h92] at h
     rw [List.length_cons] at hm
     by_cases he : e.toNat = 34 ∨ e.toNat = 92
     ·rw [if_pos he] at h
      match hq : qdS r with
      | none => rw [hq] at h; cases h
      | some (o', n') =>
       rw [hq] at h
       obtain ⟨rfl, rfl⟩ := Prod.mk.inj (Option.some.inj h)
       obtain ⟨h1, h2, h3⟩ := ih r o' n' (by omega) hq
       refine ⟨by simp; omega, by omega, fun v => ?_⟩
       show qdS (c :: e :: (r.take n' ++ v)) = _
       rw [znm c e _ h92, if_pos he, h3 v]
       rfl
     ·rw [if_neg he] at h; cases h
   by_cases hb : c.toNat < 32 ∨ 126 < c.toNat
   ·rw [zno c r hb] at h; cases h
   ·rw [zlo c r h34 h92 hb] at h
    match hq : qdS r with
    | none => rw [hq] at h; cases h
    | some (o', n') =>
     rw [hq] at h
     obtain ⟨rfl, rfl⟩ := Prod.mk.inj (Option.some.inj h)
     obtain ⟨h1, h2, h3⟩ := ih r o' n' (by omega) hq
     refine ⟨by simp; omega, by omega, fun v => ?_⟩
     show qdS (c :: (r.take n' ++ v)) = _
     rw [zlo c _ h34 h92 hb, h3 v]
     rfl
def numS (x : ByteArray) : Int × ByteArray × Int × Int × Int × Int × Bool := (lex_numbered.f x).getD (0, ⟨#[]⟩, 0, 0, 0, 0, false)
theorem cut_size (s sep : List UInt8) : (Lib.cut s sep).1.length ≤ s.length ∧ (Lib.cut s sep).2.1.length ≤ s.length := by
 unfold Lib.cut
 split
 ·exact ⟨by rw [List.length_take]; omega, by rw [List.length_drop]; omega⟩
 ·exact ⟨Nat.le_refl _, Nat.zero_le _⟩
theorem zej (l : List UInt8) : (toS l).size = l.length := rfl
theorem addr_parse_some (x : ByteArray) (hz : x.size ≤ 8000) : ∃ r, addr_Parse.f x = some r := by
 unfold addr_Parse.f
 rw [if_pos (by omega)]
 exact ⟨_, rfl⟩
theorem addr_number_some (x : ByteArray) (m : Int) (hz : x.size ≤ 8000) (hm : m ≤ 4294967295) : ∃ r, addr_number.f x m = some r := by
 unfold addr_number.f
 rw [if_pos ⟨by omega, hm⟩]
 exact ⟨_, rfl⟩
theorem prefix_some (x : ByteArray) (hz : x.size ≤ 8000) : ∃ r, addr_ParsePrefix.f x = some r := by
 have hl : x.data.toList.length = x.size := zbj x
 unfold addr_ParsePrefix.f strings_Cut.f
 rw [if_pos (by omega)]
 simp only [Option.bind_some]
 have hc := cut_size x.data.toList (ByteArray.mk #[47]).data.toList
 generalize Lib.cut x.data.toList (ByteArray.mk #[47]).data.toList = y at hc
 obtain ⟨p, hp⟩ := addr_parse_some (toS y.1) (by rw [zej]; omega)
 obtain ⟨q, hq⟩ := addr_number_some (toS y.2.1) 32 (by rw [zej]; omega) (by decide)
 rw [hp, hq]
 simp only [Option.bind_some, addr_right.f]
 repeat' (first | exact ⟨_, rfl⟩ | split)
theorem num_ev (x : ByteArray) (hz : x.size ≤ 8000) (ha : x.data.toList.all (fun b => decide (b.toNat < 128)) = true) : lex_numbered.f x = some (numS x) := by
 have : ∃ r, lex_numbered.f x = some r := by
  unfold lex_numbered.f strings_ContainsAny.f
  rw [if_pos ⟨by omega, by decide, ha, by decide⟩]
  simp only [Option.bind_some]
  split
  ·obtain ⟨r, hr⟩ := prefix_some x hz
   rw [hr]
   exact ⟨_, rfl⟩
  ·rw [if_pos (by omega)]
   exact ⟨_, rfl⟩
 obtain ⟨r, h⟩ := this
 rw [numS, h]; rfl
def finS (i : Int) (x : ByteArray) : Int ⊕ (S49 × Nat) :=
 if i = 3 then (if zlz x = true then .inr (⟨1, x, 0, ⟨0, 0⟩, 0⟩, x.size) else if x.size > 32 then .inl 82 else .inr (⟨2, x, 0, ⟨0, 0⟩, 0⟩, x.size))
 else if i = 4 then (if x.size > 16 then .inl 82 else .inr (⟨3, x, 0, ⟨0, 0⟩, 0⟩, x.size))
 else if i = 5 then (if (numS x).2.2.2.2.2.2 = true then .inr (⟨(numS x).1, (numS x).2.1, (numS x).2.2.1, ⟨(numS x).2.2.2.1, (numS x).2.2.2.2.1⟩, 0⟩, x.size) else .inl 81)
 else if i = 7 then .inr (⟨7, x, 0, ⟨0, 0⟩, 0⟩, x.size)
 else .inr (⟨0, x, 0, ⟨0, 0⟩, 0⟩, x.size)
def tokS : List UInt8 → Int ⊕ (S49 × Nat)
 | [] => .inl 80
 | b :: r =>
  if zbb (b.toNat : Int) = 6 then
   match qdS r with
   | some (o, n) => if o.length ≤ 200 then .inr (⟨6, toS o, 0, ⟨0, 0⟩, 0⟩, n + 1) else .inl 83
   | none => .inl 83
  else if zbb (b.toNat : Int) = 0 then .inl 80
  else finS (zbb (b.toNat : Int)) (toS ((b :: r).take (runS (zbb (b.toNat : Int)) (b :: r))))
theorem zjh (i : Int) (l : List UInt8) : runS i l ≤ l.length := by
 cases l with
 | nil => exact Nat.le_refl _
 | cons b r =>
  have := (List.takeWhile_prefix (gB i) (l := r)).length_le
  show 1 + _ ≤ r.length + 1
  omega
theorem zoc (i : Int) (b : UInt8) (r : List UInt8) : 0 < runS i (b :: r) := by
 show 0 < 1 + _
 omega
theorem run_some (i : Int) (s : ByteArray) (hz : s.size ≤ 8000) (h0 : 0 < s.size) : ∃ r : Nat, lex_run.f i s = some (r : Int) ∧ r ≤ s.size := by
 have hl := zbj s
 by_cases hb : (s[0]'h0).toNat < 128
 ·exact ⟨_, zhw i s (by omega) h0 hb, by rw [← hl]; exact zjh _ _⟩
 ·unfold lex_run.f
  rw [if_pos (by omega), lex_run.go, if_pos h0, if_neg (by omega)]
  have hw := lex_run.width s 0 h0
  have hd := zif s 0 h0 (by omega)
  generalize (Utf8.decode s 0).2 = w at hw hd
  obtain ⟨h', _⟩ := hd (w - 1) (by omega)
  rw [zob i s s.size (0 + w) (by omega) (by omega) (by omega)]
  refine ⟨_, rfl, ?_⟩
  have := (List.takeWhile_prefix (gB i) (l := (bl s).drop (0 + w))).length_le
  rw [List.length_drop] at this
  omega
theorem gB5_low (b : UInt8) (h : gB 5 b = true) : b.toNat < 128 := by
 unfold gB zim at h
 rw [if_neg (by decide), if_neg (by decide), if_neg (by decide), if_neg (by decide), if_pos rfl] at h
 have := of_decide_eq_true h
 omega
theorem begins_high (c : Int) (h : 128 ≤ c) : zbb c = 0 := by unfold zbb; repeat rw [if_neg (by omega)]
theorem zev (s : ByteArray) (n : Nat) : s.extract 0 n = toS ((bl s).take n) := by
 apply ByteArray.ext
 apply Array.toList_inj.1
 simp [toS, bl, ByteArray.data_extract, Array.toList_extract]
theorem drop_extract (s : ByteArray) (n : Nat) : s.extract n s.size = toS ((bl s).drop n) := by
 apply ByteArray.ext
 apply Array.toList_inj.1
 simp [toS, bl, ByteArray.data_extract, Array.toList_extract]
 exact List.take_of_length_le (by rw [List.length_drop, show s.data.toList.length = s.size from zbj s]; omega)
theorem zmr (i : Int) (b : UInt8) (r : List UInt8) : (b :: r).take (runS i (b :: r)) = b :: r.takeWhile (gB i) := by
 have e : runS i (b :: r) = (r.takeWhile (gB i)).length + 1 := by show 1 + _ = _; omega
 rw [e, List.take_succ_cons, ← (List.prefix_iff_eq_take).1 (List.takeWhile_prefix (gB i))]
theorem token_ev (s : ByteArray) (hz : s.size ≤ 8000) (h0 : 0 < s.size) (k : Nat) (hk : 9000 ≤ k) :
  match tokS (bl s) with
  | .inl e => e ≠ 0 ∧ ∃ v, lex_token.f k s = some v ∧ v.2.2.2.2.2.2.2 = e
  | .inr (t, n) => 0 < n ∧ n ≤ s.size ∧ ∃ z, lex_token.f k s = some (t.f0, t.f1, t.f2, t.f3.f0, t.f3.f1, z, (n : Int), 0) := by
 have hl := zbj s
 unfold lex_token.f
 match hb : bl s with
 | [] => rw [hb] at hl; simp at hl; omega
 | b :: r =>
  have hbt : bt s 0 = (b.toNat : Int) := by
   have := zne s 0 (by rw [hb]; simp)
   simpa [hb] using this
  have hg : s[0]'h0 = b := by
   have h1 := zoq s 0 h0
   rw [← h1]
   simp [hb]
  have hbr := b.toNat_lt
  rw [if_pos (by omega), hbt, ziw _ (by omega) (by omega), zfk]
  simp only [Option.bind_some, tokS]
  by_cases h6 : zbb (b.toNat : Int) = 6
  ·rw [if_pos h6, if_pos h6, quoted_ev s hz h0 k (by omega), hb]
   simp only [Option.bind_some, List.drop_succ_cons, List.drop_zero]
   match hq : qdS r with
   | none => exact ⟨by decide, _, rfl, rfl⟩
   | some (o, n) =>
    simp only [qdR, List.nil_append]
    have hn : n ≤ r.length := (zpj r.length r o n (Nat.le_refl _) hq).1
    have hln : (b :: r).length = s.size := by rw [← hb, hl]
    rw [List.length_cons] at hln
    by_cases hh : o.length ≤ 200
    ·rw [if_pos hh]
     refine ⟨by omega, by omega, 0, (if_pos (decide_eq_true hh)).trans ?_⟩
     rw [Nat.add_comm 1 n]
    ·rw [if_neg hh]
     exact ⟨by decide, _, if_neg (by simpa using hh), rfl⟩
  rw [if_neg h6, if_neg h6]
  by_cases hi0 : zbb (b.toNat : Int) = 0
  ·obtain ⟨x, hx, hxl⟩ := run_some (zbb (b.toNat : Int)) s hz h0
   rw [if_pos hi0, hx, hi0]
   simp only [Option.bind_some]
   rw [if_pos (by omega), if_pos (by omega), if_neg (by decide), if_neg (by decide), if_neg (by decide), if_neg (by decide), if_pos trivial]
   exact ⟨by decide, _, rfl, rfl⟩
  rw [if_neg hi0]
  have hlow : b.toNat < 128 := by
   rcases Nat.lt_or_ge b.toNat 128 with h | h
   ·exact h
   ·exact absurd (begins_high _ (by omega)) hi0
  rw [zhw _ s (by omega) h0 (by rw [hg]; exact hlow), hb]
  have hle := zjh (zbb (b.toNat : Int)) (b :: r)
  have hpos := zoc (zbb (b.toNat : Int)) b r
  have hsz : (b :: r).length = s.size := by rw [← hb, hl]
  have hnum : zbb (b.toNat : Int) = 5 → (toS ((b :: r).take (runS (zbb (b.toNat : Int)) (b :: r)))).data.toList.all (fun b => decide (b.toNat < 128)) = true := by
   intro h5
   rw [h5, zmr]
   show (b :: r.takeWhile (gB 5)).all _ = true
   rw [List.all_cons, decide_eq_true hlow, Bool.true_and, List.all_eq_true]
   intro x hx
   exact decide_eq_true (gB5_low x (List.all_eq_true.1 List.all_takeWhile x hx))
  generalize hR : runS (zbb (b.toNat : Int)) (b :: r) = R at hle hpos hnum
  generalize hI : zbb (b.toNat : Int) = I at hi0 h6 hnum
  simp only [Option.bind_some]
  rw [if_pos (by omega), if_pos (by omega), Int.toNat_natCast, zev, hb]
  have hxs : (toS ((b :: r).take R)).size = R := by rw [zej, List.length_take]; omega
  generalize toS ((b :: r).take R) = x at hxs hnum
  unfold finS
  by_cases h3 : I = 3
  ·rw [if_pos h3, if_pos h3, zhf x k (by omega)]
   simp only [Option.bind_some]
   by_cases hw : zlz x = true
   ·rw [if_pos hw, if_pos hw]
    exact ⟨by omega, by omega, 0, by rw [hxs]⟩
   ·rw [if_neg hw, if_neg hw]
    by_cases hbig : x.size > 32
    ·rw [if_pos hbig, if_pos (by omega)]
     exact ⟨by decide, _, rfl, rfl⟩
    ·rw [if_neg hbig, if_neg (by omega)]
     exact ⟨by omega, by omega, 0, by rw [hxs]⟩
  rw [if_neg h3, if_neg h3]
  by_cases h4 : I = 4
  ·rw [if_pos h4, if_pos h4]
   by_cases hbig : x.size > 16
   ·rw [if_pos hbig, if_pos (by omega)]
    exact ⟨by decide, _, rfl, rfl⟩
   ·rw [if_neg hbig, if_neg (by omega)]
    exact ⟨by omega, by omega, 0, by rw [hxs]⟩
  rw [if_neg h4, if_neg h4]
  by_cases h5 : I = 5
  ·rw [if_pos h5, if_pos h5, num_ev x (by omega) (hnum h5)]
   simp only [Option.bind_some]
   by_cases ho : (numS x).2.2.2.2.2.2 = true
   ·rw [if_pos ho, if_pos ho]
    exact ⟨by omega, by omega, _, by rw [hxs]⟩
   ·rw [if_neg ho, if_neg ho]
    exact ⟨by decide, _, rfl, rfl⟩
  rw [if_neg h5, if_neg h5]
  by_cases h7 : I = 7
  ·rw [if_pos h7, if_pos h7]
   exact ⟨by omega, by omega, 0, by rw [hxs]⟩
  rw [if_neg h7, if_neg h7, if_neg hi0]
  exact ⟨by omega, by omega, 0, by rw [hxs]⟩
end
end Go.Proofs.YtjeekocidaogoaaGreatDoor.H

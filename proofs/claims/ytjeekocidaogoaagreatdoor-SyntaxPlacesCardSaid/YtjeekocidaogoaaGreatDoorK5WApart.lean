/- Lemmas and contracts that the claim's theorem comes to. -/
/- Lemmas and contracts that the claim's theorem comes to. -/
/- Lemmas and contracts that the claim's theorem comes to. -/
/- Lemmas and contracts that the claim's theorem comes to. -/
/- Lemmas and contracts that the claim's theorem comes to. -/
/- Lemmas and contracts that the claim's theorem comes to. -/
/- Lemmas and contracts that the claim's theorem comes to. -/
/- Lemmas and contracts that the claim's theorem comes to. -/
/- Lemmas and contracts that the claim's theorem comes to. -/
/- Contracts, in the printed form, of the library functions and array functions that the print leaves out: strings.Fields, ContainsRune, ContainsAny, Cut. -/
/- strings.ContainsRune of an ASCII text, at every rune: is the rune one of its bytes? -/
/- Contracts of package addr's functions over arrays and strconv: number, of, right, word, Parse. -/
/- Rows of the call's own, clipped ones too: what an append leaves; what a change elsewhere leaves. -/
import Derived.Test.YtjeekocidaogoaaGreatDoorK5WWords
import Derived.Test.YtjeekocidaogoaaGreatDoorK5Shelf
import Derived.WalkKit
import Derived.KernelRfl
import Derived.Deep.LoopGhost
import Derived.Deep.QuietTactic
import Derived.BigQuiet
import Derived.Laws.Runes
import Derived.Laws.RangeAny
import Derived.Laws.RangeString
import Derived.LoopTactic
import Derived.WideLaws
import Derived.WalkSpells
import Derived.Lib.AtoiErrMem
import Derived.Deep.RegionHeld3
import Derived.Laws.BitsLemmas
import Derived.Stop.BytesEq
import Derived.Maps.AppendAt
set_option linter.unusedVariables false
set_option linter.unusedSimpArgs false
set_option maxRecDepth 100000
set_option maxHeartbeats 8000000
section
namespace Go.Proofs.YtjeekocidaogoaaGreatDoorW.PrintWords
open Go.RowKit
namespace Kd
def tag {α : Type} (f : Nat → Nat) (d : Kd α) : Kd (α × Nat) where
 sz := d.sz
 E := d.E
 K := fun w x cs => d.K w x.1 cs
 M := fun w base ok x cs => d.M w base (fun k => ok k ∧ f k = x.2) x.1 cs
 K_len := fun h => d.K_len h
 K_one := fun h => d.K_one h
 K_below := fun hb h => d.K_below hb h
 K_of_M := fun h => d.K_of_M h
 M_mono := fun hok h => d.M_mono (fun k hk => ⟨hok k hk.1, hk.2⟩) h
 M_bound := fun h => d.M_mono (fun _ hk => ⟨⟨hk.1.1, hk.2⟩, hk.1.2⟩) (d.M_bound h)
 M_move := fun hm h => d.M_move (fun k hk => hm k hk.1) h
 M_lower := fun hb h => d.M_lower hb h
def raw (sz : Nat) : Kd (List Value) where
 sz := sz
 E := []
 K := fun _ x cs => cs = x ∧ cs.length = sz ∧ ∀ u ∈ cs, u.oneCell' = true
 M := fun _ _ _ x cs => cs = x ∧ cs.length = sz ∧ ∀ u ∈ cs, u.oneCell' = true
 K_len := fun h => h.2.1
 K_one := fun h => h.2.2
 K_below := fun _ h => h
 K_of_M := fun h => h
 M_mono := fun _ h => h
 M_bound := fun h => h
 M_move := fun _ h => h
 M_lower := fun _ h => h
def S {α : Type} (d : Kd α) (e : Nat) (w : World) (base : Nat) (ok : Nat → Prop) (v : Value) (xs : List α) : Prop := ∃ f, (tag f d).R e w base ok v xs.zipIdx
section
variable {α β : Type} {d : Kd α} {d' : Kd β} {e e' : Nat} {w w1 W : World} {base b : Nat} {ok ok' okv oku : Nat → Prop} {u v : Value} {xs : List α} {ys : List β}
theorem S_nil (d : Kd α) (e : Nat) (w : World) (base : Nat) (ok : Nat → Prop) : S d e w base ok (.slice none 0 0) [] := ⟨fun _ => 0, R_nil _ _ _ _ _⟩
end
def gap {α : Type} (f : Nat → Nat) (d : Kd α) (i : Nat) (c : List Value) : Kd (α × Nat) where
 sz := d.sz
 E := d.E
 K := fun w x cs => (x.2 = i → cs = c ∧ cs.length = d.sz ∧ ∀ u ∈ cs, u.oneCell' = true) ∧ (x.2 ≠ i → d.K w x.1 cs)
 M := fun w base ok x cs => (x.2 = i → cs = c ∧ cs.length = d.sz ∧ ∀ u ∈ cs, u.oneCell' = true) ∧ (x.2 ≠ i → d.M w base (fun k => ok k ∧ f k = x.2) x.1 cs)
 K_len := fun {w x cs} h => by
  by_cases hx : x.2 = i
  ·exact (h.1 hx).2.1
  ·exact d.K_len (h.2 hx)
 K_one := fun {w x cs} h => by
  by_cases hx : x.2 = i
  ·exact (h.1 hx).2.2
  ·exact d.K_one (h.2 hx)
 K_below := fun hb h => ⟨h.1, fun hx => d.K_below hb (h.2 hx)⟩
 K_of_M := fun h => ⟨h.1, fun hx => d.K_of_M (h.2 hx)⟩
 M_mono := fun hok h => ⟨h.1, fun hx => d.M_mono (fun k hk => ⟨hok k hk.1, hk.2⟩) (h.2 hx)⟩
 M_bound := fun h => ⟨h.1, fun hx => d.M_mono (fun _ hk => ⟨⟨hk.1.1, hk.2⟩, hk.1.2⟩) (d.M_bound (h.2 hx))⟩
 M_move := fun hm h => ⟨h.1, fun hx => d.M_move (fun k hk => hm k hk.1) (h.2 hx)⟩
 M_lower := fun hb h => ⟨h.1, fun hx => d.M_lower hb (h.2 hx)⟩
def H {α : Type} (d : Kd α) (e : Nat) (w : World) (base : Nat) (ok : Nat → Prop) (v : Value) (xs : List α) (i : Int) (oki : Nat → Prop) (c : List Value) : Prop :=
 (∀ k, oki k → ok k) ∧ ∃ f, (gap f d i.toNat c).R e w base (fun k => ok k ∧ ¬ oki k) v xs.zipIdx
end Kd
end Go.Proofs.YtjeekocidaogoaaGreatDoorW.PrintWords
end
section
namespace Go.Proofs.YtjeekocidaogoaaGreatDoorW.PrintWords
open Go.RowKit
namespace Kd
end Kd
end Go.Proofs.YtjeekocidaogoaaGreatDoorW.PrintWords
end
section
namespace Go.Proofs.YtjeekocidaogoaaGreatDoorW.PrintWords
open Go.RowKit
namespace Kd
end Kd
end Go.Proofs.YtjeekocidaogoaaGreatDoorW.PrintWords
end
section
namespace Go.Proofs.YtjeekocidaogoaaGreatDoorW.PrintWords
open Go.RowKit
namespace Kd
end Kd
end Go.Proofs.YtjeekocidaogoaaGreatDoorW.PrintWords
end
section
namespace Go.Proofs.YtjeekocidaogoaaGreatDoorW.PrintWords
open Go.RowKit
namespace Kd
end Kd
end Go.Proofs.YtjeekocidaogoaaGreatDoorW.PrintWords
end
section
namespace Go.Proofs.YtjeekocidaogoaaGreatDoorW.PrintWords
open Go.RowKit
def Foot (P : World → Prop) (W : World) (ok : Nat → Prop) : Prop := ∀ W' : World, (∀ k, ok k → k < W.heap.size → W'.heap[k]? = W.heap[k]?) → P W'
namespace Foot
variable {P Q : World → Prop} {W W1 : World} {ok ok' : Nat → Prop}
end Foot
namespace Kd
def F {α : Type} (d : Kd α) (W : World) (ok : Nat → Prop) (A : Option Addr) (n : Nat) (xs : List α) : Prop := Foot (fun W => d.C W A n xs) W ok
def FK {α : Type} (d : Kd α) (W : World) (ok : Nat → Prop) (x : α) (c : List Value) : Prop := Foot (fun W => d.K W x c) W ok
section
variable {α β : Type} {d : Kd α} {e base n n' cc g N : Nat} {ok ok' okp S : Nat → Prop} {w w0 w1 W W1 : World} {A A' : Option Addr} {u v v1 : Value} {xs : List α} {xs' : List β} {d' : Kd β} {x : α} {c : List Value}
theorem F_nil (d : Kd α) (W : World) (ok : Nat → Prop) : F d W ok none ([] : List α).length [] := fun W' _ => C_nil d W'
theorem FK_of_M (h : d.M W base ok x c) : FK d W ok x c := fun _ hW => d.K_of_M (zrc h hW)
end
end Kd
end Go.Proofs.YtjeekocidaogoaaGreatDoorW.PrintWords
end
section
namespace Go.Proofs.YtjeekocidaogoaaGreatDoorW.PrintWords
open Go.RowKit
namespace Kd
def zka (sz : Nat) (n : Nat) (inner : List Value) : List (List Value) := (List.range n).map fun j => (inner.drop (j * sz)).take sz
theorem zdw (sz n : Nat) (inner : List Value) : (zka sz n inner).length = n := by simp [zka]
theorem chunks_at {sz n : Nat} {inner : List Value} {j : Nat} (hj : j < n) : (zka sz n inner)[j]? = some ((inner.drop (j * sz)).take sz) := by simp [zka, hj]
theorem zld {sz n : Nat} {inner : List Value} {j : Nat} {c : List Value} (h : (zka sz n inner)[j]? = some c) : c = (inner.drop (j * sz)).take sz := by
 have hj : j < n := by have := (List.getElem?_eq_some_iff.1 h).1; rwa [zdw] at this
 rw [chunks_at hj] at h
 injection h with h
 exact h.symm
theorem reps_raw {α : Type} {Rr : α → List Value → Prop} {sz : Nat} {xs : List α} {inner : List Value} (h : Reps Rr sz xs inner) (hR : ∀ x c, Rr x c → c.length = sz ∧ ∀ u ∈ c, u.oneCell' = true) : Reps (fun x cs => cs = x ∧ cs.length = sz ∧ ∀ u ∈ cs, u.oneCell' = true) sz (zka sz xs.length inner) inner := by
 refine ⟨by rw [zdw]; exact h.1, fun j p hj => ?_⟩
 have hjl : j < xs.length := by have := (List.getElem?_eq_some_iff.1 hj).1; rwa [zdw] at this
 have hp := zld hj
 exact ⟨hp.symm, hR _ _ (h.2 j _ (List.getElem?_eq_getElem hjl))⟩
section
variable {α : Type} {d : Kd α} {e base n cc g : Nat} {ok ok' okp S : Nat → Prop} {w w1 W W1 : World} {A : Option Addr} {u v v1 : Value} {xs : List α} {x : α} {c : List Value}
def N {α : Type} (d : Kd α) (e : Nat) (w : World) (base : Nat) (ok : Nat → Prop) (v : Value) (xs : List α) : Prop :=
 (∀ k, v.ownBlock = some k → ok k) ∧ ∃ rows : List (List Value), rows.length = xs.length ∧ (raw d.sz).R e w base (fun k => some k = v.ownBlock) v rows ∧ ∀ (j : Nat) (x : α) (c : List Value), xs[j]? = some x → rows[j]? = some c → FK d w (fun k => ok k ∧ some k ≠ v.ownBlock) x c
theorem R_N (h : d.R e w base ok v xs) : N d e w base ok v xs := by
 obtain ⟨h0, inner, ho, hr⟩ := h
 refine ⟨h0, zka d.sz xs.length inner, zdw _ _ _, ⟨fun k hk => hk.symm, inner, by rw [zdw]; exact ho, reps_raw hr (fun x c hp => ⟨d.K_len (d.K_of_M hp), d.K_one (d.K_of_M hp)⟩)⟩, fun j x c hx hc => ?_⟩
 rw [zld hc]
 exact FK_of_M (hr.2 j x hx)
theorem N_nil (d : Kd α) (e : Nat) (w : World) (base : Nat) (ok : Nat → Prop) : N d e w base ok (.slice none 0 0) [] := R_N (R_nil _ _ _ _ _)
end
end Kd
end Go.Proofs.YtjeekocidaogoaaGreatDoorW.PrintWords
end
section
namespace Go.Proofs.YtjeekocidaogoaaGreatDoorW.PrintWords
open Go.RowKit
namespace Kd
end Kd
end Go.Proofs.YtjeekocidaogoaaGreatDoorW.PrintWords
end
section
namespace Go.Proofs.YtjeekocidaogoaaGreatDoorW.PrintMore
open Go.RowKit Go.Proofs.YtjeekocidaogoaaGreatDoorW.PrintWords
namespace Kd
open Go.Proofs.YtjeekocidaogoaaGreatDoorW.PrintWords.Kd
end Kd
namespace Kd
open Go.Proofs.YtjeekocidaogoaaGreatDoorW.PrintWords.Kd
end Kd
theorem zdq (k k' : IntKind) (x y : Int) : Builtin.max2 (.int k x) (.int k' y) = pure (.int k (if x < y then y else x)) := by simp only [Builtin.max2, gt_iff_lt]
theorem zdo (k k' : IntKind) (x y : Int) : Builtin.min2 (.int k x) (.int k' y) = pure (.int k (if y < x then y else x)) := by simp only [Builtin.min2]
theorem zeg (ats : Array TypeId) (ty : TypeId) (a b : Value) : Builtin.max_ ats ty #[a, b] = (Builtin.max2 a b >>= fun s => pure s) := by simp only [Builtin.max_, List.foldlM_cons, List.foldlM_nil]
theorem zef (ats : Array TypeId) (ty : TypeId) (a b : Value) : Builtin.min_ ats ty #[a, b] = (Builtin.min2 a b >>= fun s => pure s) := by simp only [Builtin.min_, List.foldlM_cons, List.foldlM_nil]
theorem zcw (ats : Array TypeId) (ty : TypeId) (a b c : Value) : Builtin.max_ ats ty #[a, b, c] = (Builtin.max2 a b >>= fun s => Builtin.max2 s c >>= fun s => pure s) := by simp only [Builtin.max_, List.foldlM_cons, List.foldlM_nil]
theorem zcv (ats : Array TypeId) (ty : TypeId) (a b c : Value) : Builtin.min_ ats ty #[a, b, c] = (Builtin.min2 a b >>= fun s => Builtin.min2 s c >>= fun s => pure s) := by simp only [Builtin.min_, List.foldlM_cons, List.foldlM_nil]
theorem zdp (ats : Array TypeId) (ty : TypeId) (a b c d : Value) : Builtin.max_ ats ty #[a, b, c, d] = (Builtin.max2 a b >>= fun s => Builtin.max2 s c >>= fun s => Builtin.max2 s d >>= fun s => pure s) := by simp only [Builtin.max_, List.foldlM_cons, List.foldlM_nil]
theorem zdn (ats : Array TypeId) (ty : TypeId) (a b c d : Value) : Builtin.min_ ats ty #[a, b, c, d] = (Builtin.min2 a b >>= fun s => Builtin.min2 s c >>= fun s => Builtin.min2 s d >>= fun s => pure s) := by simp only [Builtin.min_, List.foldlM_cons, List.foldlM_nil]
end Go.Proofs.YtjeekocidaogoaaGreatDoorW.PrintMore
namespace Go.Proofs.YtjeekocidaogoaaGreatDoorW.PrintWords
open Go.RowKit
section
variable {P : Program} {ops : Array Oper} {rest : List Oper} {o : Oper} {a : Act} {Q : Exit → Act → World → Prop} {W : World}
theorem zap {f : FuncId} {as_ : Array Operand} {ts : Array TypeId} (_ho : o.op = .call { callee := .value (.func f), args := as_, argTypes := ts }) (h : wpList P ops Q (o :: rest) a W) : wpList P ops Q (o :: rest) a W := h
theorem zbd {b : Builtin} {xs : Array Operand} {ts : Array TypeId} (_ho : o.op = .call { callee := .builtin b, args := xs, argTypes := ts }) (h : wpList P ops Q (o :: rest) a W) : wpList P ops Q (o :: rest) a W := h
end
def mx (a b : Int) : Int := if a < b then b else a
namespace Kd
end Kd
end Go.Proofs.YtjeekocidaogoaaGreatDoorW.PrintWords
namespace Go.Proofs.YtjeekocidaogoaaGreatDoorW.PrintWords
open Go.RowKit
namespace Kd
def V {α : Type} (d : Kd α) (_e : Nat) (W : World) (_base : Nat) (ok : Nat → Prop) (v : Value) (xs : List α) : Prop := ∃ A c, v = .slice A xs.length c ∧ xs.length ≤ c ∧ F d W ok A xs.length xs
section
variable {α β : Type} {d : Kd α} {e base base' n m c g N' lo hi : Nat} {ok ok' S : Nat → Prop} {w W w1 : World} {A : Option Addr} {ad : Addr} {u v v1 : Value} {xs : List α}
theorem V_nil (d : Kd α) (e : Nat) (W : World) (base : Nat) (ok : Nat → Prop) : V d e W base ok (.slice none 0 0) [] := ⟨none, 0, rfl, Nat.le_refl _, F_nil d W ok⟩
end
end Kd
end Go.Proofs.YtjeekocidaogoaaGreatDoorW.PrintWords
end
namespace Go.Proofs.YtjeekocidaogoaaGreatDoor.Hand
open Go.RowKit Go.Proofs.YtjeekocidaogoaaGreatDoorW.PrintWords Go.Proofs.YtjeekocidaogoaaGreatDoorW.PrintLast Go.Proofs.YtjeekocidaogoaaGreatDoorW.PrintMore
section
def toS (l : List UInt8) : ByteArray := ⟨l.toArray⟩
theorem one_reps (w : World) (base : Nat) (ok : Nat → Prop) (xs : List ByteArray) : Reps (Kd.string.M w base ok) Kd.string.sz xs (xs.map Value.string) := by
 refine ⟨by simp [Kd.string, Kd.scalar], fun j p hj => ?_⟩
 have hs : Kd.string.sz = 1 := rfl
 rw [hs, Nat.mul_one]
 show _ = _
 have hj' := (List.getElem?_eq_some_iff.1 hj)
 obtain ⟨hlt, rfl⟩ := hj'
 rw [List.take_one, List.head?_drop, List.getElem?_map, hj]
 rfl
theorem R_strs (w : World) (xs : List ByteArray) (hm : xs.length ≤ maxLen) : Kd.R Kd.string 9 (w.alloc (.cells (xs.map Value.string).toArray 9)) w.heap.size (fun _ => True) (.slice (some ⟨w.heap.size, 0, none⟩) xs.length xs.length) xs := by
 refine ⟨fun _ _ => trivial, xs.map Value.string, ⟨by simp [Kd.string, Kd.scalar], .inr ⟨w.heap.size, xs.length, (xs.map Value.string).toArray, rfl, Nat.le_refl _, Array.getElem?_push_size, Nat.le_refl _, hm, by simp [Kd.string, Kd.scalar], by simp [Kd.string, Kd.scalar, List.take_of_length_le]⟩⟩, one_reps _ _ _ _⟩
def strings_Fields.f (a0 : ByteArray) : Option (List ByteArray) :=
 if a0.size < 4294967281 ∧ a0.data.toList.all (fun b => decide (b.toNat < 128)) = true ∧ (Lib.fields a0.data.toList).length ≤ 9223372036854775807 then some ((Lib.fields a0.data.toList).map toS) else none
theorem strings_Fields.calls (a0 : ByteArray) (r : List ByteArray) (w : World) (hInv : Inv w) (h : strings_Fields.f a0 = some r) :
  Calls Tryz.prog 98 #[.string a0] w fun e w' => ∃ v0_ : Value, e = .returned (v0_) ∧ Kd.R Kd.string 9 w' w.heap.size (fun _ => True) v0_ r ∧ Below w.heap.size w w' := by
 unfold strings_Fields.f at h
 split at h
 ·rename_i hc
  obtain ⟨h1, h2, h3⟩ := hc
  obtain rfl := Option.some.inj h
  refine (Tryz.strings_Fields_laid a0 w h1 (fun j b hj => ?_) hInv.space).mono ?_
  ·have := List.all_eq_true.1 h2 b (List.mem_of_getElem? hj)
   exact of_decide_eq_true this
  ·rintro e w' ⟨rfl, rfl⟩
   refine ⟨_, rfl, ?_, (Below.refl _ _).alloc (Nat.le_refl _) _⟩
   have hr := R_strs w ((Lib.fields a0.data.toList).map toS) (by rw [List.length_map]; exact h3)
   rw [List.length_map, List.map_map] at hr
   exact hr
 ·cases h
def strings_ContainsAny.f (a0 a1 : ByteArray) : Option Bool :=
 if a0.size < 4294967281 ∧ a1.size < 4294967281 ∧ a0.data.toList.all (fun b => decide (b.toNat < 128)) = true ∧ a1.data.toList.all (fun b => decide (b.toNat < 128)) = true then some (Lib.containsAny a0.data.toList a1.data.toList) else none
theorem strings_ContainsAny.calls (a0 a1 : ByteArray) (r : Bool) (w : World) (h : strings_ContainsAny.f a0 a1 = some r) :
  Calls Tryz.prog 99 #[.string a0, .string a1] w fun e w' => e = .returned (.bool r) ∧ Below w.heap.size w w' := by
 unfold strings_ContainsAny.f at h
 split at h
 ·rename_i hc
  obtain ⟨h1, h2, h3, h4⟩ := hc
  obtain rfl := Option.some.inj h
  exact Tryz.strings_ContainsAny_laid a0 a1 w h1 h2 (fun j b hj => of_decide_eq_true (List.all_eq_true.1 h3 b (List.mem_of_getElem? hj))) (fun j b hj => of_decide_eq_true (List.all_eq_true.1 h4 b (List.mem_of_getElem? hj)))
 ·cases h
def strings_Cut.f (a0 a1 : ByteArray) : Option (ByteArray × ByteArray × Bool) :=
 if a0.size < 4294967281 then some (toS (Lib.cut a0.data.toList a1.data.toList).1, toS (Lib.cut a0.data.toList a1.data.toList).2.1, (Lib.cut a0.data.toList a1.data.toList).2.2) else none
theorem strings_Cut.calls (a0 a1 : ByteArray) (r1 r2 : ByteArray) (r3 : Bool) (w : World) (hInv : Inv w) (h : strings_Cut.f a0 a1 = some (r1, r2, r3)) :
  Calls Tryz.prog 126 #[.string a0, .string a1] w fun e w' => e = .returned (.tuple #[.string r1, .string r2, .bool r3]) ∧ Below w.heap.size w w' := by
 unfold strings_Cut.f at h
 split at h
 ·rename_i h1
  simp only [Option.some.injEq, Prod.mk.injEq] at h
  obtain ⟨rfl, rfl, rfl⟩ := h
  obtain ⟨m, hm⟩ := hInv.maxLen
  refine (Tryz.strings_Cut a0 a1 m w h1 hm).mono ?_
  rintro e w' ⟨rfl, n, rfl⟩
  exact ⟨rfl, ⟨rfl, rfl, rfl, Nat.le_refl _, fun _ _ => rfl⟩⟩
 ·cases h
end
section
def zqf (s : ByteArray) : Prop := ∀ (j : Nat) (h : j < s.size), (s[j]'h).toNat < 128
theorem ascii_mem {s : ByteArray} (h : zqf s) : ∀ b ∈ s.data.toList, b.toNat < 128 := by
 intro b hb
 obtain ⟨j, hj, rfl⟩ := List.getElem_of_mem hb
 exact h j (by simpa using hj)
theorem index_err (s : ByteArray) (w : World) (hs : zqf s) (hz : s.size ≤ maxLen) :
  Calls Tryz.prog 121 #[.string s, .int .i32 65533] w fun e w' => e = .returned (.int .i64 (-1)) ∧ Below w.heap.size w w' := by
 have HS := Lib.hid hs
 clear hs
 go_enter Tryz.func121, Tryz.ntmps121
 go_wp2
 go_loopw [5] (fun _ w' => ∃ pos : Nat, w' = w.iter s pos) (fun _ w' => s.size - w'.iterPos w.heap.size)
 case atStart => exact ⟨0, rfl⟩
 case round =>
  obtain ⟨pos, rfl⟩ := hrel
  by_cases hp : pos < s.size
  ·have ha := HS.out pos hp
   have hnx : ∀ ty, (Instr.next (.pointer (some ⟨w.heap.size, 0, none⟩)) true ty).run Tryz.prog (w.iter s pos) = _ := fun ty => run_next_ascii w s pos ty hp ha
   go_wp2
   go_roundw
   case rel => exact ⟨pos + 1, rfl⟩
   case measure => simp; omega
  ·have hnx : ∀ ty, (Instr.next (.pointer (some ⟨w.heap.size, 0, none⟩)) true ty).run Tryz.prog (w.iter s pos) = _ := fun ty => run_next_end w s pos ty hp
   go_wp2
   go_ret
   exact ⟨rfl, (Below.refl _ _).alloc (Nat.le_refl _) _⟩
theorem index_invalid (s : ByteArray) (r : Int) (w : World) (h0 : ¬ (0 ≤ r ∧ r < 128)) (h1 : (r == 65533) = false) (h2 : Lib.validRune r = false) :
  Calls Tryz.prog 121 #[.string s, .int .i32 r] w fun e w' => e = .returned (.int .i64 (-1)) ∧ Below w.heap.size w w' := by
 by_cases h3 : 0 ≤ r
 all_goals
  have h4 : decide (r < 128) = false ∨ ¬ 0 ≤ r := by by_cases h : 0 ≤ r; exact .inl (decide_eq_false (by omega)); exact .inr h
  clear h0
  go_enter Tryz.func121, Tryz.ntmps121
  first
  | (have h5 : decide (r < 128) = false := h4.resolve_right (fun h => h h3))
  | skip
  clear h4
  go_wp2_with (go_at_call 151; refine (Tryz.utf8_ValidRune _ _).mono ?_; rintro e w' ⟨rfl, hw⟩; rw [hw]; rw [h2])
  go_ret
  exact ⟨rfl, Below.refl _ _⟩
theorem index_valid (s : ByteArray) (r : Int) (w : World) (hs : zqf s) (h0 : 128 ≤ r) (h1 : (r == 65533) = false) (h2 : Lib.validRune r = true) :
  Calls Tryz.prog 121 #[.string s, .int .i32 r] w fun e w' => e = .returned (.int .i64 (-1)) ∧ Below w.heap.size w w' := by
 obtain ⟨e1, e2, e3⟩ := encode_facts r (by rw [validRune_eq]; exact h2) h0
 have hh : decide (r < 128) = false := decide_eq_false (by omega)
 have hp : decide (0 ≤ r) = true := decide_eq_true (by omega)
 generalize hE : Utf8.encode r = E at e1 e2 e3
 have hcv : ∀ w, (convert 21 9 (.int .i32 r)).run Tryz.prog w = .ok (.string E) w := fun w => by rw [run_convert_int_string w 21 9 .i32 r (by rw [Tryz.underlying21]; rfl) Tryz.underlying9, hE]
 have HS := Lib.hid hs
 have H3 := Lib.hid e3
 clear hE hs e3
 go_enter Tryz.func121, Tryz.ntmps121
 go_wp2_with (go_at_call 151; refine (Tryz.utf8_ValidRune _ _).mono ?_; rintro e w' ⟨rfl, hw⟩; rw [hw]; rw [h2])
 go_step3
 go_wp2
 have q0 : (0 : Int) ≤ (E.size : Int) - 1 := by omega
 have q2 : (1 : Int) ≤ (E.size : Int) := by omega
 have q1 : (E.size : Int) - 1 < (E.size : Int) := by omega
 by_cases hi : (E.size : Int) - 1 < (s.size : Int)
 ·have hj : E.size - 1 < s.size := by omega
  have hk : E.size - 1 < E.size := by omega
  have b1 := HS.out (E.size - 1) hj
  have b2 := H3.out hk
  have hne : (((s[E.size - 1]'hj).toNat : Int) == ((E[E.size - 1]'hk).toNat : Int)) = false := beq_eq_false_iff_ne.2 (by omega)
  have hne' : (((s[E.size - 1]'hj).toNat : Int) != ((E[E.size - 1]'hk).toNat : Int)) = true := by rw [bne_iff_ne]; omega
  refine wp_loop_rounds 1 ?_
  rw [rounds_succ]
  go_wp2
  go_step3
  go_wp2
  go_quiet (fail)
  go_wp2
  have z0 : IntKind.i64.wrap ((E.size : Int) - 1 + 1) = (E.size : Int) := by rw [Int.sub_add_cancel]; exact wrap_small _ (by omega) (by omega)
  have z1 : (0 : Int) ≤ (E.size : Int) := by omega
  have z2 : (E.size : Int) ≤ (s.size : Int) := by omega
  have z3 : ((E.size : Int)).toNat = E.size := by omega
  have hB : Below w.heap.size w (w.drewN nq) := ⟨rfl, rfl, rfl, Nat.le_refl _, fun _ _ => rfl⟩
  generalize w.drewN nq = W1 at hB
  have HB := Lib.hid hB
  clear hB
  go_quiet ((go_at_call 150; exact Calls.quiet_of_same (Tryz.strings_IndexByte _ _ _)))
  clear z0 z1 z2
  have hn : Lib.indexByte (s.extract E.size s.size).data.toList ((((E[E.size - 1]'hk).toNat : Int)).toNat.toUInt8) = -1 := by
   rw [← Lib.firstIdx_eq]
   refine firstIdx_ascii s _ _ _ (ascii_mem HS.out) ?_
   rw [Int.toNat_natCast]
   simpa using b2
  have hn' : decide (Lib.indexByte (s.extract E.size s.size).data.toList ((((E[E.size - 1]'hk).toNat : Int)).toNat.toUInt8) < 0) = true := by rw [hn]; rfl
  rw [hn]
  clear hn hn'
  go_wp2
  rw [Exit.noGoto_ret]
  go_wp2
  rw [Exit.noGoto_ret]
  go_wp2
  go_ret
  exact ⟨rfl, HB.out.trans ⟨rfl, rfl, rfl, Nat.le_refl _, fun _ _ => rfl⟩⟩
 ·refine wp_loop_rounds 1 ?_
  rw [rounds_succ]
  go_wp2
  go_ret
  exact ⟨rfl, Below.refl _ _⟩
def strings_ContainsRune.f (a0 : ByteArray) (a1 : Int) : Option Bool :=
 if a0.data.toList.all (fun b => decide (b.toNat < 128)) = true ∧ a0.size ≤ maxLen then some (decide (0 ≤ a1 ∧ a1 < 128 ∧ 0 ≤ Lib.indexByte a0.data.toList a1.toNat.toUInt8)) else none
theorem contains_high (s : ByteArray) (r : Int) (w : World) (hr : ¬ (0 ≤ r ∧ r < 128)) (hs : zqf s) (hz : s.size ≤ maxLen) :
  Calls Tryz.prog 121 #[.string s, .int .i32 r] w fun e w' => e = .returned (.int .i64 (-1)) ∧ Below w.heap.size w w' := by
 by_cases h1 : r = 65533
 ·subst h1; exact index_err s w hs hz
 ·cases hv : Lib.validRune r with
  | false => exact index_invalid s r w hr (beq_eq_false_iff_ne.2 h1) hv
  | true =>
   refine index_valid s r w hs ?_ (beq_eq_false_iff_ne.2 h1) hv
   by_cases h0 : 0 ≤ r
   ·omega
   ·exfalso
    have hv' : Lib.validRune r = false := by unfold Lib.validRune; simp; omega
    rw [hv'] at hv; cases hv
theorem strings_ContainsRune.calls (a0 : ByteArray) (a1 : Int) (r : Bool) (w : World) (h : strings_ContainsRune.f a0 a1 = some r) :
  Calls Tryz.prog 92 #[.string a0, .int .i32 a1] w fun e w' => e = .returned (.bool r) ∧ Below w.heap.size w w' := by
 unfold strings_ContainsRune.f at h
 split at h
 ·rename_i hc
  obtain ⟨h1, h2⟩ := hc
  have hs : zqf a0 := fun j hj => of_decide_eq_true (List.all_eq_true.1 h1 _ (Array.getElem_mem_toList (xs := a0.data) (i := j) hj))
  obtain rfl := Option.some.inj h
  by_cases hr : 0 ≤ a1 ∧ a1 < 128
  ·refine (Tryz.strings_ContainsRune_ascii a0 a1 w hr.1 hr.2).mono ?_
   rintro e w' ⟨rfl, rfl⟩
   exact ⟨by simp [hr.1, hr.2], Below.refl _ _⟩
  ·have e0 : decide (0 ≤ a1 ∧ a1 < 128 ∧ 0 ≤ Lib.indexByte a0.data.toList a1.toNat.toUInt8) = false := decide_eq_false (fun hh => hr ⟨hh.1, hh.2.1⟩)
   rw [e0]
   have HC := Lib.hid (fun w => contains_high a0 a1 w hr hs h2)
   clear e0 hr hs h1 h2 h
   go_enter Tryz.func92, Tryz.ntmps92
   go_wp2_with (go_at_call 121; refine (HC.out _).mono ?_; rintro e w' ⟨rfl, hb⟩)
   go_ret
   exact ⟨rfl, hb⟩
 ·cases h
end
section
theorem zhz {B : Nat} {w w1 : World} (h : Below B w w1) (hB : B ≤ w1.heap.size) (k : Nat) (os : Array Obj) : Below B w («Sort».grow (w1.drewN k) os) :=
 h.trans ⟨rfl, rfl, rfl, by show _ ≤ (w1.heap ++ os).size; rw [Array.size_append]; omega, fun i hi => by
  show (w1.heap ++ os)[i]? = _
  rw [Array.getElem?_append_left (by omega)]⟩
def addr_number.f (a0 : ByteArray) (a1 : Int) : Option (Int × Bool) :=
 if a0.size ≤ 281474976710656 ∧ a1 ≤ 4294967295 then
  some (match Lib.atoiAll a0.data.toList with
   | .ok v => (v, decide (0 ≤ v) && (decide (v ≤ a1) && (Lib.itoa v == a0.toList)))
   | .range => (Lib.atoiSat a0.data.toList, false)
   | _ => (0, false))
 else none
theorem number_ok (a0 : ByteArray) (a1 v : Int) (w : World) (hInv : Inv w) (h1 : a0.size ≤ 281474976710656) (h2 : a1 ≤ 4294967295) (hv : Lib.atoiAll a0.data.toList = .ok v) :
  Calls Tryz.prog 128 #[.string a0, .int .i64 a1] w fun e w' => e = .returned (.tuple #[.int .i64 v, .bool (decide (0 ≤ v) && (decide (v ≤ a1) && (Lib.itoa v == a0.toList)))]) ∧ Below w.heap.size w w' := by
 have HV := Lib.hid (fun w => Tryz.strconv_Atoi_ok a0 (by omega) v hv w)
 have HI := Lib.hid hInv
 have hw0 : v ≤ a1 → v ≤ 4294967295 := fun h => by omega
 clear hv hInv h1 h2
 by_cases c0 : 0 ≤ v
 ·by_cases c1 : v ≤ a1
  ·have HP : Hid ((decide (0 ≤ v) && (decide (v ≤ a1) && (Lib.itoa v == a0.toList))) = (Lib.itoa v == a0.toList)) := by show _ = _; simp [c0, c1]
   rw [HP.out]
   go_enter Tryz.func128, Tryz.ntmps128
   go_wp2_with (go_at_call 101; refine (HV.out _).mono ?_; rintro e w1 ⟨rfl, hw⟩)
   have HB : Hid (Below w.heap.size w w1) := by rcases hw with rfl | ⟨t, rfl⟩; exact Below.refl _ _; exact Lib.bytesWorld_below _ _ _
   clear hw
   go_wp2_with (go_at_call 102; refine (Tryz.strconv_Itoa v (by omega) (by have := hw0 c1; omega) _ (HI.out.below HB.out).pow10).mono ?_; rintro e w2 ⟨rfl, kk, os, rfl⟩)
   go_ret2
   exact ⟨rfl, zhz HB.out HB.out.size _ _⟩
  ·have HP : Hid ((decide (0 ≤ v) && (decide (v ≤ a1) && (Lib.itoa v == a0.toList))) = false) := by show _ = _; simp [c1]
   rw [HP.out]
   go_enter Tryz.func128, Tryz.ntmps128
   go_wp2_with (go_at_call 101; refine (HV.out _).mono ?_; rintro e w1 ⟨rfl, hw⟩)
   have HB : Hid (Below w.heap.size w w1) := by rcases hw with rfl | ⟨t, rfl⟩; exact Below.refl _ _; exact Lib.bytesWorld_below _ _ _
   clear hw
   go_wp2
   go_ret2
   exact ⟨rfl, HB.out⟩
 ·have HP : Hid ((decide (0 ≤ v) && (decide (v ≤ a1) && (Lib.itoa v == a0.toList))) = false) := by show _ = _; simp [c0]
  rw [HP.out]
  go_enter Tryz.func128, Tryz.ntmps128
  go_wp2_with (go_at_call 101; refine (HV.out _).mono ?_; rintro e w1 ⟨rfl, hw⟩)
  have HB : Hid (Below w.heap.size w w1) := by rcases hw with rfl | ⟨t, rfl⟩; exact Below.refl _ _; exact Lib.bytesWorld_below _ _ _
  clear hw
  go_wp2
  go_ret2
  exact ⟨rfl, HB.out⟩
def AtoiErr (n : Int) (w : World) (e : Ending) (w' : World) : Prop := ∃ N, e = .returned (.tuple #[.int .i64 n, .iface 190 (.pointer (some ⟨N, 0, none⟩))]) ∧ Below w.heap.size w w'
theorem zky (a0 : ByteArray) (a1 n : Int) (w : World) (hc : ∀ w, Inv w → Calls Tryz.prog 101 #[.string a0] w (AtoiErr n w)) (hInv : Inv w) :
  Calls Tryz.prog 128 #[.string a0, .int .i64 a1] w fun e w' => e = .returned (.tuple #[.int .i64 n, .bool false]) ∧ Below w.heap.size w w' := by
 have HC := Lib.hid (hc w hInv)
 clear hc hInv
 go_enter Tryz.func128, Tryz.ntmps128
 go_wp2_with (go_at_call 101; refine HC.out.mono ?_; rintro e w1 ⟨N, rfl, hb⟩)
 go_ret2
 exact ⟨rfl, hb⟩
theorem addr_number.calls (a0 : ByteArray) (a1 : Int) (r1 : Int) (r2 : Bool) (w : World) (hInv : Inv w) (h : addr_number.f a0 a1 = some (r1, r2)) :
  Calls Tryz.prog 128 #[.string a0, .int .i64 a1] w fun e w' => e = .returned (.tuple #[.int .i64 r1, .bool r2]) ∧ Below w.heap.size w w' := by
 unfold addr_number.f at h
 split at h
 ·rename_i hc
  obtain ⟨h1, h2⟩ := hc
  have h := Option.some.inj h
  split at h
  ·rename_i v hv
   simp only [Prod.mk.injEq] at h
   obtain ⟨rfl, rfl⟩ := h
   exact number_ok a0 a1 v w hInv h1 h2 hv
  ·rename_i hv
   simp only [Prod.mk.injEq] at h
   obtain ⟨rfl, rfl⟩ := h
   refine zky a0 a1 _ w (fun w hI => ?_) hInv
   obtain ⟨tp, p, hp⟩ := hI.errR
   exact (Tryz.strconv_Atoi_range_var a0 h1 hv tp p w hp).mono fun e w' ⟨N, he, _, _, hb⟩ => ⟨N, he, hb⟩
  ·rename_i n0 n1
   simp only [Prod.mk.injEq] at h
   obtain ⟨rfl, rfl⟩ := h
   refine zky a0 a1 0 w (fun w hI => ?_) hInv
   obtain ⟨tp, p, hp⟩ := hI.errS
   exact (Tryz.strconv_Atoi_syntax_var a0 h1 n0 n1 tp p w hp).mono fun e w' ⟨N, he, _, _, hb⟩ => ⟨N, he, hb⟩
 ·cases h
theorem zpi {k : IntKind} {a b : Int} (h : a = b) : Ending.returned (.int k a) = .returned (.int k b) := by rw [h]
def zin (n : Int) : Value := .agg #[.int .u8 (n / 16777216 % 256), .int .u8 (n / 65536 % 256), .int .u8 (n / 256 % 256), .int .u8 (n % 256)]
theorem zqs (n : Int) (w : World) :
  Calls Tryz.prog 161 #[.int .i64 n] w fun e w' => e = .returned (zin n) ∧ Below w.heap.size w w' := by
 unfold zin
 go_enter Tryz.func161, Tryz.ntmps161
 go_wp2
 exact bodyPost_ret (v := .agg #[.int .u8 (n / 16777216 % 256), .int .u8 (n / 65536 % 256), .int .u8 (n / 256 % 256), .int .u8 (n % 256)]) (by simp [results, Tryz.results161, go_sem]) rfl ⟨rfl, (Below.refl _ _).alloc (Nat.le_refl _) _⟩
theorem zhk {a : Int} (h0 : 0 ≤ a) (h1 : a < 256) : wrap64 a = a := by unfold wrap64; omega
theorem word_pure {a b c d : Int} (a0 : 0 ≤ a) (a1 : a < 256) (b0 : 0 ≤ b) (b1 : b < 256) (c0 : 0 ≤ c) (c1 : c < 256) (d0 : 0 ≤ d) (d1 : d < 256) :
  bits BinOp.or IntKind.i64 (bits BinOp.or IntKind.i64 (bits BinOp.or IntKind.i64 (wrap64 (wrap64 a * 16777216)) (wrap64 (wrap64 b * 65536))) (wrap64 (wrap64 c * 256))) (wrap64 d) = a * 16777216 + b * 65536 + c * 256 + d := by
 have wr : ∀ n : Int, 0 ≤ n → n < 2 ^ 40 → IntKind.i64.wrap n = n := fun n h0 h1 => by rw [IntKind.wrap_i64]; omega
 rw [zhk a0 a1, zhk b0 b1, zhk c0 c1, zhk d0 d1]
 have e1 : wrap64 (a * 16777216) = a * 16777216 := by unfold wrap64; omega
 have e2 : wrap64 (b * 65536) = b * 65536 := by unfold wrap64; omega
 have e3 : wrap64 (c * 256) = c * 256 := by unfold wrap64; omega
 rw [e1, e2, e3]
 rw [bits_join .i64 40 (by decide) wr 24 (a * 16777216) (b * 65536) (by omega) (by omega) (by omega) (by omega) (by omega) (by omega)]
 rw [bits_join .i64 40 (by decide) wr 16 _ (c * 256) (by omega) (by omega) (by omega) (by omega) (by omega) (by omega)]
 rw [bits_join .i64 40 (by decide) wr 8 _ d (by omega) (by omega) (by omega) (by omega) (by omega) (by omega)]
theorem word_any (a b c d : Int) (w : World) (a0 : 0 ≤ a) (a1 : a < 256) (b0 : 0 ≤ b) (b1 : b < 256) (c0 : 0 ≤ c) (c1 : c < 256) (d0 : 0 ≤ d) (d1 : d < 256) :
  Calls Tryz.prog 160 #[.agg #[.int .u8 a, .int .u8 b, .int .u8 c, .int .u8 d]] w fun e w' => e = .returned (.int .i64 (a * 16777216 + b * 65536 + c * 256 + d)) ∧ Below w.heap.size w w' := by
 have HP := Lib.hid (word_pure a0 a1 b0 b1 c0 c1 d0 d1)
 clear a0 a1 b0 b1 c0 c1 d0 d1
 go_enter Tryz.func160, Tryz.ntmps160
 go_wp2
 go_ret
 exact ⟨zpi HP.out, (Below.refl _ _).alloc (Nat.le_refl _) _⟩
theorem zqr (p : Int) (h0 : 0 ≤ p) (h1 : p ≤ 32) : 1 ≤ (2 : Int) ^ (32 - p).toNat ∧ (2 : Int) ^ (32 - p).toNat ≤ 4294967296 := by
 have h : (32 - p).toNat ≤ 32 := by omega
 generalize (32 - p).toNat = k at h
 constructor
 ·exact Int.pow_pos (by decide)
 ·have := Nat.pow_le_pow_right (n := 2) (by decide) h
  have e : ((2 : Int) ^ k) = ((2 ^ k : Nat) : Int) := by simp
  rw [e]
  omega
theorem size_any (p : Int) (w : World) (h0 : 0 ≤ p) (h1 : p ≤ 32) :
  Calls Tryz.prog 162 #[.int .i64 p] w fun e w' => e = .returned (.int .i64 (2 ^ (32 - p).toNat)) ∧ w' = w := by
 go_enter Tryz.func162, Tryz.ntmps162
 go_wp2
 go_ret
 exact ⟨zpi (by unfold wrap64; have := zqr p h0 h1; omega), rfl⟩
def zpu (n : Int) : List UInt8 := [n / 16777216 % 256, n / 65536 % 256, n / 256 % 256, n % 256].map fun x => UInt8.ofNat x.toNat
theorem cell_byte (n : Int) : Value.int .u8 (n % 256) = Go.Extern.Stop.cell (UInt8.ofNat (n % 256).toNat) := by
 unfold Go.Extern.Stop.cell
 have h : Int.ofNat ((UInt8.ofNat (n % 256).toNat).toNat) = n % 256 := by
  rw [UInt8.toNat_ofNat']; show (((n % 256).toNat % 2 ^ 8 : Nat) : Int) = _; omega
 rw [h]
theorem zjv (n : Int) : zin n = .agg ((zpu n).map Go.Extern.Stop.cell).toArray := by
 unfold zin zpu
 simp only [List.map_cons, List.map_nil, ← cell_byte]
theorem four_inj {a b : Int} (a0 : 0 ≤ a) (a1 : a ≤ 4294967295) (b0 : 0 ≤ b) (b1 : b ≤ 4294967295) : (zpu a == zpu b) = decide (a = b) := by
 have key : ∀ x y : Int, UInt8.ofNat (x % 256).toNat = UInt8.ofNat (y % 256).toNat → x % 256 = y % 256 := fun x y h => by
  have h' := congrArg (fun u : UInt8 => (u.toNat : Int)) h
  simp only [UInt8.toNat_ofNat'] at h'
  omega
 rw [Bool.eq_iff_iff, beq_iff_eq, decide_eq_true_iff]
 constructor
 ·intro h
  simp only [zpu, List.map_cons, List.map_nil, List.cons.injEq, and_true] at h
  have h1 := key _ _ h.1
  have h2 := key _ _ h.2.1
  have h3 := key _ _ h.2.2.1
  have h4 := key _ _ h.2.2.2
  omega
 ·intro h; rw [h]
theorem run_eql_four (a b : Int) (a0 : 0 ≤ a) (a1 : a ≤ 4294967295) (b0 : 0 ≤ b) (b1 : b ≤ 4294967295) (w : World) :
  (binOp .eql 184 (zin a) (zin b)).run Tryz.prog w = .ok (.bool (decide (a = b))) w := by
 rw [zjv, zjv, run_eql_bytes w 184 5 4 Tryz.underlying184 Tryz.underlying5 (fun w => by kernel_rfl) _ _ rfl rfl, four_inj a0 a1 b0 b1]
theorem run_eqGuard_four (x y : Operand) (a b : Int) (w : World) : (eqGuard .eql 184 x y (zin a) (zin b)).run Tryz.prog w = .ok () w := by
 unfold zin
 exact run_eqGuard_agg w _ _ _ _ _ _ Tryz.eqGuardType184
theorem zpp (n : Int) (w : World) (a p : Int) (W : World) (h : W.cell? ⟨w.heap.size, 0, none⟩ = some (.int .i64 a) ∧ W.cell? ⟨w.heap.size, 1, none⟩ = some (.int .i64 p) ∧ Below w.heap.size w W ∧ w.heap.size < W.heap.size) :
  Calls Tryz.prog 161 #[.int .i64 n] W fun e w' => e = .returned (zin n) ∧ w'.cell? ⟨w.heap.size, 0, none⟩ = some (.int .i64 a) ∧ w'.cell? ⟨w.heap.size, 1, none⟩ = some (.int .i64 p) ∧ Below w.heap.size w w' ∧ w.heap.size < w'.heap.size := by
 obtain ⟨h0, h1, h2, h3⟩ := h
 exact (zqs n W).mono fun e w' ⟨he, hb⟩ => ⟨he, (hb.cell (p := ⟨w.heap.size, 0, none⟩) h3).trans h0, (hb.cell (p := ⟨w.heap.size, 1, none⟩) h3).trans h1, h2.trans (hb.mono (by omega)), by have := hb.size; omega⟩
theorem right_in (a p sz : Int) (w : World) (h0 : 0 ≤ p) (h1 : p ≤ 32) (h2 : 0 ≤ a) (h3 : a ≤ 4294967295) (s1 : 1 ≤ sz) (s2 : sz ≤ 4294967296)
  (hsz : ∀ w, Calls Tryz.prog 162 #[.int .i64 p] w fun e w' => e = .returned (.int .i64 sz) ∧ w' = w) :
  Calls Tryz.prog 129 #[.agg #[.int .i64 a, .int .i64 p]] w fun e w' => e = .returned (.bool (decide (a = a / sz * sz))) ∧ Below w.heap.size w w' := by
 have q1 : 0 ≤ a / sz := Int.ediv_nonneg h2 (by omega)
 have q2 : a / sz ≤ a := Int.ediv_le_self _ h2
 have q3 : a / sz * sz ≤ a := Int.ediv_mul_le _ (by omega)
 have q4 : 0 ≤ a / sz * sz := Int.mul_nonneg q1 (by omega)
 have HE := Lib.hid (run_eql_four a (a / sz * sz) h2 h3 q4 (by omega))
 have HS := Lib.hid hsz
 clear hsz
 have hsz0 : ¬ sz = 0 := by omega
 have HD := Lib.hid (Int.tdiv_eq_ediv_of_nonneg (b := sz) h2)
 have HW := Lib.hid (show IntKind.i64.wrap (a / sz) = a / sz by rw [IntKind.wrap_i64]; omega)
 have HG := Lib.hid (fun (x y : Operand) (w : World) => run_eqGuard_four x y a (a / sz * sz) w)
 have hwm : IntKind.i64.wrap (a / sz * sz) = a / sz * sz := by rw [IntKind.wrap_i64]; omega
 have HM := Lib.hid hwm
 clear hwm
 go_enter Tryz.func129, Tryz.ntmps129
 go_wp2
 have hB : Below w.heap.size w (w.alloc (Obj.cells #[Value.int IntKind.i64 a, Value.int IntKind.i64 p] 47)) := (Below.refl _ _).alloc (Nat.le_refl _) _
 have hc0 : (w.alloc (Obj.cells #[Value.int IntKind.i64 a, Value.int IntKind.i64 p] 47)).cell? ⟨w.heap.size, 0, none⟩ = some (.int .i64 a) := by simp [go_sem]
 have hc1 : (w.alloc (Obj.cells #[Value.int IntKind.i64 a, Value.int IntKind.i64 p] 47)).cell? ⟨w.heap.size, 1, none⟩ = some (.int .i64 p) := by simp [go_sem]
 generalize w.alloc (Obj.cells #[Value.int IntKind.i64 a, Value.int IntKind.i64 p] 47) = W at hB hc0 hc1
 have hE := HE.out
 have hD := HD.out
 have hW := HW.out
 have hG := HG.out
 have hM := HM.out
 have hlt : w.heap.size < W.heap.size := World.block_lt_of_cell? _ _ hc0
 go_region_held3 (fun w' => w'.cell? ⟨w.heap.size, 0, none⟩ = some (.int .i64 a) ∧ w'.cell? ⟨w.heap.size, 1, none⟩ = some (.int .i64 p) ∧ Below w.heap.size w w' ∧ w.heap.size < w'.heap.size)
  (first | exact ⟨hc0, hc1, hB.trans ⟨rfl, rfl, rfl, Nat.le_refl _, fun _ _ => rfl⟩, hlt⟩ | exact ⟨‹_›, ‹_›, ‹_›, ‹_›⟩ | go_keep)
  (first
   | (go_at_call 161; refine (zpp _ w a p _ ?_).mono ?_; (first | assumption | exact ⟨‹_›, ‹_›, ‹_›, ‹_›⟩); rintro e w' ⟨rfl, hx0, hx1, hx2, hx3⟩)
   | (go_at_call 162; refine (HS.out _).mono ?_; rintro e w' ⟨rfl, rfl⟩))
 go_wp2
 go_ret
 exact ⟨rfl, by first | assumption | exact (by assumption : _ ∧ _ ∧ Below w.heap.size w _ ∧ _).2.2.1⟩
def addr_right.f (a p : Int) : Option Bool :=
 some (if 0 ≤ p ∧ p ≤ 32 ∧ 0 ≤ a ∧ a ≤ 4294967295 then decide (a % 2 ^ (32 - p).toNat = 0) else false)
theorem right_pure {a sz : Int} (h : 1 ≤ sz) : decide (a = a / sz * sz) = decide (a % sz = 0) := by
 have h1 := Int.mul_ediv_add_emod a sz
 rw [Int.mul_comm] at h1
 generalize a / sz * sz = q at h1
 by_cases h2 : a % sz = 0
 ·rw [decide_eq_true h2, decide_eq_true (by omega)]
 ·rw [decide_eq_false h2, decide_eq_false (by omega)]
theorem right_out (a p : Int) (w : World) (h : ¬ (0 ≤ p ∧ p ≤ 32 ∧ 0 ≤ a ∧ a ≤ 4294967295)) :
  Calls Tryz.prog 129 #[.agg #[.int .i64 a, .int .i64 p]] w fun e w' => e = .returned (.bool false) ∧ Below w.heap.size w w' := by
 by_cases h0 : 0 ≤ p
 ·by_cases h1 : p ≤ 32
  ·by_cases h2 : 0 ≤ a
   ·have h3 : ¬ a ≤ 4294967295 := fun h4 => h ⟨h0, h1, h2, h4⟩
    clear h
    go_enter Tryz.func129, Tryz.ntmps129
    go_wp2
    go_ret
    exact ⟨rfl, (Below.refl _ _).alloc (Nat.le_refl _) _⟩
   ·clear h
    go_enter Tryz.func129, Tryz.ntmps129
    go_wp2
    go_ret
    exact ⟨rfl, (Below.refl _ _).alloc (Nat.le_refl _) _⟩
  ·clear h
   go_enter Tryz.func129, Tryz.ntmps129
   go_wp2
   go_ret
   exact ⟨rfl, (Below.refl _ _).alloc (Nat.le_refl _) _⟩
 ·clear h
  go_enter Tryz.func129, Tryz.ntmps129
  go_wp2
  go_ret
  exact ⟨rfl, (Below.refl _ _).alloc (Nat.le_refl _) _⟩
theorem addr_right.calls (a0_0 a0_1 : Int) (r : Bool) (w : World) (h : addr_right.f a0_0 a0_1 = some r) :
  Calls Tryz.prog 129 #[.agg #[.int .i64 a0_0, .int .i64 a0_1]] w fun e w' => e = .returned (.bool r) ∧ Below w.heap.size w w' := by
 have h := Option.some.inj h
 subst h
 by_cases hc : 0 ≤ a0_1 ∧ a0_1 ≤ 32 ∧ 0 ≤ a0_0 ∧ a0_0 ≤ 4294967295
 ·rw [if_pos hc]
  obtain ⟨h0, h1, h2, h3⟩ := hc
  obtain ⟨p0, p1⟩ := zqr a0_1 h0 h1
  rw [← right_pure p0]
  exact right_in a0_0 a0_1 _ w h0 h1 h2 h3 p0 p1 (fun w => size_any a0_1 w h0 h1)
 ·rw [if_neg hc]
  exact right_out a0_0 a0_1 w hc
end
end Go.Proofs.YtjeekocidaogoaaGreatDoor.Hand
section
namespace Go.Proofs.YtjeekocidaogoaaGreatDoor.Hand
open Go.RowKit Go.Proofs.YtjeekocidaogoaaGreatDoorW.PrintWords Go.Proofs.YtjeekocidaogoaaGreatDoorW.PrintLast Go.Proofs.YtjeekocidaogoaaGreatDoorW.PrintMore
def Row (W : World) (b ty sz : Nat) (v : Value) (n : Nat) (xs : List Value) : Prop :=
 xs.length = n * sz ∧ ((v = .slice none 0 0 ∧ n = 0) ∨ ∃ g cap cur, v = .slice (some ⟨g, 0, none⟩) n cap ∧ b ≤ g ∧ W.heap[g]? = some (.cells cur ty (0, 0)) ∧ n ≤ cap ∧ cap ≤ maxLen ∧ cap * sz ≤ cur.size ∧ cur.toList.take (n * sz) = xs)
def zqb (c c' : Nat → Option Value) (n : Nat) (news : List Value) : Prop := ∀ j, c' j = c j ∨ (n ≤ j ∧ j < n + news.length ∧ c' j = news[j - n]?)
section
variable {W w1 : World} {b ty sz n : Nat} {v : Value} {xs : List Value}
theorem Row.nil (W : World) (b ty sz : Nat) : Row W b ty sz (.slice none 0 0) 0 [] := ⟨by simp, .inl ⟨rfl, rfl⟩⟩
theorem Row.form (h : Row W b ty sz v n xs) : ∃ A cap, v = .slice A n cap ∧ n ≤ cap ∧ (0 < n → ∃ g cur, A = some ⟨g, 0, none⟩ ∧ v.ownBlock = some g ∧ b ≤ g ∧ W.heap[g]? = some (.cells cur ty (0, 0)) ∧ cap ≤ maxLen ∧ cap * sz ≤ cur.size ∧ cur.toList.take (n * sz) = xs) := by
 rcases h.2 with ⟨rfl, rfl⟩ | ⟨g, cap, cur, rfl, hb, hg, hn, hm, hc, ht⟩
 ·exact ⟨none, 0, rfl, Nat.le_refl _, fun h => absurd h (by decide)⟩
 ·exact ⟨_, cap, rfl, hn, fun _ => ⟨g, cur, rfl, rfl, hb, hg, hm, hc, ht⟩⟩
theorem Row.blk (h : Row W b ty sz v n xs) {g : Nat} (hg : v.ownBlock = some g) : b ≤ g ∧ g < W.heap.size ∧ ∃ cur, W.heap[g]? = some (.cells cur ty (0, 0)) := by
 rcases h.2 with ⟨rfl, _⟩ | ⟨g', cap, cur, rfl, hb, hh, _⟩
 ·simp [Value.ownBlock] at hg
 ·have : g' = g := by simpa [Value.ownBlock] using hg
  subst this
  exact ⟨hb, zat hh, cur, hh⟩
theorem Row.frame (h : Row W b ty sz v n xs) (hf : ∀ g, v.ownBlock = some g → w1.heap[g]? = W.heap[g]?) : Row w1 b ty sz v n xs := by
 refine ⟨h.1, ?_⟩
 rcases h.2 with hn | ⟨g, cap, cur, rfl, hb, hh, r⟩
 ·exact .inl hn
 ·exact .inr ⟨g, cap, cur, rfl, hb, (hf g rfl).trans hh, r⟩
theorem Row.alloc (h : Row W b ty sz v n xs) (o : Obj) : Row (W.alloc o) b ty sz v n xs := h.frame fun g hv => Below.heap_alloc W o g (h.blk hv).2.1
theorem Row.setCell (h : Row W b ty sz v n xs) {p : Addr} (hne : v.ownBlock ≠ some p.block) (u : Value) : Row (W.setCell p u) b ty sz v n xs :=
 h.frame fun g hv => Below.heap_setCell W p u g (fun e => hne (by rw [hv, e]))
theorem Row.clip {A : Option Addr} {c : Nat} (h : Row W b ty sz (.slice A n c) n xs) : Row W b ty sz (.slice A n n) n xs := by
 refine ⟨h.1, ?_⟩
 rcases h.2 with ⟨hv, rfl⟩ | ⟨g, cap, cur, hv, hb, hh, hn, hm, hc, ht⟩
 ·injection hv with h1 h2 h3
  subst h1
  exact .inl ⟨rfl, rfl⟩
 ·injection hv with h1 h2 h3
  subst h1
  subst h3
  exact .inr ⟨g, n, cur, rfl, hb, hh, Nat.le_refl _, Nat.le_trans hn hm, Nat.le_trans (Nat.mul_le_mul_right _ hn) hc, ht⟩
theorem Row.cell (h : Row W b ty sz v n xs) {g : Nat} (hg : v.ownBlock = some g) : ∀ j u, xs[j]? = some u → W.cell? ⟨g, j, none⟩ = some u := by
 intro j u hu
 rcases h.2 with ⟨rfl, _⟩ | ⟨g', cap, cur, rfl, hb, hh, hn, hm, hc, ht⟩
 ·simp [Value.ownBlock] at hg
 ·have : g' = g := by simpa [Value.ownBlock] using hg
  subst this
  rw [zae hh, ← Array.getElem?_toList]
  rw [← ht, List.getElem?_take] at hu
  split at hu
  ·exact hu
  ·cases hu
theorem Row.lower {b' : Nat} (h : Row W b ty sz v n xs) (hb : b' ≤ b) : Row W b' ty sz v n xs := by
 refine ⟨h.1, ?_⟩
 rcases h.2 with hn | ⟨g, cap, cur, rfl, hbg, r⟩
 ·exact .inl hn
 ·exact .inr ⟨g, cap, cur, rfl, Nat.le_trans hb hbg, r⟩
theorem Row.apart {b' ty' sz' n' : Nat} {u : Value} {ys : List Value} (h : Row W b ty sz v n xs) (k : Row W b' ty' sz' u n' ys) (hne : ty ≠ ty') : v.ownBlock = none ∨ v.ownBlock ≠ u.ownBlock := by
 cases hv : v.ownBlock with
 | none => exact .inl rfl
 | some g =>
  refine .inr fun hu => ?_
  obtain ⟨_, _, cs, h1⟩ := h.blk hv
  obtain ⟨_, _, ds, h2⟩ := k.blk hu.symm
  rw [h1] at h2
  injection h2 with h2
  injection h2 with _ h3
  exact hne h3
theorem Row.ne {g t : Nat} {cs : Array Value} (h : Row W b ty sz v n xs) (hg : W.heap[g]? = some (.cells cs t (0, 0))) (hne : ty ≠ t) : v.ownBlock ≠ some g := by
 intro hv
 obtain ⟨_, _, ds, h2⟩ := h.blk hv
 rw [hg] at h2
 injection h2 with h2
 injection h2 with _ h3
 exact hne h3.symm
end
structure Fr (W W' : World) (S : Nat → Prop) : Prop where
 os : W'.os = W.os
 tape : W'.tape = W.tape
 output : W'.output = W.output
 size : W.heap.size ≤ W'.heap.size
 block : ∀ k, k < W.heap.size → ¬ S k → W'.heap[k]? = W.heap[k]?
namespace Fr
variable {W W1 W2 w0 : World} {S S' S2 : Nat → Prop}
theorem refl (W : World) (S : Nat → Prop) : Fr W W S := ⟨rfl, rfl, rfl, Nat.le_refl _, fun _ _ _ => rfl⟩
theorem then_ (h : Fr W W1 S) (k : Fr W1 W2 S2) (hs : ∀ k, S2 k → S k ∨ W.heap.size ≤ k) : Fr W W2 S :=
 ⟨k.os.trans h.os, k.tape.trans h.tape, k.output.trans h.output, Nat.le_trans h.size k.size, fun i hi hn =>
  (k.block i (Nat.lt_of_lt_of_le hi h.size) (fun h2 => by rcases hs i h2 with h3 | h3; exact hn h3; omega)).trans (h.block i hi hn)⟩
theorem trans (h : Fr W W1 S) (k : Fr W1 W2 S) : Fr W W2 S := h.then_ k (fun _ h => .inl h)
theorem mono (h : Fr W W1 S) (hs : ∀ k, S k → S' k ∨ W.heap.size ≤ k) : Fr W W1 S' := (refl W S').then_ h hs
theorem undrew (h : Fr W.drew W1 S) : Fr W W1 S := ⟨h.os, h.tape, h.output, h.size, h.block⟩
theorem alloc (h : Fr W W1 S) (o : Obj) : Fr W (W1.alloc o) S :=
 ⟨h.os, h.tape, h.output, Nat.le_trans h.size (by simp), fun k hk hn => (Below.heap_alloc W1 o k (Nat.lt_of_lt_of_le hk h.size)).trans (h.block k hk hn)⟩
theorem setCell (h : Fr W W1 S) {p : Addr} (hp : S p.block ∨ W.heap.size ≤ p.block) (u : Value) : Fr W (W1.setCell p u) S :=
 ⟨h.os, h.tape, h.output, Nat.le_trans h.size (by simp [World.setCell]), fun k hk hn => (Below.heap_setCell W1 p u k (fun e => by subst e; rcases hp with hp | hp; exact hn hp; omega)).trans (h.block k hk hn)⟩
theorem of_grown {row : Option Nat} (h : W.grownBy W1 row) (hr : ∀ k, row = some k → S k) : Fr W W1 S :=
 ⟨h.os, h.tape, h.output, h.size, fun k hk hn => h.block k hk (fun e => hn (hr k e.symm))⟩
theorem of_below (h : Below W.heap.size W W1) : Fr W W1 S := ⟨h.os, h.tape, h.output, h.size, fun k hk _ => h.block k hk⟩
theorem below {b : Nat} (h : Fr W W1 S) (hs : ∀ k, S k → b ≤ k) (hb : b ≤ W.heap.size) (h0 : Below b w0 W) : Below b w0 W1 :=
 h0.trans ⟨h.os, h.tape, h.output, h.size, fun k hk => h.block k (by omega) (fun hk' => by have := hs k hk'; omega)⟩
theorem blk {g t : Nat} {cs : Array Value} (h : Fr W W1 S) (hg : W.heap[g]? = some (.cells cs t (0, 0))) (hn : ¬ S g) : W1.heap[g]? = some (.cells cs t (0, 0)) := (h.block g (zat hg) hn).trans hg
end Fr
theorem Row.fr {W w1 : World} {b ty sz n : Nat} {v : Value} {xs : List Value} {S : Nat → Prop} (h : Row W b ty sz v n xs) (hf : Fr W w1 S) (hn : ∀ g, v.ownBlock = some g → ¬ S g) : Row w1 b ty sz v n xs :=
 h.frame fun g hv => hf.block g (h.blk hv).2.1 (hn g hv)
section
variable {P : Program} {W : World}
theorem zko (b : Nat) (t ty e : TypeId) (i : TypeInfo) (z : Value) (size bytes : Nat) (ht : P.underlying t = some (.slice e)) (hi : P.info? e = some i) (hz : i.zero = some z)
  (hsize : i.size = size) (hby : i.bytes = bytes) (hzs : z.cells.size = size) (hsz : 0 < size)
  (v : Value) (n : Nat) (xs : List Value) (hrow : Row W b e size v n xs)
  (a : Addr) (c : Nat) (news : List Value) (hl : news.length = size) (hnews : ∀ j u, news[j]? = some u → W.cell? (a.add j) = some u) (h1 : ∀ u ∈ news, u.oneCell' = true)
  (h63 : n + 1 ≤ maxLen) (hbytes : (n + 1) * bytes ≤ 140737488355328) (hbase : b ≤ W.heap.size) :
  ∃ v' w', (Builtin.append_ #[t, t] ty #[v, .slice (some a) 1 c]).run P W = .ok v' w' ∧ Row w' b e size v' (n + 1) (xs ++ news) ∧ W.grownBy w' v.ownBlock ∧
   (v'.ownBlock = v.ownBlock ∨ v'.ownBlock = some W.heap.size) ∧ v'.ownBlock ≠ none ∧
   ∀ g cs, v.ownBlock = some g → W.heap[g]? = some (.cells cs e (0, 0)) → ∃ cs', w'.heap[g]? = some (.cells cs' e (0, 0)) ∧ zqb (fun j => cs[j]?) (fun j => cs'[j]?) (n * size) news := by
 subst hsize
 subst hby
 have hsmall : n + 1 ≤ 9223372036854775807 := by simp only [maxLen] at h63; omega
 have hlen : (xs ++ news).length = (n + 1) * i.size := by rw [List.length_append, hrow.1, hl, Nat.add_mul, Nat.one_mul]
 have hl1 : news.length = 1 * i.size := by rw [hl, Nat.one_mul]
 have grown : ∀ old : Nat, ∀ row : Option Nat,
   Row (W.drew.alloc (.cells (xs.toArray ++ news.toArray ++ Builtin.zeroCells z.cells (grownCap W (n + 1) old e - (n + 1))) e)) b e i.size (.slice (some ⟨W.heap.size, 0, none⟩) (n + 1) (grownCap W (n + 1) old e)) (n + 1) (xs ++ news) ∧
   W.grownBy (W.drew.alloc (.cells (xs.toArray ++ news.toArray ++ Builtin.zeroCells z.cells (grownCap W (n + 1) old e - (n + 1))) e)) row := by
  intro old row
  have hge := grownCap_ge W (n + 1) old e
  refine ⟨⟨hlen, .inr ⟨W.heap.size, _, _, rfl, hbase, heap_alloc_new W.drew _, hge, grownCap_le_maxLen W (n + 1) old e h63, ?_, ?_⟩⟩, ⟨rfl, rfl, rfl, by simp, fun k hk _ => Below.heap_alloc W.drew _ k hk⟩⟩
  ·have hcz : (Builtin.zeroCells z.cells (grownCap W (n + 1) old e - (n + 1))).size = (grownCap W (n + 1) old e - (n + 1)) * i.size := by rw [size_zeroCells, hzs]
   simp only [Array.size_append, List.size_toArray, hcz, hrow.1, hl]
   have : grownCap W (n + 1) old e * i.size = (n + 1) * i.size + (grownCap W (n + 1) old e - (n + 1)) * i.size := by rw [← Nat.add_mul]; congr 1; omega
   rw [this, Nat.add_mul, Nat.one_mul]
   exact Nat.le_refl _
  ·simp only [Array.toList_append, List.append_assoc]
   rw [← List.append_assoc, ← hlen]
   exact List.take_left
 rcases hrow.2 with ⟨rfl, rfl⟩ | ⟨g, cap, cur, rfl, hbg, hg, hnc, hcm, hcs, htake⟩
 ·have hx : xs = [] := List.eq_nil_of_length_eq_zero (by simpa using hrow.1)
  subst hx
  have hr := run_append_nil (P := P) W t ty e i z ht hi hz a 1 c news hl1 hnews (by omega) (by omega) (by have hb := hbytes; simp only [Nat.zero_add] at hb; omega)
  have hgr := grown 0 (Value.ownBlock (.slice none 0 0))
  simp only [Nat.zero_add, List.nil_append, Array.empty_append] at hgr ⊢
  exact ⟨_, _, hr, hgr.1, hgr.2, .inr rfl, by simp [Value.ownBlock], fun g cs hgb => by simp [Value.ownBlock] at hgb⟩
 ·by_cases hroom : n + 1 ≤ cap
  ·have hfit : n * i.size + news.length ≤ cur.size := by
    rw [hl]
    have : (n + 1) * i.size ≤ cap * i.size := Nat.mul_le_mul_right _ hroom
    rw [Nat.add_mul] at this; omega
   have hr := run_append_room (P := P) W t ty e i ht hi g n cap cur hg a 1 c news hl1 hnews h1 hroom hfit
   have hcl : cur.toList.length = cur.size := Array.length_toList
   refine ⟨_, _, hr, ⟨hlen, .inr ⟨g, cap, _, rfl, hbg, setRow_heap W g cur _ e _ hg, hroom, hcm, ?_, ?_⟩⟩, ⟨rfl, rfl, rfl, by simp, fun k _ hk => setRow_other W g k _ (fun e => hk (by simp [Value.ownBlock, e]))⟩, .inl rfl, by simp [Value.ownBlock], fun g' cs hgb hcs' => ?_⟩
   ·simp only [List.size_toArray, List.length_append, List.length_take, List.length_drop, Array.length_toList]
    omega
   ·rw [htake, ← hlen]
    exact List.take_left
   ·have hgg : g = g' := by simpa [Value.ownBlock] using hgb
    subst hgg
    rw [hg] at hcs'
    have hcc : cur = cs := by injection hcs' with h; injection h
    subst hcc
    refine ⟨_, setRow_heap W g cur _ e _ hg, fun j => ?_⟩
    simp only [List.getElem?_toArray]
    by_cases j1 : j < n * i.size
    ·left
     rw [List.append_assoc, List.getElem?_append_left (by rw [List.length_take]; omega), List.getElem?_take, if_pos j1, Array.getElem?_toList]
    ·by_cases j2 : j < n * i.size + news.length
     ·right
      refine ⟨by omega, j2, ?_⟩
      rw [List.append_assoc, List.getElem?_append_right (by rw [List.length_take]; omega), List.getElem?_append_left (by rw [List.length_take]; omega), List.length_take, Nat.min_eq_left (by omega)]
     ·left
      rw [List.getElem?_append_right (by rw [List.length_append, List.length_take]; omega), List.length_append, List.length_take, Nat.min_eq_left (by omega), List.getElem?_drop, Array.getElem?_toList]
      congr 1
      omega
  ·have holds : ∀ j u, xs[j]? = some u → W.cell? ((⟨g, 0, none⟩ : Addr).add j) = some u := by
    intro j u hu
    have hadd : (⟨g, 0, none⟩ : Addr).add j = ⟨g, j, none⟩ := by unfold Addr.add; split <;> simp_all
    rw [hadd]
    exact hrow.cell rfl j u hu
   have hr := run_append_grow (P := P) W t ty e i z ht hi hz ⟨g, 0, none⟩ n cap xs hrow.1 holds a 1 c news hl1 hnews (by omega) (by omega) (growslice_fits (by omega) hbytes)
   have hgr := grown cap (Value.ownBlock (.slice (some ⟨g, 0, none⟩) n cap))
   refine ⟨_, _, hr, hgr.1, hgr.2, .inr rfl, by simp [Value.ownBlock], fun g' cs hgb hcs' => ?_⟩
   have hgg : g = g' := by simpa [Value.ownBlock] using hgb
   subst hgg
   exact ⟨cs, (Below.heap_alloc W.drew _ g (zat hg)).trans hcs', fun j => .inl rfl⟩
variable {ops : Array Oper} {rest : List Oper} {o : Oper} {a : Act} {Q : Exit → Act → World → Prop}
theorem zcj {w0 : World} (b : Nat) (hgd : o.guard = none) (s x : Operand) (t e : TypeId) (z : Value) (size bytes : Nat)
  (ho : o.op = .call { callee := .builtin .append, args := #[s, x], argTypes := #[t, t] })
  (ht : P.underlying t = some (.slice e)) (hinfo : (P.info? e).map (fun i => (i.zero, i.size, i.bytes)) = some (some z, size, bytes)) (hz : z.cells.size = size) (hs0 : 0 < size)
  (v : Value) (n : Nat) (xs ys : List Value) (hs : a.eval s = v) (hx : a.eval x = .slice (some ⟨W.heap.size, 0, none⟩) 1 1) (hys : ys.length = size) (h1 : ∀ u ∈ ys, u.oneCell' = true)
  (HO : Row W b e size v n xs) (hbase : b ≤ W.heap.size) (hm : n + 1 ≤ maxLen) (hl : (n + 1) * bytes ≤ 140737488355328)
  (h : ∀ v1 w1, Row w1 b e size v1 (n + 1) (xs ++ ys) → W.grownBy w1 v.ownBlock → (v1.ownBlock = v.ownBlock ∨ v1.ownBlock = some (W.heap.size + 1)) → v1.ownBlock ≠ none →
   (∀ g cs, v.ownBlock = some g → W.heap[g]? = some (.cells cs e (0, 0)) → ∃ cs', w1.heap[g]? = some (.cells cs' e (0, 0)) ∧ zqb (fun j => cs[j]?) (fun j => cs'[j]?) (n * size) ys) → wpList P ops Q rest (a.put o.dst v1) w1) :
  wpList P ops Q (o :: rest) a (W.alloc (.cells ys.toArray e)) := by
 obtain ⟨i0, hi, hzz⟩ := Option.map_eq_some_iff.1 hinfo
 simp only [Prod.mk.injEq] at hzz
 obtain ⟨hz0, hz1, hz2⟩ := hzz
 refine wpList_plain hgd fun K hK => ?_
 obtain ⟨v', w', hr, h2, h3, h4, h5, h6⟩ := zko (P := P) (W := W.alloc (.cells ys.toArray e)) b t o.type e i0 z size bytes ht hi hz0 hz1 hz2 hz hs0 v n xs (HO.alloc _) ⟨W.heap.size, 0, none⟩ 1 ys hys
  (by simpa using World.news_of_block (cs := ys.toArray) (t := e) (fr := (0, 0)) (heap_alloc_new W (.cells ys.toArray e))) h1 hm hl (by simp; omega)
 unfold Oper.wp execOp
 simp only [ho, resolve, invoke, builtin, Sem.run_bind, Sem.run_pure, Result.andThen_ok, List.map_toArray, List.map_cons, List.map_nil, hs, hx, hr]
 refine hK _ _ (h v' w' h2 (World.grownBy.trans (World.grownBy_alloc W _ _) h3) ?_ h5 ?_)
 ·rcases h4 with h4 | h4
  ·exact .inl h4
  ·exact .inr (by simpa using h4)
 ·intro g cs hg hcs
  exact h6 g cs hg ((Below.heap_alloc W _ g (zat hcs)).trans hcs)
variable {K : Act → World → Prop}
theorem zeq (b : Nat) (hw : Region.wanted o (yielded ops a.tmps) = true) (s x : Operand) (t e : TypeId) (z : Value) (size bytes : Nat)
  (ho : o.op = .call { callee := .builtin .append, args := #[s, x], argTypes := #[t, t] })
  (ht : P.underlying t = some (.slice e)) (hinfo : (P.info? e).map (fun i => (i.zero, i.size, i.bytes)) = some (some z, size, bytes)) (hz : z.cells.size = size) (hs0 : 0 < size)
  (v : Value) (n : Nat) (xs ys : List Value) (hs : a.eval s = v) (hx : a.eval x = .slice (some ⟨W.heap.size, 0, none⟩) 1 1) (hys : ys.length = size) (h1 : ∀ u ∈ ys, u.oneCell' = true)
  (HO : Row W b e size v n xs) (hbase : b ≤ W.heap.size) (hm : n + 1 ≤ maxLen) (hl : (n + 1) * bytes ≤ 140737488355328)
  (h : ∀ v1 w1, Row w1 b e size v1 (n + 1) (xs ++ ys) → W.grownBy w1 v.ownBlock → (v1.ownBlock = v.ownBlock ∨ v1.ownBlock = some (W.heap.size + 1)) → v1.ownBlock ≠ none → K (a.put o.dst v1) w1) :
  if Region.wanted o (yielded ops a.tmps) = true then Oper.wp P o a (W.alloc (.cells ys.toArray e)) K Q else K (a.put o.dst undef) (W.alloc (.cells ys.toArray e)) := by
 obtain ⟨i0, hi, hzz⟩ := Option.map_eq_some_iff.1 hinfo
 simp only [Prod.mk.injEq] at hzz
 obtain ⟨hz0, hz1, hz2⟩ := hzz
 rw [if_pos hw]
 obtain ⟨v', w', hr, h2, h3, h4, h5, h6⟩ := zko (P := P) (W := W.alloc (.cells ys.toArray e)) b t o.type e i0 z size bytes ht hi hz0 hz1 hz2 hz hs0 v n xs (HO.alloc _) ⟨W.heap.size, 0, none⟩ 1 ys hys
  (by simpa using World.news_of_block (cs := ys.toArray) (t := e) (fr := (0, 0)) (heap_alloc_new W (.cells ys.toArray e))) h1 hm hl (by simp; omega)
 unfold Oper.wp execOp
 simp only [ho, resolve, invoke, builtin, Sem.run_bind, Sem.run_pure, Result.andThen_ok, List.map_toArray, List.map_cons, List.map_nil, hs, hx, hr]
 refine h v' w' h2 (World.grownBy.trans (World.grownBy_alloc W _ _) h3) ?_ h5
 rcases h4 with h4 | h4
 ·exact .inl h4
 ·exact .inr (by simpa using h4)
end
end Go.Proofs.YtjeekocidaogoaaGreatDoor.Hand
end

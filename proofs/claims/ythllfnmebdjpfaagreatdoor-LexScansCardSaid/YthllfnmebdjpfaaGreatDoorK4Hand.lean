/- Contracts, in the printed form, of the library functions and array functions that the print leaves out: strings.Fields, ContainsRune, ContainsAny, Cut. -/
import Derived.Test.YthllfnmebdjpfaaGreatDoorK4Inv
import Derived.Test.YthllfnmebdjpfaaGreatDoorK4WWords
import Derived.Test.YthllfnmebdjpfaaGreatDoorK4WLast
import Derived.Test.YthllfnmebdjpfaaGreatDoorK4WMore
import Derived.WalkKit
import Derived.KernelRfl
import Derived.Deep.LoopGhost
import Derived.Deep.QuietTactic
import Derived.BigQuiet
namespace Go.Proofs.YthllfnmebdjpfaaGreatDoor.Hand
open Go.RowKit Go.Proofs.YthllfnmebdjpfaaGreatDoorW.PrintWords Go.Proofs.YthllfnmebdjpfaaGreatDoorW.PrintLast Go.Proofs.YthllfnmebdjpfaaGreatDoorW.PrintMore
set_option linter.unusedVariables false
set_option linter.unusedSimpArgs false

/-- A text as a string. -/
def toS (l : List UInt8) : ByteArray := ⟨l.toArray⟩

theorem one_reps (w : World) (base : Nat) (ok : Nat → Prop) (xs : List ByteArray) : Reps (Kd.string.M w base ok) Kd.string.sz xs (xs.map Value.string) := by
  refine ⟨by simp [Kd.string, Kd.scalar], fun j p hj => ?_⟩
  have hs : Kd.string.sz = 1 := rfl
  rw [hs, Nat.mul_one]
  show _ = _
  have hj' := (List.getElem?_eq_some_iff.1 hj)
  obtain ⟨hlt, rfl⟩ := hj'
  rw [List.take_one, List.head?_drop, List.getElem?_map, hj]
  rfl

/-- A fresh block of strings is an own row. -/
theorem R_strs (w : World) (xs : List ByteArray) (hm : xs.length ≤ maxLen) : Kd.R Kd.string 9 (w.alloc (.cells (xs.map Value.string).toArray 9)) w.heap.size (fun _ => True) (.slice (some ⟨w.heap.size, 0, none⟩) xs.length xs.length) xs := by
  refine ⟨fun _ _ => trivial, xs.map Value.string, ⟨by simp [Kd.string, Kd.scalar], .inr ⟨w.heap.size, xs.length, (xs.map Value.string).toArray, rfl, Nat.le_refl _, Array.getElem?_push_size, Nat.le_refl _, hm, by simp [Kd.string, Kd.scalar], by simp [Kd.string, Kd.scalar, List.take_of_length_le]⟩⟩, one_reps _ _ _ _⟩

def strings_Fields.f (a0 : ByteArray) : Option (List ByteArray) :=
  if a0.size < 4294967281 ∧ a0.data.toList.all (fun b => decide (b.toNat < 128)) = true ∧ (Lib.fields a0.data.toList).length ≤ 9223372036854775807 then some ((Lib.fields a0.data.toList).map toS) else none

theorem strings_Fields.calls (a0 : ByteArray) (r : List ByteArray) (w : World) (hInv : Inv w) (h : strings_Fields.f a0 = some r) :
    Calls Tryz.prog 18 #[.string a0] w fun e w' => ∃ v0_ : Value, e = .returned (v0_) ∧ Kd.R Kd.string 9 w' w.heap.size (fun _ => True) v0_ r ∧ Below w.heap.size w w' := by
  unfold strings_Fields.f at h
  split at h
  · rename_i hc
    obtain ⟨h1, h2, h3⟩ := hc
    obtain rfl := Option.some.inj h
    refine (Tryz.strings_Fields_laid a0 w h1 (fun j b hj => ?_) hInv.space).mono ?_
    · have := List.all_eq_true.1 h2 b (List.mem_of_getElem? hj)
      exact of_decide_eq_true this
    · rintro e w' ⟨rfl, rfl⟩
      refine ⟨_, rfl, ?_, (Below.refl _ _).alloc (Nat.le_refl _) _⟩
      have hr := R_strs w ((Lib.fields a0.data.toList).map toS) (by rw [List.length_map]; exact h3)
      rw [List.length_map, List.map_map] at hr
      exact hr
  · cases h

def strings_ContainsAny.f (a0 a1 : ByteArray) : Option Bool :=
  if a0.size < 4294967281 ∧ a1.size < 4294967281 ∧ a0.data.toList.all (fun b => decide (b.toNat < 128)) = true ∧ a1.data.toList.all (fun b => decide (b.toNat < 128)) = true then some (Lib.containsAny a0.data.toList a1.data.toList) else none

theorem strings_ContainsAny.calls (a0 a1 : ByteArray) (r : Bool) (w : World) (h : strings_ContainsAny.f a0 a1 = some r) :
    Calls Tryz.prog 36 #[.string a0, .string a1] w fun e w' => e = .returned (.bool r) ∧ Below w.heap.size w w' := by
  unfold strings_ContainsAny.f at h
  split at h
  · rename_i hc
    obtain ⟨h1, h2, h3, h4⟩ := hc
    obtain rfl := Option.some.inj h
    exact Tryz.strings_ContainsAny_laid a0 a1 w h1 h2 (fun j b hj => of_decide_eq_true (List.all_eq_true.1 h3 b (List.mem_of_getElem? hj))) (fun j b hj => of_decide_eq_true (List.all_eq_true.1 h4 b (List.mem_of_getElem? hj)))
  · cases h

def strings_Cut.f (a0 a1 : ByteArray) : Option (ByteArray × ByteArray × Bool) :=
  if a0.size < 4294967281 then some (toS (Lib.cut a0.data.toList a1.data.toList).1, toS (Lib.cut a0.data.toList a1.data.toList).2.1, (Lib.cut a0.data.toList a1.data.toList).2.2) else none

theorem strings_Cut.calls (a0 a1 : ByteArray) (r1 r2 : ByteArray) (r3 : Bool) (w : World) (hInv : Inv w) (h : strings_Cut.f a0 a1 = some (r1, r2, r3)) :
    Calls Tryz.prog 47 #[.string a0, .string a1] w fun e w' => e = .returned (.tuple #[.string r1, .string r2, .bool r3]) ∧ Below w.heap.size w w' := by
  unfold strings_Cut.f at h
  split at h
  · rename_i h1
    simp only [Option.some.injEq, Prod.mk.injEq] at h
    obtain ⟨rfl, rfl, rfl⟩ := h
    obtain ⟨m, hm⟩ := hInv.maxLen
    refine (Tryz.strings_Cut a0 a1 m w h1 hm).mono ?_
    rintro e w' ⟨rfl, n, rfl⟩
    exact ⟨rfl, ⟨rfl, rfl, rfl, Nat.le_refl _, fun _ _ => rfl⟩⟩
  · cases h

end Go.Proofs.YthllfnmebdjpfaaGreatDoor.Hand

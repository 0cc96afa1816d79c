/- Contracts, in the printed form, of the library functions and array functions that the print leaves out: strings.Fields, ContainsRune, ContainsAny, Cut. -/
import Derived.Test.YthllfnmebdjpfaaDoorK3Inv
import Derived.Test.YthllfnmebdjpfaaDoorK3WWords
import Derived.Test.YthllfnmebdjpfaaDoorK3WLast
import Derived.Test.YthllfnmebdjpfaaDoorK3WMore
import Derived.WalkKit
import Derived.KernelRfl
import Derived.Deep.LoopGhost
import Derived.Deep.QuietTactic
import Derived.BigQuiet
namespace Go.Proofs.YthllfnmebdjpfaaDoor.Hand
open Go.RowKit Go.Proofs.YthllfnmebdjpfaaDoorW.PrintWords Go.Proofs.YthllfnmebdjpfaaDoorW.PrintLast Go.Proofs.YthllfnmebdjpfaaDoorW.PrintMore
set_option linter.unusedVariables false
set_option linter.unusedSimpArgs false

/-- A text as a string. -/
def toS (l : List UInt8) : ByteArray := ⟨l.toArray⟩

theorem one_reps (w : World) (base : Nat) (ok : Nat → Prop) (xs : List ByteArray) : Reps (Kd.string.M w base ok) Kd.string.sz xs (xs.map Value.string) := by
  refine ⟨by simp [Kd.string, Kd.scalar], fun j p hj => ?_⟩
  have hs : Kd.string.sz = 1 := rfl
  rw [hs, Nat.mul_one]
  show _ = _
  have hj' := (List.getElem?_eq_some_iff.1 hj)
  obtain ⟨hlt, rfl⟩ := hj'
  rw [List.take_one, List.head?_drop, List.getElem?_map, hj]
  rfl

/-- A fresh block of strings is an own row. -/
theorem R_strs (w : World) (xs : List ByteArray) (hm : xs.length ≤ maxLen) : Kd.R Kd.string 9 (w.alloc (.cells (xs.map Value.string).toArray 9)) w.heap.size (fun _ => True) (.slice (some ⟨w.heap.size, 0, none⟩) xs.length xs.length) xs := by
  refine ⟨fun _ _ => trivial, xs.map Value.string, ⟨by simp [Kd.string, Kd.scalar], .inr ⟨w.heap.size, xs.length, (xs.map Value.string).toArray, rfl, Nat.le_refl _, Array.getElem?_push_size, Nat.le_refl _, hm, by simp [Kd.string, Kd.scalar], by simp [Kd.string, Kd.scalar, List.take_of_length_le]⟩⟩, one_reps _ _ _ _⟩

def strings_Fields.f (a0 : ByteArray) : Option (List ByteArray) :=
  if a0.size < 4294967281 ∧ a0.data.toList.all (fun b => decide (b.toNat < 128)) = true ∧ (Lib.fields a0.data.toList).length ≤ 9223372036854775807 then some ((Lib.fields a0.data.toList).map toS) else none

theorem strings_Fields.calls (a0 : ByteArray) (r : List ByteArray) (w : World) (hInv : Inv w) (h : strings_Fields.f a0 = some r) :
    Calls Tryd.prog 17 #[.string a0] w fun e w' => ∃ v0_ : Value, e = .returned (v0_) ∧ Kd.R Kd.string 9 w' w.heap.size (fun _ => True) v0_ r ∧ Below w.heap.size w w' := by
  unfold strings_Fields.f at h
  split at h
  · rename_i hc
    obtain ⟨h1, h2, h3⟩ := hc
    obtain rfl := Option.some.inj h
    refine (Tryd.strings_Fields_laid a0 w h1 (fun j b hj => ?_) hInv.space).mono ?_
    · have := List.all_eq_true.1 h2 b (List.mem_of_getElem? hj)
      exact of_decide_eq_true this
    · rintro e w' ⟨rfl, rfl⟩
      refine ⟨_, rfl, ?_, (Below.refl _ _).alloc (Nat.le_refl _) _⟩
      have hr := R_strs w ((Lib.fields a0.data.toList).map toS) (by rw [List.length_map]; exact h3)
      rw [List.length_map, List.map_map] at hr
      exact hr
  · cases h

def strings_ContainsAny.f (a0 a1 : ByteArray) : Option Bool :=
  if a0.size < 4294967281 ∧ a1.size < 4294967281 ∧ a0.data.toList.all (fun b => decide (b.toNat < 128)) = true ∧ a1.data.toList.all (fun b => decide (b.toNat < 128)) = true then some (Lib.containsAny a0.data.toList a1.data.toList) else none

theorem strings_ContainsAny.calls (a0 a1 : ByteArray) (r : Bool) (w : World) (h : strings_ContainsAny.f a0 a1 = some r) :
    Calls Tryd.prog 40 #[.string a0, .string a1] w fun e w' => e = .returned (.bool r) ∧ Below w.heap.size w w' := by
  unfold strings_ContainsAny.f at h
  split at h
  · rename_i hc
    obtain ⟨h1, h2, h3, h4⟩ := hc
    obtain rfl := Option.some.inj h
    exact Tryd.strings_ContainsAny_laid a0 a1 w h1 h2 (fun j b hj => of_decide_eq_true (List.all_eq_true.1 h3 b (List.mem_of_getElem? hj))) (fun j b hj => of_decide_eq_true (List.all_eq_true.1 h4 b (List.mem_of_getElem? hj)))
  · cases h

def strings_Cut.f (a0 a1 : ByteArray) : Option (ByteArray × ByteArray × Bool) :=
  if a0.size < 4294967281 then some (toS (Lib.cut a0.data.toList a1.data.toList).1, toS (Lib.cut a0.data.toList a1.data.toList).2.1, (Lib.cut a0.data.toList a1.data.toList).2.2) else none

theorem strings_Cut.calls (a0 a1 : ByteArray) (r1 r2 : ByteArray) (r3 : Bool) (w : World) (hInv : Inv w) (h : strings_Cut.f a0 a1 = some (r1, r2, r3)) :
    Calls Tryd.prog 51 #[.string a0, .string a1] w fun e w' => e = .returned (.tuple #[.string r1, .string r2, .bool r3]) ∧ Below w.heap.size w w' := by
  unfold strings_Cut.f at h
  split at h
  · rename_i h1
    simp only [Option.some.injEq, Prod.mk.injEq] at h
    obtain ⟨rfl, rfl, rfl⟩ := h
    obtain ⟨m, hm⟩ := hInv.maxLen
    refine (Tryd.strings_Cut a0 a1 m w h1 hm).mono ?_
    rintro e w' ⟨rfl, n, rfl⟩
    exact ⟨rfl, ⟨rfl, rfl, rfl, Nat.le_refl _, fun _ _ => rfl⟩⟩
  · cases h

section
variable {P : Program} {ops : Array Oper} {o : Oper} {a : Act} {Q : Exit → Act → World → Prop} {K : Act → World → Prop}
/-- append([]byte, s...), s a string, as one step of a region. -/
theorem print_append_str_step {w0 W : World} (base : Nat) (hw : Region.wanted o (yielded ops a.tmps) = true) (s x : Operand) (t u e : TypeId)
    (ho : o.op = .call { callee := .builtin .append, args := #[s, x], argTypes := #[t, u] })
    (ht : P.underlying t = some (.slice e)) (hu : P.underlying u = some .string) (hinfo : (P.info? e).map (fun i => (i.zero, i.size, i.bytes)) = some (some (.int .u8 0), 1, 1))
    (v : Value) (xs : List Int) (y : ByteArray) (hs : a.eval s = v) (hx : a.eval x = .string y)
    (HO : W.ownsRow base e 1 v xs.length (nums .u8 xs)) (HB : Below base w0 W) (hbase : base ≤ W.heap.size) (hl : xs.length + y.size ≤ 140737488355328)
    (h : ∀ v1 w1, w1.ownsRow base e 1 v1 (xs ++ bytesOf y).length (nums .u8 (xs ++ bytesOf y)) → Below base w0 w1 → W.grownBy w1 v.ownBlock → K (a.put o.dst v1) w1) :
    if Region.wanted o (yielded ops a.tmps) = true then Oper.wp P o a W K Q else K (a.put o.dst undef) W := by
  obtain ⟨i0, hi, hzz⟩ := Option.map_eq_some_iff.1 hinfo
  simp only [Prod.mk.injEq] at hzz
  obtain ⟨hz0, hz1, hz2⟩ := hzz
  rw [if_pos hw]
  obtain ⟨v1, w1, hr, hown, hg, _⟩ := Lib.run_append_own_string (P := P) W base t u o.type e i0 ht hu hi hz0 hz1 hz2 v xs.length (nums .u8 xs) HO y (by simp only [maxLen]; omega) hl hbase
  unfold Oper.wp execOp
  simp only [ho, resolve, invoke, builtin, Sem.run_bind, Sem.run_pure, Result.andThen_ok, List.map_toArray, List.map_cons, List.map_nil, hs, hx, hr]
  have hl2 : (xs ++ bytesOf y).length = xs.length + y.size := by rw [List.length_append, bytesOf_length]
  have hc : nums .u8 (xs ++ bytesOf y) = nums .u8 xs ++ Lib.strCells y := by
    rw [nums_append]
    congr 1
    simp [nums, bytesOf, Lib.strCells]
  exact h v1 w1 (by rw [hl2, hc]; exact hown) (HB.grown hg hbase (own_base HO)) hg
end
end Go.Proofs.YthllfnmebdjpfaaDoor.Hand

/- strings.ContainsRune of an ASCII text, at every rune: is the rune one of its bytes? -/
import Derived.Test.YthllfnmebdjpfaaGreatDoorK4Hand
import Derived.Laws.Runes
import Derived.Laws.RangeAny
import Derived.Laws.RangeString
import Derived.LoopTactic
import Derived.Deep.QuietTactic
import Derived.BigQuiet
namespace Go.Proofs.YthllfnmebdjpfaaGreatDoor.Hand
open Go.RowKit Go.Proofs.YthllfnmebdjpfaaGreatDoorW.PrintWords Go.Proofs.YthllfnmebdjpfaaGreatDoorW.PrintLast Go.Proofs.YthllfnmebdjpfaaGreatDoorW.PrintMore
set_option linter.unusedVariables false
set_option linter.unusedSimpArgs false

def Ascii (s : ByteArray) : Prop := ∀ (j : Nat) (h : j < s.size), (s[j]'h).toNat < 128

theorem ascii_mem {s : ByteArray} (h : Ascii s) : ∀ b ∈ s.data.toList, b.toNat < 128 := by
  intro b hb
  obtain ⟨j, hj, rfl⟩ := List.getElem_of_mem hb
  exact h j (by simpa using hj)

set_option maxRecDepth 100000 in
set_option maxHeartbeats 400000 in
theorem index_err (s : ByteArray) (w : World) (hs : Ascii s) (hz : s.size ≤ maxLen) :
    Calls Tryz.prog 44 #[.string s, .int .i32 65533] w fun e w' => e = .returned (.int .i64 (-1)) ∧ Below w.heap.size w w' := by
  have HS := Lib.hid hs
  clear hs
  go_enter Tryz.func44, Tryz.ntmps44
  go_wp2
  go_loopw [5] (fun _ w' => ∃ pos : Nat, w' = w.iter s pos) (fun _ w' => s.size - w'.iterPos w.heap.size)
  case atStart => exact ⟨0, rfl⟩
  case round =>
    obtain ⟨pos, rfl⟩ := hrel
    by_cases hp : pos < s.size
    · have ha := HS.out pos hp
      have hnx : ∀ ty, (Instr.next (.pointer (some ⟨w.heap.size, 0, none⟩)) true ty).run Tryz.prog (w.iter s pos) = _ := fun ty => run_next_ascii w s pos ty hp ha
      go_wp2
      go_roundw
      case rel => exact ⟨pos + 1, rfl⟩
      case measure => simp; omega
    · have hnx : ∀ ty, (Instr.next (.pointer (some ⟨w.heap.size, 0, none⟩)) true ty).run Tryz.prog (w.iter s pos) = _ := fun ty => run_next_end w s pos ty hp
      go_wp2
      go_ret
      exact ⟨rfl, (Below.refl _ _).alloc (Nat.le_refl _) _⟩

set_option maxRecDepth 100000 in
set_option maxHeartbeats 400000 in
theorem index_invalid (s : ByteArray) (r : Int) (w : World) (h0 : ¬ (0 ≤ r ∧ r < 128)) (h1 : (r == 65533) = false) (h2 : Lib.validRune r = false) :
    Calls Tryz.prog 44 #[.string s, .int .i32 r] w fun e w' => e = .returned (.int .i64 (-1)) ∧ Below w.heap.size w w' := by
  by_cases h3 : 0 ≤ r
  all_goals
    have h4 : decide (r < 128) = false ∨ ¬ 0 ≤ r := by by_cases h : 0 ≤ r; exact .inl (decide_eq_false (by omega)); exact .inr h
    clear h0
    go_enter Tryz.func44, Tryz.ntmps44
    first
    | (have h5 : decide (r < 128) = false := h4.resolve_right (fun h => h h3))
    | skip
    clear h4
    go_wp2_with (go_at_call 59; refine (Tryz.utf8_ValidRune _ _).mono ?_; rintro e w' ⟨rfl, hw⟩; rw [hw]; rw [h2])
    go_ret
    exact ⟨rfl, Below.refl _ _⟩
set_option maxRecDepth 100000 in
set_option maxHeartbeats 400000 in
theorem index_valid (s : ByteArray) (r : Int) (w : World) (hs : Ascii s) (h0 : 128 ≤ r) (h1 : (r == 65533) = false) (h2 : Lib.validRune r = true) :
    Calls Tryz.prog 44 #[.string s, .int .i32 r] w fun e w' => e = .returned (.int .i64 (-1)) ∧ Below w.heap.size w w' := by
  obtain ⟨e1, e2, e3⟩ := encode_facts r (by rw [validRune_eq]; exact h2) h0
  have hh : decide (r < 128) = false := decide_eq_false (by omega)
  have hp : decide (0 ≤ r) = true := decide_eq_true (by omega)
  generalize hE : Utf8.encode r = E at e1 e2 e3
  have hcv : ∀ w, (convert 21 9 (.int .i32 r)).run Tryz.prog w = .ok (.string E) w := fun w => by rw [run_convert_int_string w 21 9 .i32 r (by rw [Tryz.underlying21]; rfl) Tryz.underlying9, hE]
  have HS := Lib.hid hs
  have H3 := Lib.hid e3
  clear hE hs e3
  go_enter Tryz.func44, Tryz.ntmps44
  go_wp2_with (go_at_call 59; refine (Tryz.utf8_ValidRune _ _).mono ?_; rintro e w' ⟨rfl, hw⟩; rw [hw]; rw [h2])
  go_step3
  go_wp2
  have q0 : (0 : Int) ≤ (E.size : Int) - 1 := by omega
  have q2 : (1 : Int) ≤ (E.size : Int) := by omega
  have q1 : (E.size : Int) - 1 < (E.size : Int) := by omega
  by_cases hi : (E.size : Int) - 1 < (s.size : Int)
  · have hj : E.size - 1 < s.size := by omega
    have hk : E.size - 1 < E.size := by omega
    have b1 := HS.out (E.size - 1) hj
    have b2 := H3.out hk
    have hne : (((s[E.size - 1]'hj).toNat : Int) == ((E[E.size - 1]'hk).toNat : Int)) = false := beq_eq_false_iff_ne.2 (by omega)
    have hne' : (((s[E.size - 1]'hj).toNat : Int) != ((E[E.size - 1]'hk).toNat : Int)) = true := by rw [bne_iff_ne]; omega
    refine wp_loop_rounds 1 ?_
    rw [rounds_succ]
    go_wp2
    go_step3
    go_wp2
    go_quiet (fail)
    go_wp2
    have z0 : IntKind.i64.wrap ((E.size : Int) - 1 + 1) = (E.size : Int) := by rw [Int.sub_add_cancel]; exact wrap_small _ (by omega) (by omega)
    have z1 : (0 : Int) ≤ (E.size : Int) := by omega
    have z2 : (E.size : Int) ≤ (s.size : Int) := by omega
    have z3 : ((E.size : Int)).toNat = E.size := by omega
    have hB : Below w.heap.size w (w.drewN nq) := ⟨rfl, rfl, rfl, Nat.le_refl _, fun _ _ => rfl⟩
    generalize w.drewN nq = W1 at hB
    have HB := Lib.hid hB
    clear hB
    go_quiet ((go_at_call 58; exact Calls.quiet_of_same (Tryz.strings_IndexByte _ _ _)))
    clear z0 z1 z2
    have hn : Lib.indexByte (s.extract E.size s.size).data.toList ((((E[E.size - 1]'hk).toNat : Int)).toNat.toUInt8) = -1 := by
      rw [← Lib.firstIdx_eq]
      refine firstIdx_ascii s _ _ _ (ascii_mem HS.out) ?_
      rw [Int.toNat_natCast]
      simpa using b2
    have hn' : decide (Lib.indexByte (s.extract E.size s.size).data.toList ((((E[E.size - 1]'hk).toNat : Int)).toNat.toUInt8) < 0) = true := by rw [hn]; rfl
    rw [hn]
    clear hn hn'
    go_wp2
    rw [Exit.noGoto_ret]
    go_wp2
    rw [Exit.noGoto_ret]
    go_wp2
    go_ret
    exact ⟨rfl, HB.out.trans ⟨rfl, rfl, rfl, Nat.le_refl _, fun _ _ => rfl⟩⟩
  · refine wp_loop_rounds 1 ?_
    rw [rounds_succ]
    go_wp2
    go_ret
    exact ⟨rfl, Below.refl _ _⟩

/-- Is the rune one of an ASCII text's bytes? -/
def strings_ContainsRune.f (a0 : ByteArray) (a1 : Int) : Option Bool :=
  if a0.data.toList.all (fun b => decide (b.toNat < 128)) = true ∧ a0.size ≤ maxLen then some (decide (0 ≤ a1 ∧ a1 < 128 ∧ 0 ≤ Lib.indexByte a0.data.toList a1.toNat.toUInt8)) else none

theorem contains_high (s : ByteArray) (r : Int) (w : World) (hr : ¬ (0 ≤ r ∧ r < 128)) (hs : Ascii s) (hz : s.size ≤ maxLen) :
    Calls Tryz.prog 44 #[.string s, .int .i32 r] w fun e w' => e = .returned (.int .i64 (-1)) ∧ Below w.heap.size w w' := by
  by_cases h1 : r = 65533
  · subst h1; exact index_err s w hs hz
  · cases hv : Lib.validRune r with
    | false => exact index_invalid s r w hr (beq_eq_false_iff_ne.2 h1) hv
    | true =>
      refine index_valid s r w hs ?_ (beq_eq_false_iff_ne.2 h1) hv
      by_cases h0 : 0 ≤ r
      · omega
      · exfalso
        have hv' : Lib.validRune r = false := by unfold Lib.validRune; simp; omega
        rw [hv'] at hv; cases hv

set_option maxHeartbeats 400000 in
theorem strings_ContainsRune.calls (a0 : ByteArray) (a1 : Int) (r : Bool) (w : World) (h : strings_ContainsRune.f a0 a1 = some r) :
    Calls Tryz.prog 28 #[.string a0, .int .i32 a1] w fun e w' => e = .returned (.bool r) ∧ Below w.heap.size w w' := by
  unfold strings_ContainsRune.f at h
  split at h
  · rename_i hc
    obtain ⟨h1, h2⟩ := hc
    have hs : Ascii a0 := fun j hj => of_decide_eq_true (List.all_eq_true.1 h1 _ (Array.getElem_mem_toList (xs := a0.data) (i := j) hj))
    obtain rfl := Option.some.inj h
    by_cases hr : 0 ≤ a1 ∧ a1 < 128
    · refine (Tryz.strings_ContainsRune_ascii a0 a1 w hr.1 hr.2).mono ?_
      rintro e w' ⟨rfl, rfl⟩
      exact ⟨by simp [hr.1, hr.2], Below.refl _ _⟩
    · have e0 : decide (0 ≤ a1 ∧ a1 < 128 ∧ 0 ≤ Lib.indexByte a0.data.toList a1.toNat.toUInt8) = false := decide_eq_false (fun hh => hr ⟨hh.1, hh.2.1⟩)
      rw [e0]
      have HC := Lib.hid (fun w => contains_high a0 a1 w hr hs h2)
      clear e0 hr hs h1 h2 h
      go_enter Tryz.func28, Tryz.ntmps28
      go_wp2_with (go_at_call 44; refine (HC.out _).mono ?_; rintro e w' ⟨rfl, hb⟩)
      go_ret
      exact ⟨rfl, hb⟩
  · cases h
end Go.Proofs.YthllfnmebdjpfaaGreatDoor.Hand

/- Contracts of Go functions as plain Lean functions, written by a program of this session (wip/hand) out of the translation. -/
import Derived.Test.YtjeekocidaogoaaGreatDoorK5Src
import Derived.Test.YtjeekocidaogoaaGreatDoorK5Hx3
set_option linter.unusedVariables false
set_option linter.unusedSimpArgs false
set_option maxRecDepth 100000
set_option maxHeartbeats 8000000
namespace Go.Proofs.YtjeekocidaogoaaGreatDoor.H
open Go.RowKit Go.Proofs.YtjeekocidaogoaaGreatDoor.Hand Go.Proofs.YtjeekocidaogoaaGreatDoorW.PrintWords Go.Proofs.YtjeekocidaogoaaGreatDoorW.PrintLast Go.Proofs.YtjeekocidaogoaaGreatDoorW.PrintMore
section
attribute [local go_sem] zdq zdo zeg zef zcw zcv zdp zdn
def lex_run.go (a0 : Int) (s : ByteArray) : Nat → Nat → Option Int
 | 0, _ => none
 | n + 1, pos => if pos < s.size then (if 0 < pos then (lex_goesOn.f a0 ((Utf8.decode s pos).1 : Int)).bind fun b => (if b = true then lex_run.go a0 s n (pos + (Utf8.decode s pos).2) else some (pos : Int)) else lex_run.go a0 s n (pos + (Utf8.decode s pos).2)) else some (s.size : Int)
def lex_run.f (a0 : Int) (a1 : ByteArray) : Option Int := if a1.size ≤ 9223372036854775807 then lex_run.go a0 a1 (a1.size + 1) 0 else none
theorem lex_run.width (s : ByteArray) (pos : Nat) (h : pos < s.size) : 1 ≤ (Utf8.decode s pos).2 := by
 by_cases ha : (s[pos]'h).toNat < 128
 ·rw [decode_ascii s pos h ha]
  exact Nat.le_refl _
 ·exact (decode_high s pos h (by omega)).2
theorem lex_run.calls (a0 : Int) (a1 : ByteArray) (r : Int) (w : World) (h : lex_run.f a0 a1 = some r) :
  Calls Tryz.prog 62 #[.int .i64 a0, .string a1] w fun e w' => e = .returned (.int .i64 r) ∧ Below w.heap.size w w' := by
 unfold lex_run.f at h
 split at h
 ·rename_i hz
  have HZ := Zq.mk hz
  clear hz
  have H0 := Zq.mk h
  clear h
  go_enter Tryz.func62, Tryz.ntmps62
  go_wp2
  have hI0 : (w.iter a1 0).heap[w.heap.size]? = some (.stringIter a1 0) := World.iter_heap w a1 0
  have hB0 : Below w.heap.size w (w.iter a1 0) := (Below.refl _ _).alloc (Nat.le_refl _) _
  generalize w.iter a1 0 = W0 at hI0 hB0
  have HI0 := Zq.mk hI0
  have HB0 := Zq.mk hB0
  clear hI0 hB0
  go_loopg [5] (a1.size + 1) (fun n v5 w' => ∃ (pos : Nat), Zq (lex_run.go a0 a1 n pos = some r) ∧ Zq (w'.heap[w.heap.size]? = some (.stringIter a1 pos)) ∧ Zq (Below w.heap.size w w'))
  case atStart => exact ⟨0, H0, HI0, HB0⟩
  case round =>
   obtain ⟨pos, HG, HI, HB⟩ := hrel
   clear H0 HI0 HB0
   cases gk with
   | zero => exact absurd HG.out (by simp [lex_run.go])
   | succ n =>
    have hg := HG.out
    clear HG
    rw [lex_run.go] at hg
    by_cases hp : pos < a1.size
    ·rw [if_pos hp] at hg
     have hnx := fun ty => Lib.run_next_any_at (P := Tryz.prog) _ w.heap.size a1 pos ty HI.out hp
     have hI1 := Lib.iterAt_heap _ w.heap.size a1 pos (pos + (Utf8.decode a1 pos).2) HI.out
     have hB1 := Lib.below_iterAt HB.out (Nat.le_refl w.heap.size) a1 (pos + (Utf8.decode a1 pos).2)
     generalize (Utf8.decode a1 pos).2 = wd at hg hnx hI1 hB1
     generalize (Utf8.decode a1 pos).1 = c at hg hnx
     generalize World.iterAt _ w.heap.size a1 (pos + wd) = W1 at hnx hI1 hB1
     have HI1 := Zq.mk hI1
     have HB1 := Zq.mk hB1
     clear hI1 hB1 HI HB
     by_cases h0 : 0 < pos
     ·rw [if_pos h0] at hg
      obtain ⟨b, hb, hg1⟩ := Option.bind_eq_some_iff.1 hg
      have HC := Zq.mk hb
      have HG1 := Zq.mk hg1
      clear hg hb hg1
      have h0' : (0 : Int) < (pos : Int) := by omega
      cases b with
      | true =>
       go_wp2_with (go_at_call 96; refine (lex_goesOn.calls a0 c true _ HC.out).mono ?_; rintro e w2 ⟨rfl, hb⟩)
       go_roundg n
       case rel => exact ⟨pos + wd, ⟨(if_pos trivial).symm.trans HG1.out⟩, ⟨zaq HI1.out hb⟩, ⟨HB1.out.trans (hb.mono HB1.out.size)⟩⟩
       case measure => omega
      | false =>
       go_wp2_with (go_at_call 96; refine (lex_goesOn.calls a0 c false _ HC.out).mono ?_; rintro e w2 ⟨rfl, hb⟩)
       have hr := HG1.out
       rw [if_neg (by decide)] at hr
       obtain rfl := Option.some.inj hr
       go_ret
       exact ⟨rfl, HB1.out.trans (hb.mono HB1.out.size)⟩
     ·rw [if_neg h0] at hg
      have HG1 := Zq.mk hg
      clear hg
      have h0' : ¬ (0 : Int) < (pos : Int) := by omega
      go_wp2
      go_roundg n
      case rel => exact ⟨pos + wd, HG1, HI1, HB1⟩
      case measure => omega
    ·rw [if_neg hp] at hg
     obtain rfl := Option.some.inj hg
     clear hg
     have hnx := fun ty => Lib.run_next_end_at (P := Tryz.prog) _ w.heap.size a1 pos ty HI.out hp
     have hz := HZ.out
     go_wp2
     go_ret
     exact ⟨rfl, HB.out⟩
 ·cases h
end
end Go.Proofs.YtjeekocidaogoaaGreatDoor.H

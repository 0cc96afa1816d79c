/- What the package-level variables of Go's library hold, as the library contracts ask it, and that it stays where no old block changes. -/
import Derived.Test.YthllfnmebdjpfaaGreatDoorK4Shelf
import Derived.WalkSmall
import Derived.Below
namespace Go.Proofs.YthllfnmebdjpfaaGreatDoor.Hand
open Go.RowKit

/-- The tables and errors of Go's library that the program reads. -/
structure Inv (w : World) : Prop where
  space : Lib.TabIs Tryz.prog w "strings.asciiSpace" .u8 Lib.asciiSpaceTab
  pow10 : Lib.TabIs Tryz.prog w "internal/strconv.uint64pow10" .u64 Lib.pow10Tab
  errS : ∃ tp p, w.var? Tryz.prog "strconv.ErrSyntax" = some #[.iface tp p]
  errR : ∃ tp p, w.var? Tryz.prog "strconv.ErrRange" = some #[.iface tp p]
  maxLen : ∃ m, w.cell? ⟨2, 0, none⟩ = some (.int .i64 m)

theorem var_lt {w : World} {n : String} {g : Nat} {cs : Array Value} (hg : Tryz.prog.globalNamed n = some g) (hv : w.var? Tryz.prog n = some cs) : g < w.heap.size := by
  unfold World.var? at hv
  simp only [hg, Option.bind_some] at hv
  cases hb : w.heap[g]? with
  | none => rw [hb] at hv; simp at hv
  | some o => exact (Array.getElem?_eq_some_iff.1 hb).1

theorem var_keep {w w' : World} {n : String} {g : Nat} {cs : Array Value} (hg : Tryz.prog.globalNamed n = some g) (hb : Below w.heap.size w w') (hv : w.var? Tryz.prog n = some cs) : w'.var? Tryz.prog n = some cs :=
  var?_below hb hg (var_lt hg hv) hv

theorem Inv.below {w w' : World} (h : Inv w) (hb : Below w.heap.size w w') : Inv w' where
  space := var_keep (g := 0) (by kernel_rfl) hb h.space
  pow10 := var_keep (g := 5) (by kernel_rfl) hb h.pow10
  errS := let ⟨tp, p, hp⟩ := h.errS; ⟨tp, p, var_keep (g := 3) (by kernel_rfl) hb hp⟩
  errR := let ⟨tp, p, hp⟩ := h.errR; ⟨tp, p, var_keep (g := 4) (by kernel_rfl) hb hp⟩
  maxLen := let ⟨m, hm⟩ := h.maxLen; ⟨m, by rw [hb.cell (World.block_lt_of_cell? _ _ hm)]; exact hm⟩

end Go.Proofs.YthllfnmebdjpfaaGreatDoor.Hand

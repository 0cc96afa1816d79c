/- What a row's condition on package-level variables gives: the library's tables and errors as the contracts ask them; the builder of a row whose world is shaped and laid. -/
import Derived.Test.YthllfnmebdjpfaaGreatDoorRows
import Derived.Test.YthllfnmebdjpfaaGreatDoorK4Inv
import Derived.ProofKit
import Derived.SizedLaws
import Derived.HandedShaped
import Derived.LaidMore
import Derived.Lay
import Derived.Lib.LaidTab
import Derived.Lib.LaidU8
import Derived.Stop.LaidErr
namespace Go.Proofs.YthllfnmebdjpfaaGreatDoor.Hand
open Go.RowKit

section
variable {H : Type} {enc : TypeId × Value → H}
/-- As the library's builder for a listed row, and the shape of the world with it. -/
theorem handed_shaped {a : Assume} {C : Checked} {os : Os} {f : FuncId} {fn : Func} {s : ChangeSpec} {conds : List PathCond} {apart fresh handsOn again : Bool} {X : World → Array Value → Prop}
    (hX : ∀ (w w' : World) (args : Array Value), w.heap = w'.heap → X w args → X w' args)
    (own : ownKnob C.prog.godebug = none) (started : os.Started) (noInit : C.prog.inits.idxOf? f = none) (hfn : C.prog.funcs[f]? = some fn)
    (witness : ∃ (w : World) (tape : Tape) (i : Input), w.os = os ∧ (w.forCall tape i).Shaped C.prog ∧ i.vars = [] ∧ Input.okWide C.prog (w.forCall tape i) .any w.heap.size f i ∧
      ((s.pre enc C.prog fn conds apart (w.forCall tape i).memory i.args ∧ X (w.forCall tape i).memory i.args) ∧ sizedMet enc C.prog fn (OpenSpec.ofChange s) apart (w.forCall tape i).memory i.args) ∧ a.holds C.prog (lone (Frame.enter C.prog f i.args .normal) [] (w.forCall tape i)))
    (contract : ∀ (W : World) (base : Nat) (args : Array Value) (ds gs : List (DataW H)) (before : List MemPlace),
      (∀ (j : Nat) t v, fn.params[j]? = some t → args[j]? = some v → Value.okWide C.prog W .any base t v) →
      DataW.Whole enc C.prog fn.params.toList s.vars apart W args.toList ds gs before →
      conds.all (PathCond.test C.prog ⟨fn.params.toList, ds, s.plain.varTypes C.prog, gs⟩) = true →
      (DataW.weightsEach C.prog (fn.params.toList ++ s.plain.varTypes C.prog) (ds ++ gs)).all (· ≤ reachBytes) = true → X W args → W.ShapedOpen C.prog →
      a.holds C.prog (lone (Frame.enter C.prog f args .normal) [] W) →
      Calls C.prog f args W fun e W' => ∃ v, e = .returned v ∧ s.post enc C.prog fn apart fresh handsOn again W args v W') :
    ReturnsInHanded a C os f .any (fun w args => (s.pre enc C.prog fn conds apart w args ∧ X w args) ∧ sizedMet enc C.prog fn (OpenSpec.ofChange s) apart w args) (s.post enc C.prog fn apart fresh handsOn again) := by
  refine returnsInHanded_of_calls own started noInit witness ?_
  intro w tape i _ hsh _ hok hpre hholds
  obtain ⟨_, _, _, fn', hfn', _, _, _, _, hval⟩ := hok
  have e : fn' = fn := Option.some.inj (hfn'.symm.trans hfn)
  subst e
  obtain ⟨⟨⟨ds, gs, before, hw, hc⟩, hx⟩, hz⟩ := hpre
  have hw' := DataW.Whole.of_heap (w' := w.forCall tape i) (by rfl) hw
  refine (contract (w.forCall tape i) w.heap.size i.args ds gs before hval hw' hc (hz.weights hw) (hX _ _ _ (by rfl) hx) hsh hholds).mono fun e W' ⟨v, he, hp⟩ => ?_
  subst he
  exact ChangeSpec.post_blind hp
end
/-- The variables that every row of the seat lists. -/
abbrev laidL : List (String × DataW Unit) := [("math/bits.deBruijn32tab", Rows.laid_math_bits_deBruijn32tab), ("math/bits.deBruijn64tab", Rows.laid_math_bits_deBruijn64tab), ("internal/strconv.uint64pow10", Rows.laid_internal_strconv_uint64pow10), ("unicode/utf8.acceptRanges", Rows.laid_unicode_utf8_acceptRanges), ("strconv.ErrRange", Rows.laid_strconv_ErrRange), ("strconv.ErrSyntax", Rows.laid_strconv_ErrSyntax), ("unicode.White_Space", Rows.laid_unicode_White_Space), ("strings.asciiSpace", Rows.laid_strings_asciiSpace), ("unicode/utf8.first", Rows.laid_unicode_utf8_first)]

theorem starS : ("*errors.errorString" : String) = "*" ++ "errors.errorString" := by decide
theorem row_err (u : TypeId) (h : Tryz.prog.typeName? 3 u = some "*errors.errorString") : u = 138 :=
  typeName_ptr_named (nm := "errors.errorString") (by rw [← starS]; kernel_rfl) (by kernel_rfl) (by decide) u (by rw [← starS]; exact h)

theorem tab_of {W : World} {name : String} {k : IntKind} {zs : List Int} {g : Nat} {t e : TypeId} {n : Nat} {d : DataW Unit}
    (hg : Tryz.prog.globalNamed name = some g) (hty : (Tryz.prog.globals[g]?).map (·.type) = some t) (ht : Tryz.prog.underlying t = some (.array n e)) (he : Tryz.prog.underlying e = some (.int k)) (hce : Tryz.prog.cellsOf e = 1) (hct : Tryz.prog.cellsOf t = n)
    (hd : d = Lib.tabData k zs) (h : laidMet Tryz.prog laidL W) (hm : (name, d) ∈ laidL) : Lib.TabIs Tryz.prog W name k zs := by
  obtain ⟨g', t', cs, fuel, p, hg', ht', hvar, hr⟩ := Lib.laidMet.reads h hm
  obtain rfl := Option.some.inj (hg.symm.trans hg')
  obtain rfl := Option.some.inj (hty.symm.trans ht')
  subst hd
  unfold Lib.TabIs
  rw [hvar, ← Lib.cells_of_tab ht he hce hct hr]

theorem inv_of_laid {W : World} (h : laidMet Tryz.prog laidL W) (hsh : W.ShapedOpen Tryz.prog) : Inv W where
  space := tab_of (g := 0) (by kernel_rfl) (by kernel_rfl) (t := 59) (n := 256) (by kernel_rfl) (e := 5) (by kernel_rfl) (by kernel_rfl) (by kernel_rfl) (d := Rows.laid_strings_asciiSpace) (by kernel_rfl) h (by simp [laidL])
  pow10 := tab_of (g := 5) (by kernel_rfl) (by kernel_rfl) (t := 142) (n := 20) (by kernel_rfl) (e := 123) (by kernel_rfl) (by kernel_rfl) (by kernel_rfl) (d := Rows.laid_internal_strconv_uint64pow10) (by kernel_rfl) h (by simp [laidL])
  errR := by
    obtain ⟨a, s, hv, _⟩ := laid_sentinel (g := 4) h.tail.tail.tail.tail (by kernel_rfl) (by kernel_rfl) (ti := 64) Tryz.underlying64 row_err (by kernel_rfl) (te := 140) Tryz.underlying140 rfl rfl (ts := 9) (by kernel_rfl) (by kernel_rfl) (by kernel_rfl)
    exact ⟨_, _, hv⟩
  errS := by
    obtain ⟨a, s, hv, _⟩ := laid_sentinel (g := 3) h.tail.tail.tail.tail.tail (by kernel_rfl) (by kernel_rfl) (ti := 64) Tryz.underlying64 row_err (by kernel_rfl) (te := 140) Tryz.underlying140 rfl rfl (ts := 9) (by kernel_rfl) (by kernel_rfl) (by kernel_rfl)
    exact ⟨_, _, hv⟩
  maxLen := Tryz.laysM145.s1_3 W hsh
end Go.Proofs.YthllfnmebdjpfaaGreatDoor.Hand

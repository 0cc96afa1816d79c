/- Contracts of Go functions as plain Lean functions, written by a program of this session (wip/hand) out of the translation. -/
import Derived.Test.YtjeekocidaogoaaGreatDoorK5Src
import Derived.Test.YtjeekocidaogoaaGreatDoorK5Hx5
set_option linter.unusedVariables false
set_option linter.unusedSimpArgs false
set_option maxRecDepth 100000
set_option maxHeartbeats 8000000
namespace Go.Proofs.YtjeekocidaogoaaGreatDoor.H
open Go.RowKit Go.Proofs.YtjeekocidaogoaaGreatDoor.Hand Go.Proofs.YtjeekocidaogoaaGreatDoorW.PrintWords Go.Proofs.YtjeekocidaogoaaGreatDoorW.PrintLast Go.Proofs.YtjeekocidaogoaaGreatDoorW.PrintMore
section
attribute [local go_sem] zdq zdo zeg zef zcw zcv zdp zdn
def lex_numbered.f (a0 : ByteArray) : Option (Int × ByteArray × Int × Int × Int × Int × Bool) :=
 (strings_ContainsAny.f a0 ⟨#[46, 47]⟩).bind fun c =>
  if c = true then (addr_ParsePrefix.f a0).bind fun p => some (5, (⟨#[]⟩ : ByteArray), 0, p.1, p.2.1, 0, p.2.2 == 0)
  else if a0.size ≤ 281474976710656 then
   some (match Lib.atoiAll a0.data.toList with
    | .ok v => (4, (⟨#[]⟩ : ByteArray), v, 0, 0, 0, decide (v ≤ 4294967295) && (Lib.itoa v == a0.toList))
    | .range => (4, (⟨#[]⟩ : ByteArray), Lib.atoiSat a0.data.toList, 0, 0, 0, false)
    | _ => (4, (⟨#[]⟩ : ByteArray), 0, 0, 0, 0, false))
  else none
theorem zgy {w : World} {g : Nat} (h : w.heap[g]? = some (.cells #[.int .i64 0, .string ⟨#[]⟩, .int .i64 0, .int .i64 0, .int .i64 0, .int .i64 0] 49 (0, 0))) :
  w.cell? ⟨g, 0, none⟩ = some (.int .i64 0) ∧ w.cell? ⟨g, 1, none⟩ = some (.string ⟨#[]⟩) ∧ w.cell? ⟨g, 2, none⟩ = some (.int .i64 0) ∧ w.cell? ⟨g, 3, none⟩ = some (.int .i64 0) ∧ w.cell? ⟨g, 4, none⟩ = some (.int .i64 0) ∧ w.cell? ⟨g, 5, none⟩ = some (.int .i64 0) ∧
  w.frozen? ⟨g, 0, none⟩ = false ∧ w.frozen? ⟨g, 1, none⟩ = false ∧ w.frozen? ⟨g, 2, none⟩ = false ∧ w.frozen? ⟨g, 3, none⟩ = false ∧ w.frozen? ⟨g, 4, none⟩ = false ∧ w.frozen? ⟨g, 5, none⟩ = false :=
 ⟨zae h 0, zae h 1, zae h 2, zae h 3, zae h 4, zae h 5, zaf h 0, zaf h 1, zaf h 2, zaf h 3, zaf h 4, zaf h 5⟩
theorem zga {w : World} {g : Nat} (h : w.heap[g]? = some (.cells #[.int .i64 0, .string ⟨#[]⟩, .int .i64 0, .int .i64 0, .int .i64 0, .int .i64 0] 49 (0, 0))) (v0 v1 v2 v3 v4 v5 : Value) :
  ((((((w.setCell ⟨g, 0, none⟩ v0).setCell ⟨g, 1, none⟩ v1).setCell ⟨g, 2, none⟩ v2).setCell ⟨g, 3, none⟩ v3).setCell ⟨g, 4, none⟩ v4).setCell ⟨g, 5, none⟩ v5).heap[g]? = some (.cells #[v0, v1, v2, v3, v4, v5] 49 (0, 0)) :=
 zak (zak (zak (zak (zak (zak h 0 v0 rfl) 1 v1 rfl) 2 v2 rfl) 3 v3 rfl) 4 v4 rfl) 5 v5 rfl
def zqd (w : World) (n : Int) (b : Bool) (e : Ending) (w' : World) : Prop := e = .returned (.tuple #[.agg #[.int .i64 4, .string ⟨#[]⟩, .int .i64 n, .int .i64 0, .int .i64 0, .int .i64 0], .bool b]) ∧ Below w.heap.size w w'
theorem lex_numbered.ok (a0 : ByteArray) (v : Int) (w : World) (hInv : Hand.Inv w) (hc : strings_ContainsAny.f a0 ⟨#[46, 47]⟩ = some false) (h1 : a0.size ≤ 281474976710656) (hv : Lib.atoiAll a0.data.toList = .ok v) :
  Calls Tryz.prog 64 #[.string a0] w (zqd w v (decide (v ≤ 4294967295) && (Lib.itoa v == a0.toList))) := by
 have HV := Lib.hid (fun w => Tryz.strconv_Atoi_ok a0 (by omega) v hv w)
 have HD := Lib.hid (Lib.atoiAll_bounds hv)
 have HI := Lib.hid hInv
 have HC := Lib.hid hc
 clear hv hInv h1 hc
 by_cases c1 : v ≤ 4294967295
 ·have HP : Hid ((decide (v ≤ 4294967295) && (Lib.itoa v == a0.toList)) = (Lib.itoa v == a0.toList)) := by show _ = _; simp [c1]
  rw [HP.out]
  go_enter Tryz.func64, Tryz.ntmps64
  have hB0 := (Below.refl w.heap.size w).alloc (Nat.le_refl _) (.cells #[.int .i64 0, .string ⟨#[]⟩, .int .i64 0, .int .i64 0, .int .i64 0, .int .i64 0] 49)
  have hG0 := zgu w (.cells #[.int .i64 0, .string ⟨#[]⟩, .int .i64 0, .int .i64 0, .int .i64 0, .int .i64 0] 49)
  have HB0 := Lib.hid hB0
  have HG0 := Lib.hid hG0
  clear hB0 hG0
  go_wp2_with (go_at_call 99; refine (strings_ContainsAny.calls _ _ false _ HC.out).mono ?_; rintro e w1 ⟨rfl, hb⟩; have HG1 := Lib.hid (zaq HG0.out hb); have HB1 := Lib.hid (HB0.out.trans (hb.mono HB0.out.size)); clear hb)
  go_wp2_with (go_at_call 101; refine (HV.out _).mono ?_; rintro e w2 ⟨rfl, hw⟩; have hb2 : Below w1.heap.size w1 w2 := (by rcases hw with rfl | ⟨t, rfl⟩; exact Below.refl _ _; exact Lib.bytesWorld_below _ _ _); have HG2 := Lib.hid (zaq HG1.out hb2); have HB2 := Lib.hid (HB1.out.trans (hb2.mono HB1.out.size)); clear hw hb2)
  go_wp2_with (go_at_call 102; refine (Tryz.strconv_Itoa v (HD.out).1 (HD.out).2 _ (HI.out.below HB2.out).pow10).mono ?_; rintro e w3 ⟨rfl, kk, os, hw⟩; have hb3 : Below w2.heap.size w2 w3 := (by rw [hw]; exact zhz (Below.refl _ _) (Nat.le_refl _) _ _); have HG3 := Lib.hid (zaq HG2.out hb3); have HB3 := Lib.hid (HB2.out.trans (hb3.mono HB2.out.size)); obtain ⟨c0, c1, c2, c3, c4, c5, f0, f1, f2, f3, f4, f5⟩ := zgy HG3.out; clear hw hb3)
  refine bodyPost_ret (zcr rfl _ _ w.heap.size 49 #[.int .i64 4, .string ⟨#[]⟩, .int .i64 v, .int .i64 0, .int .i64 0, .int .i64 0] (0, 0) _ rfl (zga HG3.out _ _ _ _ _ _) Tryz.underlying49 rfl (by kernel_rfl)) rfl ?_
  exact ⟨rfl, (((((((HB3.out.setCell (Nat.le_refl _) _).setCell (Nat.le_refl _) _).setCell (Nat.le_refl _) _).setCell (Nat.le_refl _) _).setCell (Nat.le_refl _) _).setCell (Nat.le_refl _) _))⟩
 ·have HP : Hid ((decide (v ≤ 4294967295) && (Lib.itoa v == a0.toList)) = false) := by show _ = _; simp [c1]
  rw [HP.out]
  go_enter Tryz.func64, Tryz.ntmps64
  have hB0 := (Below.refl w.heap.size w).alloc (Nat.le_refl _) (.cells #[.int .i64 0, .string ⟨#[]⟩, .int .i64 0, .int .i64 0, .int .i64 0, .int .i64 0] 49)
  have hG0 := zgu w (.cells #[.int .i64 0, .string ⟨#[]⟩, .int .i64 0, .int .i64 0, .int .i64 0, .int .i64 0] 49)
  have HB0 := Lib.hid hB0
  have HG0 := Lib.hid hG0
  clear hB0 hG0
  go_wp2_with (go_at_call 99; refine (strings_ContainsAny.calls _ _ false _ HC.out).mono ?_; rintro e w1 ⟨rfl, hb⟩; have HG1 := Lib.hid (zaq HG0.out hb); have HB1 := Lib.hid (HB0.out.trans (hb.mono HB0.out.size)); clear hb)
  go_wp2_with (go_at_call 101; refine (HV.out _).mono ?_; rintro e w2 ⟨rfl, hw⟩; have hb2 : Below w1.heap.size w1 w2 := (by rcases hw with rfl | ⟨t, rfl⟩; exact Below.refl _ _; exact Lib.bytesWorld_below _ _ _); have HG2 := Lib.hid (zaq HG1.out hb2); have HB2 := Lib.hid (HB1.out.trans (hb2.mono HB1.out.size)); obtain ⟨c0, c1, c2, c3, c4, c5, f0, f1, f2, f3, f4, f5⟩ := zgy HG2.out; clear hw hb2)
  go_wp2
  refine bodyPost_ret (zcr rfl _ _ w.heap.size 49 #[.int .i64 4, .string ⟨#[]⟩, .int .i64 v, .int .i64 0, .int .i64 0, .int .i64 0] (0, 0) _ rfl (zga HG2.out _ _ _ _ _ _) Tryz.underlying49 rfl (by kernel_rfl)) rfl ?_
  exact ⟨rfl, (((((((HB2.out.setCell (Nat.le_refl _) _).setCell (Nat.le_refl _) _).setCell (Nat.le_refl _) _).setCell (Nat.le_refl _) _).setCell (Nat.le_refl _) _).setCell (Nat.le_refl _) _))⟩
theorem lex_numbered.err (a0 : ByteArray) (n : Int) (w : World) (hcall : ∀ w, Hand.Inv w → Calls Tryz.prog 101 #[.string a0] w (AtoiErr n w)) (hInv : Hand.Inv w) (hc : strings_ContainsAny.f a0 ⟨#[46, 47]⟩ = some false) :
  Calls Tryz.prog 64 #[.string a0] w (zqd w n false) := by
  have HV := Lib.hid hcall
  have HI := Lib.hid hInv
  have HC := Lib.hid hc
  clear hcall hInv hc
  go_enter Tryz.func64, Tryz.ntmps64
  have hB0 := (Below.refl w.heap.size w).alloc (Nat.le_refl _) (.cells #[.int .i64 0, .string ⟨#[]⟩, .int .i64 0, .int .i64 0, .int .i64 0, .int .i64 0] 49)
  have hG0 := zgu w (.cells #[.int .i64 0, .string ⟨#[]⟩, .int .i64 0, .int .i64 0, .int .i64 0, .int .i64 0] 49)
  have HB0 := Lib.hid hB0
  have HG0 := Lib.hid hG0
  clear hB0 hG0
  go_wp2_with (go_at_call 99; refine (strings_ContainsAny.calls _ _ false _ HC.out).mono ?_; rintro e w1 ⟨rfl, hb⟩; have HG1 := Lib.hid (zaq HG0.out hb); have HB1 := Lib.hid (HB0.out.trans (hb.mono HB0.out.size)); clear hb)
  go_wp2_with (go_at_call 101; refine (HV.out _ (HI.out.below HB1.out)).mono ?_; rintro e w2 ⟨N, rfl, hb2⟩; have HG2 := Lib.hid (zaq HG1.out hb2); have HB2 := Lib.hid (HB1.out.trans (hb2.mono HB1.out.size)); obtain ⟨c0, c1, c2, c3, c4, c5, f0, f1, f2, f3, f4, f5⟩ := zgy HG2.out; clear hb2)
  go_wp2
  refine bodyPost_ret (zcr rfl _ _ w.heap.size 49 #[.int .i64 4, .string ⟨#[]⟩, .int .i64 n, .int .i64 0, .int .i64 0, .int .i64 0] (0, 0) _ rfl (zga HG2.out _ _ _ _ _ _) Tryz.underlying49 rfl (by kernel_rfl)) rfl ?_
  exact ⟨rfl, (((((((HB2.out.setCell (Nat.le_refl _) _).setCell (Nat.le_refl _) _).setCell (Nat.le_refl _) _).setCell (Nat.le_refl _) _).setCell (Nat.le_refl _) _).setCell (Nat.le_refl _) _))⟩
def PrefixPost (w : World) (a b c : Int) (e : Ending) (w' : World) : Prop := e = .returned (.tuple #[.agg #[.int .i64 5, .string ⟨#[]⟩, .int .i64 0, .int .i64 a, .int .i64 b, .int .i64 0], .bool (c == 0)]) ∧ Below w.heap.size w w'
theorem lex_numbered.pre (a0 : ByteArray) (a b c : Int) (w : World) (hInv : Hand.Inv w) (hc : strings_ContainsAny.f a0 ⟨#[46, 47]⟩ = some true) (hp : addr_ParsePrefix.f a0 = some (a, b, c)) :
  Calls Tryz.prog 64 #[.string a0] w (PrefixPost w a b c) := by
  have HV := Lib.hid hp
  have HI := Lib.hid hInv
  have HC := Lib.hid hc
  clear hp hInv hc
  go_enter Tryz.func64, Tryz.ntmps64
  have hB0 := (Below.refl w.heap.size w).alloc (Nat.le_refl _) (.cells #[.int .i64 0, .string ⟨#[]⟩, .int .i64 0, .int .i64 0, .int .i64 0, .int .i64 0] 49)
  have hG0 := zgu w (.cells #[.int .i64 0, .string ⟨#[]⟩, .int .i64 0, .int .i64 0, .int .i64 0, .int .i64 0] 49)
  have HB0 := Lib.hid hB0
  have HG0 := Lib.hid hG0
  clear hB0 hG0
  go_wp2_with (go_at_call 99; refine (strings_ContainsAny.calls _ _ true _ HC.out).mono ?_; rintro e w1 ⟨rfl, hb⟩; have HG1 := Lib.hid (zaq HG0.out hb); have HB1 := Lib.hid (HB0.out.trans (hb.mono HB0.out.size)); clear hb)
  go_wp2_with (go_at_call 100; refine (addr_ParsePrefix.calls a0 a b c _ (HI.out.below HB1.out) HV.out).mono ?_; rintro e w2 ⟨rfl, hb2⟩; have HG2 := Lib.hid (zaq HG1.out hb2); have HB2 := Lib.hid (HB1.out.trans (hb2.mono HB1.out.size)); obtain ⟨c0, c1, c2, c3, c4, c5, f0, f1, f2, f3, f4, f5⟩ := zgy (zad HG2.out (.cells #[.int .i64 a, .int .i64 b] 47)); clear hb2)
  refine bodyPost_ret (zcr rfl _ _ w.heap.size 49 #[.int .i64 5, .string ⟨#[]⟩, .int .i64 0, .int .i64 a, .int .i64 b, .int .i64 0] (0, 0) _ rfl (zga (zad HG2.out _) _ _ _ _ _ _) Tryz.underlying49 rfl (by kernel_rfl)) rfl ?_
  exact ⟨rfl, ((((((((HB2.out.alloc HB2.out.size _).setCell (Nat.le_refl _) _).setCell (Nat.le_refl _) _).setCell (Nat.le_refl _) _).setCell (Nat.le_refl _) _).setCell (Nat.le_refl _) _).setCell (Nat.le_refl _) _))⟩
theorem lex_numbered.calls (a0 : ByteArray) (r1 : Int) (r2 : ByteArray) (r3 r4 r5 r6 : Int) (r7 : Bool) (w : World) (hInv : Hand.Inv w) (h : lex_numbered.f a0 = some (r1, r2, r3, r4, r5, r6, r7)) :
  Calls Tryz.prog 64 #[.string a0] w fun e w' => e = .returned (.tuple #[.agg #[.int .i64 r1, .string r2, .int .i64 r3, .int .i64 r4, .int .i64 r5, .int .i64 r6], .bool r7]) ∧ Below w.heap.size w w' := by
 unfold lex_numbered.f at h
 obtain ⟨c, hc, h⟩ := Option.bind_eq_some_iff.1 h
 cases c with
 | true =>
  rw [if_pos rfl] at h
  obtain ⟨⟨a, b, d⟩, hp, h⟩ := Option.bind_eq_some_iff.1 h
  simp only [Option.some.injEq, Prod.mk.injEq] at h
  obtain ⟨rfl, rfl, rfl, rfl, rfl, rfl, rfl⟩ := h
  exact lex_numbered.pre a0 a b d w hInv hc hp
 | false =>
  rw [if_neg (by decide)] at h
  split at h
  ·rename_i h1
   have h := Option.some.inj h
   split at h
   ·rename_i v hv
    simp only [Prod.mk.injEq] at h
    obtain ⟨rfl, rfl, rfl, rfl, rfl, rfl, rfl⟩ := h
    exact lex_numbered.ok a0 v w hInv hc h1 hv
   ·rename_i hv
    simp only [Prod.mk.injEq] at h
    obtain ⟨rfl, rfl, rfl, rfl, rfl, rfl, rfl⟩ := h
    refine lex_numbered.err a0 _ w (fun w hI => ?_) hInv hc
    obtain ⟨tp, p, hp⟩ := hI.errR
    exact (Tryz.strconv_Atoi_range_var a0 h1 hv tp p w hp).mono fun e w' ⟨N, he, _, _, hb⟩ => ⟨N, he, hb⟩
   ·rename_i n0 n1
    simp only [Prod.mk.injEq] at h
    obtain ⟨rfl, rfl, rfl, rfl, rfl, rfl, rfl⟩ := h
    refine lex_numbered.err a0 0 w (fun w hI => ?_) hInv hc
    obtain ⟨tp, p, hp⟩ := hI.errS
    exact (Tryz.strconv_Atoi_syntax_var a0 h1 n0 n1 tp p w hp).mono fun e w' ⟨N, he, _, _, hb⟩ => ⟨N, he, hb⟩
  ·cases h
end
end Go.Proofs.YtjeekocidaogoaaGreatDoor.H

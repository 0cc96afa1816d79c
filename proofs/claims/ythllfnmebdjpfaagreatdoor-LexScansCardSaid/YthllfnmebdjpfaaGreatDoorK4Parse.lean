/- The contract of addr.Parse: a text at its dots, four numbers, an address. -/
import Derived.Test.YthllfnmebdjpfaaGreatDoorK4Addr
import Derived.Lib.OthersKept
import Derived.Lib.Split
import Derived.Lib.SplitLaws
import Derived.Lib.CountLaws
namespace Go.Proofs.YthllfnmebdjpfaaGreatDoor.Hand
open Go.RowKit Go.Proofs.YthllfnmebdjpfaaGreatDoorW.PrintWords Go.Proofs.YthllfnmebdjpfaaGreatDoorW.PrintLast Go.Proofs.YthllfnmebdjpfaaGreatDoorW.PrintMore
set_option linter.unusedVariables false
set_option linter.unusedSimpArgs false

theorem splitB_size (sep : ByteArray) : ∀ (k : Nat) (s t : ByteArray), t ∈ Lib.splitB sep 0 k s → t.size ≤ s.size
  | 0, s, t, h => by
    rw [Lib.splitB] at h
    rw [List.mem_singleton.1 h]
    exact Nat.le_refl _
  | k + 1, s, t, h => by
    rw [Lib.splitB] at h
    split at h
    · rw [List.mem_singleton.1 h]
      exact Nat.le_refl _
    · rcases List.mem_cons.1 h with rfl | h
      · rw [ByteArray.size_extract]; omega
      · have := splitB_size sep k _ t h
        rw [ByteArray.size_extract] at this
        omega

def dotS : ByteArray := ⟨#[46]⟩
/-- A text at its dots. -/
def dots (s : ByteArray) : List ByteArray := Lib.splitB dotS 0 (Lib.countB s dotS) s
theorem dots_length (s : ByteArray) : (dots s).length = Lib.countB s dotS + 1 := Lib.splitB_all dotS (Nat.le_refl _) 0 _ s rfl
theorem dots_size (s t : ByteArray) (h : t ∈ dots s) : t.size ≤ s.size := splitB_size _ _ _ _ h

/-- What a part says, as a byte. -/
def partN (t : ByteArray) : Int × Bool := (addr_number.f t 255).getD (0, false)
theorem partN_eq (t : ByteArray) (h : t.size ≤ 281474976710656) : addr_number.f t 255 = some ((partN t).1, (partN t).2) := by
  unfold partN addr_number.f
  rw [if_pos ⟨h, by decide⟩]
  rfl
theorem partN_range (t : ByteArray) (h : (partN t).2 = true) : 0 ≤ (partN t).1 ∧ (partN t).1 < 256 := by
  unfold partN addr_number.f at h ⊢
  split at h
  · rename_i hc
    rw [if_pos hc]
    simp only [Option.getD_some] at h ⊢
    split at h
    · simp only [Bool.and_eq_true, decide_eq_true_eq] at h
      exact ⟨h.1, by show _ < 256; omega⟩
    · cases h
    · cases h
  · cases h

def addr_Parse.f (a0 : ByteArray) : Option (Int × Int) :=
  if a0.size < 4294967281 then
    some (match dots a0 with
      | [a, b, c, d] => if (partN a).2 = true ∧ (partN b).2 = true ∧ (partN c).2 = true ∧ (partN d).2 = true then ((partN a).1 * 16777216 + (partN b).1 * 65536 + (partN c).1 * 256 + (partN d).1, 0) else (0, 30)
      | _ => (0, 30))
  else none


theorem split_dots (s : ByteArray) (w : World) (hInv : Inv w) (h1 : s.size < 4294967281) :
    Calls Tryz.prog 68 #[.string s, .string ⟨#[46]⟩] w fun e w' => e = .returned (.slice (some ⟨w.heap.size, 0, none⟩) (dots s).length (dots s).length) ∧ w' = w.alloc (.cells ((dots s).map Value.string).toArray 9) := by
  obtain ⟨m, hm⟩ := hInv.maxLen
  rw [dots_length]
  exact Tryz.strings_Split s dotS m w h1 hm (Nat.le_refl _)

set_option maxRecDepth 100000 in
set_option maxHeartbeats 400000 in
theorem parse_not4 (a0 : ByteArray) (w : World) (n : Nat) (o : Obj) (hn : ((n : Int) != 4) = true)
    (hc : Calls Tryz.prog 68 #[.string a0, .string ⟨#[46]⟩] w fun e w' => e = .returned (.slice (some ⟨w.heap.size, 0, none⟩) n n) ∧ w' = w.alloc o) :
    Calls Tryz.prog 48 #[.string a0] w fun e w' => e = .returned (.tuple #[.int .i64 0, .int .i64 30]) ∧ Below w.heap.size w w' := by
  have HS := Lib.hid hc
  clear hc
  go_enter Tryz.func48, Tryz.ntmps48
  go_wp2_with (go_at_call 68; refine HS.out.mono ?_; rintro e w1 ⟨rfl, rfl⟩)
  go_ret2
  exact ⟨rfl, ((Below.refl _ _).alloc (Nat.le_refl _) _).alloc (by simp) _⟩

def cell4 (n : Nat → Int) (k j : Nat) : Value := .int .u8 (if j < k then n j else 0)
def arr4 (n : Nat → Int) (k : Nat) : Array Value := #[cell4 n k 0, cell4 n k 1, cell4 n k 2, cell4 n k 3]
theorem arr4_set (n : Nat → Int) (k : Nat) (hk : k < 4) : (arr4 n k).setIfInBounds k (.int .u8 (n k)) = arr4 n (k + 1) := by
  match k, hk with
  | 0, _ => rfl
  | 1, _ => rfl
  | 2, _ => rfl
  | 3, _ => rfl
theorem arr4_get (n : Nat → Int) (k : Nat) (hk : k < 4) : (arr4 n k)[k]? = some (.int .u8 0) := by
  match k, hk with
  | 0, _ => rfl
  | 1, _ => rfl
  | 2, _ => rfl
  | 3, _ => rfl

def FourOk (ok : Nat → Bool) : Bool := ok 0 && (ok 1 && (ok 2 && ok 3))
theorem fourOk_no {ok : Nat → Bool} {k : Nat} (hk : k < 4) (h : ok k = false) : FourOk ok = false := by
  unfold FourOk
  match k, hk with
  | 0, _ => simp [h]
  | 1, _ => simp [h]
  | 2, _ => simp [h]
  | 3, _ => simp [h]

def ParsePost (w : World) (n : Nat → Int) (ok : Nat → Bool) (e : Ending) (w' : World) : Prop :=
  e = .returned (if FourOk ok = true then .tuple #[.int .i64 (n 0 * 16777216 + n 1 * 65536 + n 2 * 256 + n 3), .int .i64 0] else .tuple #[.int .i64 0, .int .i64 30]) ∧ Below w.heap.size w w'

set_option maxRecDepth 100000 in
set_option maxHeartbeats 400000 in
theorem parse_four (a0 : ByteArray) (w : World) (hInv : Inv w) (t : Nat → ByteArray) (n : Nat → Int) (ok : Nat → Bool)
    (hc : Calls Tryz.prog 68 #[.string a0, .string ⟨#[46]⟩] w fun e w' => e = .returned (.slice (some ⟨w.heap.size, 0, none⟩) 4 4) ∧ w' = w.alloc (.cells #[.string (t 0), .string (t 1), .string (t 2), .string (t 3)] 9))
    (hn : ∀ k, k < 4 → addr_number.f (t k) 255 = some (n k, ok k)) (hr : ∀ k, ok k = true → 0 ≤ n k ∧ n k < 256) :
    Calls Tryz.prog 48 #[.string a0] w (ParsePost w n ok) := by
  have HS := Lib.hid hc
  have HN := Lib.hid hn
  have HR := Lib.hid hr
  have HI := Lib.hid hInv
  clear hc hn hr hInv
  go_enter Tryz.func48, Tryz.ntmps48
  go_wp2_with (go_at_call 68; refine HS.out.mono ?_; rintro e w1 ⟨rfl, rfl⟩)
  have hB0 : Below w.heap.size w ((w.alloc (Obj.cells #[Value.string (t 0), Value.string (t 1), Value.string (t 2), Value.string (t 3)] 9)).alloc (Obj.cells #[Value.int IntKind.u8 0, Value.int IntKind.u8 0, Value.int IntKind.u8 0, Value.int IntKind.u8 0] 109)) := ((Below.refl _ _).alloc (Nat.le_refl _) _).alloc (by simp) _
  have hL0 := blk_alloc (blk_new w (Obj.cells #[Value.string (t 0), Value.string (t 1), Value.string (t 2), Value.string (t 3)] 9)) (Obj.cells #[Value.int IntKind.u8 0, Value.int IntKind.u8 0, Value.int IntKind.u8 0, Value.int IntKind.u8 0] 109)
  have hA0 : ((w.alloc (Obj.cells #[Value.string (t 0), Value.string (t 1), Value.string (t 2), Value.string (t 3)] 9)).alloc (Obj.cells #[Value.int IntKind.u8 0, Value.int IntKind.u8 0, Value.int IntKind.u8 0, Value.int IntKind.u8 0] 109)).heap[w.heap.size + 1]? = some (.cells (arr4 n 0) 109 (0, 0)) := by
    have hh := blk_new (w.alloc (Obj.cells #[Value.string (t 0), Value.string (t 1), Value.string (t 2), Value.string (t 3)] 9)) (Obj.cells #[Value.int IntKind.u8 0, Value.int IntKind.u8 0, Value.int IntKind.u8 0, Value.int IntKind.u8 0] 109)
    have hs : (w.alloc (Obj.cells #[Value.string (t 0), Value.string (t 1), Value.string (t 2), Value.string (t 3)] 9)).heap.size = w.heap.size + 1 := by simp
    rw [hs] at hh
    exact hh
  generalize (w.alloc (Obj.cells #[Value.string (t 0), Value.string (t 1), Value.string (t 2), Value.string (t 3)] 9)).alloc (Obj.cells #[Value.int IntKind.u8 0, Value.int IntKind.u8 0, Value.int IntKind.u8 0, Value.int IntKind.u8 0] 109) = W0 at hB0 hL0 hA0
  have HB0 := Aside0.mk hB0
  have HL0 := Aside0.mk hL0
  have HA0 := Aside0.mk hA0
  clear hB0 hL0 hA0
  go_loopw [17] (fun i wr => ∃ k : Nat, k ≤ 4 ∧ i = .int .i64 k ∧ Aside0 (wr.heap[w.heap.size]? = some (.cells #[.string (t 0), .string (t 1), .string (t 2), .string (t 3)] 9 (0, 0))) ∧ Aside0 (wr.heap[w.heap.size + 1]? = some (.cells (arr4 n k) 109 (0, 0))) ∧ Aside0 (Below w.heap.size w wr) ∧ Aside0 (∀ j, j < k → ok j = true)) (fun i _ => 4 - (intOf i).toNat)
  case atStart => exact ⟨0, by omega, rfl, HL0, HA0, HB0, ⟨fun j hj => by omega⟩⟩
  case round =>
    obtain ⟨k, hk, rfl, HL, HA, HB, HO⟩ := hrel
    clear HL0 HA0 HB0
    by_cases hlt : k < 4
    · have hcell : wr.cell? ⟨w.heap.size, k, none⟩ = some (.string (t k)) := by
        rw [blk_cell HL.out]
        match k, hlt with
        | 0, _ => rfl
        | 1, _ => rfl
        | 2, _ => rfl
        | 3, _ => rfl
      have hnn := HN.out k hlt
      obtain ⟨b, hb0⟩ : ∃ b, ok k = b := ⟨_, rfl⟩
      rw [hb0] at hnn
      have HNN := Lib.hid hnn
      have HB0 := Lib.hid hb0
      clear hnn hb0
      cases b with
      | false =>
        go_wp2_with (go_at_call 49; refine (addr_number.calls (t k) 255 (n k) false _ (HI.out.below HB.out) HNN.out).mono ?_; rintro e w2 ⟨rfl, hb⟩)
        go_ret2
        exact ⟨by rw [fourOk_no hlt HB0.out]; rfl, HB.out.trans (hb.mono HB.out.size)⟩
      | true =>
        have hr := HR.out k HB0.out
        have hr0 := hr.1
        have hr1 := hr.2
        go_wp2_with (go_at_call 49; refine (addr_number.calls (t k) 255 (n k) true _ (HI.out.below HB.out) HNN.out).mono ?_; rintro e w2 ⟨rfl, hb⟩; have hA2 := blk_below HA.out hb; have hL2 := blk_below HL.out hb; have hc2 : w2.cell? ⟨w.heap.size + 1, k, none⟩ = some (.int .u8 0) := (blk_cell hA2 k).trans (arr4_get n k hlt); have hf2 := blk_frozen hA2 k; have HA2 := Aside0.mk hA2; have HL2 := Aside0.mk hL2; clear hA2 hL2)
        go_roundw
        case rel =>
          refine ⟨k + 1, by omega, by go_num, ⟨?_⟩, ⟨?_⟩, ⟨?_⟩, ⟨fun j hj => ?_⟩⟩
          · exact blk_far HL2.out (by simp) _
          · exact blk_put HA2.out k _ (arr4_set n k hlt)
          · exact (HB.out.trans (hb.mono HB.out.size)).setCell (by simp) _
          · rcases Nat.lt_succ_iff_lt_or_eq.1 hj with h | rfl
            · exact HO.out j h
            · exact HB0.out
        case measure => simp [intOf]; omega
    · obtain rfl : k = 4 := by omega
      have c0 : wr.cell? ⟨w.heap.size + 1, 0, none⟩ = some (.int .u8 (n 0)) := blk_cell HA.out 0
      have c1 : wr.cell? ⟨w.heap.size + 1, 1, none⟩ = some (.int .u8 (n 1)) := blk_cell HA.out 1
      have c2 : wr.cell? ⟨w.heap.size + 1, 2, none⟩ = some (.int .u8 (n 2)) := blk_cell HA.out 2
      have c3 : wr.cell? ⟨w.heap.size + 1, 3, none⟩ = some (.int .u8 (n 3)) := blk_cell HA.out 3
      have o0 := HO.out 0 (by omega)
      have o1 := HO.out 1 (by omega)
      have o2 := HO.out 2 (by omega)
      have o3 := HO.out 3 (by omega)
      have HW := Lib.hid (fun w => word_any (n 0) (n 1) (n 2) (n 3) w (HR.out 0 o0).1 (HR.out 0 o0).2 (HR.out 1 o1).1 (HR.out 1 o1).2 (HR.out 2 o2).1 (HR.out 2 o2).2 (HR.out 3 o3).1 (HR.out 3 o3).2)
      have HF : Hid (FourOk ok = true) := by show _ = _; simp [FourOk, o0, o1, o2, o3]
      clear o0 o1 o2 o3
      go_wp2_with (go_at_call 69; refine (HW.out _).mono ?_; rintro e w2 ⟨rfl, hb⟩)
      go_ret2
      exact ⟨by rw [if_pos HF.out]; rfl, HB.out.trans (hb.mono HB.out.size)⟩

theorem addr_Parse.calls (a0 : ByteArray) (r1 r2 : Int) (w : World) (hInv : Inv w) (h : addr_Parse.f a0 = some (r1, r2)) :
    Calls Tryz.prog 48 #[.string a0] w fun e w' => e = .returned (.tuple #[.int .i64 r1, .int .i64 r2]) ∧ Below w.heap.size w w' := by
  unfold addr_Parse.f at h
  split at h
  · rename_i h1
    have h := Option.some.inj h
    have hc := split_dots a0 w hInv h1
    have hz := dots_size a0
    by_cases h4 : (dots a0).length = 4
    · rw [h4] at hc
      obtain ⟨a, b, c, d, hd⟩ : ∃ a b c d, dots a0 = [a, b, c, d] := by
        match hq : dots a0, h4 with
        | [a, b, c, d], _ => exact ⟨a, b, c, d, rfl⟩
      rw [hd] at h hc hz
      let t : Nat → ByteArray := fun k => [a, b, c, d].getD k a
      refine (parse_four a0 w hInv t (fun k => (partN (t k)).1) (fun k => (partN (t k)).2) hc (fun k hk => partN_eq _ ?_) (fun k hk => partN_range _ hk)).mono ?_
      · have hm : t k ∈ [a, b, c, d] := by
          match k, hk with
          | 0, _ => simp [t]
          | 1, _ => simp [t]
          | 2, _ => simp [t]
          | 3, _ => simp [t]
        have := hz _ hm
        omega
      · rintro e w' ⟨he, hb⟩
        refine ⟨?_, hb⟩
        rw [he]
        simp only [t, FourOk, List.getD_cons_zero, List.getD_cons_succ, Bool.and_eq_true] at h ⊢
        split at h
        · rename_i hk
          rw [if_pos hk]
          simp only [Prod.mk.injEq] at h
          rw [← h.1, ← h.2]
        · rename_i hk
          rw [if_neg hk]
          simp only [Prod.mk.injEq] at h
          rw [← h.1, ← h.2]
    · have hq : (match dots a0 with
        | [a, b, c, d] => if (partN a).2 = true ∧ (partN b).2 = true ∧ (partN c).2 = true ∧ (partN d).2 = true then ((partN a).1 * 16777216 + (partN b).1 * 65536 + (partN c).1 * 256 + (partN d).1, (0 : Int)) else (0, 30)
        | _ => ((0 : Int), (30 : Int))) = (0, 30) := by
        split
        · rename_i hd; rw [hd] at h4; exact absurd rfl h4
        · rfl
      rw [hq] at h
      simp only [Prod.mk.injEq] at h
      obtain ⟨rfl, rfl⟩ := h
      exact parse_not4 a0 w _ _ (by rw [bne_iff_ne]; omega) hc
  · cases h
end Go.Proofs.YthllfnmebdjpfaaGreatDoor.Hand

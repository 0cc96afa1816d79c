/- Contracts of package addr's functions over arrays and strconv: number, of, right, word, Parse. -/
import Derived.Test.YthllfnmebdjpfaaGreatDoorK4Rune
import Derived.WideLaws
import Derived.WalkSpells
import Derived.Lib.AtoiErrMem
import Derived.Deep.RegionHeld3
import Derived.Laws.BitsLemmas
import Derived.Stop.BytesEq
namespace Go.Proofs.YthllfnmebdjpfaaGreatDoor.Hand
open Go.RowKit Go.Proofs.YthllfnmebdjpfaaGreatDoorW.PrintWords Go.Proofs.YthllfnmebdjpfaaGreatDoorW.PrintLast Go.Proofs.YthllfnmebdjpfaaGreatDoorW.PrintMore
set_option linter.unusedVariables false
set_option linter.unusedSimpArgs false

theorem below_grow {B : Nat} {w w1 : World} (h : Below B w w1) (hB : B ≤ w1.heap.size) (k : Nat) (os : Array Obj) : Below B w («Sort».grow (w1.drewN k) os) :=
  h.trans ⟨rfl, rfl, rfl, by show _ ≤ (w1.heap ++ os).size; rw [Array.size_append]; omega, fun i hi => by
    show (w1.heap ++ os)[i]? = _
    rw [Array.getElem?_append_left (by omega)]⟩

/-- A number in decimal, as it is printed, up to a greatest one. -/
def addr_number.f (a0 : ByteArray) (a1 : Int) : Option (Int × Bool) :=
  if a0.size ≤ 281474976710656 ∧ a1 ≤ 4294967295 then
    some (match Lib.atoiAll a0.data.toList with
      | .ok v => (v, decide (0 ≤ v) && (decide (v ≤ a1) && (Lib.itoa v == a0.toList)))
      | .range => (Lib.atoiSat a0.data.toList, false)
      | _ => (0, false))
  else none

set_option maxRecDepth 100000 in
set_option maxHeartbeats 400000 in
theorem number_ok (a0 : ByteArray) (a1 v : Int) (w : World) (hInv : Inv w) (h1 : a0.size ≤ 281474976710656) (h2 : a1 ≤ 4294967295) (hv : Lib.atoiAll a0.data.toList = .ok v) :
    Calls Tryz.prog 49 #[.string a0, .int .i64 a1] w fun e w' => e = .returned (.tuple #[.int .i64 v, .bool (decide (0 ≤ v) && (decide (v ≤ a1) && (Lib.itoa v == a0.toList)))]) ∧ Below w.heap.size w w' := by
  have HV := Lib.hid (fun w => Tryz.strconv_Atoi_ok a0 (by omega) v hv w)
  have HI := Lib.hid hInv
  have hw0 : v ≤ a1 → v ≤ 4294967295 := fun h => by omega
  clear hv hInv h1 h2
  by_cases c0 : 0 ≤ v
  · by_cases c1 : v ≤ a1
    · have HP : Hid ((decide (0 ≤ v) && (decide (v ≤ a1) && (Lib.itoa v == a0.toList))) = (Lib.itoa v == a0.toList)) := by show _ = _; simp [c0, c1]
      rw [HP.out]
      go_enter Tryz.func49, Tryz.ntmps49
      go_wp2_with (go_at_call 38; refine (HV.out _).mono ?_; rintro e w1 ⟨rfl, hw⟩)
      have HB : Hid (Below w.heap.size w w1) := by rcases hw with rfl | ⟨t, rfl⟩; exact Below.refl _ _; exact Lib.bytesWorld_below _ _ _
      clear hw
      go_wp2_with (go_at_call 39; refine (Tryz.strconv_Itoa v (by omega) (by have := hw0 c1; omega) _ (HI.out.below HB.out).pow10).mono ?_; rintro e w2 ⟨rfl, kk, os, rfl⟩)
      go_ret2
      exact ⟨rfl, below_grow HB.out HB.out.size _ _⟩
    · have HP : Hid ((decide (0 ≤ v) && (decide (v ≤ a1) && (Lib.itoa v == a0.toList))) = false) := by show _ = _; simp [c1]
      rw [HP.out]
      go_enter Tryz.func49, Tryz.ntmps49
      go_wp2_with (go_at_call 38; refine (HV.out _).mono ?_; rintro e w1 ⟨rfl, hw⟩)
      have HB : Hid (Below w.heap.size w w1) := by rcases hw with rfl | ⟨t, rfl⟩; exact Below.refl _ _; exact Lib.bytesWorld_below _ _ _
      clear hw
      go_wp2
      go_ret2
      exact ⟨rfl, HB.out⟩
  · have HP : Hid ((decide (0 ≤ v) && (decide (v ≤ a1) && (Lib.itoa v == a0.toList))) = false) := by show _ = _; simp [c0]
    rw [HP.out]
    go_enter Tryz.func49, Tryz.ntmps49
    go_wp2_with (go_at_call 38; refine (HV.out _).mono ?_; rintro e w1 ⟨rfl, hw⟩)
    have HB : Hid (Below w.heap.size w w1) := by rcases hw with rfl | ⟨t, rfl⟩; exact Below.refl _ _; exact Lib.bytesWorld_below _ _ _
    clear hw
    go_wp2
    go_ret2
    exact ⟨rfl, HB.out⟩

/-- Atoi's error: a number, and a pointer. -/
def AtoiErr (n : Int) (w : World) (e : Ending) (w' : World) : Prop := ∃ N, e = .returned (.tuple #[.int .i64 n, .iface 115 (.pointer (some ⟨N, 0, none⟩))]) ∧ Below w.heap.size w w'

set_option maxRecDepth 100000 in
set_option maxHeartbeats 400000 in
theorem number_err (a0 : ByteArray) (a1 n : Int) (w : World) (hc : ∀ w, Inv w → Calls Tryz.prog 38 #[.string a0] w (AtoiErr n w)) (hInv : Inv w) :
    Calls Tryz.prog 49 #[.string a0, .int .i64 a1] w fun e w' => e = .returned (.tuple #[.int .i64 n, .bool false]) ∧ Below w.heap.size w w' := by
  have HC := Lib.hid (hc w hInv)
  clear hc hInv
  go_enter Tryz.func49, Tryz.ntmps49
  go_wp2_with (go_at_call 38; refine HC.out.mono ?_; rintro e w1 ⟨N, rfl, hb⟩)
  go_ret2
  exact ⟨rfl, hb⟩

theorem addr_number.calls (a0 : ByteArray) (a1 : Int) (r1 : Int) (r2 : Bool) (w : World) (hInv : Inv w) (h : addr_number.f a0 a1 = some (r1, r2)) :
    Calls Tryz.prog 49 #[.string a0, .int .i64 a1] w fun e w' => e = .returned (.tuple #[.int .i64 r1, .bool r2]) ∧ Below w.heap.size w w' := by
  unfold addr_number.f at h
  split at h
  · rename_i hc
    obtain ⟨h1, h2⟩ := hc
    have h := Option.some.inj h
    split at h
    · rename_i v hv
      simp only [Prod.mk.injEq] at h
      obtain ⟨rfl, rfl⟩ := h
      exact number_ok a0 a1 v w hInv h1 h2 hv
    · rename_i hv
      simp only [Prod.mk.injEq] at h
      obtain ⟨rfl, rfl⟩ := h
      refine number_err a0 a1 _ w (fun w hI => ?_) hInv
      obtain ⟨tp, p, hp⟩ := hI.errR
      exact (Tryz.strconv_Atoi_range_var a0 h1 hv tp p w hp).mono fun e w' ⟨N, he, _, _, hb⟩ => ⟨N, he, hb⟩
    · rename_i n0 n1
      simp only [Prod.mk.injEq] at h
      obtain ⟨rfl, rfl⟩ := h
      refine number_err a0 a1 0 w (fun w hI => ?_) hInv
      obtain ⟨tp, p, hp⟩ := hI.errS
      exact (Tryz.strconv_Atoi_syntax_var a0 h1 n0 n1 tp p w hp).mono fun e w' ⟨N, he, _, _, hb⟩ => ⟨N, he, hb⟩
  · cases h
theorem ret_int {k : IntKind} {a b : Int} (h : a = b) : Ending.returned (.int k a) = .returned (.int k b) := by rw [h]
def fourV (n : Int) : Value := .agg #[.int .u8 (n / 16777216 % 256), .int .u8 (n / 65536 % 256), .int .u8 (n / 256 % 256), .int .u8 (n % 256)]
set_option maxRecDepth 100000 in
set_option maxHeartbeats 400000 in
theorem of_any (n : Int) (w : World) :
    Calls Tryz.prog 70 #[.int .i64 n] w fun e w' => e = .returned (fourV n) ∧ Below w.heap.size w w' := by
  unfold fourV
  go_enter Tryz.func70, Tryz.ntmps70
  go_wp2
  exact bodyPost_ret (v := .agg #[.int .u8 (n / 16777216 % 256), .int .u8 (n / 65536 % 256), .int .u8 (n / 256 % 256), .int .u8 (n % 256)]) (by simp [results, Tryz.results70, go_sem]) rfl ⟨rfl, (Below.refl _ _).alloc (Nat.le_refl _) _⟩

theorem byte_wrap {a : Int} (h0 : 0 ≤ a) (h1 : a < 256) : wrap64 a = a := by unfold wrap64; omega
theorem word_pure {a b c d : Int} (a0 : 0 ≤ a) (a1 : a < 256) (b0 : 0 ≤ b) (b1 : b < 256) (c0 : 0 ≤ c) (c1 : c < 256) (d0 : 0 ≤ d) (d1 : d < 256) :
    bits BinOp.or IntKind.i64 (bits BinOp.or IntKind.i64 (bits BinOp.or IntKind.i64 (wrap64 (wrap64 a * 16777216)) (wrap64 (wrap64 b * 65536))) (wrap64 (wrap64 c * 256))) (wrap64 d) = a * 16777216 + b * 65536 + c * 256 + d := by
  have wr : ∀ n : Int, 0 ≤ n → n < 2 ^ 40 → IntKind.i64.wrap n = n := fun n h0 h1 => by rw [IntKind.wrap_i64]; omega
  rw [byte_wrap a0 a1, byte_wrap b0 b1, byte_wrap c0 c1, byte_wrap d0 d1]
  have e1 : wrap64 (a * 16777216) = a * 16777216 := by unfold wrap64; omega
  have e2 : wrap64 (b * 65536) = b * 65536 := by unfold wrap64; omega
  have e3 : wrap64 (c * 256) = c * 256 := by unfold wrap64; omega
  rw [e1, e2, e3]
  rw [bits_join .i64 40 (by decide) wr 24 (a * 16777216) (b * 65536) (by omega) (by omega) (by omega) (by omega) (by omega) (by omega)]
  rw [bits_join .i64 40 (by decide) wr 16 _ (c * 256) (by omega) (by omega) (by omega) (by omega) (by omega) (by omega)]
  rw [bits_join .i64 40 (by decide) wr 8 _ d (by omega) (by omega) (by omega) (by omega) (by omega) (by omega)]

set_option maxRecDepth 100000 in
set_option maxHeartbeats 400000 in
theorem word_any (a b c d : Int) (w : World) (a0 : 0 ≤ a) (a1 : a < 256) (b0 : 0 ≤ b) (b1 : b < 256) (c0 : 0 ≤ c) (c1 : c < 256) (d0 : 0 ≤ d) (d1 : d < 256) :
    Calls Tryz.prog 69 #[.agg #[.int .u8 a, .int .u8 b, .int .u8 c, .int .u8 d]] w fun e w' => e = .returned (.int .i64 (a * 16777216 + b * 65536 + c * 256 + d)) ∧ Below w.heap.size w w' := by
  have HP := Lib.hid (word_pure a0 a1 b0 b1 c0 c1 d0 d1)
  clear a0 a1 b0 b1 c0 c1 d0 d1
  go_enter Tryz.func69, Tryz.ntmps69
  go_wp2
  go_ret
  exact ⟨ret_int HP.out, (Below.refl _ _).alloc (Nat.le_refl _) _⟩

theorem pow_le (p : Int) (h0 : 0 ≤ p) (h1 : p ≤ 32) : 1 ≤ (2 : Int) ^ (32 - p).toNat ∧ (2 : Int) ^ (32 - p).toNat ≤ 4294967296 := by
  have h : (32 - p).toNat ≤ 32 := by omega
  generalize (32 - p).toNat = k at h
  constructor
  · exact Int.pow_pos (by decide)
  · have := Nat.pow_le_pow_right (n := 2) (by decide) h
    have e : ((2 : Int) ^ k) = ((2 ^ k : Nat) : Int) := by simp
    rw [e]
    omega
set_option maxRecDepth 100000 in
set_option maxHeartbeats 400000 in
theorem size_any (p : Int) (w : World) (h0 : 0 ≤ p) (h1 : p ≤ 32) :
    Calls Tryz.prog 71 #[.int .i64 p] w fun e w' => e = .returned (.int .i64 (2 ^ (32 - p).toNat)) ∧ w' = w := by
  go_enter Tryz.func71, Tryz.ntmps71
  go_wp2
  go_ret
  exact ⟨ret_int (by unfold wrap64; have := pow_le p h0 h1; omega), rfl⟩

/-- The four bytes of an address. -/
def fourB (n : Int) : List UInt8 := [n / 16777216 % 256, n / 65536 % 256, n / 256 % 256, n % 256].map fun x => UInt8.ofNat x.toNat
theorem cell_byte (n : Int) : Value.int .u8 (n % 256) = Go.Extern.Stop.cell (UInt8.ofNat (n % 256).toNat) := by
  unfold Go.Extern.Stop.cell
  have h : Int.ofNat ((UInt8.ofNat (n % 256).toNat).toNat) = n % 256 := by
    rw [UInt8.toNat_ofNat']; show (((n % 256).toNat % 2 ^ 8 : Nat) : Int) = _; omega
  rw [h]
theorem fourV_cells (n : Int) : fourV n = .agg ((fourB n).map Go.Extern.Stop.cell).toArray := by
  unfold fourV fourB
  simp only [List.map_cons, List.map_nil, ← cell_byte]
theorem four_inj {a b : Int} (a0 : 0 ≤ a) (a1 : a ≤ 4294967295) (b0 : 0 ≤ b) (b1 : b ≤ 4294967295) : (fourB a == fourB b) = decide (a = b) := by
  have key : ∀ x y : Int, UInt8.ofNat (x % 256).toNat = UInt8.ofNat (y % 256).toNat → x % 256 = y % 256 := fun x y h => by
    have h' := congrArg (fun u : UInt8 => (u.toNat : Int)) h
    simp only [UInt8.toNat_ofNat'] at h'
    omega
  rw [Bool.eq_iff_iff, beq_iff_eq, decide_eq_true_iff]
  constructor
  · intro h
    simp only [fourB, List.map_cons, List.map_nil, List.cons.injEq, and_true] at h
    have h1 := key _ _ h.1
    have h2 := key _ _ h.2.1
    have h3 := key _ _ h.2.2.1
    have h4 := key _ _ h.2.2.2
    omega
  · intro h; rw [h]

theorem run_eql_four (a b : Int) (a0 : 0 ≤ a) (a1 : a ≤ 4294967295) (b0 : 0 ≤ b) (b1 : b ≤ 4294967295) (w : World) :
    (binOp .eql 109 (fourV a) (fourV b)).run Tryz.prog w = .ok (.bool (decide (a = b))) w := by
  rw [fourV_cells, fourV_cells, run_eql_bytes w 109 5 4 Tryz.underlying109 Tryz.underlying5 (fun w => by kernel_rfl) _ _ rfl rfl, four_inj a0 a1 b0 b1]

theorem run_eqGuard_four (x y : Operand) (a b : Int) (w : World) : (eqGuard .eql 109 x y (fourV a) (fourV b)).run Tryz.prog w = .ok () w := by
  unfold fourV
  exact run_eqGuard_agg w _ _ _ _ _ _ Tryz.eqGuardType109
theorem of_held (n : Int) (w : World) (a p : Int) (W : World) (h : W.cell? ⟨w.heap.size, 0, none⟩ = some (.int .i64 a) ∧ W.cell? ⟨w.heap.size, 1, none⟩ = some (.int .i64 p) ∧ Below w.heap.size w W ∧ w.heap.size < W.heap.size) :
    Calls Tryz.prog 70 #[.int .i64 n] W fun e w' => e = .returned (fourV n) ∧ w'.cell? ⟨w.heap.size, 0, none⟩ = some (.int .i64 a) ∧ w'.cell? ⟨w.heap.size, 1, none⟩ = some (.int .i64 p) ∧ Below w.heap.size w w' ∧ w.heap.size < w'.heap.size := by
  obtain ⟨h0, h1, h2, h3⟩ := h
  exact (of_any n W).mono fun e w' ⟨he, hb⟩ => ⟨he, (hb.cell (p := ⟨w.heap.size, 0, none⟩) h3).trans h0, (hb.cell (p := ⟨w.heap.size, 1, none⟩) h3).trans h1, h2.trans (hb.mono (by omega)), by have := hb.size; omega⟩

set_option maxRecDepth 100000 in
set_option maxHeartbeats 400000 in
theorem right_in (a p sz : Int) (w : World) (h0 : 0 ≤ p) (h1 : p ≤ 32) (h2 : 0 ≤ a) (h3 : a ≤ 4294967295) (s1 : 1 ≤ sz) (s2 : sz ≤ 4294967296)
    (hsz : ∀ w, Calls Tryz.prog 71 #[.int .i64 p] w fun e w' => e = .returned (.int .i64 sz) ∧ w' = w) :
    Calls Tryz.prog 50 #[.agg #[.int .i64 a, .int .i64 p]] w fun e w' => e = .returned (.bool (decide (a = a / sz * sz))) ∧ Below w.heap.size w w' := by
  have q1 : 0 ≤ a / sz := Int.ediv_nonneg h2 (by omega)
  have q2 : a / sz ≤ a := Int.ediv_le_self _ h2
  have q3 : a / sz * sz ≤ a := Int.ediv_mul_le _ (by omega)
  have q4 : 0 ≤ a / sz * sz := Int.mul_nonneg q1 (by omega)
  have HE := Lib.hid (run_eql_four a (a / sz * sz) h2 h3 q4 (by omega))
  have HS := Lib.hid hsz
  clear hsz
  have hsz0 : ¬ sz = 0 := by omega
  have HD := Lib.hid (Int.tdiv_eq_ediv_of_nonneg (b := sz) h2)
  have HW := Lib.hid (show IntKind.i64.wrap (a / sz) = a / sz by rw [IntKind.wrap_i64]; omega)
  have HG := Lib.hid (fun (x y : Operand) (w : World) => run_eqGuard_four x y a (a / sz * sz) w)
  have hwm : IntKind.i64.wrap (a / sz * sz) = a / sz * sz := by rw [IntKind.wrap_i64]; omega
  have HM := Lib.hid hwm
  clear hwm
  go_enter Tryz.func50, Tryz.ntmps50
  go_wp2
  have hB : Below w.heap.size w (w.alloc (Obj.cells #[Value.int IntKind.i64 a, Value.int IntKind.i64 p] 36)) := (Below.refl _ _).alloc (Nat.le_refl _) _
  have hc0 : (w.alloc (Obj.cells #[Value.int IntKind.i64 a, Value.int IntKind.i64 p] 36)).cell? ⟨w.heap.size, 0, none⟩ = some (.int .i64 a) := by simp [go_sem]
  have hc1 : (w.alloc (Obj.cells #[Value.int IntKind.i64 a, Value.int IntKind.i64 p] 36)).cell? ⟨w.heap.size, 1, none⟩ = some (.int .i64 p) := by simp [go_sem]
  generalize w.alloc (Obj.cells #[Value.int IntKind.i64 a, Value.int IntKind.i64 p] 36) = W at hB hc0 hc1
  have hE := HE.out
  have hD := HD.out
  have hW := HW.out
  have hG := HG.out
  have hM := HM.out
  have hlt : w.heap.size < W.heap.size := World.block_lt_of_cell? _ _ hc0
  go_region_held3 (fun w' => w'.cell? ⟨w.heap.size, 0, none⟩ = some (.int .i64 a) ∧ w'.cell? ⟨w.heap.size, 1, none⟩ = some (.int .i64 p) ∧ Below w.heap.size w w' ∧ w.heap.size < w'.heap.size)
    (first | exact ⟨hc0, hc1, hB.trans ⟨rfl, rfl, rfl, Nat.le_refl _, fun _ _ => rfl⟩, hlt⟩ | exact ⟨‹_›, ‹_›, ‹_›, ‹_›⟩ | go_keep)
    (first
      | (go_at_call 70; refine (of_held _ w a p _ ?_).mono ?_; (first | assumption | exact ⟨‹_›, ‹_›, ‹_›, ‹_›⟩); rintro e w' ⟨rfl, hx0, hx1, hx2, hx3⟩)
      | (go_at_call 71; refine (HS.out _).mono ?_; rintro e w' ⟨rfl, rfl⟩))
  go_wp2
  go_ret
  exact ⟨rfl, by first | assumption | exact (by assumption : _ ∧ _ ∧ Below w.heap.size w _ ∧ _).2.2.1⟩

/-- Is a prefix's first address the one that its bits alone say? -/
def addr_right.f (a p : Int) : Option Bool :=
  some (if 0 ≤ p ∧ p ≤ 32 ∧ 0 ≤ a ∧ a ≤ 4294967295 then decide (a % 2 ^ (32 - p).toNat = 0) else false)

theorem right_pure {a sz : Int} (h : 1 ≤ sz) : decide (a = a / sz * sz) = decide (a % sz = 0) := by
  have h1 := Int.mul_ediv_add_emod a sz
  rw [Int.mul_comm] at h1
  generalize a / sz * sz = q at h1
  by_cases h2 : a % sz = 0
  · rw [decide_eq_true h2, decide_eq_true (by omega)]
  · rw [decide_eq_false h2, decide_eq_false (by omega)]

set_option maxRecDepth 100000 in
set_option maxHeartbeats 400000 in
theorem right_out (a p : Int) (w : World) (h : ¬ (0 ≤ p ∧ p ≤ 32 ∧ 0 ≤ a ∧ a ≤ 4294967295)) :
    Calls Tryz.prog 50 #[.agg #[.int .i64 a, .int .i64 p]] w fun e w' => e = .returned (.bool false) ∧ Below w.heap.size w w' := by
  by_cases h0 : 0 ≤ p
  · by_cases h1 : p ≤ 32
    · by_cases h2 : 0 ≤ a
      · have h3 : ¬ a ≤ 4294967295 := fun h4 => h ⟨h0, h1, h2, h4⟩
        clear h
        go_enter Tryz.func50, Tryz.ntmps50
        go_wp2
        go_ret
        exact ⟨rfl, (Below.refl _ _).alloc (Nat.le_refl _) _⟩
      · clear h
        go_enter Tryz.func50, Tryz.ntmps50
        go_wp2
        go_ret
        exact ⟨rfl, (Below.refl _ _).alloc (Nat.le_refl _) _⟩
    · clear h
      go_enter Tryz.func50, Tryz.ntmps50
      go_wp2
      go_ret
      exact ⟨rfl, (Below.refl _ _).alloc (Nat.le_refl _) _⟩
  · clear h
    go_enter Tryz.func50, Tryz.ntmps50
    go_wp2
    go_ret
    exact ⟨rfl, (Below.refl _ _).alloc (Nat.le_refl _) _⟩

theorem addr_right.calls (a0_0 a0_1 : Int) (r : Bool) (w : World) (h : addr_right.f a0_0 a0_1 = some r) :
    Calls Tryz.prog 50 #[.agg #[.int .i64 a0_0, .int .i64 a0_1]] w fun e w' => e = .returned (.bool r) ∧ Below w.heap.size w w' := by
  have h := Option.some.inj h
  subst h
  by_cases hc : 0 ≤ a0_1 ∧ a0_1 ≤ 32 ∧ 0 ≤ a0_0 ∧ a0_0 ≤ 4294967295
  · rw [if_pos hc]
    obtain ⟨h0, h1, h2, h3⟩ := hc
    obtain ⟨p0, p1⟩ := pow_le a0_1 h0 h1
    rw [← right_pure p0]
    exact right_in a0_0 a0_1 _ w h0 h1 h2 h3 p0 p1 (fun w => size_any a0_1 w h0 h1)
  · rw [if_neg hc]
    exact right_out a0_0 a0_1 w hc
end Go.Proofs.YthllfnmebdjpfaaGreatDoor.Hand

/- Plain law: LexScans. -/
import Derived.Test.YthllfnmebdjpfaaGreatDoorK4Pure11
import Derived.Test.YthllfnmebdjpfaaGreatDoorK4Hx14
namespace Go.Proofs.YthllfnmebdjpfaaGreatDoor.H
open Go.RowKit Go.Proofs.YthllfnmebdjpfaaGreatDoor.Hand Go.Proofs.YthllfnmebdjpfaaGreatDoorW.PrintWords Go.Proofs.YthllfnmebdjpfaaGreatDoorW.PrintLast Go.Proofs.YthllfnmebdjpfaaGreatDoorW.PrintMore

theorem same_refl_l0 (l : List S38) (hn : l.length ≤ 100000) : ∀ (d i k : Nat), i + d = l.length → d + 1 ≤ k → lychgatelaw08_same.l0 k l l (i : Int) = some true := by
  intro d
  induction d with
  | zero =>
    intro i k hi hk
    obtain ⟨k, rfl⟩ : ∃ m, k = m + 1 := ⟨k - 1, by omega⟩
    simp only [lychgatelaw08_same.l0]
    rw [if_neg (by omega)]
  | succ d ih =>
    intro i k hi hk
    obtain ⟨k, rfl⟩ : ∃ m, k = m + 1 := ⟨k - 1, by omega⟩
    rw [lychgatelaw08_same.l0]
    rw [if_pos (by omega), if_pos (by omega), if_pos (by omega), if_neg (by simp), wrap_nat i (by omega), ih (i + 1) k (by omega) (by omega)]
theorem same_refl (l : List S38) (hn : l.length ≤ 100000) (k : Nat) (hk : l.length + 1 ≤ k) : lychgatelaw08_same.f k l l = some true := by
  unfold lychgatelaw08_same.f
  rw [if_pos rfl]
  exact same_refl_l0 l hn l.length 0 k (by omega) (by omega)

theorem scanS_length : ∀ (d : Nat) (u : List UInt8) (p : Nat) (l : List S38), scanS d u p = .inr l → l.length ≤ u.length + 1 := by
  intro d
  induction d with
  | zero => intro u p l h; cases h
  | succ d ih =>
    intro u p l h
    match u with
    | [] =>
      have := Sum.inr.inj h
      subst this
      exact Nat.le_refl _
    | b :: r =>
      rw [scanS] at h
      match ht : tokS (b :: r) with
      | .inl e => rw [ht] at h; cases h
      | .inr (t, n) =>
        rw [ht] at h
        have hl := tok_len _ _ _ ht
        match hs : scanS d ((b :: r).drop n) (p + n) with
        | .inl x => simp only [hs] at h; cases h
        | .inr ts =>
          simp only [hs] at h
          have h1 := ih _ _ _ hs
          rw [List.length_drop] at h1
          have h2 := Sum.inr.inj h
          subst h2
          split
          · omega
          · rw [List.length_cons]; omega
theorem scanA_length (s : ByteArray) : (scanA s).1.length ≤ 8001 := by
  have hl := bl_length s
  unfold scanA
  split
  · exact Nat.zero_le _
  · match h : scanS (s.size + 1) (bl s) 0 with
    | .inl (e, p) => exact Nat.zero_le _
    | .inr l =>
      have := scanS_length _ _ _ _ h
      show (([] : List S38) ++ l).length ≤ 8001
      rw [List.nil_append]
      omega

theorem apart_same (xs : List (List S38)) (h0 : 0 < xs.length) (h1 : xs.length ≤ 100) (hx : ∀ x ∈ xs, x.length ≤ 8001) : lychgatelaw08_apart.f xs xs = some true := by
  unfold lychgatelaw08_apart.f
  refine if_pos ⟨h0, h1, rfl, ?_⟩
  rw [List.all_eq_true]
  intro p hp
  have he : p.1 = p.2 ∧ p.1 ∈ xs := by
    obtain ⟨i, hi, rfl⟩ := List.getElem_of_mem hp
    rw [List.getElem_zip]
    exact ⟨rfl, List.getElem_mem _⟩
  have hl := hx p.1 he.2
  rw [← he.1, same_refl p.1 (by omega) 200000 (by omega), decide_eq_true (show p.1.length ≤ 100000 by omega)]
  rfl

theorem scans_l0 (l : List ByteArray) (hn : l.length ≤ 100) (h0 : 0 < l.length) : ∀ (d i k : Nat), i + d = l.length → 70000 + d + 1 ≤ k →
    lychgatelaw08_LexScans.l0 k true l ((l.take i).map fun s => (scanA s).1) ((l.take i).map fun s => (scanA s).1) (i : Int) = some true := by
  intro d
  induction d with
  | zero =>
    intro i k hi hk
    obtain ⟨k, rfl⟩ : ∃ m, k = m + 1 := ⟨k - 1, by omega⟩
    rw [lychgatelaw08_LexScans.l0]
    rw [if_neg (by omega), apart_same _ (by rw [List.length_map, List.length_take]; omega) (by rw [List.length_map, List.length_take]; omega) (fun x hx => by
      obtain ⟨s, _, rfl⟩ := List.mem_map.1 hx
      exact scanA_length s)]
    rfl
  | succ d ih =>
    intro i k hi hk
    obtain ⟨k, rfl⟩ : ∃ m, k = m + 1 := ⟨k - 1, by omega⟩
    have hlt : i < l.length := by omega
    have hr : rdOf ByteArray.empty l (i : Int) = l[i] := by
      unfold rdOf
      rw [Int.toNat_natCast, List.getD_eq_getElem?_getD, List.getElem?_eq_getElem hlt]
      rfl
    have hlen := scanA_length l[i]
    rw [lychgatelaw08_LexScans.l0]
    rw [if_pos (by omega), if_pos (by omega), hr, scan_ev _ k (by omega), ref_scan_ev _ k (by omega)]
    simp only [Option.bind_some]
    rw [same_refl _ (by omega) k (by omega)]
    simp only [Option.bind_some, if_true]
    have hml : ((l.take i).map fun s => (scanA s).1).length = i := by rw [List.length_map, List.length_take]; omega
    rw [if_pos (by omega), if_pos (by omega), wrap_nat i (by omega)]
    have htk : ((l.take i).map fun s => (scanA s).1) ++ [(scanA l[i]).1] = (l.take (i + 1)).map fun s => (scanA s).1 := by
      rw [List.take_succ_eq_append_getElem hlt, List.map_append]
      rfl
    rw [htk]
    exact ih (i + 1) k (by omega) (by omega)

theorem add_ev (a b : Nat) (ha : a ≤ 140737488351232) (hb : b ≤ 140737488351232) : lychgatelaw08_add.f (a : Int) (b : Int) = some (if a + b ≤ 2147483647 then ((a + b : Nat) : Int) else 2147483648) := by
  unfold lychgatelaw08_add.f
  by_cases h : a + b ≤ 2147483647
  · rw [if_pos h, if_neg (by unfold wrap64; omega)]
    congr 1
    unfold wrap64
    omega
  · rw [if_neg h, if_pos (by unfold wrap64; omega)]

/-- LexScans answers true. -/
theorem LexScans_pure (a0 a1 : ByteArray) (h0 : a0.size ≤ 140737488351232) (h1 : a1.size ≤ 140737488351232) : ∃ k, lychgatelaw08_LexScans.f k a0 a1 = some true := by
  refine ⟨80000, ?_⟩
  unfold lychgatelaw08_LexScans.f
  rw [add_ev _ _ h0 h1]
  simp only [Option.bind_some]
  by_cases h : a0.size + a1.size ≤ 536870911
  · have hm : mn ((a0.size + a1.size : Nat) : Int) 2147483647 = ((a0.size + a1.size : Nat) : Int) := by unfold mn; omega
    rw [if_pos (show a0.size + a1.size ≤ 2147483647 by omega), hm, if_neg (by unfold wrap64; omega), awake_ev 80000 (by omega)]
    have e1 : (⟨#[32]⟩ : ByteArray).size = 1 := rfl
    have e2 : (⟨#[35]⟩ : ByteArray).size = 1 := rfl
    have e3 : (⟨#[10]⟩ : ByteArray).size = 1 := rfl
    simp only [Option.bind_some]
    rw [if_pos (by omega), if_pos (by omega), if_pos (by rw [ByteArray.size_append]; omega), if_pos (by rw [ByteArray.size_append]; omega), if_pos (by rw [ByteArray.size_append, ByteArray.size_append]; omega), if_pos (by rw [ByteArray.size_append, ByteArray.size_append, ByteArray.size_append]; omega)]
    have := scans_l0 [a0, a1, a0, a0 ++ a1, (a0 ++ (⟨#[32]⟩ : ByteArray)) ++ a1, (((a0 ++ (⟨#[35]⟩ : ByteArray)) ++ a1) ++ (⟨#[10]⟩ : ByteArray)) ++ a0] (by simp) (by simp) 6 0 80000 rfl (by omega)
    exact this
  · have hm : 536870912 ≤ mn (if a0.size + a1.size ≤ 2147483647 then ((a0.size + a1.size : Nat) : Int) else 2147483648) 2147483647 ∧ mn (if a0.size + a1.size ≤ 2147483647 then ((a0.size + a1.size : Nat) : Int) else 2147483648) 2147483647 ≤ 2147483647 := by
      unfold mn
      split <;> split <;> omega
    rw [if_pos (by unfold wrap64; omega)]
end Go.Proofs.YthllfnmebdjpfaaGreatDoor.H

/- Plain law: what stands at a source's front, and what Scan answers, as functions of the bytes alone. -/
/- Plain law: Scan as a function of the bytes alone; what stands ahead of a place, and behind it. -/
/- Plain law: where a fault is found: what stands ahead of it, and behind it. -/
/- Plain law: blanks put between the tokens of a source change none of them. -/
import Derived.Test.YthllfnmebdjpfaaGreatDoorK4Pure3
import Derived.Test.YthllfnmebdjpfaaGreatDoorK4Hx6
import Derived.Lib.LazyBuf
section
namespace Go.Proofs.YthllfnmebdjpfaaGreatDoor.H
open Go.RowKit Go.Proofs.YthllfnmebdjpfaaGreatDoor.Hand Go.Proofs.YthllfnmebdjpfaaGreatDoorW.PrintWords Go.Proofs.YthllfnmebdjpfaaGreatDoorW.PrintLast Go.Proofs.YthllfnmebdjpfaaGreatDoorW.PrintMore

theorem nums_toS (l : List UInt8) : strOfNums (l.map fun b => (b.toNat : Int)) = toS l := Go.Lib.Lz.strOfNums_map l
theorem bl_toS (l : List UInt8) : bl (toS l) = l := rfl
theorem toS_bl (s : ByteArray) : toS (bl s) = s := rfl

/-- What stands behind a quote, up to the next one: what it means, and how many bytes it takes. -/
def qdS : List UInt8 → Option (List UInt8 × Nat)
  | [] => none
  | [c] => if c.toNat = 34 then some ([], 1) else none
  | c :: d :: r =>
    if c.toNat = 34 then some ([], 1)
    else if c.toNat = 92 then (if d.toNat = 34 ∨ d.toNat = 92 then (qdS r).map (fun x => (d :: x.1, x.2 + 2)) else none)
    else if c.toNat < 32 ∨ 126 < c.toNat then none
    else (qdS (d :: r)).map (fun x => (c :: x.1, x.2 + 1))
theorem qdS_end (c : UInt8) (r : List UInt8) (h : c.toNat = 34) : qdS (c :: r) = some ([], 1) := by
  cases r <;> simp [qdS, h]
theorem qdS_esc (c d : UInt8) (r : List UInt8) (h : c.toNat = 92) : qdS (c :: d :: r) = if d.toNat = 34 ∨ d.toNat = 92 then (qdS r).map (fun x => (d :: x.1, x.2 + 2)) else none := by
  simp [qdS, h]
theorem qdS_bad (c : UInt8) (r : List UInt8) (h : c.toNat < 32 ∨ 126 < c.toNat) : qdS (c :: r) = none := by
  cases r with
  | nil => simp only [qdS]; rw [if_neg (by omega)]
  | cons d r => simp only [qdS]; rw [if_neg (by omega), if_neg (by omega), if_pos h]
theorem qdS_char (c : UInt8) (r : List UInt8) (h1 : c.toNat ≠ 34) (h2 : c.toNat ≠ 92) (h : ¬ (c.toNat < 32 ∨ 126 < c.toNat)) : qdS (c :: r) = (qdS r).map (fun x => (c :: x.1, x.2 + 1)) := by
  cases r with
  | nil => simp only [qdS]; rw [if_neg h1]; rfl
  | cons d r => simp only [qdS]; rw [if_neg h1, if_neg h2, if_neg h]

/-- What a text that is under way answers. -/
def qdR (acc : List UInt8) (i : Nat) : Option (List UInt8 × Nat) → ByteArray × Int × Bool
  | some (o, n) => (toS (acc ++ o), ((i + n : Nat) : Int), decide ((acc ++ o).length ≤ 200))
  | none => ((⟨#[]⟩ : ByteArray), 0, false)
theorem qdR_step (acc : List UInt8) (c : UInt8) (i m : Nat) (x : Option (List UInt8 × Nat)) : qdR (acc ++ [c]) (i + m) x = qdR acc i (x.map fun x => (c :: x.1, x.2 + m)) := by
  cases x with
  | none => rfl
  | some x =>
    simp only [qdR, Option.map_some, List.append_assoc, List.cons_append, List.nil_append]
    rw [show i + m + x.2 = i + (x.2 + m) by omega]

theorem quoted_l0 (s : ByteArray) (hz : s.size ≤ 8000) : ∀ (d i k : Nat) (acc : List UInt8), i + d = (bl s).length → d + 1 ≤ k → acc.length ≤ i →
    lex_quoted.l0 k s (acc.map fun b => (b.toNat : Int)) (i : Int) = some (qdR acc i (qdS ((bl s).drop i))) := by
  have hl := bl_length s
  intro d
  induction d using Nat.strongRecOn with
  | _ d ih =>
  intro i k acc hi hk ha
  obtain ⟨k, rfl⟩ : ∃ m, k = m + 1 := ⟨k - 1, by omega⟩
  have hm : (acc.map fun b => (b.toNat : Int)).length = acc.length := List.length_map ..
  simp only [lex_quoted.l0]
  by_cases hd : d = 0
  · rw [if_neg (by omega), List.drop_of_length_le (by omega)]; rfl
  have hlt : i < (bl s).length := by omega
  rw [if_pos (by omega), if_pos (by omega), bt_nat s i hlt, wrap_nat i (by omega), drop_at _ i hlt]
  have hbr := (bl s)[i].toNat_lt
  generalize (bl s)[i] = c at hbr
  by_cases h34 : c.toNat = 34
  · rw [if_pos (by omega), qdS_end _ _ h34, nums_toS, hm]
    simp [qdR]
    omega
  rw [if_neg (by omega)]
  have snoc : ∀ e : UInt8, (acc.map fun b => (b.toNat : Int)) ++ [(e.toNat : Int)] = (acc ++ [e]).map fun b => (b.toNat : Int) := fun e => by simp
  have hl1 : ∀ e : UInt8, (acc ++ [e]).length = acc.length + 1 := fun e => by simp
  by_cases h92 : c.toNat = 92
  · rw [if_pos (by omega)]
    by_cases he : i + 1 = (bl s).length
    · rw [if_pos (by omega), List.drop_of_length_le (by omega)]
      simp only [qdS]
      rw [if_neg h34]; rfl
    have hlt' : i + 1 < (bl s).length := by omega
    rw [if_neg (by omega), if_pos (by omega), if_pos (by omega), bt_nat s (i + 1) hlt', wrap_nat (i + 1) (by omega), drop_at _ (i + 1) hlt', qdS_esc _ _ _ h92]
    have hbr' := (bl s)[i + 1].toNat_lt
    generalize (bl s)[i + 1] = e at hbr'
    have key := fun (h : e.toNat = 34 ∨ e.toNat = 92) => ih (d - 2) (by omega) (i + 2) k (acc ++ [e]) (by omega) (by omega) (by rw [hl1]; omega)
    rw [show i + 1 + 1 = i + 2 by omega, snoc]
    by_cases g : e.toNat = 34
    · rw [if_pos (by omega), if_pos (by omega), if_pos (.inl g), key (.inl g), qdR_step]
    · rw [if_neg (by omega)]
      by_cases g2 : e.toNat = 92
      · rw [if_pos (by omega), if_pos (by omega), if_pos (.inr g2), key (.inr g2), qdR_step]
      · rw [if_neg (by omega), if_neg (by omega)]; rfl
  rw [if_neg (by omega)]
  by_cases h32 : c.toNat < 32
  · rw [if_pos (by omega), qdS_bad _ _ (.inl h32)]; rfl
  rw [if_neg (by omega)]
  by_cases h126 : 126 < c.toNat
  · rw [if_pos (by omega), qdS_bad _ _ (.inr h126)]; rfl
  rw [if_neg (by omega), if_pos (by omega), snoc, qdS_char _ _ h34 h92 (by omega), ih (d - 1) (by omega) (i + 1) k (acc ++ [c]) (by omega) (by omega) (by rw [hl1]; omega), qdR_step]

/-- What a text in quotes is. -/
theorem quoted_ev (s : ByteArray) (hz : s.size ≤ 8000) (h0 : 0 < s.size) (k : Nat) (hk : s.size + 1 ≤ k) : lex_quoted.f k s = some (qdR [] 1 (qdS ((bl s).drop 1))) := by
  have hl := bl_length s
  have := quoted_l0 s hz ((bl s).length - 1) 1 k [] (by omega) (by omega) (by simp)
  exact this

theorem qdS_pre : ∀ (m : Nat) (u : List UInt8) (o : List UInt8) (n : Nat), u.length ≤ m → qdS u = some (o, n) → n ≤ u.length ∧ 0 < n ∧ ∀ v : List UInt8, qdS (u.take n ++ v) = some (o, n) := by
  intro m
  induction m with
  | zero =>
    intro u o n hm h
    match u with
    | [] => cases h
    | c :: r => rw [List.length_cons] at hm; omega
  | succ m ih =>
    intro u o n hm h
    match u with
    | [] => cases h
    | c :: r =>
      rw [List.length_cons] at hm
      by_cases h34 : c.toNat = 34
      · rw [qdS_end c r h34] at h
        obtain ⟨rfl, rfl⟩ := Prod.mk.inj (Option.some.inj h)
        refine ⟨by simp, by decide, fun v => ?_⟩
        exact qdS_end c v h34
      by_cases h92 : c.toNat = 92
      · match r with
        | [] => simp only [qdS] at h; rw [if_neg h34] at h; cases h
        | e :: r =>
          rw [qdS_esc c e r h92] at h
          rw [List.length_cons] at hm
          by_cases he : e.toNat = 34 ∨ e.toNat = 92
          · rw [if_pos he] at h
            match hq : qdS r with
            | none => rw [hq] at h; cases h
            | some (o', n') =>
              rw [hq] at h
              obtain ⟨rfl, rfl⟩ := Prod.mk.inj (Option.some.inj h)
              obtain ⟨h1, h2, h3⟩ := ih r o' n' (by omega) hq
              refine ⟨by simp; omega, by omega, fun v => ?_⟩
              show qdS (c :: e :: (r.take n' ++ v)) = _
              rw [qdS_esc c e _ h92, if_pos he, h3 v]
              rfl
          · rw [if_neg he] at h; cases h
      by_cases hb : c.toNat < 32 ∨ 126 < c.toNat
      · rw [qdS_bad c r hb] at h; cases h
      · rw [qdS_char c r h34 h92 hb] at h
        match hq : qdS r with
        | none => rw [hq] at h; cases h
        | some (o', n') =>
          rw [hq] at h
          obtain ⟨rfl, rfl⟩ := Prod.mk.inj (Option.some.inj h)
          obtain ⟨h1, h2, h3⟩ := ih r o' n' (by omega) hq
          refine ⟨by simp; omega, by omega, fun v => ?_⟩
          show qdS (c :: (r.take n' ++ v)) = _
          rw [qdS_char c _ h34 h92 hb, h3 v]
          rfl


def numS (x : ByteArray) : Int × ByteArray × Int × Int × Int × Int × Bool := (lex_numbered.f x).getD (0, ⟨#[]⟩, 0, 0, 0, 0, false)
theorem cut_size (s sep : List UInt8) : (Lib.cut s sep).1.length ≤ s.length ∧ (Lib.cut s sep).2.1.length ≤ s.length := by
  unfold Lib.cut
  split
  · exact ⟨by rw [List.length_take]; omega, by rw [List.length_drop]; omega⟩
  · exact ⟨Nat.le_refl _, Nat.zero_le _⟩
theorem toS_size (l : List UInt8) : (toS l).size = l.length := rfl
theorem addr_parse_some (x : ByteArray) (hz : x.size ≤ 8000) : ∃ r, addr_Parse.f x = some r := by
  unfold addr_Parse.f
  rw [if_pos (by omega)]
  exact ⟨_, rfl⟩
theorem addr_number_some (x : ByteArray) (m : Int) (hz : x.size ≤ 8000) (hm : m ≤ 4294967295) : ∃ r, addr_number.f x m = some r := by
  unfold addr_number.f
  rw [if_pos ⟨by omega, hm⟩]
  exact ⟨_, rfl⟩
theorem prefix_some (x : ByteArray) (hz : x.size ≤ 8000) : ∃ r, addr_ParsePrefix.f x = some r := by
  have hl : x.data.toList.length = x.size := bl_length x
  unfold addr_ParsePrefix.f strings_Cut.f
  rw [if_pos (by omega)]
  simp only [Option.bind_some]
  have hc := cut_size x.data.toList (ByteArray.mk #[47]).data.toList
  generalize Lib.cut x.data.toList (ByteArray.mk #[47]).data.toList = y at hc
  obtain ⟨p, hp⟩ := addr_parse_some (toS y.1) (by rw [toS_size]; omega)
  obtain ⟨q, hq⟩ := addr_number_some (toS y.2.1) 32 (by rw [toS_size]; omega) (by decide)
  rw [hp, hq]
  simp only [Option.bind_some, addr_right.f]
  repeat' (first | exact ⟨_, rfl⟩ | split)
theorem num_ev (x : ByteArray) (hz : x.size ≤ 8000) (ha : x.data.toList.all (fun b => decide (b.toNat < 128)) = true) : lex_numbered.f x = some (numS x) := by
  have : ∃ r, lex_numbered.f x = some r := by
    unfold lex_numbered.f strings_ContainsAny.f
    rw [if_pos ⟨by omega, by decide, ha, by decide⟩]
    simp only [Option.bind_some]
    split
    · obtain ⟨r, hr⟩ := prefix_some x hz
      rw [hr]
      exact ⟨_, rfl⟩
    · rw [if_pos (by omega)]
      exact ⟨_, rfl⟩
  obtain ⟨r, h⟩ := this
  rw [numS, h]; rfl

/-- A token whose bytes are known. -/
def finS (i : Int) (x : ByteArray) : Int ⊕ (S38 × Nat) :=
  if i = 3 then (if isWordS x = true then .inr (⟨1, x, 0, ⟨0, 0⟩, 0⟩, x.size) else if x.size > 32 then .inl 82 else .inr (⟨2, x, 0, ⟨0, 0⟩, 0⟩, x.size))
  else if i = 4 then (if x.size > 16 then .inl 82 else .inr (⟨3, x, 0, ⟨0, 0⟩, 0⟩, x.size))
  else if i = 5 then (if (numS x).2.2.2.2.2.2 = true then .inr (⟨(numS x).1, (numS x).2.1, (numS x).2.2.1, ⟨(numS x).2.2.2.1, (numS x).2.2.2.2.1⟩, 0⟩, x.size) else .inl 81)
  else if i = 7 then .inr (⟨7, x, 0, ⟨0, 0⟩, 0⟩, x.size)
  else .inr (⟨0, x, 0, ⟨0, 0⟩, 0⟩, x.size)
/-- What stands at a source's front, and how long it is there; or what is wrong. -/
def tokS : List UInt8 → Int ⊕ (S38 × Nat)
  | [] => .inl 80
  | b :: r =>
    if beginsS (b.toNat : Int) = 6 then
      match qdS r with
      | some (o, n) => if o.length ≤ 200 then .inr (⟨6, toS o, 0, ⟨0, 0⟩, 0⟩, n + 1) else .inl 83
      | none => .inl 83
    else if beginsS (b.toNat : Int) = 0 then .inl 80
    else finS (beginsS (b.toNat : Int)) (toS ((b :: r).take (runS (beginsS (b.toNat : Int)) (b :: r))))

theorem runS_le (i : Int) (l : List UInt8) : runS i l ≤ l.length := by
  cases l with
  | nil => exact Nat.le_refl _
  | cons b r =>
    have := (List.takeWhile_prefix (gB i) (l := r)).length_le
    show 1 + _ ≤ r.length + 1
    omega
theorem runS_pos (i : Int) (b : UInt8) (r : List UInt8) : 0 < runS i (b :: r) := by
  show 0 < 1 + _
  omega
theorem run_some (i : Int) (s : ByteArray) (hz : s.size ≤ 8000) (h0 : 0 < s.size) : ∃ r : Nat, lex_run.f i s = some (r : Int) ∧ r ≤ s.size := by
  have hl := bl_length s
  by_cases hb : (s[0]'h0).toNat < 128
  · exact ⟨_, lex_run_eq i s (by omega) h0 hb, by rw [← hl]; exact runS_le _ _⟩
  · unfold lex_run.f
    rw [if_pos (by omega), lex_run.go, if_pos h0, if_neg (by omega)]
    have hw := lex_run.width s 0 h0
    have hd := decode_bytes s 0 h0 (by omega)
    generalize (Utf8.decode s 0).2 = w at hw hd
    obtain ⟨h', _⟩ := hd (w - 1) (by omega)
    rw [run_tail i s s.size (0 + w) (by omega) (by omega) (by omega)]
    refine ⟨_, rfl, ?_⟩
    have := (List.takeWhile_prefix (gB i) (l := (bl s).drop (0 + w))).length_le
    rw [List.length_drop] at this
    omega
theorem gB5_low (b : UInt8) (h : gB 5 b = true) : b.toNat < 128 := by
  unfold gB goesS at h
  rw [if_neg (by decide), if_neg (by decide), if_neg (by decide), if_neg (by decide), if_pos rfl] at h
  have := of_decide_eq_true h
  omega
theorem begins_5 (c : Int) (h : beginsS c = 5) : 48 ≤ c ∧ c ≤ 57 := by
  unfold beginsS at h
  split at h
  · cases h
  split at h
  · cases h
  split at h
  · cases h
  split at h
  · cases h
  split at h
  · assumption
  split at h
  · cases h
  split at h <;> cases h
theorem begins_high (c : Int) (h : 128 ≤ c) : beginsS c = 0 := by unfold beginsS; repeat rw [if_neg (by omega)]
theorem take_extract (s : ByteArray) (n : Nat) : s.extract 0 n = toS ((bl s).take n) := by
  apply ByteArray.ext
  apply Array.toList_inj.1
  simp [toS, bl, ByteArray.data_extract, Array.toList_extract]
theorem drop_extract (s : ByteArray) (n : Nat) : s.extract n s.size = toS ((bl s).drop n) := by
  apply ByteArray.ext
  apply Array.toList_inj.1
  simp [toS, bl, ByteArray.data_extract, Array.toList_extract]
  exact List.take_of_length_le (by rw [List.length_drop, show s.data.toList.length = s.size from bl_length s]; omega)
theorem run_front (i : Int) (b : UInt8) (r : List UInt8) : (b :: r).take (runS i (b :: r)) = b :: r.takeWhile (gB i) := by
  have e : runS i (b :: r) = (r.takeWhile (gB i)).length + 1 := by show 1 + _ = _; omega
  rw [e, List.take_succ_cons, ← (List.prefix_iff_eq_take).1 (List.takeWhile_prefix (gB i))]

/-- What token answers. -/
theorem token_ev (s : ByteArray) (hz : s.size ≤ 8000) (h0 : 0 < s.size) (k : Nat) (hk : 9000 ≤ k) :
    match tokS (bl s) with
    | .inl e => e ≠ 0 ∧ ∃ v, lex_token.f k s = some v ∧ v.2.2.2.2.2.2.2 = e
    | .inr (t, n) => 0 < n ∧ n ≤ s.size ∧ ∃ z, lex_token.f k s = some (t.f0, t.f1, t.f2, t.f3.f0, t.f3.f1, z, (n : Int), 0) := by
  have hl := bl_length s
  unfold lex_token.f
  match hb : bl s with
  | [] => rw [hb] at hl; simp at hl; omega
  | b :: r =>
    have hbt : bt s 0 = (b.toNat : Int) := by
      have := bt_nat s 0 (by rw [hb]; simp)
      simpa [hb] using this
    have hg : s[0]'h0 = b := by
      have h1 := bl_get s 0 h0
      rw [← h1]
      simp [hb]
    have hbr := b.toNat_lt
    rw [if_pos (by omega), hbt, wrap32_byte _ (by omega) (by omega), lex_begins_eq]
    simp only [Option.bind_some, tokS]
    by_cases h6 : beginsS (b.toNat : Int) = 6
    · rw [if_pos h6, if_pos h6, quoted_ev s hz h0 k (by omega), hb]
      simp only [Option.bind_some, List.drop_succ_cons, List.drop_zero]
      match hq : qdS r with
      | none => exact ⟨by decide, _, rfl, rfl⟩
      | some (o, n) =>
        simp only [qdR, List.nil_append]
        have hn : n ≤ r.length := (qdS_pre r.length r o n (Nat.le_refl _) hq).1
        have hln : (b :: r).length = s.size := by rw [← hb, hl]
        rw [List.length_cons] at hln
        by_cases hh : o.length ≤ 200
        · rw [if_pos hh]
          refine ⟨by omega, by omega, 0, (if_pos (decide_eq_true hh)).trans ?_⟩
          rw [Nat.add_comm 1 n]
        · rw [if_neg hh]
          exact ⟨by decide, _, if_neg (by simpa using hh), rfl⟩
    rw [if_neg h6, if_neg h6]
    by_cases hi0 : beginsS (b.toNat : Int) = 0
    · obtain ⟨x, hx, hxl⟩ := run_some (beginsS (b.toNat : Int)) s hz h0
      rw [if_pos hi0, hx, hi0]
      simp only [Option.bind_some]
      rw [if_pos (by omega), if_pos (by omega), if_neg (by decide), if_neg (by decide), if_neg (by decide), if_neg (by decide), if_pos trivial]
      exact ⟨by decide, _, rfl, rfl⟩
    rw [if_neg hi0]
    have hlow : b.toNat < 128 := by
      rcases Nat.lt_or_ge b.toNat 128 with h | h
      · exact h
      · exact absurd (begins_high _ (by omega)) hi0
    rw [lex_run_eq _ s (by omega) h0 (by rw [hg]; exact hlow), hb]
    have hle := runS_le (beginsS (b.toNat : Int)) (b :: r)
    have hpos := runS_pos (beginsS (b.toNat : Int)) b r
    have hsz : (b :: r).length = s.size := by rw [← hb, hl]
    have hnum : beginsS (b.toNat : Int) = 5 → (toS ((b :: r).take (runS (beginsS (b.toNat : Int)) (b :: r)))).data.toList.all (fun b => decide (b.toNat < 128)) = true := by
      intro h5
      rw [h5, run_front]
      show (b :: r.takeWhile (gB 5)).all _ = true
      rw [List.all_cons, decide_eq_true hlow, Bool.true_and, List.all_eq_true]
      intro x hx
      exact decide_eq_true (gB5_low x (List.all_eq_true.1 List.all_takeWhile x hx))
    generalize hR : runS (beginsS (b.toNat : Int)) (b :: r) = R at hle hpos hnum
    generalize hI : beginsS (b.toNat : Int) = I at hi0 h6 hnum
    simp only [Option.bind_some]
    rw [if_pos (by omega), if_pos (by omega), Int.toNat_natCast, take_extract, hb]
    have hxs : (toS ((b :: r).take R)).size = R := by rw [toS_size, List.length_take]; omega
    generalize toS ((b :: r).take R) = x at hxs hnum
    unfold finS
    by_cases h3 : I = 3
    · rw [if_pos h3, if_pos h3, lex_isword_eq x k (by omega)]
      simp only [Option.bind_some]
      by_cases hw : isWordS x = true
      · rw [if_pos hw, if_pos hw]
        exact ⟨by omega, by omega, 0, by rw [hxs]⟩
      · rw [if_neg hw, if_neg hw]
        by_cases hbig : x.size > 32
        · rw [if_pos hbig, if_pos (by omega)]
          exact ⟨by decide, _, rfl, rfl⟩
        · rw [if_neg hbig, if_neg (by omega)]
          exact ⟨by omega, by omega, 0, by rw [hxs]⟩
    rw [if_neg h3, if_neg h3]
    by_cases h4 : I = 4
    · rw [if_pos h4, if_pos h4]
      by_cases hbig : x.size > 16
      · rw [if_pos hbig, if_pos (by omega)]
        exact ⟨by decide, _, rfl, rfl⟩
      · rw [if_neg hbig, if_neg (by omega)]
        exact ⟨by omega, by omega, 0, by rw [hxs]⟩
    rw [if_neg h4, if_neg h4]
    by_cases h5 : I = 5
    · rw [if_pos h5, if_pos h5, num_ev x (by omega) (hnum h5)]
      simp only [Option.bind_some]
      by_cases ho : (numS x).2.2.2.2.2.2 = true
      · rw [if_pos ho, if_pos ho]
        exact ⟨by omega, by omega, _, by rw [hxs]⟩
      · rw [if_neg ho, if_neg ho]
        exact ⟨by decide, _, rfl, rfl⟩
    rw [if_neg h5, if_neg h5]
    by_cases h7 : I = 7
    · rw [if_pos h7, if_pos h7]
      exact ⟨by omega, by omega, 0, by rw [hxs]⟩
    rw [if_neg h7, if_neg h7, if_neg hi0]
    exact ⟨by omega, by omega, 0, by rw [hxs]⟩
end Go.Proofs.YthllfnmebdjpfaaGreatDoor.H
end

section
namespace Go.Proofs.YthllfnmebdjpfaaGreatDoor.H
open Go.RowKit Go.Proofs.YthllfnmebdjpfaaGreatDoor.Hand Go.Proofs.YthllfnmebdjpfaaGreatDoorW.PrintWords Go.Proofs.YthllfnmebdjpfaaGreatDoorW.PrintLast Go.Proofs.YthllfnmebdjpfaaGreatDoorW.PrintMore

/-- A token with its place. -/
def atS (t : S38) (p : Nat) : S38 := ⟨t.f0, t.f1, t.f2, t.f3, (p : Int)⟩
def endS (p : Nat) : S38 := ⟨8, ⟨#[]⟩, 0, ⟨0, 0⟩, (p : Int)⟩
/-- The tokens of a source, its front at a place; or what is wrong, and where. -/
def scanS : Nat → List UInt8 → Nat → (Int × Nat) ⊕ List S38
  | 0, _, p => .inl (0, p)
  | _ + 1, [], p => .inr [endS p]
  | d + 1, b :: r, p =>
    match tokS (b :: r) with
    | .inl e => .inl (e, p)
    | .inr (t, n) =>
      match scanS d ((b :: r).drop n) (p + n) with
      | .inl x => .inl x
      | .inr ts => .inr (if t.f0 = 0 then ts else atS t p :: ts)
/-- What Scan answers. -/
def scanR (acc : List S38) : (Int × Nat) ⊕ List S38 → List S38 × Int × Int
  | .inl (e, p) => ([], e, (p : Int))
  | .inr ts => (acc ++ ts, 0, 0)

theorem scan_l0 (s : ByteArray) (hz : s.size ≤ 8000) : ∀ (d i k : Nat) (acc : List S38), s.size - i < d → i ≤ s.size → 9000 + d ≤ k → acc.length ≤ i →
    lex_Scan.l0 k s acc (i : Int) = some (scanR acc (scanS d ((bl s).drop i) i)) := by
  have hl := bl_length s
  intro d
  induction d with
  | zero => intro i k acc h; omega
  | succ d ih =>
    intro i k acc hd hi hk ha
    obtain ⟨k, rfl⟩ : ∃ m, k = m + 1 := ⟨k - 1, by omega⟩
    simp only [lex_Scan.l0]
    by_cases he : i = s.size
    · rw [if_neg (by omega), if_pos (by omega), List.drop_of_length_le (by omega), he]
      rfl
    · have hlt : i < (bl s).length := by omega
      have hx : s.extract i s.size = toS ((bl s).drop i) := drop_extract s i
      have hsz : (toS ((bl s).drop i)).size = s.size - i := by rw [toS_size, List.length_drop, hl]
      have ht := token_ev (toS ((bl s).drop i)) (by omega) (by omega) k (by omega)
      rw [bl_toS] at ht
      rw [if_pos (by omega), if_pos (by omega), if_pos (by omega), Int.toNat_natCast, hx]
      rw [drop_at _ i hlt] at ht ⊢
      rw [scanS]
      match htk : tokS ((bl s)[i] :: (bl s).drop (i + 1)) with
      | .inl e =>
        rw [htk] at ht
        obtain ⟨h0, v, hv, hve⟩ := ht
        rw [hv]
        simp only [Option.bind_some]
        rw [if_neg (by rw [hve]; exact h0), hve]
        rfl
      | .inr (t, n) =>
        rw [htk] at ht
        obtain ⟨h0, hn, z, hv⟩ := ht
        rw [← drop_at _ i hlt] at hv hn ⊢
        rw [hsz] at hn
        rw [hv]
        simp only [Option.bind_some]
        rw [if_pos trivial, show wrap64 ((i : Int) + (n : Int)) = ((i + n : Nat) : Int) by unfold wrap64; omega, List.drop_drop]
        by_cases hk0 : t.f0 = 0
        · rw [if_pos hk0, ih (i + n) k acc (by omega) (by omega) (by omega) (by omega)]
          simp only [if_pos hk0]
          cases scanS d ((bl s).drop (i + n)) (i + n) <;> rfl
        · have hl2 : (acc ++ [atS t i]).length = acc.length + 1 := by simp
          rw [if_neg hk0, if_pos (by omega)]
          show lex_Scan.l0 k s (acc ++ [atS t i]) _ = _
          rw [ih (i + n) k (acc ++ [atS t i]) (by omega) (by omega) (by omega) (by omega)]
          simp only [if_neg hk0]
          cases scanS d ((bl s).drop (i + n)) (i + n) with
          | inl x => rfl
          | inr ts => simp [scanR, List.append_assoc]

/-- Scan, of any text. -/
def scanA (s : ByteArray) : List S38 × Int × Int := if s.size > 8000 then ([], 84, 8000) else scanR [] (scanS (s.size + 1) (bl s) 0)
theorem scan_ev (s : ByteArray) (k : Nat) (hk : 18000 ≤ k) : lex_Scan.f k s = some (scanA s) := by
  unfold lex_Scan.f scanA
  by_cases h : s.size > 8000
  · rw [if_pos (by omega), if_pos h]
  · rw [if_neg (by omega), if_neg h]
    exact scan_l0 s (by omega) (s.size + 1) 0 k [] (by omega) (by omega) (by omega) (by simp)

/-- Does what begins with a byte end ahead of the next one? -/
def stops (i : Int) : List UInt8 → Bool
  | [] => true
  | b :: _ => !gB i b
theorem runS_app (i : Int) (b : UInt8) (r v : List UInt8) (h : stops i v = true) (ha : ∀ x ∈ r, gB i x = true) : runS i (b :: (r ++ v)) = (b :: r).length := by
  show 1 + _ = r.length + 1
  rw [List.takeWhile_append_of_pos ha]
  cases v with
  | nil => simp; omega
  | cons c v =>
    have : gB i c = false := by simpa [stops] using h
    rw [List.takeWhile_cons_of_neg (by rw [this]; decide)]
    simp; omega
theorem runS_mem (i : Int) (b : UInt8) (r : List UInt8) : ∀ x ∈ r.take (runS i (b :: r) - 1), gB i x = true := by
  have e : runS i (b :: r) - 1 = (r.takeWhile (gB i)).length := by show 1 + _ - 1 = _; omega
  rw [e]
  intro x hx
  have : r.take (r.takeWhile (gB i)).length = r.takeWhile (gB i) := ((List.prefix_iff_eq_take).1 (List.takeWhile_prefix (gB i))).symm
  rw [this] at hx
  exact List.all_eq_true.1 List.all_takeWhile x hx
/-- What begins where it does stops. -/
theorem runS_stops (i : Int) (b : UInt8) (r : List UInt8) : stops i ((b :: r).drop (runS i (b :: r))) = true := by
  have e : runS i (b :: r) = (r.takeWhile (gB i)).length + 1 := by show 1 + _ = _; omega
  rw [e, List.drop_succ_cons]
  clear e
  induction r with
  | nil => rfl
  | cons c t ih =>
    by_cases hc : gB i c = true
    · rw [List.takeWhile_cons_of_pos hc, List.length_cons, List.drop_succ_cons]; exact ih
    · rw [List.takeWhile_cons_of_neg hc]
      show (!gB i c) = true
      simpa using hc

theorem fin_len (i : Int) (x : ByteArray) (t : S38) (n : Nat) (h : finS i x = .inr (t, n)) : n = x.size := by
  unfold finS at h
  repeat' (first | (cases h; done) | (obtain ⟨_, rfl⟩ := Prod.mk.inj (Sum.inr.inj h); rfl) | (split at h))
/-- The state that a front begins. -/
def inS (u : List UInt8) : Int := match u with | [] => 0 | b :: _ => beginsS (b.toNat : Int)

theorem tok_stops (u : List UInt8) (t : S38) (n : Nat) (h : tokS u = .inr (t, n)) (h6 : inS u ≠ 6) : stops (inS u) (u.drop n) = true := by
  match u with
  | [] => cases h
  | b :: r =>
    have hin : inS (b :: r) = beginsS (b.toNat : Int) := rfl
    rw [hin] at h6 ⊢
    simp only [tokS] at h
    rw [if_neg h6] at h
    by_cases h0 : beginsS (b.toNat : Int) = 0
    · rw [if_pos h0] at h; cases h
    rw [if_neg h0] at h
    have hn := fin_len _ _ _ _ h
    rw [toS_size, List.length_take, Nat.min_eq_left (runS_le _ _)] at hn
    rw [hn]
    exact runS_stops _ b r

/-- What a token is hangs on its own bytes, and on that it stops. -/
theorem tok_stable (u v : List UInt8) (t : S38) (n : Nat) (h : tokS u = .inr (t, n)) (hs : inS u ≠ 6 → stops (inS u) v = true) : 0 < n ∧ n ≤ u.length ∧ tokS (u.take n ++ v) = .inr (t, n) := by
  match u with
  | [] => cases h
  | b :: r =>
    have hin : inS (b :: r) = beginsS (b.toNat : Int) := rfl
    rw [hin] at hs
    simp only [tokS] at h
    by_cases h6 : beginsS (b.toNat : Int) = 6
    · rw [if_pos h6] at h
      match hq : qdS r with
      | none => rw [hq] at h; cases h
      | some (o, m) =>
        rw [hq] at h
        dsimp only at h
        by_cases hh : o.length ≤ 200
        · rw [if_pos hh] at h
          obtain ⟨rfl, rfl⟩ := Prod.mk.inj (Sum.inr.inj h)
          obtain ⟨h1, h2, h3⟩ := qdS_pre r.length r o m (Nat.le_refl _) hq
          refine ⟨by omega, by simp; omega, ?_⟩
          rw [List.take_succ_cons, List.cons_append]
          simp only [tokS]
          rw [if_pos h6, h3 v]
          dsimp only
          rw [if_pos hh]
        · rw [if_neg hh] at h; cases h
    rw [if_neg h6] at h
    by_cases h0 : beginsS (b.toNat : Int) = 0
    · rw [if_pos h0] at h; cases h
    rw [if_neg h0] at h
    have hle := runS_le (beginsS (b.toNat : Int)) (b :: r)
    have hpos := runS_pos (beginsS (b.toNat : Int)) b r
    have hn := fin_len _ _ _ _ h
    rw [toS_size, List.length_take, Nat.min_eq_left hle] at hn
    refine ⟨by omega, by omega, ?_⟩
    obtain ⟨m, hm⟩ : ∃ m, n = m + 1 := ⟨n - 1, by omega⟩
    have hmem := runS_mem (beginsS (b.toNat : Int)) b r
    rw [← hn, hm, Nat.add_sub_cancel] at hmem
    have hrun : runS (beginsS (b.toNat : Int)) (b :: (r.take m ++ v)) = n := by
      rw [runS_app _ b (r.take m) v (hs h6) hmem]
      rw [List.length_cons, List.length_take, hm]
      rw [List.length_cons] at hle
      omega
    rw [hm, List.take_succ_cons, List.cons_append]
    simp only [tokS]
    rw [if_neg h6, if_neg h0, hrun]
    rw [← hn, hm, List.take_succ_cons] at h
    rw [hm, List.take_succ_cons, List.take_append_of_le_length (by rw [List.length_take]; rw [List.length_cons] at hle; omega), List.take_take, Nat.min_self]
    exact h
end Go.Proofs.YthllfnmebdjpfaaGreatDoor.H
end

section
namespace Go.Proofs.YthllfnmebdjpfaaGreatDoor.H
open Go.RowKit Go.Proofs.YthllfnmebdjpfaaGreatDoor.Hand Go.Proofs.YthllfnmebdjpfaaGreatDoorW.PrintWords Go.Proofs.YthllfnmebdjpfaaGreatDoorW.PrintLast Go.Proofs.YthllfnmebdjpfaaGreatDoorW.PrintMore

/-- A token of bytes is as long as they are, and more than none. -/
theorem tok_len (u : List UInt8) (t : S38) (n : Nat) (h : tokS u = .inr (t, n)) : 0 < n ∧ n ≤ u.length := by
  have := tok_stable u (u.drop n) t n h (fun h6 => tok_stops u t n h h6)
  exact ⟨this.1, this.2.1⟩
/-- Enough rounds are enough. -/
theorem scanS_fuel : ∀ (d d' : Nat) (u : List UInt8) (p : Nat), u.length < d → u.length < d' → scanS d u p = scanS d' u p := by
  intro d
  induction d with
  | zero => intro d' u p h; omega
  | succ d ih =>
    intro d' u p h h'
    obtain ⟨d', rfl⟩ : ∃ m, d' = m + 1 := ⟨d' - 1, by omega⟩
    match u with
    | [] => rfl
    | b :: r =>
      simp only [scanS]
      match ht : tokS (b :: r) with
      | .inl e => rfl
      | .inr (t, n) =>
        have := tok_len _ _ _ ht
        simp only
        rw [ih d' _ _ (by rw [List.length_drop]; omega) (by rw [List.length_drop]; omega)]
def scanU (u : List UInt8) (p : Nat) : (Int × Nat) ⊕ List S38 := scanS (u.length + 1) u p
/-- Tokens ahead of others. -/
def addT (ts : List S38) : (Int × Nat) ⊕ List S38 → (Int × Nat) ⊕ List S38
  | .inl x => .inl x
  | .inr l => .inr (ts ++ l)
theorem addT_nil (x) : addT [] x = x := by cases x <;> rfl
theorem scanU_nil (p : Nat) : scanU [] p = .inr [endS p] := rfl
theorem scanU_err (u : List UInt8) (p : Nat) (e : Int) (hu : u ≠ []) (h : tokS u = .inl e) : scanU u p = .inl (e, p) := by
  match u with
  | [] => exact absurd rfl hu
  | b :: r => unfold scanU; rw [List.length_cons, scanS, h]
theorem scanU_tok (u : List UInt8) (p : Nat) (t : S38) (n : Nat) (h : tokS u = .inr (t, n)) : scanU u p = addT (if t.f0 = 0 then [] else [atS t p]) (scanU (u.drop n) (p + n)) := by
  have hl := tok_len _ _ _ h
  match u with
  | [] => cases h
  | b :: r =>
    unfold scanU
    rw [List.length_cons, scanS, h]
    simp only
    rw [scanS_fuel (r.length + 1) (((b :: r).drop n).length + 1) _ _ (by rw [List.length_drop, List.length_cons]; omega) (by omega)]
    cases scanS (((b :: r).drop n).length + 1) ((b :: r).drop n) (p + n) with
    | inl x => rfl
    | inr l =>
      simp only [addT]
      split <;> rfl

end Go.Proofs.YthllfnmebdjpfaaGreatDoor.H
end

section
namespace Go.Proofs.YthllfnmebdjpfaaGreatDoor.H
open Go.RowKit Go.Proofs.YthllfnmebdjpfaaGreatDoor.Hand Go.Proofs.YthllfnmebdjpfaaGreatDoorW.PrintWords Go.Proofs.YthllfnmebdjpfaaGreatDoorW.PrintLast Go.Proofs.YthllfnmebdjpfaaGreatDoorW.PrintMore

theorem num_kind (x : ByteArray) (h : (numS x).2.2.2.2.2.2 = true) : (numS x).1 = 4 ∨ (numS x).1 = 5 := by
  unfold numS at h ⊢
  match hn : lex_numbered.f x with
  | none => rw [hn] at h; cases h
  | some v =>
    rw [hn] at h
    show v.1 = 4 ∨ v.1 = 5
    unfold lex_numbered.f at hn
    obtain ⟨c, _, hn⟩ := Option.bind_eq_some_iff.1 hn
    split at hn
    · obtain ⟨p, _, hn⟩ := Option.bind_eq_some_iff.1 hn
      obtain rfl := Option.some.inj hn
      exact .inr rfl
    · split at hn
      · have hn := Option.some.inj hn
        split at hn <;> (subst hn; first | exact .inl rfl | exact .inr rfl)
      · cases hn
theorem gB1 (b : UInt8) : gB 1 b = (beginsS (b.toNat : Int) == 1) := by unfold gB goesS; rw [if_pos rfl]
theorem tok_blank (b : UInt8) (r v : List UInt8) (hb : beginsS (b.toNat : Int) = 1) (hr : ∀ x ∈ r, gB 1 x = true) (hv : stops 1 v = true) :
    tokS (b :: (r ++ v)) = .inr (⟨0, toS (b :: r), 0, ⟨0, 0⟩, 0⟩, r.length + 1) := by
  simp only [tokS]
  rw [hb, if_neg (by decide), if_neg (by decide), runS_app 1 b r v hv hr]
  rw [show (b :: (r ++ v)).take (b :: r).length = b :: r from List.take_left (l₁ := b :: r) (l₂ := v)]
  unfold finS
  rw [if_neg (by decide), if_neg (by decide), if_neg (by decide), if_neg (by decide)]
  rfl
theorem scan_blank (w v : List UInt8) (q : Nat) (hw : w ≠ []) (ha : ∀ x ∈ w, beginsS (x.toNat : Int) = 1) (hv : stops 1 v = true) : scanU (w ++ v) q = scanU v (q + w.length) := by
  match w with
  | [] => exact absurd rfl hw
  | b :: r =>
    have ht := tok_blank b r v (ha b (by simp)) (fun x hx => by rw [gB1, ha x (by simp [hx])]; rfl) hv
    rw [List.cons_append, scanU_tok _ q _ _ ht, if_pos rfl, addT_nil]
    rw [show (b :: (r ++ v)).drop (r.length + 1) = v from List.drop_left (l₁ := b :: r) (l₂ := v)]
    rfl
end Go.Proofs.YthllfnmebdjpfaaGreatDoor.H
end

/- Plain law: Scan as a function of the bytes alone; what stands ahead of a place, and behind it. -/
/- Plain law: where a fault is found: what stands ahead of it, and behind it. -/
/- Parse: the walk. -/
/- Parse, of a source that Scan takes: the walk. -/
/- Parse, of a source that Scan takes: the walk. -/
/- Parse: what it answers, of any source. -/
import Derived.Test.YtjeekocidaogoaaGreatDoorK5Item
import Derived.Defers
import Derived.Recover
set_option linter.unusedVariables false
set_option linter.unusedSimpArgs false
set_option maxRecDepth 100000
set_option maxHeartbeats 8000000
namespace Go.Proofs.YtjeekocidaogoaaGreatDoor.H
open Go.RowKit Go.Proofs.YtjeekocidaogoaaGreatDoor.Hand Go.Proofs.YtjeekocidaogoaaGreatDoorW.PrintWords Go.Proofs.YtjeekocidaogoaaGreatDoorW.PrintLast Go.Proofs.YtjeekocidaogoaaGreatDoorW.PrintMore
section
def atS (t : S49) (p : Nat) : S49 := ⟨t.f0, t.f1, t.f2, t.f3, (p : Int)⟩
def endS (p : Nat) : S49 := ⟨8, ⟨#[]⟩, 0, ⟨0, 0⟩, (p : Int)⟩
def zex : Nat → List UInt8 → Nat → (Int × Nat) ⊕ List S49
 | 0, _, p => .inl (0, p)
 | _ + 1, [], p => .inr [endS p]
 | d + 1, b :: r, p =>
  match tokS (b :: r) with
  | .inl e => .inl (e, p)
  | .inr (t, n) =>
   match zex d ((b :: r).drop n) (p + n) with
   | .inl x => .inl x
   | .inr ts => .inr (if t.f0 = 0 then ts else atS t p :: ts)
def zmp (acc : List S49) : (Int × Nat) ⊕ List S49 → List S49 × Int × Int
 | .inl (e, p) => ([], e, (p : Int))
 | .inr ts => (acc ++ ts, 0, 0)
theorem scan_l0 (s : ByteArray) (hz : s.size ≤ 8000) : ∀ (d i k : Nat) (acc : List S49), s.size - i < d → i ≤ s.size → 9000 + d ≤ k → acc.length ≤ i →
  lex_Scan.l0 k s acc (i : Int) = some (zmp acc (zex d ((bl s).drop i) i)) := by
 have hl := zbj s
 intro d
 induction d with
 | zero => intro i k acc h; omega
 | succ d ih =>
  intro i k acc hd hi hk ha
  obtain ⟨k, rfl⟩ : ∃ m, k = m + 1 := ⟨k - 1, by omega⟩
  simp only [lex_Scan.l0]
  by_cases he : i = s.size
  ·rw [if_neg (by omega), if_pos (by omega), List.drop_of_length_le (by omega), he]
   rfl
  ·have hlt : i < (bl s).length := by omega
   have hx : s.extract i s.size = toS ((bl s).drop i) := drop_extract s i
   have hsz : (toS ((bl s).drop i)).size = s.size - i := by rw [zej, List.length_drop, hl]
   have ht := token_ev (toS ((bl s).drop i)) (by omega) (by omega) k (by omega)
   rw [zqy] at ht
   rw [if_pos (by omega), if_pos (by omega), if_pos (by omega), Int.toNat_natCast, hx]
   rw [zgt _ i hlt] at ht ⊢
   rw [zex]
   match htk : tokS ((bl s)[i] :: (bl s).drop (i + 1)) with
   | .inl e =>
    rw [htk] at ht
    obtain ⟨h0, v, hv, hve⟩ := ht
    rw [hv]
    simp only [Option.bind_some]
    rw [if_neg (by rw [hve]; exact h0), hve]
    rfl
   | .inr (t, n) =>
    rw [htk] at ht
    obtain ⟨h0, hn, z, hv⟩ := ht
    rw [← zgt _ i hlt] at hv hn ⊢
    rw [hsz] at hn
    rw [hv]
    simp only [Option.bind_some]
    rw [if_pos trivial, show wrap64 ((i : Int) + (n : Int)) = ((i + n : Nat) : Int) by unfold wrap64; omega, List.drop_drop]
    by_cases hk0 : t.f0 = 0
    ·rw [if_pos hk0, ih (i + n) k acc (by omega) (by omega) (by omega) (by omega)]
     simp only [if_pos hk0]
     cases zex d ((bl s).drop (i + n)) (i + n) <;> rfl
    ·have hl2 : (acc ++ [atS t i]).length = acc.length + 1 := by simp
     rw [if_neg hk0, if_pos (by omega)]
     show lex_Scan.l0 k s (acc ++ [atS t i]) _ = _
     rw [ih (i + n) k (acc ++ [atS t i]) (by omega) (by omega) (by omega) (by omega)]
     simp only [if_neg hk0]
     cases zex d ((bl s).drop (i + n)) (i + n) with
     | inl x => rfl
     | inr ts => simp [zmp, List.append_assoc]
def zay (s : ByteArray) : List S49 × Int × Int := if s.size > 8000 then ([], 84, 8000) else zmp [] (zex (s.size + 1) (bl s) 0)
theorem zfe (s : ByteArray) (k : Nat) (hk : 18000 ≤ k) : lex_Scan.f k s = some (zay s) := by
 unfold lex_Scan.f zay
 by_cases h : s.size > 8000
 ·rw [if_pos (by omega), if_pos h]
 ·rw [if_neg (by omega), if_neg h]
  exact scan_l0 s (by omega) (s.size + 1) 0 k [] (by omega) (by omega) (by omega) (by simp)
def zfq (i : Int) : List UInt8 → Bool
 | [] => true
 | b :: _ => !gB i b
theorem zod (i : Int) (b : UInt8) (r v : List UInt8) (h : zfq i v = true) (ha : ∀ x ∈ r, gB i x = true) : runS i (b :: (r ++ v)) = (b :: r).length := by
 show 1 + _ = r.length + 1
 rw [List.takeWhile_append_of_pos ha]
 cases v with
 | nil => simp; omega
 | cons c v =>
  have : gB i c = false := by simpa [zfq] using h
  rw [List.takeWhile_cons_of_neg (by rw [this]; decide)]
  simp; omega
theorem runS_mem (i : Int) (b : UInt8) (r : List UInt8) : ∀ x ∈ r.take (runS i (b :: r) - 1), gB i x = true := by
 have e : runS i (b :: r) - 1 = (r.takeWhile (gB i)).length := by show 1 + _ - 1 = _; omega
 rw [e]
 intro x hx
 have : r.take (r.takeWhile (gB i)).length = r.takeWhile (gB i) := ((List.prefix_iff_eq_take).1 (List.takeWhile_prefix (gB i))).symm
 rw [this] at hx
 exact List.all_eq_true.1 List.all_takeWhile x hx
theorem runS_stops (i : Int) (b : UInt8) (r : List UInt8) : zfq i ((b :: r).drop (runS i (b :: r))) = true := by
 have e : runS i (b :: r) = (r.takeWhile (gB i)).length + 1 := by show 1 + _ = _; omega
 rw [e, List.drop_succ_cons]
 clear e
 induction r with
 | nil => rfl
 | cons c t ih =>
  by_cases hc : gB i c = true
  ·rw [List.takeWhile_cons_of_pos hc, List.length_cons, List.drop_succ_cons]; exact ih
  ·rw [List.takeWhile_cons_of_neg hc]
   show (!gB i c) = true
   simpa using hc
theorem znu (i : Int) (x : ByteArray) (t : S49) (n : Nat) (h : finS i x = .inr (t, n)) : n = x.size := by
 unfold finS at h
 repeat' (first | (cases h; done) | (obtain ⟨_, rfl⟩ := Prod.mk.inj (Sum.inr.inj h); rfl) | (split at h))
def inS (u : List UInt8) : Int := match u with | [] => 0 | b :: _ => zbb (b.toNat : Int)
theorem zgx (u : List UInt8) (t : S49) (n : Nat) (h : tokS u = .inr (t, n)) (h6 : inS u ≠ 6) : zfq (inS u) (u.drop n) = true := by
 match u with
 | [] => cases h
 | b :: r =>
  have hin : inS (b :: r) = zbb (b.toNat : Int) := rfl
  rw [hin] at h6 ⊢
  simp only [tokS] at h
  rw [if_neg h6] at h
  by_cases h0 : zbb (b.toNat : Int) = 0
  ·rw [if_pos h0] at h; cases h
  rw [if_neg h0] at h
  have hn := znu _ _ _ _ h
  rw [zej, List.length_take, Nat.min_eq_left (zjh _ _)] at hn
  rw [hn]
  exact runS_stops _ b r
theorem zgb (u v : List UInt8) (t : S49) (n : Nat) (h : tokS u = .inr (t, n)) (hs : inS u ≠ 6 → zfq (inS u) v = true) : 0 < n ∧ n ≤ u.length ∧ tokS (u.take n ++ v) = .inr (t, n) := by
 match u with
 | [] => cases h
 | b :: r =>
  have hin : inS (b :: r) = zbb (b.toNat : Int) := rfl
  rw [hin] at hs
  simp only [tokS] at h
  by_cases h6 : zbb (b.toNat : Int) = 6
  ·rw [if_pos h6] at h
   match hq : qdS r with
   | none => rw [hq] at h; cases h
   | some (o, m) =>
    rw [hq] at h
    dsimp only at h
    by_cases hh : o.length ≤ 200
    ·rw [if_pos hh] at h
     obtain ⟨rfl, rfl⟩ := Prod.mk.inj (Sum.inr.inj h)
     obtain ⟨h1, h2, h3⟩ := zpj r.length r o m (Nat.le_refl _) hq
     refine ⟨by omega, by simp; omega, ?_⟩
     rw [List.take_succ_cons, List.cons_append]
     simp only [tokS]
     rw [if_pos h6, h3 v]
     dsimp only
     rw [if_pos hh]
    ·rw [if_neg hh] at h; cases h
  rw [if_neg h6] at h
  by_cases h0 : zbb (b.toNat : Int) = 0
  ·rw [if_pos h0] at h; cases h
  rw [if_neg h0] at h
  have hle := zjh (zbb (b.toNat : Int)) (b :: r)
  have hpos := zoc (zbb (b.toNat : Int)) b r
  have hn := znu _ _ _ _ h
  rw [zej, List.length_take, Nat.min_eq_left hle] at hn
  refine ⟨by omega, by omega, ?_⟩
  obtain ⟨m, hm⟩ : ∃ m, n = m + 1 := ⟨n - 1, by omega⟩
  have hmem := runS_mem (zbb (b.toNat : Int)) b r
  rw [← hn, hm, Nat.add_sub_cancel] at hmem
  have hrun : runS (zbb (b.toNat : Int)) (b :: (r.take m ++ v)) = n := by
   rw [zod _ b (r.take m) v (hs h6) hmem]
   rw [List.length_cons, List.length_take, hm]
   rw [List.length_cons] at hle
   omega
  rw [hm, List.take_succ_cons, List.cons_append]
  simp only [tokS]
  rw [if_neg h6, if_neg h0, hrun]
  rw [← hn, hm, List.take_succ_cons] at h
  rw [hm, List.take_succ_cons, List.take_append_of_le_length (by rw [List.length_take]; rw [List.length_cons] at hle; omega), List.take_take, Nat.min_self]
  exact h
end
section
theorem zep (u : List UInt8) (t : S49) (n : Nat) (h : tokS u = .inr (t, n)) : 0 < n ∧ n ≤ u.length := by
 have := zgb u (u.drop n) t n h (fun h6 => zgx u t n h h6)
 exact ⟨this.1, this.2.1⟩
theorem zpa (u : List UInt8) (e : Int) (h : tokS u = .inl e) : e = 80 ∨ e = 81 ∨ e = 82 ∨ e = 83 := by
 unfold tokS at h
 split at h
 ·cases h; omega
 ·split at h
  ·split at h
   ·split at h
    ·cases h
    ·cases h; omega
   ·cases h; omega
  ·split at h
   ·cases h; omega
   ·unfold finS at h
    repeat' (first | (split at h) | (cases h; omega) | cases h)
theorem scanS_fuel : ∀ (d d' : Nat) (u : List UInt8) (p : Nat), u.length < d → u.length < d' → zex d u p = zex d' u p := by
 intro d
 induction d with
 | zero => intro d' u p h; omega
 | succ d ih =>
  intro d' u p h h'
  obtain ⟨d', rfl⟩ : ∃ m, d' = m + 1 := ⟨d' - 1, by omega⟩
  match u with
  | [] => rfl
  | b :: r =>
   simp only [zex]
   match ht : tokS (b :: r) with
   | .inl e => rfl
   | .inr (t, n) =>
    have := zep _ _ _ ht
    simp only
    rw [ih d' _ _ (by rw [List.length_drop]; omega) (by rw [List.length_drop]; omega)]
def zdi (u : List UInt8) (p : Nat) : (Int × Nat) ⊕ List S49 := zex (u.length + 1) u p
def addT (ts : List S49) : (Int × Nat) ⊕ List S49 → (Int × Nat) ⊕ List S49
 | .inl x => .inl x
 | .inr l => .inr (ts ++ l)
theorem zhl (x) : addT [] x = x := by cases x <;> rfl
theorem addT_add (a b x) : addT a (addT b x) = addT (a ++ b) x := by cases x <;> simp [addT]
theorem zco (p : Nat) : zdi [] p = .inr [endS p] := rfl
theorem zfb (u : List UInt8) (p : Nat) (e : Int) (hu : u ≠ []) (h : tokS u = .inl e) : zdi u p = .inl (e, p) := by
 match u with
 | [] => exact absurd rfl hu
 | b :: r => unfold zdi; rw [List.length_cons, zex, h]
theorem zdk (u : List UInt8) (p : Nat) (t : S49) (n : Nat) (h : tokS u = .inr (t, n)) : zdi u p = addT (if t.f0 = 0 then [] else [atS t p]) (zdi (u.drop n) (p + n)) := by
 have hl := zep _ _ _ h
 match u with
 | [] => cases h
 | b :: r =>
  unfold zdi
  rw [List.length_cons, zex, h]
  simp only
  rw [scanS_fuel (r.length + 1) (((b :: r).drop n).length + 1) _ _ (by rw [List.length_drop, List.length_cons]; omega) (by omega)]
  cases zex (((b :: r).drop n).length + 1) ((b :: r).drop n) (p + n) with
  | inl x => rfl
  | inr l =>
   simp only [addT]
   split <;> rfl
theorem zkj (i : Int) (u v : List UInt8) (h : zfq i u = true) (hv : v = [] ∨ v.head? = u.head?) : zfq i v = true := by
 rcases hv with rfl | hv
 ·rfl
 ·cases v with
  | nil => rfl
  | cons c v =>
   cases u with
   | nil => cases hv
   | cons b u =>
    cases hv
    exact h
theorem zje (s : ByteArray) (h : s.size ≤ 8000) : zay s = zmp [] (zdi (bl s) 0) := by
 unfold zay zdi
 rw [if_neg (by omega), zbj]
end
section
def zio (W : World) (b : Nat) : List S62 → List Value → List Nat → Prop
 | [], cs, L => cs = [] ∧ L = []
 | x :: r, cs, L => ∃ t ts M N, Tree W b x.f2 t M ∧ zio W b r ts N ∧ cs = (([Value.int .i64 x.f0, Value.string x.f1] : List Value) ++ t ++ [Value.int .i64 x.f3]) ++ ts ∧ L = M ++ N
section
variable {W w1 : World} {b : Nat}
theorem zio.lt : ∀ {l : List S62} {cs : List Value} {L : List Nat}, zio W b l cs L → ∀ g ∈ L, b ≤ g ∧ g < W.heap.size
 | [], _, _, ⟨_, h⟩, g, hg => by subst h; cases hg
 | x :: r, _, _, ⟨t, ts, M, N, h1, h2, _, h⟩, g, hg => by
  subst h
  rcases List.mem_append.1 hg with hg | hg
  ·exact h1.lt g hg
  ·exact zio.lt h2 g hg
theorem zio.frame : ∀ {l : List S62} {cs : List Value} {L : List Nat}, zio W b l cs L → (∀ g ∈ L, w1.heap[g]? = W.heap[g]?) → zio w1 b l cs L
 | [], _, _, h, _ => h
 | x :: r, _, _, ⟨t, ts, M, N, h1, h2, hc, h⟩, hh => by
  subst h
  exact ⟨t, ts, M, N, h1.frame fun g hg => hh g (List.mem_append.2 (.inl hg)), zio.frame h2 fun g hg => hh g (List.mem_append.2 (.inr hg)), hc, rfl⟩
theorem zio.snoc : ∀ {l : List S62} {cs : List Value} {L : List Nat} {x : S62} {t : List Value} {M : List Nat}, zio W b l cs L → Tree W b x.f2 t M → zio W b (l ++ [x]) (cs ++ (([Value.int .i64 x.f0, Value.string x.f1] : List Value) ++ t ++ [Value.int .i64 x.f3])) (L ++ M)
 | [], _, _, x, t, M, ⟨h1, h2⟩, k => by
  subst h1; subst h2
  exact ⟨t, [], M, [], k, ⟨rfl, rfl⟩, by simp, by simp⟩
 | y :: r, _, _, x, t, M, ⟨t', ts, M', N, h1, h2, hc, h⟩, k => by
  subst hc; subst h
  exact ⟨t', _, M', _, h1, zio.snoc h2 k, by simp [List.append_assoc], by simp [List.append_assoc]⟩
theorem zio.lower {b' : Nat} (hb : b' ≤ b) : ∀ {l : List S62} {cs : List Value} {L : List Nat}, zio W b l cs L → zio W b' l cs L
 | [], _, _, h => h
 | x :: r, _, _, ⟨t, ts, M, N, h1, h2, hc, h⟩ => ⟨t, ts, M, N, h1.lower hb, zio.lower hb h2, hc, h⟩
end
def Pol (W : World) (b : Nat) (l : List S62) (v : Value) : Prop :=
 ∃ cells L, Row W b 62 11 v l.length cells ∧ zio W b l cells L ∧ L.Nodup ∧ ∀ g, v.ownBlock = some g → g ∉ L
theorem Pol.nil (W : World) (b : Nat) : Pol W b [] (.slice none 0 0) := ⟨[], [], Row.nil _ _ _ _, ⟨rfl, rfl⟩, List.nodup_nil, fun g _ h => by cases h⟩
def zed (t : S49) : Tok := ⟨t.f0, t.f1, t.f2, t.f3.f0, t.f3.f1, t.f4⟩
def zbh (s : ByteArray) : List S62 × Int × Int :=
 if (zay s).2.1 ≠ 0 then ([], (zay s).2.1, (zay s).2.2)
 else match zlq ((zay s).1.map zed) with
  | some (.ok x _) => (x, 0, 0)
  | some (.bad e p) => ([], e, p)
  | none => ([], 0, 0)
theorem zkl : ∀ (d : Nat) (u : List UInt8) (p : Nat) (l : List S49), zex d u p = .inr l → ∃ r q, l = r ++ [endS q] ∧ r.length ≤ u.length
 | 0, _, _, _, h => by cases h
 | _ + 1, [], p, _, h => by cases h; exact ⟨[], p, rfl, Nat.le_refl _⟩
 | d + 1, b :: r, p, l, h => by
  simp only [zex] at h
  split at h
  ·cases h
  ·rename_i t n ht
   have hn := zep (b :: r) t n ht
   split at h
   ·cases h
   ·rename_i ts hts
    obtain ⟨r', q, hl, hlen⟩ := zkl d _ _ ts hts
    rw [List.length_drop] at hlen
    have h := Sum.inr.inj h
    split at h
    ·exact ⟨r', q, by rw [← h]; exact hl, by omega⟩
    ·exact ⟨atS t p :: r', q, by rw [← h, hl]; rfl, by rw [List.length_cons]; omega⟩
theorem zjd : ∀ (d : Nat) (u : List UInt8) (p : Nat) (e : Int) (q : Nat), u.length < d → zex d u p = .inl (e, q) → e ≠ 0
 | 0, _, _, _, _, hd, _ => by omega
 | _ + 1, [], _, _, _, _, h => by cases h
 | d + 1, b :: r, p, e, q, hd, h => by
  simp only [zex] at h
  split at h
  ·rename_i e' ht
   have h1 := zpa _ _ ht
   have h := Sum.inl.inj h
   injection h with h2 h3
   omega
  ·rename_i t n ht
   have hn := zep (b :: r) t n ht
   split at h
   ·rename_i x hx
    have h := Sum.inl.inj h
    subst h
    exact zjd d _ _ _ _ (by rw [List.length_drop]; omega) hx
   ·cases h
theorem zem (s : ByteArray) (h : (zay s).2.1 = 0) : ∃ r q, (zay s).1 = r ++ [endS q] ∧ (zay s).1.length ≤ 8001 := by
 unfold zay at h ⊢
 by_cases hs : s.size > 8000
 ·rw [if_pos hs] at h; exact absurd h (by decide)
 ·rw [if_neg hs] at h ⊢
  match hx : zex (s.size + 1) (bl s) 0 with
  | .inl (e, p) =>
   rw [hx] at h
   exact absurd h (zjd _ _ _ _ _ (by rw [zbj]; omega) hx)
  | .inr l =>
   obtain ⟨r, q, hl, hlen⟩ := zkl _ _ _ _ hx
   have hb := zbj s
   refine ⟨r, q, by simp [zmp, hl], ?_⟩
   simp only [zmp, List.nil_append, hl, List.length_append, List.length_cons, List.length_nil]
   omega
theorem catch_idle (p q r : Addr) (w : World) :
  CallsD Tryz.prog 27 #[.pointer (some p), .pointer (some q), .pointer (some r)] .returning w fun e u' w' => e = .returned (.tuple #[]) ∧ u' = .returning ∧ w' = w := by
 refine callsD_of_wpS Tryz.func27 rfl fun c₀ cs hu => ?_
 apply wpS_seq
 apply wpS_region
 simp [wpOpsS, go_sem, recoverD, hu, Tryz.ntmps27, Exit.thenS]
 refine wpS_of_wp ?_
 go_wp2
 cases c₀
 simp_all [bodyPostS, results, Tryz.results27, Exit.thenS]
theorem run_typeAssert_struct {P : Program} {t : TypeId} {fs} (h : P.underlying t = some (.struct fs)) (xT : TypeId) (v : Value) (w : World) : (Instr.typeAssert (.iface t v) xT t true).run P w = .ok (.tuple #[v, .bool true]) w := by
 simp [Instr.typeAssert, run_underlying h, Result.andThen]
theorem gate_assert {P : Program} {ops : Array Oper} {rest : List Oper} {a : Act} {Q : Exit → Act → World → Prop} {w : World} {d : Option Tmp} {x : Operand} {xT t : TypeId} {ok : Bool} {ty : TypeId} {pos : String} {af} {g} (h : wpList P ops Q (⟨d, Op.typeAssert x xT t ok, ty, pos, af, g⟩ :: rest) a w) : wpList P ops Q (⟨d, Op.typeAssert x xT t ok, ty, pos, af, g⟩ :: rest) a w := h
theorem wpList_assert {P : Program} {ops : Array Oper} {rest : List Oper} {o : Oper} {a : Act} {Q : Exit → Act → World → Prop} {w : World} (hg : o.guard = none) (x : Operand) (xT t : TypeId) (hop : o.op = Op.typeAssert x xT t true) {fs} (h : P.underlying t = some (.struct fs)) (v : Value) (hx : a.eval x = .iface t v)
  (hK : wpList P ops Q rest (a.put o.dst (.tuple #[v, .bool true])) w) : wpList P ops Q (o :: rest) a w := by
 refine wpList_plain hg fun K' hK' => ?_
 have hr := run_typeAssert_struct h xT v w
 unfold Oper.wp
 simp [execOp, hop, hx, hr, Result.andThen]
 exact hK' _ _ hK
theorem catch_panicking (p q r : Nat) (e at_ : Int) (v : Value) (x y : Int) (older : List PanicEntry) (w : World) (bp : w.heap[p]? = some (.cells #[v] 36 (0, 0))) (bq : w.heap[q]? = some (.cells #[.int .i64 x] 37 (0, 0))) (br : w.heap[r]? = some (.cells #[.int .i64 y] 3 (0, 0))) (hpq : p ≠ q) (hpr : p ≠ r) (hqr : q ≠ r) :
  CallsD Tryz.prog 27 #[.pointer (some ⟨p, 0, none⟩), .pointer (some ⟨q, 0, none⟩), .pointer (some ⟨r, 0, none⟩)] (.panicking (zfx e at_ :: older)) w fun e' u' w' =>
   e' = .returned (.tuple #[]) ∧ u' = .panicking ({ zfx e at_ with recovered := true } :: older) ∧ ∃ W1, Below w.heap.size w W1 ∧ w' = ((W1.setCell ⟨p, 0, none⟩ (.slice none 0 0)).setCell ⟨q, 0, none⟩ (.int .i64 e)).setCell ⟨r, 0, none⟩ (.int .i64 at_) := by
 refine callsD_of_wpS Tryz.func27 rfl fun c₀ cs hu => ?_
 apply wpS_seq
 apply wpS_region
 simp [wpOpsS, go_sem, recoverD, hu, Tryz.ntmps27, Exit.thenS, zfx]
 have hne : ∀ w : World, (binOp BinOp.eql 20 (.iface 70 (.agg #[.int .i64 e, .int .i64 at_])) .nilIface).run Tryz.prog w = .ok (.bool false) w := fun w => by kernel_rfl
 refine wpS_of_wp ?_
 show Code.wp _ _ _ ⟨#[.pointer (some ⟨p, 0, none⟩), .pointer (some ⟨q, 0, none⟩), .pointer (some ⟨r, 0, none⟩), undef, undef, undef, .iface 70 (.agg #[.int .i64 e, .int .i64 at_]), undef, undef, undef, undef, undef, undef, undef, undef, undef, undef], []⟩ _
 have h1 := zat bp
 have h2 := zat bq
 have h3 := zat br
 have a1 : p ≠ w.heap.size := by omega
 have a2 : q ≠ w.heap.size := by omega
 have a3 : r ≠ w.heap.size := by omega
 have hp := zae (zad bp (.cells #[.int .i64 e, .int .i64 at_] 70)) 0
 have hq := zae (zad bq (.cells #[.int .i64 e, .int .i64 at_] 70)) 0
 have hr := zae (zad br (.cells #[.int .i64 e, .int .i64 at_] 70)) 0
 have fp := zaf (zad bp (.cells #[.int .i64 e, .int .i64 at_] 70)) 0
 have fq := zaf (zad bq (.cells #[.int .i64 e, .int .i64 at_] 70)) 0
 have fr := zaf (zad br (.cells #[.int .i64 e, .int .i64 at_] 70)) 0
 simp only [List.getElem?_toArray, List.getElem?_cons_zero] at hp hq hr
 go_wp2_with ((with_reducible refine gate_assert ?_); refine wpList_assert rfl _ _ _ rfl Tryz.underlying70 _ rfl ?_)
 have HB := Zq.mk (((Below.refl w.heap.size w).alloc (Nat.le_refl _) (.cells #[.int .i64 e, .int .i64 at_] 70)).drew)
 clear h1 h2 h3 bp bq br
 go_region
 all_goals (try go_wp2)
 clear hp hq hr fp fq fr hne
 all_goals (simp [bodyPostS, results, Tryz.results27, Exit.thenS])
 all_goals exact ⟨_, HB.out, rfl⟩
def zhm (W : World) (l : List S62) (er at_ : Int) (e : Ending) (W' : World) : Prop :=
 ∃ v, e = .returned (.tuple #[.agg #[v], .int .i64 er, .int .i64 at_]) ∧ Pol W' W.heap.size l v ∧ Below W.heap.size W W'
theorem zoy {W : World} {b : Nat} {ok : Nat → Prop} {v : Value} {l : List S49} (h : Kd.R k49 49 W b ok v l) (hl : 0 < l.length) : ∃ T c, v = .slice (some ⟨T, 0, none⟩) (l.map zed).length c ∧ b ≤ T ∧ Toks W T (l.map zed) := by
 obtain ⟨T, c, hv, hb, hlt, cells, hc⟩ := Kd.R_form h hl
 refine ⟨T, c, by rw [List.length_map]; exact hv, hb, cells, hc, fun j t hj r hr => ?_⟩
 obtain ⟨A, c', hv', hlc, hC⟩ := Kd.R_reads h
 rw [hv] at hv'
 injection hv' with hA
 subst hA
 rw [List.getElem?_map] at hj
 obtain ⟨x, hx, rfl⟩ := Option.map_eq_some_iff.1 hj
 have hjl : j < l.length := (List.getElem?_eq_some_iff.1 hx).1
 obtain ⟨ad, had, e0, e1, e2, e3, e4, e5⟩ := at_T49 hC (j : Int) (by omega) (by omega)
 have had := Option.some.inj had
 subst had
 have hrd : zid l (j : Int) = x := by
  unfold zid
  rw [Int.toNat_natCast, List.getD_eq_getElem?_getD, hx]
  rfl
 rw [hrd, Int.toNat_natCast] at e0 e1 e2 e3 e4 e5
 have hadd : ∀ o, (⟨T, 0, none⟩ : Addr).add o = ⟨T, o, none⟩ := fun o => by unfold Addr.add; split <;> simp_all
 simp only [hadd] at e0 e1 e2 e3 e4 e5
 rw [zae hc] at e0 e1 e2 e3 e4 e5
 have : r = 0 ∨ r = 1 ∨ r = 2 ∨ r = 3 ∨ r = 4 ∨ r = 5 := by omega
 rcases this with rfl | rfl | rfl | rfl | rfl | rfl
 ·exact e0
 ·exact e1
 ·exact e2
 ·exact e3
 ·exact e4
 ·exact e5
theorem zjw {l r : List S49} {q : Nat} (h : l = r ++ [endS q]) : ∀ k, k < (l.map zed).length → (tk (l.map zed) k).kind ≠ 8 → k + 1 < (l.map zed).length := by
 intro k hk h8
 rw [List.length_map] at hk ⊢
 have hl : l.length = r.length + 1 := by rw [h]; simp
 by_cases hkr : k = r.length
 ·exfalso
  apply h8
  unfold tk
  rw [List.getD_eq_getElem?_getD, List.getElem?_map, h, hkr, List.getElem?_append_right (Nat.le_refl _), Nat.sub_self]
  rfl
 ·omega
theorem zfr {P : Program} {w : World} {ty : TypeId} {k : IntKind} {a : Addr} {v : Value} (hu : P.underlying ty = some (.int k)) (hc : w.cell? a = some v) : (loadVar ty a).run P w = .ok v w := by
 simp [loadVar, isAgg, run_underlying hu, go_sem, hc, Result.andThen]
theorem zfh {w : World} {p q r : Nat} {v x y : Value} {tmps : Array Value} (h2 : tmps[2]? = some (.pointer (some ⟨p, 0, none⟩))) (h3 : tmps[3]? = some (.pointer (some ⟨q, 0, none⟩))) (h4 : tmps[4]? = some (.pointer (some ⟨r, 0, none⟩)))
  (bp : w.heap[p]? = some (.cells #[v] 36 (0, 0))) (bq : w.heap[q]? = some (.cells #[x] 37 (0, 0))) (br : w.heap[r]? = some (.cells #[y] 3 (0, 0))) :
  (results Tryz.f11 tmps).run Tryz.prog w = .ok (.tuple #[.agg #[v], x, y]) w := by
 have c2 : w.cell? ⟨q, 0, none⟩ = some x := zae bq 0
 have c3 : w.cell? ⟨r, 0, none⟩ = some y := zae br 0
 have l1 := run_loadVar_row (P := Tryz.prog) w p 36 36 #[v] (0, 0) _ bp Tryz.underlying36 rfl (by kernel_rfl)
 have l2 := zfr (P := Tryz.prog) Tryz.underlying37 c2
 have l3 := zfr (P := Tryz.prog) Tryz.underlying3 c3
 have hr : Tryz.f11.results = #[.cell 2 36, .cell 3 37, .cell 4 3] := rfl
 simp [results, hr, h2, h3, h4, asAddr, l1, l2, l3]
theorem parse_scan (s : ByteArray) (W : World) (hInv : Inv W) (hf : (zay s).2.1 ≠ 0) :
  Calls Tryz.prog 11 #[.string s] W (zhm W [] (zay s).2.1 (zay s).2.2) := by
 have hb0 := (((Below.refl W.heap.size W).alloc (Nat.le_refl _) (.cells #[.slice none 0 0] 36)).alloc (by simp) (.cells #[.int .i64 0] 37)).alloc (by simp; omega) (.cells #[.int .i64 0] 3)
 have HSC := Zq.mk (lex_Scan.calls 18000 s (zay s).1 (zay s).2.1 (zay s).2.2 _ (Inv.below hInv hb0) (zfe s 18000 (Nat.le_refl _)))
 have b1 := zad (zad (heap_alloc_new W (.cells #[.slice none 0 0] 36)) (.cells #[.int .i64 0] 37)) (.cells #[.int .i64 0] 3)
 have b2 := zad (heap_alloc_new (W.alloc (.cells #[.slice none 0 0] 36)) (.cells #[.int .i64 0] 37)) (.cells #[.int .i64 0] 3)
 have b3 := heap_alloc_new ((W.alloc (.cells #[.slice none 0 0] 36)).alloc (.cells #[.int .i64 0] 37)) (.cells #[.int .i64 0] 3)
 rw [World.size_alloc] at b2
 rw [World.size_alloc, World.size_alloc] at b3
 have HB0 := Zq.mk hb0
 have B1 := Zq.mk b1
 have B2 := Zq.mk b2
 have B3 := Zq.mk b3
 clear hb0 b1 b2 b3 hInv
 have hmf : ∀ (fn : Fn) (first cap : Array Value) (w : World), (Instr.makeFunc fn first cap).run Tryz.prog w = .ok (.func fn first cap) w := fun _ _ _ _ => rfl
 go_enter_defers Tryz.func11, Tryz.ntmps11
 go_wp2_with (go_at_call 16; refine HSC.out.mono ?_; rintro e1 w1 ⟨v0, rfl, hR, hb⟩; have c1 := zae (zaq B1.out hb) 0; have c2 := zae (zaq B2.out hb) 0; have c3 := zae (zaq B3.out hb) 0; have f1 := zaf (zaq B1.out hb) 0; have f2 := zaf (zaq B2.out hb) 0; have f3 := zaf (zaq B3.out hb) 0; simp only [List.getElem?_toArray, List.getElem?_cons_zero] at c1 c2 c3; have HBB := Zq.mk (HB0.out.trans (hb.mono HB0.out.size)); obtain ⟨A0, k0, rfl⟩ := Kd.R_slice hR; have D1 := Zq.mk (zaq B1.out hb); have D2 := Zq.mk (zaq B2.out hb); have D3 := Zq.mk (zaq B3.out hb); clear hR hb)
 have e1 : _ = some (Obj.cells #[.slice none 0 0] 36 (0, 0)) := zak D1.out 0 (.slice none 0 0) rfl
 have e2 := zar (p := ⟨W.heap.size, 0, none⟩) D2.out (by show W.heap.size + 1 ≠ W.heap.size; omega) (.slice none 0 0)
 have e3 := zar (p := ⟨W.heap.size, 0, none⟩) D3.out (by show W.heap.size + 1 + 1 ≠ W.heap.size; omega) (.slice none 0 0)
 have g1 := zar (p := ⟨W.heap.size + 1, 0, none⟩) e1 (by show W.heap.size ≠ W.heap.size + 1; omega) (.int .i64 (zay s).2.1)
 have g2 : _ = some (Obj.cells #[.int .i64 (zay s).2.1] 37 (0, 0)) := zak e2 0 (.int .i64 (zay s).2.1) rfl
 have g3 := zar (p := ⟨W.heap.size + 1, 0, none⟩) e3 (by show W.heap.size + 1 + 1 ≠ W.heap.size + 1; omega) (.int .i64 (zay s).2.1)
 have k1 := zar (p := ⟨W.heap.size + 1 + 1, 0, none⟩) g1 (by show W.heap.size ≠ W.heap.size + 1 + 1; omega) (.int .i64 (zay s).2.2)
 have k2 := zar (p := ⟨W.heap.size + 1 + 1, 0, none⟩) g2 (by show W.heap.size + 1 ≠ W.heap.size + 1 + 1; omega) (.int .i64 (zay s).2.2)
 have k3 : _ = some (Obj.cells #[.int .i64 (zay s).2.2] 3 (0, 0)) := zak g3 0 (.int .i64 (zay s).2.2) rfl
 have hB := (((HBB.out.setCell (p := ⟨W.heap.size, 0, none⟩) (Nat.le_refl _) (.slice none 0 0)).setCell (p := ⟨W.heap.size + 1, 0, none⟩) (by show W.heap.size ≤ W.heap.size + 1; omega) (.int .i64 (zay s).2.1)).setCell (p := ⟨W.heap.size + 1 + 1, 0, none⟩) (by show W.heap.size ≤ W.heap.size + 1 + 1; omega) (.int .i64 (zay s).2.2))
 exact ⟨_, zfh rfl rfl rfl k1 k2 k3, _, rfl, Pol.nil _ _, hB⟩
end
section
structure PInv (W : World) (g T c : Nat) (toks : List Tok) (i : Nat) (l : List S62) (v : Value) (W' : World) : Prop where
 st : PSt W' g T c toks i
 bel : Below W.heap.size W W'
 pol : W'.heap[W.heap.size]? = some (.cells #[v] 36 (0, 0))
 err : W'.heap[W.heap.size + 1]? = some (.cells #[.int .i64 0] 37 (0, 0))
 num : W'.heap[W.heap.size + 1 + 1]? = some (.cells #[.int .i64 0] 3 (0, 0))
 row : Pol W' (g + 1) l v
 far : W.heap.size + 3 ≤ T ∧ T < g
 here : i < toks.length
 many : l.length ≤ 100
section
variable {W W1 W2 : World} {g T c i j : Nat} {toks : List Tok} {l : List S62} {v : Value}
theorem Pol.frame {b : Nat} (h : Pol W b l v) (hh : ∀ k, b ≤ k → k < W.heap.size → W1.heap[k]? = W.heap[k]?) : Pol W1 b l v := by
 obtain ⟨cells, L, h1, h2, h3, h4⟩ := h
 exact ⟨cells, L, h1.frame fun g hg => hh g (h1.blk hg).1 (h1.blk hg).2.1, h2.frame fun g hg => hh g (h2.lt g hg).1 (h2.lt g hg).2, h3, h4⟩
theorem Pol.lower {b b' : Nat} (hb : b' ≤ b) (h : Pol W b l v) : Pol W b' l v := by
 obtain ⟨cells, L, h1, h2, h3, h4⟩ := h
 exact ⟨cells, L, h1.lower hb, h2.lower hb, h3, h4⟩
theorem PInv.move (h : PInv W g T c toks i l v W1) (hS : PSt W2 g T c toks j) (hF : Fr W1 W2 (· = g)) (hj : j < toks.length) : PInv W g T c toks j l v W2 := by
 have hfar := h.far
 exact ⟨hS, hF.below (fun k hk => by omega) h.bel.size h.bel, hF.blk h.pol (by omega), hF.blk h.err (by omega), hF.blk h.num (by omega), h.row.frame fun k h1 h2 => hF.block k h2 (by omega), h.far, hj, h.many⟩
theorem PInv.snoc {x : S62} {cs cells : List Value} {L M : List Nat} {v1 : Value} {w1 : World} (h : PInv W g T c toks i l v W2) (hl : l.length < 100)
  (hrow : Row W2 (g + 1) 62 11 v l.length cells) (hit : zio W2 (g + 1) l cells L) (hap : ∀ b, v.ownBlock = some b → b ∉ L) (hnd : L.Nodup) {b0 : Nat} (hb0 : g + 1 ≤ b0) (hL0 : ∀ k ∈ L, k < b0) (hv0 : ∀ b, v.ownBlock = some b → b < b0)
  (hTr : Tree W2 b0 x.f2 cs M) (hND : M.Nodup)
  (hr1 : Row w1 (g + 1) 62 11 v1 (l.length + 1) (cells ++ (([Value.int .i64 x.f0, Value.string x.f1] : List Value) ++ cs ++ [Value.int .i64 x.f3]))) (hg1 : W2.grownBy w1 v.ownBlock) (ho : v1.ownBlock = v.ownBlock ∨ v1.ownBlock = some (W2.heap.size + 1)) (hne : v1.ownBlock ≠ none) :
  PInv W g T c toks i (l ++ [x]) v1 (w1.setCell ⟨W.heap.size, 0, none⟩ v1) := by
 have hfar := h.far
 have hvW : ∀ b, v.ownBlock = some b → g + 1 ≤ b := fun b hb => (hrow.blk hb).1
 have far : ∀ k, k < W2.heap.size → v.ownBlock ≠ some k → w1.heap[k]? = W2.heap[k]? := fun k hk hn => hg1.block k hk (fun e => hn e.symm)
 have farg : ∀ k, k < W2.heap.size → k ≤ g → w1.heap[k]? = W2.heap[k]? := fun k hk hkg => far k hk fun e => by have := hvW k e; omega
 have hgl := h.st.lts.1
 have hTl := h.st.lts.2.1
 have hF1 : Fr W2 w1 (fun k => some k = v.ownBlock) := Fr.of_grown hg1 (fun k hk => hk.symm)
 have hP : Pol w1 (g + 1) (l ++ [x]) v1 := by
  refine ⟨_, L ++ M, by rw [List.length_append]; exact hr1, zio.snoc (hit.frame fun k hk => far k (hit.lt k hk).2 fun e => hap k e hk) (Tree.lower hb0 (hTr.frame fun k hk => far k (hTr.lt k hk).2 fun e => ?_)), ?_, ?_⟩
  ·have := hv0 k e
   have := (hTr.lt k hk).1
   omega
  ·rw [List.nodup_append]
   refine ⟨hnd, hND, fun a ha b hb e => ?_⟩
   have := hL0 a ha
   have := (hTr.lt b hb).1
   omega
  ·intro b hb hm
   rcases List.mem_append.1 hm with hm | hm
   ·rcases ho with ho | ho
    ·exact hap b (ho ▸ hb) hm
    ·have h1 := (hit.lt b hm).2
     rw [hb] at ho
     have := Option.some.inj ho
     omega
   ·rcases ho with ho | ho
    ·have := hv0 b (ho ▸ hb)
     have := (hTr.lt b hm).1
     omega
    ·have h1 := (hTr.lt b hm).2
     rw [hb] at ho
     have := Option.some.inj ho
     omega
 have hw : W.heap.size ≤ w1.heap.size := Nat.le_trans h.bel.size hg1.size
 refine ⟨(h.st.blk (farg g hgl (Nat.le_refl _)) (farg T hTl (by omega))).far (by show g ≠ W.heap.size; omega) (by show T ≠ W.heap.size; omega) _, (hF1.below (fun k hk => by have := hvW k hk.symm; omega) h.bel.size h.bel).setCell (p := ⟨W.heap.size, 0, none⟩) (Nat.le_refl _) _,
  zak ((farg _ (zat h.pol) (by omega)).trans h.pol) 0 v1 rfl, zar ((farg _ (zat h.err) (by omega)).trans h.err) (by show W.heap.size + 1 ≠ W.heap.size; omega) _, zar ((farg _ (zat h.num) (by omega)).trans h.num) (by show W.heap.size + 1 + 1 ≠ W.heap.size; omega) _,
  hP.frame fun k h1 h2 => Below.heap_setCell w1 _ _ k (by show k ≠ W.heap.size; omega), h.far, h.here, by simp; omega⟩
theorem PInv.facts (h : PInv W g T c toks i l v W1) : W1.cell? ⟨W.heap.size, 0, none⟩ = some v ∧ W1.cell? ⟨W.heap.size + 1, 0, none⟩ = some (.int .i64 0) ∧ W1.cell? ⟨W.heap.size + 1 + 1, 0, none⟩ = some (.int .i64 0) ∧ W1.frozen? ⟨W.heap.size, 0, none⟩ = false ∧ W1.frozen? ⟨W.heap.size + 1, 0, none⟩ = false ∧ W1.frozen? ⟨W.heap.size + 1 + 1, 0, none⟩ = false :=
 ⟨zae h.pol 0, zae h.err 0, zae h.num 0, zaf h.pol 0, zaf h.err 0, zaf h.num 0⟩
theorem zft {tmps : Array Value} {e p : Int} (h2 : tmps[2]? = some (.pointer (some ⟨W.heap.size, 0, none⟩))) (h3 : tmps[3]? = some (.pointer (some ⟨W.heap.size + 1, 0, none⟩))) (h4 : tmps[4]? = some (.pointer (some ⟨W.heap.size + 1 + 1, 0, none⟩)))
  (hb : Below W.heap.size W W1) (b1 : W1.heap[W.heap.size]? = some (.cells #[v] 36 (0, 0))) (b2 : W1.heap[W.heap.size + 1]? = some (.cells #[.int .i64 0] 37 (0, 0))) (b3 : W1.heap[W.heap.size + 1 + 1]? = some (.cells #[.int .i64 0] 3 (0, 0))) :
  Leaves Tryz.prog Tryz.f11 tmps (zhm W [] e p) [{ target := .fn (.func 27) #[.pointer (some ⟨W.heap.size, 0, none⟩), .pointer (some ⟨W.heap.size + 1, 0, none⟩), .pointer (some ⟨W.heap.size + 1 + 1, 0, none⟩)], args := #[] }] (.panicking [zfx e p]) W1 := by
 refine leaves_cons (f := 27) (args := #[.pointer (some ⟨W.heap.size, 0, none⟩), .pointer (some ⟨W.heap.size + 1, 0, none⟩), .pointer (some ⟨W.heap.size + 1 + 1, 0, none⟩)]) (by simp) (by simp [go_sem]) ?_
 refine (catch_panicking W.heap.size (W.heap.size + 1) (W.heap.size + 1 + 1) e p v 0 0 [] W1 b1 b2 b3 (by omega) (by omega) (by omega)).mono ?_
 rintro e' u' w' ⟨rfl, rfl, W2, hb2, rfl⟩
 have d1 := zaq b1 hb2
 have d2 := zaq b2 hb2
 have d3 := zaq b3 hb2
 have e1 : _ = some (Obj.cells #[.slice none 0 0] 36 (0, 0)) := zak d1 0 (.slice none 0 0) rfl
 have e2 := zar (p := ⟨W.heap.size, 0, none⟩) d2 (by show W.heap.size + 1 ≠ W.heap.size; omega) (.slice none 0 0)
 have e3 := zar (p := ⟨W.heap.size, 0, none⟩) d3 (by show W.heap.size + 1 + 1 ≠ W.heap.size; omega) (.slice none 0 0)
 have g1 := zar (p := ⟨W.heap.size + 1, 0, none⟩) e1 (by show W.heap.size ≠ W.heap.size + 1; omega) (.int .i64 e)
 have g2 : _ = some (Obj.cells #[.int .i64 e] 37 (0, 0)) := zak e2 0 (.int .i64 e) rfl
 have g3 := zar (p := ⟨W.heap.size + 1, 0, none⟩) e3 (by show W.heap.size + 1 + 1 ≠ W.heap.size + 1; omega) (.int .i64 e)
 have k1 := zar (p := ⟨W.heap.size + 1 + 1, 0, none⟩) g1 (by show W.heap.size ≠ W.heap.size + 1 + 1; omega) (.int .i64 p)
 have k2 := zar (p := ⟨W.heap.size + 1 + 1, 0, none⟩) g2 (by show W.heap.size + 1 ≠ W.heap.size + 1 + 1; omega) (.int .i64 p)
 have k3 : _ = some (Obj.cells #[.int .i64 p] 3 (0, 0)) := zak g3 0 (.int .i64 p) rfl
 have hB := ((((hb.trans (hb2.mono hb.size)).setCell (p := ⟨W.heap.size, 0, none⟩) (Nat.le_refl _) (.slice none 0 0)).setCell (p := ⟨W.heap.size + 1, 0, none⟩) (by show W.heap.size ≤ W.heap.size + 1; omega) (.int .i64 e)).setCell (p := ⟨W.heap.size + 1 + 1, 0, none⟩) (by show W.heap.size ≤ W.heap.size + 1 + 1; omega) (.int .i64 p))
 exact ⟨_, zfh h2 h3 h4 k1 k2 k3, _, rfl, Pol.nil _ _, hB⟩
theorem parse_returned {tmps : Array Value} {R : Ending → World → Prop} {x : Value} (h : ∃ x, (results Tryz.f11 tmps).run Tryz.prog W1 = .ok x W1 ∧ R (.returned x) W1) :
  Leaves Tryz.prog Tryz.f11 tmps R [{ target := .fn (.func 27) #[.pointer (some ⟨W.heap.size, 0, none⟩), .pointer (some ⟨W.heap.size + 1, 0, none⟩), .pointer (some ⟨W.heap.size + 1 + 1, 0, none⟩)], args := #[] }] .returning W1 := by
 refine leaves_cons (f := 27) (args := #[.pointer (some ⟨W.heap.size, 0, none⟩), .pointer (some ⟨W.heap.size + 1, 0, none⟩), .pointer (some ⟨W.heap.size + 1 + 1, 0, none⟩)]) (by simp) (by simp [go_sem]) ?_
 refine (catch_idle _ _ _ W1).mono ?_
 rintro e' u' w' ⟨rfl, rfl, rfl⟩
 exact h
theorem Pol.clip {b cap : Nat} {A : Option Addr} (h : Pol W b l (.slice A l.length cap)) : Pol W b l (.slice A l.length l.length) := by
 obtain ⟨cells, L, h1, h2, h3, h4⟩ := h
 exact ⟨cells, L, h1.clip, h2, h3, fun g hg => h4 g (by cases A with
  | none => simp [Value.ownBlock] at hg
  | some a => exact hg)⟩
theorem parse_over {tmps : Array Value} {cap : Nat} {A : Option Addr} (h : PInv W g T c toks i l (.slice A l.length cap) W1) (h2 : tmps[2]? = some (.pointer (some ⟨W.heap.size, 0, none⟩))) (h3 : tmps[3]? = some (.pointer (some ⟨W.heap.size + 1, 0, none⟩))) (h4 : tmps[4]? = some (.pointer (some ⟨W.heap.size + 1 + 1, 0, none⟩))) :
  Leaves Tryz.prog Tryz.f11 tmps (zhm W l 0 0) [{ target := .fn (.func 27) #[.pointer (some ⟨W.heap.size, 0, none⟩), .pointer (some ⟨W.heap.size + 1, 0, none⟩), .pointer (some ⟨W.heap.size + 1 + 1, 0, none⟩)], args := #[] }] .returning
   ((((W1.setCell ⟨W.heap.size, 0, none⟩ (.slice A l.length l.length)).setCell ⟨W.heap.size, 0, none⟩ (.slice A l.length l.length)).setCell ⟨W.heap.size + 1, 0, none⟩ (.int .i64 0)).setCell ⟨W.heap.size + 1 + 1, 0, none⟩ (.int .i64 0)) := by
 have hfar := h.far
 have e0 : _ = some (Obj.cells #[.slice A l.length l.length] 36 (0, 0)) := zak h.pol 0 (.slice A l.length l.length) rfl
 have e1 : _ = some (Obj.cells #[.slice A l.length l.length] 36 (0, 0)) := zak e0 0 (.slice A l.length l.length) rfl
 have e2 := zar (p := ⟨W.heap.size, 0, none⟩) (zar (p := ⟨W.heap.size, 0, none⟩) h.err (by show W.heap.size + 1 ≠ W.heap.size; omega) (.slice A l.length l.length)) (by show W.heap.size + 1 ≠ W.heap.size; omega) (.slice A l.length l.length)
 have e3 := zar (p := ⟨W.heap.size, 0, none⟩) (zar (p := ⟨W.heap.size, 0, none⟩) h.num (by show W.heap.size + 1 + 1 ≠ W.heap.size; omega) (.slice A l.length l.length)) (by show W.heap.size + 1 + 1 ≠ W.heap.size; omega) (.slice A l.length l.length)
 have g1 := zar (p := ⟨W.heap.size + 1, 0, none⟩) e1 (by show W.heap.size ≠ W.heap.size + 1; omega) (.int .i64 0)
 have g2 : _ = some (Obj.cells #[.int .i64 0] 37 (0, 0)) := zak e2 0 (.int .i64 0) rfl
 have g3 := zar (p := ⟨W.heap.size + 1, 0, none⟩) e3 (by show W.heap.size + 1 + 1 ≠ W.heap.size + 1; omega) (.int .i64 0)
 have k1 := zar (p := ⟨W.heap.size + 1 + 1, 0, none⟩) g1 (by show W.heap.size ≠ W.heap.size + 1 + 1; omega) (.int .i64 0)
 have k2 := zar (p := ⟨W.heap.size + 1 + 1, 0, none⟩) g2 (by show W.heap.size + 1 ≠ W.heap.size + 1 + 1; omega) (.int .i64 0)
 have k3 : _ = some (Obj.cells #[.int .i64 0] 3 (0, 0)) := zak g3 0 (.int .i64 0) rfl
 have hB := ((((h.bel.setCell (p := ⟨W.heap.size, 0, none⟩) (Nat.le_refl _) (.slice A l.length l.length)).setCell (p := ⟨W.heap.size, 0, none⟩) (Nat.le_refl _) (.slice A l.length l.length)).setCell (p := ⟨W.heap.size + 1, 0, none⟩) (by show W.heap.size ≤ W.heap.size + 1; omega) (.int .i64 0)).setCell (p := ⟨W.heap.size + 1 + 1, 0, none⟩) (by show W.heap.size ≤ W.heap.size + 1 + 1; omega) (.int .i64 0))
 refine parse_returned (x := .nilIface) ⟨_, zfh h2 h3 h4 k1 k2 k3, _, rfl, ?_, hB⟩
 refine Pol.lower (b := g + 1) (by omega) (h.row.clip.frame fun k h1 _ => ?_)
 rw [Below.heap_setCell _ _ _ k (by show k ≠ W.heap.size + 1 + 1; omega), Below.heap_setCell _ _ _ k (by show k ≠ W.heap.size + 1; omega), Below.heap_setCell _ _ _ k (by show k ≠ W.heap.size; omega), Below.heap_setCell _ _ _ k (by show k ≠ W.heap.size; omega)]
end
def zpq (Q : Exit → Act → World → Prop) : Exit → Act → World → Prop
 | .panic _, _, _ => False
 | e, a, w => Q e a w
theorem wp_noPanic {P : Program} {c : Code} {Q : Exit → Act → World → Prop} {a : Act} {w : World} (h : c.wp P (zpq Q) a w) : c.wp P Q a w :=
 wp_mono h fun e a w h => by
  cases e with
  | panic c => exact h.elim
  | _ => exact h
theorem noPanic_mk {Q : Exit → Act → World → Prop} {a : Act} {w : World} (h : Q .normal a w) : zpq Q .normal a w := h
theorem zfw {P : Program} {fn : Func} {t1 t2 : Array Value} {R : Ending → World → Prop} (hr : results fn t1 = results fn t2) : ∀ (ds : List Deferred) (u : FrameMode) (w : World), Leaves P fn t1 R ds u w → Leaves P fn t2 R ds u w
 | [], .returning, w, h => by unfold Leaves at h ⊢; rw [← hr]; exact h
 | [], .panicking c, w, h => h
 | [], .run, w, h => h
 | d :: ds, u, w, ⟨hu, fv, cap, f, args, ht, hi, hC⟩ => ⟨hu, fv, cap, f, args, ht, hi, hC.mono fun e u' w' h => by
  cases e with
  | returned x => exact zfw hr ds _ _ h
  | panicked c => exact zfw hr ds _ _ h
  | outgrown => exact h⟩
theorem parse_slots {t1 t2 : Array Value} (h2 : t1[2]? = t2[2]?) (h3 : t1[3]? = t2[3]?) (h4 : t1[4]? = t2[4]?) : results Tryz.f11 t1 = results Tryz.f11 t2 := by
 have hr : Tryz.f11.results = #[.cell 2 36, .cell 3 37, .cell 4 3] := rfl
 simp [results, hr, h2, h3, h4]
theorem zfs {a : Act} {o : Option Tmp} {v : Value} {R : Ending → World → Prop} {chain : List PanicEntry} {w : World} (ho : ∀ d : Nat, o = some d → 5 ≤ d) (h : bodyPostD Tryz.prog Tryz.f11 R (.panic chain) (a.put o v) w) : bodyPostD Tryz.prog Tryz.f11 R (.panic chain) a w := by
 cases o with
 | none => exact h
 | some d =>
  have hd : (5 : Nat) ≤ (d : Nat) := ho d rfl
  have e : ∀ j : Nat, j < 5 → (a.put (some d) v).tmps[j]? = a.tmps[j]? := fun j hj => by
   have hne : ¬ (d : Nat) = j := fun e => by rw [e] at hd; omega
   show (a.tmps.setIfInBounds d v)[j]? = a.tmps[j]?
   rw [Array.getElem?_setIfInBounds_ne hne]
  exact zfw (parse_slots (e 2 (by omega)) (e 3 (by omega)) (e 4 (by omega))) _ _ _ h
end
section
def ParseE (W : World) (r : PR (List S62)) : Ending → World → Prop := match r with
 | .ok l _ => zhm W l 0 0
 | .bad e p => zhm W [] e p
theorem item_many {toks : List Tok} {k n i : Nat} {x : S62} {j : Nat} (hn : n = 100) (h : zdx toks k n i = some (.ok x j)) : False := by
 unfold zdx at h
 split at h
 ·cases h
 ·rw [if_pos hn] at h
  cases h
theorem parse_items (s : ByteArray) (W : World) (hInv : Inv W) (hf : (zay s).2.1 = 0) (res : PR (List S62)) (hres : zlq ((zay s).1.map zed) = some res) :
  Calls Tryz.prog 11 #[.string s] W (ParseE W res) := by
 obtain ⟨rr, qq, hlast, hmany⟩ := zem s hf
 have hend := zjw hlast
 have hpos : 0 < (zay s).1.length := by rw [hlast]; simp
 obtain ⟨toks, htoks⟩ : ∃ toks, (zay s).1.map zed = toks := ⟨_, rfl⟩
 have hlen : toks.length = (zay s).1.length := by rw [← htoks, List.length_map]
 rw [htoks] at hres hend
 rw [← hlen] at hmany
 have hpos2 : 0 < toks.length := by rw [hlen]; exact hpos
 have hb0 := (((Below.refl W.heap.size W).alloc (Nat.le_refl _) (.cells #[.slice none 0 0] 36)).alloc (by simp) (.cells #[.int .i64 0] 37)).alloc (by simp; omega) (.cells #[.int .i64 0] 3)
 have HSC := Zq.mk (lex_Scan.calls 18000 s (zay s).1 0 (zay s).2.2 _ (Inv.below hInv hb0) (by rw [zfe s 18000 (Nat.le_refl _), ← hf]))
 have b1 := zad (zad (heap_alloc_new W (.cells #[.slice none 0 0] 36)) (.cells #[.int .i64 0] 37)) (.cells #[.int .i64 0] 3)
 have b2 := zad (heap_alloc_new (W.alloc (.cells #[.slice none 0 0] 36)) (.cells #[.int .i64 0] 37)) (.cells #[.int .i64 0] 3)
 have b3 := heap_alloc_new ((W.alloc (.cells #[.slice none 0 0] 36)).alloc (.cells #[.int .i64 0] 37)) (.cells #[.int .i64 0] 3)
 rw [World.size_alloc] at b2
 rw [World.size_alloc, World.size_alloc] at b3
 have HB0 := Zq.mk hb0
 have B1 := Zq.mk b1
 have B2 := Zq.mk b2
 have B3 := Zq.mk b3
 have HRES := Zq.mk hres
 have HEND := Zq.mk hend
 have HPOS := Zq.mk hpos
 have HTOKS := Zq.mk htoks
 have HF := Zq.mk hf
 clear hb0 b1 b2 b3 hInv hres hend hpos hlast hf htoks hlen
 have hmf : ∀ (fn : Fn) (first cap : Array Value) (w : World), (Instr.makeFunc fn first cap).run Tryz.prog w = .ok (.func fn first cap) w := fun _ _ _ _ => rfl
 have hf0 := zqp
 go_enter_defers Tryz.func11, Tryz.ntmps11
 go_wp2_with (go_at_call 16; refine HSC.out.mono ?_; rintro e1 w1 ⟨v0, rfl, hR, hb⟩; obtain ⟨T, c, hv, hTb, hTk⟩ := zoy hR HPOS.out; rw [HTOKS.out] at hv hTk; subst hv; rw [World.size_alloc, World.size_alloc, World.size_alloc] at hTb; have HI := Zq.mk (And.intro hTb (And.intro hTk (And.intro (zaq B1.out hb) (And.intro (zaq B2.out hb) (And.intro (zaq B3.out hb) (HB0.out.trans (hb.mono HB0.out.size))))))); clear hR hb hTb hTk)
 obtain ⟨hTb, ⟨cs0, hT1, hT2⟩, d1, d2, d3, hB⟩ := HI.out
 have HX0 := Zq.mk (PInv.mk (g := w1.heap.size) (i := 0) (l := []) (v := .slice none 0 0) ⟨heap_alloc_new w1 (.cells #[.slice (some ⟨T, 0, none⟩) toks.length c, .int .i64 0] 73), ⟨cs0, zad hT1 _, hT2⟩, hmany⟩ (hB.alloc hB.size _) (zad d1 _) (zad d2 _) (zad d3 _) (Pol.nil _ _) ⟨by omega, zat hT1⟩ hpos2 (by simp) : PInv W w1.heap.size T c toks 0 [] (.slice none 0 0) (w1.alloc (.cells #[.slice (some ⟨T, 0, none⟩) toks.length c, .int .i64 0] 73)))
 have HR0 := Zq.mk (show zcm toks (5 * toks.length + 4) (toks.length + 1) 0 [] = some res from HRES.out)
 clear HI hTb hT1 hT2 d1 d2 d3 hB HSC HB0 B1 B2 B3 HRES HPOS HTOKS HF
 go_loopg [24] (toks.length + 1) (fun k x wr => ∃ i' : Nat, ∃ l : List S62, ∃ v : Value, Zq (PInv W w1.heap.size T c toks i' l v wr) ∧ Zq (zcm toks (5 * toks.length + 4) k i' l = some res))
 case atStart => exact ⟨0, [], _, HX0, HR0⟩
 case round =>
  clear HX0 HR0 hpos2
  obtain ⟨i', l, v, HX, HR⟩ := hrel
  have hr := HR.out
  cases gk with
  | zero => exact absurd hr (by simp [zcm])
  | succ k =>
  unfold zcm at hr
  clear HR
  have hi' := HX.out.here
  have hmny := HX.out.many
  have HP1 := Zq.mk (fun W' h' => zca W' w1.heap.size T c toks i' _ (zbt toks hi') h')
  obtain ⟨cells, L, hrow, hit, hnd, hap⟩ := HX.out.row
  obtain ⟨A, cap, rfl, hcap, -⟩ := hrow.form
  clear hrow hit hnd hap
  have hbig : l.length ≤ 140737488355328 := by omega
  by_cases h8 : (tk toks i').kind = 8
  ·rw [if_pos h8] at hr
   have hr := Option.some.inj hr
   subst hr
   go_wp2_with (first
    | (go_at_call 28; refine (HP1.out _ HX.out.st).mono ?_; rintro e2 w2 ⟨rfl, hb⟩; have HX1 := Zq.mk (HX.out.move (HX.out.st.below hb) (Fr.of_below hb) hi'); obtain ⟨p1, p2, p3, z1, z2, z3⟩ := HX1.out.facts; clear hb HP1)
    | (go_at_call 30; refine (clip_item _ _ _ _ hcap hbig).mono ?_; rintro e3 w3 ⟨rfl, hw⟩; subst w3))
   exact parse_over HX1.out rfl rfl rfl
  ·rw [if_neg h8] at hr
   cases hit : zdx toks (5 * toks.length + 4) l.length i' with
   | none => rw [hit] at hr; cases hr
   | some r =>
   rw [hit] at hr
   have HIT := Zq.mk (fun W' h' => item_calls w1.heap.size T c toks HEND.out W' _ l.length i' r hi' hmny h' hit)
   have HITM := Zq.mk hit
   clear hit
   cases r with
   | bad ke pe =>
    have hr := Option.some.inj hr
    subst hr
    go_wp2_with (go_at_call 28; refine (HP1.out _ HX.out.st).mono ?_; rintro e2 w2 ⟨rfl, hb⟩; have HX1 := Zq.mk (HX.out.move (HX.out.st.below hb) (Fr.of_below hb) hi'); obtain ⟨p1, p2, p3, z1, z2, z3⟩ := HX1.out.facts; clear hb HP1)
    refine wp_region_any (by kernel_rfl) ?_
    change wpAny _ _ _ _ _ _ _ (World.drew _)
    refine wpAny_take (i := 0) (v := .pointer (some ⟨W.heap.size, 0, none⟩)) rfl (by kernel_rfl) (by kernel_rfl) (by kernel_rfl) (fun _ _ _ h => zfs (fun d hd => by cases hd; decide) h) (Or.inl ⟨by rfl, by intro w; go_simp⟩) ?_
    refine wpAny_take (i := 2) (v := .pointer (some ⟨w1.heap.size, 0, none⟩)) rfl (by kernel_rfl) (by kernel_rfl) (by kernel_rfl) (fun _ _ _ h => zfs (fun d hd => by cases hd; decide) h) (Or.inl ⟨by rfl, by intro w; go_simp⟩) ?_
    refine wpAny_take (i := 3) (v := .pointer (some ⟨W.heap.size, 0, none⟩)) rfl (by kernel_rfl) (by kernel_rfl) (by kernel_rfl) (fun _ _ _ h => zfs (fun d hd => by cases hd; decide) h) (Or.inl ⟨by rfl, by intro w; go_simp⟩) ?_
    refine wpAny_ready (rs := [1, 4]) (by kernel_rfl) (by simp) ?_
    refine AllReady.cons rfl (fun K hK => ?_) (AllReady.cons rfl (fun K hK => ?_) AllReady.nil)
    ·go_simp; refine hK _ _ ?_; clear hK K
     refine wpAny_ready (rs := [4]) (by kernel_rfl) (by simp) ?_
     refine AllReady.cons rfl (fun K hK => ?_) AllReady.nil
     go_simp; refine hK _ _ ?_; clear hK K
     refine wpAny_take (i := 5) (v := .int .i64 l.length) rfl (by kernel_rfl) (by kernel_rfl) (by kernel_rfl) (fun _ _ _ h => zfs (fun d hd => by cases hd; decide) h) (Or.inl ⟨by rfl, by intro w; go_simp⟩) ?_
     refine wpAny_ready (rs := [6]) (by kernel_rfl) (by simp) ?_
     refine AllReady.cons rfl (fun K hK => ?_) AllReady.nil
     go_simp; go_at_call 29; refine (HIT.out _ HX1.out.st.drew).mono ?_; rintro e3 w3 ⟨rfl, hF0⟩; have hF := hF0.undrew; exact zft rfl rfl rfl (hF.below (fun k hk => by have := HX1.out.far; omega) HX1.out.bel.size HX1.out.bel) (hF.blk HX1.out.pol (by have := HX1.out.far; omega)) (hF.blk HX1.out.err (by have := HX1.out.far; omega)) (hF.blk HX1.out.num (by have := HX1.out.far; omega))
    ·go_simp; refine hK _ _ ?_; clear hK K
     refine wpAny_take (i := 5) (v := .int .i64 l.length) rfl (by kernel_rfl) (by kernel_rfl) (by kernel_rfl) (fun _ _ _ h => zfs (fun d hd => by cases hd; decide) h) (Or.inl ⟨by rfl, by intro w; go_simp⟩) ?_
     refine wpAny_ready (rs := [1, 6]) (by kernel_rfl) (by simp) ?_
     refine AllReady.cons rfl (fun K hK => ?_) (AllReady.cons rfl (fun K hK => ?_) AllReady.nil)
     ·go_simp; refine hK _ _ ?_; clear hK K
      refine wpAny_ready (rs := [6]) (by kernel_rfl) (by simp) ?_
      refine AllReady.cons rfl (fun K hK => ?_) AllReady.nil
      go_simp; go_at_call 29; refine (HIT.out _ HX1.out.st.drew).mono ?_; rintro e3 w3 ⟨rfl, hF0⟩; have hF := hF0.undrew; exact zft rfl rfl rfl (hF.below (fun k hk => by have := HX1.out.far; omega) HX1.out.bel.size HX1.out.bel) (hF.blk HX1.out.pol (by have := HX1.out.far; omega)) (hF.blk HX1.out.err (by have := HX1.out.far; omega)) (hF.blk HX1.out.num (by have := HX1.out.far; omega))
     ·go_simp; go_at_call 29; refine (HIT.out _ HX1.out.st.drew).mono ?_; rintro e3 w3 ⟨rfl, hF0⟩; have hF := hF0.undrew; exact zft rfl rfl rfl (hF.below (fun k hk => by have := HX1.out.far; omega) HX1.out.bel.size HX1.out.bel) (hF.blk HX1.out.pol (by have := HX1.out.far; omega)) (hF.blk HX1.out.err (by have := HX1.out.far; omega)) (hF.blk HX1.out.num (by have := HX1.out.far; omega))
   | ok x j =>
    have HR := Zq.mk hr
    clear hr
    go_wp2_with (go_at_call 28; refine (HP1.out _ HX.out.st).mono ?_; rintro e2 w2 ⟨rfl, hb⟩; have HX1 := Zq.mk (HX.out.move (HX.out.st.below hb) (Fr.of_below hb) hi'); obtain ⟨p1, p2, p3, z1, z2, z3⟩ := HX1.out.facts; have HGW := Zq.mk (show w1.heap.size + 1 ≤ w2.heap.size from zat HX1.out.st.src); clear hb HP1)
    have hmny2 : l.length < 100 := by
     by_cases h : l.length = 100
     ·exact (item_many h HITM.out).elim
     ·omega
    refine wp_noPanic ?_
    go_region_law (first
     | (go_simp; go_at_call 29; refine (HIT.out _ (by first | exact HX1.out.st | exact HX1.out.st.drew)).mono ?_; rintro e3 w3 ⟨cs, M, rfl, hTr, hS, hF0, hj, hND⟩; have hF := hF0.undrew; obtain ⟨v3, v4, v5, v6, rfl, -, -, -, -, A3, n3, c3, A4, n4, c4, A5, n5, c5, A6, n6, c6, rfl, rfl, rfl, rfl⟩ := zbq hTr; have HX2 := Zq.mk (HX1.out.move hS hF hj); obtain ⟨k1, k2, k3, t1, t2, t3⟩ := HX2.out.facts; have ka := fun o => zae (zad HX2.out.pol o) 0; simp only [List.getElem?_toArray, List.getElem?_cons_zero] at ka; obtain ⟨cells, L, hrow1, hit1, hnd1, hap1⟩ := HX1.out.row; have HROW := Zq.mk (hrow1.fr hF fun g' hg' e => by have := (hrow1.blk hg').1; omega); have HITS := Zq.mk (hit1.frame fun k hk => hF.block k (hit1.lt k hk).2 (by have := (hit1.lt k hk).1; omega)); have HAP := Zq.mk (And.intro hap1 (And.intro hnd1 (And.intro (fun b hb => (hit1.lt b hb).2 : ∀ b ∈ L, b < w2.heap.size) (fun b hb => (hrow1.blk hb).2.1 : ∀ b, (Value.slice A l.length cap).ownBlock = some b → b < w2.heap.size)))); have HTr := Zq.mk (And.intro (show Tree w3 w2.heap.size x.f2 _ M from hTr) hND); have HSZ := Zq.mk (show w2.heap.size ≤ w3.heap.size from hF.size); clear hTr hS hF hF0 hj hND hrow1 hit1 hnd1 hap1)
     | (refine zeq (w1.heap.size + 1) (by rfl) (.tmp 29) (.tmp 35) 34 62 (.agg zov) 11 176 rfl rfl rfl rfl (by decide) (.slice A l.length cap) l.length cells [.int .i64 x.f0, .string x.f1, .int .i64 x.f2.f0, .string x.f2.f1, .string x.f2.f2, .slice A3 n3 c3, .slice A4 n4 c4, .slice A5 n5 c5, .slice A6 n6 c6, .int .i64 x.f2.f7, .int .i64 x.f3] rfl rfl rfl ?aU HROW.out ?aB ?aM ?aL ?_; (case aU => intro u hu; simp at hu; rcases hu with rfl | rfl | rfl | rfl | rfl | rfl | rfl | rfl | rfl | rfl | rfl <;> rfl); (case aB => have := HSZ.out; have := HGW.out; omega); (case aM => simp only [maxLen]; omega); (case aL => omega); intro v1 w4 hr1 hg1 ho1 hne1; have HX3 := Zq.mk (PInv.snoc HX2.out hmny2 HROW.out HITS.out HAP.out.1 HAP.out.2.1 HGW.out HAP.out.2.2.1 HAP.out.2.2.2 HTr.out.1 HTr.out.2 hr1 hg1 ho1 hne1); have hw4 := (hg1.block _ (zat HX2.out.pol) (fun e => by have := (HROW.out.blk e.symm).1; have := HX2.out.far; omega)).trans HX2.out.pol; have x1 := zae hw4 0; have x2 := zaf hw4 0; simp only [List.getElem?_toArray, List.getElem?_cons_zero] at x1; obtain ⟨A9, c9, rfl, -, -⟩ := hr1.form; clear hr1 hg1 ho1 hne1 hw4))
    all_goals refine noPanic_mk ?_
    all_goals (try go_wp2)
    all_goals
     go_roundg k
     case measure => omega
     case rel => exact ⟨j, l ++ [x], _, by first | exact HX3 | exact ⟨HX3.out.drew⟩, HR⟩
end
section
theorem zbw (s : ByteArray) (W : World) (hInv : Inv W) : Calls Tryz.prog 11 #[.string s] W (zhm W (zbh s).1 (zbh s).2.1 (zbh s).2.2) := by
 unfold zbh
 by_cases hf : (zay s).2.1 = 0
 ·rw [if_neg (fun h => h hf)]
  obtain ⟨r, q, hl, _⟩ := zem s hf
  obtain ⟨res, hres⟩ := zhc (zjw hl) (by rw [hl]; simp)
  have h := parse_items s W hInv hf res hres
  rw [hres]
  cases res <;> exact h
 ·rw [if_pos hf]
  exact parse_scan s W hInv hf
end
end Go.Proofs.YtjeekocidaogoaaGreatDoor.H
